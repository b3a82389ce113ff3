/- What the law ChangeStands reaches of this seat's own texts, merged; what nothing uses is left out. -/
import Derived.Test.YtfmnmjoofnbnfaaDoorZChangeStands0
import Derived.Test.YtfmnmjoofnbnfaaDoorZChangeStands1
import Derived.Test.YtfmnmjoofnbnfaaDoorZChangeStands2
import Derived.Test.YtfmnmjoofnbnfaaDoorZChangeStands4
import Derived.Test.YtfmnmjoofnbnfaaDoorZChangeStands11
import Derived.Test.YtfmnmjoofnbnfaaDoorZChangeStands12
section
namespace Go.Proofs.YtfmnmjoofnbnfaaDoor.U
open Go.RowKit Go.Proofs.YtfmnmjoofnbnfaaDoorW.PrintWords Go.Proofs.YtfmnmjoofnbnfaaDoorW.PrintLast Go.Proofs.YtfmnmjoofnbnfaaDoorW.PrintMore
attribute [local go_sem] max2_int min2_int max_two min_two max_three min_three max_four min_four   -- for this text's walks alone
set_option linter.unusedVariables false
set_option linter.unusedSimpArgs false
attribute [local go_sem high] eqA28 eqA30
mutual
noncomputable def bodkinlaw17_ChangeStands.j0 : Nat → ByteArray → ByteArray → Bool → Int → Int → Int → Int → Int → Int → ByteArray → Int → ByteArray → Bool → Option (Bool)
 | 0,_,_,_,_,_,_,_,_,_,_,_,_,_ => none
 | k + 1,x0,x7,x72,x265000,x265001,x265002,x265003,x278000,x278001,x278002,x278003,x278004,x278005 => if x72 = true then (some false) else (if 0 ≤ x278000 then (if x278000 ≤ (wrap64 (x278000 + x278001)) then (if (wrap64 (x278000 + x278001)) ≤ (x0.size : Int) then (if x265000 = 21 then (if x7.toList = x0.toList then (if (x278000 == 0 && (x278001 == 0 && (x278002.toList == ([] : List UInt8)))) = true then (if x278004.toList = ([] : List UInt8) then (some false) else (some (!x278005))) else (some false)) else (some false)) else (if x278004.toList = ([] : List UInt8) then (bodkinlaw17_ChangeStands.j1 k x0 x265000 false x278000 x278001 x278002 x278003 x278004 x278005) else (if x278004.toList = (x0.extract (x278000 : Int).toNat ((wrap64 (x278000 + x278001)) : Int).toNat).toList then (bodkinlaw17_ChangeStands.j1 k x0 x265000 (x278002.toList != ([] : List UInt8)) x278000 x278001 x278002 x278003 x278004 x278005) else (bodkinlaw17_ChangeStands.j1 k x0 x265000 true x278000 x278001 x278002 x278003 x278004 x278005)))) else (none)) else (none)) else (none))
noncomputable def bodkinlaw17_ChangeStands.j1 : Nat → ByteArray → Int → Bool → Int → Int → ByteArray → Int → ByteArray → Bool → Option (Bool)
 | 0,_,_,_,_,_,_,_,_,_ => none
 | k + 1,x0,x9,x122,x278000,x278001,x278002,x278003,x278004,x278005 => if x122 = true then (some false) else (if x9 ≥ 16 then (if ((decide (x9 ≤ 20)) == (x278004.toList != ([] : List UInt8))) = true then ((cluster_Boundary.f k x0 x278000).bind fun t283 => (if t283 = true then ((cluster_Boundary.f k x0 (wrap64 (x278000 + x278001))).bind fun t284 => (some t284)) else (some false))) else (some false)) else (if (false == (x278004.toList != ([] : List UInt8))) = true then ((cluster_Boundary.f k x0 x278000).bind fun t285 => (if t285 = true then ((cluster_Boundary.f k x0 (wrap64 (x278000 + x278001))).bind fun t286 => (some t286)) else (some false))) else (some false)))
end
noncomputable def bodkinlaw17_ChangeStands.f (k : Nat) (a0 : ByteArray) (a1_0 : Int) (a1_1 : Int) (a1_2 : Int) (a1_3 : Int) : Option (Bool) := (bodkinlaw17_awake.f k).bind fun t265 => (if t265 = true then ((bodkinlaw17_command.f a1_0 a1_1 a1_2 a1_3).bind fun bt266 => ((change_Of.f bt266.1 bt266.2.1 bt266.2.2.1 bt266.2.2.2 a0 a1_2 a1_3).bind fun bt270 => (if bt270.2.2.2.2.2.2 = 0 then ((change_Apply.f a0 bt270.1 bt270.2.1 bt270.2.2.1).bind fun bt279 => (if bt279.2 = 0 then ((bodkinlaw17_inside.f a0 bt270.1 bt270.2.1 bt270.2.2.1).bind fun t281 => (if t281 = true then (if bt270.2.2.2.1 < 0 then (bodkinlaw17_ChangeStands.j0 k a0 bt279.1 true a1_0 a1_1 a1_2 a1_3 bt270.1 bt270.2.1 bt270.2.2.1 bt270.2.2.2.1 bt270.2.2.2.2.1 bt270.2.2.2.2.2.1) else (if bt270.2.2.2.1 > (bt279.1.size : Int) then (bodkinlaw17_ChangeStands.j0 k a0 bt279.1 true a1_0 a1_1 a1_2 a1_3 bt270.1 bt270.2.1 bt270.2.2.1 bt270.2.2.2.1 bt270.2.2.2.2.1 bt270.2.2.2.2.2.1) else ((change_Does.f a1_0).bind fun t282 => (bodkinlaw17_ChangeStands.j0 k a0 bt279.1 (!t282) a1_0 a1_1 a1_2 a1_3 bt270.1 bt270.2.1 bt270.2.2.1 bt270.2.2.2.1 bt270.2.2.2.2.1 bt270.2.2.2.2.2.1)))) else (bodkinlaw17_ChangeStands.j0 k a0 bt279.1 true a1_0 a1_1 a1_2 a1_3 bt270.1 bt270.2.1 bt270.2.2.1 bt270.2.2.2.1 bt270.2.2.2.2.1 bt270.2.2.2.2.2.1))) else (bodkinlaw17_ChangeStands.j0 k a0 bt279.1 true a1_0 a1_1 a1_2 a1_3 bt270.1 bt270.2.1 bt270.2.2.1 bt270.2.2.2.1 bt270.2.2.2.2.1 bt270.2.2.2.2.2.1))) else (if ((bt270.1 == 0 && (bt270.2.1 == 0 && (bt270.2.2.1.toList == ([] : List UInt8)))) && (bt270.2.2.2.1 == 0 && (bt270.2.2.2.2.1.toList == ([] : List UInt8) && (!bt270.2.2.2.2.2.1)))) = true then ((change_Does.f a1_0).bind fun t278 => (some ((bt270.2.2.2.2.2.2 == 13) == (!t278)))) else (some false))))) else (some false))
def bodkinlaw17_ChangeStands.T3 : Bool × List (List Nat × List Nat) := (true,[([],[]),([0],[0]),([],[]),([],[]),([3],[3]),([],[]),([5],[5]),([1,2,4,6,1],[1,2,4,6]),([7],[7]),([8],[8]),([8],[8]),([],[]),([11,9,7,0,1,2,3,4,5,6,7,8,9,11],[9,11]),([10,12,0,1,2,3,4,5,6,7,8,9,10,11,12],[10])])
def bodkinlaw17_ChangeStands.B3 : List Nat := [0,1,0,0,8,0,32,127,255,511,511,0,3071,8191]
theorem bodkinlaw17_ChangeStands.tab3 : rtab .any (opsOf Tryd.f6 3) = bodkinlaw17_ChangeStands.T3 := by kernel_rfl
theorem bodkinlaw17_ChangeStands.bits3 : waitsOk bodkinlaw17_ChangeStands.T3.2 bodkinlaw17_ChangeStands.B3 = true := by kernel_rfl
set_option maxHeartbeats 8000000 in
set_option maxRecDepth 100000 in
theorem bodkinlaw17_ChangeStands.calls (k : Nat) (a0 : ByteArray) (a1_0 : Int) (a1_1 : Int) (a1_2 : Int) (a1_3 : Int) (r : Bool) (hr_ : r = true) (w : World) (hT : Lib.Utf8Tabs 1 2 w) (h : bodkinlaw17_ChangeStands.f k a0 a1_0 a1_1 a1_2 a1_3 = some r) :
  Calls Tryd.prog 6 #[.string a0,.agg #[.int .i64 a1_0,.int .i64 a1_1,.int .i64 a1_2,.int .i64 a1_3]] w fun e w' => e = .returned (.bool r) ∧ Below w.heap.size w w' := by
 have hu23 := Tryd.underlying23
 have hu30 := Tryd.underlying30
 have hu28 := Tryd.underlying28
 have HT := Aside0.mk hT
 clear hT
 have HB := Aside0.mk (Below.refl w.heap.size w)
 have H : ((bodkinlaw17_awake.f k).bind fun t265 => (if t265 = true then ((bodkinlaw17_command.f a1_0 a1_1 a1_2 a1_3).bind fun bt266 => ((change_Of.f bt266.1 bt266.2.1 bt266.2.2.1 bt266.2.2.2 a0 a1_2 a1_3).bind fun bt270 => (if bt270.2.2.2.2.2.2 = 0 then ((change_Apply.f a0 bt270.1 bt270.2.1 bt270.2.2.1).bind fun bt279 => (if bt279.2 = 0 then ((bodkinlaw17_inside.f a0 bt270.1 bt270.2.1 bt270.2.2.1).bind fun t281 => (if t281 = true then (if bt270.2.2.2.1 < 0 then (bodkinlaw17_ChangeStands.j0 k a0 bt279.1 true a1_0 a1_1 a1_2 a1_3 bt270.1 bt270.2.1 bt270.2.2.1 bt270.2.2.2.1 bt270.2.2.2.2.1 bt270.2.2.2.2.2.1) else (if bt270.2.2.2.1 > (bt279.1.size : Int) then (bodkinlaw17_ChangeStands.j0 k a0 bt279.1 true a1_0 a1_1 a1_2 a1_3 bt270.1 bt270.2.1 bt270.2.2.1 bt270.2.2.2.1 bt270.2.2.2.2.1 bt270.2.2.2.2.2.1) else ((change_Does.f a1_0).bind fun t282 => (bodkinlaw17_ChangeStands.j0 k a0 bt279.1 (!t282) a1_0 a1_1 a1_2 a1_3 bt270.1 bt270.2.1 bt270.2.2.1 bt270.2.2.2.1 bt270.2.2.2.2.1 bt270.2.2.2.2.2.1)))) else (bodkinlaw17_ChangeStands.j0 k a0 bt279.1 true a1_0 a1_1 a1_2 a1_3 bt270.1 bt270.2.1 bt270.2.2.1 bt270.2.2.2.1 bt270.2.2.2.2.1 bt270.2.2.2.2.2.1))) else (bodkinlaw17_ChangeStands.j0 k a0 bt279.1 true a1_0 a1_1 a1_2 a1_3 bt270.1 bt270.2.1 bt270.2.2.1 bt270.2.2.2.1 bt270.2.2.2.2.1 bt270.2.2.2.2.2.1))) else (if ((bt270.1 == 0 && (bt270.2.1 == 0 && (bt270.2.2.1.toList == ([] : List UInt8)))) && (bt270.2.2.2.1 == 0 && (bt270.2.2.2.2.1.toList == ([] : List UInt8) && (!bt270.2.2.2.2.2.1)))) = true then ((change_Does.f a1_0).bind fun t278 => (some ((bt270.2.2.2.2.2.2 == 13) == (!t278)))) else (some false))))) else (some false))) = some r := h
 clear h
 replace H := Option.bind_eq_some_iff.mp H
 obtain ⟨t265,A30,H⟩ := H
 replace H : (if t265 = true then ((bodkinlaw17_command.f a1_0 a1_1 a1_2 a1_3).bind fun bt266 => ((change_Of.f bt266.1 bt266.2.1 bt266.2.2.1 bt266.2.2.2 a0 a1_2 a1_3).bind fun bt270 => (if bt270.2.2.2.2.2.2 = 0 then ((change_Apply.f a0 bt270.1 bt270.2.1 bt270.2.2.1).bind fun bt279 => (if bt279.2 = 0 then ((bodkinlaw17_inside.f a0 bt270.1 bt270.2.1 bt270.2.2.1).bind fun t281 => (if t281 = true then (if bt270.2.2.2.1 < 0 then (bodkinlaw17_ChangeStands.j0 k a0 bt279.1 true a1_0 a1_1 a1_2 a1_3 bt270.1 bt270.2.1 bt270.2.2.1 bt270.2.2.2.1 bt270.2.2.2.2.1 bt270.2.2.2.2.2.1) else (if bt270.2.2.2.1 > (bt279.1.size : Int) then (bodkinlaw17_ChangeStands.j0 k a0 bt279.1 true a1_0 a1_1 a1_2 a1_3 bt270.1 bt270.2.1 bt270.2.2.1 bt270.2.2.2.1 bt270.2.2.2.2.1 bt270.2.2.2.2.2.1) else ((change_Does.f a1_0).bind fun t282 => (bodkinlaw17_ChangeStands.j0 k a0 bt279.1 (!t282) a1_0 a1_1 a1_2 a1_3 bt270.1 bt270.2.1 bt270.2.2.1 bt270.2.2.2.1 bt270.2.2.2.2.1 bt270.2.2.2.2.2.1)))) else (bodkinlaw17_ChangeStands.j0 k a0 bt279.1 true a1_0 a1_1 a1_2 a1_3 bt270.1 bt270.2.1 bt270.2.2.1 bt270.2.2.2.1 bt270.2.2.2.2.1 bt270.2.2.2.2.2.1))) else (bodkinlaw17_ChangeStands.j0 k a0 bt279.1 true a1_0 a1_1 a1_2 a1_3 bt270.1 bt270.2.1 bt270.2.2.1 bt270.2.2.2.1 bt270.2.2.2.2.1 bt270.2.2.2.2.2.1))) else (if ((bt270.1 == 0 && (bt270.2.1 == 0 && (bt270.2.2.1.toList == ([] : List UInt8)))) && (bt270.2.2.2.1 == 0 && (bt270.2.2.2.2.1.toList == ([] : List UInt8) && (!bt270.2.2.2.2.2.1)))) = true then ((change_Does.f a1_0).bind fun t278 => (some ((bt270.2.2.2.2.2.2 == 13) == (!t278)))) else (some false))))) else (some false)) = some r := H
 have A3 := Aside0.mk A30
 clear A30
 by_cases c4 : t265 = true
 ·subst c4
  have H1 : ((bodkinlaw17_command.f a1_0 a1_1 a1_2 a1_3).bind fun bt266 => ((change_Of.f bt266.1 bt266.2.1 bt266.2.2.1 bt266.2.2.2 a0 a1_2 a1_3).bind fun bt270 => (if bt270.2.2.2.2.2.2 = 0 then ((change_Apply.f a0 bt270.1 bt270.2.1 bt270.2.2.1).bind fun bt279 => (if bt279.2 = 0 then ((bodkinlaw17_inside.f a0 bt270.1 bt270.2.1 bt270.2.2.1).bind fun t281 => (if t281 = true then (if bt270.2.2.2.1 < 0 then (bodkinlaw17_ChangeStands.j0 k a0 bt279.1 true a1_0 a1_1 a1_2 a1_3 bt270.1 bt270.2.1 bt270.2.2.1 bt270.2.2.2.1 bt270.2.2.2.2.1 bt270.2.2.2.2.2.1) else (if bt270.2.2.2.1 > (bt279.1.size : Int) then (bodkinlaw17_ChangeStands.j0 k a0 bt279.1 true a1_0 a1_1 a1_2 a1_3 bt270.1 bt270.2.1 bt270.2.2.1 bt270.2.2.2.1 bt270.2.2.2.2.1 bt270.2.2.2.2.2.1) else ((change_Does.f a1_0).bind fun t282 => (bodkinlaw17_ChangeStands.j0 k a0 bt279.1 (!t282) a1_0 a1_1 a1_2 a1_3 bt270.1 bt270.2.1 bt270.2.2.1 bt270.2.2.2.1 bt270.2.2.2.2.1 bt270.2.2.2.2.2.1)))) else (bodkinlaw17_ChangeStands.j0 k a0 bt279.1 true a1_0 a1_1 a1_2 a1_3 bt270.1 bt270.2.1 bt270.2.2.1 bt270.2.2.2.1 bt270.2.2.2.2.1 bt270.2.2.2.2.2.1))) else (bodkinlaw17_ChangeStands.j0 k a0 bt279.1 true a1_0 a1_1 a1_2 a1_3 bt270.1 bt270.2.1 bt270.2.2.1 bt270.2.2.2.1 bt270.2.2.2.2.1 bt270.2.2.2.2.2.1))) else (if ((bt270.1 == 0 && (bt270.2.1 == 0 && (bt270.2.2.1.toList == ([] : List UInt8)))) && (bt270.2.2.2.1 == 0 && (bt270.2.2.2.2.1.toList == ([] : List UInt8) && (!bt270.2.2.2.2.2.1)))) = true then ((change_Does.f a1_0).bind fun t278 => (some ((bt270.2.2.2.2.2.2 == 13) == (!t278)))) else (some false))))) = some r := by rw [if_pos rfl] at H;exact H
  clear H
  have H := H1
  clear H1
  replace H := Option.bind_eq_some_iff.mp H
  obtain ⟨⟨t266,t267,t268,t269⟩,A50,H⟩ := H
  replace H : ((change_Of.f t266 t267 t268 t269 a0 a1_2 a1_3).bind fun bt270 => (if bt270.2.2.2.2.2.2 = 0 then ((change_Apply.f a0 bt270.1 bt270.2.1 bt270.2.2.1).bind fun bt279 => (if bt279.2 = 0 then ((bodkinlaw17_inside.f a0 bt270.1 bt270.2.1 bt270.2.2.1).bind fun t281 => (if t281 = true then (if bt270.2.2.2.1 < 0 then (bodkinlaw17_ChangeStands.j0 k a0 bt279.1 true a1_0 a1_1 a1_2 a1_3 bt270.1 bt270.2.1 bt270.2.2.1 bt270.2.2.2.1 bt270.2.2.2.2.1 bt270.2.2.2.2.2.1) else (if bt270.2.2.2.1 > (bt279.1.size : Int) then (bodkinlaw17_ChangeStands.j0 k a0 bt279.1 true a1_0 a1_1 a1_2 a1_3 bt270.1 bt270.2.1 bt270.2.2.1 bt270.2.2.2.1 bt270.2.2.2.2.1 bt270.2.2.2.2.2.1) else ((change_Does.f a1_0).bind fun t282 => (bodkinlaw17_ChangeStands.j0 k a0 bt279.1 (!t282) a1_0 a1_1 a1_2 a1_3 bt270.1 bt270.2.1 bt270.2.2.1 bt270.2.2.2.1 bt270.2.2.2.2.1 bt270.2.2.2.2.2.1)))) else (bodkinlaw17_ChangeStands.j0 k a0 bt279.1 true a1_0 a1_1 a1_2 a1_3 bt270.1 bt270.2.1 bt270.2.2.1 bt270.2.2.2.1 bt270.2.2.2.2.1 bt270.2.2.2.2.2.1))) else (bodkinlaw17_ChangeStands.j0 k a0 bt279.1 true a1_0 a1_1 a1_2 a1_3 bt270.1 bt270.2.1 bt270.2.2.1 bt270.2.2.2.1 bt270.2.2.2.2.1 bt270.2.2.2.2.2.1))) else (if ((bt270.1 == 0 && (bt270.2.1 == 0 && (bt270.2.2.1.toList == ([] : List UInt8)))) && (bt270.2.2.2.1 == 0 && (bt270.2.2.2.2.1.toList == ([] : List UInt8) && (!bt270.2.2.2.2.2.1)))) = true then ((change_Does.f a1_0).bind fun t278 => (some ((bt270.2.2.2.2.2.2 == 13) == (!t278)))) else (some false)))) = some r := H
  have A5 := Aside0.mk A50
  clear A50
  replace H := Option.bind_eq_some_iff.mp H
  obtain ⟨⟨t270,t271,t272,t273,t274,t275,t276⟩,A60,H⟩ := H
  replace H : (if t276 = 0 then ((change_Apply.f a0 t270 t271 t272).bind fun bt279 => (if bt279.2 = 0 then ((bodkinlaw17_inside.f a0 t270 t271 t272).bind fun t281 => (if t281 = true then (if t273 < 0 then (bodkinlaw17_ChangeStands.j0 k a0 bt279.1 true a1_0 a1_1 a1_2 a1_3 t270 t271 t272 t273 t274 t275) else (if t273 > (bt279.1.size : Int) then (bodkinlaw17_ChangeStands.j0 k a0 bt279.1 true a1_0 a1_1 a1_2 a1_3 t270 t271 t272 t273 t274 t275) else ((change_Does.f a1_0).bind fun t282 => (bodkinlaw17_ChangeStands.j0 k a0 bt279.1 (!t282) a1_0 a1_1 a1_2 a1_3 t270 t271 t272 t273 t274 t275)))) else (bodkinlaw17_ChangeStands.j0 k a0 bt279.1 true a1_0 a1_1 a1_2 a1_3 t270 t271 t272 t273 t274 t275))) else (bodkinlaw17_ChangeStands.j0 k a0 bt279.1 true a1_0 a1_1 a1_2 a1_3 t270 t271 t272 t273 t274 t275))) else (if ((t270 == 0 && (t271 == 0 && (t272.toList == ([] : List UInt8)))) && (t273 == 0 && (t274.toList == ([] : List UInt8) && (!t275)))) = true then ((change_Does.f a1_0).bind fun t278 => (some ((t276 == 13) == (!t278)))) else (some false))) = some r := H
  have A6 := Aside0.mk A60
  clear A60
  by_cases c7 : t276 = 0
  ·rw [if_pos c7] at H
   have c7b0 : (t276 == 0) = true := beq_iff_eq.mpr c7
   have c7b1 : (t276 != 0) = false := bne_eq_false_iff_eq.mpr c7
   clear c7
   replace H := Option.bind_eq_some_iff.mp H
   obtain ⟨⟨t279,t280⟩,A80,H⟩ := H
   replace H : (if t280 = 0 then ((bodkinlaw17_inside.f a0 t270 t271 t272).bind fun t281 => (if t281 = true then (if t273 < 0 then (bodkinlaw17_ChangeStands.j0 k a0 t279 true a1_0 a1_1 a1_2 a1_3 t270 t271 t272 t273 t274 t275) else (if t273 > (t279.size : Int) then (bodkinlaw17_ChangeStands.j0 k a0 t279 true a1_0 a1_1 a1_2 a1_3 t270 t271 t272 t273 t274 t275) else ((change_Does.f a1_0).bind fun t282 => (bodkinlaw17_ChangeStands.j0 k a0 t279 (!t282) a1_0 a1_1 a1_2 a1_3 t270 t271 t272 t273 t274 t275)))) else (bodkinlaw17_ChangeStands.j0 k a0 t279 true a1_0 a1_1 a1_2 a1_3 t270 t271 t272 t273 t274 t275))) else (bodkinlaw17_ChangeStands.j0 k a0 t279 true a1_0 a1_1 a1_2 a1_3 t270 t271 t272 t273 t274 t275)) = some r := H
   have A8 := Aside0.mk A80
   clear A80
   have HC9 := Aside0.mk H
   clear H
   go_enter Tryd.func6,Tryd.ntmps6
   try go_wp2_with (first | ((with_reducible refine gate_dst (N := 3) rfl ?_);(try (refine gate_guard (by rfl) ?_;dsimp only));refine box_event ?hg (N := 3) ?hd (cs := #[.int .i64 a1_0,.int .i64 a1_1,.int .i64 a1_2,.int .i64 a1_3]) (t := 23) ?hr ?_;(case hd => rfl);(case hg => rfl);(case hr => first | (go_simp;done) | (go_simp;rfl));intro gb264 hg w10 hbox hb;have n0_ := Aside0.mk (below_step au0 hb);have n1_ := Aside0.mk (hbox);have n2_ := Aside0.mk ((by rw [hg];exact (below_size au0) : w.heap.size ≤ gb264));have n3_ := Aside0.mk ((by rw [hg];exact (below_size au0) : w.heap.size ≤ gb264));clear HB;have HB := n0_;have BK264 := n1_;have GW264 := n2_;have GE264 := n3_;clear n0_ n1_ n2_ n3_;clear hb hbox hg) | ((with_reducible refine gate_callee (f := 8) rfl ?_);refine goesL_ (some 12) rfl rfl Tryd.func8 (by kernel_rfl) rfl #[] rfl au1 ?_;(with_reducible refine (bodkinlaw17_awake.calls k true rfl _ ?side1 A3.out).mono ?_);(case side1 => exact tabs_below HT.out au7);rintro e w11 ⟨rfl,hb⟩;refine ⟨_,rfl,?_⟩;have n0_ := Aside0.mk (blk_below (g := gb264) (o := .cells #[.int .i64 a1_0,.int .i64 a1_1,.int .i64 a1_2,.int .i64 a1_3] 23 (0,0)) au6 hb);have n1_ := Aside0.mk (below_step au7 hb);clear BK264;clear HB;have BK264 := n0_;have HB := n1_;clear n0_ n1_;(try clear hb);(try clear hb2);(try clear hk);(try clear hi)))
   have n0_ := Aside0.mk (blk_drew BK264.out)
   have n1_ := Aside0.mk (below_drew1 HB.out)
   clear BK264
   clear HB
   have BK264 := n0_
   have HB := n1_
   clear n0_ n1_
   refine start_ (n := 14) (S := fun w' => w'.cell? ⟨gb264,0,none⟩ = some (.int .i64 a1_0) ∧ w'.cell? ⟨gb264,1,none⟩ = some (.int .i64 a1_1) ∧ w'.cell? ⟨gb264,2,none⟩ = some (.int .i64 a1_2) ∧ w'.cell? ⟨gb264,3,none⟩ = some (.int .i64 a1_3)) (ds := []) #[false,false,false,false,false,false,false,false,false,false,false,false,false,false] (by kernel_rfl) rfl rfl ⟨(blk_cell BK264.out 0).trans rfl,(blk_cell BK264.out 1).trans rfl,(blk_cell BK264.out 2).trans rfl,(blk_cell BK264.out 3).trans rfl⟩ (fun hHeld => ?_);refine with_tabW bodkinlaw17_ChangeStands.tab3 bodkinlaw17_ChangeStands.bits3 (fun HT_ HW_ => ?_)
   generalize w11.drew = w12 at BK264 HB hHeld ⊢
   refine pure_ (i := 2) (N := some 17) (v := ?_) (a' := ?_) #[false,false,true,false,false,false,false,false,false,false,false,false,false,false] rfl rfl (any_of HT_.out (by kernel_rfl)) (fun _ _ _ h => h) (Or.inl ⟨by rfl,?_⟩) ?_ ?_
   rotate_left
   ·intro w'
    go_simp
    with_reducible rfl
   rotate_left
   ·simp only [Act.put,List.setIfInBounds_toArray,List.set_cons_zero,List.set_cons_succ,i64_w,i32_w]
    rfl
   refine pure_ (i := 3) (N := some 18) (v := ?_) (a' := ?_) #[false,false,true,true,false,false,false,false,false,false,false,false,false,false] rfl rfl (any_of HT_.out (by kernel_rfl)) (fun _ _ _ h => h) (Or.inl ⟨by rfl,?_⟩) ?_ ?_
   rotate_left
   ·intro w'
    go_simp
    with_reducible rfl
   rotate_left
   ·simp only [Act.put,List.setIfInBounds_toArray,List.set_cons_zero,List.set_cons_succ,i64_w,i32_w]
    rfl
   refine pure_ (i := 5) (N := some 20) (v := ?_) (a' := ?_) #[false,false,true,true,false,true,false,false,false,false,false,false,false,false] rfl rfl (any_of HT_.out (by kernel_rfl)) (fun _ _ _ h => h) (Or.inl ⟨by rfl,?_⟩) ?_ ?_
   rotate_left
   ·intro w'
    go_simp
    with_reducible rfl
   rotate_left
   ·simp only [Act.put,List.setIfInBounds_toArray,List.set_cons_zero,List.set_cons_succ,i64_w,i32_w]
    rfl
   refine take_ (i := 0) (N := some 15) (v := ?_) (a' := ?_) #[true,false,true,true,false,true,false,false,false,false,false,false,false,false] rfl rfl (take_ofW HT_.out HW_.out (by kernel_rfl)) (fun _ _ _ h => h) (Or.inl ⟨by rfl,?_⟩) hHeld ?_ ?_
   rotate_left
   ·rintro w' ⟨s0,s1,s2,s3⟩
    go_simp
    with_reducible rfl
   rotate_left
   ·simp only [Act.put,List.setIfInBounds_toArray,List.set_cons_zero,List.set_cons_succ,i64_w,i32_w]
    rfl
   refine take_ (i := 4) (N := some 19) (v := ?_) (a' := ?_) #[true,false,true,true,true,true,false,false,false,false,false,false,false,false] rfl rfl (take_ofW HT_.out HW_.out (by kernel_rfl)) (fun _ _ _ h => h) (Or.inl ⟨by rfl,?_⟩) hHeld ?_ ?_
   rotate_left
   ·rintro w' ⟨s0,s1,s2,s3⟩
    go_simp
    with_reducible rfl
   rotate_left
   ·simp only [Act.put,List.setIfInBounds_toArray,List.set_cons_zero,List.set_cons_succ,i64_w,i32_w]
    rfl
   refine take_ (i := 6) (N := some 21) (v := ?_) (a' := ?_) #[true,false,true,true,true,true,true,false,false,false,false,false,false,false] rfl rfl (take_ofW HT_.out HW_.out (by kernel_rfl)) (fun _ _ _ h => h) (Or.inl ⟨by rfl,?_⟩) hHeld ?_ ?_
   rotate_left
   ·rintro w' ⟨s0,s1,s2,s3⟩
    go_simp
    with_reducible rfl
   rotate_left
   ·simp only [Act.put,List.setIfInBounds_toArray,List.set_cons_zero,List.set_cons_succ,i64_w,i32_w]
    rfl
   refine join_ (σ := Nat) 2 #[true,true,true,true,true,true,true,true,true,true,true,true,false,false] (fun s_ => [(16,.agg #[.int .i64 t266,.int .i64 t267,.string t268,.int .u8 t269]),(22,.tuple #[.agg #[.int .i64 t270,.int .i64 t271,.string t272,.int .i64 t273,.string t274,.bool t275],.int .i64 t276]),(5,.pointer (some ⟨s_,0,none⟩)),(14,.tuple #[.agg #[.int .i64 t270,.int .i64 t271,.string t272,.int .i64 t273,.string t274,.bool t275],.int .i64 t276]),(23,.agg #[.int .i64 t270,.int .i64 t271,.string t272,.int .i64 t273,.string t274,.bool t275]),(24,.int .i64 t276)]) (fun s_ w' => (w'.cell? ⟨gb264,0,none⟩ = some (.int .i64 a1_0) ∧ w'.cell? ⟨gb264,1,none⟩ = some (.int .i64 a1_1) ∧ w'.cell? ⟨gb264,2,none⟩ = some (.int .i64 a1_2) ∧ w'.cell? ⟨gb264,3,none⟩ = some (.int .i64 a1_3)) ∧ (w'.heap[gb264]? = some (.cells #[.int .i64 a1_0,.int .i64 a1_1,.int .i64 a1_2,.int .i64 a1_3] 23 (0,0))) ∧ (w'.heap[s_]? = some (.cells #[.int .i64 0,.int .i64 0,.string (⟨#[]⟩ : ByteArray),.int .i64 0,.string (⟨#[]⟩ : ByteArray),.bool false] 30 (0,0))) ∧ (w.heap.size ≤ s_) ∧ (w.heap.size ≤ s_) ∧ (gb264 ≠ s_) ∧ (s_ ≠ gb264) ∧ (Below w.heap.size w w')) ?_ ?_
   rotate_left
   ·intro hCont
    refine two_ (i := 1) (j := 11) (Ni := some 16) (Nj := some 5) #[true,true,true,true,true,true,true,false,false,false,false,false,false,false] #[true,false,true,true,true,true,true,false,false,false,false,true,false,false] rfl rfl rfl rfl (two_of HT_.out (by kernel_rfl)) (by decide) (by decide) (fun K hK => ?_) (fun K hK => ?_)
    ·skip
     refine goes_ Tryd.func15 (by kernel_rfl) rfl #[.agg #[.int .i64 a1_0,.int .i64 a1_1,.int .i64 a1_2,.int .i64 a1_3]] (by rfl) rfl rfl au1 ?_
     with_reducible refine (bodkinlaw17_command.calls a1_0 a1_1 a1_2 a1_3 t266 t267 t268 t269 _ A5.out).mono ?_
     rintro e w13 ⟨rfl,hb⟩
     refine ⟨_,rfl,?_⟩
     have n0_ := Aside0.mk (blk_below (g := gb264) (o := .cells #[.int .i64 a1_0,.int .i64 a1_1,.int .i64 a1_2,.int .i64 a1_3] 23 (0,0)) au6 hb)
     have n1_ := Aside0.mk (below_step au7 hb)
     clear BK264
     clear HB
     have BK264 := n0_
     have HB := n1_
     clear n0_ n1_
     (try clear hb)
     (try clear hb2)
     (try clear hk)
     (try clear hi)
     refine hK.out _ _ ⟨(blk_cell BK264.out 0).trans rfl,(blk_cell BK264.out 1).trans rfl,(blk_cell BK264.out 2).trans rfl,(blk_cell BK264.out 3).trans rfl⟩ (fun hHeld => ?_)
     clear hK K
     refine norm_ (a' := ?_) ?_ ?_
     rotate_left
     ·show Act.put _ (some 16) _ = _
      simp only [Act.put,List.setIfInBounds_toArray,List.set_cons_zero,List.set_cons_succ,i64_w,i32_w]
      rfl
     refine two_ (i := 7) (j := 11) (Ni := some 22) (Nj := some 5) #[true,true,true,true,true,true,true,true,false,false,false,false,false,false] #[true,true,true,true,true,true,true,false,false,false,false,true,false,false] rfl rfl rfl rfl (two_of HT_.out (by kernel_rfl)) (by decide) (by decide) (fun K hK => ?_) (fun K hK => ?_)
     ·skip
      refine goes_ Tryd.func9 (by kernel_rfl) rfl #[.agg #[.int .i64 t266,.int .i64 t267,.string t268,.int .u8 t269],.string a0,.int .i64 a1_2,.int .i64 a1_3] (by rfl) rfl rfl au1 ?_
      with_reducible refine (change_Of.calls t266 t267 t268 t269 a0 a1_2 a1_3 t270 t271 t272 t273 t274 t275 t276 _ ?side1 A6.out).mono ?_
      (case side1 => exact tabs_below HT.out au7)
      rintro e w14 ⟨rfl,hb⟩
      refine ⟨_,rfl,?_⟩
      have n0_ := Aside0.mk (blk_below (g := gb264) (o := .cells #[.int .i64 a1_0,.int .i64 a1_1,.int .i64 a1_2,.int .i64 a1_3] 23 (0,0)) au6 hb)
      have n1_ := Aside0.mk (below_step au7 hb)
      clear BK264
      clear HB
      have BK264 := n0_
      have HB := n1_
      clear n0_ n1_
      (try clear hb)
      (try clear hb2)
      (try clear hk)
      (try clear hi)
      refine hK.out _ _ ⟨(blk_cell BK264.out 0).trans rfl,(blk_cell BK264.out 1).trans rfl,(blk_cell BK264.out 2).trans rfl,(blk_cell BK264.out 3).trans rfl⟩ (fun hHeld => ?_)
      clear hK K
      refine norm_ (a' := ?_) ?_ ?_
      rotate_left
      ·show Act.put _ (some 22) _ = _
       simp only [Act.put,List.setIfInBounds_toArray,List.set_cons_zero,List.set_cons_succ,i64_w,i32_w]
       rfl
      refine pure_ (i := 8) (N := some 14) (v := ?_) (a' := ?_) #[true,true,true,true,true,true,true,true,true,false,false,false,false,false] rfl rfl (any_of HT_.out (by kernel_rfl)) (fun _ _ _ h => h) (Or.inl ⟨by rfl,?_⟩) ?_ ?_
      rotate_left
      ·intro w'
       go_simp
       with_reducible rfl
      rotate_left
      ·simp only [Act.put,List.setIfInBounds_toArray,List.set_cons_zero,List.set_cons_succ,i64_w,i32_w]
       rfl
      refine pure_ (i := 9) (N := some 23) (v := ?_) (a' := ?_) #[true,true,true,true,true,true,true,true,true,true,false,false,false,false] rfl rfl (any_of HT_.out (by kernel_rfl)) (fun _ _ _ h => h) (Or.inl ⟨by rfl,?_⟩) ?_ ?_
      rotate_left
      ·intro w'
       go_simp
       with_reducible rfl
      rotate_left
      ·simp only [Act.put,List.setIfInBounds_toArray,List.set_cons_zero,List.set_cons_succ,i64_w,i32_w]
       rfl
      refine pure_ (i := 10) (N := some 24) (v := ?_) (a' := ?_) #[true,true,true,true,true,true,true,true,true,true,true,false,false,false] rfl rfl (any_of HT_.out (by kernel_rfl)) (fun _ _ _ h => h) (Or.inl ⟨by rfl,?_⟩) ?_ ?_
      rotate_left
      ·intro w'
       go_simp
       with_reducible rfl
      rotate_left
      ·simp only [Act.put,List.setIfInBounds_toArray,List.set_cons_zero,List.set_cons_succ,i64_w,i32_w]
       rfl
      refine one_ (i := 11) (N := some 5) #[true,true,true,true,true,true,true,true,true,true,true,true,false,false] rfl rfl (one_of HT_.out (by kernel_rfl)) (by decide) (fun K hK => ?_)
      refine box_step ?hg (N := 5) ?hd (cs := #[.int .i64 0,.int .i64 0,.string (⟨#[]⟩ : ByteArray),.int .i64 0,.string (⟨#[]⟩ : ByteArray),.bool false]) (t := 30) ?hr ?_;(case hd => rfl);(case hg => rfl);(case hr => first | (go_simp;done) | (go_simp;rfl))
      intro gb277 hg w15 hbox hb
      have n0_ := Aside0.mk (blk_below (g := gb264) (o := .cells #[.int .i64 a1_0,.int .i64 a1_1,.int .i64 a1_2,.int .i64 a1_3] 23 (0,0)) au6 hb)
      have n1_ := Aside0.mk (below_step au7 hb)
      have n2_ := Aside0.mk (hbox)
      have n3_ := Aside0.mk ((by rw [hg];exact (below_size au7) : w.heap.size ≤ gb277))
      have n4_ := Aside0.mk ((by rw [hg];exact (below_size au7) : w.heap.size ≤ gb277))
      have n5_ := Aside0.mk ((by rw [hg];exact Nat.ne_of_lt (blk_lt (g := gb264) (o := .cells #[.int .i64 a1_0,.int .i64 a1_1,.int .i64 a1_2,.int .i64 a1_3] 23 (0,0)) au6) : gb264 ≠ gb277))
      have n6_ := Aside0.mk ((by rw [hg];exact Nat.ne_of_gt (blk_lt (g := gb264) (o := .cells #[.int .i64 a1_0,.int .i64 a1_1,.int .i64 a1_2,.int .i64 a1_3] 23 (0,0)) au6) : gb277 ≠ gb264))
      clear BK264
      clear HB
      have BK264 := n0_
      have HB := n1_
      have BK277 := n2_
      have GW277 := n3_
      have GE277 := n4_
      have NB264_277 := n5_
      have NB277_264 := n6_
      clear n0_ n1_ n2_ n3_ n4_ n5_ n6_
      clear hb hbox hg
      refine hK.out _ _ ⟨(blk_cell BK264.out 0).trans rfl,(blk_cell BK264.out 1).trans rfl,(blk_cell BK264.out 2).trans rfl,(blk_cell BK264.out 3).trans rfl⟩ (fun hHeld => ?_)
      clear hK K
      refine norm_ (a' := ?_) ?_ ?_
      rotate_left
      ·show Act.put _ (some 5) _ = _
       simp only [Act.put,List.setIfInBounds_toArray,List.set_cons_zero,List.set_cons_succ,i64_w,i32_w]
       rfl
      exact norm_ au21 (hCont (gb277) _ ⟨hHeld,au6,au14,GW277.out,GE277.out,NB264_277.out,NB277_264.out,au3⟩)
     ·skip
      refine box_step ?hg (N := 5) ?hd (cs := #[.int .i64 0,.int .i64 0,.string (⟨#[]⟩ : ByteArray),.int .i64 0,.string (⟨#[]⟩ : ByteArray),.bool false]) (t := 30) ?hr ?_;(case hd => rfl);(case hg => rfl);(case hr => first | (go_simp;done) | (go_simp;rfl))
      intro gb277 hg w14 hbox hb
      have n0_ := Aside0.mk (blk_below (g := gb264) (o := .cells #[.int .i64 a1_0,.int .i64 a1_1,.int .i64 a1_2,.int .i64 a1_3] 23 (0,0)) au6 hb)
      have n1_ := Aside0.mk (below_step au7 hb)
      have n2_ := Aside0.mk (hbox)
      have n3_ := Aside0.mk ((by rw [hg];exact (below_size au7) : w.heap.size ≤ gb277))
      have n4_ := Aside0.mk ((by rw [hg];exact (below_size au7) : w.heap.size ≤ gb277))
      have n5_ := Aside0.mk ((by rw [hg];exact Nat.ne_of_lt (blk_lt (g := gb264) (o := .cells #[.int .i64 a1_0,.int .i64 a1_1,.int .i64 a1_2,.int .i64 a1_3] 23 (0,0)) au6) : gb264 ≠ gb277))
      have n6_ := Aside0.mk ((by rw [hg];exact Nat.ne_of_gt (blk_lt (g := gb264) (o := .cells #[.int .i64 a1_0,.int .i64 a1_1,.int .i64 a1_2,.int .i64 a1_3] 23 (0,0)) au6) : gb277 ≠ gb264))
      clear BK264
      clear HB
      have BK264 := n0_
      have HB := n1_
      have BK277 := n2_
      have GW277 := n3_
      have GE277 := n4_
      have NB264_277 := n5_
      have NB277_264 := n6_
      clear n0_ n1_ n2_ n3_ n4_ n5_ n6_
      clear hb hbox hg
      refine hK.out _ _ ⟨(blk_cell BK264.out 0).trans rfl,(blk_cell BK264.out 1).trans rfl,(blk_cell BK264.out 2).trans rfl,(blk_cell BK264.out 3).trans rfl⟩ (fun hHeld => ?_)
      clear hK K
      refine norm_ (a' := ?_) ?_ ?_
      rotate_left
      ·show Act.put _ (some 5) _ = _
       simp only [Act.put,List.setIfInBounds_toArray,List.set_cons_zero,List.set_cons_succ,i64_w,i32_w]
       rfl
      refine one_ (i := 7) (N := some 22) #[true,true,true,true,true,true,true,true,false,false,false,true,false,false] rfl rfl (one_of HT_.out (by kernel_rfl)) (by decide) (fun K hK => ?_)
      refine goes_ Tryd.func9 (by kernel_rfl) rfl #[.agg #[.int .i64 t266,.int .i64 t267,.string t268,.int .u8 t269],.string a0,.int .i64 a1_2,.int .i64 a1_3] (by rfl) rfl rfl au1 ?_
      with_reducible refine (change_Of.calls t266 t267 t268 t269 a0 a1_2 a1_3 t270 t271 t272 t273 t274 t275 t276 _ ?side1 A6.out).mono ?_
      (case side1 => exact tabs_below HT.out au3)
      rintro e w15 ⟨rfl,hb⟩
      refine ⟨_,rfl,?_⟩
      have n0_ := Aside0.mk (blk_below (g := gb264) (o := .cells #[.int .i64 a1_0,.int .i64 a1_1,.int .i64 a1_2,.int .i64 a1_3] 23 (0,0)) au6 hb)
      have n1_ := Aside0.mk (blk_below (g := gb277) (o := .cells #[.int .i64 0,.int .i64 0,.string (⟨#[]⟩ : ByteArray),.int .i64 0,.string (⟨#[]⟩ : ByteArray),.bool false] 30 (0,0)) au14 hb)
      have n2_ := Aside0.mk (below_step au3 hb)
      clear BK264
      clear BK277
      clear HB
      have BK264 := n0_
      have BK277 := n1_
      have HB := n2_
      clear n0_ n1_ n2_
      (try clear hb)
      (try clear hb2)
      (try clear hk)
      (try clear hi)
      refine hK.out _ _ ⟨(blk_cell BK264.out 0).trans rfl,(blk_cell BK264.out 1).trans rfl,(blk_cell BK264.out 2).trans rfl,(blk_cell BK264.out 3).trans rfl⟩ (fun hHeld => ?_)
      clear hK K
      refine norm_ (a' := ?_) ?_ ?_
      rotate_left
      ·show Act.put _ (some 22) _ = _
       simp only [Act.put,List.setIfInBounds_toArray,List.set_cons_zero,List.set_cons_succ,i64_w,i32_w]
       rfl
      refine pure_ (i := 8) (N := some 14) (v := ?_) (a' := ?_) #[true,true,true,true,true,true,true,true,true,false,false,true,false,false] rfl rfl (any_of HT_.out (by kernel_rfl)) (fun _ _ _ h => h) (Or.inl ⟨by rfl,?_⟩) ?_ ?_
      rotate_left
      ·intro w'
       go_simp
       with_reducible rfl
      rotate_left
      ·simp only [Act.put,List.setIfInBounds_toArray,List.set_cons_zero,List.set_cons_succ,i64_w,i32_w]
       rfl
      refine pure_ (i := 9) (N := some 23) (v := ?_) (a' := ?_) #[true,true,true,true,true,true,true,true,true,true,false,true,false,false] rfl rfl (any_of HT_.out (by kernel_rfl)) (fun _ _ _ h => h) (Or.inl ⟨by rfl,?_⟩) ?_ ?_
      rotate_left
      ·intro w'
       go_simp
       with_reducible rfl
      rotate_left
      ·simp only [Act.put,List.setIfInBounds_toArray,List.set_cons_zero,List.set_cons_succ,i64_w,i32_w]
       rfl
      refine pure_ (i := 10) (N := some 24) (v := ?_) (a' := ?_) #[true,true,true,true,true,true,true,true,true,true,true,true,false,false] rfl rfl (any_of HT_.out (by kernel_rfl)) (fun _ _ _ h => h) (Or.inl ⟨by rfl,?_⟩) ?_ ?_
      rotate_left
      ·intro w'
       go_simp
       with_reducible rfl
      rotate_left
      ·simp only [Act.put,List.setIfInBounds_toArray,List.set_cons_zero,List.set_cons_succ,i64_w,i32_w]
       rfl
      exact norm_ au21 (hCont (gb277) _ ⟨hHeld,au6,au14,GW277.out,GE277.out,NB264_277.out,NB277_264.out,au3⟩)
    ·skip
     refine box_step ?hg (N := 5) ?hd (cs := #[.int .i64 0,.int .i64 0,.string (⟨#[]⟩ : ByteArray),.int .i64 0,.string (⟨#[]⟩ : ByteArray),.bool false]) (t := 30) ?hr ?_;(case hd => rfl);(case hg => rfl);(case hr => first | (go_simp;done) | (go_simp;rfl))
     intro gb277 hg w13 hbox hb
     have n0_ := Aside0.mk (blk_below (g := gb264) (o := .cells #[.int .i64 a1_0,.int .i64 a1_1,.int .i64 a1_2,.int .i64 a1_3] 23 (0,0)) au6 hb)
     have n1_ := Aside0.mk (below_step au7 hb)
     have n2_ := Aside0.mk (hbox)
     have n3_ := Aside0.mk ((by rw [hg];exact (below_size au7) : w.heap.size ≤ gb277))
     have n4_ := Aside0.mk ((by rw [hg];exact (below_size au7) : w.heap.size ≤ gb277))
     have n5_ := Aside0.mk ((by rw [hg];exact Nat.ne_of_lt (blk_lt (g := gb264) (o := .cells #[.int .i64 a1_0,.int .i64 a1_1,.int .i64 a1_2,.int .i64 a1_3] 23 (0,0)) au6) : gb264 ≠ gb277))
     have n6_ := Aside0.mk ((by rw [hg];exact Nat.ne_of_gt (blk_lt (g := gb264) (o := .cells #[.int .i64 a1_0,.int .i64 a1_1,.int .i64 a1_2,.int .i64 a1_3] 23 (0,0)) au6) : gb277 ≠ gb264))
     clear BK264
     clear HB
     have BK264 := n0_
     have HB := n1_
     have BK277 := n2_
     have GW277 := n3_
     have GE277 := n4_
     have NB264_277 := n5_
     have NB277_264 := n6_
     clear n0_ n1_ n2_ n3_ n4_ n5_ n6_
     clear hb hbox hg
     refine hK.out _ _ ⟨(blk_cell BK264.out 0).trans rfl,(blk_cell BK264.out 1).trans rfl,(blk_cell BK264.out 2).trans rfl,(blk_cell BK264.out 3).trans rfl⟩ (fun hHeld => ?_)
     clear hK K
     refine norm_ (a' := ?_) ?_ ?_
     rotate_left
     ·show Act.put _ (some 5) _ = _
      simp only [Act.put,List.setIfInBounds_toArray,List.set_cons_zero,List.set_cons_succ,i64_w,i32_w]
      rfl
     refine one_ (i := 1) (N := some 16) #[true,true,true,true,true,true,true,false,false,false,false,true,false,false] rfl rfl (one_of HT_.out (by kernel_rfl)) (by decide) (fun K hK => ?_)
     refine goes_ Tryd.func15 (by kernel_rfl) rfl #[.agg #[.int .i64 a1_0,.int .i64 a1_1,.int .i64 a1_2,.int .i64 a1_3]] (by rfl) rfl rfl au1 ?_
     with_reducible refine (bodkinlaw17_command.calls a1_0 a1_1 a1_2 a1_3 t266 t267 t268 t269 _ A5.out).mono ?_
     rintro e w14 ⟨rfl,hb⟩
     refine ⟨_,rfl,?_⟩
     have n0_ := Aside0.mk (blk_below (g := gb264) (o := .cells #[.int .i64 a1_0,.int .i64 a1_1,.int .i64 a1_2,.int .i64 a1_3] 23 (0,0)) au6 hb)
     have n1_ := Aside0.mk (blk_below (g := gb277) (o := .cells #[.int .i64 0,.int .i64 0,.string (⟨#[]⟩ : ByteArray),.int .i64 0,.string (⟨#[]⟩ : ByteArray),.bool false] 30 (0,0)) au14 hb)
     have n2_ := Aside0.mk (below_step au3 hb)
     clear BK264
     clear BK277
     clear HB
     have BK264 := n0_
     have BK277 := n1_
     have HB := n2_
     clear n0_ n1_ n2_
     (try clear hb)
     (try clear hb2)
     (try clear hk)
     (try clear hi)
     refine hK.out _ _ ⟨(blk_cell BK264.out 0).trans rfl,(blk_cell BK264.out 1).trans rfl,(blk_cell BK264.out 2).trans rfl,(blk_cell BK264.out 3).trans rfl⟩ (fun hHeld => ?_)
     clear hK K
     refine norm_ (a' := ?_) ?_ ?_
     rotate_left
     ·show Act.put _ (some 16) _ = _
      simp only [Act.put,List.setIfInBounds_toArray,List.set_cons_zero,List.set_cons_succ,i64_w,i32_w]
      rfl
     refine one_ (i := 7) (N := some 22) #[true,true,true,true,true,true,true,true,false,false,false,true,false,false] rfl rfl (one_of HT_.out (by kernel_rfl)) (by decide) (fun K hK => ?_)
     refine goes_ Tryd.func9 (by kernel_rfl) rfl #[.agg #[.int .i64 t266,.int .i64 t267,.string t268,.int .u8 t269],.string a0,.int .i64 a1_2,.int .i64 a1_3] (by rfl) rfl rfl au1 ?_
     with_reducible refine (change_Of.calls t266 t267 t268 t269 a0 a1_2 a1_3 t270 t271 t272 t273 t274 t275 t276 _ ?side1 A6.out).mono ?_
     (case side1 => exact tabs_below HT.out au3)
     rintro e w15 ⟨rfl,hb⟩
     refine ⟨_,rfl,?_⟩
     have n0_ := Aside0.mk (blk_below (g := gb264) (o := .cells #[.int .i64 a1_0,.int .i64 a1_1,.int .i64 a1_2,.int .i64 a1_3] 23 (0,0)) au6 hb)
     have n1_ := Aside0.mk (blk_below (g := gb277) (o := .cells #[.int .i64 0,.int .i64 0,.string (⟨#[]⟩ : ByteArray),.int .i64 0,.string (⟨#[]⟩ : ByteArray),.bool false] 30 (0,0)) au14 hb)
     have n2_ := Aside0.mk (below_step au3 hb)
     clear BK264
     clear BK277
     clear HB
     have BK264 := n0_
     have BK277 := n1_
     have HB := n2_
     clear n0_ n1_ n2_
     (try clear hb)
     (try clear hb2)
     (try clear hk)
     (try clear hi)
     refine hK.out _ _ ⟨(blk_cell BK264.out 0).trans rfl,(blk_cell BK264.out 1).trans rfl,(blk_cell BK264.out 2).trans rfl,(blk_cell BK264.out 3).trans rfl⟩ (fun hHeld => ?_)
     clear hK K
     refine norm_ (a' := ?_) ?_ ?_
     rotate_left
     ·show Act.put _ (some 22) _ = _
      simp only [Act.put,List.setIfInBounds_toArray,List.set_cons_zero,List.set_cons_succ,i64_w,i32_w]
      rfl
     refine pure_ (i := 8) (N := some 14) (v := ?_) (a' := ?_) #[true,true,true,true,true,true,true,true,true,false,false,true,false,false] rfl rfl (any_of HT_.out (by kernel_rfl)) (fun _ _ _ h => h) (Or.inl ⟨by rfl,?_⟩) ?_ ?_
     rotate_left
     ·intro w'
      go_simp
      with_reducible rfl
     rotate_left
     ·simp only [Act.put,List.setIfInBounds_toArray,List.set_cons_zero,List.set_cons_succ,i64_w,i32_w]
      rfl
     refine pure_ (i := 9) (N := some 23) (v := ?_) (a' := ?_) #[true,true,true,true,true,true,true,true,true,true,false,true,false,false] rfl rfl (any_of HT_.out (by kernel_rfl)) (fun _ _ _ h => h) (Or.inl ⟨by rfl,?_⟩) ?_ ?_
     rotate_left
     ·intro w'
      go_simp
      with_reducible rfl
     rotate_left
     ·simp only [Act.put,List.setIfInBounds_toArray,List.set_cons_zero,List.set_cons_succ,i64_w,i32_w]
      rfl
     refine pure_ (i := 10) (N := some 24) (v := ?_) (a' := ?_) #[true,true,true,true,true,true,true,true,true,true,true,true,false,false] rfl rfl (any_of HT_.out (by kernel_rfl)) (fun _ _ _ h => h) (Or.inl ⟨by rfl,?_⟩) ?_ ?_
     rotate_left
     ·intro w'
      go_simp
      with_reducible rfl
     rotate_left
     ·simp only [Act.put,List.setIfInBounds_toArray,List.set_cons_zero,List.set_cons_succ,i64_w,i32_w]
      rfl
     exact norm_ au21 (hCont (gb277) _ ⟨hHeld,au6,au14,GW277.out,GE277.out,NB264_277.out,NB277_264.out,au3⟩)
   rintro gb277 w16 ⟨hS_,h0_,h1_,h2_,h3_,h4_,h5_,h6_⟩
   have n0_ : Aside0 (w16.heap[gb264]? = some (.cells #[.int .i64 a1_0,.int .i64 a1_1,.int .i64 a1_2,.int .i64 a1_3] 23 (0,0))) := ⟨h0_⟩
   have n1_ : Aside0 (w16.heap[gb277]? = some (.cells #[.int .i64 0,.int .i64 0,.string (⟨#[]⟩ : ByteArray),.int .i64 0,.string (⟨#[]⟩ : ByteArray),.bool false] 30 (0,0))) := ⟨h1_⟩
   have n2_ : Aside0 (w.heap.size ≤ gb277) := ⟨h2_⟩
   have n3_ : Aside0 (w.heap.size ≤ gb277) := ⟨h3_⟩
   have n4_ : Aside0 (gb264 ≠ gb277) := ⟨h4_⟩
   have n5_ : Aside0 (gb277 ≠ gb264) := ⟨h5_⟩
   have n6_ : Aside0 (Below w.heap.size w w16) := ⟨h6_⟩
   clear BK264
   clear HB
   clear h0_ h1_ h2_ h3_ h4_ h5_ h6_
   have BK264 := n0_
   have BK277 := n1_
   have GW277 := n2_
   have GE277 := n3_
   have NB264_277 := n4_
   have NB277_264 := n5_
   have HB := n6_
   clear n0_ n1_ n2_ n3_ n4_ n5_ n6_
   have hHeld : w16.cell? ⟨gb264,0,none⟩ = some (.int .i64 a1_0) ∧ w16.cell? ⟨gb264,1,none⟩ = some (.int .i64 a1_1) ∧ w16.cell? ⟨gb264,2,none⟩ = some (.int .i64 a1_2) ∧ w16.cell? ⟨gb264,3,none⟩ = some (.int .i64 a1_3) := hS_
   refine norm_ (a' := ?_) ?_ ?_
   rotate_left
   ·simp only [putAll,Act.put,List.setIfInBounds_toArray,List.set_cons_zero,List.set_cons_succ]
    rfl
   refine one_ (i := 12) (N := none) #[true,true,true,true,true,true,true,true,true,true,true,true,true,false] rfl rfl (one_of HT_.out (by kernel_rfl)) (by decide) (fun K hK => ?_)
   have hs17 : w16.cell? ⟨gb277,0,none⟩ = some (.int .i64 0) := (blk_cell BK277.out 0).trans rfl
   have hfs17 := blk_frozen BK277.out 0
   have hns17_0 := NB264_277.out
   have hms17_0 := NB277_264.out
   have hs18 : w16.cell? ⟨gb277,1,none⟩ = some (.int .i64 0) := (blk_cell BK277.out 1).trans rfl
   have hfs18 := blk_frozen BK277.out 1
   have hns18_0 := NB264_277.out
   have hms18_0 := NB277_264.out
   have hs19 : w16.cell? ⟨gb277,2,none⟩ = some (.string (⟨#[]⟩ : ByteArray)) := (blk_cell BK277.out 2).trans rfl
   have hfs19 := blk_frozen BK277.out 2
   have hns19_0 := NB264_277.out
   have hms19_0 := NB277_264.out
   have hs20 : w16.cell? ⟨gb277,3,none⟩ = some (.int .i64 0) := (blk_cell BK277.out 3).trans rfl
   have hfs20 := blk_frozen BK277.out 3
   have hns20_0 := NB264_277.out
   have hms20_0 := NB277_264.out
   have hs21 : w16.cell? ⟨gb277,4,none⟩ = some (.string (⟨#[]⟩ : ByteArray)) := (blk_cell BK277.out 4).trans rfl
   have hfs21 := blk_frozen BK277.out 4
   have hns21_0 := NB264_277.out
   have hms21_0 := NB277_264.out
   have hs22 : w16.cell? ⟨gb277,5,none⟩ = some (.bool false) := (blk_cell BK277.out 5).trans rfl
   have hfs22 := blk_frozen BK277.out 5
   have hns22_0 := NB264_277.out
   have hms22_0 := NB277_264.out
   refine skip_ (w1 := ?_) (by rfl) rfl ?_ ?_
   rotate_left
   ·go_simp
    rfl
   refine hK.out _ _ ⟨((cell_far (p := ⟨gb277,_,none⟩) NB264_277.out _).trans (((cell_far (p := ⟨gb277,_,none⟩) NB264_277.out _).trans (((cell_far (p := ⟨gb277,_,none⟩) NB264_277.out _).trans (((cell_far (p := ⟨gb277,_,none⟩) NB264_277.out _).trans (((cell_far (p := ⟨gb277,_,none⟩) NB264_277.out _).trans (((cell_far (p := ⟨gb277,_,none⟩) NB264_277.out _).trans (hHeld.1)))))))))))),((cell_far (p := ⟨gb277,_,none⟩) NB264_277.out _).trans (((cell_far (p := ⟨gb277,_,none⟩) NB264_277.out _).trans (((cell_far (p := ⟨gb277,_,none⟩) NB264_277.out _).trans (((cell_far (p := ⟨gb277,_,none⟩) NB264_277.out _).trans (((cell_far (p := ⟨gb277,_,none⟩) NB264_277.out _).trans (((cell_far (p := ⟨gb277,_,none⟩) NB264_277.out _).trans (hHeld.2.1)))))))))))),((cell_far (p := ⟨gb277,_,none⟩) NB264_277.out _).trans (((cell_far (p := ⟨gb277,_,none⟩) NB264_277.out _).trans (((cell_far (p := ⟨gb277,_,none⟩) NB264_277.out _).trans (((cell_far (p := ⟨gb277,_,none⟩) NB264_277.out _).trans (((cell_far (p := ⟨gb277,_,none⟩) NB264_277.out _).trans (((cell_far (p := ⟨gb277,_,none⟩) NB264_277.out _).trans (hHeld.2.2.1)))))))))))),((cell_far (p := ⟨gb277,_,none⟩) NB264_277.out _).trans (((cell_far (p := ⟨gb277,_,none⟩) NB264_277.out _).trans (((cell_far (p := ⟨gb277,_,none⟩) NB264_277.out _).trans (((cell_far (p := ⟨gb277,_,none⟩) NB264_277.out _).trans (((cell_far (p := ⟨gb277,_,none⟩) NB264_277.out _).trans (((cell_far (p := ⟨gb277,_,none⟩) NB264_277.out _).trans (hHeld.2.2.2))))))))))))⟩ (fun hHeld => ?_)
   clear hK K
   refine pure_ (i := 13) (N := some 6) (v := ?_) (a' := ?_) #[true,true,true,true,true,true,true,true,true,true,true,true,true,true] rfl rfl (any_of HT_.out (by kernel_rfl)) (fun _ _ _ h => h) (Or.inl ⟨by rfl,?_⟩) ?_ ?_
   rotate_left
   ·intro w'
    go_simp
    with_reducible rfl
   rotate_left
   ·simp only [Act.put,List.setIfInBounds_toArray,List.set_cons_zero,List.set_cons_succ,i64_w,i32_w]
    rfl
   refine done_ (done_of HT_.out (by kernel_rfl)) ?_
   have hnb23 := NB277_264.out
   have hnc23 := NB264_277.out
   have hcz24_0 : w16.cell? ⟨gb277,0,none⟩ = some (.int .i64 0) := (blk_cell BK277.out 0).trans rfl
   have hcz24_1 : w16.cell? ⟨gb277,1,none⟩ = some (.int .i64 0) := (blk_cell BK277.out 1).trans rfl
   have hcz24_2 : w16.cell? ⟨gb277,2,none⟩ = some (.string (⟨#[]⟩ : ByteArray)) := (blk_cell BK277.out 2).trans rfl
   have hcz24_3 : w16.cell? ⟨gb277,3,none⟩ = some (.int .i64 0) := (blk_cell BK277.out 3).trans rfl
   have hcz24_4 : w16.cell? ⟨gb277,4,none⟩ = some (.string (⟨#[]⟩ : ByteArray)) := (blk_cell BK277.out 4).trans rfl
   have hcz24_5 : w16.cell? ⟨gb277,5,none⟩ = some (.bool false) := (blk_cell BK277.out 5).trans rfl
   have hfz24_0 := blk_frozen BK277.out 0
   have hfz24_1 := blk_frozen BK277.out 1
   have hfz24_2 := blk_frozen BK277.out 2
   have hfz24_3 := blk_frozen BK277.out 3
   have hfz24_4 := blk_frozen BK277.out 4
   have hfz24_5 := blk_frozen BK277.out 5
   go_upto_region 7 with (first | ((with_reducible refine gate_callee (f := 13) rfl ?_);refine goesL_ (some 43) rfl rfl Tryd.func13 (by kernel_rfl) rfl #[.string a0,.agg #[.int .i64 t270,.int .i64 t271,.string t272]] rfl au1 ?_;(with_reducible refine (change_Apply.calls a0 t270 t271 t272 t279 t280 _ A8.out).mono ?_);rintro e w25 ⟨rfl,hb⟩;refine ⟨_,rfl,?_⟩;have n0_ := Aside0.mk (blk_below (g := gb264) (o := .cells #[.int .i64 a1_0,.int .i64 a1_1,.int .i64 a1_2,.int .i64 a1_3] 23 (0,0)) au26 hb);have n1_ := Aside0.mk (blk_below (g := gb277) (o := .cells #[.int .i64 t270,.int .i64 t271,.string t272,.int .i64 t273,.string t274,.bool t275] 30 (0,0)) (by (with_reducible repeat (first | refine blk_drewN ?_ _ | refine blk_drew ?_ | refine blk_alloc ?_ _));refine blk_put (cs := #[.int .i64 t270,.int .i64 t271,.string t272,.int .i64 t273,.string t274,.bool false]) ?_ 5 _ rfl;(with_reducible repeat (first | refine blk_drewN ?_ _ | refine blk_drew ?_ | refine blk_alloc ?_ _));refine blk_put (cs := #[.int .i64 t270,.int .i64 t271,.string t272,.int .i64 t273,.string (⟨#[]⟩ : ByteArray),.bool false]) ?_ 4 _ rfl;(with_reducible repeat (first | refine blk_drewN ?_ _ | refine blk_drew ?_ | refine blk_alloc ?_ _));refine blk_put (cs := #[.int .i64 t270,.int .i64 t271,.string t272,.int .i64 0,.string (⟨#[]⟩ : ByteArray),.bool false]) ?_ 3 _ rfl;(with_reducible repeat (first | refine blk_drewN ?_ _ | refine blk_drew ?_ | refine blk_alloc ?_ _));refine blk_put (cs := #[.int .i64 t270,.int .i64 t271,.string (⟨#[]⟩ : ByteArray),.int .i64 0,.string (⟨#[]⟩ : ByteArray),.bool false]) ?_ 2 _ rfl;(with_reducible repeat (first | refine blk_drewN ?_ _ | refine blk_drew ?_ | refine blk_alloc ?_ _));refine blk_put (cs := #[.int .i64 t270,.int .i64 0,.string (⟨#[]⟩ : ByteArray),.int .i64 0,.string (⟨#[]⟩ : ByteArray),.bool false]) ?_ 1 _ rfl;(with_reducible repeat (first | refine blk_drewN ?_ _ | refine blk_drew ?_ | refine blk_alloc ?_ _));refine blk_put (cs := #[.int .i64 0,.int .i64 0,.string (⟨#[]⟩ : ByteArray),.int .i64 0,.string (⟨#[]⟩ : ByteArray),.bool false]) ?_ 0 _ rfl;(with_reducible repeat (first | refine blk_drewN ?_ _ | refine blk_drew ?_ | refine blk_alloc ?_ _));exact BK277.out) hb);have n2_ := Aside0.mk (below_step au3 hb);clear BK264;clear BK277;clear HB;have BK264 := n0_;have BK277 := n1_;have HB := n2_;clear n0_ n1_ n2_;(try clear hb);(try clear hb2);(try clear hk);(try clear hi)))
   (try simp only [Act.put,List.setIfInBounds_toArray,List.set_cons_zero,List.set_cons_succ])
   go_cut [72] (fun v72 wc => ∃ (kq : Nat) (x72_8 : Bool),v72 = .bool x72_8 ∧ Aside0 (bodkinlaw17_ChangeStands.j0 kq a0 t279 x72_8 a1_0 a1_1 a1_2 a1_3 t270 t271 t272 t273 t274 t275 = some r) ∧ Aside0 (kq ≤ k) ∧ Aside0 (wc.heap[gb264]? = some (.cells #[.int .i64 a1_0,.int .i64 a1_1,.int .i64 a1_2,.int .i64 a1_3] 23 (0,0))) ∧ Aside0 (wc.heap[gb277]? = some (.cells #[.int .i64 t270,.int .i64 t271,.string t272,.int .i64 t273,.string t274,.bool t275] 30 (0,0))) ∧ Aside0 (Below w.heap.size w wc))
   case first =>
    have H := HC9.out
    clear HC9
    by_cases c26 : t280 = 0
    ·rw [if_pos c26] at H
     have c26b0 : (t280 == 0) = true := beq_iff_eq.mpr c26
     have c26b1 : (t280 != 0) = false := bne_eq_false_iff_eq.mpr c26
     clear c26
     (first | rw [c26b0] | (simp only [i64_w,i32_w];rw [c26b0]) | skip)
     replace H := Option.bind_eq_some_iff.mp H
     obtain ⟨t281,A270,H⟩ := H
     replace H : (if t281 = true then (if t273 < 0 then (bodkinlaw17_ChangeStands.j0 k a0 t279 true a1_0 a1_1 a1_2 a1_3 t270 t271 t272 t273 t274 t275) else (if t273 > (t279.size : Int) then (bodkinlaw17_ChangeStands.j0 k a0 t279 true a1_0 a1_1 a1_2 a1_3 t270 t271 t272 t273 t274 t275) else ((change_Does.f a1_0).bind fun t282 => (bodkinlaw17_ChangeStands.j0 k a0 t279 (!t282) a1_0 a1_1 a1_2 a1_3 t270 t271 t272 t273 t274 t275)))) else (bodkinlaw17_ChangeStands.j0 k a0 t279 true a1_0 a1_1 a1_2 a1_3 t270 t271 t272 t273 t274 t275)) = some r := H
     have A27 := Aside0.mk A270
     clear A270
     by_cases c28 : t281 = true
     ·subst c28
      have H1 : (if t273 < 0 then (bodkinlaw17_ChangeStands.j0 k a0 t279 true a1_0 a1_1 a1_2 a1_3 t270 t271 t272 t273 t274 t275) else (if t273 > (t279.size : Int) then (bodkinlaw17_ChangeStands.j0 k a0 t279 true a1_0 a1_1 a1_2 a1_3 t270 t271 t272 t273 t274 t275) else ((change_Does.f a1_0).bind fun t282 => (bodkinlaw17_ChangeStands.j0 k a0 t279 (!t282) a1_0 a1_1 a1_2 a1_3 t270 t271 t272 t273 t274 t275)))) = some r := by rw [if_pos rfl] at H;exact H
      clear H
      have H := H1
      clear H1
      by_cases c29 : t273 < 0
      ·rw [if_pos c29] at H
       exfalso
       subst hr_
       cases k <;> simp [bodkinlaw17_ChangeStands.j0] at H
      ·rw [if_neg c29] at H
       have c29b0 : decide (t273 < 0) = false := decide_eq_false c29
       clear c29
       by_cases c34 : t273 > (t279.size : Int)
       ·rw [if_pos c34] at H
        exfalso
        subst hr_
        cases k <;> simp [bodkinlaw17_ChangeStands.j0] at H
       ·rw [if_neg c34] at H
        have c34b0 : decide ((t279.size : Int) < t273) = false := decide_eq_false c34
        clear c34
        replace H := Option.bind_eq_some_iff.mp H
        obtain ⟨t282,A390,H⟩ := H
        replace H : (bodkinlaw17_ChangeStands.j0 k a0 t279 (!t282) a1_0 a1_1 a1_2 a1_3 t270 t271 t272 t273 t274 t275) = some r := H
        have A39 := Aside0.mk A390
        clear A390
        have H' := Aside0.mk H
        clear H
        have hnb40 := NB277_264.out
        have hnc40 := NB264_277.out
        have hcz41_0 : w25.cell? ⟨gb277,0,none⟩ = some (.int .i64 t270) := (blk_cell BK277.out 0).trans rfl
        have hcz41_1 : w25.cell? ⟨gb277,1,none⟩ = some (.int .i64 t271) := (blk_cell BK277.out 1).trans rfl
        have hcz41_2 : w25.cell? ⟨gb277,2,none⟩ = some (.string t272) := (blk_cell BK277.out 2).trans rfl
        have hcz41_3 : w25.cell? ⟨gb277,3,none⟩ = some (.int .i64 t273) := (blk_cell BK277.out 3).trans rfl
        have hcz41_4 : w25.cell? ⟨gb277,4,none⟩ = some (.string t274) := (blk_cell BK277.out 4).trans rfl
        have hcz41_5 : w25.cell? ⟨gb277,5,none⟩ = some (.bool t275) := (blk_cell BK277.out 5).trans rfl
        have hfz41_0 := blk_frozen BK277.out 0
        have hfz41_1 := blk_frozen BK277.out 1
        have hfz41_2 := blk_frozen BK277.out 2
        have hfz41_3 := blk_frozen BK277.out 3
        have hfz41_4 := blk_frozen BK277.out 4
        have hfz41_5 := blk_frozen BK277.out 5
        go_wp2_with (first | (go_at_call 17;(with_reducible refine (bodkinlaw17_inside.calls a0 t270 t271 t272 true _ A27.out).mono ?_);rintro e w42 ⟨rfl,hb⟩;have n0_ := Aside0.mk (blk_below (g := gb264) (o := .cells #[.int .i64 a1_0,.int .i64 a1_1,.int .i64 a1_2,.int .i64 a1_3] 23 (0,0)) au6 hb);have n1_ := Aside0.mk (blk_below (g := gb277) (o := .cells #[.int .i64 t270,.int .i64 t271,.string t272,.int .i64 t273,.string t274,.bool t275] 30 (0,0)) au14 hb);have n2_ := Aside0.mk (below_step au3 hb);clear BK264;clear BK277;clear HB;have BK264 := n0_;have BK277 := n1_;have HB := n2_;clear n0_ n1_ n2_;(try clear hb);(try clear hb2);(try clear hk);(try clear hi);have hcz43_0 : w42.cell? ⟨gb277,0,none⟩ = some (.int .i64 t270) := (blk_cell BK277.out 0).trans rfl;have hcz43_1 : w42.cell? ⟨gb277,1,none⟩ = some (.int .i64 t271) := (blk_cell BK277.out 1).trans rfl;have hcz43_2 : w42.cell? ⟨gb277,2,none⟩ = some (.string t272) := (blk_cell BK277.out 2).trans rfl;have hcz43_3 : w42.cell? ⟨gb277,3,none⟩ = some (.int .i64 t273) := (blk_cell BK277.out 3).trans rfl;have hcz43_4 : w42.cell? ⟨gb277,4,none⟩ = some (.string t274) := (blk_cell BK277.out 4).trans rfl;have hcz43_5 : w42.cell? ⟨gb277,5,none⟩ = some (.bool t275) := (blk_cell BK277.out 5).trans rfl;have hfz43_0 := blk_frozen BK277.out 0;have hfz43_1 := blk_frozen BK277.out 1;have hfz43_2 := blk_frozen BK277.out 2;have hfz43_3 := blk_frozen BK277.out 3;have hfz43_4 := blk_frozen BK277.out 4;have hfz43_5 := blk_frozen BK277.out 5;have hcz44_0 : w42.cell? ⟨gb264,0,none⟩ = some (.int .i64 a1_0) := (blk_cell BK264.out 0).trans rfl;have hcz44_1 : w42.cell? ⟨gb264,1,none⟩ = some (.int .i64 a1_1) := (blk_cell BK264.out 1).trans rfl;have hcz44_2 : w42.cell? ⟨gb264,2,none⟩ = some (.int .i64 a1_2) := (blk_cell BK264.out 2).trans rfl;have hcz44_3 : w42.cell? ⟨gb264,3,none⟩ = some (.int .i64 a1_3) := (blk_cell BK264.out 3).trans rfl;have hfz44_0 := blk_frozen BK264.out 0;have hfz44_1 := blk_frozen BK264.out 1;have hfz44_2 := blk_frozen BK264.out 2;have hfz44_3 := blk_frozen BK264.out 3) | (go_at_call 16;(with_reducible refine (change_Does.calls a1_0 t282 _ A39.out).mono ?_);rintro e w45 ⟨rfl,hb⟩;have n0_ := Aside0.mk (blk_below (g := gb264) (o := .cells #[.int .i64 a1_0,.int .i64 a1_1,.int .i64 a1_2,.int .i64 a1_3] 23 (0,0)) au6 hb);have n1_ := Aside0.mk (blk_below (g := gb277) (o := .cells #[.int .i64 t270,.int .i64 t271,.string t272,.int .i64 t273,.string t274,.bool t275] 30 (0,0)) au14 hb);have n2_ := Aside0.mk (below_step au3 hb);clear BK264;clear BK277;clear HB;have BK264 := n0_;have BK277 := n1_;have HB := n2_;clear n0_ n1_ n2_;(try clear hb);(try clear hb2);(try clear hk);(try clear hi)))
        go_meet
        case rel => exact ⟨_,(!t282),au11,H',⟨by first | omega | exact Nat.le_refl _⟩,⟨by (with_reducible repeat (first | refine blk_drewN ?_ _ | refine blk_drew ?_ | refine blk_alloc ?_ _));exact BK264.out⟩,⟨by (with_reducible repeat (first | refine blk_drewN ?_ _ | refine blk_drew ?_ | refine blk_alloc ?_ _));exact BK277.out⟩,⟨by repeat (first | (with_reducible first | exact HB.out | apply below_alloc | apply pw_below_drewN | apply below_drew1 | refine below_set ?_ GE264.out | refine below_set ?_ GE277.out) | exact HB.out)⟩⟩
     ·replace c28 := Bool.eq_false_iff.mpr c28
      subst c28
      have H1 : (bodkinlaw17_ChangeStands.j0 k a0 t279 true a1_0 a1_1 a1_2 a1_3 t270 t271 t272 t273 t274 t275) = some r := by rw [if_neg (show ¬ (false = true) by decide)] at H;exact H
      clear H
      have H := H1
      clear H1
      exfalso
      subst hr_
      cases k <;> simp [bodkinlaw17_ChangeStands.j0] at H
    ·rw [if_neg c26] at H
     exfalso
     subst hr_
     cases k <;> simp [bodkinlaw17_ChangeStands.j0] at H
   case rest =>
    clear HC9
    try clear c1
    try clear c2
    try clear p2
    try clear c3
    try clear c4
    try clear c6
    try clear c7
    try clear c7b0
    try clear c7b1
    try clear c8
    try clear c9
    try clear c13
    try clear c15
    try clear c23
    try clear c26
    try clear c26b0
    try clear c26b1
    try clear c28
    try clear c29
    try clear c29b0
    try clear c30
    try clear c34
    try clear c34b0
    try clear c35
    try clear c40
    try clear c46
    try clear hcz24_0
    try clear hcz24_1
    try clear hcz24_2
    try clear hcz24_3
    try clear hcz24_4
    try clear hcz24_5
    try clear hcz31_0
    try clear hcz31_1
    try clear hcz31_2
    try clear hcz31_3
    try clear hcz31_4
    try clear hcz31_5
    try clear hcz33_0
    try clear hcz33_1
    try clear hcz33_2
    try clear hcz33_3
    try clear hcz33_4
    try clear hcz33_5
    try clear hcz36_0
    try clear hcz36_1
    try clear hcz36_2
    try clear hcz36_3
    try clear hcz36_4
    try clear hcz36_5
    try clear hcz38_0
    try clear hcz38_1
    try clear hcz38_2
    try clear hcz38_3
    try clear hcz38_4
    try clear hcz38_5
    try clear hcz41_0
    try clear hcz41_1
    try clear hcz41_2
    try clear hcz41_3
    try clear hcz41_4
    try clear hcz41_5
    try clear hcz43_0
    try clear hcz43_1
    try clear hcz43_2
    try clear hcz43_3
    try clear hcz43_4
    try clear hcz43_5
    try clear hcz44_0
    try clear hcz44_1
    try clear hcz44_2
    try clear hcz44_3
    try clear hcz47_0
    try clear hcz47_1
    try clear hcz47_2
    try clear hcz47_3
    try clear hcz47_4
    try clear hcz47_5
    try clear hfz24_0
    try clear hfz24_1
    try clear hfz24_2
    try clear hfz24_3
    try clear hfz24_4
    try clear hfz24_5
    try clear hfz31_0
    try clear hfz31_1
    try clear hfz31_2
    try clear hfz31_3
    try clear hfz31_4
    try clear hfz31_5
    try clear hfz33_0
    try clear hfz33_1
    try clear hfz33_2
    try clear hfz33_3
    try clear hfz33_4
    try clear hfz33_5
    try clear hfz36_0
    try clear hfz36_1
    try clear hfz36_2
    try clear hfz36_3
    try clear hfz36_4
    try clear hfz36_5
    try clear hfz38_0
    try clear hfz38_1
    try clear hfz38_2
    try clear hfz38_3
    try clear hfz38_4
    try clear hfz38_5
    try clear hfz41_0
    try clear hfz41_1
    try clear hfz41_2
    try clear hfz41_3
    try clear hfz41_4
    try clear hfz41_5
    try clear hfz43_0
    try clear hfz43_1
    try clear hfz43_2
    try clear hfz43_3
    try clear hfz43_4
    try clear hfz43_5
    try clear hfz44_0
    try clear hfz44_1
    try clear hfz44_2
    try clear hfz44_3
    try clear hfz47_0
    try clear hfz47_1
    try clear hfz47_2
    try clear hfz47_3
    try clear hfz47_4
    try clear hfz47_5
    obtain ⟨kq,x72_8,rfl,HA,HJ8,BK264,BK277,HB⟩ := hcut
    cases kq with
    | zero => exact absurd HA.out (by simp [bodkinlaw17_ChangeStands.j0])
    | succ kj8 =>
     have H := HA.out
     clear HA
     simp only [bodkinlaw17_ChangeStands.j0] at H
     by_cases c49 : x72_8 = true
     ·subst c49
      have H1 : (some false) = some r := by rw [if_pos rfl] at H;exact H
      clear H
      have H := H1
      clear H1
      obtain rfl := Option.some.inj H
      cases hr_
     ·replace c49 := Bool.eq_false_iff.mpr c49
      subst c49
      have H1 : (if 0 ≤ t270 then (if t270 ≤ (wrap64 (t270 + t271)) then (if (wrap64 (t270 + t271)) ≤ (a0.size : Int) then (if a1_0 = 21 then (if t279.toList = a0.toList then (if (t270 == 0 && (t271 == 0 && (t272.toList == ([] : List UInt8)))) = true then (if t274.toList = ([] : List UInt8) then (some false) else (some (!t275))) else (some false)) else (some false)) else (if t274.toList = ([] : List UInt8) then (bodkinlaw17_ChangeStands.j1 kj8 a0 a1_0 false t270 t271 t272 t273 t274 t275) else (if t274.toList = (a0.extract (t270 : Int).toNat ((wrap64 (t270 + t271)) : Int).toNat).toList then (bodkinlaw17_ChangeStands.j1 kj8 a0 a1_0 (t272.toList != ([] : List UInt8)) t270 t271 t272 t273 t274 t275) else (bodkinlaw17_ChangeStands.j1 kj8 a0 a1_0 true t270 t271 t272 t273 t274 t275)))) else (none)) else (none)) else (none)) = some r := by rw [if_neg (show ¬ (false = true) by decide)] at H;exact H
      clear H
      have H := H1
      clear H1
      by_cases c50 : 0 ≤ t270
      ·rw [if_pos c50] at H
       have c50b0 := eq_true c50
       have c50b1 : decide (0 ≤ t270) = true := decide_eq_true c50
       clear c50
       by_cases c51 : t270 ≤ (wrap64 (t270 + t271))
       ·rw [if_pos c51] at H
        have c51b0 := eq_true c51
        have c51b1 : decide (t270 ≤ (wrap64 (t270 + t271))) = true := decide_eq_true c51
        by_cases c52 : (wrap64 (t270 + t271)) ≤ (a0.size : Int)
        ·rw [if_pos c52] at H
         have c52b0 := eq_true c52
         have c52b1 : decide ((wrap64 (t270 + t271)) ≤ (a0.size : Int)) = true := decide_eq_true c52
         by_cases c53 : a1_0 = 21
         ·rw [if_pos c53] at H
          have c53b0 : (a1_0 == 21) = true := beq_iff_eq.mpr c53
          have c53b1 : (a1_0 != 21) = false := bne_eq_false_iff_eq.mpr c53
          clear c53
          by_cases c54 : t279.toList = a0.toList
          ·rw [if_pos c54] at H
           have c54b0 : (t279.toList == a0.toList) = true := beq_iff_eq.mpr c54
           have c54b1 : (t279.toList != a0.toList) = false := bne_eq_false_iff_eq.mpr c54
           clear c54
           by_cases c55 : (t270 == 0 && (t271 == 0 && (t272.toList == ([] : List UInt8)))) = true
           ·rw [if_pos c55] at H
            have c55b0 : (t270 == 0 && (t271 == 0 && (t272.toList == ([] : List UInt8)))) = true := c55
            have c55z := c55
            simp only [beq_self_eq_true,Bool.true_and,Bool.and_eq_true,beq_iff_eq] at c55z
            (try (have c55b1 : decide (t270 = 0 && (t271 == 0 && (t272.toList == ([] : List UInt8)))) = true := by simpa using c55))
            (try (have c55b2 : (t270 == 0 && (t271 == 0 && (t272.toList == ([] : List UInt8)))) = true := by simpa using c55))
            clear c55
            by_cases c56 : t274.toList = ([] : List UInt8)
            ·rw [if_pos c56] at H
             have c56b0 : (t274.toList == ([] : List UInt8)) = true := beq_iff_eq.mpr c56
             have c56b1 : (t274.toList != ([] : List UInt8)) = false := bne_eq_false_iff_eq.mpr c56
             clear c56
             obtain rfl := Option.some.inj H
             cases hr_
            ·rw [if_neg c56] at H
             have c56b0 : (t274.toList == ([] : List UInt8)) = false := beq_eq_false_iff_ne.mpr c56
             have c56b1 : (t274.toList != ([] : List UInt8)) = true := bne_iff_ne.mpr c56
             obtain rfl := Option.some.inj H
             have hnb60 := NB264_277.out
             have hnc60 := NB277_264.out
             have hcz61_0 : wc.cell? ⟨gb264,0,none⟩ = some (.int .i64 a1_0) := (blk_cell BK264.out 0).trans rfl
             have hcz61_1 : wc.cell? ⟨gb264,1,none⟩ = some (.int .i64 a1_1) := (blk_cell BK264.out 1).trans rfl
             have hcz61_2 : wc.cell? ⟨gb264,2,none⟩ = some (.int .i64 a1_2) := (blk_cell BK264.out 2).trans rfl
             have hcz61_3 : wc.cell? ⟨gb264,3,none⟩ = some (.int .i64 a1_3) := (blk_cell BK264.out 3).trans rfl
             have hfz61_0 := blk_frozen BK264.out 0
             have hfz61_1 := blk_frozen BK264.out 1
             have hfz61_2 := blk_frozen BK264.out 2
             have hfz61_3 := blk_frozen BK264.out 3
             have hcz62_0 : wc.cell? ⟨gb277,0,none⟩ = some (.int .i64 t270) := (blk_cell BK277.out 0).trans rfl
             have hcz62_1 : wc.cell? ⟨gb277,1,none⟩ = some (.int .i64 t271) := (blk_cell BK277.out 1).trans rfl
             have hcz62_2 : wc.cell? ⟨gb277,2,none⟩ = some (.string t272) := (blk_cell BK277.out 2).trans rfl
             have hcz62_3 : wc.cell? ⟨gb277,3,none⟩ = some (.int .i64 t273) := (blk_cell BK277.out 3).trans rfl
             have hcz62_4 : wc.cell? ⟨gb277,4,none⟩ = some (.string t274) := (blk_cell BK277.out 4).trans rfl
             have hcz62_5 : wc.cell? ⟨gb277,5,none⟩ = some (.bool t275) := (blk_cell BK277.out 5).trans rfl
             have hfz62_0 := blk_frozen BK277.out 0
             have hfz62_1 := blk_frozen BK277.out 1
             have hfz62_2 := blk_frozen BK277.out 2
             have hfz62_3 := blk_frozen BK277.out 3
             have hfz62_4 := blk_frozen BK277.out 4
             have hfz62_5 := blk_frozen BK277.out 5
             go_wp2
             go_ret
             exact ⟨au2,by repeat (first | (with_reducible first | exact HB.out | apply below_alloc | apply pw_below_drewN | apply below_drew1 | refine below_set ?_ GE264.out | refine below_set ?_ GE277.out) | exact HB.out)⟩
           ·rw [if_neg c55] at H
            have c55b0 : (t270 == 0 && (t271 == 0 && (t272.toList == ([] : List UInt8)))) = false := by simpa using c55
            (try (have c55b1 : decide (t270 = 0 && (t271 == 0 && (t272.toList == ([] : List UInt8)))) = false := by simpa using c55))
            (try (have c55b2 : (t270 == 0 && (t271 == 0 && (t272.toList == ([] : List UInt8)))) = false := by simpa using c55))
            (try (have c55b3 : ¬ (t270 = 0 && (t271 == 0 && (t272.toList == ([] : List UInt8)))) := by simpa using c55))
            clear c55
            obtain rfl := Option.some.inj H
            cases hr_
          ·rw [if_neg c54] at H
           have c54b0 : (t279.toList == a0.toList) = false := beq_eq_false_iff_ne.mpr c54
           have c54b1 : (t279.toList != a0.toList) = true := bne_iff_ne.mpr c54
           obtain rfl := Option.some.inj H
           cases hr_
         ·rw [if_neg c53] at H
          have c53b0 : (a1_0 == 21) = false := beq_eq_false_iff_ne.mpr c53
          have c53b1 : (a1_0 != 21) = true := bne_iff_ne.mpr c53
          have HC69 := Aside0.mk H
          clear H
          have hnb70 := NB264_277.out
          have hnc70 := NB277_264.out
          have hcz71_0 : wc.cell? ⟨gb264,0,none⟩ = some (.int .i64 a1_0) := (blk_cell BK264.out 0).trans rfl
          have hcz71_1 : wc.cell? ⟨gb264,1,none⟩ = some (.int .i64 a1_1) := (blk_cell BK264.out 1).trans rfl
          have hcz71_2 : wc.cell? ⟨gb264,2,none⟩ = some (.int .i64 a1_2) := (blk_cell BK264.out 2).trans rfl
          have hcz71_3 : wc.cell? ⟨gb264,3,none⟩ = some (.int .i64 a1_3) := (blk_cell BK264.out 3).trans rfl
          have hfz71_0 := blk_frozen BK264.out 0
          have hfz71_1 := blk_frozen BK264.out 1
          have hfz71_2 := blk_frozen BK264.out 2
          have hfz71_3 := blk_frozen BK264.out 3
          have hcz72_0 : wc.cell? ⟨gb277,0,none⟩ = some (.int .i64 t270) := (blk_cell BK277.out 0).trans rfl
          have hcz72_1 : wc.cell? ⟨gb277,1,none⟩ = some (.int .i64 t271) := (blk_cell BK277.out 1).trans rfl
          have hcz72_2 : wc.cell? ⟨gb277,2,none⟩ = some (.string t272) := (blk_cell BK277.out 2).trans rfl
          have hcz72_3 : wc.cell? ⟨gb277,3,none⟩ = some (.int .i64 t273) := (blk_cell BK277.out 3).trans rfl
          have hcz72_4 : wc.cell? ⟨gb277,4,none⟩ = some (.string t274) := (blk_cell BK277.out 4).trans rfl
          have hcz72_5 : wc.cell? ⟨gb277,5,none⟩ = some (.bool t275) := (blk_cell BK277.out 5).trans rfl
          have hfz72_0 := blk_frozen BK277.out 0
          have hfz72_1 := blk_frozen BK277.out 1
          have hfz72_2 := blk_frozen BK277.out 2
          have hfz72_3 := blk_frozen BK277.out 3
          have hfz72_4 := blk_frozen BK277.out 4
          have hfz72_5 := blk_frozen BK277.out 5
          go_upto_region 13 with (fail)
          go_cut [122] (fun v122 wc => ∃ (kq : Nat) (x122_68 : Bool),v122 = .bool x122_68 ∧ Aside0 (bodkinlaw17_ChangeStands.j1 kq a0 a1_0 x122_68 t270 t271 t272 t273 t274 t275 = some r) ∧ Aside0 (kq ≤ kj8) ∧ Aside0 (wc.heap[gb264]? = some (.cells #[.int .i64 a1_0,.int .i64 a1_1,.int .i64 a1_2,.int .i64 a1_3] 23 (0,0))) ∧ Aside0 (wc.heap[gb277]? = some (.cells #[.int .i64 t270,.int .i64 t271,.string t272,.int .i64 t273,.string t274,.bool t275] 30 (0,0))) ∧ Aside0 (Below w.heap.size w wc))
          case first =>
           have H := HC69.out
           clear HC69
           by_cases c73 : t274.toList = ([] : List UInt8)
           ·rw [if_pos c73] at H
            have c73b0 : (t274.toList == ([] : List UInt8)) = true := beq_iff_eq.mpr c73
            have c73b1 : (t274.toList != ([] : List UInt8)) = false := bne_eq_false_iff_eq.mpr c73
            clear c73
            (first | rw [c73b0] | (simp only [i64_w,i32_w];rw [c73b0]) | skip)
            have H' := Aside0.mk H
            clear H
            have hnb74 := NB277_264.out
            have hnc74 := NB264_277.out
            have hcz75_0 : wc.cell? ⟨gb277,0,none⟩ = some (.int .i64 t270) := (blk_cell BK277.out 0).trans rfl
            have hcz75_1 : wc.cell? ⟨gb277,1,none⟩ = some (.int .i64 t271) := (blk_cell BK277.out 1).trans rfl
            have hcz75_2 : wc.cell? ⟨gb277,2,none⟩ = some (.string t272) := (blk_cell BK277.out 2).trans rfl
            have hcz75_3 : wc.cell? ⟨gb277,3,none⟩ = some (.int .i64 t273) := (blk_cell BK277.out 3).trans rfl
            have hcz75_4 : wc.cell? ⟨gb277,4,none⟩ = some (.string t274) := (blk_cell BK277.out 4).trans rfl
            have hcz75_5 : wc.cell? ⟨gb277,5,none⟩ = some (.bool t275) := (blk_cell BK277.out 5).trans rfl
            have hfz75_0 := blk_frozen BK277.out 0
            have hfz75_1 := blk_frozen BK277.out 1
            have hfz75_2 := blk_frozen BK277.out 2
            have hfz75_3 := blk_frozen BK277.out 3
            have hfz75_4 := blk_frozen BK277.out 4
            have hfz75_5 := blk_frozen BK277.out 5
            go_wp2
            go_meet
            case rel => exact ⟨_,(false),au11,H',⟨by have := HJ8.out;first | omega | exact Nat.le_refl _⟩,⟨by (with_reducible repeat (first | refine blk_drewN ?_ _ | refine blk_drew ?_ | refine blk_alloc ?_ _));exact BK264.out⟩,⟨by (with_reducible repeat (first | refine blk_drewN ?_ _ | refine blk_drew ?_ | refine blk_alloc ?_ _));exact BK277.out⟩,⟨by repeat (first | (with_reducible first | exact HB.out | apply below_alloc | apply pw_below_drewN | apply below_drew1 | refine below_set ?_ GE264.out | refine below_set ?_ GE277.out) | exact HB.out)⟩⟩
           ·rw [if_neg c73] at H
            have c73b0 : (t274.toList == ([] : List UInt8)) = false := beq_eq_false_iff_ne.mpr c73
            have c73b1 : (t274.toList != ([] : List UInt8)) = true := bne_iff_ne.mpr c73
            (first | rw [c73b0] | (simp only [i64_w,i32_w];rw [c73b0]) | skip)
            by_cases c76 : t274.toList = (a0.extract (t270 : Int).toNat ((wrap64 (t270 + t271)) : Int).toNat).toList
            ·rw [if_pos c76] at H
             have c76b0 : (t274.toList == (a0.extract (t270 : Int).toNat ((wrap64 (t270 + t271)) : Int).toNat).toList) = true := beq_iff_eq.mpr c76
             have c76b1 : (t274.toList != (a0.extract (t270 : Int).toNat ((wrap64 (t270 + t271)) : Int).toNat).toList) = false := bne_eq_false_iff_eq.mpr c76
             clear c76
             have H' := Aside0.mk H
             clear H
             have hnb77 := NB277_264.out
             have hnc77 := NB264_277.out
             have hcz78_0 : wc.cell? ⟨gb277,0,none⟩ = some (.int .i64 t270) := (blk_cell BK277.out 0).trans rfl
             have hcz78_1 : wc.cell? ⟨gb277,1,none⟩ = some (.int .i64 t271) := (blk_cell BK277.out 1).trans rfl
             have hcz78_2 : wc.cell? ⟨gb277,2,none⟩ = some (.string t272) := (blk_cell BK277.out 2).trans rfl
             have hcz78_3 : wc.cell? ⟨gb277,3,none⟩ = some (.int .i64 t273) := (blk_cell BK277.out 3).trans rfl
             have hcz78_4 : wc.cell? ⟨gb277,4,none⟩ = some (.string t274) := (blk_cell BK277.out 4).trans rfl
             have hcz78_5 : wc.cell? ⟨gb277,5,none⟩ = some (.bool t275) := (blk_cell BK277.out 5).trans rfl
             have hfz78_0 := blk_frozen BK277.out 0
             have hfz78_1 := blk_frozen BK277.out 1
             have hfz78_2 := blk_frozen BK277.out 2
             have hfz78_3 := blk_frozen BK277.out 3
             have hfz78_4 := blk_frozen BK277.out 4
             have hfz78_5 := blk_frozen BK277.out 5
             go_wp2
             go_meet
             case rel => exact ⟨_,((t272.toList != ([] : List UInt8))),(by first | rfl | (simp;done) | (simp [bne];done) | (simp [*];done)),H',⟨by have := HJ8.out;first | omega | exact Nat.le_refl _⟩,⟨by (with_reducible repeat (first | refine blk_drewN ?_ _ | refine blk_drew ?_ | refine blk_alloc ?_ _));exact BK264.out⟩,⟨by (with_reducible repeat (first | refine blk_drewN ?_ _ | refine blk_drew ?_ | refine blk_alloc ?_ _));exact BK277.out⟩,⟨by repeat (first | (with_reducible first | exact HB.out | apply below_alloc | apply pw_below_drewN | apply below_drew1 | refine below_set ?_ GE264.out | refine below_set ?_ GE277.out) | exact HB.out)⟩⟩
            ·rw [if_neg c76] at H
             exfalso
             subst hr_
             cases kj8 <;> simp [bodkinlaw17_ChangeStands.j1] at H
          case rest =>
           clear HC69
           try clear c1
           try clear c2
           try clear p2
           try clear c3
           try clear c4
           try clear c5
           try clear c6
           try clear p6
           try clear c7
           try clear c7b0
           try clear c7b1
           try clear c8
           try clear c9
           try clear c13
           try clear c15
           try clear c23
           try clear c26
           try clear c26b0
           try clear c26b1
           try clear c28
           try clear c29
           try clear c29b0
           try clear c30
           try clear c34
           try clear c34b0
           try clear c35
           try clear c40
           try clear c46
           try clear c49
           try clear c50
           try clear c50b0
           try clear c50b1
           try clear c51
           try clear c51b0
           try clear c51b1
           try clear c52
           try clear c52b0
           try clear c52b1
           try clear c53
           try clear c53b0
           try clear c53b1
           try clear c54
           try clear c54b0
           try clear c54b1
           try clear c55
           try clear c55b0
           try clear c55b1
           try clear c55b2
           try clear c56
           try clear c56b0
           try clear c56b1
           try clear c57
           try clear c60
           try clear c63
           try clear p64
           try clear c66
           try clear c70
           try clear c73
           try clear c73b0
           try clear c73b1
           try clear c74
           try clear c76
           try clear c76b0
           try clear c76b1
           try clear c77
           try clear c79
           try clear hcz24_0
           try clear hcz24_1
           try clear hcz24_2
           try clear hcz24_3
           try clear hcz24_4
           try clear hcz24_5
           try clear hcz31_0
           try clear hcz31_1
           try clear hcz31_2
           try clear hcz31_3
           try clear hcz31_4
           try clear hcz31_5
           try clear hcz33_0
           try clear hcz33_1
           try clear hcz33_2
           try clear hcz33_3
           try clear hcz33_4
           try clear hcz33_5
           try clear hcz36_0
           try clear hcz36_1
           try clear hcz36_2
           try clear hcz36_3
           try clear hcz36_4
           try clear hcz36_5
           try clear hcz38_0
           try clear hcz38_1
           try clear hcz38_2
           try clear hcz38_3
           try clear hcz38_4
           try clear hcz38_5
           try clear hcz41_0
           try clear hcz41_1
           try clear hcz41_2
           try clear hcz41_3
           try clear hcz41_4
           try clear hcz41_5
           try clear hcz43_0
           try clear hcz43_1
           try clear hcz43_2
           try clear hcz43_3
           try clear hcz43_4
           try clear hcz43_5
           try clear hcz44_0
           try clear hcz44_1
           try clear hcz44_2
           try clear hcz44_3
           try clear hcz47_0
           try clear hcz47_1
           try clear hcz47_2
           try clear hcz47_3
           try clear hcz47_4
           try clear hcz47_5
           try clear hcz58_0
           try clear hcz58_1
           try clear hcz58_2
           try clear hcz58_3
           try clear hcz59_0
           try clear hcz59_1
           try clear hcz59_2
           try clear hcz59_3
           try clear hcz59_4
           try clear hcz59_5
           try clear hcz61_0
           try clear hcz61_1
           try clear hcz61_2
           try clear hcz61_3
           try clear hcz62_0
           try clear hcz62_1
           try clear hcz62_2
           try clear hcz62_3
           try clear hcz62_4
           try clear hcz62_5
           try clear hcz64_0
           try clear hcz64_1
           try clear hcz64_2
           try clear hcz64_3
           try clear hcz65_0
           try clear hcz65_1
           try clear hcz65_2
           try clear hcz65_3
           try clear hcz65_4
           try clear hcz65_5
           try clear hcz67_0
           try clear hcz67_1
           try clear hcz67_2
           try clear hcz67_3
           try clear hcz68_0
           try clear hcz68_1
           try clear hcz68_2
           try clear hcz68_3
           try clear hcz68_4
           try clear hcz68_5
           try clear hcz71_0
           try clear hcz71_1
           try clear hcz71_2
           try clear hcz71_3
           try clear hcz72_0
           try clear hcz72_1
           try clear hcz72_2
           try clear hcz72_3
           try clear hcz72_4
           try clear hcz72_5
           try clear hcz75_0
           try clear hcz75_1
           try clear hcz75_2
           try clear hcz75_3
           try clear hcz75_4
           try clear hcz75_5
           try clear hcz78_0
           try clear hcz78_1
           try clear hcz78_2
           try clear hcz78_3
           try clear hcz78_4
           try clear hcz78_5
           try clear hcz80_0
           try clear hcz80_1
           try clear hcz80_2
           try clear hcz80_3
           try clear hcz80_4
           try clear hcz80_5
           try clear hfz24_0
           try clear hfz24_1
           try clear hfz24_2
           try clear hfz24_3
           try clear hfz24_4
           try clear hfz24_5
           try clear hfz31_0
           try clear hfz31_1
           try clear hfz31_2
           try clear hfz31_3
           try clear hfz31_4
           try clear hfz31_5
           try clear hfz33_0
           try clear hfz33_1
           try clear hfz33_2
           try clear hfz33_3
           try clear hfz33_4
           try clear hfz33_5
           try clear hfz36_0
           try clear hfz36_1
           try clear hfz36_2
           try clear hfz36_3
           try clear hfz36_4
           try clear hfz36_5
           try clear hfz38_0
           try clear hfz38_1
           try clear hfz38_2
           try clear hfz38_3
           try clear hfz38_4
           try clear hfz38_5
           try clear hfz41_0
           try clear hfz41_1
           try clear hfz41_2
           try clear hfz41_3
           try clear hfz41_4
           try clear hfz41_5
           try clear hfz43_0
           try clear hfz43_1
           try clear hfz43_2
           try clear hfz43_3
           try clear hfz43_4
           try clear hfz43_5
           try clear hfz44_0
           try clear hfz44_1
           try clear hfz44_2
           try clear hfz44_3
           try clear hfz47_0
           try clear hfz47_1
           try clear hfz47_2
           try clear hfz47_3
           try clear hfz47_4
           try clear hfz47_5
           try clear hfz58_0
           try clear hfz58_1
           try clear hfz58_2
           try clear hfz58_3
           try clear hfz59_0
           try clear hfz59_1
           try clear hfz59_2
           try clear hfz59_3
           try clear hfz59_4
           try clear hfz59_5
           try clear hfz61_0
           try clear hfz61_1
           try clear hfz61_2
           try clear hfz61_3
           try clear hfz62_0
           try clear hfz62_1
           try clear hfz62_2
           try clear hfz62_3
           try clear hfz62_4
           try clear hfz62_5
           try clear hfz64_0
           try clear hfz64_1
           try clear hfz64_2
           try clear hfz64_3
           try clear hfz65_0
           try clear hfz65_1
           try clear hfz65_2
           try clear hfz65_3
           try clear hfz65_4
           try clear hfz65_5
           try clear hfz67_0
           try clear hfz67_1
           try clear hfz67_2
           try clear hfz67_3
           try clear hfz68_0
           try clear hfz68_1
           try clear hfz68_2
           try clear hfz68_3
           try clear hfz68_4
           try clear hfz68_5
           try clear hfz71_0
           try clear hfz71_1
           try clear hfz71_2
           try clear hfz71_3
           try clear hfz72_0
           try clear hfz72_1
           try clear hfz72_2
           try clear hfz72_3
           try clear hfz72_4
           try clear hfz72_5
           try clear hfz75_0
           try clear hfz75_1
           try clear hfz75_2
           try clear hfz75_3
           try clear hfz75_4
           try clear hfz75_5
           try clear hfz78_0
           try clear hfz78_1
           try clear hfz78_2
           try clear hfz78_3
           try clear hfz78_4
           try clear hfz78_5
           try clear hfz80_0
           try clear hfz80_1
           try clear hfz80_2
           try clear hfz80_3
           try clear hfz80_4
           try clear hfz80_5
           try clear p2
           obtain ⟨kq,x122_68,rfl,HA,HJ68,BK264,BK277,HB⟩ := hcut
           cases kq with
           | zero => exact absurd HA.out (by simp [bodkinlaw17_ChangeStands.j1])
           | succ kj68 =>
            have H := HA.out
            clear HA
            simp only [bodkinlaw17_ChangeStands.j1] at H
            by_cases c81 : x122_68 = true
            ·subst c81
             have H1 : (some false) = some r := by rw [if_pos rfl] at H;exact H
             clear H
             have H := H1
             clear H1
             obtain rfl := Option.some.inj H
             cases hr_
            ·replace c81 := Bool.eq_false_iff.mpr c81
             subst c81
             have H1 : (if a1_0 ≥ 16 then (if ((decide (a1_0 ≤ 20)) == (t274.toList != ([] : List UInt8))) = true then ((cluster_Boundary.f kj68 a0 t270).bind fun t283 => (if t283 = true then ((cluster_Boundary.f kj68 a0 (wrap64 (t270 + t271))).bind fun t284 => (some t284)) else (some false))) else (some false)) else (if (false == (t274.toList != ([] : List UInt8))) = true then ((cluster_Boundary.f kj68 a0 t270).bind fun t285 => (if t285 = true then ((cluster_Boundary.f kj68 a0 (wrap64 (t270 + t271))).bind fun t286 => (some t286)) else (some false))) else (some false))) = some r := by rw [if_neg (show ¬ (false = true) by decide)] at H;exact H
             clear H
             have H := H1
             clear H1
             by_cases c82 : a1_0 ≥ 16
             ·rw [if_pos c82] at H
              have c82b0 : decide (16 ≤ a1_0) = true := decide_eq_true c82
              clear c82
              by_cases c83 : ((decide (a1_0 ≤ 20)) == (t274.toList != ([] : List UInt8))) = true
              ·rw [if_pos c83] at H
               have c83b0 : ((decide (a1_0 ≤ 20)) == (t274.toList != ([] : List UInt8))) = true := c83
               have c83z : (decide (a1_0 ≤ 20)) = !t274.toList.isEmpty := by rw [← show (t274.toList != ([] : List UInt8)) = !t274.toList.isEmpty by cases t274.toList <;> rfl];exact eq_of_beq c83
               (try (have c83b1 : decide ((decide (a1_0 ≤ 20)) = (t274.toList != ([] : List UInt8))) = true := by simpa using c83))
               (try (have c83b2 : ((decide (a1_0 ≤ 20)) == (t274.toList != ([] : List UInt8))) = true := by simpa using c83))
               clear c83
               replace H := Option.bind_eq_some_iff.mp H
               obtain ⟨t283,A840,H⟩ := H
               replace H : (if t283 = true then ((cluster_Boundary.f kj68 a0 (wrap64 (t270 + t271))).bind fun t284 => (some t284)) else (some false)) = some r := H
               have A84 := Aside0.mk A840
               clear A840
               by_cases c85 : t283 = true
               ·subst c85
                have H1 : ((cluster_Boundary.f kj68 a0 (wrap64 (t270 + t271))).bind fun t284 => (some t284)) = some r := by rw [if_pos rfl] at H;exact H
                clear H
                have H := H1
                clear H1
                replace H := Option.bind_eq_some_iff.mp H
                obtain ⟨t284,A860,H⟩ := H
                replace H : (some t284) = some r := H
                have A86 := Aside0.mk A860
                clear A860
                obtain rfl := Option.some.inj H
                have hnb87 := NB277_264.out
                have hnc87 := NB264_277.out
                have hcz88_0 : wc.cell? ⟨gb277,0,none⟩ = some (.int .i64 t270) := (blk_cell BK277.out 0).trans rfl
                have hcz88_1 : wc.cell? ⟨gb277,1,none⟩ = some (.int .i64 t271) := (blk_cell BK277.out 1).trans rfl
                have hcz88_2 : wc.cell? ⟨gb277,2,none⟩ = some (.string t272) := (blk_cell BK277.out 2).trans rfl
                have hcz88_3 : wc.cell? ⟨gb277,3,none⟩ = some (.int .i64 t273) := (blk_cell BK277.out 3).trans rfl
                have hcz88_4 : wc.cell? ⟨gb277,4,none⟩ = some (.string t274) := (blk_cell BK277.out 4).trans rfl
                have hcz88_5 : wc.cell? ⟨gb277,5,none⟩ = some (.bool t275) := (blk_cell BK277.out 5).trans rfl
                have hfz88_0 := blk_frozen BK277.out 0
                have hfz88_1 := blk_frozen BK277.out 1
                have hfz88_2 := blk_frozen BK277.out 2
                have hfz88_3 := blk_frozen BK277.out 3
                have hfz88_4 := blk_frozen BK277.out 4
                have hfz88_5 := blk_frozen BK277.out 5
                go_wp2_with (first | (go_at_call 18;(with_reducible refine (cluster_Boundary.calls kj68 a0 t270 true _ ?side1 A84.out).mono ?_);(case side1 => exact tabs_below HT.out au3);rintro e w89 ⟨rfl,hb⟩;have n0_ := Aside0.mk (blk_below (g := gb264) (o := .cells #[.int .i64 a1_0,.int .i64 a1_1,.int .i64 a1_2,.int .i64 a1_3] 23 (0,0)) au6 hb);have n1_ := Aside0.mk (blk_below (g := gb277) (o := .cells #[.int .i64 t270,.int .i64 t271,.string t272,.int .i64 t273,.string t274,.bool t275] 30 (0,0)) au14 hb);have n2_ := Aside0.mk (below_step au3 hb);clear BK264;clear BK277;clear HB;have BK264 := n0_;have BK277 := n1_;have HB := n2_;clear n0_ n1_ n2_;(try clear hb);(try clear hb2);(try clear hk);(try clear hi);have hcz90_0 : w89.cell? ⟨gb277,0,none⟩ = some (.int .i64 t270) := (blk_cell BK277.out 0).trans rfl;have hcz90_1 : w89.cell? ⟨gb277,1,none⟩ = some (.int .i64 t271) := (blk_cell BK277.out 1).trans rfl;have hcz90_2 : w89.cell? ⟨gb277,2,none⟩ = some (.string t272) := (blk_cell BK277.out 2).trans rfl;have hcz90_3 : w89.cell? ⟨gb277,3,none⟩ = some (.int .i64 t273) := (blk_cell BK277.out 3).trans rfl;have hcz90_4 : w89.cell? ⟨gb277,4,none⟩ = some (.string t274) := (blk_cell BK277.out 4).trans rfl;have hcz90_5 : w89.cell? ⟨gb277,5,none⟩ = some (.bool t275) := (blk_cell BK277.out 5).trans rfl;have hfz90_0 := blk_frozen BK277.out 0;have hfz90_1 := blk_frozen BK277.out 1;have hfz90_2 := blk_frozen BK277.out 2;have hfz90_3 := blk_frozen BK277.out 3;have hfz90_4 := blk_frozen BK277.out 4;have hfz90_5 := blk_frozen BK277.out 5) | (go_at_call 18;(with_reducible refine (cluster_Boundary.calls kj68 a0 (wrap64 (t270 + t271)) t284 _ ?side1 A86.out).mono ?_);(case side1 => exact tabs_below HT.out au3);rintro e w91 ⟨rfl,hb⟩;have n0_ := Aside0.mk (blk_below (g := gb264) (o := .cells #[.int .i64 a1_0,.int .i64 a1_1,.int .i64 a1_2,.int .i64 a1_3] 23 (0,0)) au6 hb);have n1_ := Aside0.mk (blk_below (g := gb277) (o := .cells #[.int .i64 t270,.int .i64 t271,.string t272,.int .i64 t273,.string t274,.bool t275] 30 (0,0)) au14 hb);have n2_ := Aside0.mk (below_step au3 hb);clear BK264;clear BK277;clear HB;have BK264 := n0_;have BK277 := n1_;have HB := n2_;clear n0_ n1_ n2_;(try clear hb);(try clear hb2);(try clear hk);(try clear hi)))
                go_ret
                exact ⟨au2,by repeat (first | (with_reducible first | exact HB.out | apply below_alloc | apply pw_below_drewN | apply below_drew1 | refine below_set ?_ GE264.out | refine below_set ?_ GE277.out) | exact HB.out)⟩
               ·replace c85 := Bool.eq_false_iff.mpr c85
                subst c85
                have H1 : (some false) = some r := by rw [if_neg (show ¬ (false = true) by decide)] at H;exact H
                clear H
                have H := H1
                clear H1
                obtain rfl := Option.some.inj H
                cases hr_
              ·rw [if_neg c83] at H
               have c83b0 : ((decide (a1_0 ≤ 20)) == (t274.toList != ([] : List UInt8))) = false := by simpa using c83
               (try (have c83b1 : decide ((decide (a1_0 ≤ 20)) = (t274.toList != ([] : List UInt8))) = false := by simpa using c83))
               (try (have c83b2 : ((decide (a1_0 ≤ 20)) == (t274.toList != ([] : List UInt8))) = false := by simpa using c83))
               (try (have c83b3 : ¬ ((decide (a1_0 ≤ 20)) = (t274.toList != ([] : List UInt8))) := by simpa using c83))
               clear c83
               obtain rfl := Option.some.inj H
               cases hr_
             ·rw [if_neg c82] at H
              have c82b0 : decide (16 ≤ a1_0) = false := decide_eq_false c82
              clear c82
              by_cases c97 : (false == (t274.toList != ([] : List UInt8))) = true
              ·rw [if_pos c97] at H
               have c97b0 : (false == (t274.toList != ([] : List UInt8))) = true := c97
               have c97z : false = !t274.toList.isEmpty := by rw [← show (t274.toList != ([] : List UInt8)) = !t274.toList.isEmpty by cases t274.toList <;> rfl];exact eq_of_beq c97
               (try (have c97b1 : decide (false = (t274.toList != ([] : List UInt8))) = true := by simpa using c97))
               (try (have c97b2 : (false == (t274.toList != ([] : List UInt8))) = true := by simpa using c97))
               clear c97
               replace H := Option.bind_eq_some_iff.mp H
               obtain ⟨t285,A980,H⟩ := H
               replace H : (if t285 = true then ((cluster_Boundary.f kj68 a0 (wrap64 (t270 + t271))).bind fun t286 => (some t286)) else (some false)) = some r := H
               have A98 := Aside0.mk A980
               clear A980
               by_cases c99 : t285 = true
               ·subst c99
                have H1 : ((cluster_Boundary.f kj68 a0 (wrap64 (t270 + t271))).bind fun t286 => (some t286)) = some r := by rw [if_pos rfl] at H;exact H
                clear H
                have H := H1
                clear H1
                replace H := Option.bind_eq_some_iff.mp H
                obtain ⟨t286,A1000,H⟩ := H
                replace H : (some t286) = some r := H
                have A100 := Aside0.mk A1000
                clear A1000
                obtain rfl := Option.some.inj H
                have hnb101 := NB277_264.out
                have hnc101 := NB264_277.out
                have hcz102_0 : wc.cell? ⟨gb277,0,none⟩ = some (.int .i64 t270) := (blk_cell BK277.out 0).trans rfl
                have hcz102_1 : wc.cell? ⟨gb277,1,none⟩ = some (.int .i64 t271) := (blk_cell BK277.out 1).trans rfl
                have hcz102_2 : wc.cell? ⟨gb277,2,none⟩ = some (.string t272) := (blk_cell BK277.out 2).trans rfl
                have hcz102_3 : wc.cell? ⟨gb277,3,none⟩ = some (.int .i64 t273) := (blk_cell BK277.out 3).trans rfl
                have hcz102_4 : wc.cell? ⟨gb277,4,none⟩ = some (.string t274) := (blk_cell BK277.out 4).trans rfl
                have hcz102_5 : wc.cell? ⟨gb277,5,none⟩ = some (.bool t275) := (blk_cell BK277.out 5).trans rfl
                have hfz102_0 := blk_frozen BK277.out 0
                have hfz102_1 := blk_frozen BK277.out 1
                have hfz102_2 := blk_frozen BK277.out 2
                have hfz102_3 := blk_frozen BK277.out 3
                have hfz102_4 := blk_frozen BK277.out 4
                have hfz102_5 := blk_frozen BK277.out 5
                go_wp2_with (first | (go_at_call 18;(with_reducible refine (cluster_Boundary.calls kj68 a0 t270 true _ ?side1 A98.out).mono ?_);(case side1 => exact tabs_below HT.out au3);rintro e w103 ⟨rfl,hb⟩;have n0_ := Aside0.mk (blk_below (g := gb264) (o := .cells #[.int .i64 a1_0,.int .i64 a1_1,.int .i64 a1_2,.int .i64 a1_3] 23 (0,0)) au6 hb);have n1_ := Aside0.mk (blk_below (g := gb277) (o := .cells #[.int .i64 t270,.int .i64 t271,.string t272,.int .i64 t273,.string t274,.bool t275] 30 (0,0)) au14 hb);have n2_ := Aside0.mk (below_step au3 hb);clear BK264;clear BK277;clear HB;have BK264 := n0_;have BK277 := n1_;have HB := n2_;clear n0_ n1_ n2_;(try clear hb);(try clear hb2);(try clear hk);(try clear hi);have hcz104_0 : w103.cell? ⟨gb277,0,none⟩ = some (.int .i64 t270) := (blk_cell BK277.out 0).trans rfl;have hcz104_1 : w103.cell? ⟨gb277,1,none⟩ = some (.int .i64 t271) := (blk_cell BK277.out 1).trans rfl;have hcz104_2 : w103.cell? ⟨gb277,2,none⟩ = some (.string t272) := (blk_cell BK277.out 2).trans rfl;have hcz104_3 : w103.cell? ⟨gb277,3,none⟩ = some (.int .i64 t273) := (blk_cell BK277.out 3).trans rfl;have hcz104_4 : w103.cell? ⟨gb277,4,none⟩ = some (.string t274) := (blk_cell BK277.out 4).trans rfl;have hcz104_5 : w103.cell? ⟨gb277,5,none⟩ = some (.bool t275) := (blk_cell BK277.out 5).trans rfl;have hfz104_0 := blk_frozen BK277.out 0;have hfz104_1 := blk_frozen BK277.out 1;have hfz104_2 := blk_frozen BK277.out 2;have hfz104_3 := blk_frozen BK277.out 3;have hfz104_4 := blk_frozen BK277.out 4;have hfz104_5 := blk_frozen BK277.out 5) | (go_at_call 18;(with_reducible refine (cluster_Boundary.calls kj68 a0 (wrap64 (t270 + t271)) t286 _ ?side1 A100.out).mono ?_);(case side1 => exact tabs_below HT.out au3);rintro e w105 ⟨rfl,hb⟩;have n0_ := Aside0.mk (blk_below (g := gb264) (o := .cells #[.int .i64 a1_0,.int .i64 a1_1,.int .i64 a1_2,.int .i64 a1_3] 23 (0,0)) au6 hb);have n1_ := Aside0.mk (blk_below (g := gb277) (o := .cells #[.int .i64 t270,.int .i64 t271,.string t272,.int .i64 t273,.string t274,.bool t275] 30 (0,0)) au14 hb);have n2_ := Aside0.mk (below_step au3 hb);clear BK264;clear BK277;clear HB;have BK264 := n0_;have BK277 := n1_;have HB := n2_;clear n0_ n1_ n2_;(try clear hb);(try clear hb2);(try clear hk);(try clear hi)))
                go_ret
                exact ⟨au2,by repeat (first | (with_reducible first | exact HB.out | apply below_alloc | apply pw_below_drewN | apply below_drew1 | refine below_set ?_ GE264.out | refine below_set ?_ GE277.out) | exact HB.out)⟩
               ·replace c99 := Bool.eq_false_iff.mpr c99
                subst c99
                have H1 : (some false) = some r := by rw [if_neg (show ¬ (false = true) by decide)] at H;exact H
                clear H
                have H := H1
                clear H1
                obtain rfl := Option.some.inj H
                cases hr_
              ·rw [if_neg c97] at H
               have c97b0 : (false == (t274.toList != ([] : List UInt8))) = false := by simpa using c97
               (try (have c97b1 : decide (false = (t274.toList != ([] : List UInt8))) = false := by simpa using c97))
               (try (have c97b2 : (false == (t274.toList != ([] : List UInt8))) = false := by simpa using c97))
               (try (have c97b3 : ¬ (false = (t274.toList != ([] : List UInt8))) := by simpa using c97))
               clear c97
               obtain rfl := Option.some.inj H
               cases hr_
        ·rw [if_neg c52] at H
         exact absurd H (by simp)
       ·rw [if_neg c51] at H
        exact absurd H (by simp)
      ·rw [if_neg c50] at H
       exact absurd H (by simp)
  ·rw [if_neg c7] at H
   have c7b0 : (t276 == 0) = false := beq_eq_false_iff_ne.mpr c7
   have c7b1 : (t276 != 0) = true := bne_iff_ne.mpr c7
   by_cases c111 : ((t270 == 0 && (t271 == 0 && (t272.toList == ([] : List UInt8)))) && (t273 == 0 && (t274.toList == ([] : List UInt8) && (!t275)))) = true
   ·rw [if_pos c111] at H
    have c111b0 : ((t270 == 0 && (t271 == 0 && (t272.toList == ([] : List UInt8)))) && (t273 == 0 && (t274.toList == ([] : List UInt8) && (!t275)))) = true := c111
    have c111z := c111
    simp only [Bool.and_eq_true,beq_iff_eq,Bool.not_eq_eq_eq_not,Bool.not_true] at c111z
    obtain ⟨⟨zt270,⟨zt271,zt272⟩⟩,⟨zt273,⟨zt274,zt275⟩⟩⟩ := c111z
    clear c111 c111b0
    subst zt270
    subst zt271
    subst zt273
    replace zt272 : t272 = ⟨#[]⟩ := ByteArray.ext (Array.toList_eq_nil_iff.1 ((Lib.toList_data _).symm.trans zt272))
    subst zt272
    replace zt274 : t274 = ⟨#[]⟩ := ByteArray.ext (Array.toList_eq_nil_iff.1 ((Lib.toList_data _).symm.trans zt274))
    subst zt274
    subst zt275
    skip
    replace H := Option.bind_eq_some_iff.mp H
    obtain ⟨t278,A1120,H⟩ := H
    replace H : (some ((t276 == 13) == (!t278))) = some r := H
    have A112 := Aside0.mk A1120
    clear A1120
    obtain rfl := Option.some.inj H
    go_enter Tryd.func6,Tryd.ntmps6
    try go_wp2_with (first | ((with_reducible refine gate_dst (N := 3) rfl ?_);(try (refine gate_guard (by rfl) ?_;dsimp only));refine box_event ?hg (N := 3) ?hd (cs := #[.int .i64 a1_0,.int .i64 a1_1,.int .i64 a1_2,.int .i64 a1_3]) (t := 23) ?hr ?_;(case hd => rfl);(case hg => rfl);(case hr => first | (go_simp;done) | (go_simp;rfl));intro gb264 hg w113 hbox hb;have n0_ := Aside0.mk (below_step au0 hb);have n1_ := Aside0.mk (hbox);have n2_ := Aside0.mk ((by rw [hg];exact (below_size au0) : w.heap.size ≤ gb264));have n3_ := Aside0.mk ((by rw [hg];exact (below_size au0) : w.heap.size ≤ gb264));clear HB;have HB := n0_;have BK264 := n1_;have GW264 := n2_;have GE264 := n3_;clear n0_ n1_ n2_ n3_;clear hb hbox hg) | ((with_reducible refine gate_callee (f := 8) rfl ?_);refine goesL_ (some 12) rfl rfl Tryd.func8 (by kernel_rfl) rfl #[] rfl au1 ?_;(with_reducible refine (bodkinlaw17_awake.calls k true rfl _ ?side1 A3.out).mono ?_);(case side1 => exact tabs_below HT.out au7);rintro e w114 ⟨rfl,hb⟩;refine ⟨_,rfl,?_⟩;have n0_ := Aside0.mk (blk_below (g := gb264) (o := .cells #[.int .i64 a1_0,.int .i64 a1_1,.int .i64 a1_2,.int .i64 a1_3] 23 (0,0)) au6 hb);have n1_ := Aside0.mk (below_step au7 hb);clear BK264;clear HB;have BK264 := n0_;have HB := n1_;clear n0_ n1_;(try clear hb);(try clear hb2);(try clear hk);(try clear hi)))
    have n0_ := Aside0.mk (blk_drew BK264.out)
    have n1_ := Aside0.mk (below_drew1 HB.out)
    clear BK264
    clear HB
    have BK264 := n0_
    have HB := n1_
    clear n0_ n1_
    refine start_ (n := 14) (S := fun w' => w'.cell? ⟨gb264,0,none⟩ = some (.int .i64 a1_0) ∧ w'.cell? ⟨gb264,1,none⟩ = some (.int .i64 a1_1) ∧ w'.cell? ⟨gb264,2,none⟩ = some (.int .i64 a1_2) ∧ w'.cell? ⟨gb264,3,none⟩ = some (.int .i64 a1_3)) (ds := []) #[false,false,false,false,false,false,false,false,false,false,false,false,false,false] (by kernel_rfl) rfl rfl ⟨(blk_cell BK264.out 0).trans rfl,(blk_cell BK264.out 1).trans rfl,(blk_cell BK264.out 2).trans rfl,(blk_cell BK264.out 3).trans rfl⟩ (fun hHeld => ?_);refine with_tabW bodkinlaw17_ChangeStands.tab3 bodkinlaw17_ChangeStands.bits3 (fun HT_ HW_ => ?_)
    generalize w114.drew = w115 at BK264 HB hHeld ⊢
    refine pure_ (i := 2) (N := some 17) (v := ?_) (a' := ?_) #[false,false,true,false,false,false,false,false,false,false,false,false,false,false] rfl rfl (any_of HT_.out (by kernel_rfl)) (fun _ _ _ h => h) (Or.inl ⟨by rfl,?_⟩) ?_ ?_
    rotate_left
    ·intro w'
     go_simp
     with_reducible rfl
    rotate_left
    ·simp only [Act.put,List.setIfInBounds_toArray,List.set_cons_zero,List.set_cons_succ,i64_w,i32_w]
     rfl
    refine pure_ (i := 3) (N := some 18) (v := ?_) (a' := ?_) #[false,false,true,true,false,false,false,false,false,false,false,false,false,false] rfl rfl (any_of HT_.out (by kernel_rfl)) (fun _ _ _ h => h) (Or.inl ⟨by rfl,?_⟩) ?_ ?_
    rotate_left
    ·intro w'
     go_simp
     with_reducible rfl
    rotate_left
    ·simp only [Act.put,List.setIfInBounds_toArray,List.set_cons_zero,List.set_cons_succ,i64_w,i32_w]
     rfl
    refine pure_ (i := 5) (N := some 20) (v := ?_) (a' := ?_) #[false,false,true,true,false,true,false,false,false,false,false,false,false,false] rfl rfl (any_of HT_.out (by kernel_rfl)) (fun _ _ _ h => h) (Or.inl ⟨by rfl,?_⟩) ?_ ?_
    rotate_left
    ·intro w'
     go_simp
     with_reducible rfl
    rotate_left
    ·simp only [Act.put,List.setIfInBounds_toArray,List.set_cons_zero,List.set_cons_succ,i64_w,i32_w]
     rfl
    refine take_ (i := 0) (N := some 15) (v := ?_) (a' := ?_) #[true,false,true,true,false,true,false,false,false,false,false,false,false,false] rfl rfl (take_ofW HT_.out HW_.out (by kernel_rfl)) (fun _ _ _ h => h) (Or.inl ⟨by rfl,?_⟩) hHeld ?_ ?_
    rotate_left
    ·rintro w' ⟨s0,s1,s2,s3⟩
     go_simp
     with_reducible rfl
    rotate_left
    ·simp only [Act.put,List.setIfInBounds_toArray,List.set_cons_zero,List.set_cons_succ,i64_w,i32_w]
     rfl
    refine take_ (i := 4) (N := some 19) (v := ?_) (a' := ?_) #[true,false,true,true,true,true,false,false,false,false,false,false,false,false] rfl rfl (take_ofW HT_.out HW_.out (by kernel_rfl)) (fun _ _ _ h => h) (Or.inl ⟨by rfl,?_⟩) hHeld ?_ ?_
    rotate_left
    ·rintro w' ⟨s0,s1,s2,s3⟩
     go_simp
     with_reducible rfl
    rotate_left
    ·simp only [Act.put,List.setIfInBounds_toArray,List.set_cons_zero,List.set_cons_succ,i64_w,i32_w]
     rfl
    refine take_ (i := 6) (N := some 21) (v := ?_) (a' := ?_) #[true,false,true,true,true,true,true,false,false,false,false,false,false,false] rfl rfl (take_ofW HT_.out HW_.out (by kernel_rfl)) (fun _ _ _ h => h) (Or.inl ⟨by rfl,?_⟩) hHeld ?_ ?_
    rotate_left
    ·rintro w' ⟨s0,s1,s2,s3⟩
     go_simp
     with_reducible rfl
    rotate_left
    ·simp only [Act.put,List.setIfInBounds_toArray,List.set_cons_zero,List.set_cons_succ,i64_w,i32_w]
     rfl
    refine join_ (σ := Nat) 2 #[true,true,true,true,true,true,true,true,true,true,true,true,false,false] (fun s_ => [(16,.agg #[.int .i64 t266,.int .i64 t267,.string t268,.int .u8 t269]),(22,.tuple #[.agg #[.int .i64 0,.int .i64 0,.string (⟨#[]⟩ : ByteArray),.int .i64 0,.string (⟨#[]⟩ : ByteArray),.bool false],.int .i64 t276]),(5,.pointer (some ⟨s_,0,none⟩)),(14,.tuple #[.agg #[.int .i64 0,.int .i64 0,.string (⟨#[]⟩ : ByteArray),.int .i64 0,.string (⟨#[]⟩ : ByteArray),.bool false],.int .i64 t276]),(23,.agg #[.int .i64 0,.int .i64 0,.string (⟨#[]⟩ : ByteArray),.int .i64 0,.string (⟨#[]⟩ : ByteArray),.bool false]),(24,.int .i64 t276)]) (fun s_ w' => (w'.cell? ⟨gb264,0,none⟩ = some (.int .i64 a1_0) ∧ w'.cell? ⟨gb264,1,none⟩ = some (.int .i64 a1_1) ∧ w'.cell? ⟨gb264,2,none⟩ = some (.int .i64 a1_2) ∧ w'.cell? ⟨gb264,3,none⟩ = some (.int .i64 a1_3)) ∧ (w'.heap[gb264]? = some (.cells #[.int .i64 a1_0,.int .i64 a1_1,.int .i64 a1_2,.int .i64 a1_3] 23 (0,0))) ∧ (w'.heap[s_]? = some (.cells #[.int .i64 0,.int .i64 0,.string (⟨#[]⟩ : ByteArray),.int .i64 0,.string (⟨#[]⟩ : ByteArray),.bool false] 30 (0,0))) ∧ (w.heap.size ≤ s_) ∧ (w.heap.size ≤ s_) ∧ (gb264 ≠ s_) ∧ (s_ ≠ gb264) ∧ (Below w.heap.size w w')) ?_ ?_
    rotate_left
    ·intro hCont
     refine two_ (i := 1) (j := 11) (Ni := some 16) (Nj := some 5) #[true,true,true,true,true,true,true,false,false,false,false,false,false,false] #[true,false,true,true,true,true,true,false,false,false,false,true,false,false] rfl rfl rfl rfl (two_of HT_.out (by kernel_rfl)) (by decide) (by decide) (fun K hK => ?_) (fun K hK => ?_)
     ·skip
      refine goes_ Tryd.func15 (by kernel_rfl) rfl #[.agg #[.int .i64 a1_0,.int .i64 a1_1,.int .i64 a1_2,.int .i64 a1_3]] (by rfl) rfl rfl au1 ?_
      with_reducible refine (bodkinlaw17_command.calls a1_0 a1_1 a1_2 a1_3 t266 t267 t268 t269 _ A5.out).mono ?_
      rintro e w116 ⟨rfl,hb⟩
      refine ⟨_,rfl,?_⟩
      have n0_ := Aside0.mk (blk_below (g := gb264) (o := .cells #[.int .i64 a1_0,.int .i64 a1_1,.int .i64 a1_2,.int .i64 a1_3] 23 (0,0)) au6 hb)
      have n1_ := Aside0.mk (below_step au7 hb)
      clear BK264
      clear HB
      have BK264 := n0_
      have HB := n1_
      clear n0_ n1_
      (try clear hb)
      (try clear hb2)
      (try clear hk)
      (try clear hi)
      refine hK.out _ _ ⟨(blk_cell BK264.out 0).trans rfl,(blk_cell BK264.out 1).trans rfl,(blk_cell BK264.out 2).trans rfl,(blk_cell BK264.out 3).trans rfl⟩ (fun hHeld => ?_)
      clear hK K
      refine norm_ (a' := ?_) ?_ ?_
      rotate_left
      ·show Act.put _ (some 16) _ = _
       simp only [Act.put,List.setIfInBounds_toArray,List.set_cons_zero,List.set_cons_succ,i64_w,i32_w]
       rfl
      refine two_ (i := 7) (j := 11) (Ni := some 22) (Nj := some 5) #[true,true,true,true,true,true,true,true,false,false,false,false,false,false] #[true,true,true,true,true,true,true,false,false,false,false,true,false,false] rfl rfl rfl rfl (two_of HT_.out (by kernel_rfl)) (by decide) (by decide) (fun K hK => ?_) (fun K hK => ?_)
      ·skip
       refine goes_ Tryd.func9 (by kernel_rfl) rfl #[.agg #[.int .i64 t266,.int .i64 t267,.string t268,.int .u8 t269],.string a0,.int .i64 a1_2,.int .i64 a1_3] (by rfl) rfl rfl au1 ?_
       with_reducible refine (change_Of.calls t266 t267 t268 t269 a0 a1_2 a1_3 0 0 (⟨#[]⟩ : ByteArray) 0 (⟨#[]⟩ : ByteArray) false t276 _ ?side1 A6.out).mono ?_
       (case side1 => exact tabs_below HT.out au7)
       rintro e w117 ⟨rfl,hb⟩
       refine ⟨_,rfl,?_⟩
       have n0_ := Aside0.mk (blk_below (g := gb264) (o := .cells #[.int .i64 a1_0,.int .i64 a1_1,.int .i64 a1_2,.int .i64 a1_3] 23 (0,0)) au6 hb)
       have n1_ := Aside0.mk (below_step au7 hb)
       clear BK264
       clear HB
       have BK264 := n0_
       have HB := n1_
       clear n0_ n1_
       (try clear hb)
       (try clear hb2)
       (try clear hk)
       (try clear hi)
       refine hK.out _ _ ⟨(blk_cell BK264.out 0).trans rfl,(blk_cell BK264.out 1).trans rfl,(blk_cell BK264.out 2).trans rfl,(blk_cell BK264.out 3).trans rfl⟩ (fun hHeld => ?_)
       clear hK K
       refine norm_ (a' := ?_) ?_ ?_
       rotate_left
       ·show Act.put _ (some 22) _ = _
        simp only [Act.put,List.setIfInBounds_toArray,List.set_cons_zero,List.set_cons_succ,i64_w,i32_w]
        rfl
       refine pure_ (i := 8) (N := some 14) (v := ?_) (a' := ?_) #[true,true,true,true,true,true,true,true,true,false,false,false,false,false] rfl rfl (any_of HT_.out (by kernel_rfl)) (fun _ _ _ h => h) (Or.inl ⟨by rfl,?_⟩) ?_ ?_
       rotate_left
       ·intro w'
        go_simp
        with_reducible rfl
       rotate_left
       ·simp only [Act.put,List.setIfInBounds_toArray,List.set_cons_zero,List.set_cons_succ,i64_w,i32_w]
        rfl
       refine pure_ (i := 9) (N := some 23) (v := ?_) (a' := ?_) #[true,true,true,true,true,true,true,true,true,true,false,false,false,false] rfl rfl (any_of HT_.out (by kernel_rfl)) (fun _ _ _ h => h) (Or.inl ⟨by rfl,?_⟩) ?_ ?_
       rotate_left
       ·intro w'
        go_simp
        with_reducible rfl
       rotate_left
       ·simp only [Act.put,List.setIfInBounds_toArray,List.set_cons_zero,List.set_cons_succ,i64_w,i32_w]
        rfl
       refine pure_ (i := 10) (N := some 24) (v := ?_) (a' := ?_) #[true,true,true,true,true,true,true,true,true,true,true,false,false,false] rfl rfl (any_of HT_.out (by kernel_rfl)) (fun _ _ _ h => h) (Or.inl ⟨by rfl,?_⟩) ?_ ?_
       rotate_left
       ·intro w'
        go_simp
        with_reducible rfl
       rotate_left
       ·simp only [Act.put,List.setIfInBounds_toArray,List.set_cons_zero,List.set_cons_succ,i64_w,i32_w]
        rfl
       refine one_ (i := 11) (N := some 5) #[true,true,true,true,true,true,true,true,true,true,true,true,false,false] rfl rfl (one_of HT_.out (by kernel_rfl)) (by decide) (fun K hK => ?_)
       refine box_step ?hg (N := 5) ?hd (cs := #[.int .i64 0,.int .i64 0,.string (⟨#[]⟩ : ByteArray),.int .i64 0,.string (⟨#[]⟩ : ByteArray),.bool false]) (t := 30) ?hr ?_;(case hd => rfl);(case hg => rfl);(case hr => first | (go_simp;done) | (go_simp;rfl))
       intro gb277 hg w118 hbox hb
       have n0_ := Aside0.mk (blk_below (g := gb264) (o := .cells #[.int .i64 a1_0,.int .i64 a1_1,.int .i64 a1_2,.int .i64 a1_3] 23 (0,0)) au6 hb)
       have n1_ := Aside0.mk (below_step au7 hb)
       have n2_ := Aside0.mk (hbox)
       have n3_ := Aside0.mk ((by rw [hg];exact (below_size au7) : w.heap.size ≤ gb277))
       have n4_ := Aside0.mk ((by rw [hg];exact (below_size au7) : w.heap.size ≤ gb277))
       have n5_ := Aside0.mk ((by rw [hg];exact Nat.ne_of_lt (blk_lt (g := gb264) (o := .cells #[.int .i64 a1_0,.int .i64 a1_1,.int .i64 a1_2,.int .i64 a1_3] 23 (0,0)) au6) : gb264 ≠ gb277))
       have n6_ := Aside0.mk ((by rw [hg];exact Nat.ne_of_gt (blk_lt (g := gb264) (o := .cells #[.int .i64 a1_0,.int .i64 a1_1,.int .i64 a1_2,.int .i64 a1_3] 23 (0,0)) au6) : gb277 ≠ gb264))
       clear BK264
       clear HB
       have BK264 := n0_
       have HB := n1_
       have BK277 := n2_
       have GW277 := n3_
       have GE277 := n4_
       have NB264_277 := n5_
       have NB277_264 := n6_
       clear n0_ n1_ n2_ n3_ n4_ n5_ n6_
       clear hb hbox hg
       refine hK.out _ _ ⟨(blk_cell BK264.out 0).trans rfl,(blk_cell BK264.out 1).trans rfl,(blk_cell BK264.out 2).trans rfl,(blk_cell BK264.out 3).trans rfl⟩ (fun hHeld => ?_)
       clear hK K
       refine norm_ (a' := ?_) ?_ ?_
       rotate_left
       ·show Act.put _ (some 5) _ = _
        simp only [Act.put,List.setIfInBounds_toArray,List.set_cons_zero,List.set_cons_succ,i64_w,i32_w]
        rfl
       exact norm_ au21 (hCont (gb277) _ ⟨hHeld,au6,au14,GW277.out,GE277.out,NB264_277.out,NB277_264.out,au3⟩)
      ·skip
       refine box_step ?hg (N := 5) ?hd (cs := #[.int .i64 0,.int .i64 0,.string (⟨#[]⟩ : ByteArray),.int .i64 0,.string (⟨#[]⟩ : ByteArray),.bool false]) (t := 30) ?hr ?_;(case hd => rfl);(case hg => rfl);(case hr => first | (go_simp;done) | (go_simp;rfl))
       intro gb277 hg w117 hbox hb
       have n0_ := Aside0.mk (blk_below (g := gb264) (o := .cells #[.int .i64 a1_0,.int .i64 a1_1,.int .i64 a1_2,.int .i64 a1_3] 23 (0,0)) au6 hb)
       have n1_ := Aside0.mk (below_step au7 hb)
       have n2_ := Aside0.mk (hbox)
       have n3_ := Aside0.mk ((by rw [hg];exact (below_size au7) : w.heap.size ≤ gb277))
       have n4_ := Aside0.mk ((by rw [hg];exact (below_size au7) : w.heap.size ≤ gb277))
       have n5_ := Aside0.mk ((by rw [hg];exact Nat.ne_of_lt (blk_lt (g := gb264) (o := .cells #[.int .i64 a1_0,.int .i64 a1_1,.int .i64 a1_2,.int .i64 a1_3] 23 (0,0)) au6) : gb264 ≠ gb277))
       have n6_ := Aside0.mk ((by rw [hg];exact Nat.ne_of_gt (blk_lt (g := gb264) (o := .cells #[.int .i64 a1_0,.int .i64 a1_1,.int .i64 a1_2,.int .i64 a1_3] 23 (0,0)) au6) : gb277 ≠ gb264))
       clear BK264
       clear HB
       have BK264 := n0_
       have HB := n1_
       have BK277 := n2_
       have GW277 := n3_
       have GE277 := n4_
       have NB264_277 := n5_
       have NB277_264 := n6_
       clear n0_ n1_ n2_ n3_ n4_ n5_ n6_
       clear hb hbox hg
       refine hK.out _ _ ⟨(blk_cell BK264.out 0).trans rfl,(blk_cell BK264.out 1).trans rfl,(blk_cell BK264.out 2).trans rfl,(blk_cell BK264.out 3).trans rfl⟩ (fun hHeld => ?_)
       clear hK K
       refine norm_ (a' := ?_) ?_ ?_
       rotate_left
       ·show Act.put _ (some 5) _ = _
        simp only [Act.put,List.setIfInBounds_toArray,List.set_cons_zero,List.set_cons_succ,i64_w,i32_w]
        rfl
       refine one_ (i := 7) (N := some 22) #[true,true,true,true,true,true,true,true,false,false,false,true,false,false] rfl rfl (one_of HT_.out (by kernel_rfl)) (by decide) (fun K hK => ?_)
       refine goes_ Tryd.func9 (by kernel_rfl) rfl #[.agg #[.int .i64 t266,.int .i64 t267,.string t268,.int .u8 t269],.string a0,.int .i64 a1_2,.int .i64 a1_3] (by rfl) rfl rfl au1 ?_
       with_reducible refine (change_Of.calls t266 t267 t268 t269 a0 a1_2 a1_3 0 0 (⟨#[]⟩ : ByteArray) 0 (⟨#[]⟩ : ByteArray) false t276 _ ?side1 A6.out).mono ?_
       (case side1 => exact tabs_below HT.out au3)
       rintro e w118 ⟨rfl,hb⟩
       refine ⟨_,rfl,?_⟩
       have n0_ := Aside0.mk (blk_below (g := gb264) (o := .cells #[.int .i64 a1_0,.int .i64 a1_1,.int .i64 a1_2,.int .i64 a1_3] 23 (0,0)) au6 hb)
       have n1_ := Aside0.mk (blk_below (g := gb277) (o := .cells #[.int .i64 0,.int .i64 0,.string (⟨#[]⟩ : ByteArray),.int .i64 0,.string (⟨#[]⟩ : ByteArray),.bool false] 30 (0,0)) au14 hb)
       have n2_ := Aside0.mk (below_step au3 hb)
       clear BK264
       clear BK277
       clear HB
       have BK264 := n0_
       have BK277 := n1_
       have HB := n2_
       clear n0_ n1_ n2_
       (try clear hb)
       (try clear hb2)
       (try clear hk)
       (try clear hi)
       refine hK.out _ _ ⟨(blk_cell BK264.out 0).trans rfl,(blk_cell BK264.out 1).trans rfl,(blk_cell BK264.out 2).trans rfl,(blk_cell BK264.out 3).trans rfl⟩ (fun hHeld => ?_)
       clear hK K
       refine norm_ (a' := ?_) ?_ ?_
       rotate_left
       ·show Act.put _ (some 22) _ = _
        simp only [Act.put,List.setIfInBounds_toArray,List.set_cons_zero,List.set_cons_succ,i64_w,i32_w]
        rfl
       refine pure_ (i := 8) (N := some 14) (v := ?_) (a' := ?_) #[true,true,true,true,true,true,true,true,true,false,false,true,false,false] rfl rfl (any_of HT_.out (by kernel_rfl)) (fun _ _ _ h => h) (Or.inl ⟨by rfl,?_⟩) ?_ ?_
       rotate_left
       ·intro w'
        go_simp
        with_reducible rfl
       rotate_left
       ·simp only [Act.put,List.setIfInBounds_toArray,List.set_cons_zero,List.set_cons_succ,i64_w,i32_w]
        rfl
       refine pure_ (i := 9) (N := some 23) (v := ?_) (a' := ?_) #[true,true,true,true,true,true,true,true,true,true,false,true,false,false] rfl rfl (any_of HT_.out (by kernel_rfl)) (fun _ _ _ h => h) (Or.inl ⟨by rfl,?_⟩) ?_ ?_
       rotate_left
       ·intro w'
        go_simp
        with_reducible rfl
       rotate_left
       ·simp only [Act.put,List.setIfInBounds_toArray,List.set_cons_zero,List.set_cons_succ,i64_w,i32_w]
        rfl
       refine pure_ (i := 10) (N := some 24) (v := ?_) (a' := ?_) #[true,true,true,true,true,true,true,true,true,true,true,true,false,false] rfl rfl (any_of HT_.out (by kernel_rfl)) (fun _ _ _ h => h) (Or.inl ⟨by rfl,?_⟩) ?_ ?_
       rotate_left
       ·intro w'
        go_simp
        with_reducible rfl
       rotate_left
       ·simp only [Act.put,List.setIfInBounds_toArray,List.set_cons_zero,List.set_cons_succ,i64_w,i32_w]
        rfl
       exact norm_ au21 (hCont (gb277) _ ⟨hHeld,au6,au14,GW277.out,GE277.out,NB264_277.out,NB277_264.out,au3⟩)
     ·skip
      refine box_step ?hg (N := 5) ?hd (cs := #[.int .i64 0,.int .i64 0,.string (⟨#[]⟩ : ByteArray),.int .i64 0,.string (⟨#[]⟩ : ByteArray),.bool false]) (t := 30) ?hr ?_;(case hd => rfl);(case hg => rfl);(case hr => first | (go_simp;done) | (go_simp;rfl))
      intro gb277 hg w116 hbox hb
      have n0_ := Aside0.mk (blk_below (g := gb264) (o := .cells #[.int .i64 a1_0,.int .i64 a1_1,.int .i64 a1_2,.int .i64 a1_3] 23 (0,0)) au6 hb)
      have n1_ := Aside0.mk (below_step au7 hb)
      have n2_ := Aside0.mk (hbox)
      have n3_ := Aside0.mk ((by rw [hg];exact (below_size au7) : w.heap.size ≤ gb277))
      have n4_ := Aside0.mk ((by rw [hg];exact (below_size au7) : w.heap.size ≤ gb277))
      have n5_ := Aside0.mk ((by rw [hg];exact Nat.ne_of_lt (blk_lt (g := gb264) (o := .cells #[.int .i64 a1_0,.int .i64 a1_1,.int .i64 a1_2,.int .i64 a1_3] 23 (0,0)) au6) : gb264 ≠ gb277))
      have n6_ := Aside0.mk ((by rw [hg];exact Nat.ne_of_gt (blk_lt (g := gb264) (o := .cells #[.int .i64 a1_0,.int .i64 a1_1,.int .i64 a1_2,.int .i64 a1_3] 23 (0,0)) au6) : gb277 ≠ gb264))
      clear BK264
      clear HB
      have BK264 := n0_
      have HB := n1_
      have BK277 := n2_
      have GW277 := n3_
      have GE277 := n4_
      have NB264_277 := n5_
      have NB277_264 := n6_
      clear n0_ n1_ n2_ n3_ n4_ n5_ n6_
      clear hb hbox hg
      refine hK.out _ _ ⟨(blk_cell BK264.out 0).trans rfl,(blk_cell BK264.out 1).trans rfl,(blk_cell BK264.out 2).trans rfl,(blk_cell BK264.out 3).trans rfl⟩ (fun hHeld => ?_)
      clear hK K
      refine norm_ (a' := ?_) ?_ ?_
      rotate_left
      ·show Act.put _ (some 5) _ = _
       simp only [Act.put,List.setIfInBounds_toArray,List.set_cons_zero,List.set_cons_succ,i64_w,i32_w]
       rfl
      refine one_ (i := 1) (N := some 16) #[true,true,true,true,true,true,true,false,false,false,false,true,false,false] rfl rfl (one_of HT_.out (by kernel_rfl)) (by decide) (fun K hK => ?_)
      refine goes_ Tryd.func15 (by kernel_rfl) rfl #[.agg #[.int .i64 a1_0,.int .i64 a1_1,.int .i64 a1_2,.int .i64 a1_3]] (by rfl) rfl rfl au1 ?_
      with_reducible refine (bodkinlaw17_command.calls a1_0 a1_1 a1_2 a1_3 t266 t267 t268 t269 _ A5.out).mono ?_
      rintro e w117 ⟨rfl,hb⟩
      refine ⟨_,rfl,?_⟩
      have n0_ := Aside0.mk (blk_below (g := gb264) (o := .cells #[.int .i64 a1_0,.int .i64 a1_1,.int .i64 a1_2,.int .i64 a1_3] 23 (0,0)) au6 hb)
      have n1_ := Aside0.mk (blk_below (g := gb277) (o := .cells #[.int .i64 0,.int .i64 0,.string (⟨#[]⟩ : ByteArray),.int .i64 0,.string (⟨#[]⟩ : ByteArray),.bool false] 30 (0,0)) au14 hb)
      have n2_ := Aside0.mk (below_step au3 hb)
      clear BK264
      clear BK277
      clear HB
      have BK264 := n0_
      have BK277 := n1_
      have HB := n2_
      clear n0_ n1_ n2_
      (try clear hb)
      (try clear hb2)
      (try clear hk)
      (try clear hi)
      refine hK.out _ _ ⟨(blk_cell BK264.out 0).trans rfl,(blk_cell BK264.out 1).trans rfl,(blk_cell BK264.out 2).trans rfl,(blk_cell BK264.out 3).trans rfl⟩ (fun hHeld => ?_)
      clear hK K
      refine norm_ (a' := ?_) ?_ ?_
      rotate_left
      ·show Act.put _ (some 16) _ = _
       simp only [Act.put,List.setIfInBounds_toArray,List.set_cons_zero,List.set_cons_succ,i64_w,i32_w]
       rfl
      refine one_ (i := 7) (N := some 22) #[true,true,true,true,true,true,true,true,false,false,false,true,false,false] rfl rfl (one_of HT_.out (by kernel_rfl)) (by decide) (fun K hK => ?_)
      refine goes_ Tryd.func9 (by kernel_rfl) rfl #[.agg #[.int .i64 t266,.int .i64 t267,.string t268,.int .u8 t269],.string a0,.int .i64 a1_2,.int .i64 a1_3] (by rfl) rfl rfl au1 ?_
      with_reducible refine (change_Of.calls t266 t267 t268 t269 a0 a1_2 a1_3 0 0 (⟨#[]⟩ : ByteArray) 0 (⟨#[]⟩ : ByteArray) false t276 _ ?side1 A6.out).mono ?_
      (case side1 => exact tabs_below HT.out au3)
      rintro e w118 ⟨rfl,hb⟩
      refine ⟨_,rfl,?_⟩
      have n0_ := Aside0.mk (blk_below (g := gb264) (o := .cells #[.int .i64 a1_0,.int .i64 a1_1,.int .i64 a1_2,.int .i64 a1_3] 23 (0,0)) au6 hb)
      have n1_ := Aside0.mk (blk_below (g := gb277) (o := .cells #[.int .i64 0,.int .i64 0,.string (⟨#[]⟩ : ByteArray),.int .i64 0,.string (⟨#[]⟩ : ByteArray),.bool false] 30 (0,0)) au14 hb)
      have n2_ := Aside0.mk (below_step au3 hb)
      clear BK264
      clear BK277
      clear HB
      have BK264 := n0_
      have BK277 := n1_
      have HB := n2_
      clear n0_ n1_ n2_
      (try clear hb)
      (try clear hb2)
      (try clear hk)
      (try clear hi)
      refine hK.out _ _ ⟨(blk_cell BK264.out 0).trans rfl,(blk_cell BK264.out 1).trans rfl,(blk_cell BK264.out 2).trans rfl,(blk_cell BK264.out 3).trans rfl⟩ (fun hHeld => ?_)
      clear hK K
      refine norm_ (a' := ?_) ?_ ?_
      rotate_left
      ·show Act.put _ (some 22) _ = _
       simp only [Act.put,List.setIfInBounds_toArray,List.set_cons_zero,List.set_cons_succ,i64_w,i32_w]
       rfl
      refine pure_ (i := 8) (N := some 14) (v := ?_) (a' := ?_) #[true,true,true,true,true,true,true,true,true,false,false,true,false,false] rfl rfl (any_of HT_.out (by kernel_rfl)) (fun _ _ _ h => h) (Or.inl ⟨by rfl,?_⟩) ?_ ?_
      rotate_left
      ·intro w'
       go_simp
       with_reducible rfl
      rotate_left
      ·simp only [Act.put,List.setIfInBounds_toArray,List.set_cons_zero,List.set_cons_succ,i64_w,i32_w]
       rfl
      refine pure_ (i := 9) (N := some 23) (v := ?_) (a' := ?_) #[true,true,true,true,true,true,true,true,true,true,false,true,false,false] rfl rfl (any_of HT_.out (by kernel_rfl)) (fun _ _ _ h => h) (Or.inl ⟨by rfl,?_⟩) ?_ ?_
      rotate_left
      ·intro w'
       go_simp
       with_reducible rfl
      rotate_left
      ·simp only [Act.put,List.setIfInBounds_toArray,List.set_cons_zero,List.set_cons_succ,i64_w,i32_w]
       rfl
      refine pure_ (i := 10) (N := some 24) (v := ?_) (a' := ?_) #[true,true,true,true,true,true,true,true,true,true,true,true,false,false] rfl rfl (any_of HT_.out (by kernel_rfl)) (fun _ _ _ h => h) (Or.inl ⟨by rfl,?_⟩) ?_ ?_
      rotate_left
      ·intro w'
       go_simp
       with_reducible rfl
      rotate_left
      ·simp only [Act.put,List.setIfInBounds_toArray,List.set_cons_zero,List.set_cons_succ,i64_w,i32_w]
       rfl
      exact norm_ au21 (hCont (gb277) _ ⟨hHeld,au6,au14,GW277.out,GE277.out,NB264_277.out,NB277_264.out,au3⟩)
    rintro gb277 w119 ⟨hS_,h0_,h1_,h2_,h3_,h4_,h5_,h6_⟩
    have n0_ : Aside0 (w119.heap[gb264]? = some (.cells #[.int .i64 a1_0,.int .i64 a1_1,.int .i64 a1_2,.int .i64 a1_3] 23 (0,0))) := ⟨h0_⟩
    have n1_ : Aside0 (w119.heap[gb277]? = some (.cells #[.int .i64 0,.int .i64 0,.string (⟨#[]⟩ : ByteArray),.int .i64 0,.string (⟨#[]⟩ : ByteArray),.bool false] 30 (0,0))) := ⟨h1_⟩
    have n2_ : Aside0 (w.heap.size ≤ gb277) := ⟨h2_⟩
    have n3_ : Aside0 (w.heap.size ≤ gb277) := ⟨h3_⟩
    have n4_ : Aside0 (gb264 ≠ gb277) := ⟨h4_⟩
    have n5_ : Aside0 (gb277 ≠ gb264) := ⟨h5_⟩
    have n6_ : Aside0 (Below w.heap.size w w119) := ⟨h6_⟩
    clear BK264
    clear HB
    clear h0_ h1_ h2_ h3_ h4_ h5_ h6_
    have BK264 := n0_
    have BK277 := n1_
    have GW277 := n2_
    have GE277 := n3_
    have NB264_277 := n4_
    have NB277_264 := n5_
    have HB := n6_
    clear n0_ n1_ n2_ n3_ n4_ n5_ n6_
    have hHeld : w119.cell? ⟨gb264,0,none⟩ = some (.int .i64 a1_0) ∧ w119.cell? ⟨gb264,1,none⟩ = some (.int .i64 a1_1) ∧ w119.cell? ⟨gb264,2,none⟩ = some (.int .i64 a1_2) ∧ w119.cell? ⟨gb264,3,none⟩ = some (.int .i64 a1_3) := hS_
    refine norm_ (a' := ?_) ?_ ?_
    rotate_left
    ·simp only [putAll,Act.put,List.setIfInBounds_toArray,List.set_cons_zero,List.set_cons_succ]
     rfl
    refine one_ (i := 12) (N := none) #[true,true,true,true,true,true,true,true,true,true,true,true,true,false] rfl rfl (one_of HT_.out (by kernel_rfl)) (by decide) (fun K hK => ?_)
    have hs120 : w119.cell? ⟨gb277,0,none⟩ = some (.int .i64 0) := (blk_cell BK277.out 0).trans rfl
    have hfs120 := blk_frozen BK277.out 0
    have hns120_0 := NB264_277.out
    have hms120_0 := NB277_264.out
    have hs121 : w119.cell? ⟨gb277,1,none⟩ = some (.int .i64 0) := (blk_cell BK277.out 1).trans rfl
    have hfs121 := blk_frozen BK277.out 1
    have hns121_0 := NB264_277.out
    have hms121_0 := NB277_264.out
    have hs122 : w119.cell? ⟨gb277,2,none⟩ = some (.string (⟨#[]⟩ : ByteArray)) := (blk_cell BK277.out 2).trans rfl
    have hfs122 := blk_frozen BK277.out 2
    have hns122_0 := NB264_277.out
    have hms122_0 := NB277_264.out
    have hs123 : w119.cell? ⟨gb277,3,none⟩ = some (.int .i64 0) := (blk_cell BK277.out 3).trans rfl
    have hfs123 := blk_frozen BK277.out 3
    have hns123_0 := NB264_277.out
    have hms123_0 := NB277_264.out
    have hs124 : w119.cell? ⟨gb277,4,none⟩ = some (.string (⟨#[]⟩ : ByteArray)) := (blk_cell BK277.out 4).trans rfl
    have hfs124 := blk_frozen BK277.out 4
    have hns124_0 := NB264_277.out
    have hms124_0 := NB277_264.out
    have hs125 : w119.cell? ⟨gb277,5,none⟩ = some (.bool false) := (blk_cell BK277.out 5).trans rfl
    have hfs125 := blk_frozen BK277.out 5
    have hns125_0 := NB264_277.out
    have hms125_0 := NB277_264.out
    refine skip_ (w1 := ?_) (by rfl) rfl ?_ ?_
    rotate_left
    ·go_simp
     rfl
    refine hK.out _ _ ⟨((cell_far (p := ⟨gb277,_,none⟩) NB264_277.out _).trans (((cell_far (p := ⟨gb277,_,none⟩) NB264_277.out _).trans (((cell_far (p := ⟨gb277,_,none⟩) NB264_277.out _).trans (((cell_far (p := ⟨gb277,_,none⟩) NB264_277.out _).trans (((cell_far (p := ⟨gb277,_,none⟩) NB264_277.out _).trans (((cell_far (p := ⟨gb277,_,none⟩) NB264_277.out _).trans (hHeld.1)))))))))))),((cell_far (p := ⟨gb277,_,none⟩) NB264_277.out _).trans (((cell_far (p := ⟨gb277,_,none⟩) NB264_277.out _).trans (((cell_far (p := ⟨gb277,_,none⟩) NB264_277.out _).trans (((cell_far (p := ⟨gb277,_,none⟩) NB264_277.out _).trans (((cell_far (p := ⟨gb277,_,none⟩) NB264_277.out _).trans (((cell_far (p := ⟨gb277,_,none⟩) NB264_277.out _).trans (hHeld.2.1)))))))))))),((cell_far (p := ⟨gb277,_,none⟩) NB264_277.out _).trans (((cell_far (p := ⟨gb277,_,none⟩) NB264_277.out _).trans (((cell_far (p := ⟨gb277,_,none⟩) NB264_277.out _).trans (((cell_far (p := ⟨gb277,_,none⟩) NB264_277.out _).trans (((cell_far (p := ⟨gb277,_,none⟩) NB264_277.out _).trans (((cell_far (p := ⟨gb277,_,none⟩) NB264_277.out _).trans (hHeld.2.2.1)))))))))))),((cell_far (p := ⟨gb277,_,none⟩) NB264_277.out _).trans (((cell_far (p := ⟨gb277,_,none⟩) NB264_277.out _).trans (((cell_far (p := ⟨gb277,_,none⟩) NB264_277.out _).trans (((cell_far (p := ⟨gb277,_,none⟩) NB264_277.out _).trans (((cell_far (p := ⟨gb277,_,none⟩) NB264_277.out _).trans (((cell_far (p := ⟨gb277,_,none⟩) NB264_277.out _).trans (hHeld.2.2.2))))))))))))⟩ (fun hHeld => ?_)
    clear hK K
    refine pure_ (i := 13) (N := some 6) (v := ?_) (a' := ?_) #[true,true,true,true,true,true,true,true,true,true,true,true,true,true] rfl rfl (any_of HT_.out (by kernel_rfl)) (fun _ _ _ h => h) (Or.inl ⟨by rfl,?_⟩) ?_ ?_
    rotate_left
    ·intro w'
     go_simp
     with_reducible rfl
    rotate_left
    ·simp only [Act.put,List.setIfInBounds_toArray,List.set_cons_zero,List.set_cons_succ,i64_w,i32_w]
     rfl
    refine done_ (done_of HT_.out (by kernel_rfl)) ?_
    have hnb126 := NB277_264.out
    have hnc126 := NB264_277.out
    have hcz127_0 : w119.cell? ⟨gb277,0,none⟩ = some (.int .i64 0) := (blk_cell BK277.out 0).trans rfl
    have hcz127_1 : w119.cell? ⟨gb277,1,none⟩ = some (.int .i64 0) := (blk_cell BK277.out 1).trans rfl
    have hcz127_2 : w119.cell? ⟨gb277,2,none⟩ = some (.string (⟨#[]⟩ : ByteArray)) := (blk_cell BK277.out 2).trans rfl
    have hcz127_3 : w119.cell? ⟨gb277,3,none⟩ = some (.int .i64 0) := (blk_cell BK277.out 3).trans rfl
    have hcz127_4 : w119.cell? ⟨gb277,4,none⟩ = some (.string (⟨#[]⟩ : ByteArray)) := (blk_cell BK277.out 4).trans rfl
    have hcz127_5 : w119.cell? ⟨gb277,5,none⟩ = some (.bool false) := (blk_cell BK277.out 5).trans rfl
    have hfz127_0 := blk_frozen BK277.out 0
    have hfz127_1 := blk_frozen BK277.out 1
    have hfz127_2 := blk_frozen BK277.out 2
    have hfz127_3 := blk_frozen BK277.out 3
    have hfz127_4 := blk_frozen BK277.out 4
    have hfz127_5 := blk_frozen BK277.out 5
    have hcz128_0 : w119.cell? ⟨gb264,0,none⟩ = some (.int .i64 a1_0) := (blk_cell BK264.out 0).trans rfl
    have hcz128_1 : w119.cell? ⟨gb264,1,none⟩ = some (.int .i64 a1_1) := (blk_cell BK264.out 1).trans rfl
    have hcz128_2 : w119.cell? ⟨gb264,2,none⟩ = some (.int .i64 a1_2) := (blk_cell BK264.out 2).trans rfl
    have hcz128_3 : w119.cell? ⟨gb264,3,none⟩ = some (.int .i64 a1_3) := (blk_cell BK264.out 3).trans rfl
    have hfz128_0 := blk_frozen BK264.out 0
    have hfz128_1 := blk_frozen BK264.out 1
    have hfz128_2 := blk_frozen BK264.out 2
    have hfz128_3 := blk_frozen BK264.out 3
    try go_wp2_with (first | (go_at_call 16;(with_reducible refine (change_Does.calls a1_0 t278 _ A112.out).mono ?_);rintro e w129 ⟨rfl,hb⟩;have n0_ := Aside0.mk (blk_below (g := gb264) (o := .cells #[.int .i64 a1_0,.int .i64 a1_1,.int .i64 a1_2,.int .i64 a1_3] 23 (0,0)) au26 hb);have n1_ := Aside0.mk (blk_below (g := gb277) (o := .cells #[.int .i64 0,.int .i64 0,.string (⟨#[]⟩ : ByteArray),.int .i64 0,.string (⟨#[]⟩ : ByteArray),.bool false] 30 (0,0)) (by (with_reducible repeat (first | refine blk_drewN ?_ _ | refine blk_drew ?_ | refine blk_alloc ?_ _));refine blk_put (cs := #[.int .i64 0,.int .i64 0,.string (⟨#[]⟩ : ByteArray),.int .i64 0,.string (⟨#[]⟩ : ByteArray),.bool false]) ?_ 5 _ rfl;(with_reducible repeat (first | refine blk_drewN ?_ _ | refine blk_drew ?_ | refine blk_alloc ?_ _));refine blk_put (cs := #[.int .i64 0,.int .i64 0,.string (⟨#[]⟩ : ByteArray),.int .i64 0,.string (⟨#[]⟩ : ByteArray),.bool false]) ?_ 4 _ rfl;(with_reducible repeat (first | refine blk_drewN ?_ _ | refine blk_drew ?_ | refine blk_alloc ?_ _));refine blk_put (cs := #[.int .i64 0,.int .i64 0,.string (⟨#[]⟩ : ByteArray),.int .i64 0,.string (⟨#[]⟩ : ByteArray),.bool false]) ?_ 3 _ rfl;(with_reducible repeat (first | refine blk_drewN ?_ _ | refine blk_drew ?_ | refine blk_alloc ?_ _));refine blk_put (cs := #[.int .i64 0,.int .i64 0,.string (⟨#[]⟩ : ByteArray),.int .i64 0,.string (⟨#[]⟩ : ByteArray),.bool false]) ?_ 2 _ rfl;(with_reducible repeat (first | refine blk_drewN ?_ _ | refine blk_drew ?_ | refine blk_alloc ?_ _));refine blk_put (cs := #[.int .i64 0,.int .i64 0,.string (⟨#[]⟩ : ByteArray),.int .i64 0,.string (⟨#[]⟩ : ByteArray),.bool false]) ?_ 1 _ rfl;(with_reducible repeat (first | refine blk_drewN ?_ _ | refine blk_drew ?_ | refine blk_alloc ?_ _));refine blk_put (cs := #[.int .i64 0,.int .i64 0,.string (⟨#[]⟩ : ByteArray),.int .i64 0,.string (⟨#[]⟩ : ByteArray),.bool false]) ?_ 0 _ rfl;(with_reducible repeat (first | refine blk_drewN ?_ _ | refine blk_drew ?_ | refine blk_alloc ?_ _));exact BK277.out) hb);have n2_ := Aside0.mk (below_step au3 hb);clear BK264;clear BK277;clear HB;have BK264 := n0_;have BK277 := n1_;have HB := n2_;clear n0_ n1_ n2_;(try clear hb);(try clear hb2);(try clear hk);(try clear hi)))
    go_ret
    exact ⟨au2,by repeat (first | (with_reducible first | exact HB.out | apply below_alloc | apply pw_below_drewN | apply below_drew1 | refine below_set ?_ GE264.out | refine below_set ?_ GE277.out) | exact HB.out)⟩
   ·rw [if_neg c111] at H
    have c111b0 : ((t270 == 0 && (t271 == 0 && (t272.toList == ([] : List UInt8)))) && (t273 == 0 && (t274.toList == ([] : List UInt8) && (!t275)))) = false := by simpa using c111
    clear c111
    obtain rfl := Option.some.inj H
    cases hr_
 ·replace c4 := Bool.eq_false_iff.mpr c4
  subst c4
  have H1 : (some false) = some r := by rw [if_neg (show ¬ (false = true) by decide)] at H;exact H
  clear H
  have H := H1
  clear H1
  obtain rfl := Option.some.inj H
  cases hr_
end Go.Proofs.YtfmnmjoofnbnfaaDoor.U
end
