-- Written by a program of this session's own (wip/tool/myprint.py). Lean checks it.
import Derived.Test.YtfhnfhgpaoddbaaDoorU0
import Derived.Test.YtfhnfhgpaoddbaaDoorU2
import Derived.Test.YtfhnfhgpaoddbaaDoorU4
import Derived.Test.YtfhnfhgpaoddbaaDoorHc
import Derived.Test.YtfhnfhgpaoddbaaDoorHu
namespace Go.Proofs.YtfhnfhgpaoddbaaDoor.U
open Go.RowKit Go.Proofs.YtfhnfhgpaoddbaaDoorW.PrintWords Go.Proofs.YtfhnfhgpaoddbaaDoorW.PrintLast Go.Proofs.YtfhnfhgpaoddbaaDoorW.PrintMore
attribute [local go_sem] max2_int min2_int max_two min_two max_three min_three max_four min_four   -- for this text's walks alone
set_option linter.unusedVariables false
set_option linter.unusedSimpArgs false

/-! ### bodkinlaw01_UnitSeams: function 5 -/
mutual
def bodkinlaw01_UnitSeams.j0 : Nat → ByteArray → List (S30) → List (S30) → List (S30) → Int → Int → Bool → Option (Bool)
 | 0,_,_,_,_,_,_,_ => none
 | k + 1,x0,x6,x7,x8,x9,x10,x65 => if x65 = true then (some false) else (if (x7.length : Int) < (wrap64 ((x0.size : Int) - x9)) then (bodkinlaw01_UnitSeams.j1 k x6 x7 x8 x9 x10 (wrap64 ((x0.size : Int) - x9)) (wrap64 (x10 - (x0.size : Int))) true) else (bodkinlaw01_UnitSeams.j1 k x6 x7 x8 x9 x10 (wrap64 ((x0.size : Int) - x9)) (wrap64 (x10 - (x0.size : Int))) (decide ((x8.length : Int) < (wrap64 (x10 - (x0.size : Int)))))))
def bodkinlaw01_UnitSeams.j1 : Nat → List (S30) → List (S30) → List (S30) → Int → Int → Int → Int → Bool → Option (Bool)
 | 0,_,_,_,_,_,_,_,_ => none
 | k + 1,x6,x7,x8,x9,x10,x11,x12,x83 => if x83 = true then (some false) else (if (x6.length : Int) = (wrap64 ((wrap64 ((wrap64 ((wrap64 ((x7.length : Int) - x11)) + 1)) + (x8.length : Int))) - x12)) then (if 0 ≤ (wrap64 ((x7.length : Int) - x11)) then (if (wrap64 ((x7.length : Int) - x11)) ≤ (x6.length : Int) then (if (wrap64 ((x7.length : Int) - x11)) ≤ (x7.length : Int) then ((bodkinlaw01_alike.f k (x6.take ((wrap64 ((x7.length : Int) - x11)) : Int).toNat) (x7.take ((wrap64 ((x7.length : Int) - x11)) : Int).toNat)).bind fun t155 => (if t155 = true then (if 0 ≤ (wrap64 ((wrap64 ((x7.length : Int) - x11)) + 1)) then (if (wrap64 ((wrap64 ((x7.length : Int) - x11)) + 1)) ≤ (x6.length : Int) then (if 0 ≤ x12 then (if x12 ≤ (x8.length : Int) then ((bodkinlaw01_alike.f k (x6.drop ((wrap64 ((wrap64 ((x7.length : Int) - x11)) + 1)) : Int).toNat) (x8.drop (x12 : Int).toNat)).bind fun t164 => (if t164 = true then (if (wrap64 ((x7.length : Int) - x11)) < (x6.length : Int) then (if ((rd_T30 x6 (wrap64 ((x7.length : Int) - x11))).f1) = (wrap64 (x10 - x9)) then (some (decide (((rd_T30 x6 (wrap64 ((x7.length : Int) - x11))).f0) ≥ 0))) else (some false)) else (none)) else (some false))) else (none)) else (none)) else (none)) else (none)) else (some false))) else (none)) else (none)) else (none)) else (some false))
end
def bodkinlaw01_UnitSeams.f (k : Nat) (a0 : ByteArray) (a1 : ByteArray) : Option (Bool) := (bodkinlaw01_cuts.f).bind fun t124 => (if t124 = true then (if a0.size + a1.size ≤ 9223372036854775807 then ((unit_Units.f (a0 ++ a1)).bind fun t125 => ((unit_Units.f a0).bind fun t128 => ((unit_Units.f a1).bind fun t131 => ((unit_Boundary.f k (a0 ++ a1) (a0.size : Int)).bind fun t134 => (if t134 = true then ((some (([] : List (S30)) : List (S30))).bind fun y135 => (if y135.length + t128.length < 8796093022208 then ((some (y135 ++ t128 : List (S30))).bind fun y138 => (if y138.length + t131.length < 8796093022208 then ((bodkinlaw01_alike.f k t125 (y138 ++ t131)).bind fun t144 => (some t144)) else (none))) else (none))) else ((unit_Down.f k (a0 ++ a1) (a0.size : Int)).bind fun t145 => ((unit_Up.f k (a0 ++ a1) (a0.size : Int)).bind fun t146 => (if t145 ≥ (a0.size : Int) then (bodkinlaw01_UnitSeams.j0 k a0 t125 t128 t131 t145 t146 true) else (if t146 ≤ (a0.size : Int) then (bodkinlaw01_UnitSeams.j0 k a0 t125 t128 t131 t145 t146 true) else (if (wrap64 (t146 - t145)) < 2 then (bodkinlaw01_UnitSeams.j0 k a0 t125 t128 t131 t145 t146 true) else (bodkinlaw01_UnitSeams.j0 k a0 t125 t128 t131 t145 t146 (decide ((wrap64 (t146 - t145)) > 4))))))))))))) else (none)) else (some false))
theorem bodkinlaw01_UnitSeams.mono_l : ∀ k,(∀ y0 y1 y2 y3 y4 y5 y6,LeO (bodkinlaw01_UnitSeams.j0 k y0 y1 y2 y3 y4 y5 y6) (bodkinlaw01_UnitSeams.j0 (k + 1) y0 y1 y2 y3 y4 y5 y6)) ∧ (∀ y0 y1 y2 y3 y4 y5 y6 y7,LeO (bodkinlaw01_UnitSeams.j1 k y0 y1 y2 y3 y4 y5 y6 y7) (bodkinlaw01_UnitSeams.j1 (k + 1) y0 y1 y2 y3 y4 y5 y6 y7))
 | 0 => ⟨fun _ _ _ _ _ _ _ r h => by simp [bodkinlaw01_UnitSeams.j0] at h,fun _ _ _ _ _ _ _ _ r h => by simp [bodkinlaw01_UnitSeams.j1] at h⟩
 | k + 1 => by
  obtain ⟨ih0,ih1⟩ := bodkinlaw01_UnitSeams.mono_l k
  refine ⟨?_,?_⟩
  ·intro y0 y1 y2 y3 y4 y5 y6
   unfold bodkinlaw01_UnitSeams.j0
   repeat' first
   | (with_reducible exact ih0 _ _ _ _ _ _ _)
   | (with_reducible exact ih1 _ _ _ _ _ _ _ _)
   | (with_reducible exact bodkinlaw01_alike.mono _ _ _)
   | (with_reducible exact unit_Boundary.mono _ _ _)
   | (with_reducible exact unit_Down.mono _ _ _)
   | (with_reducible exact unit_Up.mono _ _ _)
   | (with_reducible exact LeO.refl _)
   | (with_reducible exact LeO.none _)
   | (with_reducible refine LeO.ite ?_ ?_)
   | (with_reducible refine LeO.bind ?_ (fun _ => ?_))
   | exact ih0 _ _ _ _ _ _ _
   | exact ih1 _ _ _ _ _ _ _ _
   | exact bodkinlaw01_alike.mono _ _ _
   | exact unit_Boundary.mono _ _ _
   | exact unit_Down.mono _ _ _
   | exact unit_Up.mono _ _ _
   | exact LeO.none _
   | refine LeO.ite ?_ ?_
   | refine LeO.bind ?_ (fun _ => ?_)
  ·intro y0 y1 y2 y3 y4 y5 y6 y7
   unfold bodkinlaw01_UnitSeams.j1
   repeat' first
   | (with_reducible exact ih0 _ _ _ _ _ _ _)
   | (with_reducible exact ih1 _ _ _ _ _ _ _ _)
   | (with_reducible exact bodkinlaw01_alike.mono _ _ _)
   | (with_reducible exact unit_Boundary.mono _ _ _)
   | (with_reducible exact unit_Down.mono _ _ _)
   | (with_reducible exact unit_Up.mono _ _ _)
   | (with_reducible exact LeO.refl _)
   | (with_reducible exact LeO.none _)
   | (with_reducible refine LeO.ite ?_ ?_)
   | (with_reducible refine LeO.bind ?_ (fun _ => ?_))
   | exact ih0 _ _ _ _ _ _ _
   | exact ih1 _ _ _ _ _ _ _ _
   | exact bodkinlaw01_alike.mono _ _ _
   | exact unit_Boundary.mono _ _ _
   | exact unit_Down.mono _ _ _
   | exact unit_Up.mono _ _ _
   | exact LeO.none _
   | refine LeO.ite ?_ ?_
   | refine LeO.bind ?_ (fun _ => ?_)
theorem bodkinlaw01_UnitSeams.mono : ∀ a0 a1 k,LeO (bodkinlaw01_UnitSeams.f k a0 a1) (bodkinlaw01_UnitSeams.f (k + 1) a0 a1) := by
 intro a0 a1 k
 obtain ⟨ih0,ih1⟩ := bodkinlaw01_UnitSeams.mono_l k
 unfold bodkinlaw01_UnitSeams.f
 repeat' first
   | (with_reducible exact ih0 _ _ _ _ _ _ _)
   | (with_reducible exact ih1 _ _ _ _ _ _ _ _)
   | (with_reducible exact bodkinlaw01_alike.mono _ _ _)
   | (with_reducible exact unit_Boundary.mono _ _ _)
   | (with_reducible exact unit_Down.mono _ _ _)
   | (with_reducible exact unit_Up.mono _ _ _)
   | (with_reducible exact LeO.refl _)
   | (with_reducible exact LeO.none _)
   | (with_reducible refine LeO.ite ?_ ?_)
   | (with_reducible refine LeO.bind ?_ (fun _ => ?_))
   | exact ih0 _ _ _ _ _ _ _
   | exact ih1 _ _ _ _ _ _ _ _
   | exact bodkinlaw01_alike.mono _ _ _
   | exact unit_Boundary.mono _ _ _
   | exact unit_Down.mono _ _ _
   | exact unit_Up.mono _ _ _
   | exact LeO.none _
   | refine LeO.ite ?_ ?_
   | refine LeO.bind ?_ (fun _ => ?_)
def bodkinlaw01_UnitSeams.T14 : Bool × List (List Nat × List Nat) := (true,[([],[]),([0],[0]),([],[]),([2],[2]),([],[]),([4],[4]),([3,5],[3,5]),([],[]),([6,7],[6,7]),([1,8],[1,8]),([9],[9]),([10],[10]),([10],[10]),([11,12,10],[10,11,12]),([10],[10]),([10],[10]),([14,15,10],[10,14,15]),([13,16,10,10],[10,13,16]),([10,17],[10,17]),([18,17],[18]),([19],[19]),([19],[19]),([21,19],[19,21]),([20,22,19],[19,20,22]),([19],[19]),([19],[19]),([24,25,19],[19,24,25]),([23,26,19,19],[19,23,26]),([19,27],[19,27]),([28,27],[28]),([29],[29]),([29],[29]),([30,31,29],[29,30,31]),([32,29],[29,32]),([33,29],[29,33]),([29],[29]),([29],[29]),([35,36,29],[29,35,36]),([34,37,29],[29,34,37]),([29,38],[29,38]),([39,29],[39]),([40],[40]),([40],[40]),([41,42,40],[40,41,42]),([43,40],[40,43]),([44,40],[40,44]),([45,40],[40,45]),([40,46],[40,46]),([47,40,0,1,2,3,4,5,6,7,8,9,10,11,12,13,14,15,16,17,18,19,20,21,22,23,24,25,26,27,28,29,30,31,32,33,34,35,36,37,38,39,40,41,42,43,44,45,46,47],[47])])
def bodkinlaw01_UnitSeams.B14 : List Nat := [0,1,0,4,0,16,60,0,252,511,1023,2047,2047,8191,2047,2047,51199,131071,262143,524287,1048575,1048575,3145727,8388607,1048575,1048575,51380223,134217727,268435455,536870911,1073741823,1073741823,4294967295,8589934591,17179869183,1073741823,1073741823,104152956927,274877906943,549755813887,1099511627775,2199023255551,2199023255551,8796093022207,17592186044415,35184372088831,70368744177663,140737488355327,281474976710655]
theorem bodkinlaw01_UnitSeams.tab14 : rtab .any (opsOf Tryd.f5 14) = bodkinlaw01_UnitSeams.T14 := by kernel_rfl
theorem bodkinlaw01_UnitSeams.bits14 : waitsOk bodkinlaw01_UnitSeams.T14.2 bodkinlaw01_UnitSeams.B14 = true := by kernel_rfl
set_option maxHeartbeats 8000000 in
set_option maxRecDepth 100000 in
theorem bodkinlaw01_UnitSeams.calls (k : Nat) (a0 : ByteArray) (a1 : ByteArray) (r : Bool) (w : World) (hT : Lib.Utf8Tabs 0 1 w) (h : bodkinlaw01_UnitSeams.f k a0 a1 = some r) :
  Calls Tryd.prog 5 #[.string a0,.string a1] w fun e w' => e = .returned (.bool r) ∧ Below w.heap.size w w' := by
 have HT := Aside0.mk hT
 clear hT
 have HB := Aside0.mk (Below.refl w.heap.size w)
 have H : ((bodkinlaw01_cuts.f).bind fun t124 => (if t124 = true then (if a0.size + a1.size ≤ 9223372036854775807 then ((unit_Units.f (a0 ++ a1)).bind fun t125 => ((unit_Units.f a0).bind fun t128 => ((unit_Units.f a1).bind fun t131 => ((unit_Boundary.f k (a0 ++ a1) (a0.size : Int)).bind fun t134 => (if t134 = true then ((some (([] : List (S30)) : List (S30))).bind fun y135 => (if y135.length + t128.length < 8796093022208 then ((some (y135 ++ t128 : List (S30))).bind fun y138 => (if y138.length + t131.length < 8796093022208 then ((bodkinlaw01_alike.f k t125 (y138 ++ t131)).bind fun t144 => (some t144)) else (none))) else (none))) else ((unit_Down.f k (a0 ++ a1) (a0.size : Int)).bind fun t145 => ((unit_Up.f k (a0 ++ a1) (a0.size : Int)).bind fun t146 => (if t145 ≥ (a0.size : Int) then (bodkinlaw01_UnitSeams.j0 k a0 t125 t128 t131 t145 t146 true) else (if t146 ≤ (a0.size : Int) then (bodkinlaw01_UnitSeams.j0 k a0 t125 t128 t131 t145 t146 true) else (if (wrap64 (t146 - t145)) < 2 then (bodkinlaw01_UnitSeams.j0 k a0 t125 t128 t131 t145 t146 true) else (bodkinlaw01_UnitSeams.j0 k a0 t125 t128 t131 t145 t146 (decide ((wrap64 (t146 - t145)) > 4))))))))))))) else (none)) else (some false))) = some r := h
 clear h
 replace H := Option.bind_eq_some_iff.mp H
 obtain ⟨t124,A30,H⟩ := H
 replace H : (if t124 = true then (if a0.size + a1.size ≤ 9223372036854775807 then ((unit_Units.f (a0 ++ a1)).bind fun t125 => ((unit_Units.f a0).bind fun t128 => ((unit_Units.f a1).bind fun t131 => ((unit_Boundary.f k (a0 ++ a1) (a0.size : Int)).bind fun t134 => (if t134 = true then ((some (([] : List (S30)) : List (S30))).bind fun y135 => (if y135.length + t128.length < 8796093022208 then ((some (y135 ++ t128 : List (S30))).bind fun y138 => (if y138.length + t131.length < 8796093022208 then ((bodkinlaw01_alike.f k t125 (y138 ++ t131)).bind fun t144 => (some t144)) else (none))) else (none))) else ((unit_Down.f k (a0 ++ a1) (a0.size : Int)).bind fun t145 => ((unit_Up.f k (a0 ++ a1) (a0.size : Int)).bind fun t146 => (if t145 ≥ (a0.size : Int) then (bodkinlaw01_UnitSeams.j0 k a0 t125 t128 t131 t145 t146 true) else (if t146 ≤ (a0.size : Int) then (bodkinlaw01_UnitSeams.j0 k a0 t125 t128 t131 t145 t146 true) else (if (wrap64 (t146 - t145)) < 2 then (bodkinlaw01_UnitSeams.j0 k a0 t125 t128 t131 t145 t146 true) else (bodkinlaw01_UnitSeams.j0 k a0 t125 t128 t131 t145 t146 (decide ((wrap64 (t146 - t145)) > 4))))))))))))) else (none)) else (some false)) = some r := H
 have A3 := Aside0.mk A30
 clear A30
 by_cases c4 : t124 = true
 ·subst c4
  have H1 : (if a0.size + a1.size ≤ 9223372036854775807 then ((unit_Units.f (a0 ++ a1)).bind fun t125 => ((unit_Units.f a0).bind fun t128 => ((unit_Units.f a1).bind fun t131 => ((unit_Boundary.f k (a0 ++ a1) (a0.size : Int)).bind fun t134 => (if t134 = true then ((some (([] : List (S30)) : List (S30))).bind fun y135 => (if y135.length + t128.length < 8796093022208 then ((some (y135 ++ t128 : List (S30))).bind fun y138 => (if y138.length + t131.length < 8796093022208 then ((bodkinlaw01_alike.f k t125 (y138 ++ t131)).bind fun t144 => (some t144)) else (none))) else (none))) else ((unit_Down.f k (a0 ++ a1) (a0.size : Int)).bind fun t145 => ((unit_Up.f k (a0 ++ a1) (a0.size : Int)).bind fun t146 => (if t145 ≥ (a0.size : Int) then (bodkinlaw01_UnitSeams.j0 k a0 t125 t128 t131 t145 t146 true) else (if t146 ≤ (a0.size : Int) then (bodkinlaw01_UnitSeams.j0 k a0 t125 t128 t131 t145 t146 true) else (if (wrap64 (t146 - t145)) < 2 then (bodkinlaw01_UnitSeams.j0 k a0 t125 t128 t131 t145 t146 true) else (bodkinlaw01_UnitSeams.j0 k a0 t125 t128 t131 t145 t146 (decide ((wrap64 (t146 - t145)) > 4))))))))))))) else (none)) = some r := by rw [if_pos rfl] at H;exact H
  clear H
  have H := H1
  clear H1
  by_cases c5 : a0.size + a1.size ≤ 9223372036854775807
  ·rw [if_pos c5] at H
   have c5b0 := eq_true c5
   have c5b1 : decide (a0.size + a1.size ≤ 9223372036854775807) = true := decide_eq_true c5
   try have c5b2 : (9223372036854775807 < a0.size + a1.size) = False := eq_false (Nat.not_lt.2 c5)
   replace H := Option.bind_eq_some_iff.mp H
   obtain ⟨t125,A60,H⟩ := H
   replace H : ((unit_Units.f a0).bind fun t128 => ((unit_Units.f a1).bind fun t131 => ((unit_Boundary.f k (a0 ++ a1) (a0.size : Int)).bind fun t134 => (if t134 = true then ((some (([] : List (S30)) : List (S30))).bind fun y135 => (if y135.length + t128.length < 8796093022208 then ((some (y135 ++ t128 : List (S30))).bind fun y138 => (if y138.length + t131.length < 8796093022208 then ((bodkinlaw01_alike.f k t125 (y138 ++ t131)).bind fun t144 => (some t144)) else (none))) else (none))) else ((unit_Down.f k (a0 ++ a1) (a0.size : Int)).bind fun t145 => ((unit_Up.f k (a0 ++ a1) (a0.size : Int)).bind fun t146 => (if t145 ≥ (a0.size : Int) then (bodkinlaw01_UnitSeams.j0 k a0 t125 t128 t131 t145 t146 true) else (if t146 ≤ (a0.size : Int) then (bodkinlaw01_UnitSeams.j0 k a0 t125 t128 t131 t145 t146 true) else (if (wrap64 (t146 - t145)) < 2 then (bodkinlaw01_UnitSeams.j0 k a0 t125 t128 t131 t145 t146 true) else (bodkinlaw01_UnitSeams.j0 k a0 t125 t128 t131 t145 t146 (decide ((wrap64 (t146 - t145)) > 4)))))))))))) = some r := H
   have A6 := Aside0.mk A60
   clear A60
   replace H := Option.bind_eq_some_iff.mp H
   obtain ⟨t128,A70,H⟩ := H
   replace H : ((unit_Units.f a1).bind fun t131 => ((unit_Boundary.f k (a0 ++ a1) (a0.size : Int)).bind fun t134 => (if t134 = true then ((some (([] : List (S30)) : List (S30))).bind fun y135 => (if y135.length + t128.length < 8796093022208 then ((some (y135 ++ t128 : List (S30))).bind fun y138 => (if y138.length + t131.length < 8796093022208 then ((bodkinlaw01_alike.f k t125 (y138 ++ t131)).bind fun t144 => (some t144)) else (none))) else (none))) else ((unit_Down.f k (a0 ++ a1) (a0.size : Int)).bind fun t145 => ((unit_Up.f k (a0 ++ a1) (a0.size : Int)).bind fun t146 => (if t145 ≥ (a0.size : Int) then (bodkinlaw01_UnitSeams.j0 k a0 t125 t128 t131 t145 t146 true) else (if t146 ≤ (a0.size : Int) then (bodkinlaw01_UnitSeams.j0 k a0 t125 t128 t131 t145 t146 true) else (if (wrap64 (t146 - t145)) < 2 then (bodkinlaw01_UnitSeams.j0 k a0 t125 t128 t131 t145 t146 true) else (bodkinlaw01_UnitSeams.j0 k a0 t125 t128 t131 t145 t146 (decide ((wrap64 (t146 - t145)) > 4))))))))))) = some r := H
   have A7 := Aside0.mk A70
   clear A70
   replace H := Option.bind_eq_some_iff.mp H
   obtain ⟨t131,A80,H⟩ := H
   replace H : ((unit_Boundary.f k (a0 ++ a1) (a0.size : Int)).bind fun t134 => (if t134 = true then ((some (([] : List (S30)) : List (S30))).bind fun y135 => (if y135.length + t128.length < 8796093022208 then ((some (y135 ++ t128 : List (S30))).bind fun y138 => (if y138.length + t131.length < 8796093022208 then ((bodkinlaw01_alike.f k t125 (y138 ++ t131)).bind fun t144 => (some t144)) else (none))) else (none))) else ((unit_Down.f k (a0 ++ a1) (a0.size : Int)).bind fun t145 => ((unit_Up.f k (a0 ++ a1) (a0.size : Int)).bind fun t146 => (if t145 ≥ (a0.size : Int) then (bodkinlaw01_UnitSeams.j0 k a0 t125 t128 t131 t145 t146 true) else (if t146 ≤ (a0.size : Int) then (bodkinlaw01_UnitSeams.j0 k a0 t125 t128 t131 t145 t146 true) else (if (wrap64 (t146 - t145)) < 2 then (bodkinlaw01_UnitSeams.j0 k a0 t125 t128 t131 t145 t146 true) else (bodkinlaw01_UnitSeams.j0 k a0 t125 t128 t131 t145 t146 (decide ((wrap64 (t146 - t145)) > 4)))))))))) = some r := H
   have A8 := Aside0.mk A80
   clear A80
   replace H := Option.bind_eq_some_iff.mp H
   obtain ⟨t134,A90,H⟩ := H
   replace H : (if t134 = true then ((some (([] : List (S30)) : List (S30))).bind fun y135 => (if y135.length + t128.length < 8796093022208 then ((some (y135 ++ t128 : List (S30))).bind fun y138 => (if y138.length + t131.length < 8796093022208 then ((bodkinlaw01_alike.f k t125 (y138 ++ t131)).bind fun t144 => (some t144)) else (none))) else (none))) else ((unit_Down.f k (a0 ++ a1) (a0.size : Int)).bind fun t145 => ((unit_Up.f k (a0 ++ a1) (a0.size : Int)).bind fun t146 => (if t145 ≥ (a0.size : Int) then (bodkinlaw01_UnitSeams.j0 k a0 t125 t128 t131 t145 t146 true) else (if t146 ≤ (a0.size : Int) then (bodkinlaw01_UnitSeams.j0 k a0 t125 t128 t131 t145 t146 true) else (if (wrap64 (t146 - t145)) < 2 then (bodkinlaw01_UnitSeams.j0 k a0 t125 t128 t131 t145 t146 true) else (bodkinlaw01_UnitSeams.j0 k a0 t125 t128 t131 t145 t146 (decide ((wrap64 (t146 - t145)) > 4))))))))) = some r := H
   have A9 := Aside0.mk A90
   clear A90
   by_cases c10 : t134 = true
   ·subst c10
    have H1 : ((some (([] : List (S30)) : List (S30))).bind fun y135 => (if y135.length + t128.length < 8796093022208 then ((some (y135 ++ t128 : List (S30))).bind fun y138 => (if y138.length + t131.length < 8796093022208 then ((bodkinlaw01_alike.f k t125 (y138 ++ t131)).bind fun t144 => (some t144)) else (none))) else (none))) = some r := by rw [if_pos rfl] at H;exact H
    clear H
    have H := H1
    clear H1
    obtain ⟨y135,hy135⟩ : ∃ y_ : List (S30),y_ = (([] : List (S30))) := ⟨_,rfl⟩
    replace H : (if y135.length + t128.length < 8796093022208 then ((some (y135 ++ t128 : List (S30))).bind fun y138 => (if y138.length + t131.length < 8796093022208 then ((bodkinlaw01_alike.f k t125 (y138 ++ t131)).bind fun t144 => (some t144)) else (none))) else (none)) = some r := by first | (rw [hy135];with_reducible exact H) | (have H2_ := (Option.bind_some _ _).symm.trans H;rw [hy135];with_reducible exact H2_) | (have H2_ := (Option.bind_some _ _).symm.trans H;with_reducible exact H2_) | with_reducible exact H | (rw [hy135];exact H) | exact H
    have Ny135 := Aside0.mk hy135
    clear hy135
    by_cases c11 : y135.length + t128.length < 8796093022208
    ·rw [if_pos c11] at H
     have LMc11 := Aside0.mk c11
     clear c11
     obtain ⟨y138,hy138⟩ : ∃ y_ : List (S30),y_ = (y135 ++ t128) := ⟨_,rfl⟩
     replace H : (if y138.length + t131.length < 8796093022208 then ((bodkinlaw01_alike.f k t125 (y138 ++ t131)).bind fun t144 => (some t144)) else (none)) = some r := by first | (rw [hy138];with_reducible exact H) | (have H2_ := (Option.bind_some _ _).symm.trans H;rw [hy138];with_reducible exact H2_) | (have H2_ := (Option.bind_some _ _).symm.trans H;with_reducible exact H2_) | with_reducible exact H | (rw [hy138];exact H) | exact H
     have Ny138 := Aside0.mk hy138
     clear hy138
     by_cases c12 : y138.length + t131.length < 8796093022208
     ·rw [if_pos c12] at H
      have LMc12 := Aside0.mk c12
      clear c12
      obtain ⟨y141,hy141⟩ : ∃ y_ : List (S30),y_ = (y138 ++ t131) := ⟨_,rfl⟩
      replace H : ((bodkinlaw01_alike.f k t125 y141).bind fun t144 => (some t144)) = some r := by first | (rw [hy141];with_reducible exact H) | (have H2_ := (Option.bind_some _ _).symm.trans H;rw [hy141];with_reducible exact H2_) | (have H2_ := (Option.bind_some _ _).symm.trans H;with_reducible exact H2_) | with_reducible exact H | (rw [hy141];exact H) | exact H
      have Ny141 := Aside0.mk hy141
      clear hy141
      replace H := Option.bind_eq_some_iff.mp H
      obtain ⟨t144,A130,H⟩ := H
      replace H : (some t144) = some r := H
      have A13 := Aside0.mk A130
      clear A130
      obtain rfl := Option.some.inj H
      go_enter Tryd.func5,Tryd.ntmps5
      go_wp2_with (first | ((with_reducible refine gate_callee (f := 21) rfl ?_);refine goesL_ (some 14) rfl rfl Tryd.func21 (by kernel_rfl) rfl #[] rfl (by (try simp only [List.map_toArray,List.map_cons,List.map_nil]);first | done | rfl | (simp only [List.length_drop,List.length_take];rfl)) ?_;(with_reducible refine (bodkinlaw01_cuts.calls  true _ ?side1 A3.out).mono ?_);(case side1 => exact tabs_below HT.out (by repeat (first | (with_reducible first | exact HB.out | apply below_alloc | apply pw_below_drewN | apply below_drew1) | exact HB.out)));rintro e w14 ⟨rfl,hb⟩;refine ⟨_,rfl,?_⟩;have n0_ := Aside0.mk (below_step (by repeat (first | (with_reducible first | exact HB.out | apply below_alloc | apply pw_below_drewN | apply below_drew1) | exact HB.out)) hb);clear HB;have HB := n0_;clear n0_;(try clear hb);(try clear hb2);(try clear hk);(try clear hi)) | ((with_reducible refine gate_callee (f := 23) rfl ?_);refine goesL_ (some 20) rfl rfl Tryd.func23 (by kernel_rfl) rfl #[.string (a0 ++ a1)] rfl (by (try simp only [List.map_toArray,List.map_cons,List.map_nil]);first | done | rfl | (simp only [List.length_drop,List.length_take];rfl)) ?_;(with_reducible refine (unit_Units.calls (a0 ++ a1) t125 _ ?side1 A6.out).mono ?_);(case side1 => exact tabs_below HT.out (by repeat (first | (with_reducible first | exact HB.out | apply below_alloc | apply pw_below_drewN | apply below_drew1) | exact HB.out)));rintro e w15 ⟨v126,rfl,ho0,hb⟩;refine ⟨_,rfl,?_⟩;have n0_ := Aside0.mk (Kd.R_lower ho0 (below_size (by repeat (first | (with_reducible first | exact HB.out | apply below_alloc | apply pw_below_drewN | apply below_drew1) | exact HB.out))));have n1_ := Aside0.mk (below_step (by repeat (first | (with_reducible first | exact HB.out | apply below_alloc | apply pw_below_drewN | apply below_drew1) | exact HB.out)) hb);clear HB;have HO127 := n0_;have HB := n1_;clear n0_ n1_;(try clear hb);(try clear hb2);(try clear hk);(try clear hi);(try clear ho0)) | ((with_reducible refine gate_callee (f := 23) rfl ?_);refine goesL_ (some 22) rfl rfl Tryd.func23 (by kernel_rfl) rfl #[.string a0] rfl (by (try simp only [List.map_toArray,List.map_cons,List.map_nil]);first | done | rfl | (simp only [List.length_drop,List.length_take];rfl)) ?_;(with_reducible refine (unit_Units.calls a0 t128 _ ?side1 A7.out).mono ?_);(case side1 => exact tabs_below HT.out (by repeat (first | (with_reducible first | exact HB.out | apply below_alloc | apply pw_below_drewN | apply below_drew1) | exact HB.out)));rintro e w16 ⟨v129,rfl,ho0,hb⟩;refine ⟨_,rfl,?_⟩;have n0_ := Aside0.mk (Kd.R_elder' (by (with_reducible repeat (first | apply Kd.R_alloc | apply Kd.R_drewN | apply Kd.R_drew));exact HO127.out) (Kd.R_base ho0) hb);have n1_ := Aside0.mk (Kd.R_lower (Kd.R_new' ho0 (Kd.R_lt (by (with_reducible repeat (first | apply Kd.R_alloc | apply Kd.R_drewN | apply Kd.R_drew));exact HO127.out))) (below_size (by repeat (first | (with_reducible first | exact HB.out | apply below_alloc | apply pw_below_drewN | apply below_drew1) | exact HB.out))));have n2_ := Aside0.mk (below_step (by repeat (first | (with_reducible first | exact HB.out | apply below_alloc | apply pw_below_drewN | apply below_drew1) | exact HB.out)) hb);clear HO127;clear HB;have HO127 := n0_;have HO130 := n1_;have HB := n2_;clear n0_ n1_ n2_;(try clear hb);(try clear hb2);(try clear hk);(try clear hi);(try clear ho0)) | ((with_reducible refine gate_callee (f := 23) rfl ?_);refine goesL_ (some 24) rfl rfl Tryd.func23 (by kernel_rfl) rfl #[.string a1] rfl (by (try simp only [List.map_toArray,List.map_cons,List.map_nil]);first | done | rfl | (simp only [List.length_drop,List.length_take];rfl)) ?_;(with_reducible refine (unit_Units.calls a1 t131 _ ?side1 A8.out).mono ?_);(case side1 => exact tabs_below HT.out (by repeat (first | (with_reducible first | exact HB.out | apply below_alloc | apply pw_below_drewN | apply below_drew1) | exact HB.out)));rintro e w17 ⟨v132,rfl,ho0,hb⟩;refine ⟨_,rfl,?_⟩;have n0_ := Aside0.mk (Kd.R_elder' (by (with_reducible repeat (first | apply Kd.R_alloc | apply Kd.R_drewN | apply Kd.R_drew));exact HO127.out) (Kd.R_base ho0) hb);have n1_ := Aside0.mk (Kd.R_elder' (by (with_reducible repeat (first | apply Kd.R_alloc | apply Kd.R_drewN | apply Kd.R_drew));exact HO130.out) (Kd.R_base ho0) hb);have n2_ := Aside0.mk (Kd.R_lower (Kd.R_new' (Kd.R_new' ho0 (Kd.R_lt (by (with_reducible repeat (first | apply Kd.R_alloc | apply Kd.R_drewN | apply Kd.R_drew));exact HO127.out))) (Kd.R_lt (by (with_reducible repeat (first | apply Kd.R_alloc | apply Kd.R_drewN | apply Kd.R_drew));exact HO130.out))) (below_size (by repeat (first | (with_reducible first | exact HB.out | apply below_alloc | apply pw_below_drewN | apply below_drew1) | exact HB.out))));have n3_ := Aside0.mk (below_step (by repeat (first | (with_reducible first | exact HB.out | apply below_alloc | apply pw_below_drewN | apply below_drew1) | exact HB.out)) hb);clear HO127;clear HO130;clear HB;have HO127 := n0_;have HO130 := n1_;have HO133 := n2_;have HB := n3_;clear n0_ n1_ n2_ n3_;(try clear hb);(try clear hb2);(try clear hk);(try clear hi);(try clear ho0)) | ((with_reducible refine gate_callee (f := 22) rfl ?_);refine goesL_ (some 28) rfl rfl Tryd.func22 (by kernel_rfl) rfl #[.string (a0 ++ a1),.int .i64 (a0.size : Int)] rfl (by (try simp only [List.map_toArray,List.map_cons,List.map_nil]);first | done | rfl | (simp only [List.length_drop,List.length_take];rfl)) ?_;(with_reducible refine (unit_Boundary.calls k (a0 ++ a1) (a0.size : Int) true _ ?side1 A9.out).mono ?_);(case side1 => exact tabs_below HT.out (by repeat (first | (with_reducible first | exact HB.out | apply below_alloc | apply pw_below_drewN | apply below_drew1) | exact HB.out)));rintro e w18 ⟨rfl,hb⟩;refine ⟨_,rfl,?_⟩;have n0_ := Aside0.mk (Kd.R_below (by (with_reducible repeat (first | apply Kd.R_alloc | apply Kd.R_drewN | apply Kd.R_drew));exact HO127.out) hb);have n1_ := Aside0.mk (Kd.R_below (by (with_reducible repeat (first | apply Kd.R_alloc | apply Kd.R_drewN | apply Kd.R_drew));exact HO130.out) hb);have n2_ := Aside0.mk (Kd.R_below (by (with_reducible repeat (first | apply Kd.R_alloc | apply Kd.R_drewN | apply Kd.R_drew));exact HO133.out) hb);have n3_ := Aside0.mk (below_step (by repeat (first | (with_reducible first | exact HB.out | apply below_alloc | apply pw_below_drewN | apply below_drew1) | exact HB.out)) hb);clear HO127;clear HO130;clear HO133;clear HB;have HO127 := n0_;have HO130 := n1_;have HO133 := n2_;have HB := n3_;clear n0_ n1_ n2_ n3_;(try clear hb);(try clear hb2);(try clear hk);(try clear hi)) | ((with_reducible refine gate_dst (N := 30) rfl ?_);(try (refine gate_guard (by rfl) ?_;dsimp only));refine Kd.R_lit k30 _ 30 ?hg (N := 30) ?hd (xs := ([] : List (S30))) (inner := []) (ok := fun _ => True) (okp := fun _ => True) ?hr ?hp (fun _ hk => hk) trivial (Below.refl _ _) (Nat.le_refl _) (by simp) ?_;(case hd => rfl);(case hg => rfl);(case hr => first | (go_simp;done) | (go_simp;rfl));(case hp => exact (Reps.none _ _));intro v136 w19 ho20 hb hg_ hnew_;clear hg_ hnew_;(first | rw [← Ny135.out] at ho20 | (simp only [Int.reduceToNat] at ho20;rw [← Ny135.out] at ho20));have n0_ := Aside0.mk (Kd.R_elder' (by (with_reducible repeat (first | apply Kd.R_alloc | apply Kd.R_drewN | apply Kd.R_drew));exact HO127.out) (Kd.R_base ho20) hb);have n1_ := Aside0.mk (Kd.R_elder' (by (with_reducible repeat (first | apply Kd.R_alloc | apply Kd.R_drewN | apply Kd.R_drew));exact HO130.out) (Kd.R_base ho20) hb);have n2_ := Aside0.mk (Kd.R_elder' (by (with_reducible repeat (first | apply Kd.R_alloc | apply Kd.R_drewN | apply Kd.R_drew));exact HO133.out) (Kd.R_base ho20) hb);have n3_ := Aside0.mk (Kd.R_lower (Kd.R_new' (Kd.R_new' (Kd.R_new' ho20 (Kd.R_lt (by (with_reducible repeat (first | apply Kd.R_alloc | apply Kd.R_drewN | apply Kd.R_drew));exact HO127.out))) (Kd.R_lt (by (with_reducible repeat (first | apply Kd.R_alloc | apply Kd.R_drewN | apply Kd.R_drew));exact HO130.out))) (Kd.R_lt (by (with_reducible repeat (first | apply Kd.R_alloc | apply Kd.R_drewN | apply Kd.R_drew));exact HO133.out))) (below_size (by repeat (first | (with_reducible first | exact HB.out | apply below_alloc | apply pw_below_drewN | apply below_drew1) | exact HB.out))));have n4_ := Aside0.mk (below_step (by repeat (first | (with_reducible first | exact HB.out | apply below_alloc | apply pw_below_drewN | apply below_drew1) | exact HB.out)) hb);clear HO127;clear HO130;clear HO133;clear HB;have HO127 := n0_;have HO130 := n1_;have HO133 := n2_;have HO137 := n3_;have HB := n4_;clear n0_ n1_ n2_ n3_ n4_;clear hb ho20;obtain ⟨Ao22,co22,eo22⟩ := Kd.R_slice HO130.out;subst eo22) | ((with_reducible refine gate_builtin (b := .append) (xs := #[.tmp 30,.tmp 31]) rfl ?_);(try (refine gate_guard (by rfl) ?_;dsimp only));at_builtin;refine Kd.R_append_rows k30 (w0 := w) w.heap.size rfl (.tmp 30) (.tmp 31) 27 30 (.agg #[(.int .i32 0),(.int .i64 0)]) 16 rfl Tryd.underlying27 info30 rfl (by decide) (by omega) v136 y135 t128 _ _ _ (fun k_ => some k_ ≠ (v126 : Value).ownBlock ∧ some k_ ≠ (.slice Ao22 t128.length co22 : Value).ownBlock ∧ some k_ ≠ (v132 : Value).ownBlock) (fun _ => False) rfl rfl ?aO ?aR (fun _ _ h => h) (fun _ h => h.elim) ?aF ?aB ?aS ?aL ?_;(case aR => repeat (first | exact (Kd.R_reads' HO130.out).2.2 | (with_reducible refine Kd.C_alloc ?_ _) | (with_reducible refine Kd.C_drewN ?_ _) | (with_reducible refine Kd.C_drew ?_)));(case aB => exact (by repeat (first | (with_reducible first | exact HB.out | apply below_alloc | apply pw_below_drewN | apply below_drew1) | exact HB.out)));(case aF => exact (fun k_ hk => ⟨Kd.fresh' (Kd.R_lt (by (with_reducible repeat (first | apply Kd.R_alloc | apply Kd.R_drewN | apply Kd.R_drew));exact HO127.out)) k_ hk,Kd.fresh' (Kd.R_lt (by (with_reducible repeat (first | apply Kd.R_alloc | apply Kd.R_drewN | apply Kd.R_drew));exact HO130.out)) k_ hk,Kd.fresh' (Kd.R_lt (by (with_reducible repeat (first | apply Kd.R_alloc | apply Kd.R_drewN | apply Kd.R_drew));exact HO133.out)) k_ hk⟩));(case aO => exact (by (with_reducible repeat (first | apply Kd.R_alloc | apply Kd.R_drewN | apply Kd.R_drew));exact Kd.R_mono HO137.out (fun _ hk => ⟨hk.1.1.2,⟨hk.1.2,hk.2⟩⟩)));(case aS => exact (below_size (by repeat (first | (with_reducible first | exact HB.out | apply below_alloc | apply pw_below_drewN | apply below_drew1) | exact HB.out))));(case aL => have := LMc11.out;omega);intro v139 w21 ho hb hg hat;rw [← Ny138.out] at ho;have n0_ := Aside0.mk (Kd.R_after (ok := (fun k_ => some k_ ≠ (.slice Ao22 t128.length co22 : Value).ownBlock ∧ some k_ ≠ (v132 : Value).ownBlock)) (by (with_reducible repeat (first | apply Kd.R_alloc | apply Kd.R_drewN | apply Kd.R_drew));exact Kd.R_mono HO127.out (fun _ hk => ⟨⟨hk.1.1.2,hk.1.2⟩,hk.2⟩)) hg hat);have n1_ := Aside0.mk (Kd.R_after (ok := (fun k_ => some k_ ≠ (v126 : Value).ownBlock ∧ some k_ ≠ (v132 : Value).ownBlock)) (by (with_reducible repeat (first | apply Kd.R_alloc | apply Kd.R_drewN | apply Kd.R_drew));exact Kd.R_mono HO130.out (fun _ hk => ⟨⟨hk.1.1.2,hk.1.2⟩,hk.2⟩)) hg hat);have n2_ := Aside0.mk (Kd.R_after (ok := (fun k_ => some k_ ≠ (v126 : Value).ownBlock ∧ some k_ ≠ (.slice Ao22 t128.length co22 : Value).ownBlock)) (by (with_reducible repeat (first | apply Kd.R_alloc | apply Kd.R_drewN | apply Kd.R_drew));exact Kd.R_mono HO133.out (fun _ hk => ⟨⟨hk.1.1.2,hk.1.2⟩,hk.2⟩)) hg hat);have n3_ := Aside0.mk (hb);have n4_ := Aside0.mk (ho);clear HO127;clear HO130;clear HO133;clear HB;clear HO137;have HO127 := n0_;have HO130 := n1_;have HO133 := n2_;have HB := n3_;have HO140 := n4_;clear n0_ n1_ n2_ n3_ n4_;clear ho hb hg hat;obtain ⟨Ao24,co24,eo24⟩ := Kd.R_slice HO133.out;subst eo24) | ((with_reducible refine gate_builtin (b := .append) (xs := #[.tmp 32,.tmp 33]) rfl ?_);(try (refine gate_guard (by rfl) ?_;dsimp only));at_builtin;refine Kd.R_append_rows k30 (w0 := w) w.heap.size rfl (.tmp 32) (.tmp 33) 27 30 (.agg #[(.int .i32 0),(.int .i64 0)]) 16 rfl Tryd.underlying27 info30 rfl (by decide) (by omega) v139 y138 t131 _ _ _ (fun k_ => some k_ ≠ (v126 : Value).ownBlock ∧ some k_ ≠ (.slice Ao22 t128.length co22 : Value).ownBlock ∧ some k_ ≠ (.slice Ao24 t131.length co24 : Value).ownBlock) (fun _ => False) rfl rfl ?aO ?aR (fun _ _ h => h) (fun _ h => h.elim) ?aF ?aB ?aS ?aL ?_;(case aR => repeat (first | exact (Kd.R_reads' HO133.out).2.2 | (with_reducible refine Kd.C_alloc ?_ _) | (with_reducible refine Kd.C_drewN ?_ _) | (with_reducible refine Kd.C_drew ?_)));(case aB => exact (by repeat (first | (with_reducible first | exact HB.out | apply below_alloc | apply pw_below_drewN | apply below_drew1) | exact HB.out)));(case aF => exact (fun k_ hk => ⟨Kd.fresh' (Kd.R_lt (by (with_reducible repeat (first | apply Kd.R_alloc | apply Kd.R_drewN | apply Kd.R_drew));exact HO127.out)) k_ hk,Kd.fresh' (Kd.R_lt (by (with_reducible repeat (first | apply Kd.R_alloc | apply Kd.R_drewN | apply Kd.R_drew));exact HO130.out)) k_ hk,Kd.fresh' (Kd.R_lt (by (with_reducible repeat (first | apply Kd.R_alloc | apply Kd.R_drewN | apply Kd.R_drew));exact HO133.out)) k_ hk⟩));(case aO => exact (by (with_reducible repeat (first | apply Kd.R_alloc | apply Kd.R_drewN | apply Kd.R_drew));exact HO140.out));(case aS => exact (below_size (by repeat (first | (with_reducible first | exact HB.out | apply below_alloc | apply pw_below_drewN | apply below_drew1) | exact HB.out))));(case aL => have := LMc12.out;omega);intro v142 w23 ho hb hg hat;rw [← Ny141.out] at ho;have n0_ := Aside0.mk (Kd.R_after (ok := (fun k_ => some k_ ≠ (.slice Ao22 t128.length co22 : Value).ownBlock ∧ some k_ ≠ (.slice Ao24 t131.length co24 : Value).ownBlock)) (by (with_reducible repeat (first | apply Kd.R_alloc | apply Kd.R_drewN | apply Kd.R_drew));exact HO127.out) hg hat);have n1_ := Aside0.mk (Kd.R_after (ok := (fun k_ => some k_ ≠ (v126 : Value).ownBlock ∧ some k_ ≠ (.slice Ao24 t131.length co24 : Value).ownBlock)) (by (with_reducible repeat (first | apply Kd.R_alloc | apply Kd.R_drewN | apply Kd.R_drew));exact HO130.out) hg hat);have n2_ := Aside0.mk (Kd.R_after (ok := (fun k_ => some k_ ≠ (v126 : Value).ownBlock ∧ some k_ ≠ (.slice Ao22 t128.length co22 : Value).ownBlock)) (by (with_reducible repeat (first | apply Kd.R_alloc | apply Kd.R_drewN | apply Kd.R_drew));exact HO133.out) hg hat);have n3_ := Aside0.mk (hb);have n4_ := Aside0.mk (ho);clear HO127;clear HO130;clear HO133;clear HB;clear HO140;have HO127 := n0_;have HO130 := n1_;have HO133 := n2_;have HB := n3_;have HO143 := n4_;clear n0_ n1_ n2_ n3_ n4_;clear ho hb hg hat;obtain ⟨Ao25,co25,eo25⟩ := Kd.R_slice HO127.out;subst eo25;obtain ⟨Ao26,co26,eo26⟩ := Kd.R_slice HO143.out;subst eo26) | ((with_reducible refine gate_callee (f := 24) rfl ?_);refine goesL_ (some 35) rfl rfl Tryd.func24 (by kernel_rfl) rfl #[.slice Ao25 t125.length co25,.slice Ao26 y141.length co26] rfl (by (try simp only [List.map_toArray,List.map_cons,List.map_nil]);first | done | rfl | (simp only [List.length_drop,List.length_take];rfl)) ?_;(with_reducible refine (bodkinlaw01_alike.calls k _ _ t125 _ _ y141 t144 _ ?side1 ?side2 ?side3 ?side4 A13.out).mono ?_);(case side1 => repeat (first | exact (Kd.R_reads' HO127.out).2.2 | (with_reducible refine Kd.C_alloc ?_ _) | (with_reducible refine Kd.C_drewN ?_ _) | (with_reducible refine Kd.C_drew ?_)));(case side2 => exact (Kd.R_reads' HO127.out).2.1);(case side3 => repeat (first | exact (Kd.R_reads' HO143.out).2.2 | (with_reducible refine Kd.C_alloc ?_ _) | (with_reducible refine Kd.C_drewN ?_ _) | (with_reducible refine Kd.C_drew ?_)));(case side4 => exact (Kd.R_reads' HO143.out).2.1);rintro e w' ⟨rfl,⟨nd,rfl⟩⟩;refine ⟨_,rfl,?_⟩))
      go_ret
      exact ⟨by first | rfl | (simp [errW_none,errW_some] <;> rfl) | (simp [*,errW_none,errW_some] <;> rfl),by repeat (first | (with_reducible first | exact HB.out | apply below_alloc | apply pw_below_drewN | apply below_drew1) | exact HB.out)⟩
     ·rw [if_neg c12] at H
      exact absurd H (by simp)
    ·rw [if_neg c11] at H
     exact absurd H (by simp)
   ·replace c10 := Bool.eq_false_iff.mpr c10
    subst c10
    have H1 : ((unit_Down.f k (a0 ++ a1) (a0.size : Int)).bind fun t145 => ((unit_Up.f k (a0 ++ a1) (a0.size : Int)).bind fun t146 => (if t145 ≥ (a0.size : Int) then (bodkinlaw01_UnitSeams.j0 k a0 t125 t128 t131 t145 t146 true) else (if t146 ≤ (a0.size : Int) then (bodkinlaw01_UnitSeams.j0 k a0 t125 t128 t131 t145 t146 true) else (if (wrap64 (t146 - t145)) < 2 then (bodkinlaw01_UnitSeams.j0 k a0 t125 t128 t131 t145 t146 true) else (bodkinlaw01_UnitSeams.j0 k a0 t125 t128 t131 t145 t146 (decide ((wrap64 (t146 - t145)) > 4)))))))) = some r := by rw [if_neg (show ¬ (false = true) by decide)] at H;exact H
    clear H
    have H := H1
    clear H1
    replace H := Option.bind_eq_some_iff.mp H
    obtain ⟨t145,A270,H⟩ := H
    replace H : ((unit_Up.f k (a0 ++ a1) (a0.size : Int)).bind fun t146 => (if t145 ≥ (a0.size : Int) then (bodkinlaw01_UnitSeams.j0 k a0 t125 t128 t131 t145 t146 true) else (if t146 ≤ (a0.size : Int) then (bodkinlaw01_UnitSeams.j0 k a0 t125 t128 t131 t145 t146 true) else (if (wrap64 (t146 - t145)) < 2 then (bodkinlaw01_UnitSeams.j0 k a0 t125 t128 t131 t145 t146 true) else (bodkinlaw01_UnitSeams.j0 k a0 t125 t128 t131 t145 t146 (decide ((wrap64 (t146 - t145)) > 4))))))) = some r := H
    have A27 := Aside0.mk A270
    clear A270
    replace H := Option.bind_eq_some_iff.mp H
    obtain ⟨t146,A280,H⟩ := H
    replace H : (if t145 ≥ (a0.size : Int) then (bodkinlaw01_UnitSeams.j0 k a0 t125 t128 t131 t145 t146 true) else (if t146 ≤ (a0.size : Int) then (bodkinlaw01_UnitSeams.j0 k a0 t125 t128 t131 t145 t146 true) else (if (wrap64 (t146 - t145)) < 2 then (bodkinlaw01_UnitSeams.j0 k a0 t125 t128 t131 t145 t146 true) else (bodkinlaw01_UnitSeams.j0 k a0 t125 t128 t131 t145 t146 (decide ((wrap64 (t146 - t145)) > 4)))))) = some r := H
    have A28 := Aside0.mk A280
    clear A280
    have HC29 := Aside0.mk H
    clear H
    go_enter Tryd.func5,Tryd.ntmps5
    go_upto_region 8 with (first | ((with_reducible refine gate_callee (f := 21) rfl ?_);refine goesL_ (some 14) rfl rfl Tryd.func21 (by kernel_rfl) rfl #[] rfl (by (try simp only [List.map_toArray,List.map_cons,List.map_nil]);first | done | rfl | (simp only [List.length_drop,List.length_take];rfl)) ?_;(with_reducible refine (bodkinlaw01_cuts.calls  true _ ?side1 A3.out).mono ?_);(case side1 => exact tabs_below HT.out (by repeat (first | (with_reducible first | exact HB.out | apply below_alloc | apply pw_below_drewN | apply below_drew1) | exact HB.out)));rintro e w30 ⟨rfl,hb⟩;refine ⟨_,rfl,?_⟩;have n0_ := Aside0.mk (below_step (by repeat (first | (with_reducible first | exact HB.out | apply below_alloc | apply pw_below_drewN | apply below_drew1) | exact HB.out)) hb);clear HB;have HB := n0_;clear n0_;(try clear hb);(try clear hb2);(try clear hk);(try clear hi)) | ((with_reducible refine gate_callee (f := 23) rfl ?_);refine goesL_ (some 20) rfl rfl Tryd.func23 (by kernel_rfl) rfl #[.string (a0 ++ a1)] rfl (by (try simp only [List.map_toArray,List.map_cons,List.map_nil]);first | done | rfl | (simp only [List.length_drop,List.length_take];rfl)) ?_;(with_reducible refine (unit_Units.calls (a0 ++ a1) t125 _ ?side1 A6.out).mono ?_);(case side1 => exact tabs_below HT.out (by repeat (first | (with_reducible first | exact HB.out | apply below_alloc | apply pw_below_drewN | apply below_drew1) | exact HB.out)));rintro e w31 ⟨v126,rfl,ho0,hb⟩;refine ⟨_,rfl,?_⟩;have n0_ := Aside0.mk (Kd.R_lower ho0 (below_size (by repeat (first | (with_reducible first | exact HB.out | apply below_alloc | apply pw_below_drewN | apply below_drew1) | exact HB.out))));have n1_ := Aside0.mk (below_step (by repeat (first | (with_reducible first | exact HB.out | apply below_alloc | apply pw_below_drewN | apply below_drew1) | exact HB.out)) hb);clear HB;have HO127 := n0_;have HB := n1_;clear n0_ n1_;(try clear hb);(try clear hb2);(try clear hk);(try clear hi);(try clear ho0)) | ((with_reducible refine gate_callee (f := 23) rfl ?_);refine goesL_ (some 22) rfl rfl Tryd.func23 (by kernel_rfl) rfl #[.string a0] rfl (by (try simp only [List.map_toArray,List.map_cons,List.map_nil]);first | done | rfl | (simp only [List.length_drop,List.length_take];rfl)) ?_;(with_reducible refine (unit_Units.calls a0 t128 _ ?side1 A7.out).mono ?_);(case side1 => exact tabs_below HT.out (by repeat (first | (with_reducible first | exact HB.out | apply below_alloc | apply pw_below_drewN | apply below_drew1) | exact HB.out)));rintro e w32 ⟨v129,rfl,ho0,hb⟩;refine ⟨_,rfl,?_⟩;have n0_ := Aside0.mk (Kd.R_elder' (by (with_reducible repeat (first | apply Kd.R_alloc | apply Kd.R_drewN | apply Kd.R_drew));exact HO127.out) (Kd.R_base ho0) hb);have n1_ := Aside0.mk (Kd.R_lower (Kd.R_new' ho0 (Kd.R_lt (by (with_reducible repeat (first | apply Kd.R_alloc | apply Kd.R_drewN | apply Kd.R_drew));exact HO127.out))) (below_size (by repeat (first | (with_reducible first | exact HB.out | apply below_alloc | apply pw_below_drewN | apply below_drew1) | exact HB.out))));have n2_ := Aside0.mk (below_step (by repeat (first | (with_reducible first | exact HB.out | apply below_alloc | apply pw_below_drewN | apply below_drew1) | exact HB.out)) hb);clear HO127;clear HB;have HO127 := n0_;have HO130 := n1_;have HB := n2_;clear n0_ n1_ n2_;(try clear hb);(try clear hb2);(try clear hk);(try clear hi);(try clear ho0)) | ((with_reducible refine gate_callee (f := 23) rfl ?_);refine goesL_ (some 24) rfl rfl Tryd.func23 (by kernel_rfl) rfl #[.string a1] rfl (by (try simp only [List.map_toArray,List.map_cons,List.map_nil]);first | done | rfl | (simp only [List.length_drop,List.length_take];rfl)) ?_;(with_reducible refine (unit_Units.calls a1 t131 _ ?side1 A8.out).mono ?_);(case side1 => exact tabs_below HT.out (by repeat (first | (with_reducible first | exact HB.out | apply below_alloc | apply pw_below_drewN | apply below_drew1) | exact HB.out)));rintro e w33 ⟨v132,rfl,ho0,hb⟩;refine ⟨_,rfl,?_⟩;have n0_ := Aside0.mk (Kd.R_elder' (by (with_reducible repeat (first | apply Kd.R_alloc | apply Kd.R_drewN | apply Kd.R_drew));exact HO127.out) (Kd.R_base ho0) hb);have n1_ := Aside0.mk (Kd.R_elder' (by (with_reducible repeat (first | apply Kd.R_alloc | apply Kd.R_drewN | apply Kd.R_drew));exact HO130.out) (Kd.R_base ho0) hb);have n2_ := Aside0.mk (Kd.R_lower (Kd.R_new' (Kd.R_new' ho0 (Kd.R_lt (by (with_reducible repeat (first | apply Kd.R_alloc | apply Kd.R_drewN | apply Kd.R_drew));exact HO127.out))) (Kd.R_lt (by (with_reducible repeat (first | apply Kd.R_alloc | apply Kd.R_drewN | apply Kd.R_drew));exact HO130.out))) (below_size (by repeat (first | (with_reducible first | exact HB.out | apply below_alloc | apply pw_below_drewN | apply below_drew1) | exact HB.out))));have n3_ := Aside0.mk (below_step (by repeat (first | (with_reducible first | exact HB.out | apply below_alloc | apply pw_below_drewN | apply below_drew1) | exact HB.out)) hb);clear HO127;clear HO130;clear HB;have HO127 := n0_;have HO130 := n1_;have HO133 := n2_;have HB := n3_;clear n0_ n1_ n2_ n3_;(try clear hb);(try clear hb2);(try clear hk);(try clear hi);(try clear ho0)) | ((with_reducible refine gate_callee (f := 22) rfl ?_);refine goesL_ (some 28) rfl rfl Tryd.func22 (by kernel_rfl) rfl #[.string (a0 ++ a1),.int .i64 (a0.size : Int)] rfl (by (try simp only [List.map_toArray,List.map_cons,List.map_nil]);first | done | rfl | (simp only [List.length_drop,List.length_take];rfl)) ?_;(with_reducible refine (unit_Boundary.calls k (a0 ++ a1) (a0.size : Int) false _ ?side1 A9.out).mono ?_);(case side1 => exact tabs_below HT.out (by repeat (first | (with_reducible first | exact HB.out | apply below_alloc | apply pw_below_drewN | apply below_drew1) | exact HB.out)));rintro e w34 ⟨rfl,hb⟩;refine ⟨_,rfl,?_⟩;have n0_ := Aside0.mk (Kd.R_below (by (with_reducible repeat (first | apply Kd.R_alloc | apply Kd.R_drewN | apply Kd.R_drew));exact HO127.out) hb);have n1_ := Aside0.mk (Kd.R_below (by (with_reducible repeat (first | apply Kd.R_alloc | apply Kd.R_drewN | apply Kd.R_drew));exact HO130.out) hb);have n2_ := Aside0.mk (Kd.R_below (by (with_reducible repeat (first | apply Kd.R_alloc | apply Kd.R_drewN | apply Kd.R_drew));exact HO133.out) hb);have n3_ := Aside0.mk (below_step (by repeat (first | (with_reducible first | exact HB.out | apply below_alloc | apply pw_below_drewN | apply below_drew1) | exact HB.out)) hb);clear HO127;clear HO130;clear HO133;clear HB;have HO127 := n0_;have HO130 := n1_;have HO133 := n2_;have HB := n3_;clear n0_ n1_ n2_ n3_;(try clear hb);(try clear hb2);(try clear hk);(try clear hi)) | ((with_reducible refine gate_callee (f := 26) rfl ?_);refine goesL_ (some 39) rfl rfl Tryd.func26 (by kernel_rfl) rfl #[.string (a0 ++ a1),.int .i64 (a0.size : Int)] rfl (by (try simp only [List.map_toArray,List.map_cons,List.map_nil]);first | done | rfl | (simp only [List.length_drop,List.length_take];rfl)) ?_;(with_reducible refine (unit_Down.calls k (a0 ++ a1) (a0.size : Int) t145 _ ?side1 A27.out).mono ?_);(case side1 => exact tabs_below HT.out (by repeat (first | (with_reducible first | exact HB.out | apply below_alloc | apply pw_below_drewN | apply below_drew1) | exact HB.out)));rintro e w35 ⟨rfl,hb⟩;refine ⟨_,rfl,?_⟩;have n0_ := Aside0.mk (Kd.R_below (by (with_reducible repeat (first | apply Kd.R_alloc | apply Kd.R_drewN | apply Kd.R_drew));exact HO127.out) hb);have n1_ := Aside0.mk (Kd.R_below (by (with_reducible repeat (first | apply Kd.R_alloc | apply Kd.R_drewN | apply Kd.R_drew));exact HO130.out) hb);have n2_ := Aside0.mk (Kd.R_below (by (with_reducible repeat (first | apply Kd.R_alloc | apply Kd.R_drewN | apply Kd.R_drew));exact HO133.out) hb);have n3_ := Aside0.mk (below_step (by repeat (first | (with_reducible first | exact HB.out | apply below_alloc | apply pw_below_drewN | apply below_drew1) | exact HB.out)) hb);clear HO127;clear HO130;clear HO133;clear HB;have HO127 := n0_;have HO130 := n1_;have HO133 := n2_;have HB := n3_;clear n0_ n1_ n2_ n3_;(try clear hb);(try clear hb2);(try clear hk);(try clear hi)) | ((with_reducible refine gate_callee (f := 27) rfl ?_);refine goesL_ (some 43) rfl rfl Tryd.func27 (by kernel_rfl) rfl #[.string (a0 ++ a1),.int .i64 (a0.size : Int)] rfl (by (try simp only [List.map_toArray,List.map_cons,List.map_nil]);first | done | rfl | (simp only [List.length_drop,List.length_take];rfl)) ?_;(with_reducible refine (unit_Up.calls k (a0 ++ a1) (a0.size : Int) t146 _ ?side1 A28.out).mono ?_);(case side1 => exact tabs_below HT.out (by repeat (first | (with_reducible first | exact HB.out | apply below_alloc | apply pw_below_drewN | apply below_drew1) | exact HB.out)));rintro e w36 ⟨rfl,hb⟩;refine ⟨_,rfl,?_⟩;have n0_ := Aside0.mk (Kd.R_below (by (with_reducible repeat (first | apply Kd.R_alloc | apply Kd.R_drewN | apply Kd.R_drew));exact HO127.out) hb);have n1_ := Aside0.mk (Kd.R_below (by (with_reducible repeat (first | apply Kd.R_alloc | apply Kd.R_drewN | apply Kd.R_drew));exact HO130.out) hb);have n2_ := Aside0.mk (Kd.R_below (by (with_reducible repeat (first | apply Kd.R_alloc | apply Kd.R_drewN | apply Kd.R_drew));exact HO133.out) hb);have n3_ := Aside0.mk (below_step (by repeat (first | (with_reducible first | exact HB.out | apply below_alloc | apply pw_below_drewN | apply below_drew1) | exact HB.out)) hb);clear HO127;clear HO130;clear HO133;clear HB;have HO127 := n0_;have HO130 := n1_;have HO133 := n2_;have HB := n3_;clear n0_ n1_ n2_ n3_;(try clear hb);(try clear hb2);(try clear hk);(try clear hi)))
    (try simp only [Act.put,List.setIfInBounds_toArray,List.set_cons_zero,List.set_cons_succ])
    go_cut [65] (fun v65 wc => ∃ (kq : Nat) (x65_28 : Bool),v65 = .bool x65_28 ∧ Aside0 (bodkinlaw01_UnitSeams.j0 kq a0 t125 t128 t131 t145 t146 x65_28 = some r) ∧ Aside0 (kq ≤ k) ∧ Aside0 (Kd.R k30 30 wc w.heap.size (fun k_ => some k_ ≠ (v129 : Value).ownBlock ∧ some k_ ≠ (v132 : Value).ownBlock) v126 t125) ∧ Aside0 (Kd.R k30 30 wc w.heap.size (fun k_ => some k_ ≠ (v126 : Value).ownBlock ∧ some k_ ≠ (v132 : Value).ownBlock) v129 t128) ∧ Aside0 (Kd.R k30 30 wc w.heap.size (fun k_ => some k_ ≠ (v126 : Value).ownBlock ∧ some k_ ≠ (v129 : Value).ownBlock) v132 t131) ∧ Aside0 (Below w.heap.size w wc))
    case first =>
     have H := HC29.out
     clear HC29
     by_cases c37 : t145 ≥ (a0.size : Int)
     ·rw [if_pos c37] at H
      have c37b0 : decide ((a0.size : Int) ≤ t145) = true := decide_eq_true c37
      clear c37
      (first | rw [c37b0] | (simp only [i64_w,i32_w];rw [c37b0]) | skip)
      have H' := Aside0.mk H
      clear H
      go_wp2
      go_meet
      case rel => exact ⟨_,(true),(by first | rfl | (simp;done) | (simp [*];done)),H',⟨by first | omega | exact Nat.le_refl _⟩,⟨by (with_reducible repeat (first | apply Kd.R_alloc | apply Kd.R_drewN | apply Kd.R_drew));exact Kd.R_mono HO127.out (fun _ hk => ⟨hk.1.2,hk.2⟩)⟩,⟨by (with_reducible repeat (first | apply Kd.R_alloc | apply Kd.R_drewN | apply Kd.R_drew));exact Kd.R_mono HO130.out (fun _ hk => ⟨hk.1.2,hk.2⟩)⟩,⟨by (with_reducible repeat (first | apply Kd.R_alloc | apply Kd.R_drewN | apply Kd.R_drew));exact Kd.R_mono HO133.out (fun _ hk => ⟨hk.1.2,hk.2⟩)⟩,⟨by repeat (first | (with_reducible first | exact HB.out | apply below_alloc | apply pw_below_drewN | apply below_drew1) | exact HB.out)⟩⟩
     ·rw [if_neg c37] at H
      have c37b0 : decide ((a0.size : Int) ≤ t145) = false := decide_eq_false c37
      clear c37
      (first | rw [c37b0] | (simp only [i64_w,i32_w];rw [c37b0]) | skip)
      by_cases c38 : t146 ≤ (a0.size : Int)
      ·rw [if_pos c38] at H
       have c38b0 : decide (t146 ≤ (a0.size : Int)) = true := decide_eq_true c38
       clear c38
       have H' := Aside0.mk H
       clear H
       go_wp2
       go_meet
       case rel => exact ⟨_,(true),(by first | rfl | (simp;done) | (simp [*];done)),H',⟨by first | omega | exact Nat.le_refl _⟩,⟨by (with_reducible repeat (first | apply Kd.R_alloc | apply Kd.R_drewN | apply Kd.R_drew));exact Kd.R_mono HO127.out (fun _ hk => ⟨hk.1.2,hk.2⟩)⟩,⟨by (with_reducible repeat (first | apply Kd.R_alloc | apply Kd.R_drewN | apply Kd.R_drew));exact Kd.R_mono HO130.out (fun _ hk => ⟨hk.1.2,hk.2⟩)⟩,⟨by (with_reducible repeat (first | apply Kd.R_alloc | apply Kd.R_drewN | apply Kd.R_drew));exact Kd.R_mono HO133.out (fun _ hk => ⟨hk.1.2,hk.2⟩)⟩,⟨by repeat (first | (with_reducible first | exact HB.out | apply below_alloc | apply pw_below_drewN | apply below_drew1) | exact HB.out)⟩⟩
      ·rw [if_neg c38] at H
       have c38b0 : decide (t146 ≤ (a0.size : Int)) = false := decide_eq_false c38
       clear c38
       by_cases c39 : (wrap64 (t146 - t145)) < 2
       ·rw [if_pos c39] at H
        have c39b0 : decide ((wrap64 (t146 - t145)) < 2) = true := decide_eq_true c39
        clear c39
        have H' := Aside0.mk H
        clear H
        go_wp2
        go_meet
        case rel => exact ⟨_,(true),(by first | rfl | (simp;done) | (simp [*];done)),H',⟨by first | omega | exact Nat.le_refl _⟩,⟨by (with_reducible repeat (first | apply Kd.R_alloc | apply Kd.R_drewN | apply Kd.R_drew));exact Kd.R_mono HO127.out (fun _ hk => ⟨hk.1.2,hk.2⟩)⟩,⟨by (with_reducible repeat (first | apply Kd.R_alloc | apply Kd.R_drewN | apply Kd.R_drew));exact Kd.R_mono HO130.out (fun _ hk => ⟨hk.1.2,hk.2⟩)⟩,⟨by (with_reducible repeat (first | apply Kd.R_alloc | apply Kd.R_drewN | apply Kd.R_drew));exact Kd.R_mono HO133.out (fun _ hk => ⟨hk.1.2,hk.2⟩)⟩,⟨by repeat (first | (with_reducible first | exact HB.out | apply below_alloc | apply pw_below_drewN | apply below_drew1) | exact HB.out)⟩⟩
       ·rw [if_neg c39] at H
        have c39b0 : decide ((wrap64 (t146 - t145)) < 2) = false := decide_eq_false c39
        clear c39
        have H' := Aside0.mk H
        clear H
        go_wp2
        go_meet
        case rel => exact ⟨_,(decide ((wrap64 (t146 - t145)) > 4)),(by first | rfl | (simp;done) | (simp [*];done)),H',⟨by first | omega | exact Nat.le_refl _⟩,⟨by (with_reducible repeat (first | apply Kd.R_alloc | apply Kd.R_drewN | apply Kd.R_drew));exact Kd.R_mono HO127.out (fun _ hk => ⟨hk.1.2,hk.2⟩)⟩,⟨by (with_reducible repeat (first | apply Kd.R_alloc | apply Kd.R_drewN | apply Kd.R_drew));exact Kd.R_mono HO130.out (fun _ hk => ⟨hk.1.2,hk.2⟩)⟩,⟨by (with_reducible repeat (first | apply Kd.R_alloc | apply Kd.R_drewN | apply Kd.R_drew));exact Kd.R_mono HO133.out (fun _ hk => ⟨hk.1.2,hk.2⟩)⟩,⟨by repeat (first | (with_reducible first | exact HB.out | apply below_alloc | apply pw_below_drewN | apply below_drew1) | exact HB.out)⟩⟩
    case rest =>
     clear HC29
     try clear c1
     try clear c2
     try clear p2
     try clear c3
     try clear c4
     try clear c5
     try clear c5b0
     try clear c5b1
     try clear c5b2
     try clear p6
     try clear c10
     try clear c11
     try clear c12
     try clear c21
     try clear c22
     try clear c23
     try clear c24
     try clear c26
     try clear c27
     try clear c37
     try clear c37b0
     try clear c38
     try clear c38b0
     try clear c39
     try clear c39b0
     obtain ⟨kq,x65_28,rfl,HA,HJ28,HO_6,HO_7,HO_8,HB⟩ := hcut
     cases kq with
     | zero => exact absurd HA.out (by simp [bodkinlaw01_UnitSeams.j0])
     | succ kj28 =>
      have H := HA.out
      clear HA
      simp only [bodkinlaw01_UnitSeams.j0] at H
      by_cases c40 : x65_28 = true
      ·subst c40
       have H1 : (some false) = some r := by rw [if_pos rfl] at H;exact H
       clear H
       have H := H1
       clear H1
       obtain rfl := Option.some.inj H
       go_wp2
       go_ret
       exact ⟨by first | rfl | (simp [errW_none,errW_some] <;> rfl) | (simp [*,errW_none,errW_some] <;> rfl),by repeat (first | (with_reducible first | exact HB.out | apply below_alloc | apply pw_below_drewN | apply below_drew1) | exact HB.out)⟩
      ·replace c40 := Bool.eq_false_iff.mpr c40
       subst c40
       have H1 : (if (t128.length : Int) < (wrap64 ((a0.size : Int) - t145)) then (bodkinlaw01_UnitSeams.j1 kj28 t125 t128 t131 t145 t146 (wrap64 ((a0.size : Int) - t145)) (wrap64 (t146 - (a0.size : Int))) true) else (bodkinlaw01_UnitSeams.j1 kj28 t125 t128 t131 t145 t146 (wrap64 ((a0.size : Int) - t145)) (wrap64 (t146 - (a0.size : Int))) (decide ((t131.length : Int) < (wrap64 (t146 - (a0.size : Int))))))) = some r := by rw [if_neg (show ¬ (false = true) by decide)] at H;exact H
       clear H
       have H := H1
       clear H1
       have HC41 := Aside0.mk H
       clear H
       go_upto_region 11 with (fail)
       go_cut [83] (fun v83 wc => ∃ (kq : Nat) (x83_40 : Bool),v83 = .bool x83_40 ∧ Aside0 (bodkinlaw01_UnitSeams.j1 kq t125 t128 t131 t145 t146 (wrap64 ((a0.size : Int) - t145)) (wrap64 (t146 - (a0.size : Int))) x83_40 = some r) ∧ Aside0 (kq ≤ kj28) ∧ Aside0 (Kd.R k30 30 wc w.heap.size (fun k_ => some k_ ≠ (v129 : Value).ownBlock ∧ some k_ ≠ (v132 : Value).ownBlock) v126 t125) ∧ Aside0 (Kd.R k30 30 wc w.heap.size (fun k_ => some k_ ≠ (v126 : Value).ownBlock ∧ some k_ ≠ (v132 : Value).ownBlock) v129 t128) ∧ Aside0 (Kd.R k30 30 wc w.heap.size (fun k_ => some k_ ≠ (v126 : Value).ownBlock ∧ some k_ ≠ (v129 : Value).ownBlock) v132 t131) ∧ Aside0 (Below w.heap.size w wc))
       case first =>
        have H := HC41.out
        clear HC41
        by_cases c42 : (t128.length : Int) < (wrap64 ((a0.size : Int) - t145))
        ·rw [if_pos c42] at H
         have c42b0 : decide ((t128.length : Int) < (wrap64 ((a0.size : Int) - t145))) = true := decide_eq_true c42
         clear c42
         (first | rw [c42b0] | (simp only [i64_w,i32_w];rw [c42b0]) | skip)
         have H' := Aside0.mk H
         clear H
         obtain ⟨Ao43,co43,eo43⟩ := Kd.R_slice HO_7.out
         subst eo43
         go_wp2
         go_meet
         case rel => exact ⟨_,(true),(by first | rfl | (simp;done) | (simp [*];done)),H',⟨by have := HJ28.out;first | omega | exact Nat.le_refl _⟩,⟨by (with_reducible repeat (first | apply Kd.R_alloc | apply Kd.R_drewN | apply Kd.R_drew));exact HO_6.out⟩,⟨by (with_reducible repeat (first | apply Kd.R_alloc | apply Kd.R_drewN | apply Kd.R_drew));exact HO_7.out⟩,⟨by (with_reducible repeat (first | apply Kd.R_alloc | apply Kd.R_drewN | apply Kd.R_drew));exact HO_8.out⟩,⟨by repeat (first | (with_reducible first | exact HB.out | apply below_alloc | apply pw_below_drewN | apply below_drew1) | exact HB.out)⟩⟩
        ·rw [if_neg c42] at H
         have c42b0 : decide ((t128.length : Int) < (wrap64 ((a0.size : Int) - t145))) = false := decide_eq_false c42
         clear c42
         (first | rw [c42b0] | (simp only [i64_w,i32_w];rw [c42b0]) | skip)
         have H' := Aside0.mk H
         clear H
         obtain ⟨Ao44,co44,eo44⟩ := Kd.R_slice HO_7.out
         subst eo44
         obtain ⟨Ao45,co45,eo45⟩ := Kd.R_slice HO_8.out
         subst eo45
         go_wp2
         go_meet
         case rel => exact ⟨_,(decide ((t131.length : Int) < (wrap64 (t146 - (a0.size : Int))))),(by first | rfl | (simp;done) | (simp [*];done)),H',⟨by have := HJ28.out;first | omega | exact Nat.le_refl _⟩,⟨by (with_reducible repeat (first | apply Kd.R_alloc | apply Kd.R_drewN | apply Kd.R_drew));exact HO_6.out⟩,⟨by (with_reducible repeat (first | apply Kd.R_alloc | apply Kd.R_drewN | apply Kd.R_drew));exact HO_7.out⟩,⟨by (with_reducible repeat (first | apply Kd.R_alloc | apply Kd.R_drewN | apply Kd.R_drew));exact HO_8.out⟩,⟨by repeat (first | (with_reducible first | exact HB.out | apply below_alloc | apply pw_below_drewN | apply below_drew1) | exact HB.out)⟩⟩
       case rest =>
        clear HC41
        try clear c1
        try clear c2
        try clear p2
        try clear c3
        try clear c4
        try clear c5
        try clear c5b0
        try clear c5b1
        try clear c5b2
        try clear p6
        try clear c10
        try clear c11
        try clear c12
        try clear c21
        try clear c22
        try clear c23
        try clear c24
        try clear c26
        try clear c27
        try clear c37
        try clear c37b0
        try clear c38
        try clear c38b0
        try clear c39
        try clear c39b0
        try clear c40
        try clear c42
        try clear c42b0
        try clear p2
        try clear p6
        obtain ⟨kq,x83_40,rfl,HA,HJ40,HO_6,HO_7,HO_8,HB⟩ := hcut
        cases kq with
        | zero => exact absurd HA.out (by simp [bodkinlaw01_UnitSeams.j1])
        | succ kj40 =>
         have H := HA.out
         clear HA
         simp only [bodkinlaw01_UnitSeams.j1] at H
         by_cases c46 : x83_40 = true
         ·subst c46
          have H1 : (some false) = some r := by rw [if_pos rfl] at H;exact H
          clear H
          have H := H1
          clear H1
          obtain rfl := Option.some.inj H
          go_wp2
          go_ret
          exact ⟨by first | rfl | (simp [errW_none,errW_some] <;> rfl) | (simp [*,errW_none,errW_some] <;> rfl),by repeat (first | (with_reducible first | exact HB.out | apply below_alloc | apply pw_below_drewN | apply below_drew1) | exact HB.out)⟩
         ·replace c46 := Bool.eq_false_iff.mpr c46
          subst c46
          have H1 : (if (t125.length : Int) = (wrap64 ((wrap64 ((wrap64 ((wrap64 ((t128.length : Int) - (wrap64 ((a0.size : Int) - t145)))) + 1)) + (t131.length : Int))) - (wrap64 (t146 - (a0.size : Int))))) then (if 0 ≤ (wrap64 ((t128.length : Int) - (wrap64 ((a0.size : Int) - t145)))) then (if (wrap64 ((t128.length : Int) - (wrap64 ((a0.size : Int) - t145)))) ≤ (t125.length : Int) then (if (wrap64 ((t128.length : Int) - (wrap64 ((a0.size : Int) - t145)))) ≤ (t128.length : Int) then ((bodkinlaw01_alike.f kj40 (t125.take ((wrap64 ((t128.length : Int) - (wrap64 ((a0.size : Int) - t145)))) : Int).toNat) (t128.take ((wrap64 ((t128.length : Int) - (wrap64 ((a0.size : Int) - t145)))) : Int).toNat)).bind fun t155 => (if t155 = true then (if 0 ≤ (wrap64 ((wrap64 ((t128.length : Int) - (wrap64 ((a0.size : Int) - t145)))) + 1)) then (if (wrap64 ((wrap64 ((t128.length : Int) - (wrap64 ((a0.size : Int) - t145)))) + 1)) ≤ (t125.length : Int) then (if 0 ≤ (wrap64 (t146 - (a0.size : Int))) then (if (wrap64 (t146 - (a0.size : Int))) ≤ (t131.length : Int) then ((bodkinlaw01_alike.f kj40 (t125.drop ((wrap64 ((wrap64 ((t128.length : Int) - (wrap64 ((a0.size : Int) - t145)))) + 1)) : Int).toNat) (t131.drop ((wrap64 (t146 - (a0.size : Int))) : Int).toNat)).bind fun t164 => (if t164 = true then (if (wrap64 ((t128.length : Int) - (wrap64 ((a0.size : Int) - t145)))) < (t125.length : Int) then (if ((rd_T30 t125 (wrap64 ((t128.length : Int) - (wrap64 ((a0.size : Int) - t145))))).f1) = (wrap64 (t146 - t145)) then (some (decide (((rd_T30 t125 (wrap64 ((t128.length : Int) - (wrap64 ((a0.size : Int) - t145))))).f0) ≥ 0))) else (some false)) else (none)) else (some false))) else (none)) else (none)) else (none)) else (none)) else (some false))) else (none)) else (none)) else (none)) else (some false)) = some r := by rw [if_neg (show ¬ (false = true) by decide)] at H;exact H
          clear H
          have H := H1
          clear H1
          by_cases c47 : (t125.length : Int) = (wrap64 ((wrap64 ((wrap64 ((wrap64 ((t128.length : Int) - (wrap64 ((a0.size : Int) - t145)))) + 1)) + (t131.length : Int))) - (wrap64 (t146 - (a0.size : Int)))))
          ·rw [if_pos c47] at H
           have c47b0 : ((t125.length : Int) == (wrap64 ((wrap64 ((wrap64 ((wrap64 ((t128.length : Int) - (wrap64 ((a0.size : Int) - t145)))) + 1)) + (t131.length : Int))) - (wrap64 (t146 - (a0.size : Int)))))) = true := beq_iff_eq.mpr c47
           have c47b1 : ((t125.length : Int) != (wrap64 ((wrap64 ((wrap64 ((wrap64 ((t128.length : Int) - (wrap64 ((a0.size : Int) - t145)))) + 1)) + (t131.length : Int))) - (wrap64 (t146 - (a0.size : Int)))))) = false := bne_eq_false_iff_eq.mpr c47
           clear c47
           obtain ⟨ji48,hji48⟩ : ∃ j_ : Int,(wrap64 ((t128.length : Int) - (wrap64 ((a0.size : Int) - t145)))) = j_ := ⟨_,rfl⟩
           replace H : (if 0 ≤ (ji48) then (if (ji48) ≤ (t125.length : Int) then (if (ji48) ≤ (t128.length : Int) then ((bodkinlaw01_alike.f kj40 (t125.take ((ji48) : Int).toNat) (t128.take ((ji48) : Int).toNat)).bind fun t155 => (if t155 = true then (if 0 ≤ (wrap64 ((ji48) + 1)) then (if (wrap64 ((ji48) + 1)) ≤ (t125.length : Int) then (if 0 ≤ (wrap64 (t146 - (a0.size : Int))) then (if (wrap64 (t146 - (a0.size : Int))) ≤ (t131.length : Int) then ((bodkinlaw01_alike.f kj40 (t125.drop ((wrap64 ((ji48) + 1)) : Int).toNat) (t131.drop ((wrap64 (t146 - (a0.size : Int))) : Int).toNat)).bind fun t164 => (if t164 = true then (if (ji48) < (t125.length : Int) then (if ((rd_T30 t125 (ji48)).f1) = (wrap64 (t146 - t145)) then (some (decide (((rd_T30 t125 (ji48)).f0) ≥ 0))) else (some false)) else (none)) else (some false))) else (none)) else (none)) else (none)) else (none)) else (some false))) else (none)) else (none)) else (none)) = some r := by first | (rw [hji48] at H;exact H) | (simp only [hji48] at H ⊢;exact H)
           (try rw [hji48] at c47b0)
           (try rw [hji48] at c47b1)
           have hji48w : (IntKind.i64.wrap ((t128.length : Int) - (wrap64 ((a0.size : Int) - t145)))) = ji48 := (i64_w _).trans hji48
           by_cases c49 : 0 ≤ (ji48)
           ·rw [if_pos c49] at H
            have c49b0 := eq_true c49
            have c49b1 : decide (0 ≤ (ji48)) = true := decide_eq_true c49
            clear c49
            by_cases c50 : (ji48) ≤ (t125.length : Int)
            ·rw [if_pos c50] at H
             have c50b0 := eq_true c50
             have c50b1 : decide ((ji48) ≤ (t125.length : Int)) = true := decide_eq_true c50
             clear c50
             obtain ⟨y147,hy147⟩ : ∃ y_ : List (S30),y_ = (t125.take ((ji48) : Int).toNat) := ⟨_,rfl⟩
             replace H : (if (ji48) ≤ (t128.length : Int) then ((bodkinlaw01_alike.f kj40 y147 (t128.take ((ji48) : Int).toNat)).bind fun t155 => (if t155 = true then (if 0 ≤ (wrap64 ((ji48) + 1)) then (if (wrap64 ((ji48) + 1)) ≤ (t125.length : Int) then (if 0 ≤ (wrap64 (t146 - (a0.size : Int))) then (if (wrap64 (t146 - (a0.size : Int))) ≤ (t131.length : Int) then ((bodkinlaw01_alike.f kj40 (t125.drop ((wrap64 ((ji48) + 1)) : Int).toNat) (t131.drop ((wrap64 (t146 - (a0.size : Int))) : Int).toNat)).bind fun t164 => (if t164 = true then (if (ji48) < (t125.length : Int) then (if ((rd_T30 t125 (ji48)).f1) = (wrap64 (t146 - t145)) then (some (decide (((rd_T30 t125 (ji48)).f0) ≥ 0))) else (some false)) else (none)) else (some false))) else (none)) else (none)) else (none)) else (none)) else (some false))) else (none)) = some r := by first | (rw [hy147];with_reducible exact H) | (have H2_ := (Option.bind_some _ _).symm.trans H;rw [hy147];with_reducible exact H2_) | (have H2_ := (Option.bind_some _ _).symm.trans H;with_reducible exact H2_) | with_reducible exact H | (rw [hy147];exact H) | exact H
             have Ny147 := Aside0.mk hy147
             clear hy147
             have c51b0 := eq_true (of_decide_eq_true (by first | (with_reducible assumption) | assumption) : 0 ≤ (ji48))
             by_cases c52 : (ji48) ≤ (t128.length : Int)
             ·rw [if_pos c52] at H
              have c52b0 := eq_true c52
              have c52b1 : decide ((ji48) ≤ (t128.length : Int)) = true := decide_eq_true c52
              clear c52
              obtain ⟨y151,hy151⟩ : ∃ y_ : List (S30),y_ = (t128.take ((ji48) : Int).toNat) := ⟨_,rfl⟩
              replace H : ((bodkinlaw01_alike.f kj40 y147 y151).bind fun t155 => (if t155 = true then (if 0 ≤ (wrap64 ((ji48) + 1)) then (if (wrap64 ((ji48) + 1)) ≤ (t125.length : Int) then (if 0 ≤ (wrap64 (t146 - (a0.size : Int))) then (if (wrap64 (t146 - (a0.size : Int))) ≤ (t131.length : Int) then ((bodkinlaw01_alike.f kj40 (t125.drop ((wrap64 ((ji48) + 1)) : Int).toNat) (t131.drop ((wrap64 (t146 - (a0.size : Int))) : Int).toNat)).bind fun t164 => (if t164 = true then (if (ji48) < (t125.length : Int) then (if ((rd_T30 t125 (ji48)).f1) = (wrap64 (t146 - t145)) then (some (decide (((rd_T30 t125 (ji48)).f0) ≥ 0))) else (some false)) else (none)) else (some false))) else (none)) else (none)) else (none)) else (none)) else (some false))) = some r := by first | (rw [hy151];with_reducible exact H) | (have H2_ := (Option.bind_some _ _).symm.trans H;rw [hy151];with_reducible exact H2_) | (have H2_ := (Option.bind_some _ _).symm.trans H;with_reducible exact H2_) | with_reducible exact H | (rw [hy151];exact H) | exact H
              have Ny151 := Aside0.mk hy151
              clear hy151
              replace H := Option.bind_eq_some_iff.mp H
              obtain ⟨t155,A530,H⟩ := H
              replace H : (if t155 = true then (if 0 ≤ (wrap64 ((ji48) + 1)) then (if (wrap64 ((ji48) + 1)) ≤ (t125.length : Int) then (if 0 ≤ (wrap64 (t146 - (a0.size : Int))) then (if (wrap64 (t146 - (a0.size : Int))) ≤ (t131.length : Int) then ((bodkinlaw01_alike.f kj40 (t125.drop ((wrap64 ((ji48) + 1)) : Int).toNat) (t131.drop ((wrap64 (t146 - (a0.size : Int))) : Int).toNat)).bind fun t164 => (if t164 = true then (if (ji48) < (t125.length : Int) then (if ((rd_T30 t125 (ji48)).f1) = (wrap64 (t146 - t145)) then (some (decide (((rd_T30 t125 (ji48)).f0) ≥ 0))) else (some false)) else (none)) else (some false))) else (none)) else (none)) else (none)) else (none)) else (some false)) = some r := H
              have A53 := Aside0.mk A530
              clear A530
              by_cases c54 : t155 = true
              ·subst c54
               have H1 : (if 0 ≤ (wrap64 ((ji48) + 1)) then (if (wrap64 ((ji48) + 1)) ≤ (t125.length : Int) then (if 0 ≤ (wrap64 (t146 - (a0.size : Int))) then (if (wrap64 (t146 - (a0.size : Int))) ≤ (t131.length : Int) then ((bodkinlaw01_alike.f kj40 (t125.drop ((wrap64 ((ji48) + 1)) : Int).toNat) (t131.drop ((wrap64 (t146 - (a0.size : Int))) : Int).toNat)).bind fun t164 => (if t164 = true then (if (ji48) < (t125.length : Int) then (if ((rd_T30 t125 (ji48)).f1) = (wrap64 (t146 - t145)) then (some (decide (((rd_T30 t125 (ji48)).f0) ≥ 0))) else (some false)) else (none)) else (some false))) else (none)) else (none)) else (none)) else (none)) = some r := by rw [if_pos rfl] at H;exact H
               clear H
               have H := H1
               clear H1
               obtain ⟨ji55,hji55⟩ : ∃ j_ : Int,(wrap64 ((ji48) + 1)) = j_ := ⟨_,rfl⟩
               replace H : (if 0 ≤ (ji55) then (if (ji55) ≤ (t125.length : Int) then (if 0 ≤ (wrap64 (t146 - (a0.size : Int))) then (if (wrap64 (t146 - (a0.size : Int))) ≤ (t131.length : Int) then ((bodkinlaw01_alike.f kj40 (t125.drop ((ji55) : Int).toNat) (t131.drop ((wrap64 (t146 - (a0.size : Int))) : Int).toNat)).bind fun t164 => (if t164 = true then (if (ji48) < (t125.length : Int) then (if ((rd_T30 t125 (ji48)).f1) = (wrap64 (t146 - t145)) then (some (decide (((rd_T30 t125 (ji48)).f0) ≥ 0))) else (some false)) else (none)) else (some false))) else (none)) else (none)) else (none)) else (none)) = some r := by first | (rw [hji55] at H;exact H) | (simp only [hji55] at H ⊢;exact H)
               (try rw [hji55] at A53)
               (try rw [hji55] at c47b0)
               (try rw [hji55] at c47b1)
               have hji55w : (IntKind.i64.wrap ((ji48) + 1)) = ji55 := (i64_w _).trans hji55
               by_cases c56 : 0 ≤ (ji55)
               ·rw [if_pos c56] at H
                have c56b0 := eq_true c56
                have c56b1 : decide (0 ≤ (ji55)) = true := decide_eq_true c56
                clear c56
                by_cases c57 : (ji55) ≤ (t125.length : Int)
                ·rw [if_pos c57] at H
                 have c57b0 := eq_true c57
                 have c57b1 : decide ((ji55) ≤ (t125.length : Int)) = true := decide_eq_true c57
                 clear c57
                 obtain ⟨y156,hy156⟩ : ∃ y_ : List (S30),y_ = (t125.drop ((ji55) : Int).toNat) := ⟨_,rfl⟩
                 replace H : (if 0 ≤ (wrap64 (t146 - (a0.size : Int))) then (if (wrap64 (t146 - (a0.size : Int))) ≤ (t131.length : Int) then ((bodkinlaw01_alike.f kj40 y156 (t131.drop ((wrap64 (t146 - (a0.size : Int))) : Int).toNat)).bind fun t164 => (if t164 = true then (if (ji48) < (t125.length : Int) then (if ((rd_T30 t125 (ji48)).f1) = (wrap64 (t146 - t145)) then (some (decide (((rd_T30 t125 (ji48)).f0) ≥ 0))) else (some false)) else (none)) else (some false))) else (none)) else (none)) = some r := by first | (rw [hy156];with_reducible exact H) | (have H2_ := (Option.bind_some _ _).symm.trans H;rw [hy156];with_reducible exact H2_) | (have H2_ := (Option.bind_some _ _).symm.trans H;with_reducible exact H2_) | with_reducible exact H | (rw [hy156];exact H) | exact H
                 have Ny156 := Aside0.mk hy156
                 clear hy156
                 obtain ⟨ji58,hji58⟩ : ∃ j_ : Int,(wrap64 (t146 - (a0.size : Int))) = j_ := ⟨_,rfl⟩
                 replace H : (if 0 ≤ (ji58) then (if (ji58) ≤ (t131.length : Int) then ((bodkinlaw01_alike.f kj40 y156 (t131.drop ((ji58) : Int).toNat)).bind fun t164 => (if t164 = true then (if (ji48) < (t125.length : Int) then (if ((rd_T30 t125 (ji48)).f1) = (wrap64 (t146 - t145)) then (some (decide (((rd_T30 t125 (ji48)).f0) ≥ 0))) else (some false)) else (none)) else (some false))) else (none)) else (none)) = some r := by first | (rw [hji58] at H;exact H) | (simp only [hji58] at H ⊢;exact H)
                 (try rw [hji58] at c47b0)
                 (try rw [hji58] at c47b1)
                 (try rw [hji58] at A53)
                 have hji58w : (IntKind.i64.wrap (t146 - (a0.size : Int))) = ji58 := (i64_w _).trans hji58
                 by_cases c59 : 0 ≤ (ji58)
                 ·rw [if_pos c59] at H
                  have c59b0 := eq_true c59
                  have c59b1 : decide (0 ≤ (ji58)) = true := decide_eq_true c59
                  clear c59
                  by_cases c60 : (ji58) ≤ (t131.length : Int)
                  ·rw [if_pos c60] at H
                   have c60b0 := eq_true c60
                   have c60b1 : decide ((ji58) ≤ (t131.length : Int)) = true := decide_eq_true c60
                   clear c60
                   obtain ⟨y160,hy160⟩ : ∃ y_ : List (S30),y_ = (t131.drop ((ji58) : Int).toNat) := ⟨_,rfl⟩
                   replace H : ((bodkinlaw01_alike.f kj40 y156 y160).bind fun t164 => (if t164 = true then (if (ji48) < (t125.length : Int) then (if ((rd_T30 t125 (ji48)).f1) = (wrap64 (t146 - t145)) then (some (decide (((rd_T30 t125 (ji48)).f0) ≥ 0))) else (some false)) else (none)) else (some false))) = some r := by first | (rw [hy160];with_reducible exact H) | (have H2_ := (Option.bind_some _ _).symm.trans H;rw [hy160];with_reducible exact H2_) | (have H2_ := (Option.bind_some _ _).symm.trans H;with_reducible exact H2_) | with_reducible exact H | (rw [hy160];exact H) | exact H
                   have Ny160 := Aside0.mk hy160
                   clear hy160
                   replace H := Option.bind_eq_some_iff.mp H
                   obtain ⟨t164,A610,H⟩ := H
                   replace H : (if t164 = true then (if (ji48) < (t125.length : Int) then (if ((rd_T30 t125 (ji48)).f1) = (wrap64 (t146 - t145)) then (some (decide (((rd_T30 t125 (ji48)).f0) ≥ 0))) else (some false)) else (none)) else (some false)) = some r := H
                   have A61 := Aside0.mk A610
                   clear A610
                   by_cases c62 : t164 = true
                   ·subst c62
                    have H1 : (if (ji48) < (t125.length : Int) then (if ((rd_T30 t125 (ji48)).f1) = (wrap64 (t146 - t145)) then (some (decide (((rd_T30 t125 (ji48)).f0) ≥ 0))) else (some false)) else (none)) = some r := by rw [if_pos rfl] at H;exact H
                    clear H
                    have H := H1
                    clear H1
                    by_cases c63 : (ji48) < (t125.length : Int)
                    ·rw [if_pos c63] at H
                     have c63b0 : decide ((ji48) < (t125.length : Int)) = true := decide_eq_true c63
                     clear c63
                     by_cases c64 : ((rd_T30 t125 (ji48)).f1) = (wrap64 (t146 - t145))
                     ·rw [if_pos c64] at H
                      have c64b0 : (((rd_T30 t125 (ji48)).f1) == (wrap64 (t146 - t145))) = true := beq_iff_eq.mpr c64
                      have c64b1 : (((rd_T30 t125 (ji48)).f1) != (wrap64 (t146 - t145))) = false := bne_eq_false_iff_eq.mpr c64
                      clear c64
                      obtain rfl := Option.some.inj H
                      obtain ⟨Ao65,co65,eo65⟩ := Kd.R_slice HO_7.out
                      subst eo65
                      try go_wp2
                      have n0_ := Aside0.mk (Kd.R_drew HO_6.out)
                      have n1_ := Aside0.mk (Kd.R_drew HO_7.out)
                      have n2_ := Aside0.mk (Kd.R_drew HO_8.out)
                      have n3_ := Aside0.mk (below_drew1 HB.out)
                      clear HO_6
                      clear HO_7
                      clear HO_8
                      clear HB
                      have HO_6 := n0_
                      have HO_7 := n1_
                      have HO_8 := n2_
                      have HB := n3_
                      clear n0_ n1_ n2_ n3_
                      obtain ⟨Ao67,co67,eo67⟩ := Kd.R_slice HO_6.out
                      (first | subst eo67 | (injection eo67 with f1_ f2_ f3_;have f4_ := f1_.symm;have f5_ := f3_.symm;clear f1_ f2_ f3_;subst f4_;subst f5_))
                      obtain ⟨Ao68,co68,eo68⟩ := Kd.R_slice HO_8.out
                      (first | subst eo68 | (injection eo68 with f1_ f2_ f3_;have f4_ := f1_.symm;have f5_ := f3_.symm;clear f1_ f2_ f3_;subst f4_;subst f5_))
                      have q69 : ((ji48) : Int) ≤ ((t125.length : Int) : Int) := of_decide_eq_true (by first | (with_reducible assumption) | assumption)
                      obtain ⟨i069,hi069,_,hsz69,_⟩ := info_parts info30
                      have hroom69 : t125.length ≤ co67 := (Kd.R_reads' HO_6.out).2.1
                      have hC69 : Kd.C k30 _ Ao67 t125.length t125 := (Kd.R_reads' HO_6.out).2.2
                      have hcut69 := cut_to (P := Tryd.prog) 27 30 .i64 Tryd.underlying27 hi069 Ao67 t125.length co67 (ji48) (of_decide_eq_true (by first | (with_reducible assumption) | assumption)) q69 hroom69
                      have hr69 := Kd.C_take (m := ((ji48) : Int).toNat) hC69 (by omega)
                      have hy69 : y147.length = ((ji48) : Int).toNat := (by rw [Ny147.out,List.length_take];omega)
                      rw [← Ny147.out] at hr69
                      rw [← hy69] at hcut69
                      have HR150 := Aside0.mk hr69
                      have HC150 := Aside0.mk (show y147.length ≤ co67 from by omega)
                      clear hr69 hC69 hroom69 hi069 hsz69
                      have KY69 := Aside0.mk hy69
                      clear hy69
                      have KL69 := Aside0.mk (show ((ji48) : Int).toNat ≤ t125.length from by omega)
                      replace q69 := eq_true q69
                      have q70 : ((ji48) : Int) ≤ ((t128.length : Int) : Int) := of_decide_eq_true (by first | (with_reducible assumption) | assumption)
                      obtain ⟨i070,hi070,_,hsz70,_⟩ := info_parts info30
                      have hroom70 : t128.length ≤ co65 := (Kd.R_reads' HO_7.out).2.1
                      have hC70 : Kd.C k30 _ Ao65 t128.length t128 := (Kd.R_reads' HO_7.out).2.2
                      have hcut70 := cut_to (P := Tryd.prog) 27 30 .i64 Tryd.underlying27 hi070 Ao65 t128.length co65 (ji48) (of_decide_eq_true (by first | (with_reducible assumption) | assumption)) q70 hroom70
                      have hr70 := Kd.C_take (m := ((ji48) : Int).toNat) hC70 (by omega)
                      have hy70 : y151.length = ((ji48) : Int).toNat := (by rw [Ny151.out,List.length_take];omega)
                      rw [← Ny151.out] at hr70
                      rw [← hy70] at hcut70
                      have HR154 := Aside0.mk hr70
                      have HC154 := Aside0.mk (show y151.length ≤ co65 from by omega)
                      clear hr70 hC70 hroom70 hi070 hsz70
                      have KY70 := Aside0.mk hy70
                      clear hy70
                      have KL70 := Aside0.mk (show ((ji48) : Int).toNat ≤ t128.length from by omega)
                      replace q70 := eq_true q70
                      have p165 : 0 ≤ ((ji48) : Int) := of_decide_eq_true (by first | (with_reducible assumption) | assumption)
                      have q165 : (ji48) < (t125.length : Int) := of_decide_eq_true (by first | (with_reducible assumption) | assumption)
                      obtain ⟨ad165,e165,hx165_0,hx165_1⟩ := at_T30 (Kd.R_reads' HO_6.out).2.2 (ji48) p165 q165
                      cases e165
                      replace p165 := eq_true p165
                      replace q165 := eq_true q165
                      have p166 : 0 ≤ ((ji48) : Int) := of_decide_eq_true (by first | (with_reducible assumption) | assumption)
                      have q166 : (ji48) < (t125.length : Int) := of_decide_eq_true (by first | (with_reducible assumption) | assumption)
                      obtain ⟨ad166,e166,hx166_0,hx166_1⟩ := at_T30 (Kd.R_reads' HO_6.out).2.2 (ji48) p166 q166
                      obtain rfl : ad165 = ad166 := (by injection e166)
                      replace p166 := eq_true p166
                      replace q166 := eq_true q166
                      refine start_ (n := 49) (S := fun w' => w'.cell? (ad165.add (((ji48)).toNat * 2)) = some (.int .i32 ((rd_T30 t125 (ji48)).f0)) ∧ w'.cell? ⟨(ad165.add (((ji48)).toNat * 2)).block,(ad165.add (((ji48)).toNat * 2)).off + 1,none⟩ = some (.int .i64 ((rd_T30 t125 (ji48)).f1)) ∧ w'.cell? (ad165.add (((ji48)).toNat * 2)) = some (.int .i32 ((rd_T30 t125 (ji48)).f0)) ∧ w'.cell? ⟨(ad165.add (((ji48)).toNat * 2)).block,(ad165.add (((ji48)).toNat * 2)).off + 1,none⟩ = some (.int .i64 ((rd_T30 t125 (ji48)).f1))) (ds := []) #[false,false,false,false,false,false,false,false,false,false,false,false,false,false,false,false,false,false,false,false,false,false,false,false,false,false,false,false,false,false,false,false,false,false,false,false,false,false,false,false,false,false,false,false,false,false,false,false,false] (by kernel_rfl) rfl rfl ⟨hx165_0,hx165_1,hx166_0,hx166_1⟩ (fun hHeld => ?_);refine with_tabW bodkinlaw01_UnitSeams.tab14 bodkinlaw01_UnitSeams.bits14 (fun HT_ HW_ => ?_)
                      generalize wc.drew = w66 at HO_6 HO_7 HO_8 HB HR150 HR154 hx165_0 hx165_1 hx166_0 hx166_1 hHeld ⊢
                      refine pure_ (i := 0) (N := some 88) (v := ?_) (a' := ?_) #[true,false,false,false,false,false,false,false,false,false,false,false,false,false,false,false,false,false,false,false,false,false,false,false,false,false,false,false,false,false,false,false,false,false,false,false,false,false,false,false,false,false,false,false,false,false,false,false,false] rfl rfl (any_of HT_.out (by kernel_rfl)) (fun _ _ _ h => h) (Or.inl ⟨by rfl,?_⟩) ?_ ?_
                      rotate_left
                      ·intro w'
                       go_simp
                       with_reducible rfl
                      rotate_left
                      ·simp only [Act.put,List.setIfInBounds_toArray,List.set_cons_zero,List.set_cons_succ,i64_w,i32_w]
                       rfl
                      refine pure_ (i := 1) (N := some 89) (v := ?_) (a' := ?_) #[true,true,false,false,false,false,false,false,false,false,false,false,false,false,false,false,false,false,false,false,false,false,false,false,false,false,false,false,false,false,false,false,false,false,false,false,false,false,false,false,false,false,false,false,false,false,false,false,false] rfl rfl (any_of HT_.out (by kernel_rfl)) (fun _ _ _ h => h) (Or.inl ⟨by rfl,?_⟩) ?_ ?_
                      rotate_left
                      ·intro w'
                       go_simp
                       with_reducible rfl
                      rotate_left
                      ·simp only [Act.put,List.setIfInBounds_toArray,List.set_cons_zero,List.set_cons_succ,i64_w,i32_w]
                       rfl
                      refine pure_ (i := 2) (N := some 90) (v := ?_) (a' := ?_) #[true,true,true,false,false,false,false,false,false,false,false,false,false,false,false,false,false,false,false,false,false,false,false,false,false,false,false,false,false,false,false,false,false,false,false,false,false,false,false,false,false,false,false,false,false,false,false,false,false] rfl rfl (any_of HT_.out (by kernel_rfl)) (fun _ _ _ h => h) (Or.inl ⟨by rfl,?_⟩) ?_ ?_
                      rotate_left
                      ·intro w'
                       go_simp
                       with_reducible rfl
                      rotate_left
                      ·simp only [Act.put,List.setIfInBounds_toArray,List.set_cons_zero,List.set_cons_succ,i64_w,i32_w]
                       rfl
                      refine pure_ (i := 3) (N := some 91) (v := ?_) (a' := ?_) #[true,true,true,true,false,false,false,false,false,false,false,false,false,false,false,false,false,false,false,false,false,false,false,false,false,false,false,false,false,false,false,false,false,false,false,false,false,false,false,false,false,false,false,false,false,false,false,false,false] rfl rfl (any_of HT_.out (by kernel_rfl)) (fun _ _ _ h => h) (Or.inl ⟨by rfl,?_⟩) ?_ ?_
                      rotate_left
                      ·intro w'
                       go_simp
                       with_reducible rfl
                      rotate_left
                      ·simp only [Act.put,List.setIfInBounds_toArray,List.set_cons_zero,List.set_cons_succ,i64_w,i32_w]
                       rfl
                      refine pure_ (i := 4) (N := some 92) (v := ?_) (a' := ?_) #[true,true,true,true,true,false,false,false,false,false,false,false,false,false,false,false,false,false,false,false,false,false,false,false,false,false,false,false,false,false,false,false,false,false,false,false,false,false,false,false,false,false,false,false,false,false,false,false,false] rfl rfl (any_of HT_.out (by kernel_rfl)) (fun _ _ _ h => h) (Or.inl ⟨by rfl,?_⟩) ?_ ?_
                      rotate_left
                      ·intro w'
                       go_simp
                       with_reducible rfl
                      rotate_left
                      ·simp only [Act.put,List.setIfInBounds_toArray,List.set_cons_zero,List.set_cons_succ,i64_w,i32_w]
                       rfl
                      refine pure_ (i := 5) (N := some 93) (v := ?_) (a' := ?_) #[true,true,true,true,true,true,false,false,false,false,false,false,false,false,false,false,false,false,false,false,false,false,false,false,false,false,false,false,false,false,false,false,false,false,false,false,false,false,false,false,false,false,false,false,false,false,false,false,false] rfl rfl (any_of HT_.out (by kernel_rfl)) (fun _ _ _ h => h) (Or.inl ⟨by rfl,?_⟩) ?_ ?_
                      rotate_left
                      ·intro w'
                       go_simp
                       with_reducible rfl
                      rotate_left
                      ·simp only [Act.put,List.setIfInBounds_toArray,List.set_cons_zero,List.set_cons_succ,i64_w,i32_w]
                       rfl
                      refine pure_ (i := 6) (N := some 94) (v := ?_) (a' := ?_) #[true,true,true,true,true,true,true,false,false,false,false,false,false,false,false,false,false,false,false,false,false,false,false,false,false,false,false,false,false,false,false,false,false,false,false,false,false,false,false,false,false,false,false,false,false,false,false,false,false] rfl rfl (any_of HT_.out (by kernel_rfl)) (fun _ _ _ h => h) (Or.inl ⟨by rfl,?_⟩) ?_ ?_
                      rotate_left
                      ·intro w'
                       go_simp
                       with_reducible rfl
                      rotate_left
                      ·simp only [Act.put,List.setIfInBounds_toArray,List.set_cons_zero,List.set_cons_succ,i64_w,i32_w]
                       rfl
                      refine pure_ (i := 7) (N := some 95) (v := ?_) (a' := ?_) #[true,true,true,true,true,true,true,true,false,false,false,false,false,false,false,false,false,false,false,false,false,false,false,false,false,false,false,false,false,false,false,false,false,false,false,false,false,false,false,false,false,false,false,false,false,false,false,false,false] rfl rfl (any_of HT_.out (by kernel_rfl)) (fun _ _ _ h => h) (Or.inl ⟨by rfl,?_⟩) ?_ ?_
                      rotate_left
                      ·intro w'
                       go_simp
                       with_reducible rfl
                      rotate_left
                      ·simp only [Act.put,List.setIfInBounds_toArray,List.set_cons_zero,List.set_cons_succ,i64_w,i32_w]
                       rfl
                      refine pure_ (i := 8) (N := some 96) (v := ?_) (a' := ?_) #[true,true,true,true,true,true,true,true,true,false,false,false,false,false,false,false,false,false,false,false,false,false,false,false,false,false,false,false,false,false,false,false,false,false,false,false,false,false,false,false,false,false,false,false,false,false,false,false,false] rfl rfl (any_of HT_.out (by kernel_rfl)) (fun _ _ _ h => h) (Or.inl ⟨by rfl,?_⟩) ?_ ?_
                      rotate_left
                      ·intro w'
                       go_simp
                       with_reducible rfl
                      rotate_left
                      ·simp only [Act.put,List.setIfInBounds_toArray,List.set_cons_zero,List.set_cons_succ,i64_w,i32_w]
                       rfl
                      refine pure_ (i := 9) (N := some 97) (v := ?_) (a' := ?_) #[true,true,true,true,true,true,true,true,true,true,false,false,false,false,false,false,false,false,false,false,false,false,false,false,false,false,false,false,false,false,false,false,false,false,false,false,false,false,false,false,false,false,false,false,false,false,false,false,false] rfl rfl (any_of HT_.out (by kernel_rfl)) (fun _ _ _ h => h) (Or.inl ⟨by rfl,?_⟩) ?_ ?_
                      rotate_left
                      ·intro w'
                       go_simp
                       with_reducible rfl
                      rotate_left
                      ·simp only [Act.put,List.setIfInBounds_toArray,List.set_cons_zero,List.set_cons_succ,i64_w,i32_w]
                       rfl
                      refine pure_ (i := 10) (N := some 98) (v := ?_) (a' := ?_) #[true,true,true,true,true,true,true,true,true,true,true,false,false,false,false,false,false,false,false,false,false,false,false,false,false,false,false,false,false,false,false,false,false,false,false,false,false,false,false,false,false,false,false,false,false,false,false,false,false] rfl rfl (any_of HT_.out (by kernel_rfl)) (fun _ _ _ h => h) (Or.inl ⟨by rfl,?_⟩) ?_ ?_
                      rotate_left
                      ·intro w'
                       go_simp
                       with_reducible rfl
                      rotate_left
                      ·simp only [Act.put,List.setIfInBounds_toArray,List.set_cons_zero,List.set_cons_succ,i64_w,i32_w]
                       rfl
                      refine pure_ (i := 11) (N := some 99) (v := ?_) (a' := ?_) #[true,true,true,true,true,true,true,true,true,true,true,true,false,false,false,false,false,false,false,false,false,false,false,false,false,false,false,false,false,false,false,false,false,false,false,false,false,false,false,false,false,false,false,false,false,false,false,false,false] rfl rfl (any_of HT_.out (by kernel_rfl)) (fun _ _ _ h => h) (Or.inl ⟨by rfl,?_⟩) ?_ ?_
                      rotate_left
                      ·intro w'
                       go_simp
                       with_reducible rfl
                      rotate_left
                      ·simp only [Act.put,List.setIfInBounds_toArray,List.set_cons_zero,List.set_cons_succ,i64_w,i32_w]
                       rfl
                      refine pure_ (i := 12) (N := some 100) (v := ?_) (a' := ?_) #[true,true,true,true,true,true,true,true,true,true,true,true,true,false,false,false,false,false,false,false,false,false,false,false,false,false,false,false,false,false,false,false,false,false,false,false,false,false,false,false,false,false,false,false,false,false,false,false,false] rfl rfl (any_of HT_.out (by kernel_rfl)) (fun _ _ _ h => h) (Or.inl ⟨by rfl,?_⟩) ?_ ?_
                      rotate_left
                      ·intro w'
                       go_simp
                       with_reducible rfl
                      rotate_left
                      ·simp only [Act.put,List.setIfInBounds_toArray,List.set_cons_zero,List.set_cons_succ,i64_w,i32_w]
                       rfl
                      refine pure_ (i := 13) (N := some 101) (v := ?_) (a' := ?_) #[true,true,true,true,true,true,true,true,true,true,true,true,true,true,false,false,false,false,false,false,false,false,false,false,false,false,false,false,false,false,false,false,false,false,false,false,false,false,false,false,false,false,false,false,false,false,false,false,false] rfl rfl (any_of HT_.out (by kernel_rfl)) (fun _ _ _ h => h) (Or.inl ⟨by rfl,?_⟩) ?_ ?_
                      rotate_left
                      ·intro w'
                       go_simp
                       with_reducible rfl
                      rotate_left
                      ·simp only [Act.put,List.setIfInBounds_toArray,List.set_cons_zero,List.set_cons_succ,i64_w,i32_w]
                       rfl
                      refine pure_ (i := 14) (N := some 102) (v := ?_) (a' := ?_) #[true,true,true,true,true,true,true,true,true,true,true,true,true,true,true,false,false,false,false,false,false,false,false,false,false,false,false,false,false,false,false,false,false,false,false,false,false,false,false,false,false,false,false,false,false,false,false,false,false] rfl rfl (any_of HT_.out (by kernel_rfl)) (fun _ _ _ h => h) (Or.inl ⟨by rfl,?_⟩) ?_ ?_
                      rotate_left
                      ·intro w'
                       go_simp
                       with_reducible rfl
                      rotate_left
                      ·simp only [Act.put,List.setIfInBounds_toArray,List.set_cons_zero,List.set_cons_succ,i64_w,i32_w]
                       rfl
                      refine pure_ (i := 15) (N := some 103) (v := ?_) (a' := ?_) #[true,true,true,true,true,true,true,true,true,true,true,true,true,true,true,true,false,false,false,false,false,false,false,false,false,false,false,false,false,false,false,false,false,false,false,false,false,false,false,false,false,false,false,false,false,false,false,false,false] rfl rfl (any_of HT_.out (by kernel_rfl)) (fun _ _ _ h => h) (Or.inl ⟨by rfl,?_⟩) ?_ ?_
                      rotate_left
                      ·intro w'
                       go_simp
                       with_reducible rfl
                      rotate_left
                      ·simp only [Act.put,List.setIfInBounds_toArray,List.set_cons_zero,List.set_cons_succ,i64_w,i32_w]
                       rfl
                      refine pure_ (i := 16) (N := some 104) (v := ?_) (a' := ?_) #[true,true,true,true,true,true,true,true,true,true,true,true,true,true,true,true,true,false,false,false,false,false,false,false,false,false,false,false,false,false,false,false,false,false,false,false,false,false,false,false,false,false,false,false,false,false,false,false,false] rfl rfl (any_of HT_.out (by kernel_rfl)) (fun _ _ _ h => h) (Or.inl ⟨by rfl,?_⟩) ?_ ?_
                      rotate_left
                      ·intro w'
                       go_simp
                       with_reducible rfl
                      rotate_left
                      ·simp only [Act.put,List.setIfInBounds_toArray,List.set_cons_zero,List.set_cons_succ,i64_w,i32_w]
                       rfl
                      refine one_ (i := 17) (N := some 105) #[true,true,true,true,true,true,true,true,true,true,true,true,true,true,true,true,true,true,false,false,false,false,false,false,false,false,false,false,false,false,false,false,false,false,false,false,false,false,false,false,false,false,false,false,false,false,false,false,false] rfl rfl (one_of HT_.out (by kernel_rfl)) (by decide) (fun K hK => ?_)
                      refine goes_ Tryd.func24 (by kernel_rfl) rfl #[.slice (some ad165) y147.length co67,.slice Ao65 y151.length co65] (by rfl) rfl rfl (by (try simp only [List.map_toArray,List.map_cons,List.map_nil]);first | done | rfl | (simp only [List.length_drop,List.length_take];rfl)) ?_
                      with_reducible refine (bodkinlaw01_alike.calls kj40 _ _ y147 _ _ y151 true _ ?side1 ?side2 ?side3 ?side4 A53.out).mono ?_
                      (case side1 => repeat (first | exact (by repeat (first | (with_reducible exact HR150.out) | (with_reducible refine Kd.C_alloc ?_ _) | (with_reducible refine Kd.C_drewN ?_ _) | (with_reducible refine Kd.C_drew ?_) | exact HR150.out)) | (with_reducible refine Kd.C_alloc ?_ _) | (with_reducible refine Kd.C_drewN ?_ _) | (with_reducible refine Kd.C_drew ?_)))
                      (case side2 => exact HC150.out)
                      (case side3 => repeat (first | exact (by repeat (first | (with_reducible exact HR154.out) | (with_reducible refine Kd.C_alloc ?_ _) | (with_reducible refine Kd.C_drewN ?_ _) | (with_reducible refine Kd.C_drew ?_) | exact HR154.out)) | (with_reducible refine Kd.C_alloc ?_ _) | (with_reducible refine Kd.C_drewN ?_ _) | (with_reducible refine Kd.C_drew ?_)))
                      (case side4 => exact HC154.out)
                      rintro e w' ⟨rfl,⟨nd,rfl⟩⟩
                      refine ⟨_,rfl,?_⟩
                      have q71 : ((ji55) : Int) ≤ ((t125.length : Int) : Int) := of_decide_eq_true (by first | (with_reducible assumption) | assumption)
                      obtain ⟨i071,hi071,_,hsz71,_⟩ := info_parts info30
                      have hroom71 : t125.length ≤ co67 := (Kd.R_reads' HO_6.out).2.1
                      have hC71 : Kd.C k30 _ (some ad165) t125.length t125 := (Kd.R_reads' HO_6.out).2.2
                      have q071 : (0 : Int) ≤ ((ji55) : Int) := of_decide_eq_true (by first | (with_reducible assumption) | assumption)
                      have hcut71 := cut_from (P := Tryd.prog) 27 30 .i64 Tryd.underlying27 hi071 2 hsz71 (some ad165) t125.length co67 (ji55) q071 q71
                      have hr71 := Kd.C_drop (m := ((ji55) : Int).toNat) (c := co67) hC71 (by omega) hroom71
                      obtain ⟨A71,hA71⟩ : ∃ A1,A1 = (if co67 = ((ji55) : Int).toNat then (some ad165) else ((some ad165) : Option Addr).map (·.add (((ji55) : Int).toNat * 2))) := ⟨_,rfl⟩
                      obtain ⟨c71,hc71⟩ : ∃ c1,c1 = co67 - ((ji55) : Int).toNat := ⟨_,rfl⟩
                      have hy71 : y156.length = t125.length - ((ji55) : Int).toNat := (by rw [Ny156.out,List.length_drop] <;> omega)
                      rw [show (t125).drop ((ji55) : Int).toNat = y156 from Ny156.out.symm] at hr71
                      replace hr71 : Kd.C k30 _ A71 y156.length y156 := (by rw [hA71];exact hr71)
                      rw [← hy71,← hA71,← hc71] at hcut71
                      have HR159 := Aside0.mk hr71
                      have HC159 := Aside0.mk (show y156.length ≤ c71 from by rw [hy71,hc71];exact Nat.sub_le_sub_right hroom71 _)
                      clear hr71 hC71 hroom71 hi071 hsz71 hc71
                      have KY71 := Aside0.mk hy71
                      have KA71 := Aside0.mk hA71
                      clear hy71 hA71
                      have KL71 := Aside0.mk (show ((ji55) : Int).toNat ≤ t125.length from by omega)
                      replace q71 := eq_true q71
                      have q72 : ((ji58) : Int) ≤ ((t131.length : Int) : Int) := of_decide_eq_true (by first | (with_reducible assumption) | assumption)
                      obtain ⟨i072,hi072,_,hsz72,_⟩ := info_parts info30
                      have hroom72 : t131.length ≤ co68 := (Kd.R_reads' HO_8.out).2.1
                      have hC72 : Kd.C k30 _ Ao68 t131.length t131 := (Kd.R_reads' HO_8.out).2.2
                      have q072 : (0 : Int) ≤ ((ji58) : Int) := of_decide_eq_true (by first | (with_reducible assumption) | assumption)
                      have hcut72 := cut_from (P := Tryd.prog) 27 30 .i64 Tryd.underlying27 hi072 2 hsz72 Ao68 t131.length co68 (ji58) q072 q72
                      have hr72 := Kd.C_drop (m := ((ji58) : Int).toNat) (c := co68) hC72 (by omega) hroom72
                      obtain ⟨A72,hA72⟩ : ∃ A1,A1 = (if co68 = ((ji58) : Int).toNat then Ao68 else (Ao68 : Option Addr).map (·.add (((ji58) : Int).toNat * 2))) := ⟨_,rfl⟩
                      obtain ⟨c72,hc72⟩ : ∃ c1,c1 = co68 - ((ji58) : Int).toNat := ⟨_,rfl⟩
                      have hy72 : y160.length = t131.length - ((ji58) : Int).toNat := (by rw [Ny160.out,List.length_drop] <;> omega)
                      rw [show (t131).drop ((ji58) : Int).toNat = y160 from Ny160.out.symm] at hr72
                      replace hr72 : Kd.C k30 _ A72 y160.length y160 := (by rw [hA72];exact hr72)
                      rw [← hy72,← hA72,← hc72] at hcut72
                      have HR163 := Aside0.mk hr72
                      have HC163 := Aside0.mk (show y160.length ≤ c72 from by rw [hy72,hc72];exact Nat.sub_le_sub_right hroom72 _)
                      clear hr72 hC72 hroom72 hi072 hsz72 hc72
                      have KY72 := Aside0.mk hy72
                      have KA72 := Aside0.mk hA72
                      clear hy72 hA72
                      have KL72 := Aside0.mk (show ((ji58) : Int).toNat ≤ t131.length from by omega)
                      replace q72 := eq_true q72
                      refine hK.out _ _ ⟨hHeld.1,hHeld.2.1,hHeld.2.2.1,hHeld.2.2.2⟩ (fun hHeld => ?_)
                      clear hK K
                      refine norm_ (a' := ?_) ?_ ?_
                      rotate_left
                      ·show Act.put _ (some 105) _ = _
                       simp only [Act.put,List.setIfInBounds_toArray,List.set_cons_zero,List.set_cons_succ,i64_w,i32_w]
                       rfl
                      refine pure_ (i := 18) (N := some 106) (v := ?_) (a' := ?_) #[true,true,true,true,true,true,true,true,true,true,true,true,true,true,true,true,true,true,true,false,false,false,false,false,false,false,false,false,false,false,false,false,false,false,false,false,false,false,false,false,false,false,false,false,false,false,false,false,false] rfl rfl (any_of HT_.out (by kernel_rfl)) (fun _ _ _ h => h) (Or.inl ⟨by rfl,?_⟩) ?_ ?_
                      rotate_left
                      ·intro w'
                       go_simp
                       with_reducible rfl
                      rotate_left
                      ·simp only [Act.put,List.setIfInBounds_toArray,List.set_cons_zero,List.set_cons_succ,i64_w,i32_w]
                       rfl
                      refine pure_ (i := 19) (N := some 107) (v := ?_) (a' := ?_) #[true,true,true,true,true,true,true,true,true,true,true,true,true,true,true,true,true,true,true,true,false,false,false,false,false,false,false,false,false,false,false,false,false,false,false,false,false,false,false,false,false,false,false,false,false,false,false,false,false] rfl rfl (any_of HT_.out (by kernel_rfl)) (fun _ _ _ h => h) (Or.inl ⟨by rfl,?_⟩) ?_ ?_
                      rotate_left
                      ·intro w'
                       go_simp
                       with_reducible rfl
                      rotate_left
                      ·simp only [Act.put,List.setIfInBounds_toArray,List.set_cons_zero,List.set_cons_succ,i64_w,i32_w]
                       rfl
                      refine pure_ (i := 20) (N := some 108) (v := ?_) (a' := ?_) #[true,true,true,true,true,true,true,true,true,true,true,true,true,true,true,true,true,true,true,true,true,false,false,false,false,false,false,false,false,false,false,false,false,false,false,false,false,false,false,false,false,false,false,false,false,false,false,false,false] rfl rfl (any_of HT_.out (by kernel_rfl)) (fun _ _ _ h => h) (Or.inl ⟨by rfl,?_⟩) ?_ ?_
                      rotate_left
                      ·intro w'
                       go_simp
                       with_reducible rfl
                      rotate_left
                      ·simp only [Act.put,List.setIfInBounds_toArray,List.set_cons_zero,List.set_cons_succ,i64_w,i32_w]
                       rfl
                      refine pure_ (i := 21) (N := some 109) (v := ?_) (a' := ?_) #[true,true,true,true,true,true,true,true,true,true,true,true,true,true,true,true,true,true,true,true,true,true,false,false,false,false,false,false,false,false,false,false,false,false,false,false,false,false,false,false,false,false,false,false,false,false,false,false,false] rfl rfl (any_of HT_.out (by kernel_rfl)) (fun _ _ _ h => h) (Or.inl ⟨by rfl,?_⟩) ?_ ?_
                      rotate_left
                      ·intro w'
                       go_simp
                       with_reducible rfl
                      rotate_left
                      ·simp only [Act.put,List.setIfInBounds_toArray,List.set_cons_zero,List.set_cons_succ,i64_w,i32_w]
                       rfl
                      refine pure_ (i := 22) (N := some 110) (v := ?_) (a' := ?_) #[true,true,true,true,true,true,true,true,true,true,true,true,true,true,true,true,true,true,true,true,true,true,true,false,false,false,false,false,false,false,false,false,false,false,false,false,false,false,false,false,false,false,false,false,false,false,false,false,false] rfl rfl (any_of HT_.out (by kernel_rfl)) (fun _ _ _ h => h) (Or.inl ⟨by rfl,?_⟩) ?_ ?_
                      rotate_left
                      ·intro w'
                       go_simp
                       with_reducible rfl
                      rotate_left
                      ·simp only [Act.put,List.setIfInBounds_toArray,List.set_cons_zero,List.set_cons_succ,i64_w,i32_w]
                       rfl
                      refine pure_ (i := 23) (N := some 111) (v := ?_) (a' := ?_) #[true,true,true,true,true,true,true,true,true,true,true,true,true,true,true,true,true,true,true,true,true,true,true,true,false,false,false,false,false,false,false,false,false,false,false,false,false,false,false,false,false,false,false,false,false,false,false,false,false] rfl rfl (any_of HT_.out (by kernel_rfl)) (fun _ _ _ h => h) (Or.inl ⟨by rfl,?_⟩) ?_ ?_
                      rotate_left
                      ·intro w'
                       go_simp
                       with_reducible rfl
                      rotate_left
                      ·simp only [Act.put,List.setIfInBounds_toArray,List.set_cons_zero,List.set_cons_succ,i64_w,i32_w]
                       rfl
                      refine pure_ (i := 24) (N := some 112) (v := ?_) (a' := ?_) #[true,true,true,true,true,true,true,true,true,true,true,true,true,true,true,true,true,true,true,true,true,true,true,true,true,false,false,false,false,false,false,false,false,false,false,false,false,false,false,false,false,false,false,false,false,false,false,false,false] rfl rfl (any_of HT_.out (by kernel_rfl)) (fun _ _ _ h => h) (Or.inl ⟨by rfl,?_⟩) ?_ ?_
                      rotate_left
                      ·intro w'
                       go_simp
                       with_reducible rfl
                      rotate_left
                      ·simp only [Act.put,List.setIfInBounds_toArray,List.set_cons_zero,List.set_cons_succ,i64_w,i32_w]
                       rfl
                      refine pure_ (i := 25) (N := some 113) (v := ?_) (a' := ?_) #[true,true,true,true,true,true,true,true,true,true,true,true,true,true,true,true,true,true,true,true,true,true,true,true,true,true,false,false,false,false,false,false,false,false,false,false,false,false,false,false,false,false,false,false,false,false,false,false,false] rfl rfl (any_of HT_.out (by kernel_rfl)) (fun _ _ _ h => h) (Or.inl ⟨by rfl,?_⟩) ?_ ?_
                      rotate_left
                      ·intro w'
                       go_simp
                       with_reducible rfl
                      rotate_left
                      ·simp only [Act.put,List.setIfInBounds_toArray,List.set_cons_zero,List.set_cons_succ,i64_w,i32_w]
                       rfl
                      refine pure_ (i := 26) (N := some 114) (v := ?_) (a' := ?_) #[true,true,true,true,true,true,true,true,true,true,true,true,true,true,true,true,true,true,true,true,true,true,true,true,true,true,true,false,false,false,false,false,false,false,false,false,false,false,false,false,false,false,false,false,false,false,false,false,false] rfl rfl (any_of HT_.out (by kernel_rfl)) (fun _ _ _ h => h) (Or.inl ⟨by rfl,?_⟩) ?_ ?_
                      rotate_left
                      ·intro w'
                       go_simp
                       with_reducible rfl
                      rotate_left
                      ·simp only [Act.put,List.setIfInBounds_toArray,List.set_cons_zero,List.set_cons_succ,i64_w,i32_w]
                       rfl
                      refine one_ (i := 27) (N := some 115) #[true,true,true,true,true,true,true,true,true,true,true,true,true,true,true,true,true,true,true,true,true,true,true,true,true,true,true,true,false,false,false,false,false,false,false,false,false,false,false,false,false,false,false,false,false,false,false,false,false] rfl rfl (one_of HT_.out (by kernel_rfl)) (by decide) (fun K hK => ?_)
                      refine goes_ Tryd.func24 (by kernel_rfl) rfl #[.slice A71 y156.length c71,.slice A72 y160.length c72] (by rfl) rfl rfl (by (try simp only [List.map_toArray,List.map_cons,List.map_nil]);first | done | rfl | (simp only [List.length_drop,List.length_take];rfl)) ?_
                      with_reducible refine (bodkinlaw01_alike.calls kj40 _ _ y156 _ _ y160 true _ ?side1 ?side2 ?side3 ?side4 A61.out).mono ?_
                      (case side1 => repeat (first | exact (by repeat (first | (with_reducible exact HR159.out) | (with_reducible refine Kd.C_alloc ?_ _) | (with_reducible refine Kd.C_drewN ?_ _) | (with_reducible refine Kd.C_drew ?_) | exact HR159.out)) | (with_reducible refine Kd.C_alloc ?_ _) | (with_reducible refine Kd.C_drewN ?_ _) | (with_reducible refine Kd.C_drew ?_)))
                      (case side2 => exact HC159.out)
                      (case side3 => repeat (first | exact (by repeat (first | (with_reducible exact HR163.out) | (with_reducible refine Kd.C_alloc ?_ _) | (with_reducible refine Kd.C_drewN ?_ _) | (with_reducible refine Kd.C_drew ?_) | exact HR163.out)) | (with_reducible refine Kd.C_alloc ?_ _) | (with_reducible refine Kd.C_drewN ?_ _) | (with_reducible refine Kd.C_drew ?_)))
                      (case side4 => exact HC163.out)
                      rintro e w' ⟨rfl,⟨nd,rfl⟩⟩
                      refine ⟨_,rfl,?_⟩
                      refine hK.out _ _ ⟨hHeld.1,hHeld.2.1,hHeld.2.2.1,hHeld.2.2.2⟩ (fun hHeld => ?_)
                      clear hK K
                      refine norm_ (a' := ?_) ?_ ?_
                      rotate_left
                      ·show Act.put _ (some 115) _ = _
                       simp only [Act.put,List.setIfInBounds_toArray,List.set_cons_zero,List.set_cons_succ,i64_w,i32_w]
                       rfl
                      refine pure_ (i := 28) (N := some 116) (v := ?_) (a' := ?_) #[true,true,true,true,true,true,true,true,true,true,true,true,true,true,true,true,true,true,true,true,true,true,true,true,true,true,true,true,true,false,false,false,false,false,false,false,false,false,false,false,false,false,false,false,false,false,false,false,false] rfl rfl (any_of HT_.out (by kernel_rfl)) (fun _ _ _ h => h) (Or.inl ⟨by rfl,?_⟩) ?_ ?_
                      rotate_left
                      ·intro w'
                       go_simp
                       with_reducible rfl
                      rotate_left
                      ·simp only [Act.put,List.setIfInBounds_toArray,List.set_cons_zero,List.set_cons_succ,i64_w,i32_w]
                       rfl
                      refine pure_ (i := 29) (N := some 117) (v := ?_) (a' := ?_) #[true,true,true,true,true,true,true,true,true,true,true,true,true,true,true,true,true,true,true,true,true,true,true,true,true,true,true,true,true,true,false,false,false,false,false,false,false,false,false,false,false,false,false,false,false,false,false,false,false] rfl rfl (any_of HT_.out (by kernel_rfl)) (fun _ _ _ h => h) (Or.inl ⟨by rfl,?_⟩) ?_ ?_
                      rotate_left
                      ·intro w'
                       go_simp
                       with_reducible rfl
                      rotate_left
                      ·simp only [Act.put,List.setIfInBounds_toArray,List.set_cons_zero,List.set_cons_succ,i64_w,i32_w]
                       rfl
                      refine pure_ (i := 30) (N := some 118) (v := ?_) (a' := ?_) #[true,true,true,true,true,true,true,true,true,true,true,true,true,true,true,true,true,true,true,true,true,true,true,true,true,true,true,true,true,true,true,false,false,false,false,false,false,false,false,false,false,false,false,false,false,false,false,false,false] rfl rfl (any_of HT_.out (by kernel_rfl)) (fun _ _ _ h => h) (Or.inl ⟨by rfl,?_⟩) ?_ ?_
                      rotate_left
                      ·intro w'
                       go_simp
                       with_reducible rfl
                      rotate_left
                      ·simp only [Act.put,List.setIfInBounds_toArray,List.set_cons_zero,List.set_cons_succ,i64_w,i32_w]
                       rfl
                      refine pure_ (i := 31) (N := some 119) (v := ?_) (a' := ?_) #[true,true,true,true,true,true,true,true,true,true,true,true,true,true,true,true,true,true,true,true,true,true,true,true,true,true,true,true,true,true,true,true,false,false,false,false,false,false,false,false,false,false,false,false,false,false,false,false,false] rfl rfl (any_of HT_.out (by kernel_rfl)) (fun _ _ _ h => h) (Or.inl ⟨by rfl,?_⟩) ?_ ?_
                      rotate_left
                      ·intro w'
                       go_simp
                       with_reducible rfl
                      rotate_left
                      ·simp only [Act.put,List.setIfInBounds_toArray,List.set_cons_zero,List.set_cons_succ,i64_w,i32_w]
                       rfl
                      refine pure_ (i := 32) (N := some 120) (v := ?_) (a' := ?_) #[true,true,true,true,true,true,true,true,true,true,true,true,true,true,true,true,true,true,true,true,true,true,true,true,true,true,true,true,true,true,true,true,true,false,false,false,false,false,false,false,false,false,false,false,false,false,false,false,false] rfl rfl (any_of HT_.out (by kernel_rfl)) (fun _ _ _ h => h) (Or.inl ⟨by rfl,?_⟩) ?_ ?_
                      rotate_left
                      ·intro w'
                       go_simp
                       with_reducible rfl
                      rotate_left
                      ·simp only [Act.put,List.setIfInBounds_toArray,List.set_cons_zero,List.set_cons_succ,i64_w,i32_w]
                       rfl
                      refine pure_ (i := 33) (N := some 121) (v := ?_) (a' := ?_) #[true,true,true,true,true,true,true,true,true,true,true,true,true,true,true,true,true,true,true,true,true,true,true,true,true,true,true,true,true,true,true,true,true,true,false,false,false,false,false,false,false,false,false,false,false,false,false,false,false] rfl rfl (any_of HT_.out (by kernel_rfl)) (fun _ _ _ h => h) (Or.inl ⟨by rfl,?_⟩) ?_ ?_
                      rotate_left
                      ·intro w'
                       go_simp
                       with_reducible rfl
                      rotate_left
                      ·simp only [Act.put,List.setIfInBounds_toArray,List.set_cons_zero,List.set_cons_succ,i64_w,i32_w]
                       rfl
                      refine pure_ (i := 35) (N := some 123) (v := ?_) (a' := ?_) #[true,true,true,true,true,true,true,true,true,true,true,true,true,true,true,true,true,true,true,true,true,true,true,true,true,true,true,true,true,true,true,true,true,true,false,true,false,false,false,false,false,false,false,false,false,false,false,false,false] rfl rfl (any_of HT_.out (by kernel_rfl)) (fun _ _ _ h => h) (Or.inl ⟨by rfl,?_⟩) ?_ ?_
                      rotate_left
                      ·intro w'
                       go_simp
                       with_reducible rfl
                      rotate_left
                      ·simp only [Act.put,List.setIfInBounds_toArray,List.set_cons_zero,List.set_cons_succ,i64_w,i32_w]
                       rfl
                      refine pure_ (i := 36) (N := some 124) (v := ?_) (a' := ?_) #[true,true,true,true,true,true,true,true,true,true,true,true,true,true,true,true,true,true,true,true,true,true,true,true,true,true,true,true,true,true,true,true,true,true,false,true,true,false,false,false,false,false,false,false,false,false,false,false,false] rfl rfl (any_of HT_.out (by kernel_rfl)) (fun _ _ _ h => h) (Or.inl ⟨by rfl,?_⟩) ?_ ?_
                      rotate_left
                      ·intro w'
                       go_simp
                       with_reducible rfl
                      rotate_left
                      ·simp only [Act.put,List.setIfInBounds_toArray,List.set_cons_zero,List.set_cons_succ,i64_w,i32_w]
                       rfl
                      refine pure_ (i := 37) (N := some 125) (v := ?_) (a' := ?_) #[true,true,true,true,true,true,true,true,true,true,true,true,true,true,true,true,true,true,true,true,true,true,true,true,true,true,true,true,true,true,true,true,true,true,false,true,true,true,false,false,false,false,false,false,false,false,false,false,false] rfl rfl (any_of HT_.out (by kernel_rfl)) (fun _ _ _ h => h) (Or.inl ⟨by rfl,?_⟩) ?_ ?_
                      rotate_left
                      ·intro w'
                       go_simp
                       with_reducible rfl
                      rotate_left
                      ·simp only [Act.put,List.setIfInBounds_toArray,List.set_cons_zero,List.set_cons_succ,i64_w,i32_w]
                       rfl
                      refine take_ (i := 34) (N := some 122) (v := ?_) (a' := ?_) #[true,true,true,true,true,true,true,true,true,true,true,true,true,true,true,true,true,true,true,true,true,true,true,true,true,true,true,true,true,true,true,true,true,true,true,true,true,true,false,false,false,false,false,false,false,false,false,false,false] rfl rfl (take_ofW HT_.out HW_.out (by kernel_rfl)) (fun _ _ _ h => h) (Or.inl ⟨by rfl,?_⟩) hHeld ?_ ?_
                      rotate_left
                      ·rintro w' ⟨s0,s1,s2,s3⟩
                       go_simp
                       with_reducible rfl
                      rotate_left
                      ·simp only [Act.put,List.setIfInBounds_toArray,List.set_cons_zero,List.set_cons_succ,i64_w,i32_w]
                       rfl
                      refine pure_ (i := 38) (N := some 126) (v := ?_) (a' := ?_) #[true,true,true,true,true,true,true,true,true,true,true,true,true,true,true,true,true,true,true,true,true,true,true,true,true,true,true,true,true,true,true,true,true,true,true,true,true,true,true,false,false,false,false,false,false,false,false,false,false] rfl rfl (any_of HT_.out (by kernel_rfl)) (fun _ _ _ h => h) (Or.inl ⟨by rfl,?_⟩) ?_ ?_
                      rotate_left
                      ·intro w'
                       go_simp
                       with_reducible rfl
                      rotate_left
                      ·simp only [Act.put,List.setIfInBounds_toArray,List.set_cons_zero,List.set_cons_succ,i64_w,i32_w]
                       rfl
                      refine pure_ (i := 39) (N := some 127) (v := ?_) (a' := ?_) #[true,true,true,true,true,true,true,true,true,true,true,true,true,true,true,true,true,true,true,true,true,true,true,true,true,true,true,true,true,true,true,true,true,true,true,true,true,true,true,true,false,false,false,false,false,false,false,false,false] rfl rfl (any_of HT_.out (by kernel_rfl)) (fun _ _ _ h => h) (Or.inl ⟨by rfl,?_⟩) ?_ ?_
                      rotate_left
                      ·intro w'
                       go_simp
                       with_reducible rfl
                      rotate_left
                      ·simp only [Act.put,List.setIfInBounds_toArray,List.set_cons_zero,List.set_cons_succ,i64_w,i32_w]
                       rfl
                      refine pure_ (i := 40) (N := some 128) (v := ?_) (a' := ?_) #[true,true,true,true,true,true,true,true,true,true,true,true,true,true,true,true,true,true,true,true,true,true,true,true,true,true,true,true,true,true,true,true,true,true,true,true,true,true,true,true,true,false,false,false,false,false,false,false,false] rfl rfl (any_of HT_.out (by kernel_rfl)) (fun _ _ _ h => h) (Or.inl ⟨by rfl,?_⟩) ?_ ?_
                      rotate_left
                      ·intro w'
                       go_simp
                       with_reducible rfl
                      rotate_left
                      ·simp only [Act.put,List.setIfInBounds_toArray,List.set_cons_zero,List.set_cons_succ,i64_w,i32_w]
                       rfl
                      refine pure_ (i := 41) (N := some 129) (v := ?_) (a' := ?_) #[true,true,true,true,true,true,true,true,true,true,true,true,true,true,true,true,true,true,true,true,true,true,true,true,true,true,true,true,true,true,true,true,true,true,true,true,true,true,true,true,true,true,false,false,false,false,false,false,false] rfl rfl (any_of HT_.out (by kernel_rfl)) (fun _ _ _ h => h) (Or.inl ⟨by rfl,?_⟩) ?_ ?_
                      rotate_left
                      ·intro w'
                       go_simp
                       with_reducible rfl
                      rotate_left
                      ·simp only [Act.put,List.setIfInBounds_toArray,List.set_cons_zero,List.set_cons_succ,i64_w,i32_w]
                       rfl
                      refine pure_ (i := 42) (N := some 130) (v := ?_) (a' := ?_) #[true,true,true,true,true,true,true,true,true,true,true,true,true,true,true,true,true,true,true,true,true,true,true,true,true,true,true,true,true,true,true,true,true,true,true,true,true,true,true,true,true,true,true,false,false,false,false,false,false] rfl rfl (any_of HT_.out (by kernel_rfl)) (fun _ _ _ h => h) (Or.inl ⟨by rfl,?_⟩) ?_ ?_
                      rotate_left
                      ·intro w'
                       go_simp
                       with_reducible rfl
                      rotate_left
                      ·simp only [Act.put,List.setIfInBounds_toArray,List.set_cons_zero,List.set_cons_succ,i64_w,i32_w]
                       rfl
                      refine pure_ (i := 43) (N := some 131) (v := ?_) (a' := ?_) #[true,true,true,true,true,true,true,true,true,true,true,true,true,true,true,true,true,true,true,true,true,true,true,true,true,true,true,true,true,true,true,true,true,true,true,true,true,true,true,true,true,true,true,true,false,false,false,false,false] rfl rfl (any_of HT_.out (by kernel_rfl)) (fun _ _ _ h => h) (Or.inl ⟨by rfl,?_⟩) ?_ ?_
                      rotate_left
                      ·intro w'
                       go_simp
                       with_reducible rfl
                      rotate_left
                      ·simp only [Act.put,List.setIfInBounds_toArray,List.set_cons_zero,List.set_cons_succ,i64_w,i32_w]
                       rfl
                      refine pure_ (i := 44) (N := some 132) (v := ?_) (a' := ?_) #[true,true,true,true,true,true,true,true,true,true,true,true,true,true,true,true,true,true,true,true,true,true,true,true,true,true,true,true,true,true,true,true,true,true,true,true,true,true,true,true,true,true,true,true,true,false,false,false,false] rfl rfl (any_of HT_.out (by kernel_rfl)) (fun _ _ _ h => h) (Or.inl ⟨by rfl,?_⟩) ?_ ?_
                      rotate_left
                      ·intro w'
                       go_simp
                       with_reducible rfl
                      rotate_left
                      ·simp only [Act.put,List.setIfInBounds_toArray,List.set_cons_zero,List.set_cons_succ,i64_w,i32_w]
                       rfl
                      refine take_ (i := 45) (N := some 133) (v := ?_) (a' := ?_) #[true,true,true,true,true,true,true,true,true,true,true,true,true,true,true,true,true,true,true,true,true,true,true,true,true,true,true,true,true,true,true,true,true,true,true,true,true,true,true,true,true,true,true,true,true,true,false,false,false] rfl rfl (take_ofW HT_.out HW_.out (by kernel_rfl)) (fun _ _ _ h => h) (Or.inl ⟨by rfl,?_⟩) hHeld ?_ ?_
                      rotate_left
                      ·rintro w' ⟨s0,s1,s2,s3⟩
                       go_simp
                       with_reducible rfl
                      rotate_left
                      ·simp only [Act.put,List.setIfInBounds_toArray,List.set_cons_zero,List.set_cons_succ,i64_w,i32_w]
                       rfl
                      refine pure_ (i := 46) (N := some 134) (v := ?_) (a' := ?_) #[true,true,true,true,true,true,true,true,true,true,true,true,true,true,true,true,true,true,true,true,true,true,true,true,true,true,true,true,true,true,true,true,true,true,true,true,true,true,true,true,true,true,true,true,true,true,true,false,false] rfl rfl (any_of HT_.out (by kernel_rfl)) (fun _ _ _ h => h) (Or.inl ⟨by rfl,?_⟩) ?_ ?_
                      rotate_left
                      ·intro w'
                       go_simp
                       with_reducible rfl
                      rotate_left
                      ·simp only [Act.put,List.setIfInBounds_toArray,List.set_cons_zero,List.set_cons_succ,i64_w,i32_w]
                       rfl
                      refine pure_ (i := 47) (N := some 135) (v := ?_) (a' := ?_) #[true,true,true,true,true,true,true,true,true,true,true,true,true,true,true,true,true,true,true,true,true,true,true,true,true,true,true,true,true,true,true,true,true,true,true,true,true,true,true,true,true,true,true,true,true,true,true,true,false] rfl rfl (any_of HT_.out (by kernel_rfl)) (fun _ _ _ h => h) (Or.inl ⟨by rfl,?_⟩) ?_ ?_
                      rotate_left
                      ·intro w'
                       go_simp
                       with_reducible rfl
                      rotate_left
                      ·simp only [Act.put,List.setIfInBounds_toArray,List.set_cons_zero,List.set_cons_succ,i64_w,i32_w]
                       rfl
                      refine pure_ (i := 48) (N := some 4) (v := ?_) (a' := ?_) #[true,true,true,true,true,true,true,true,true,true,true,true,true,true,true,true,true,true,true,true,true,true,true,true,true,true,true,true,true,true,true,true,true,true,true,true,true,true,true,true,true,true,true,true,true,true,true,true,true] rfl rfl (any_of HT_.out (by kernel_rfl)) (fun _ _ _ h => h) (Or.inl ⟨by rfl,?_⟩) ?_ ?_
                      rotate_left
                      ·intro w'
                       go_simp
                       with_reducible rfl
                      rotate_left
                      ·simp only [Act.put,List.setIfInBounds_toArray,List.set_cons_zero,List.set_cons_succ,i64_w,i32_w]
                       rfl
                      refine done_ (done_of HT_.out (by kernel_rfl)) ?_
                      try go_wp2
                      go_ret
                      exact ⟨by first | rfl | (simp [errW_none,errW_some] <;> rfl) | (simp only [← hji48,← hji55,← hji58];first | rfl | (simp [errW_none,errW_some] <;> rfl)) | (simp [*,errW_none,errW_some] <;> rfl),by repeat (first | (with_reducible first | exact HB.out | apply below_alloc | apply pw_below_drewN | apply below_drew1) | exact HB.out)⟩
                     ·rw [if_neg c64] at H
                      have c64b0 : (((rd_T30 t125 (ji48)).f1) == (wrap64 (t146 - t145))) = false := beq_eq_false_iff_ne.mpr c64
                      have c64b1 : (((rd_T30 t125 (ji48)).f1) != (wrap64 (t146 - t145))) = true := bne_iff_ne.mpr c64
                      obtain rfl := Option.some.inj H
                      obtain ⟨Ao73,co73,eo73⟩ := Kd.R_slice HO_7.out
                      subst eo73
                      try go_wp2
                      have n0_ := Aside0.mk (Kd.R_drew HO_6.out)
                      have n1_ := Aside0.mk (Kd.R_drew HO_7.out)
                      have n2_ := Aside0.mk (Kd.R_drew HO_8.out)
                      have n3_ := Aside0.mk (below_drew1 HB.out)
                      clear HO_6
                      clear HO_7
                      clear HO_8
                      clear HB
                      have HO_6 := n0_
                      have HO_7 := n1_
                      have HO_8 := n2_
                      have HB := n3_
                      clear n0_ n1_ n2_ n3_
                      obtain ⟨Ao75,co75,eo75⟩ := Kd.R_slice HO_6.out
                      (first | subst eo75 | (injection eo75 with f1_ f2_ f3_;have f4_ := f1_.symm;have f5_ := f3_.symm;clear f1_ f2_ f3_;subst f4_;subst f5_))
                      obtain ⟨Ao76,co76,eo76⟩ := Kd.R_slice HO_8.out
                      (first | subst eo76 | (injection eo76 with f1_ f2_ f3_;have f4_ := f1_.symm;have f5_ := f3_.symm;clear f1_ f2_ f3_;subst f4_;subst f5_))
                      have q77 : ((ji48) : Int) ≤ ((t125.length : Int) : Int) := of_decide_eq_true (by first | (with_reducible assumption) | assumption)
                      obtain ⟨i077,hi077,_,hsz77,_⟩ := info_parts info30
                      have hroom77 : t125.length ≤ co75 := (Kd.R_reads' HO_6.out).2.1
                      have hC77 : Kd.C k30 _ Ao75 t125.length t125 := (Kd.R_reads' HO_6.out).2.2
                      have hcut77 := cut_to (P := Tryd.prog) 27 30 .i64 Tryd.underlying27 hi077 Ao75 t125.length co75 (ji48) (of_decide_eq_true (by first | (with_reducible assumption) | assumption)) q77 hroom77
                      have hr77 := Kd.C_take (m := ((ji48) : Int).toNat) hC77 (by omega)
                      have hy77 : y147.length = ((ji48) : Int).toNat := (by rw [Ny147.out,List.length_take];omega)
                      rw [← Ny147.out] at hr77
                      rw [← hy77] at hcut77
                      have HR150 := Aside0.mk hr77
                      have HC150 := Aside0.mk (show y147.length ≤ co75 from by omega)
                      clear hr77 hC77 hroom77 hi077 hsz77
                      have KY77 := Aside0.mk hy77
                      clear hy77
                      have KL77 := Aside0.mk (show ((ji48) : Int).toNat ≤ t125.length from by omega)
                      replace q77 := eq_true q77
                      have q78 : ((ji48) : Int) ≤ ((t128.length : Int) : Int) := of_decide_eq_true (by first | (with_reducible assumption) | assumption)
                      obtain ⟨i078,hi078,_,hsz78,_⟩ := info_parts info30
                      have hroom78 : t128.length ≤ co73 := (Kd.R_reads' HO_7.out).2.1
                      have hC78 : Kd.C k30 _ Ao73 t128.length t128 := (Kd.R_reads' HO_7.out).2.2
                      have hcut78 := cut_to (P := Tryd.prog) 27 30 .i64 Tryd.underlying27 hi078 Ao73 t128.length co73 (ji48) (of_decide_eq_true (by first | (with_reducible assumption) | assumption)) q78 hroom78
                      have hr78 := Kd.C_take (m := ((ji48) : Int).toNat) hC78 (by omega)
                      have hy78 : y151.length = ((ji48) : Int).toNat := (by rw [Ny151.out,List.length_take];omega)
                      rw [← Ny151.out] at hr78
                      rw [← hy78] at hcut78
                      have HR154 := Aside0.mk hr78
                      have HC154 := Aside0.mk (show y151.length ≤ co73 from by omega)
                      clear hr78 hC78 hroom78 hi078 hsz78
                      have KY78 := Aside0.mk hy78
                      clear hy78
                      have KL78 := Aside0.mk (show ((ji48) : Int).toNat ≤ t128.length from by omega)
                      replace q78 := eq_true q78
                      have p165 : 0 ≤ ((ji48) : Int) := of_decide_eq_true (by first | (with_reducible assumption) | assumption)
                      have q165 : (ji48) < (t125.length : Int) := of_decide_eq_true (by first | (with_reducible assumption) | assumption)
                      obtain ⟨ad165,e165,hx165_0,hx165_1⟩ := at_T30 (Kd.R_reads' HO_6.out).2.2 (ji48) p165 q165
                      cases e165
                      replace p165 := eq_true p165
                      replace q165 := eq_true q165
                      refine start_ (n := 49) (S := fun w' => w'.cell? (ad165.add (((ji48)).toNat * 2)) = some (.int .i32 ((rd_T30 t125 (ji48)).f0)) ∧ w'.cell? ⟨(ad165.add (((ji48)).toNat * 2)).block,(ad165.add (((ji48)).toNat * 2)).off + 1,none⟩ = some (.int .i64 ((rd_T30 t125 (ji48)).f1))) (ds := []) #[false,false,false,false,false,false,false,false,false,false,false,false,false,false,false,false,false,false,false,false,false,false,false,false,false,false,false,false,false,false,false,false,false,false,false,false,false,false,false,false,false,false,false,false,false,false,false,false,false] (by kernel_rfl) rfl rfl ⟨hx165_0,hx165_1⟩ (fun hHeld => ?_);refine with_tabW bodkinlaw01_UnitSeams.tab14 bodkinlaw01_UnitSeams.bits14 (fun HT_ HW_ => ?_)
                      generalize wc.drew = w74 at HO_6 HO_7 HO_8 HB HR150 HR154 hx165_0 hx165_1 hHeld ⊢
                      refine pure_ (i := 0) (N := some 88) (v := ?_) (a' := ?_) #[true,false,false,false,false,false,false,false,false,false,false,false,false,false,false,false,false,false,false,false,false,false,false,false,false,false,false,false,false,false,false,false,false,false,false,false,false,false,false,false,false,false,false,false,false,false,false,false,false] rfl rfl (any_of HT_.out (by kernel_rfl)) (fun _ _ _ h => h) (Or.inl ⟨by rfl,?_⟩) ?_ ?_
                      rotate_left
                      ·intro w'
                       go_simp
                       with_reducible rfl
                      rotate_left
                      ·simp only [Act.put,List.setIfInBounds_toArray,List.set_cons_zero,List.set_cons_succ,i64_w,i32_w]
                       rfl
                      refine pure_ (i := 1) (N := some 89) (v := ?_) (a' := ?_) #[true,true,false,false,false,false,false,false,false,false,false,false,false,false,false,false,false,false,false,false,false,false,false,false,false,false,false,false,false,false,false,false,false,false,false,false,false,false,false,false,false,false,false,false,false,false,false,false,false] rfl rfl (any_of HT_.out (by kernel_rfl)) (fun _ _ _ h => h) (Or.inl ⟨by rfl,?_⟩) ?_ ?_
                      rotate_left
                      ·intro w'
                       go_simp
                       with_reducible rfl
                      rotate_left
                      ·simp only [Act.put,List.setIfInBounds_toArray,List.set_cons_zero,List.set_cons_succ,i64_w,i32_w]
                       rfl
                      refine pure_ (i := 2) (N := some 90) (v := ?_) (a' := ?_) #[true,true,true,false,false,false,false,false,false,false,false,false,false,false,false,false,false,false,false,false,false,false,false,false,false,false,false,false,false,false,false,false,false,false,false,false,false,false,false,false,false,false,false,false,false,false,false,false,false] rfl rfl (any_of HT_.out (by kernel_rfl)) (fun _ _ _ h => h) (Or.inl ⟨by rfl,?_⟩) ?_ ?_
                      rotate_left
                      ·intro w'
                       go_simp
                       with_reducible rfl
                      rotate_left
                      ·simp only [Act.put,List.setIfInBounds_toArray,List.set_cons_zero,List.set_cons_succ,i64_w,i32_w]
                       rfl
                      refine pure_ (i := 3) (N := some 91) (v := ?_) (a' := ?_) #[true,true,true,true,false,false,false,false,false,false,false,false,false,false,false,false,false,false,false,false,false,false,false,false,false,false,false,false,false,false,false,false,false,false,false,false,false,false,false,false,false,false,false,false,false,false,false,false,false] rfl rfl (any_of HT_.out (by kernel_rfl)) (fun _ _ _ h => h) (Or.inl ⟨by rfl,?_⟩) ?_ ?_
                      rotate_left
                      ·intro w'
                       go_simp
                       with_reducible rfl
                      rotate_left
                      ·simp only [Act.put,List.setIfInBounds_toArray,List.set_cons_zero,List.set_cons_succ,i64_w,i32_w]
                       rfl
                      refine pure_ (i := 4) (N := some 92) (v := ?_) (a' := ?_) #[true,true,true,true,true,false,false,false,false,false,false,false,false,false,false,false,false,false,false,false,false,false,false,false,false,false,false,false,false,false,false,false,false,false,false,false,false,false,false,false,false,false,false,false,false,false,false,false,false] rfl rfl (any_of HT_.out (by kernel_rfl)) (fun _ _ _ h => h) (Or.inl ⟨by rfl,?_⟩) ?_ ?_
                      rotate_left
                      ·intro w'
                       go_simp
                       with_reducible rfl
                      rotate_left
                      ·simp only [Act.put,List.setIfInBounds_toArray,List.set_cons_zero,List.set_cons_succ,i64_w,i32_w]
                       rfl
                      refine pure_ (i := 5) (N := some 93) (v := ?_) (a' := ?_) #[true,true,true,true,true,true,false,false,false,false,false,false,false,false,false,false,false,false,false,false,false,false,false,false,false,false,false,false,false,false,false,false,false,false,false,false,false,false,false,false,false,false,false,false,false,false,false,false,false] rfl rfl (any_of HT_.out (by kernel_rfl)) (fun _ _ _ h => h) (Or.inl ⟨by rfl,?_⟩) ?_ ?_
                      rotate_left
                      ·intro w'
                       go_simp
                       with_reducible rfl
                      rotate_left
                      ·simp only [Act.put,List.setIfInBounds_toArray,List.set_cons_zero,List.set_cons_succ,i64_w,i32_w]
                       rfl
                      refine pure_ (i := 6) (N := some 94) (v := ?_) (a' := ?_) #[true,true,true,true,true,true,true,false,false,false,false,false,false,false,false,false,false,false,false,false,false,false,false,false,false,false,false,false,false,false,false,false,false,false,false,false,false,false,false,false,false,false,false,false,false,false,false,false,false] rfl rfl (any_of HT_.out (by kernel_rfl)) (fun _ _ _ h => h) (Or.inl ⟨by rfl,?_⟩) ?_ ?_
                      rotate_left
                      ·intro w'
                       go_simp
                       with_reducible rfl
                      rotate_left
                      ·simp only [Act.put,List.setIfInBounds_toArray,List.set_cons_zero,List.set_cons_succ,i64_w,i32_w]
                       rfl
                      refine pure_ (i := 7) (N := some 95) (v := ?_) (a' := ?_) #[true,true,true,true,true,true,true,true,false,false,false,false,false,false,false,false,false,false,false,false,false,false,false,false,false,false,false,false,false,false,false,false,false,false,false,false,false,false,false,false,false,false,false,false,false,false,false,false,false] rfl rfl (any_of HT_.out (by kernel_rfl)) (fun _ _ _ h => h) (Or.inl ⟨by rfl,?_⟩) ?_ ?_
                      rotate_left
                      ·intro w'
                       go_simp
                       with_reducible rfl
                      rotate_left
                      ·simp only [Act.put,List.setIfInBounds_toArray,List.set_cons_zero,List.set_cons_succ,i64_w,i32_w]
                       rfl
                      refine pure_ (i := 8) (N := some 96) (v := ?_) (a' := ?_) #[true,true,true,true,true,true,true,true,true,false,false,false,false,false,false,false,false,false,false,false,false,false,false,false,false,false,false,false,false,false,false,false,false,false,false,false,false,false,false,false,false,false,false,false,false,false,false,false,false] rfl rfl (any_of HT_.out (by kernel_rfl)) (fun _ _ _ h => h) (Or.inl ⟨by rfl,?_⟩) ?_ ?_
                      rotate_left
                      ·intro w'
                       go_simp
                       with_reducible rfl
                      rotate_left
                      ·simp only [Act.put,List.setIfInBounds_toArray,List.set_cons_zero,List.set_cons_succ,i64_w,i32_w]
                       rfl
                      refine pure_ (i := 9) (N := some 97) (v := ?_) (a' := ?_) #[true,true,true,true,true,true,true,true,true,true,false,false,false,false,false,false,false,false,false,false,false,false,false,false,false,false,false,false,false,false,false,false,false,false,false,false,false,false,false,false,false,false,false,false,false,false,false,false,false] rfl rfl (any_of HT_.out (by kernel_rfl)) (fun _ _ _ h => h) (Or.inl ⟨by rfl,?_⟩) ?_ ?_
                      rotate_left
                      ·intro w'
                       go_simp
                       with_reducible rfl
                      rotate_left
                      ·simp only [Act.put,List.setIfInBounds_toArray,List.set_cons_zero,List.set_cons_succ,i64_w,i32_w]
                       rfl
                      refine pure_ (i := 10) (N := some 98) (v := ?_) (a' := ?_) #[true,true,true,true,true,true,true,true,true,true,true,false,false,false,false,false,false,false,false,false,false,false,false,false,false,false,false,false,false,false,false,false,false,false,false,false,false,false,false,false,false,false,false,false,false,false,false,false,false] rfl rfl (any_of HT_.out (by kernel_rfl)) (fun _ _ _ h => h) (Or.inl ⟨by rfl,?_⟩) ?_ ?_
                      rotate_left
                      ·intro w'
                       go_simp
                       with_reducible rfl
                      rotate_left
                      ·simp only [Act.put,List.setIfInBounds_toArray,List.set_cons_zero,List.set_cons_succ,i64_w,i32_w]
                       rfl
                      refine pure_ (i := 11) (N := some 99) (v := ?_) (a' := ?_) #[true,true,true,true,true,true,true,true,true,true,true,true,false,false,false,false,false,false,false,false,false,false,false,false,false,false,false,false,false,false,false,false,false,false,false,false,false,false,false,false,false,false,false,false,false,false,false,false,false] rfl rfl (any_of HT_.out (by kernel_rfl)) (fun _ _ _ h => h) (Or.inl ⟨by rfl,?_⟩) ?_ ?_
                      rotate_left
                      ·intro w'
                       go_simp
                       with_reducible rfl
                      rotate_left
                      ·simp only [Act.put,List.setIfInBounds_toArray,List.set_cons_zero,List.set_cons_succ,i64_w,i32_w]
                       rfl
                      refine pure_ (i := 12) (N := some 100) (v := ?_) (a' := ?_) #[true,true,true,true,true,true,true,true,true,true,true,true,true,false,false,false,false,false,false,false,false,false,false,false,false,false,false,false,false,false,false,false,false,false,false,false,false,false,false,false,false,false,false,false,false,false,false,false,false] rfl rfl (any_of HT_.out (by kernel_rfl)) (fun _ _ _ h => h) (Or.inl ⟨by rfl,?_⟩) ?_ ?_
                      rotate_left
                      ·intro w'
                       go_simp
                       with_reducible rfl
                      rotate_left
                      ·simp only [Act.put,List.setIfInBounds_toArray,List.set_cons_zero,List.set_cons_succ,i64_w,i32_w]
                       rfl
                      refine pure_ (i := 13) (N := some 101) (v := ?_) (a' := ?_) #[true,true,true,true,true,true,true,true,true,true,true,true,true,true,false,false,false,false,false,false,false,false,false,false,false,false,false,false,false,false,false,false,false,false,false,false,false,false,false,false,false,false,false,false,false,false,false,false,false] rfl rfl (any_of HT_.out (by kernel_rfl)) (fun _ _ _ h => h) (Or.inl ⟨by rfl,?_⟩) ?_ ?_
                      rotate_left
                      ·intro w'
                       go_simp
                       with_reducible rfl
                      rotate_left
                      ·simp only [Act.put,List.setIfInBounds_toArray,List.set_cons_zero,List.set_cons_succ,i64_w,i32_w]
                       rfl
                      refine pure_ (i := 14) (N := some 102) (v := ?_) (a' := ?_) #[true,true,true,true,true,true,true,true,true,true,true,true,true,true,true,false,false,false,false,false,false,false,false,false,false,false,false,false,false,false,false,false,false,false,false,false,false,false,false,false,false,false,false,false,false,false,false,false,false] rfl rfl (any_of HT_.out (by kernel_rfl)) (fun _ _ _ h => h) (Or.inl ⟨by rfl,?_⟩) ?_ ?_
                      rotate_left
                      ·intro w'
                       go_simp
                       with_reducible rfl
                      rotate_left
                      ·simp only [Act.put,List.setIfInBounds_toArray,List.set_cons_zero,List.set_cons_succ,i64_w,i32_w]
                       rfl
                      refine pure_ (i := 15) (N := some 103) (v := ?_) (a' := ?_) #[true,true,true,true,true,true,true,true,true,true,true,true,true,true,true,true,false,false,false,false,false,false,false,false,false,false,false,false,false,false,false,false,false,false,false,false,false,false,false,false,false,false,false,false,false,false,false,false,false] rfl rfl (any_of HT_.out (by kernel_rfl)) (fun _ _ _ h => h) (Or.inl ⟨by rfl,?_⟩) ?_ ?_
                      rotate_left
                      ·intro w'
                       go_simp
                       with_reducible rfl
                      rotate_left
                      ·simp only [Act.put,List.setIfInBounds_toArray,List.set_cons_zero,List.set_cons_succ,i64_w,i32_w]
                       rfl
                      refine pure_ (i := 16) (N := some 104) (v := ?_) (a' := ?_) #[true,true,true,true,true,true,true,true,true,true,true,true,true,true,true,true,true,false,false,false,false,false,false,false,false,false,false,false,false,false,false,false,false,false,false,false,false,false,false,false,false,false,false,false,false,false,false,false,false] rfl rfl (any_of HT_.out (by kernel_rfl)) (fun _ _ _ h => h) (Or.inl ⟨by rfl,?_⟩) ?_ ?_
                      rotate_left
                      ·intro w'
                       go_simp
                       with_reducible rfl
                      rotate_left
                      ·simp only [Act.put,List.setIfInBounds_toArray,List.set_cons_zero,List.set_cons_succ,i64_w,i32_w]
                       rfl
                      refine one_ (i := 17) (N := some 105) #[true,true,true,true,true,true,true,true,true,true,true,true,true,true,true,true,true,true,false,false,false,false,false,false,false,false,false,false,false,false,false,false,false,false,false,false,false,false,false,false,false,false,false,false,false,false,false,false,false] rfl rfl (one_of HT_.out (by kernel_rfl)) (by decide) (fun K hK => ?_)
                      refine goes_ Tryd.func24 (by kernel_rfl) rfl #[.slice (some ad165) y147.length co75,.slice Ao73 y151.length co73] (by rfl) rfl rfl (by (try simp only [List.map_toArray,List.map_cons,List.map_nil]);first | done | rfl | (simp only [List.length_drop,List.length_take];rfl)) ?_
                      with_reducible refine (bodkinlaw01_alike.calls kj40 _ _ y147 _ _ y151 true _ ?side1 ?side2 ?side3 ?side4 A53.out).mono ?_
                      (case side1 => repeat (first | exact (by repeat (first | (with_reducible exact HR150.out) | (with_reducible refine Kd.C_alloc ?_ _) | (with_reducible refine Kd.C_drewN ?_ _) | (with_reducible refine Kd.C_drew ?_) | exact HR150.out)) | (with_reducible refine Kd.C_alloc ?_ _) | (with_reducible refine Kd.C_drewN ?_ _) | (with_reducible refine Kd.C_drew ?_)))
                      (case side2 => exact HC150.out)
                      (case side3 => repeat (first | exact (by repeat (first | (with_reducible exact HR154.out) | (with_reducible refine Kd.C_alloc ?_ _) | (with_reducible refine Kd.C_drewN ?_ _) | (with_reducible refine Kd.C_drew ?_) | exact HR154.out)) | (with_reducible refine Kd.C_alloc ?_ _) | (with_reducible refine Kd.C_drewN ?_ _) | (with_reducible refine Kd.C_drew ?_)))
                      (case side4 => exact HC154.out)
                      rintro e w' ⟨rfl,⟨nd,rfl⟩⟩
                      refine ⟨_,rfl,?_⟩
                      have q79 : ((ji55) : Int) ≤ ((t125.length : Int) : Int) := of_decide_eq_true (by first | (with_reducible assumption) | assumption)
                      obtain ⟨i079,hi079,_,hsz79,_⟩ := info_parts info30
                      have hroom79 : t125.length ≤ co75 := (Kd.R_reads' HO_6.out).2.1
                      have hC79 : Kd.C k30 _ (some ad165) t125.length t125 := (Kd.R_reads' HO_6.out).2.2
                      have q079 : (0 : Int) ≤ ((ji55) : Int) := of_decide_eq_true (by first | (with_reducible assumption) | assumption)
                      have hcut79 := cut_from (P := Tryd.prog) 27 30 .i64 Tryd.underlying27 hi079 2 hsz79 (some ad165) t125.length co75 (ji55) q079 q79
                      have hr79 := Kd.C_drop (m := ((ji55) : Int).toNat) (c := co75) hC79 (by omega) hroom79
                      obtain ⟨A79,hA79⟩ : ∃ A1,A1 = (if co75 = ((ji55) : Int).toNat then (some ad165) else ((some ad165) : Option Addr).map (·.add (((ji55) : Int).toNat * 2))) := ⟨_,rfl⟩
                      obtain ⟨c79,hc79⟩ : ∃ c1,c1 = co75 - ((ji55) : Int).toNat := ⟨_,rfl⟩
                      have hy79 : y156.length = t125.length - ((ji55) : Int).toNat := (by rw [Ny156.out,List.length_drop] <;> omega)
                      rw [show (t125).drop ((ji55) : Int).toNat = y156 from Ny156.out.symm] at hr79
                      replace hr79 : Kd.C k30 _ A79 y156.length y156 := (by rw [hA79];exact hr79)
                      rw [← hy79,← hA79,← hc79] at hcut79
                      have HR159 := Aside0.mk hr79
                      have HC159 := Aside0.mk (show y156.length ≤ c79 from by rw [hy79,hc79];exact Nat.sub_le_sub_right hroom79 _)
                      clear hr79 hC79 hroom79 hi079 hsz79 hc79
                      have KY79 := Aside0.mk hy79
                      have KA79 := Aside0.mk hA79
                      clear hy79 hA79
                      have KL79 := Aside0.mk (show ((ji55) : Int).toNat ≤ t125.length from by omega)
                      replace q79 := eq_true q79
                      have q80 : ((ji58) : Int) ≤ ((t131.length : Int) : Int) := of_decide_eq_true (by first | (with_reducible assumption) | assumption)
                      obtain ⟨i080,hi080,_,hsz80,_⟩ := info_parts info30
                      have hroom80 : t131.length ≤ co76 := (Kd.R_reads' HO_8.out).2.1
                      have hC80 : Kd.C k30 _ Ao76 t131.length t131 := (Kd.R_reads' HO_8.out).2.2
                      have q080 : (0 : Int) ≤ ((ji58) : Int) := of_decide_eq_true (by first | (with_reducible assumption) | assumption)
                      have hcut80 := cut_from (P := Tryd.prog) 27 30 .i64 Tryd.underlying27 hi080 2 hsz80 Ao76 t131.length co76 (ji58) q080 q80
                      have hr80 := Kd.C_drop (m := ((ji58) : Int).toNat) (c := co76) hC80 (by omega) hroom80
                      obtain ⟨A80,hA80⟩ : ∃ A1,A1 = (if co76 = ((ji58) : Int).toNat then Ao76 else (Ao76 : Option Addr).map (·.add (((ji58) : Int).toNat * 2))) := ⟨_,rfl⟩
                      obtain ⟨c80,hc80⟩ : ∃ c1,c1 = co76 - ((ji58) : Int).toNat := ⟨_,rfl⟩
                      have hy80 : y160.length = t131.length - ((ji58) : Int).toNat := (by rw [Ny160.out,List.length_drop] <;> omega)
                      rw [show (t131).drop ((ji58) : Int).toNat = y160 from Ny160.out.symm] at hr80
                      replace hr80 : Kd.C k30 _ A80 y160.length y160 := (by rw [hA80];exact hr80)
                      rw [← hy80,← hA80,← hc80] at hcut80
                      have HR163 := Aside0.mk hr80
                      have HC163 := Aside0.mk (show y160.length ≤ c80 from by rw [hy80,hc80];exact Nat.sub_le_sub_right hroom80 _)
                      clear hr80 hC80 hroom80 hi080 hsz80 hc80
                      have KY80 := Aside0.mk hy80
                      have KA80 := Aside0.mk hA80
                      clear hy80 hA80
                      have KL80 := Aside0.mk (show ((ji58) : Int).toNat ≤ t131.length from by omega)
                      replace q80 := eq_true q80
                      refine hK.out _ _ ⟨hHeld.1,hHeld.2⟩ (fun hHeld => ?_)
                      clear hK K
                      refine norm_ (a' := ?_) ?_ ?_
                      rotate_left
                      ·show Act.put _ (some 105) _ = _
                       simp only [Act.put,List.setIfInBounds_toArray,List.set_cons_zero,List.set_cons_succ,i64_w,i32_w]
                       rfl
                      refine pure_ (i := 18) (N := some 106) (v := ?_) (a' := ?_) #[true,true,true,true,true,true,true,true,true,true,true,true,true,true,true,true,true,true,true,false,false,false,false,false,false,false,false,false,false,false,false,false,false,false,false,false,false,false,false,false,false,false,false,false,false,false,false,false,false] rfl rfl (any_of HT_.out (by kernel_rfl)) (fun _ _ _ h => h) (Or.inl ⟨by rfl,?_⟩) ?_ ?_
                      rotate_left
                      ·intro w'
                       go_simp
                       with_reducible rfl
                      rotate_left
                      ·simp only [Act.put,List.setIfInBounds_toArray,List.set_cons_zero,List.set_cons_succ,i64_w,i32_w]
                       rfl
                      refine pure_ (i := 19) (N := some 107) (v := ?_) (a' := ?_) #[true,true,true,true,true,true,true,true,true,true,true,true,true,true,true,true,true,true,true,true,false,false,false,false,false,false,false,false,false,false,false,false,false,false,false,false,false,false,false,false,false,false,false,false,false,false,false,false,false] rfl rfl (any_of HT_.out (by kernel_rfl)) (fun _ _ _ h => h) (Or.inl ⟨by rfl,?_⟩) ?_ ?_
                      rotate_left
                      ·intro w'
                       go_simp
                       with_reducible rfl
                      rotate_left
                      ·simp only [Act.put,List.setIfInBounds_toArray,List.set_cons_zero,List.set_cons_succ,i64_w,i32_w]
                       rfl
                      refine pure_ (i := 20) (N := some 108) (v := ?_) (a' := ?_) #[true,true,true,true,true,true,true,true,true,true,true,true,true,true,true,true,true,true,true,true,true,false,false,false,false,false,false,false,false,false,false,false,false,false,false,false,false,false,false,false,false,false,false,false,false,false,false,false,false] rfl rfl (any_of HT_.out (by kernel_rfl)) (fun _ _ _ h => h) (Or.inl ⟨by rfl,?_⟩) ?_ ?_
                      rotate_left
                      ·intro w'
                       go_simp
                       with_reducible rfl
                      rotate_left
                      ·simp only [Act.put,List.setIfInBounds_toArray,List.set_cons_zero,List.set_cons_succ,i64_w,i32_w]
                       rfl
                      refine pure_ (i := 21) (N := some 109) (v := ?_) (a' := ?_) #[true,true,true,true,true,true,true,true,true,true,true,true,true,true,true,true,true,true,true,true,true,true,false,false,false,false,false,false,false,false,false,false,false,false,false,false,false,false,false,false,false,false,false,false,false,false,false,false,false] rfl rfl (any_of HT_.out (by kernel_rfl)) (fun _ _ _ h => h) (Or.inl ⟨by rfl,?_⟩) ?_ ?_
                      rotate_left
                      ·intro w'
                       go_simp
                       with_reducible rfl
                      rotate_left
                      ·simp only [Act.put,List.setIfInBounds_toArray,List.set_cons_zero,List.set_cons_succ,i64_w,i32_w]
                       rfl
                      refine pure_ (i := 22) (N := some 110) (v := ?_) (a' := ?_) #[true,true,true,true,true,true,true,true,true,true,true,true,true,true,true,true,true,true,true,true,true,true,true,false,false,false,false,false,false,false,false,false,false,false,false,false,false,false,false,false,false,false,false,false,false,false,false,false,false] rfl rfl (any_of HT_.out (by kernel_rfl)) (fun _ _ _ h => h) (Or.inl ⟨by rfl,?_⟩) ?_ ?_
                      rotate_left
                      ·intro w'
                       go_simp
                       with_reducible rfl
                      rotate_left
                      ·simp only [Act.put,List.setIfInBounds_toArray,List.set_cons_zero,List.set_cons_succ,i64_w,i32_w]
                       rfl
                      refine pure_ (i := 23) (N := some 111) (v := ?_) (a' := ?_) #[true,true,true,true,true,true,true,true,true,true,true,true,true,true,true,true,true,true,true,true,true,true,true,true,false,false,false,false,false,false,false,false,false,false,false,false,false,false,false,false,false,false,false,false,false,false,false,false,false] rfl rfl (any_of HT_.out (by kernel_rfl)) (fun _ _ _ h => h) (Or.inl ⟨by rfl,?_⟩) ?_ ?_
                      rotate_left
                      ·intro w'
                       go_simp
                       with_reducible rfl
                      rotate_left
                      ·simp only [Act.put,List.setIfInBounds_toArray,List.set_cons_zero,List.set_cons_succ,i64_w,i32_w]
                       rfl
                      refine pure_ (i := 24) (N := some 112) (v := ?_) (a' := ?_) #[true,true,true,true,true,true,true,true,true,true,true,true,true,true,true,true,true,true,true,true,true,true,true,true,true,false,false,false,false,false,false,false,false,false,false,false,false,false,false,false,false,false,false,false,false,false,false,false,false] rfl rfl (any_of HT_.out (by kernel_rfl)) (fun _ _ _ h => h) (Or.inl ⟨by rfl,?_⟩) ?_ ?_
                      rotate_left
                      ·intro w'
                       go_simp
                       with_reducible rfl
                      rotate_left
                      ·simp only [Act.put,List.setIfInBounds_toArray,List.set_cons_zero,List.set_cons_succ,i64_w,i32_w]
                       rfl
                      refine pure_ (i := 25) (N := some 113) (v := ?_) (a' := ?_) #[true,true,true,true,true,true,true,true,true,true,true,true,true,true,true,true,true,true,true,true,true,true,true,true,true,true,false,false,false,false,false,false,false,false,false,false,false,false,false,false,false,false,false,false,false,false,false,false,false] rfl rfl (any_of HT_.out (by kernel_rfl)) (fun _ _ _ h => h) (Or.inl ⟨by rfl,?_⟩) ?_ ?_
                      rotate_left
                      ·intro w'
                       go_simp
                       with_reducible rfl
                      rotate_left
                      ·simp only [Act.put,List.setIfInBounds_toArray,List.set_cons_zero,List.set_cons_succ,i64_w,i32_w]
                       rfl
                      refine pure_ (i := 26) (N := some 114) (v := ?_) (a' := ?_) #[true,true,true,true,true,true,true,true,true,true,true,true,true,true,true,true,true,true,true,true,true,true,true,true,true,true,true,false,false,false,false,false,false,false,false,false,false,false,false,false,false,false,false,false,false,false,false,false,false] rfl rfl (any_of HT_.out (by kernel_rfl)) (fun _ _ _ h => h) (Or.inl ⟨by rfl,?_⟩) ?_ ?_
                      rotate_left
                      ·intro w'
                       go_simp
                       with_reducible rfl
                      rotate_left
                      ·simp only [Act.put,List.setIfInBounds_toArray,List.set_cons_zero,List.set_cons_succ,i64_w,i32_w]
                       rfl
                      refine one_ (i := 27) (N := some 115) #[true,true,true,true,true,true,true,true,true,true,true,true,true,true,true,true,true,true,true,true,true,true,true,true,true,true,true,true,false,false,false,false,false,false,false,false,false,false,false,false,false,false,false,false,false,false,false,false,false] rfl rfl (one_of HT_.out (by kernel_rfl)) (by decide) (fun K hK => ?_)
                      refine goes_ Tryd.func24 (by kernel_rfl) rfl #[.slice A79 y156.length c79,.slice A80 y160.length c80] (by rfl) rfl rfl (by (try simp only [List.map_toArray,List.map_cons,List.map_nil]);first | done | rfl | (simp only [List.length_drop,List.length_take];rfl)) ?_
                      with_reducible refine (bodkinlaw01_alike.calls kj40 _ _ y156 _ _ y160 true _ ?side1 ?side2 ?side3 ?side4 A61.out).mono ?_
                      (case side1 => repeat (first | exact (by repeat (first | (with_reducible exact HR159.out) | (with_reducible refine Kd.C_alloc ?_ _) | (with_reducible refine Kd.C_drewN ?_ _) | (with_reducible refine Kd.C_drew ?_) | exact HR159.out)) | (with_reducible refine Kd.C_alloc ?_ _) | (with_reducible refine Kd.C_drewN ?_ _) | (with_reducible refine Kd.C_drew ?_)))
                      (case side2 => exact HC159.out)
                      (case side3 => repeat (first | exact (by repeat (first | (with_reducible exact HR163.out) | (with_reducible refine Kd.C_alloc ?_ _) | (with_reducible refine Kd.C_drewN ?_ _) | (with_reducible refine Kd.C_drew ?_) | exact HR163.out)) | (with_reducible refine Kd.C_alloc ?_ _) | (with_reducible refine Kd.C_drewN ?_ _) | (with_reducible refine Kd.C_drew ?_)))
                      (case side4 => exact HC163.out)
                      rintro e w' ⟨rfl,⟨nd,rfl⟩⟩
                      refine ⟨_,rfl,?_⟩
                      refine hK.out _ _ ⟨hHeld.1,hHeld.2⟩ (fun hHeld => ?_)
                      clear hK K
                      refine norm_ (a' := ?_) ?_ ?_
                      rotate_left
                      ·show Act.put _ (some 115) _ = _
                       simp only [Act.put,List.setIfInBounds_toArray,List.set_cons_zero,List.set_cons_succ,i64_w,i32_w]
                       rfl
                      refine pure_ (i := 28) (N := some 116) (v := ?_) (a' := ?_) #[true,true,true,true,true,true,true,true,true,true,true,true,true,true,true,true,true,true,true,true,true,true,true,true,true,true,true,true,true,false,false,false,false,false,false,false,false,false,false,false,false,false,false,false,false,false,false,false,false] rfl rfl (any_of HT_.out (by kernel_rfl)) (fun _ _ _ h => h) (Or.inl ⟨by rfl,?_⟩) ?_ ?_
                      rotate_left
                      ·intro w'
                       go_simp
                       with_reducible rfl
                      rotate_left
                      ·simp only [Act.put,List.setIfInBounds_toArray,List.set_cons_zero,List.set_cons_succ,i64_w,i32_w]
                       rfl
                      refine pure_ (i := 29) (N := some 117) (v := ?_) (a' := ?_) #[true,true,true,true,true,true,true,true,true,true,true,true,true,true,true,true,true,true,true,true,true,true,true,true,true,true,true,true,true,true,false,false,false,false,false,false,false,false,false,false,false,false,false,false,false,false,false,false,false] rfl rfl (any_of HT_.out (by kernel_rfl)) (fun _ _ _ h => h) (Or.inl ⟨by rfl,?_⟩) ?_ ?_
                      rotate_left
                      ·intro w'
                       go_simp
                       with_reducible rfl
                      rotate_left
                      ·simp only [Act.put,List.setIfInBounds_toArray,List.set_cons_zero,List.set_cons_succ,i64_w,i32_w]
                       rfl
                      refine pure_ (i := 30) (N := some 118) (v := ?_) (a' := ?_) #[true,true,true,true,true,true,true,true,true,true,true,true,true,true,true,true,true,true,true,true,true,true,true,true,true,true,true,true,true,true,true,false,false,false,false,false,false,false,false,false,false,false,false,false,false,false,false,false,false] rfl rfl (any_of HT_.out (by kernel_rfl)) (fun _ _ _ h => h) (Or.inl ⟨by rfl,?_⟩) ?_ ?_
                      rotate_left
                      ·intro w'
                       go_simp
                       with_reducible rfl
                      rotate_left
                      ·simp only [Act.put,List.setIfInBounds_toArray,List.set_cons_zero,List.set_cons_succ,i64_w,i32_w]
                       rfl
                      refine pure_ (i := 31) (N := some 119) (v := ?_) (a' := ?_) #[true,true,true,true,true,true,true,true,true,true,true,true,true,true,true,true,true,true,true,true,true,true,true,true,true,true,true,true,true,true,true,true,false,false,false,false,false,false,false,false,false,false,false,false,false,false,false,false,false] rfl rfl (any_of HT_.out (by kernel_rfl)) (fun _ _ _ h => h) (Or.inl ⟨by rfl,?_⟩) ?_ ?_
                      rotate_left
                      ·intro w'
                       go_simp
                       with_reducible rfl
                      rotate_left
                      ·simp only [Act.put,List.setIfInBounds_toArray,List.set_cons_zero,List.set_cons_succ,i64_w,i32_w]
                       rfl
                      refine pure_ (i := 32) (N := some 120) (v := ?_) (a' := ?_) #[true,true,true,true,true,true,true,true,true,true,true,true,true,true,true,true,true,true,true,true,true,true,true,true,true,true,true,true,true,true,true,true,true,false,false,false,false,false,false,false,false,false,false,false,false,false,false,false,false] rfl rfl (any_of HT_.out (by kernel_rfl)) (fun _ _ _ h => h) (Or.inl ⟨by rfl,?_⟩) ?_ ?_
                      rotate_left
                      ·intro w'
                       go_simp
                       with_reducible rfl
                      rotate_left
                      ·simp only [Act.put,List.setIfInBounds_toArray,List.set_cons_zero,List.set_cons_succ,i64_w,i32_w]
                       rfl
                      refine pure_ (i := 33) (N := some 121) (v := ?_) (a' := ?_) #[true,true,true,true,true,true,true,true,true,true,true,true,true,true,true,true,true,true,true,true,true,true,true,true,true,true,true,true,true,true,true,true,true,true,false,false,false,false,false,false,false,false,false,false,false,false,false,false,false] rfl rfl (any_of HT_.out (by kernel_rfl)) (fun _ _ _ h => h) (Or.inl ⟨by rfl,?_⟩) ?_ ?_
                      rotate_left
                      ·intro w'
                       go_simp
                       with_reducible rfl
                      rotate_left
                      ·simp only [Act.put,List.setIfInBounds_toArray,List.set_cons_zero,List.set_cons_succ,i64_w,i32_w]
                       rfl
                      refine pure_ (i := 35) (N := some 123) (v := ?_) (a' := ?_) #[true,true,true,true,true,true,true,true,true,true,true,true,true,true,true,true,true,true,true,true,true,true,true,true,true,true,true,true,true,true,true,true,true,true,false,true,false,false,false,false,false,false,false,false,false,false,false,false,false] rfl rfl (any_of HT_.out (by kernel_rfl)) (fun _ _ _ h => h) (Or.inl ⟨by rfl,?_⟩) ?_ ?_
                      rotate_left
                      ·intro w'
                       go_simp
                       with_reducible rfl
                      rotate_left
                      ·simp only [Act.put,List.setIfInBounds_toArray,List.set_cons_zero,List.set_cons_succ,i64_w,i32_w]
                       rfl
                      refine pure_ (i := 36) (N := some 124) (v := ?_) (a' := ?_) #[true,true,true,true,true,true,true,true,true,true,true,true,true,true,true,true,true,true,true,true,true,true,true,true,true,true,true,true,true,true,true,true,true,true,false,true,true,false,false,false,false,false,false,false,false,false,false,false,false] rfl rfl (any_of HT_.out (by kernel_rfl)) (fun _ _ _ h => h) (Or.inl ⟨by rfl,?_⟩) ?_ ?_
                      rotate_left
                      ·intro w'
                       go_simp
                       with_reducible rfl
                      rotate_left
                      ·simp only [Act.put,List.setIfInBounds_toArray,List.set_cons_zero,List.set_cons_succ,i64_w,i32_w]
                       rfl
                      refine pure_ (i := 37) (N := some 125) (v := ?_) (a' := ?_) #[true,true,true,true,true,true,true,true,true,true,true,true,true,true,true,true,true,true,true,true,true,true,true,true,true,true,true,true,true,true,true,true,true,true,false,true,true,true,false,false,false,false,false,false,false,false,false,false,false] rfl rfl (any_of HT_.out (by kernel_rfl)) (fun _ _ _ h => h) (Or.inl ⟨by rfl,?_⟩) ?_ ?_
                      rotate_left
                      ·intro w'
                       go_simp
                       with_reducible rfl
                      rotate_left
                      ·simp only [Act.put,List.setIfInBounds_toArray,List.set_cons_zero,List.set_cons_succ,i64_w,i32_w]
                       rfl
                      refine take_ (i := 34) (N := some 122) (v := ?_) (a' := ?_) #[true,true,true,true,true,true,true,true,true,true,true,true,true,true,true,true,true,true,true,true,true,true,true,true,true,true,true,true,true,true,true,true,true,true,true,true,true,true,false,false,false,false,false,false,false,false,false,false,false] rfl rfl (take_ofW HT_.out HW_.out (by kernel_rfl)) (fun _ _ _ h => h) (Or.inl ⟨by rfl,?_⟩) hHeld ?_ ?_
                      rotate_left
                      ·rintro w' ⟨s0,s1⟩
                       go_simp
                       with_reducible rfl
                      rotate_left
                      ·simp only [Act.put,List.setIfInBounds_toArray,List.set_cons_zero,List.set_cons_succ,i64_w,i32_w]
                       rfl
                      refine pure_ (i := 38) (N := some 126) (v := ?_) (a' := ?_) #[true,true,true,true,true,true,true,true,true,true,true,true,true,true,true,true,true,true,true,true,true,true,true,true,true,true,true,true,true,true,true,true,true,true,true,true,true,true,true,false,false,false,false,false,false,false,false,false,false] rfl rfl (any_of HT_.out (by kernel_rfl)) (fun _ _ _ h => h) (Or.inl ⟨by rfl,?_⟩) ?_ ?_
                      rotate_left
                      ·intro w'
                       go_simp
                       with_reducible rfl
                      rotate_left
                      ·simp only [Act.put,List.setIfInBounds_toArray,List.set_cons_zero,List.set_cons_succ,i64_w,i32_w]
                       rfl
                      refine pure_ (i := 39) (N := some 127) (v := ?_) (a' := ?_) #[true,true,true,true,true,true,true,true,true,true,true,true,true,true,true,true,true,true,true,true,true,true,true,true,true,true,true,true,true,true,true,true,true,true,true,true,true,true,true,true,false,false,false,false,false,false,false,false,false] rfl rfl (any_of HT_.out (by kernel_rfl)) (fun _ _ _ h => h) (Or.inl ⟨by rfl,?_⟩) ?_ ?_
                      rotate_left
                      ·intro w'
                       go_simp
                       with_reducible rfl
                      rotate_left
                      ·simp only [Act.put,List.setIfInBounds_toArray,List.set_cons_zero,List.set_cons_succ,i64_w,i32_w]
                       rfl
                      refine pure_ (i := 40) (N := some 128) (v := ?_) (a' := ?_) #[true,true,true,true,true,true,true,true,true,true,true,true,true,true,true,true,true,true,true,true,true,true,true,true,true,true,true,true,true,true,true,true,true,true,true,true,true,true,true,true,true,false,false,false,false,false,false,false,false] rfl rfl (any_of HT_.out (by kernel_rfl)) (fun _ _ _ h => h) (Or.inl ⟨by rfl,?_⟩) ?_ ?_
                      rotate_left
                      ·intro w'
                       go_simp
                       with_reducible rfl
                      rotate_left
                      ·simp only [Act.put,List.setIfInBounds_toArray,List.set_cons_zero,List.set_cons_succ,i64_w,i32_w]
                       rfl
                      refine pure_ (i := 41) (N := some 129) (v := undef) (a' := ?_) #[true,true,true,true,true,true,true,true,true,true,true,true,true,true,true,true,true,true,true,true,true,true,true,true,true,true,true,true,true,true,true,true,true,true,true,true,true,true,true,true,true,true,false,false,false,false,false,false,false] rfl rfl (any_of HT_.out (by kernel_rfl)) (fun _ _ _ h => h) (Or.inr ⟨by rfl,rfl⟩) ?_ ?_
                      rotate_left
                      ·simp only [Act.put,List.setIfInBounds_toArray,List.set_cons_zero,List.set_cons_succ,i64_w,i32_w]
                       rfl
                      refine pure_ (i := 42) (N := some 130) (v := undef) (a' := ?_) #[true,true,true,true,true,true,true,true,true,true,true,true,true,true,true,true,true,true,true,true,true,true,true,true,true,true,true,true,true,true,true,true,true,true,true,true,true,true,true,true,true,true,true,false,false,false,false,false,false] rfl rfl (any_of HT_.out (by kernel_rfl)) (fun _ _ _ h => h) (Or.inr ⟨by rfl,rfl⟩) ?_ ?_
                      rotate_left
                      ·simp only [Act.put,List.setIfInBounds_toArray,List.set_cons_zero,List.set_cons_succ,i64_w,i32_w]
                       rfl
                      refine pure_ (i := 43) (N := some 131) (v := undef) (a' := ?_) #[true,true,true,true,true,true,true,true,true,true,true,true,true,true,true,true,true,true,true,true,true,true,true,true,true,true,true,true,true,true,true,true,true,true,true,true,true,true,true,true,true,true,true,true,false,false,false,false,false] rfl rfl (any_of HT_.out (by kernel_rfl)) (fun _ _ _ h => h) (Or.inr ⟨by rfl,rfl⟩) ?_ ?_
                      rotate_left
                      ·simp only [Act.put,List.setIfInBounds_toArray,List.set_cons_zero,List.set_cons_succ,i64_w,i32_w]
                       rfl
                      refine pure_ (i := 44) (N := some 132) (v := undef) (a' := ?_) #[true,true,true,true,true,true,true,true,true,true,true,true,true,true,true,true,true,true,true,true,true,true,true,true,true,true,true,true,true,true,true,true,true,true,true,true,true,true,true,true,true,true,true,true,true,false,false,false,false] rfl rfl (any_of HT_.out (by kernel_rfl)) (fun _ _ _ h => h) (Or.inr ⟨by rfl,rfl⟩) ?_ ?_
                      rotate_left
                      ·simp only [Act.put,List.setIfInBounds_toArray,List.set_cons_zero,List.set_cons_succ,i64_w,i32_w]
                       rfl
                      refine pure_ (i := 45) (N := some 133) (v := undef) (a' := ?_) #[true,true,true,true,true,true,true,true,true,true,true,true,true,true,true,true,true,true,true,true,true,true,true,true,true,true,true,true,true,true,true,true,true,true,true,true,true,true,true,true,true,true,true,true,true,true,false,false,false] rfl rfl (any_of HT_.out (by kernel_rfl)) (fun _ _ _ h => h) (Or.inr ⟨by rfl,rfl⟩) ?_ ?_
                      rotate_left
                      ·simp only [Act.put,List.setIfInBounds_toArray,List.set_cons_zero,List.set_cons_succ,i64_w,i32_w]
                       rfl
                      refine pure_ (i := 46) (N := some 134) (v := undef) (a' := ?_) #[true,true,true,true,true,true,true,true,true,true,true,true,true,true,true,true,true,true,true,true,true,true,true,true,true,true,true,true,true,true,true,true,true,true,true,true,true,true,true,true,true,true,true,true,true,true,true,false,false] rfl rfl (any_of HT_.out (by kernel_rfl)) (fun _ _ _ h => h) (Or.inr ⟨by rfl,rfl⟩) ?_ ?_
                      rotate_left
                      ·simp only [Act.put,List.setIfInBounds_toArray,List.set_cons_zero,List.set_cons_succ,i64_w,i32_w]
                       rfl
                      refine pure_ (i := 47) (N := some 135) (v := ?_) (a' := ?_) #[true,true,true,true,true,true,true,true,true,true,true,true,true,true,true,true,true,true,true,true,true,true,true,true,true,true,true,true,true,true,true,true,true,true,true,true,true,true,true,true,true,true,true,true,true,true,true,true,false] rfl rfl (any_of HT_.out (by kernel_rfl)) (fun _ _ _ h => h) (Or.inl ⟨by rfl,?_⟩) ?_ ?_
                      rotate_left
                      ·intro w'
                       go_simp
                       with_reducible rfl
                      rotate_left
                      ·simp only [Act.put,List.setIfInBounds_toArray,List.set_cons_zero,List.set_cons_succ,i64_w,i32_w]
                       rfl
                      refine pure_ (i := 48) (N := some 4) (v := ?_) (a' := ?_) #[true,true,true,true,true,true,true,true,true,true,true,true,true,true,true,true,true,true,true,true,true,true,true,true,true,true,true,true,true,true,true,true,true,true,true,true,true,true,true,true,true,true,true,true,true,true,true,true,true] rfl rfl (any_of HT_.out (by kernel_rfl)) (fun _ _ _ h => h) (Or.inl ⟨by rfl,?_⟩) ?_ ?_
                      rotate_left
                      ·intro w'
                       go_simp
                       with_reducible rfl
                      rotate_left
                      ·simp only [Act.put,List.setIfInBounds_toArray,List.set_cons_zero,List.set_cons_succ,i64_w,i32_w]
                       rfl
                      refine done_ (done_of HT_.out (by kernel_rfl)) ?_
                      try go_wp2
                      go_ret
                      exact ⟨by first | rfl | (simp [errW_none,errW_some] <;> rfl) | (simp only [← hji48,← hji55,← hji58];first | rfl | (simp [errW_none,errW_some] <;> rfl)) | (simp [*,errW_none,errW_some] <;> rfl),by repeat (first | (with_reducible first | exact HB.out | apply below_alloc | apply pw_below_drewN | apply below_drew1) | exact HB.out)⟩
                    ·rw [if_neg c63] at H
                     exact absurd H (by simp)
                   ·replace c62 := Bool.eq_false_iff.mpr c62
                    subst c62
                    have H1 : (some false) = some r := by rw [if_neg (show ¬ (false = true) by decide)] at H;exact H
                    clear H
                    have H := H1
                    clear H1
                    obtain rfl := Option.some.inj H
                    obtain ⟨Ao81,co81,eo81⟩ := Kd.R_slice HO_7.out
                    subst eo81
                    try go_wp2
                    have n0_ := Aside0.mk (Kd.R_drew HO_6.out)
                    have n1_ := Aside0.mk (Kd.R_drew HO_7.out)
                    have n2_ := Aside0.mk (Kd.R_drew HO_8.out)
                    have n3_ := Aside0.mk (below_drew1 HB.out)
                    clear HO_6
                    clear HO_7
                    clear HO_8
                    clear HB
                    have HO_6 := n0_
                    have HO_7 := n1_
                    have HO_8 := n2_
                    have HB := n3_
                    clear n0_ n1_ n2_ n3_
                    obtain ⟨Ao83,co83,eo83⟩ := Kd.R_slice HO_6.out
                    (first | subst eo83 | (injection eo83 with f1_ f2_ f3_;have f4_ := f1_.symm;have f5_ := f3_.symm;clear f1_ f2_ f3_;subst f4_;subst f5_))
                    obtain ⟨Ao84,co84,eo84⟩ := Kd.R_slice HO_8.out
                    (first | subst eo84 | (injection eo84 with f1_ f2_ f3_;have f4_ := f1_.symm;have f5_ := f3_.symm;clear f1_ f2_ f3_;subst f4_;subst f5_))
                    have q85 : ((ji48) : Int) ≤ ((t125.length : Int) : Int) := of_decide_eq_true (by first | (with_reducible assumption) | assumption)
                    obtain ⟨i085,hi085,_,hsz85,_⟩ := info_parts info30
                    have hroom85 : t125.length ≤ co83 := (Kd.R_reads' HO_6.out).2.1
                    have hC85 : Kd.C k30 _ Ao83 t125.length t125 := (Kd.R_reads' HO_6.out).2.2
                    have hcut85 := cut_to (P := Tryd.prog) 27 30 .i64 Tryd.underlying27 hi085 Ao83 t125.length co83 (ji48) (of_decide_eq_true (by first | (with_reducible assumption) | assumption)) q85 hroom85
                    have hr85 := Kd.C_take (m := ((ji48) : Int).toNat) hC85 (by omega)
                    have hy85 : y147.length = ((ji48) : Int).toNat := (by rw [Ny147.out,List.length_take];omega)
                    rw [← Ny147.out] at hr85
                    rw [← hy85] at hcut85
                    have HR150 := Aside0.mk hr85
                    have HC150 := Aside0.mk (show y147.length ≤ co83 from by omega)
                    clear hr85 hC85 hroom85 hi085 hsz85
                    have KY85 := Aside0.mk hy85
                    clear hy85
                    have KL85 := Aside0.mk (show ((ji48) : Int).toNat ≤ t125.length from by omega)
                    replace q85 := eq_true q85
                    have q86 : ((ji48) : Int) ≤ ((t128.length : Int) : Int) := of_decide_eq_true (by first | (with_reducible assumption) | assumption)
                    obtain ⟨i086,hi086,_,hsz86,_⟩ := info_parts info30
                    have hroom86 : t128.length ≤ co81 := (Kd.R_reads' HO_7.out).2.1
                    have hC86 : Kd.C k30 _ Ao81 t128.length t128 := (Kd.R_reads' HO_7.out).2.2
                    have hcut86 := cut_to (P := Tryd.prog) 27 30 .i64 Tryd.underlying27 hi086 Ao81 t128.length co81 (ji48) (of_decide_eq_true (by first | (with_reducible assumption) | assumption)) q86 hroom86
                    have hr86 := Kd.C_take (m := ((ji48) : Int).toNat) hC86 (by omega)
                    have hy86 : y151.length = ((ji48) : Int).toNat := (by rw [Ny151.out,List.length_take];omega)
                    rw [← Ny151.out] at hr86
                    rw [← hy86] at hcut86
                    have HR154 := Aside0.mk hr86
                    have HC154 := Aside0.mk (show y151.length ≤ co81 from by omega)
                    clear hr86 hC86 hroom86 hi086 hsz86
                    have KY86 := Aside0.mk hy86
                    clear hy86
                    have KL86 := Aside0.mk (show ((ji48) : Int).toNat ≤ t128.length from by omega)
                    replace q86 := eq_true q86
                    refine start_ (n := 49) (S := fun w' => True) (ds := []) #[false,false,false,false,false,false,false,false,false,false,false,false,false,false,false,false,false,false,false,false,false,false,false,false,false,false,false,false,false,false,false,false,false,false,false,false,false,false,false,false,false,false,false,false,false,false,false,false,false] (by kernel_rfl) rfl rfl trivial (fun hHeld => ?_);refine with_tabW bodkinlaw01_UnitSeams.tab14 bodkinlaw01_UnitSeams.bits14 (fun HT_ HW_ => ?_)
                    generalize wc.drew = w82 at HO_6 HO_7 HO_8 HB HR150 HR154 hHeld ⊢
                    refine pure_ (i := 0) (N := some 88) (v := ?_) (a' := ?_) #[true,false,false,false,false,false,false,false,false,false,false,false,false,false,false,false,false,false,false,false,false,false,false,false,false,false,false,false,false,false,false,false,false,false,false,false,false,false,false,false,false,false,false,false,false,false,false,false,false] rfl rfl (any_of HT_.out (by kernel_rfl)) (fun _ _ _ h => h) (Or.inl ⟨by rfl,?_⟩) ?_ ?_
                    rotate_left
                    ·intro w'
                     go_simp
                     with_reducible rfl
                    rotate_left
                    ·simp only [Act.put,List.setIfInBounds_toArray,List.set_cons_zero,List.set_cons_succ,i64_w,i32_w]
                     rfl
                    refine pure_ (i := 1) (N := some 89) (v := ?_) (a' := ?_) #[true,true,false,false,false,false,false,false,false,false,false,false,false,false,false,false,false,false,false,false,false,false,false,false,false,false,false,false,false,false,false,false,false,false,false,false,false,false,false,false,false,false,false,false,false,false,false,false,false] rfl rfl (any_of HT_.out (by kernel_rfl)) (fun _ _ _ h => h) (Or.inl ⟨by rfl,?_⟩) ?_ ?_
                    rotate_left
                    ·intro w'
                     go_simp
                     with_reducible rfl
                    rotate_left
                    ·simp only [Act.put,List.setIfInBounds_toArray,List.set_cons_zero,List.set_cons_succ,i64_w,i32_w]
                     rfl
                    refine pure_ (i := 2) (N := some 90) (v := ?_) (a' := ?_) #[true,true,true,false,false,false,false,false,false,false,false,false,false,false,false,false,false,false,false,false,false,false,false,false,false,false,false,false,false,false,false,false,false,false,false,false,false,false,false,false,false,false,false,false,false,false,false,false,false] rfl rfl (any_of HT_.out (by kernel_rfl)) (fun _ _ _ h => h) (Or.inl ⟨by rfl,?_⟩) ?_ ?_
                    rotate_left
                    ·intro w'
                     go_simp
                     with_reducible rfl
                    rotate_left
                    ·simp only [Act.put,List.setIfInBounds_toArray,List.set_cons_zero,List.set_cons_succ,i64_w,i32_w]
                     rfl
                    refine pure_ (i := 3) (N := some 91) (v := ?_) (a' := ?_) #[true,true,true,true,false,false,false,false,false,false,false,false,false,false,false,false,false,false,false,false,false,false,false,false,false,false,false,false,false,false,false,false,false,false,false,false,false,false,false,false,false,false,false,false,false,false,false,false,false] rfl rfl (any_of HT_.out (by kernel_rfl)) (fun _ _ _ h => h) (Or.inl ⟨by rfl,?_⟩) ?_ ?_
                    rotate_left
                    ·intro w'
                     go_simp
                     with_reducible rfl
                    rotate_left
                    ·simp only [Act.put,List.setIfInBounds_toArray,List.set_cons_zero,List.set_cons_succ,i64_w,i32_w]
                     rfl
                    refine pure_ (i := 4) (N := some 92) (v := ?_) (a' := ?_) #[true,true,true,true,true,false,false,false,false,false,false,false,false,false,false,false,false,false,false,false,false,false,false,false,false,false,false,false,false,false,false,false,false,false,false,false,false,false,false,false,false,false,false,false,false,false,false,false,false] rfl rfl (any_of HT_.out (by kernel_rfl)) (fun _ _ _ h => h) (Or.inl ⟨by rfl,?_⟩) ?_ ?_
                    rotate_left
                    ·intro w'
                     go_simp
                     with_reducible rfl
                    rotate_left
                    ·simp only [Act.put,List.setIfInBounds_toArray,List.set_cons_zero,List.set_cons_succ,i64_w,i32_w]
                     rfl
                    refine pure_ (i := 5) (N := some 93) (v := ?_) (a' := ?_) #[true,true,true,true,true,true,false,false,false,false,false,false,false,false,false,false,false,false,false,false,false,false,false,false,false,false,false,false,false,false,false,false,false,false,false,false,false,false,false,false,false,false,false,false,false,false,false,false,false] rfl rfl (any_of HT_.out (by kernel_rfl)) (fun _ _ _ h => h) (Or.inl ⟨by rfl,?_⟩) ?_ ?_
                    rotate_left
                    ·intro w'
                     go_simp
                     with_reducible rfl
                    rotate_left
                    ·simp only [Act.put,List.setIfInBounds_toArray,List.set_cons_zero,List.set_cons_succ,i64_w,i32_w]
                     rfl
                    refine pure_ (i := 6) (N := some 94) (v := ?_) (a' := ?_) #[true,true,true,true,true,true,true,false,false,false,false,false,false,false,false,false,false,false,false,false,false,false,false,false,false,false,false,false,false,false,false,false,false,false,false,false,false,false,false,false,false,false,false,false,false,false,false,false,false] rfl rfl (any_of HT_.out (by kernel_rfl)) (fun _ _ _ h => h) (Or.inl ⟨by rfl,?_⟩) ?_ ?_
                    rotate_left
                    ·intro w'
                     go_simp
                     with_reducible rfl
                    rotate_left
                    ·simp only [Act.put,List.setIfInBounds_toArray,List.set_cons_zero,List.set_cons_succ,i64_w,i32_w]
                     rfl
                    refine pure_ (i := 7) (N := some 95) (v := ?_) (a' := ?_) #[true,true,true,true,true,true,true,true,false,false,false,false,false,false,false,false,false,false,false,false,false,false,false,false,false,false,false,false,false,false,false,false,false,false,false,false,false,false,false,false,false,false,false,false,false,false,false,false,false] rfl rfl (any_of HT_.out (by kernel_rfl)) (fun _ _ _ h => h) (Or.inl ⟨by rfl,?_⟩) ?_ ?_
                    rotate_left
                    ·intro w'
                     go_simp
                     with_reducible rfl
                    rotate_left
                    ·simp only [Act.put,List.setIfInBounds_toArray,List.set_cons_zero,List.set_cons_succ,i64_w,i32_w]
                     rfl
                    refine pure_ (i := 8) (N := some 96) (v := ?_) (a' := ?_) #[true,true,true,true,true,true,true,true,true,false,false,false,false,false,false,false,false,false,false,false,false,false,false,false,false,false,false,false,false,false,false,false,false,false,false,false,false,false,false,false,false,false,false,false,false,false,false,false,false] rfl rfl (any_of HT_.out (by kernel_rfl)) (fun _ _ _ h => h) (Or.inl ⟨by rfl,?_⟩) ?_ ?_
                    rotate_left
                    ·intro w'
                     go_simp
                     with_reducible rfl
                    rotate_left
                    ·simp only [Act.put,List.setIfInBounds_toArray,List.set_cons_zero,List.set_cons_succ,i64_w,i32_w]
                     rfl
                    refine pure_ (i := 9) (N := some 97) (v := ?_) (a' := ?_) #[true,true,true,true,true,true,true,true,true,true,false,false,false,false,false,false,false,false,false,false,false,false,false,false,false,false,false,false,false,false,false,false,false,false,false,false,false,false,false,false,false,false,false,false,false,false,false,false,false] rfl rfl (any_of HT_.out (by kernel_rfl)) (fun _ _ _ h => h) (Or.inl ⟨by rfl,?_⟩) ?_ ?_
                    rotate_left
                    ·intro w'
                     go_simp
                     with_reducible rfl
                    rotate_left
                    ·simp only [Act.put,List.setIfInBounds_toArray,List.set_cons_zero,List.set_cons_succ,i64_w,i32_w]
                     rfl
                    refine pure_ (i := 10) (N := some 98) (v := ?_) (a' := ?_) #[true,true,true,true,true,true,true,true,true,true,true,false,false,false,false,false,false,false,false,false,false,false,false,false,false,false,false,false,false,false,false,false,false,false,false,false,false,false,false,false,false,false,false,false,false,false,false,false,false] rfl rfl (any_of HT_.out (by kernel_rfl)) (fun _ _ _ h => h) (Or.inl ⟨by rfl,?_⟩) ?_ ?_
                    rotate_left
                    ·intro w'
                     go_simp
                     with_reducible rfl
                    rotate_left
                    ·simp only [Act.put,List.setIfInBounds_toArray,List.set_cons_zero,List.set_cons_succ,i64_w,i32_w]
                     rfl
                    refine pure_ (i := 11) (N := some 99) (v := ?_) (a' := ?_) #[true,true,true,true,true,true,true,true,true,true,true,true,false,false,false,false,false,false,false,false,false,false,false,false,false,false,false,false,false,false,false,false,false,false,false,false,false,false,false,false,false,false,false,false,false,false,false,false,false] rfl rfl (any_of HT_.out (by kernel_rfl)) (fun _ _ _ h => h) (Or.inl ⟨by rfl,?_⟩) ?_ ?_
                    rotate_left
                    ·intro w'
                     go_simp
                     with_reducible rfl
                    rotate_left
                    ·simp only [Act.put,List.setIfInBounds_toArray,List.set_cons_zero,List.set_cons_succ,i64_w,i32_w]
                     rfl
                    refine pure_ (i := 12) (N := some 100) (v := ?_) (a' := ?_) #[true,true,true,true,true,true,true,true,true,true,true,true,true,false,false,false,false,false,false,false,false,false,false,false,false,false,false,false,false,false,false,false,false,false,false,false,false,false,false,false,false,false,false,false,false,false,false,false,false] rfl rfl (any_of HT_.out (by kernel_rfl)) (fun _ _ _ h => h) (Or.inl ⟨by rfl,?_⟩) ?_ ?_
                    rotate_left
                    ·intro w'
                     go_simp
                     with_reducible rfl
                    rotate_left
                    ·simp only [Act.put,List.setIfInBounds_toArray,List.set_cons_zero,List.set_cons_succ,i64_w,i32_w]
                     rfl
                    refine pure_ (i := 13) (N := some 101) (v := ?_) (a' := ?_) #[true,true,true,true,true,true,true,true,true,true,true,true,true,true,false,false,false,false,false,false,false,false,false,false,false,false,false,false,false,false,false,false,false,false,false,false,false,false,false,false,false,false,false,false,false,false,false,false,false] rfl rfl (any_of HT_.out (by kernel_rfl)) (fun _ _ _ h => h) (Or.inl ⟨by rfl,?_⟩) ?_ ?_
                    rotate_left
                    ·intro w'
                     go_simp
                     with_reducible rfl
                    rotate_left
                    ·simp only [Act.put,List.setIfInBounds_toArray,List.set_cons_zero,List.set_cons_succ,i64_w,i32_w]
                     rfl
                    refine pure_ (i := 14) (N := some 102) (v := ?_) (a' := ?_) #[true,true,true,true,true,true,true,true,true,true,true,true,true,true,true,false,false,false,false,false,false,false,false,false,false,false,false,false,false,false,false,false,false,false,false,false,false,false,false,false,false,false,false,false,false,false,false,false,false] rfl rfl (any_of HT_.out (by kernel_rfl)) (fun _ _ _ h => h) (Or.inl ⟨by rfl,?_⟩) ?_ ?_
                    rotate_left
                    ·intro w'
                     go_simp
                     with_reducible rfl
                    rotate_left
                    ·simp only [Act.put,List.setIfInBounds_toArray,List.set_cons_zero,List.set_cons_succ,i64_w,i32_w]
                     rfl
                    refine pure_ (i := 15) (N := some 103) (v := ?_) (a' := ?_) #[true,true,true,true,true,true,true,true,true,true,true,true,true,true,true,true,false,false,false,false,false,false,false,false,false,false,false,false,false,false,false,false,false,false,false,false,false,false,false,false,false,false,false,false,false,false,false,false,false] rfl rfl (any_of HT_.out (by kernel_rfl)) (fun _ _ _ h => h) (Or.inl ⟨by rfl,?_⟩) ?_ ?_
                    rotate_left
                    ·intro w'
                     go_simp
                     with_reducible rfl
                    rotate_left
                    ·simp only [Act.put,List.setIfInBounds_toArray,List.set_cons_zero,List.set_cons_succ,i64_w,i32_w]
                     rfl
                    refine pure_ (i := 16) (N := some 104) (v := ?_) (a' := ?_) #[true,true,true,true,true,true,true,true,true,true,true,true,true,true,true,true,true,false,false,false,false,false,false,false,false,false,false,false,false,false,false,false,false,false,false,false,false,false,false,false,false,false,false,false,false,false,false,false,false] rfl rfl (any_of HT_.out (by kernel_rfl)) (fun _ _ _ h => h) (Or.inl ⟨by rfl,?_⟩) ?_ ?_
                    rotate_left
                    ·intro w'
                     go_simp
                     with_reducible rfl
                    rotate_left
                    ·simp only [Act.put,List.setIfInBounds_toArray,List.set_cons_zero,List.set_cons_succ,i64_w,i32_w]
                     rfl
                    refine one_ (i := 17) (N := some 105) #[true,true,true,true,true,true,true,true,true,true,true,true,true,true,true,true,true,true,false,false,false,false,false,false,false,false,false,false,false,false,false,false,false,false,false,false,false,false,false,false,false,false,false,false,false,false,false,false,false] rfl rfl (one_of HT_.out (by kernel_rfl)) (by decide) (fun K hK => ?_)
                    refine goes_ Tryd.func24 (by kernel_rfl) rfl #[.slice Ao83 y147.length co83,.slice Ao81 y151.length co81] (by rfl) rfl rfl (by (try simp only [List.map_toArray,List.map_cons,List.map_nil]);first | done | rfl | (simp only [List.length_drop,List.length_take];rfl)) ?_
                    with_reducible refine (bodkinlaw01_alike.calls kj40 _ _ y147 _ _ y151 true _ ?side1 ?side2 ?side3 ?side4 A53.out).mono ?_
                    (case side1 => repeat (first | exact (by repeat (first | (with_reducible exact HR150.out) | (with_reducible refine Kd.C_alloc ?_ _) | (with_reducible refine Kd.C_drewN ?_ _) | (with_reducible refine Kd.C_drew ?_) | exact HR150.out)) | (with_reducible refine Kd.C_alloc ?_ _) | (with_reducible refine Kd.C_drewN ?_ _) | (with_reducible refine Kd.C_drew ?_)))
                    (case side2 => exact HC150.out)
                    (case side3 => repeat (first | exact (by repeat (first | (with_reducible exact HR154.out) | (with_reducible refine Kd.C_alloc ?_ _) | (with_reducible refine Kd.C_drewN ?_ _) | (with_reducible refine Kd.C_drew ?_) | exact HR154.out)) | (with_reducible refine Kd.C_alloc ?_ _) | (with_reducible refine Kd.C_drewN ?_ _) | (with_reducible refine Kd.C_drew ?_)))
                    (case side4 => exact HC154.out)
                    rintro e w' ⟨rfl,⟨nd,rfl⟩⟩
                    refine ⟨_,rfl,?_⟩
                    have q87 : ((ji55) : Int) ≤ ((t125.length : Int) : Int) := of_decide_eq_true (by first | (with_reducible assumption) | assumption)
                    obtain ⟨i087,hi087,_,hsz87,_⟩ := info_parts info30
                    have hroom87 : t125.length ≤ co83 := (Kd.R_reads' HO_6.out).2.1
                    have hC87 : Kd.C k30 _ Ao83 t125.length t125 := (Kd.R_reads' HO_6.out).2.2
                    have q087 : (0 : Int) ≤ ((ji55) : Int) := of_decide_eq_true (by first | (with_reducible assumption) | assumption)
                    have hcut87 := cut_from (P := Tryd.prog) 27 30 .i64 Tryd.underlying27 hi087 2 hsz87 Ao83 t125.length co83 (ji55) q087 q87
                    have hr87 := Kd.C_drop (m := ((ji55) : Int).toNat) (c := co83) hC87 (by omega) hroom87
                    obtain ⟨A87,hA87⟩ : ∃ A1,A1 = (if co83 = ((ji55) : Int).toNat then Ao83 else (Ao83 : Option Addr).map (·.add (((ji55) : Int).toNat * 2))) := ⟨_,rfl⟩
                    obtain ⟨c87,hc87⟩ : ∃ c1,c1 = co83 - ((ji55) : Int).toNat := ⟨_,rfl⟩
                    have hy87 : y156.length = t125.length - ((ji55) : Int).toNat := (by rw [Ny156.out,List.length_drop] <;> omega)
                    rw [show (t125).drop ((ji55) : Int).toNat = y156 from Ny156.out.symm] at hr87
                    replace hr87 : Kd.C k30 _ A87 y156.length y156 := (by rw [hA87];exact hr87)
                    rw [← hy87,← hA87,← hc87] at hcut87
                    have HR159 := Aside0.mk hr87
                    have HC159 := Aside0.mk (show y156.length ≤ c87 from by rw [hy87,hc87];exact Nat.sub_le_sub_right hroom87 _)
                    clear hr87 hC87 hroom87 hi087 hsz87 hc87
                    have KY87 := Aside0.mk hy87
                    have KA87 := Aside0.mk hA87
                    clear hy87 hA87
                    have KL87 := Aside0.mk (show ((ji55) : Int).toNat ≤ t125.length from by omega)
                    replace q87 := eq_true q87
                    have q88 : ((ji58) : Int) ≤ ((t131.length : Int) : Int) := of_decide_eq_true (by first | (with_reducible assumption) | assumption)
                    obtain ⟨i088,hi088,_,hsz88,_⟩ := info_parts info30
                    have hroom88 : t131.length ≤ co84 := (Kd.R_reads' HO_8.out).2.1
                    have hC88 : Kd.C k30 _ Ao84 t131.length t131 := (Kd.R_reads' HO_8.out).2.2
                    have q088 : (0 : Int) ≤ ((ji58) : Int) := of_decide_eq_true (by first | (with_reducible assumption) | assumption)
                    have hcut88 := cut_from (P := Tryd.prog) 27 30 .i64 Tryd.underlying27 hi088 2 hsz88 Ao84 t131.length co84 (ji58) q088 q88
                    have hr88 := Kd.C_drop (m := ((ji58) : Int).toNat) (c := co84) hC88 (by omega) hroom88
                    obtain ⟨A88,hA88⟩ : ∃ A1,A1 = (if co84 = ((ji58) : Int).toNat then Ao84 else (Ao84 : Option Addr).map (·.add (((ji58) : Int).toNat * 2))) := ⟨_,rfl⟩
                    obtain ⟨c88,hc88⟩ : ∃ c1,c1 = co84 - ((ji58) : Int).toNat := ⟨_,rfl⟩
                    have hy88 : y160.length = t131.length - ((ji58) : Int).toNat := (by rw [Ny160.out,List.length_drop] <;> omega)
                    rw [show (t131).drop ((ji58) : Int).toNat = y160 from Ny160.out.symm] at hr88
                    replace hr88 : Kd.C k30 _ A88 y160.length y160 := (by rw [hA88];exact hr88)
                    rw [← hy88,← hA88,← hc88] at hcut88
                    have HR163 := Aside0.mk hr88
                    have HC163 := Aside0.mk (show y160.length ≤ c88 from by rw [hy88,hc88];exact Nat.sub_le_sub_right hroom88 _)
                    clear hr88 hC88 hroom88 hi088 hsz88 hc88
                    have KY88 := Aside0.mk hy88
                    have KA88 := Aside0.mk hA88
                    clear hy88 hA88
                    have KL88 := Aside0.mk (show ((ji58) : Int).toNat ≤ t131.length from by omega)
                    replace q88 := eq_true q88
                    refine hK.out _ _ trivial (fun hHeld => ?_)
                    clear hK K
                    refine norm_ (a' := ?_) ?_ ?_
                    rotate_left
                    ·show Act.put _ (some 105) _ = _
                     simp only [Act.put,List.setIfInBounds_toArray,List.set_cons_zero,List.set_cons_succ,i64_w,i32_w]
                     rfl
                    refine pure_ (i := 18) (N := some 106) (v := ?_) (a' := ?_) #[true,true,true,true,true,true,true,true,true,true,true,true,true,true,true,true,true,true,true,false,false,false,false,false,false,false,false,false,false,false,false,false,false,false,false,false,false,false,false,false,false,false,false,false,false,false,false,false,false] rfl rfl (any_of HT_.out (by kernel_rfl)) (fun _ _ _ h => h) (Or.inl ⟨by rfl,?_⟩) ?_ ?_
                    rotate_left
                    ·intro w'
                     go_simp
                     with_reducible rfl
                    rotate_left
                    ·simp only [Act.put,List.setIfInBounds_toArray,List.set_cons_zero,List.set_cons_succ,i64_w,i32_w]
                     rfl
                    refine pure_ (i := 19) (N := some 107) (v := ?_) (a' := ?_) #[true,true,true,true,true,true,true,true,true,true,true,true,true,true,true,true,true,true,true,true,false,false,false,false,false,false,false,false,false,false,false,false,false,false,false,false,false,false,false,false,false,false,false,false,false,false,false,false,false] rfl rfl (any_of HT_.out (by kernel_rfl)) (fun _ _ _ h => h) (Or.inl ⟨by rfl,?_⟩) ?_ ?_
                    rotate_left
                    ·intro w'
                     go_simp
                     with_reducible rfl
                    rotate_left
                    ·simp only [Act.put,List.setIfInBounds_toArray,List.set_cons_zero,List.set_cons_succ,i64_w,i32_w]
                     rfl
                    refine pure_ (i := 20) (N := some 108) (v := ?_) (a' := ?_) #[true,true,true,true,true,true,true,true,true,true,true,true,true,true,true,true,true,true,true,true,true,false,false,false,false,false,false,false,false,false,false,false,false,false,false,false,false,false,false,false,false,false,false,false,false,false,false,false,false] rfl rfl (any_of HT_.out (by kernel_rfl)) (fun _ _ _ h => h) (Or.inl ⟨by rfl,?_⟩) ?_ ?_
                    rotate_left
                    ·intro w'
                     go_simp
                     with_reducible rfl
                    rotate_left
                    ·simp only [Act.put,List.setIfInBounds_toArray,List.set_cons_zero,List.set_cons_succ,i64_w,i32_w]
                     rfl
                    refine pure_ (i := 21) (N := some 109) (v := ?_) (a' := ?_) #[true,true,true,true,true,true,true,true,true,true,true,true,true,true,true,true,true,true,true,true,true,true,false,false,false,false,false,false,false,false,false,false,false,false,false,false,false,false,false,false,false,false,false,false,false,false,false,false,false] rfl rfl (any_of HT_.out (by kernel_rfl)) (fun _ _ _ h => h) (Or.inl ⟨by rfl,?_⟩) ?_ ?_
                    rotate_left
                    ·intro w'
                     go_simp
                     with_reducible rfl
                    rotate_left
                    ·simp only [Act.put,List.setIfInBounds_toArray,List.set_cons_zero,List.set_cons_succ,i64_w,i32_w]
                     rfl
                    refine pure_ (i := 22) (N := some 110) (v := ?_) (a' := ?_) #[true,true,true,true,true,true,true,true,true,true,true,true,true,true,true,true,true,true,true,true,true,true,true,false,false,false,false,false,false,false,false,false,false,false,false,false,false,false,false,false,false,false,false,false,false,false,false,false,false] rfl rfl (any_of HT_.out (by kernel_rfl)) (fun _ _ _ h => h) (Or.inl ⟨by rfl,?_⟩) ?_ ?_
                    rotate_left
                    ·intro w'
                     go_simp
                     with_reducible rfl
                    rotate_left
                    ·simp only [Act.put,List.setIfInBounds_toArray,List.set_cons_zero,List.set_cons_succ,i64_w,i32_w]
                     rfl
                    refine pure_ (i := 23) (N := some 111) (v := ?_) (a' := ?_) #[true,true,true,true,true,true,true,true,true,true,true,true,true,true,true,true,true,true,true,true,true,true,true,true,false,false,false,false,false,false,false,false,false,false,false,false,false,false,false,false,false,false,false,false,false,false,false,false,false] rfl rfl (any_of HT_.out (by kernel_rfl)) (fun _ _ _ h => h) (Or.inl ⟨by rfl,?_⟩) ?_ ?_
                    rotate_left
                    ·intro w'
                     go_simp
                     with_reducible rfl
                    rotate_left
                    ·simp only [Act.put,List.setIfInBounds_toArray,List.set_cons_zero,List.set_cons_succ,i64_w,i32_w]
                     rfl
                    refine pure_ (i := 24) (N := some 112) (v := ?_) (a' := ?_) #[true,true,true,true,true,true,true,true,true,true,true,true,true,true,true,true,true,true,true,true,true,true,true,true,true,false,false,false,false,false,false,false,false,false,false,false,false,false,false,false,false,false,false,false,false,false,false,false,false] rfl rfl (any_of HT_.out (by kernel_rfl)) (fun _ _ _ h => h) (Or.inl ⟨by rfl,?_⟩) ?_ ?_
                    rotate_left
                    ·intro w'
                     go_simp
                     with_reducible rfl
                    rotate_left
                    ·simp only [Act.put,List.setIfInBounds_toArray,List.set_cons_zero,List.set_cons_succ,i64_w,i32_w]
                     rfl
                    refine pure_ (i := 25) (N := some 113) (v := ?_) (a' := ?_) #[true,true,true,true,true,true,true,true,true,true,true,true,true,true,true,true,true,true,true,true,true,true,true,true,true,true,false,false,false,false,false,false,false,false,false,false,false,false,false,false,false,false,false,false,false,false,false,false,false] rfl rfl (any_of HT_.out (by kernel_rfl)) (fun _ _ _ h => h) (Or.inl ⟨by rfl,?_⟩) ?_ ?_
                    rotate_left
                    ·intro w'
                     go_simp
                     with_reducible rfl
                    rotate_left
                    ·simp only [Act.put,List.setIfInBounds_toArray,List.set_cons_zero,List.set_cons_succ,i64_w,i32_w]
                     rfl
                    refine pure_ (i := 26) (N := some 114) (v := ?_) (a' := ?_) #[true,true,true,true,true,true,true,true,true,true,true,true,true,true,true,true,true,true,true,true,true,true,true,true,true,true,true,false,false,false,false,false,false,false,false,false,false,false,false,false,false,false,false,false,false,false,false,false,false] rfl rfl (any_of HT_.out (by kernel_rfl)) (fun _ _ _ h => h) (Or.inl ⟨by rfl,?_⟩) ?_ ?_
                    rotate_left
                    ·intro w'
                     go_simp
                     with_reducible rfl
                    rotate_left
                    ·simp only [Act.put,List.setIfInBounds_toArray,List.set_cons_zero,List.set_cons_succ,i64_w,i32_w]
                     rfl
                    refine one_ (i := 27) (N := some 115) #[true,true,true,true,true,true,true,true,true,true,true,true,true,true,true,true,true,true,true,true,true,true,true,true,true,true,true,true,false,false,false,false,false,false,false,false,false,false,false,false,false,false,false,false,false,false,false,false,false] rfl rfl (one_of HT_.out (by kernel_rfl)) (by decide) (fun K hK => ?_)
                    refine goes_ Tryd.func24 (by kernel_rfl) rfl #[.slice A87 y156.length c87,.slice A88 y160.length c88] (by rfl) rfl rfl (by (try simp only [List.map_toArray,List.map_cons,List.map_nil]);first | done | rfl | (simp only [List.length_drop,List.length_take];rfl)) ?_
                    with_reducible refine (bodkinlaw01_alike.calls kj40 _ _ y156 _ _ y160 false _ ?side1 ?side2 ?side3 ?side4 A61.out).mono ?_
                    (case side1 => repeat (first | exact (by repeat (first | (with_reducible exact HR159.out) | (with_reducible refine Kd.C_alloc ?_ _) | (with_reducible refine Kd.C_drewN ?_ _) | (with_reducible refine Kd.C_drew ?_) | exact HR159.out)) | (with_reducible refine Kd.C_alloc ?_ _) | (with_reducible refine Kd.C_drewN ?_ _) | (with_reducible refine Kd.C_drew ?_)))
                    (case side2 => exact HC159.out)
                    (case side3 => repeat (first | exact (by repeat (first | (with_reducible exact HR163.out) | (with_reducible refine Kd.C_alloc ?_ _) | (with_reducible refine Kd.C_drewN ?_ _) | (with_reducible refine Kd.C_drew ?_) | exact HR163.out)) | (with_reducible refine Kd.C_alloc ?_ _) | (with_reducible refine Kd.C_drewN ?_ _) | (with_reducible refine Kd.C_drew ?_)))
                    (case side4 => exact HC163.out)
                    rintro e w' ⟨rfl,⟨nd,rfl⟩⟩
                    refine ⟨_,rfl,?_⟩
                    refine hK.out _ _ trivial (fun hHeld => ?_)
                    clear hK K
                    refine norm_ (a' := ?_) ?_ ?_
                    rotate_left
                    ·show Act.put _ (some 115) _ = _
                     simp only [Act.put,List.setIfInBounds_toArray,List.set_cons_zero,List.set_cons_succ,i64_w,i32_w]
                     rfl
                    refine pure_ (i := 28) (N := some 116) (v := ?_) (a' := ?_) #[true,true,true,true,true,true,true,true,true,true,true,true,true,true,true,true,true,true,true,true,true,true,true,true,true,true,true,true,true,false,false,false,false,false,false,false,false,false,false,false,false,false,false,false,false,false,false,false,false] rfl rfl (any_of HT_.out (by kernel_rfl)) (fun _ _ _ h => h) (Or.inl ⟨by rfl,?_⟩) ?_ ?_
                    rotate_left
                    ·intro w'
                     go_simp
                     with_reducible rfl
                    rotate_left
                    ·simp only [Act.put,List.setIfInBounds_toArray,List.set_cons_zero,List.set_cons_succ,i64_w,i32_w]
                     rfl
                    refine pure_ (i := 29) (N := some 117) (v := ?_) (a' := ?_) #[true,true,true,true,true,true,true,true,true,true,true,true,true,true,true,true,true,true,true,true,true,true,true,true,true,true,true,true,true,true,false,false,false,false,false,false,false,false,false,false,false,false,false,false,false,false,false,false,false] rfl rfl (any_of HT_.out (by kernel_rfl)) (fun _ _ _ h => h) (Or.inl ⟨by rfl,?_⟩) ?_ ?_
                    rotate_left
                    ·intro w'
                     go_simp
                     with_reducible rfl
                    rotate_left
                    ·simp only [Act.put,List.setIfInBounds_toArray,List.set_cons_zero,List.set_cons_succ,i64_w,i32_w]
                     rfl
                    refine pure_ (i := 30) (N := some 118) (v := undef) (a' := ?_) #[true,true,true,true,true,true,true,true,true,true,true,true,true,true,true,true,true,true,true,true,true,true,true,true,true,true,true,true,true,true,true,false,false,false,false,false,false,false,false,false,false,false,false,false,false,false,false,false,false] rfl rfl (any_of HT_.out (by kernel_rfl)) (fun _ _ _ h => h) (Or.inr ⟨by rfl,rfl⟩) ?_ ?_
                    rotate_left
                    ·simp only [Act.put,List.setIfInBounds_toArray,List.set_cons_zero,List.set_cons_succ,i64_w,i32_w]
                     rfl
                    refine pure_ (i := 31) (N := some 119) (v := undef) (a' := ?_) #[true,true,true,true,true,true,true,true,true,true,true,true,true,true,true,true,true,true,true,true,true,true,true,true,true,true,true,true,true,true,true,true,false,false,false,false,false,false,false,false,false,false,false,false,false,false,false,false,false] rfl rfl (any_of HT_.out (by kernel_rfl)) (fun _ _ _ h => h) (Or.inr ⟨by rfl,rfl⟩) ?_ ?_
                    rotate_left
                    ·simp only [Act.put,List.setIfInBounds_toArray,List.set_cons_zero,List.set_cons_succ,i64_w,i32_w]
                     rfl
                    refine pure_ (i := 32) (N := some 120) (v := undef) (a' := ?_) #[true,true,true,true,true,true,true,true,true,true,true,true,true,true,true,true,true,true,true,true,true,true,true,true,true,true,true,true,true,true,true,true,true,false,false,false,false,false,false,false,false,false,false,false,false,false,false,false,false] rfl rfl (any_of HT_.out (by kernel_rfl)) (fun _ _ _ h => h) (Or.inr ⟨by rfl,rfl⟩) ?_ ?_
                    rotate_left
                    ·simp only [Act.put,List.setIfInBounds_toArray,List.set_cons_zero,List.set_cons_succ,i64_w,i32_w]
                     rfl
                    refine pure_ (i := 33) (N := some 121) (v := undef) (a' := ?_) #[true,true,true,true,true,true,true,true,true,true,true,true,true,true,true,true,true,true,true,true,true,true,true,true,true,true,true,true,true,true,true,true,true,true,false,false,false,false,false,false,false,false,false,false,false,false,false,false,false] rfl rfl (any_of HT_.out (by kernel_rfl)) (fun _ _ _ h => h) (Or.inr ⟨by rfl,rfl⟩) ?_ ?_
                    rotate_left
                    ·simp only [Act.put,List.setIfInBounds_toArray,List.set_cons_zero,List.set_cons_succ,i64_w,i32_w]
                     rfl
                    refine pure_ (i := 34) (N := some 122) (v := undef) (a' := ?_) #[true,true,true,true,true,true,true,true,true,true,true,true,true,true,true,true,true,true,true,true,true,true,true,true,true,true,true,true,true,true,true,true,true,true,true,false,false,false,false,false,false,false,false,false,false,false,false,false,false] rfl rfl (any_of HT_.out (by kernel_rfl)) (fun _ _ _ h => h) (Or.inr ⟨by rfl,rfl⟩) ?_ ?_
                    rotate_left
                    ·simp only [Act.put,List.setIfInBounds_toArray,List.set_cons_zero,List.set_cons_succ,i64_w,i32_w]
                     rfl
                    refine pure_ (i := 35) (N := some 123) (v := undef) (a' := ?_) #[true,true,true,true,true,true,true,true,true,true,true,true,true,true,true,true,true,true,true,true,true,true,true,true,true,true,true,true,true,true,true,true,true,true,true,true,false,false,false,false,false,false,false,false,false,false,false,false,false] rfl rfl (any_of HT_.out (by kernel_rfl)) (fun _ _ _ h => h) (Or.inr ⟨by rfl,rfl⟩) ?_ ?_
                    rotate_left
                    ·simp only [Act.put,List.setIfInBounds_toArray,List.set_cons_zero,List.set_cons_succ,i64_w,i32_w]
                     rfl
                    refine pure_ (i := 36) (N := some 124) (v := undef) (a' := ?_) #[true,true,true,true,true,true,true,true,true,true,true,true,true,true,true,true,true,true,true,true,true,true,true,true,true,true,true,true,true,true,true,true,true,true,true,true,true,false,false,false,false,false,false,false,false,false,false,false,false] rfl rfl (any_of HT_.out (by kernel_rfl)) (fun _ _ _ h => h) (Or.inr ⟨by rfl,rfl⟩) ?_ ?_
                    rotate_left
                    ·simp only [Act.put,List.setIfInBounds_toArray,List.set_cons_zero,List.set_cons_succ,i64_w,i32_w]
                     rfl
                    refine pure_ (i := 37) (N := some 125) (v := undef) (a' := ?_) #[true,true,true,true,true,true,true,true,true,true,true,true,true,true,true,true,true,true,true,true,true,true,true,true,true,true,true,true,true,true,true,true,true,true,true,true,true,true,false,false,false,false,false,false,false,false,false,false,false] rfl rfl (any_of HT_.out (by kernel_rfl)) (fun _ _ _ h => h) (Or.inr ⟨by rfl,rfl⟩) ?_ ?_
                    rotate_left
                    ·simp only [Act.put,List.setIfInBounds_toArray,List.set_cons_zero,List.set_cons_succ,i64_w,i32_w]
                     rfl
                    refine pure_ (i := 38) (N := some 126) (v := undef) (a' := ?_) #[true,true,true,true,true,true,true,true,true,true,true,true,true,true,true,true,true,true,true,true,true,true,true,true,true,true,true,true,true,true,true,true,true,true,true,true,true,true,true,false,false,false,false,false,false,false,false,false,false] rfl rfl (any_of HT_.out (by kernel_rfl)) (fun _ _ _ h => h) (Or.inr ⟨by rfl,rfl⟩) ?_ ?_
                    rotate_left
                    ·simp only [Act.put,List.setIfInBounds_toArray,List.set_cons_zero,List.set_cons_succ,i64_w,i32_w]
                     rfl
                    refine pure_ (i := 39) (N := some 127) (v := ?_) (a' := ?_) #[true,true,true,true,true,true,true,true,true,true,true,true,true,true,true,true,true,true,true,true,true,true,true,true,true,true,true,true,true,true,true,true,true,true,true,true,true,true,true,true,false,false,false,false,false,false,false,false,false] rfl rfl (any_of HT_.out (by kernel_rfl)) (fun _ _ _ h => h) (Or.inl ⟨by rfl,?_⟩) ?_ ?_
                    rotate_left
                    ·intro w'
                     go_simp
                     with_reducible rfl
                    rotate_left
                    ·simp only [Act.put,List.setIfInBounds_toArray,List.set_cons_zero,List.set_cons_succ,i64_w,i32_w]
                     rfl
                    refine pure_ (i := 40) (N := some 128) (v := ?_) (a' := ?_) #[true,true,true,true,true,true,true,true,true,true,true,true,true,true,true,true,true,true,true,true,true,true,true,true,true,true,true,true,true,true,true,true,true,true,true,true,true,true,true,true,true,false,false,false,false,false,false,false,false] rfl rfl (any_of HT_.out (by kernel_rfl)) (fun _ _ _ h => h) (Or.inl ⟨by rfl,?_⟩) ?_ ?_
                    rotate_left
                    ·intro w'
                     go_simp
                     with_reducible rfl
                    rotate_left
                    ·simp only [Act.put,List.setIfInBounds_toArray,List.set_cons_zero,List.set_cons_succ,i64_w,i32_w]
                     rfl
                    refine pure_ (i := 41) (N := some 129) (v := undef) (a' := ?_) #[true,true,true,true,true,true,true,true,true,true,true,true,true,true,true,true,true,true,true,true,true,true,true,true,true,true,true,true,true,true,true,true,true,true,true,true,true,true,true,true,true,true,false,false,false,false,false,false,false] rfl rfl (any_of HT_.out (by kernel_rfl)) (fun _ _ _ h => h) (Or.inr ⟨by rfl,rfl⟩) ?_ ?_
                    rotate_left
                    ·simp only [Act.put,List.setIfInBounds_toArray,List.set_cons_zero,List.set_cons_succ,i64_w,i32_w]
                     rfl
                    refine pure_ (i := 42) (N := some 130) (v := undef) (a' := ?_) #[true,true,true,true,true,true,true,true,true,true,true,true,true,true,true,true,true,true,true,true,true,true,true,true,true,true,true,true,true,true,true,true,true,true,true,true,true,true,true,true,true,true,true,false,false,false,false,false,false] rfl rfl (any_of HT_.out (by kernel_rfl)) (fun _ _ _ h => h) (Or.inr ⟨by rfl,rfl⟩) ?_ ?_
                    rotate_left
                    ·simp only [Act.put,List.setIfInBounds_toArray,List.set_cons_zero,List.set_cons_succ,i64_w,i32_w]
                     rfl
                    refine pure_ (i := 43) (N := some 131) (v := undef) (a' := ?_) #[true,true,true,true,true,true,true,true,true,true,true,true,true,true,true,true,true,true,true,true,true,true,true,true,true,true,true,true,true,true,true,true,true,true,true,true,true,true,true,true,true,true,true,true,false,false,false,false,false] rfl rfl (any_of HT_.out (by kernel_rfl)) (fun _ _ _ h => h) (Or.inr ⟨by rfl,rfl⟩) ?_ ?_
                    rotate_left
                    ·simp only [Act.put,List.setIfInBounds_toArray,List.set_cons_zero,List.set_cons_succ,i64_w,i32_w]
                     rfl
                    refine pure_ (i := 44) (N := some 132) (v := undef) (a' := ?_) #[true,true,true,true,true,true,true,true,true,true,true,true,true,true,true,true,true,true,true,true,true,true,true,true,true,true,true,true,true,true,true,true,true,true,true,true,true,true,true,true,true,true,true,true,true,false,false,false,false] rfl rfl (any_of HT_.out (by kernel_rfl)) (fun _ _ _ h => h) (Or.inr ⟨by rfl,rfl⟩) ?_ ?_
                    rotate_left
                    ·simp only [Act.put,List.setIfInBounds_toArray,List.set_cons_zero,List.set_cons_succ,i64_w,i32_w]
                     rfl
                    refine pure_ (i := 45) (N := some 133) (v := undef) (a' := ?_) #[true,true,true,true,true,true,true,true,true,true,true,true,true,true,true,true,true,true,true,true,true,true,true,true,true,true,true,true,true,true,true,true,true,true,true,true,true,true,true,true,true,true,true,true,true,true,false,false,false] rfl rfl (any_of HT_.out (by kernel_rfl)) (fun _ _ _ h => h) (Or.inr ⟨by rfl,rfl⟩) ?_ ?_
                    rotate_left
                    ·simp only [Act.put,List.setIfInBounds_toArray,List.set_cons_zero,List.set_cons_succ,i64_w,i32_w]
                     rfl
                    refine pure_ (i := 46) (N := some 134) (v := undef) (a' := ?_) #[true,true,true,true,true,true,true,true,true,true,true,true,true,true,true,true,true,true,true,true,true,true,true,true,true,true,true,true,true,true,true,true,true,true,true,true,true,true,true,true,true,true,true,true,true,true,true,false,false] rfl rfl (any_of HT_.out (by kernel_rfl)) (fun _ _ _ h => h) (Or.inr ⟨by rfl,rfl⟩) ?_ ?_
                    rotate_left
                    ·simp only [Act.put,List.setIfInBounds_toArray,List.set_cons_zero,List.set_cons_succ,i64_w,i32_w]
                     rfl
                    refine pure_ (i := 47) (N := some 135) (v := ?_) (a' := ?_) #[true,true,true,true,true,true,true,true,true,true,true,true,true,true,true,true,true,true,true,true,true,true,true,true,true,true,true,true,true,true,true,true,true,true,true,true,true,true,true,true,true,true,true,true,true,true,true,true,false] rfl rfl (any_of HT_.out (by kernel_rfl)) (fun _ _ _ h => h) (Or.inl ⟨by rfl,?_⟩) ?_ ?_
                    rotate_left
                    ·intro w'
                     go_simp
                     with_reducible rfl
                    rotate_left
                    ·simp only [Act.put,List.setIfInBounds_toArray,List.set_cons_zero,List.set_cons_succ,i64_w,i32_w]
                     rfl
                    refine pure_ (i := 48) (N := some 4) (v := ?_) (a' := ?_) #[true,true,true,true,true,true,true,true,true,true,true,true,true,true,true,true,true,true,true,true,true,true,true,true,true,true,true,true,true,true,true,true,true,true,true,true,true,true,true,true,true,true,true,true,true,true,true,true,true] rfl rfl (any_of HT_.out (by kernel_rfl)) (fun _ _ _ h => h) (Or.inl ⟨by rfl,?_⟩) ?_ ?_
                    rotate_left
                    ·intro w'
                     go_simp
                     with_reducible rfl
                    rotate_left
                    ·simp only [Act.put,List.setIfInBounds_toArray,List.set_cons_zero,List.set_cons_succ,i64_w,i32_w]
                     rfl
                    refine done_ (done_of HT_.out (by kernel_rfl)) ?_
                    try go_wp2
                    go_ret
                    exact ⟨by first | rfl | (simp [errW_none,errW_some] <;> rfl) | (simp only [← hji48,← hji55,← hji58];first | rfl | (simp [errW_none,errW_some] <;> rfl)) | (simp [*,errW_none,errW_some] <;> rfl),by repeat (first | (with_reducible first | exact HB.out | apply below_alloc | apply pw_below_drewN | apply below_drew1) | exact HB.out)⟩
                  ·rw [if_neg c60] at H
                   exact absurd H (by simp)
                 ·rw [if_neg c59] at H
                  exact absurd H (by simp)
                ·rw [if_neg c57] at H
                 exact absurd H (by simp)
               ·rw [if_neg c56] at H
                exact absurd H (by simp)
              ·replace c54 := Bool.eq_false_iff.mpr c54
               subst c54
               have H1 : (some false) = some r := by rw [if_neg (show ¬ (false = true) by decide)] at H;exact H
               clear H
               have H := H1
               clear H1
               obtain rfl := Option.some.inj H
               obtain ⟨Ao89,co89,eo89⟩ := Kd.R_slice HO_7.out
               subst eo89
               try go_wp2
               have n0_ := Aside0.mk (Kd.R_drew HO_6.out)
               have n1_ := Aside0.mk (Kd.R_drew HO_7.out)
               have n2_ := Aside0.mk (Kd.R_drew HO_8.out)
               have n3_ := Aside0.mk (below_drew1 HB.out)
               clear HO_6
               clear HO_7
               clear HO_8
               clear HB
               have HO_6 := n0_
               have HO_7 := n1_
               have HO_8 := n2_
               have HB := n3_
               clear n0_ n1_ n2_ n3_
               obtain ⟨Ao91,co91,eo91⟩ := Kd.R_slice HO_6.out
               (first | subst eo91 | (injection eo91 with f1_ f2_ f3_;have f4_ := f1_.symm;have f5_ := f3_.symm;clear f1_ f2_ f3_;subst f4_;subst f5_))
               obtain ⟨Ao92,co92,eo92⟩ := Kd.R_slice HO_8.out
               (first | subst eo92 | (injection eo92 with f1_ f2_ f3_;have f4_ := f1_.symm;have f5_ := f3_.symm;clear f1_ f2_ f3_;subst f4_;subst f5_))
               have q93 : ((ji48) : Int) ≤ ((t125.length : Int) : Int) := of_decide_eq_true (by first | (with_reducible assumption) | assumption)
               obtain ⟨i093,hi093,_,hsz93,_⟩ := info_parts info30
               have hroom93 : t125.length ≤ co91 := (Kd.R_reads' HO_6.out).2.1
               have hC93 : Kd.C k30 _ Ao91 t125.length t125 := (Kd.R_reads' HO_6.out).2.2
               have hcut93 := cut_to (P := Tryd.prog) 27 30 .i64 Tryd.underlying27 hi093 Ao91 t125.length co91 (ji48) (of_decide_eq_true (by first | (with_reducible assumption) | assumption)) q93 hroom93
               have hr93 := Kd.C_take (m := ((ji48) : Int).toNat) hC93 (by omega)
               have hy93 : y147.length = ((ji48) : Int).toNat := (by rw [Ny147.out,List.length_take];omega)
               rw [← Ny147.out] at hr93
               rw [← hy93] at hcut93
               have HR150 := Aside0.mk hr93
               have HC150 := Aside0.mk (show y147.length ≤ co91 from by omega)
               clear hr93 hC93 hroom93 hi093 hsz93
               have KY93 := Aside0.mk hy93
               clear hy93
               have KL93 := Aside0.mk (show ((ji48) : Int).toNat ≤ t125.length from by omega)
               replace q93 := eq_true q93
               have q94 : ((ji48) : Int) ≤ ((t128.length : Int) : Int) := of_decide_eq_true (by first | (with_reducible assumption) | assumption)
               obtain ⟨i094,hi094,_,hsz94,_⟩ := info_parts info30
               have hroom94 : t128.length ≤ co89 := (Kd.R_reads' HO_7.out).2.1
               have hC94 : Kd.C k30 _ Ao89 t128.length t128 := (Kd.R_reads' HO_7.out).2.2
               have hcut94 := cut_to (P := Tryd.prog) 27 30 .i64 Tryd.underlying27 hi094 Ao89 t128.length co89 (ji48) (of_decide_eq_true (by first | (with_reducible assumption) | assumption)) q94 hroom94
               have hr94 := Kd.C_take (m := ((ji48) : Int).toNat) hC94 (by omega)
               have hy94 : y151.length = ((ji48) : Int).toNat := (by rw [Ny151.out,List.length_take];omega)
               rw [← Ny151.out] at hr94
               rw [← hy94] at hcut94
               have HR154 := Aside0.mk hr94
               have HC154 := Aside0.mk (show y151.length ≤ co89 from by omega)
               clear hr94 hC94 hroom94 hi094 hsz94
               have KY94 := Aside0.mk hy94
               clear hy94
               have KL94 := Aside0.mk (show ((ji48) : Int).toNat ≤ t128.length from by omega)
               replace q94 := eq_true q94
               refine start_ (n := 49) (S := fun w' => True) (ds := []) #[false,false,false,false,false,false,false,false,false,false,false,false,false,false,false,false,false,false,false,false,false,false,false,false,false,false,false,false,false,false,false,false,false,false,false,false,false,false,false,false,false,false,false,false,false,false,false,false,false] (by kernel_rfl) rfl rfl trivial (fun hHeld => ?_);refine with_tabW bodkinlaw01_UnitSeams.tab14 bodkinlaw01_UnitSeams.bits14 (fun HT_ HW_ => ?_)
               generalize wc.drew = w90 at HO_6 HO_7 HO_8 HB HR150 HR154 hHeld ⊢
               refine pure_ (i := 0) (N := some 88) (v := ?_) (a' := ?_) #[true,false,false,false,false,false,false,false,false,false,false,false,false,false,false,false,false,false,false,false,false,false,false,false,false,false,false,false,false,false,false,false,false,false,false,false,false,false,false,false,false,false,false,false,false,false,false,false,false] rfl rfl (any_of HT_.out (by kernel_rfl)) (fun _ _ _ h => h) (Or.inl ⟨by rfl,?_⟩) ?_ ?_
               rotate_left
               ·intro w'
                go_simp
                with_reducible rfl
               rotate_left
               ·simp only [Act.put,List.setIfInBounds_toArray,List.set_cons_zero,List.set_cons_succ,i64_w,i32_w]
                rfl
               refine pure_ (i := 1) (N := some 89) (v := ?_) (a' := ?_) #[true,true,false,false,false,false,false,false,false,false,false,false,false,false,false,false,false,false,false,false,false,false,false,false,false,false,false,false,false,false,false,false,false,false,false,false,false,false,false,false,false,false,false,false,false,false,false,false,false] rfl rfl (any_of HT_.out (by kernel_rfl)) (fun _ _ _ h => h) (Or.inl ⟨by rfl,?_⟩) ?_ ?_
               rotate_left
               ·intro w'
                go_simp
                with_reducible rfl
               rotate_left
               ·simp only [Act.put,List.setIfInBounds_toArray,List.set_cons_zero,List.set_cons_succ,i64_w,i32_w]
                rfl
               refine pure_ (i := 2) (N := some 90) (v := ?_) (a' := ?_) #[true,true,true,false,false,false,false,false,false,false,false,false,false,false,false,false,false,false,false,false,false,false,false,false,false,false,false,false,false,false,false,false,false,false,false,false,false,false,false,false,false,false,false,false,false,false,false,false,false] rfl rfl (any_of HT_.out (by kernel_rfl)) (fun _ _ _ h => h) (Or.inl ⟨by rfl,?_⟩) ?_ ?_
               rotate_left
               ·intro w'
                go_simp
                with_reducible rfl
               rotate_left
               ·simp only [Act.put,List.setIfInBounds_toArray,List.set_cons_zero,List.set_cons_succ,i64_w,i32_w]
                rfl
               refine pure_ (i := 3) (N := some 91) (v := ?_) (a' := ?_) #[true,true,true,true,false,false,false,false,false,false,false,false,false,false,false,false,false,false,false,false,false,false,false,false,false,false,false,false,false,false,false,false,false,false,false,false,false,false,false,false,false,false,false,false,false,false,false,false,false] rfl rfl (any_of HT_.out (by kernel_rfl)) (fun _ _ _ h => h) (Or.inl ⟨by rfl,?_⟩) ?_ ?_
               rotate_left
               ·intro w'
                go_simp
                with_reducible rfl
               rotate_left
               ·simp only [Act.put,List.setIfInBounds_toArray,List.set_cons_zero,List.set_cons_succ,i64_w,i32_w]
                rfl
               refine pure_ (i := 4) (N := some 92) (v := ?_) (a' := ?_) #[true,true,true,true,true,false,false,false,false,false,false,false,false,false,false,false,false,false,false,false,false,false,false,false,false,false,false,false,false,false,false,false,false,false,false,false,false,false,false,false,false,false,false,false,false,false,false,false,false] rfl rfl (any_of HT_.out (by kernel_rfl)) (fun _ _ _ h => h) (Or.inl ⟨by rfl,?_⟩) ?_ ?_
               rotate_left
               ·intro w'
                go_simp
                with_reducible rfl
               rotate_left
               ·simp only [Act.put,List.setIfInBounds_toArray,List.set_cons_zero,List.set_cons_succ,i64_w,i32_w]
                rfl
               refine pure_ (i := 5) (N := some 93) (v := ?_) (a' := ?_) #[true,true,true,true,true,true,false,false,false,false,false,false,false,false,false,false,false,false,false,false,false,false,false,false,false,false,false,false,false,false,false,false,false,false,false,false,false,false,false,false,false,false,false,false,false,false,false,false,false] rfl rfl (any_of HT_.out (by kernel_rfl)) (fun _ _ _ h => h) (Or.inl ⟨by rfl,?_⟩) ?_ ?_
               rotate_left
               ·intro w'
                go_simp
                with_reducible rfl
               rotate_left
               ·simp only [Act.put,List.setIfInBounds_toArray,List.set_cons_zero,List.set_cons_succ,i64_w,i32_w]
                rfl
               refine pure_ (i := 6) (N := some 94) (v := ?_) (a' := ?_) #[true,true,true,true,true,true,true,false,false,false,false,false,false,false,false,false,false,false,false,false,false,false,false,false,false,false,false,false,false,false,false,false,false,false,false,false,false,false,false,false,false,false,false,false,false,false,false,false,false] rfl rfl (any_of HT_.out (by kernel_rfl)) (fun _ _ _ h => h) (Or.inl ⟨by rfl,?_⟩) ?_ ?_
               rotate_left
               ·intro w'
                go_simp
                with_reducible rfl
               rotate_left
               ·simp only [Act.put,List.setIfInBounds_toArray,List.set_cons_zero,List.set_cons_succ,i64_w,i32_w]
                rfl
               refine pure_ (i := 7) (N := some 95) (v := ?_) (a' := ?_) #[true,true,true,true,true,true,true,true,false,false,false,false,false,false,false,false,false,false,false,false,false,false,false,false,false,false,false,false,false,false,false,false,false,false,false,false,false,false,false,false,false,false,false,false,false,false,false,false,false] rfl rfl (any_of HT_.out (by kernel_rfl)) (fun _ _ _ h => h) (Or.inl ⟨by rfl,?_⟩) ?_ ?_
               rotate_left
               ·intro w'
                go_simp
                with_reducible rfl
               rotate_left
               ·simp only [Act.put,List.setIfInBounds_toArray,List.set_cons_zero,List.set_cons_succ,i64_w,i32_w]
                rfl
               refine pure_ (i := 8) (N := some 96) (v := ?_) (a' := ?_) #[true,true,true,true,true,true,true,true,true,false,false,false,false,false,false,false,false,false,false,false,false,false,false,false,false,false,false,false,false,false,false,false,false,false,false,false,false,false,false,false,false,false,false,false,false,false,false,false,false] rfl rfl (any_of HT_.out (by kernel_rfl)) (fun _ _ _ h => h) (Or.inl ⟨by rfl,?_⟩) ?_ ?_
               rotate_left
               ·intro w'
                go_simp
                with_reducible rfl
               rotate_left
               ·simp only [Act.put,List.setIfInBounds_toArray,List.set_cons_zero,List.set_cons_succ,i64_w,i32_w]
                rfl
               refine pure_ (i := 9) (N := some 97) (v := ?_) (a' := ?_) #[true,true,true,true,true,true,true,true,true,true,false,false,false,false,false,false,false,false,false,false,false,false,false,false,false,false,false,false,false,false,false,false,false,false,false,false,false,false,false,false,false,false,false,false,false,false,false,false,false] rfl rfl (any_of HT_.out (by kernel_rfl)) (fun _ _ _ h => h) (Or.inl ⟨by rfl,?_⟩) ?_ ?_
               rotate_left
               ·intro w'
                go_simp
                with_reducible rfl
               rotate_left
               ·simp only [Act.put,List.setIfInBounds_toArray,List.set_cons_zero,List.set_cons_succ,i64_w,i32_w]
                rfl
               refine pure_ (i := 10) (N := some 98) (v := ?_) (a' := ?_) #[true,true,true,true,true,true,true,true,true,true,true,false,false,false,false,false,false,false,false,false,false,false,false,false,false,false,false,false,false,false,false,false,false,false,false,false,false,false,false,false,false,false,false,false,false,false,false,false,false] rfl rfl (any_of HT_.out (by kernel_rfl)) (fun _ _ _ h => h) (Or.inl ⟨by rfl,?_⟩) ?_ ?_
               rotate_left
               ·intro w'
                go_simp
                with_reducible rfl
               rotate_left
               ·simp only [Act.put,List.setIfInBounds_toArray,List.set_cons_zero,List.set_cons_succ,i64_w,i32_w]
                rfl
               refine pure_ (i := 11) (N := some 99) (v := ?_) (a' := ?_) #[true,true,true,true,true,true,true,true,true,true,true,true,false,false,false,false,false,false,false,false,false,false,false,false,false,false,false,false,false,false,false,false,false,false,false,false,false,false,false,false,false,false,false,false,false,false,false,false,false] rfl rfl (any_of HT_.out (by kernel_rfl)) (fun _ _ _ h => h) (Or.inl ⟨by rfl,?_⟩) ?_ ?_
               rotate_left
               ·intro w'
                go_simp
                with_reducible rfl
               rotate_left
               ·simp only [Act.put,List.setIfInBounds_toArray,List.set_cons_zero,List.set_cons_succ,i64_w,i32_w]
                rfl
               refine pure_ (i := 12) (N := some 100) (v := ?_) (a' := ?_) #[true,true,true,true,true,true,true,true,true,true,true,true,true,false,false,false,false,false,false,false,false,false,false,false,false,false,false,false,false,false,false,false,false,false,false,false,false,false,false,false,false,false,false,false,false,false,false,false,false] rfl rfl (any_of HT_.out (by kernel_rfl)) (fun _ _ _ h => h) (Or.inl ⟨by rfl,?_⟩) ?_ ?_
               rotate_left
               ·intro w'
                go_simp
                with_reducible rfl
               rotate_left
               ·simp only [Act.put,List.setIfInBounds_toArray,List.set_cons_zero,List.set_cons_succ,i64_w,i32_w]
                rfl
               refine pure_ (i := 13) (N := some 101) (v := ?_) (a' := ?_) #[true,true,true,true,true,true,true,true,true,true,true,true,true,true,false,false,false,false,false,false,false,false,false,false,false,false,false,false,false,false,false,false,false,false,false,false,false,false,false,false,false,false,false,false,false,false,false,false,false] rfl rfl (any_of HT_.out (by kernel_rfl)) (fun _ _ _ h => h) (Or.inl ⟨by rfl,?_⟩) ?_ ?_
               rotate_left
               ·intro w'
                go_simp
                with_reducible rfl
               rotate_left
               ·simp only [Act.put,List.setIfInBounds_toArray,List.set_cons_zero,List.set_cons_succ,i64_w,i32_w]
                rfl
               refine pure_ (i := 14) (N := some 102) (v := ?_) (a' := ?_) #[true,true,true,true,true,true,true,true,true,true,true,true,true,true,true,false,false,false,false,false,false,false,false,false,false,false,false,false,false,false,false,false,false,false,false,false,false,false,false,false,false,false,false,false,false,false,false,false,false] rfl rfl (any_of HT_.out (by kernel_rfl)) (fun _ _ _ h => h) (Or.inl ⟨by rfl,?_⟩) ?_ ?_
               rotate_left
               ·intro w'
                go_simp
                with_reducible rfl
               rotate_left
               ·simp only [Act.put,List.setIfInBounds_toArray,List.set_cons_zero,List.set_cons_succ,i64_w,i32_w]
                rfl
               refine pure_ (i := 15) (N := some 103) (v := ?_) (a' := ?_) #[true,true,true,true,true,true,true,true,true,true,true,true,true,true,true,true,false,false,false,false,false,false,false,false,false,false,false,false,false,false,false,false,false,false,false,false,false,false,false,false,false,false,false,false,false,false,false,false,false] rfl rfl (any_of HT_.out (by kernel_rfl)) (fun _ _ _ h => h) (Or.inl ⟨by rfl,?_⟩) ?_ ?_
               rotate_left
               ·intro w'
                go_simp
                with_reducible rfl
               rotate_left
               ·simp only [Act.put,List.setIfInBounds_toArray,List.set_cons_zero,List.set_cons_succ,i64_w,i32_w]
                rfl
               refine pure_ (i := 16) (N := some 104) (v := ?_) (a' := ?_) #[true,true,true,true,true,true,true,true,true,true,true,true,true,true,true,true,true,false,false,false,false,false,false,false,false,false,false,false,false,false,false,false,false,false,false,false,false,false,false,false,false,false,false,false,false,false,false,false,false] rfl rfl (any_of HT_.out (by kernel_rfl)) (fun _ _ _ h => h) (Or.inl ⟨by rfl,?_⟩) ?_ ?_
               rotate_left
               ·intro w'
                go_simp
                with_reducible rfl
               rotate_left
               ·simp only [Act.put,List.setIfInBounds_toArray,List.set_cons_zero,List.set_cons_succ,i64_w,i32_w]
                rfl
               refine one_ (i := 17) (N := some 105) #[true,true,true,true,true,true,true,true,true,true,true,true,true,true,true,true,true,true,false,false,false,false,false,false,false,false,false,false,false,false,false,false,false,false,false,false,false,false,false,false,false,false,false,false,false,false,false,false,false] rfl rfl (one_of HT_.out (by kernel_rfl)) (by decide) (fun K hK => ?_)
               refine goes_ Tryd.func24 (by kernel_rfl) rfl #[.slice Ao91 y147.length co91,.slice Ao89 y151.length co89] (by rfl) rfl rfl (by (try simp only [List.map_toArray,List.map_cons,List.map_nil]);first | done | rfl | (simp only [List.length_drop,List.length_take];rfl)) ?_
               with_reducible refine (bodkinlaw01_alike.calls kj40 _ _ y147 _ _ y151 false _ ?side1 ?side2 ?side3 ?side4 A53.out).mono ?_
               (case side1 => repeat (first | exact (by repeat (first | (with_reducible exact HR150.out) | (with_reducible refine Kd.C_alloc ?_ _) | (with_reducible refine Kd.C_drewN ?_ _) | (with_reducible refine Kd.C_drew ?_) | exact HR150.out)) | (with_reducible refine Kd.C_alloc ?_ _) | (with_reducible refine Kd.C_drewN ?_ _) | (with_reducible refine Kd.C_drew ?_)))
               (case side2 => exact HC150.out)
               (case side3 => repeat (first | exact (by repeat (first | (with_reducible exact HR154.out) | (with_reducible refine Kd.C_alloc ?_ _) | (with_reducible refine Kd.C_drewN ?_ _) | (with_reducible refine Kd.C_drew ?_) | exact HR154.out)) | (with_reducible refine Kd.C_alloc ?_ _) | (with_reducible refine Kd.C_drewN ?_ _) | (with_reducible refine Kd.C_drew ?_)))
               (case side4 => exact HC154.out)
               rintro e w' ⟨rfl,⟨nd,rfl⟩⟩
               refine ⟨_,rfl,?_⟩
               refine hK.out _ _ trivial (fun hHeld => ?_)
               clear hK K
               refine norm_ (a' := ?_) ?_ ?_
               rotate_left
               ·show Act.put _ (some 105) _ = _
                simp only [Act.put,List.setIfInBounds_toArray,List.set_cons_zero,List.set_cons_succ,i64_w,i32_w]
                rfl
               refine pure_ (i := 18) (N := some 106) (v := ?_) (a' := ?_) #[true,true,true,true,true,true,true,true,true,true,true,true,true,true,true,true,true,true,true,false,false,false,false,false,false,false,false,false,false,false,false,false,false,false,false,false,false,false,false,false,false,false,false,false,false,false,false,false,false] rfl rfl (any_of HT_.out (by kernel_rfl)) (fun _ _ _ h => h) (Or.inl ⟨by rfl,?_⟩) ?_ ?_
               rotate_left
               ·intro w'
                go_simp
                with_reducible rfl
               rotate_left
               ·simp only [Act.put,List.setIfInBounds_toArray,List.set_cons_zero,List.set_cons_succ,i64_w,i32_w]
                rfl
               refine pure_ (i := 19) (N := some 107) (v := ?_) (a' := ?_) #[true,true,true,true,true,true,true,true,true,true,true,true,true,true,true,true,true,true,true,true,false,false,false,false,false,false,false,false,false,false,false,false,false,false,false,false,false,false,false,false,false,false,false,false,false,false,false,false,false] rfl rfl (any_of HT_.out (by kernel_rfl)) (fun _ _ _ h => h) (Or.inl ⟨by rfl,?_⟩) ?_ ?_
               rotate_left
               ·intro w'
                go_simp
                with_reducible rfl
               rotate_left
               ·simp only [Act.put,List.setIfInBounds_toArray,List.set_cons_zero,List.set_cons_succ,i64_w,i32_w]
                rfl
               refine pure_ (i := 20) (N := some 108) (v := undef) (a' := ?_) #[true,true,true,true,true,true,true,true,true,true,true,true,true,true,true,true,true,true,true,true,true,false,false,false,false,false,false,false,false,false,false,false,false,false,false,false,false,false,false,false,false,false,false,false,false,false,false,false,false] rfl rfl (any_of HT_.out (by kernel_rfl)) (fun _ _ _ h => h) (Or.inr ⟨by rfl,rfl⟩) ?_ ?_
               rotate_left
               ·simp only [Act.put,List.setIfInBounds_toArray,List.set_cons_zero,List.set_cons_succ,i64_w,i32_w]
                rfl
               refine pure_ (i := 21) (N := some 109) (v := undef) (a' := ?_) #[true,true,true,true,true,true,true,true,true,true,true,true,true,true,true,true,true,true,true,true,true,true,false,false,false,false,false,false,false,false,false,false,false,false,false,false,false,false,false,false,false,false,false,false,false,false,false,false,false] rfl rfl (any_of HT_.out (by kernel_rfl)) (fun _ _ _ h => h) (Or.inr ⟨by rfl,rfl⟩) ?_ ?_
               rotate_left
               ·simp only [Act.put,List.setIfInBounds_toArray,List.set_cons_zero,List.set_cons_succ,i64_w,i32_w]
                rfl
               refine pure_ (i := 22) (N := some 110) (v := undef) (a' := ?_) #[true,true,true,true,true,true,true,true,true,true,true,true,true,true,true,true,true,true,true,true,true,true,true,false,false,false,false,false,false,false,false,false,false,false,false,false,false,false,false,false,false,false,false,false,false,false,false,false,false] rfl rfl (any_of HT_.out (by kernel_rfl)) (fun _ _ _ h => h) (Or.inr ⟨by rfl,rfl⟩) ?_ ?_
               rotate_left
               ·simp only [Act.put,List.setIfInBounds_toArray,List.set_cons_zero,List.set_cons_succ,i64_w,i32_w]
                rfl
               refine pure_ (i := 23) (N := some 111) (v := undef) (a' := ?_) #[true,true,true,true,true,true,true,true,true,true,true,true,true,true,true,true,true,true,true,true,true,true,true,true,false,false,false,false,false,false,false,false,false,false,false,false,false,false,false,false,false,false,false,false,false,false,false,false,false] rfl rfl (any_of HT_.out (by kernel_rfl)) (fun _ _ _ h => h) (Or.inr ⟨by rfl,rfl⟩) ?_ ?_
               rotate_left
               ·simp only [Act.put,List.setIfInBounds_toArray,List.set_cons_zero,List.set_cons_succ,i64_w,i32_w]
                rfl
               refine pure_ (i := 24) (N := some 112) (v := undef) (a' := ?_) #[true,true,true,true,true,true,true,true,true,true,true,true,true,true,true,true,true,true,true,true,true,true,true,true,true,false,false,false,false,false,false,false,false,false,false,false,false,false,false,false,false,false,false,false,false,false,false,false,false] rfl rfl (any_of HT_.out (by kernel_rfl)) (fun _ _ _ h => h) (Or.inr ⟨by rfl,rfl⟩) ?_ ?_
               rotate_left
               ·simp only [Act.put,List.setIfInBounds_toArray,List.set_cons_zero,List.set_cons_succ,i64_w,i32_w]
                rfl
               refine pure_ (i := 25) (N := some 113) (v := undef) (a' := ?_) #[true,true,true,true,true,true,true,true,true,true,true,true,true,true,true,true,true,true,true,true,true,true,true,true,true,true,false,false,false,false,false,false,false,false,false,false,false,false,false,false,false,false,false,false,false,false,false,false,false] rfl rfl (any_of HT_.out (by kernel_rfl)) (fun _ _ _ h => h) (Or.inr ⟨by rfl,rfl⟩) ?_ ?_
               rotate_left
               ·simp only [Act.put,List.setIfInBounds_toArray,List.set_cons_zero,List.set_cons_succ,i64_w,i32_w]
                rfl
               refine pure_ (i := 26) (N := some 114) (v := undef) (a' := ?_) #[true,true,true,true,true,true,true,true,true,true,true,true,true,true,true,true,true,true,true,true,true,true,true,true,true,true,true,false,false,false,false,false,false,false,false,false,false,false,false,false,false,false,false,false,false,false,false,false,false] rfl rfl (any_of HT_.out (by kernel_rfl)) (fun _ _ _ h => h) (Or.inr ⟨by rfl,rfl⟩) ?_ ?_
               rotate_left
               ·simp only [Act.put,List.setIfInBounds_toArray,List.set_cons_zero,List.set_cons_succ,i64_w,i32_w]
                rfl
               refine pure_ (i := 27) (N := some 115) (v := undef) (a' := ?_) #[true,true,true,true,true,true,true,true,true,true,true,true,true,true,true,true,true,true,true,true,true,true,true,true,true,true,true,true,false,false,false,false,false,false,false,false,false,false,false,false,false,false,false,false,false,false,false,false,false] rfl rfl (any_of HT_.out (by kernel_rfl)) (fun _ _ _ h => h) (Or.inr ⟨by rfl,rfl⟩) ?_ ?_
               rotate_left
               ·simp only [Act.put,List.setIfInBounds_toArray,List.set_cons_zero,List.set_cons_succ,i64_w,i32_w]
                rfl
               refine pure_ (i := 28) (N := some 116) (v := ?_) (a' := ?_) #[true,true,true,true,true,true,true,true,true,true,true,true,true,true,true,true,true,true,true,true,true,true,true,true,true,true,true,true,true,false,false,false,false,false,false,false,false,false,false,false,false,false,false,false,false,false,false,false,false] rfl rfl (any_of HT_.out (by kernel_rfl)) (fun _ _ _ h => h) (Or.inl ⟨by rfl,?_⟩) ?_ ?_
               rotate_left
               ·intro w'
                go_simp
                with_reducible rfl
               rotate_left
               ·simp only [Act.put,List.setIfInBounds_toArray,List.set_cons_zero,List.set_cons_succ,i64_w,i32_w]
                rfl
               refine pure_ (i := 29) (N := some 117) (v := ?_) (a' := ?_) #[true,true,true,true,true,true,true,true,true,true,true,true,true,true,true,true,true,true,true,true,true,true,true,true,true,true,true,true,true,true,false,false,false,false,false,false,false,false,false,false,false,false,false,false,false,false,false,false,false] rfl rfl (any_of HT_.out (by kernel_rfl)) (fun _ _ _ h => h) (Or.inl ⟨by rfl,?_⟩) ?_ ?_
               rotate_left
               ·intro w'
                go_simp
                with_reducible rfl
               rotate_left
               ·simp only [Act.put,List.setIfInBounds_toArray,List.set_cons_zero,List.set_cons_succ,i64_w,i32_w]
                rfl
               refine pure_ (i := 30) (N := some 118) (v := undef) (a' := ?_) #[true,true,true,true,true,true,true,true,true,true,true,true,true,true,true,true,true,true,true,true,true,true,true,true,true,true,true,true,true,true,true,false,false,false,false,false,false,false,false,false,false,false,false,false,false,false,false,false,false] rfl rfl (any_of HT_.out (by kernel_rfl)) (fun _ _ _ h => h) (Or.inr ⟨by rfl,rfl⟩) ?_ ?_
               rotate_left
               ·simp only [Act.put,List.setIfInBounds_toArray,List.set_cons_zero,List.set_cons_succ,i64_w,i32_w]
                rfl
               refine pure_ (i := 31) (N := some 119) (v := undef) (a' := ?_) #[true,true,true,true,true,true,true,true,true,true,true,true,true,true,true,true,true,true,true,true,true,true,true,true,true,true,true,true,true,true,true,true,false,false,false,false,false,false,false,false,false,false,false,false,false,false,false,false,false] rfl rfl (any_of HT_.out (by kernel_rfl)) (fun _ _ _ h => h) (Or.inr ⟨by rfl,rfl⟩) ?_ ?_
               rotate_left
               ·simp only [Act.put,List.setIfInBounds_toArray,List.set_cons_zero,List.set_cons_succ,i64_w,i32_w]
                rfl
               refine pure_ (i := 32) (N := some 120) (v := undef) (a' := ?_) #[true,true,true,true,true,true,true,true,true,true,true,true,true,true,true,true,true,true,true,true,true,true,true,true,true,true,true,true,true,true,true,true,true,false,false,false,false,false,false,false,false,false,false,false,false,false,false,false,false] rfl rfl (any_of HT_.out (by kernel_rfl)) (fun _ _ _ h => h) (Or.inr ⟨by rfl,rfl⟩) ?_ ?_
               rotate_left
               ·simp only [Act.put,List.setIfInBounds_toArray,List.set_cons_zero,List.set_cons_succ,i64_w,i32_w]
                rfl
               refine pure_ (i := 33) (N := some 121) (v := undef) (a' := ?_) #[true,true,true,true,true,true,true,true,true,true,true,true,true,true,true,true,true,true,true,true,true,true,true,true,true,true,true,true,true,true,true,true,true,true,false,false,false,false,false,false,false,false,false,false,false,false,false,false,false] rfl rfl (any_of HT_.out (by kernel_rfl)) (fun _ _ _ h => h) (Or.inr ⟨by rfl,rfl⟩) ?_ ?_
               rotate_left
               ·simp only [Act.put,List.setIfInBounds_toArray,List.set_cons_zero,List.set_cons_succ,i64_w,i32_w]
                rfl
               refine pure_ (i := 34) (N := some 122) (v := undef) (a' := ?_) #[true,true,true,true,true,true,true,true,true,true,true,true,true,true,true,true,true,true,true,true,true,true,true,true,true,true,true,true,true,true,true,true,true,true,true,false,false,false,false,false,false,false,false,false,false,false,false,false,false] rfl rfl (any_of HT_.out (by kernel_rfl)) (fun _ _ _ h => h) (Or.inr ⟨by rfl,rfl⟩) ?_ ?_
               rotate_left
               ·simp only [Act.put,List.setIfInBounds_toArray,List.set_cons_zero,List.set_cons_succ,i64_w,i32_w]
                rfl
               refine pure_ (i := 35) (N := some 123) (v := undef) (a' := ?_) #[true,true,true,true,true,true,true,true,true,true,true,true,true,true,true,true,true,true,true,true,true,true,true,true,true,true,true,true,true,true,true,true,true,true,true,true,false,false,false,false,false,false,false,false,false,false,false,false,false] rfl rfl (any_of HT_.out (by kernel_rfl)) (fun _ _ _ h => h) (Or.inr ⟨by rfl,rfl⟩) ?_ ?_
               rotate_left
               ·simp only [Act.put,List.setIfInBounds_toArray,List.set_cons_zero,List.set_cons_succ,i64_w,i32_w]
                rfl
               refine pure_ (i := 36) (N := some 124) (v := undef) (a' := ?_) #[true,true,true,true,true,true,true,true,true,true,true,true,true,true,true,true,true,true,true,true,true,true,true,true,true,true,true,true,true,true,true,true,true,true,true,true,true,false,false,false,false,false,false,false,false,false,false,false,false] rfl rfl (any_of HT_.out (by kernel_rfl)) (fun _ _ _ h => h) (Or.inr ⟨by rfl,rfl⟩) ?_ ?_
               rotate_left
               ·simp only [Act.put,List.setIfInBounds_toArray,List.set_cons_zero,List.set_cons_succ,i64_w,i32_w]
                rfl
               refine pure_ (i := 37) (N := some 125) (v := undef) (a' := ?_) #[true,true,true,true,true,true,true,true,true,true,true,true,true,true,true,true,true,true,true,true,true,true,true,true,true,true,true,true,true,true,true,true,true,true,true,true,true,true,false,false,false,false,false,false,false,false,false,false,false] rfl rfl (any_of HT_.out (by kernel_rfl)) (fun _ _ _ h => h) (Or.inr ⟨by rfl,rfl⟩) ?_ ?_
               rotate_left
               ·simp only [Act.put,List.setIfInBounds_toArray,List.set_cons_zero,List.set_cons_succ,i64_w,i32_w]
                rfl
               refine pure_ (i := 38) (N := some 126) (v := undef) (a' := ?_) #[true,true,true,true,true,true,true,true,true,true,true,true,true,true,true,true,true,true,true,true,true,true,true,true,true,true,true,true,true,true,true,true,true,true,true,true,true,true,true,false,false,false,false,false,false,false,false,false,false] rfl rfl (any_of HT_.out (by kernel_rfl)) (fun _ _ _ h => h) (Or.inr ⟨by rfl,rfl⟩) ?_ ?_
               rotate_left
               ·simp only [Act.put,List.setIfInBounds_toArray,List.set_cons_zero,List.set_cons_succ,i64_w,i32_w]
                rfl
               refine pure_ (i := 39) (N := some 127) (v := ?_) (a' := ?_) #[true,true,true,true,true,true,true,true,true,true,true,true,true,true,true,true,true,true,true,true,true,true,true,true,true,true,true,true,true,true,true,true,true,true,true,true,true,true,true,true,false,false,false,false,false,false,false,false,false] rfl rfl (any_of HT_.out (by kernel_rfl)) (fun _ _ _ h => h) (Or.inl ⟨by rfl,?_⟩) ?_ ?_
               rotate_left
               ·intro w'
                go_simp
                with_reducible rfl
               rotate_left
               ·simp only [Act.put,List.setIfInBounds_toArray,List.set_cons_zero,List.set_cons_succ,i64_w,i32_w]
                rfl
               refine pure_ (i := 40) (N := some 128) (v := ?_) (a' := ?_) #[true,true,true,true,true,true,true,true,true,true,true,true,true,true,true,true,true,true,true,true,true,true,true,true,true,true,true,true,true,true,true,true,true,true,true,true,true,true,true,true,true,false,false,false,false,false,false,false,false] rfl rfl (any_of HT_.out (by kernel_rfl)) (fun _ _ _ h => h) (Or.inl ⟨by rfl,?_⟩) ?_ ?_
               rotate_left
               ·intro w'
                go_simp
                with_reducible rfl
               rotate_left
               ·simp only [Act.put,List.setIfInBounds_toArray,List.set_cons_zero,List.set_cons_succ,i64_w,i32_w]
                rfl
               refine pure_ (i := 41) (N := some 129) (v := undef) (a' := ?_) #[true,true,true,true,true,true,true,true,true,true,true,true,true,true,true,true,true,true,true,true,true,true,true,true,true,true,true,true,true,true,true,true,true,true,true,true,true,true,true,true,true,true,false,false,false,false,false,false,false] rfl rfl (any_of HT_.out (by kernel_rfl)) (fun _ _ _ h => h) (Or.inr ⟨by rfl,rfl⟩) ?_ ?_
               rotate_left
               ·simp only [Act.put,List.setIfInBounds_toArray,List.set_cons_zero,List.set_cons_succ,i64_w,i32_w]
                rfl
               refine pure_ (i := 42) (N := some 130) (v := undef) (a' := ?_) #[true,true,true,true,true,true,true,true,true,true,true,true,true,true,true,true,true,true,true,true,true,true,true,true,true,true,true,true,true,true,true,true,true,true,true,true,true,true,true,true,true,true,true,false,false,false,false,false,false] rfl rfl (any_of HT_.out (by kernel_rfl)) (fun _ _ _ h => h) (Or.inr ⟨by rfl,rfl⟩) ?_ ?_
               rotate_left
               ·simp only [Act.put,List.setIfInBounds_toArray,List.set_cons_zero,List.set_cons_succ,i64_w,i32_w]
                rfl
               refine pure_ (i := 43) (N := some 131) (v := undef) (a' := ?_) #[true,true,true,true,true,true,true,true,true,true,true,true,true,true,true,true,true,true,true,true,true,true,true,true,true,true,true,true,true,true,true,true,true,true,true,true,true,true,true,true,true,true,true,true,false,false,false,false,false] rfl rfl (any_of HT_.out (by kernel_rfl)) (fun _ _ _ h => h) (Or.inr ⟨by rfl,rfl⟩) ?_ ?_
               rotate_left
               ·simp only [Act.put,List.setIfInBounds_toArray,List.set_cons_zero,List.set_cons_succ,i64_w,i32_w]
                rfl
               refine pure_ (i := 44) (N := some 132) (v := undef) (a' := ?_) #[true,true,true,true,true,true,true,true,true,true,true,true,true,true,true,true,true,true,true,true,true,true,true,true,true,true,true,true,true,true,true,true,true,true,true,true,true,true,true,true,true,true,true,true,true,false,false,false,false] rfl rfl (any_of HT_.out (by kernel_rfl)) (fun _ _ _ h => h) (Or.inr ⟨by rfl,rfl⟩) ?_ ?_
               rotate_left
               ·simp only [Act.put,List.setIfInBounds_toArray,List.set_cons_zero,List.set_cons_succ,i64_w,i32_w]
                rfl
               refine pure_ (i := 45) (N := some 133) (v := undef) (a' := ?_) #[true,true,true,true,true,true,true,true,true,true,true,true,true,true,true,true,true,true,true,true,true,true,true,true,true,true,true,true,true,true,true,true,true,true,true,true,true,true,true,true,true,true,true,true,true,true,false,false,false] rfl rfl (any_of HT_.out (by kernel_rfl)) (fun _ _ _ h => h) (Or.inr ⟨by rfl,rfl⟩) ?_ ?_
               rotate_left
               ·simp only [Act.put,List.setIfInBounds_toArray,List.set_cons_zero,List.set_cons_succ,i64_w,i32_w]
                rfl
               refine pure_ (i := 46) (N := some 134) (v := undef) (a' := ?_) #[true,true,true,true,true,true,true,true,true,true,true,true,true,true,true,true,true,true,true,true,true,true,true,true,true,true,true,true,true,true,true,true,true,true,true,true,true,true,true,true,true,true,true,true,true,true,true,false,false] rfl rfl (any_of HT_.out (by kernel_rfl)) (fun _ _ _ h => h) (Or.inr ⟨by rfl,rfl⟩) ?_ ?_
               rotate_left
               ·simp only [Act.put,List.setIfInBounds_toArray,List.set_cons_zero,List.set_cons_succ,i64_w,i32_w]
                rfl
               refine pure_ (i := 47) (N := some 135) (v := ?_) (a' := ?_) #[true,true,true,true,true,true,true,true,true,true,true,true,true,true,true,true,true,true,true,true,true,true,true,true,true,true,true,true,true,true,true,true,true,true,true,true,true,true,true,true,true,true,true,true,true,true,true,true,false] rfl rfl (any_of HT_.out (by kernel_rfl)) (fun _ _ _ h => h) (Or.inl ⟨by rfl,?_⟩) ?_ ?_
               rotate_left
               ·intro w'
                go_simp
                with_reducible rfl
               rotate_left
               ·simp only [Act.put,List.setIfInBounds_toArray,List.set_cons_zero,List.set_cons_succ,i64_w,i32_w]
                rfl
               refine pure_ (i := 48) (N := some 4) (v := ?_) (a' := ?_) #[true,true,true,true,true,true,true,true,true,true,true,true,true,true,true,true,true,true,true,true,true,true,true,true,true,true,true,true,true,true,true,true,true,true,true,true,true,true,true,true,true,true,true,true,true,true,true,true,true] rfl rfl (any_of HT_.out (by kernel_rfl)) (fun _ _ _ h => h) (Or.inl ⟨by rfl,?_⟩) ?_ ?_
               rotate_left
               ·intro w'
                go_simp
                with_reducible rfl
               rotate_left
               ·simp only [Act.put,List.setIfInBounds_toArray,List.set_cons_zero,List.set_cons_succ,i64_w,i32_w]
                rfl
               refine done_ (done_of HT_.out (by kernel_rfl)) ?_
               try go_wp2
               go_ret
               exact ⟨by first | rfl | (simp [errW_none,errW_some] <;> rfl) | (simp only [← hji48];first | rfl | (simp [errW_none,errW_some] <;> rfl)) | (simp [*,errW_none,errW_some] <;> rfl),by repeat (first | (with_reducible first | exact HB.out | apply below_alloc | apply pw_below_drewN | apply below_drew1) | exact HB.out)⟩
             ·rw [if_neg c52] at H
              exact absurd H (by simp)
            ·rw [if_neg c50] at H
             exact absurd H (by simp)
           ·rw [if_neg c49] at H
            exact absurd H (by simp)
          ·rw [if_neg c47] at H
           have c47b0 : ((t125.length : Int) == (wrap64 ((wrap64 ((wrap64 ((wrap64 ((t128.length : Int) - (wrap64 ((a0.size : Int) - t145)))) + 1)) + (t131.length : Int))) - (wrap64 (t146 - (a0.size : Int)))))) = false := beq_eq_false_iff_ne.mpr c47
           have c47b1 : ((t125.length : Int) != (wrap64 ((wrap64 ((wrap64 ((wrap64 ((t128.length : Int) - (wrap64 ((a0.size : Int) - t145)))) + 1)) + (t131.length : Int))) - (wrap64 (t146 - (a0.size : Int)))))) = true := bne_iff_ne.mpr c47
           obtain rfl := Option.some.inj H
           obtain ⟨Ao95,co95,eo95⟩ := Kd.R_slice HO_7.out
           subst eo95
           try go_wp2
           have n0_ := Aside0.mk (Kd.R_drew HO_6.out)
           have n1_ := Aside0.mk (Kd.R_drew HO_7.out)
           have n2_ := Aside0.mk (Kd.R_drew HO_8.out)
           have n3_ := Aside0.mk (below_drew1 HB.out)
           clear HO_6
           clear HO_7
           clear HO_8
           clear HB
           have HO_6 := n0_
           have HO_7 := n1_
           have HO_8 := n2_
           have HB := n3_
           clear n0_ n1_ n2_ n3_
           obtain ⟨Ao97,co97,eo97⟩ := Kd.R_slice HO_6.out
           (first | subst eo97 | (injection eo97 with f1_ f2_ f3_;have f4_ := f1_.symm;have f5_ := f3_.symm;clear f1_ f2_ f3_;subst f4_;subst f5_))
           obtain ⟨Ao98,co98,eo98⟩ := Kd.R_slice HO_8.out
           (first | subst eo98 | (injection eo98 with f1_ f2_ f3_;have f4_ := f1_.symm;have f5_ := f3_.symm;clear f1_ f2_ f3_;subst f4_;subst f5_))
           refine start_ (n := 49) (S := fun w' => True) (ds := []) #[false,false,false,false,false,false,false,false,false,false,false,false,false,false,false,false,false,false,false,false,false,false,false,false,false,false,false,false,false,false,false,false,false,false,false,false,false,false,false,false,false,false,false,false,false,false,false,false,false] (by kernel_rfl) rfl rfl trivial (fun hHeld => ?_);refine with_tabW bodkinlaw01_UnitSeams.tab14 bodkinlaw01_UnitSeams.bits14 (fun HT_ HW_ => ?_)
           generalize wc.drew = w96 at HO_6 HO_7 HO_8 HB hHeld ⊢
           refine pure_ (i := 0) (N := some 88) (v := ?_) (a' := ?_) #[true,false,false,false,false,false,false,false,false,false,false,false,false,false,false,false,false,false,false,false,false,false,false,false,false,false,false,false,false,false,false,false,false,false,false,false,false,false,false,false,false,false,false,false,false,false,false,false,false] rfl rfl (any_of HT_.out (by kernel_rfl)) (fun _ _ _ h => h) (Or.inl ⟨by rfl,?_⟩) ?_ ?_
           rotate_left
           ·intro w'
            go_simp
            with_reducible rfl
           rotate_left
           ·simp only [Act.put,List.setIfInBounds_toArray,List.set_cons_zero,List.set_cons_succ,i64_w,i32_w]
            rfl
           refine pure_ (i := 1) (N := some 89) (v := ?_) (a' := ?_) #[true,true,false,false,false,false,false,false,false,false,false,false,false,false,false,false,false,false,false,false,false,false,false,false,false,false,false,false,false,false,false,false,false,false,false,false,false,false,false,false,false,false,false,false,false,false,false,false,false] rfl rfl (any_of HT_.out (by kernel_rfl)) (fun _ _ _ h => h) (Or.inl ⟨by rfl,?_⟩) ?_ ?_
           rotate_left
           ·intro w'
            go_simp
            with_reducible rfl
           rotate_left
           ·simp only [Act.put,List.setIfInBounds_toArray,List.set_cons_zero,List.set_cons_succ,i64_w,i32_w]
            rfl
           refine pure_ (i := 2) (N := some 90) (v := ?_) (a' := ?_) #[true,true,true,false,false,false,false,false,false,false,false,false,false,false,false,false,false,false,false,false,false,false,false,false,false,false,false,false,false,false,false,false,false,false,false,false,false,false,false,false,false,false,false,false,false,false,false,false,false] rfl rfl (any_of HT_.out (by kernel_rfl)) (fun _ _ _ h => h) (Or.inl ⟨by rfl,?_⟩) ?_ ?_
           rotate_left
           ·intro w'
            go_simp
            with_reducible rfl
           rotate_left
           ·simp only [Act.put,List.setIfInBounds_toArray,List.set_cons_zero,List.set_cons_succ,i64_w,i32_w]
            rfl
           refine pure_ (i := 3) (N := some 91) (v := ?_) (a' := ?_) #[true,true,true,true,false,false,false,false,false,false,false,false,false,false,false,false,false,false,false,false,false,false,false,false,false,false,false,false,false,false,false,false,false,false,false,false,false,false,false,false,false,false,false,false,false,false,false,false,false] rfl rfl (any_of HT_.out (by kernel_rfl)) (fun _ _ _ h => h) (Or.inl ⟨by rfl,?_⟩) ?_ ?_
           rotate_left
           ·intro w'
            go_simp
            with_reducible rfl
           rotate_left
           ·simp only [Act.put,List.setIfInBounds_toArray,List.set_cons_zero,List.set_cons_succ,i64_w,i32_w]
            rfl
           refine pure_ (i := 4) (N := some 92) (v := ?_) (a' := ?_) #[true,true,true,true,true,false,false,false,false,false,false,false,false,false,false,false,false,false,false,false,false,false,false,false,false,false,false,false,false,false,false,false,false,false,false,false,false,false,false,false,false,false,false,false,false,false,false,false,false] rfl rfl (any_of HT_.out (by kernel_rfl)) (fun _ _ _ h => h) (Or.inl ⟨by rfl,?_⟩) ?_ ?_
           rotate_left
           ·intro w'
            go_simp
            with_reducible rfl
           rotate_left
           ·simp only [Act.put,List.setIfInBounds_toArray,List.set_cons_zero,List.set_cons_succ,i64_w,i32_w]
            rfl
           refine pure_ (i := 5) (N := some 93) (v := ?_) (a' := ?_) #[true,true,true,true,true,true,false,false,false,false,false,false,false,false,false,false,false,false,false,false,false,false,false,false,false,false,false,false,false,false,false,false,false,false,false,false,false,false,false,false,false,false,false,false,false,false,false,false,false] rfl rfl (any_of HT_.out (by kernel_rfl)) (fun _ _ _ h => h) (Or.inl ⟨by rfl,?_⟩) ?_ ?_
           rotate_left
           ·intro w'
            go_simp
            with_reducible rfl
           rotate_left
           ·simp only [Act.put,List.setIfInBounds_toArray,List.set_cons_zero,List.set_cons_succ,i64_w,i32_w]
            rfl
           refine pure_ (i := 6) (N := some 94) (v := ?_) (a' := ?_) #[true,true,true,true,true,true,true,false,false,false,false,false,false,false,false,false,false,false,false,false,false,false,false,false,false,false,false,false,false,false,false,false,false,false,false,false,false,false,false,false,false,false,false,false,false,false,false,false,false] rfl rfl (any_of HT_.out (by kernel_rfl)) (fun _ _ _ h => h) (Or.inl ⟨by rfl,?_⟩) ?_ ?_
           rotate_left
           ·intro w'
            go_simp
            with_reducible rfl
           rotate_left
           ·simp only [Act.put,List.setIfInBounds_toArray,List.set_cons_zero,List.set_cons_succ,i64_w,i32_w]
            rfl
           refine pure_ (i := 7) (N := some 95) (v := ?_) (a' := ?_) #[true,true,true,true,true,true,true,true,false,false,false,false,false,false,false,false,false,false,false,false,false,false,false,false,false,false,false,false,false,false,false,false,false,false,false,false,false,false,false,false,false,false,false,false,false,false,false,false,false] rfl rfl (any_of HT_.out (by kernel_rfl)) (fun _ _ _ h => h) (Or.inl ⟨by rfl,?_⟩) ?_ ?_
           rotate_left
           ·intro w'
            go_simp
            with_reducible rfl
           rotate_left
           ·simp only [Act.put,List.setIfInBounds_toArray,List.set_cons_zero,List.set_cons_succ,i64_w,i32_w]
            rfl
           refine pure_ (i := 8) (N := some 96) (v := ?_) (a' := ?_) #[true,true,true,true,true,true,true,true,true,false,false,false,false,false,false,false,false,false,false,false,false,false,false,false,false,false,false,false,false,false,false,false,false,false,false,false,false,false,false,false,false,false,false,false,false,false,false,false,false] rfl rfl (any_of HT_.out (by kernel_rfl)) (fun _ _ _ h => h) (Or.inl ⟨by rfl,?_⟩) ?_ ?_
           rotate_left
           ·intro w'
            go_simp
            with_reducible rfl
           rotate_left
           ·simp only [Act.put,List.setIfInBounds_toArray,List.set_cons_zero,List.set_cons_succ,i64_w,i32_w]
            rfl
           refine pure_ (i := 9) (N := some 97) (v := ?_) (a' := ?_) #[true,true,true,true,true,true,true,true,true,true,false,false,false,false,false,false,false,false,false,false,false,false,false,false,false,false,false,false,false,false,false,false,false,false,false,false,false,false,false,false,false,false,false,false,false,false,false,false,false] rfl rfl (any_of HT_.out (by kernel_rfl)) (fun _ _ _ h => h) (Or.inl ⟨by rfl,?_⟩) ?_ ?_
           rotate_left
           ·intro w'
            go_simp
            with_reducible rfl
           rotate_left
           ·simp only [Act.put,List.setIfInBounds_toArray,List.set_cons_zero,List.set_cons_succ,i64_w,i32_w]
            rfl
           refine pure_ (i := 10) (N := some 98) (v := ?_) (a' := ?_) #[true,true,true,true,true,true,true,true,true,true,true,false,false,false,false,false,false,false,false,false,false,false,false,false,false,false,false,false,false,false,false,false,false,false,false,false,false,false,false,false,false,false,false,false,false,false,false,false,false] rfl rfl (any_of HT_.out (by kernel_rfl)) (fun _ _ _ h => h) (Or.inl ⟨by rfl,?_⟩) ?_ ?_
           rotate_left
           ·intro w'
            go_simp
            with_reducible rfl
           rotate_left
           ·simp only [Act.put,List.setIfInBounds_toArray,List.set_cons_zero,List.set_cons_succ,i64_w,i32_w]
            rfl
           refine pure_ (i := 11) (N := some 99) (v := undef) (a' := ?_) #[true,true,true,true,true,true,true,true,true,true,true,true,false,false,false,false,false,false,false,false,false,false,false,false,false,false,false,false,false,false,false,false,false,false,false,false,false,false,false,false,false,false,false,false,false,false,false,false,false] rfl rfl (any_of HT_.out (by kernel_rfl)) (fun _ _ _ h => h) (Or.inr ⟨by rfl,rfl⟩) ?_ ?_
           rotate_left
           ·simp only [Act.put,List.setIfInBounds_toArray,List.set_cons_zero,List.set_cons_succ,i64_w,i32_w]
            rfl
           refine pure_ (i := 12) (N := some 100) (v := undef) (a' := ?_) #[true,true,true,true,true,true,true,true,true,true,true,true,true,false,false,false,false,false,false,false,false,false,false,false,false,false,false,false,false,false,false,false,false,false,false,false,false,false,false,false,false,false,false,false,false,false,false,false,false] rfl rfl (any_of HT_.out (by kernel_rfl)) (fun _ _ _ h => h) (Or.inr ⟨by rfl,rfl⟩) ?_ ?_
           rotate_left
           ·simp only [Act.put,List.setIfInBounds_toArray,List.set_cons_zero,List.set_cons_succ,i64_w,i32_w]
            rfl
           refine pure_ (i := 13) (N := some 101) (v := undef) (a' := ?_) #[true,true,true,true,true,true,true,true,true,true,true,true,true,true,false,false,false,false,false,false,false,false,false,false,false,false,false,false,false,false,false,false,false,false,false,false,false,false,false,false,false,false,false,false,false,false,false,false,false] rfl rfl (any_of HT_.out (by kernel_rfl)) (fun _ _ _ h => h) (Or.inr ⟨by rfl,rfl⟩) ?_ ?_
           rotate_left
           ·simp only [Act.put,List.setIfInBounds_toArray,List.set_cons_zero,List.set_cons_succ,i64_w,i32_w]
            rfl
           refine pure_ (i := 14) (N := some 102) (v := undef) (a' := ?_) #[true,true,true,true,true,true,true,true,true,true,true,true,true,true,true,false,false,false,false,false,false,false,false,false,false,false,false,false,false,false,false,false,false,false,false,false,false,false,false,false,false,false,false,false,false,false,false,false,false] rfl rfl (any_of HT_.out (by kernel_rfl)) (fun _ _ _ h => h) (Or.inr ⟨by rfl,rfl⟩) ?_ ?_
           rotate_left
           ·simp only [Act.put,List.setIfInBounds_toArray,List.set_cons_zero,List.set_cons_succ,i64_w,i32_w]
            rfl
           refine pure_ (i := 15) (N := some 103) (v := undef) (a' := ?_) #[true,true,true,true,true,true,true,true,true,true,true,true,true,true,true,true,false,false,false,false,false,false,false,false,false,false,false,false,false,false,false,false,false,false,false,false,false,false,false,false,false,false,false,false,false,false,false,false,false] rfl rfl (any_of HT_.out (by kernel_rfl)) (fun _ _ _ h => h) (Or.inr ⟨by rfl,rfl⟩) ?_ ?_
           rotate_left
           ·simp only [Act.put,List.setIfInBounds_toArray,List.set_cons_zero,List.set_cons_succ,i64_w,i32_w]
            rfl
           refine pure_ (i := 16) (N := some 104) (v := undef) (a' := ?_) #[true,true,true,true,true,true,true,true,true,true,true,true,true,true,true,true,true,false,false,false,false,false,false,false,false,false,false,false,false,false,false,false,false,false,false,false,false,false,false,false,false,false,false,false,false,false,false,false,false] rfl rfl (any_of HT_.out (by kernel_rfl)) (fun _ _ _ h => h) (Or.inr ⟨by rfl,rfl⟩) ?_ ?_
           rotate_left
           ·simp only [Act.put,List.setIfInBounds_toArray,List.set_cons_zero,List.set_cons_succ,i64_w,i32_w]
            rfl
           refine pure_ (i := 17) (N := some 105) (v := undef) (a' := ?_) #[true,true,true,true,true,true,true,true,true,true,true,true,true,true,true,true,true,true,false,false,false,false,false,false,false,false,false,false,false,false,false,false,false,false,false,false,false,false,false,false,false,false,false,false,false,false,false,false,false] rfl rfl (any_of HT_.out (by kernel_rfl)) (fun _ _ _ h => h) (Or.inr ⟨by rfl,rfl⟩) ?_ ?_
           rotate_left
           ·simp only [Act.put,List.setIfInBounds_toArray,List.set_cons_zero,List.set_cons_succ,i64_w,i32_w]
            rfl
           refine pure_ (i := 18) (N := some 106) (v := ?_) (a' := ?_) #[true,true,true,true,true,true,true,true,true,true,true,true,true,true,true,true,true,true,true,false,false,false,false,false,false,false,false,false,false,false,false,false,false,false,false,false,false,false,false,false,false,false,false,false,false,false,false,false,false] rfl rfl (any_of HT_.out (by kernel_rfl)) (fun _ _ _ h => h) (Or.inl ⟨by rfl,?_⟩) ?_ ?_
           rotate_left
           ·intro w'
            go_simp
            with_reducible rfl
           rotate_left
           ·simp only [Act.put,List.setIfInBounds_toArray,List.set_cons_zero,List.set_cons_succ,i64_w,i32_w]
            rfl
           refine pure_ (i := 19) (N := some 107) (v := ?_) (a' := ?_) #[true,true,true,true,true,true,true,true,true,true,true,true,true,true,true,true,true,true,true,true,false,false,false,false,false,false,false,false,false,false,false,false,false,false,false,false,false,false,false,false,false,false,false,false,false,false,false,false,false] rfl rfl (any_of HT_.out (by kernel_rfl)) (fun _ _ _ h => h) (Or.inl ⟨by rfl,?_⟩) ?_ ?_
           rotate_left
           ·intro w'
            go_simp
            with_reducible rfl
           rotate_left
           ·simp only [Act.put,List.setIfInBounds_toArray,List.set_cons_zero,List.set_cons_succ,i64_w,i32_w]
            rfl
           refine pure_ (i := 20) (N := some 108) (v := undef) (a' := ?_) #[true,true,true,true,true,true,true,true,true,true,true,true,true,true,true,true,true,true,true,true,true,false,false,false,false,false,false,false,false,false,false,false,false,false,false,false,false,false,false,false,false,false,false,false,false,false,false,false,false] rfl rfl (any_of HT_.out (by kernel_rfl)) (fun _ _ _ h => h) (Or.inr ⟨by rfl,rfl⟩) ?_ ?_
           rotate_left
           ·simp only [Act.put,List.setIfInBounds_toArray,List.set_cons_zero,List.set_cons_succ,i64_w,i32_w]
            rfl
           refine pure_ (i := 21) (N := some 109) (v := undef) (a' := ?_) #[true,true,true,true,true,true,true,true,true,true,true,true,true,true,true,true,true,true,true,true,true,true,false,false,false,false,false,false,false,false,false,false,false,false,false,false,false,false,false,false,false,false,false,false,false,false,false,false,false] rfl rfl (any_of HT_.out (by kernel_rfl)) (fun _ _ _ h => h) (Or.inr ⟨by rfl,rfl⟩) ?_ ?_
           rotate_left
           ·simp only [Act.put,List.setIfInBounds_toArray,List.set_cons_zero,List.set_cons_succ,i64_w,i32_w]
            rfl
           refine pure_ (i := 22) (N := some 110) (v := undef) (a' := ?_) #[true,true,true,true,true,true,true,true,true,true,true,true,true,true,true,true,true,true,true,true,true,true,true,false,false,false,false,false,false,false,false,false,false,false,false,false,false,false,false,false,false,false,false,false,false,false,false,false,false] rfl rfl (any_of HT_.out (by kernel_rfl)) (fun _ _ _ h => h) (Or.inr ⟨by rfl,rfl⟩) ?_ ?_
           rotate_left
           ·simp only [Act.put,List.setIfInBounds_toArray,List.set_cons_zero,List.set_cons_succ,i64_w,i32_w]
            rfl
           refine pure_ (i := 23) (N := some 111) (v := undef) (a' := ?_) #[true,true,true,true,true,true,true,true,true,true,true,true,true,true,true,true,true,true,true,true,true,true,true,true,false,false,false,false,false,false,false,false,false,false,false,false,false,false,false,false,false,false,false,false,false,false,false,false,false] rfl rfl (any_of HT_.out (by kernel_rfl)) (fun _ _ _ h => h) (Or.inr ⟨by rfl,rfl⟩) ?_ ?_
           rotate_left
           ·simp only [Act.put,List.setIfInBounds_toArray,List.set_cons_zero,List.set_cons_succ,i64_w,i32_w]
            rfl
           refine pure_ (i := 24) (N := some 112) (v := undef) (a' := ?_) #[true,true,true,true,true,true,true,true,true,true,true,true,true,true,true,true,true,true,true,true,true,true,true,true,true,false,false,false,false,false,false,false,false,false,false,false,false,false,false,false,false,false,false,false,false,false,false,false,false] rfl rfl (any_of HT_.out (by kernel_rfl)) (fun _ _ _ h => h) (Or.inr ⟨by rfl,rfl⟩) ?_ ?_
           rotate_left
           ·simp only [Act.put,List.setIfInBounds_toArray,List.set_cons_zero,List.set_cons_succ,i64_w,i32_w]
            rfl
           refine pure_ (i := 25) (N := some 113) (v := undef) (a' := ?_) #[true,true,true,true,true,true,true,true,true,true,true,true,true,true,true,true,true,true,true,true,true,true,true,true,true,true,false,false,false,false,false,false,false,false,false,false,false,false,false,false,false,false,false,false,false,false,false,false,false] rfl rfl (any_of HT_.out (by kernel_rfl)) (fun _ _ _ h => h) (Or.inr ⟨by rfl,rfl⟩) ?_ ?_
           rotate_left
           ·simp only [Act.put,List.setIfInBounds_toArray,List.set_cons_zero,List.set_cons_succ,i64_w,i32_w]
            rfl
           refine pure_ (i := 26) (N := some 114) (v := undef) (a' := ?_) #[true,true,true,true,true,true,true,true,true,true,true,true,true,true,true,true,true,true,true,true,true,true,true,true,true,true,true,false,false,false,false,false,false,false,false,false,false,false,false,false,false,false,false,false,false,false,false,false,false] rfl rfl (any_of HT_.out (by kernel_rfl)) (fun _ _ _ h => h) (Or.inr ⟨by rfl,rfl⟩) ?_ ?_
           rotate_left
           ·simp only [Act.put,List.setIfInBounds_toArray,List.set_cons_zero,List.set_cons_succ,i64_w,i32_w]
            rfl
           refine pure_ (i := 27) (N := some 115) (v := undef) (a' := ?_) #[true,true,true,true,true,true,true,true,true,true,true,true,true,true,true,true,true,true,true,true,true,true,true,true,true,true,true,true,false,false,false,false,false,false,false,false,false,false,false,false,false,false,false,false,false,false,false,false,false] rfl rfl (any_of HT_.out (by kernel_rfl)) (fun _ _ _ h => h) (Or.inr ⟨by rfl,rfl⟩) ?_ ?_
           rotate_left
           ·simp only [Act.put,List.setIfInBounds_toArray,List.set_cons_zero,List.set_cons_succ,i64_w,i32_w]
            rfl
           refine pure_ (i := 28) (N := some 116) (v := ?_) (a' := ?_) #[true,true,true,true,true,true,true,true,true,true,true,true,true,true,true,true,true,true,true,true,true,true,true,true,true,true,true,true,true,false,false,false,false,false,false,false,false,false,false,false,false,false,false,false,false,false,false,false,false] rfl rfl (any_of HT_.out (by kernel_rfl)) (fun _ _ _ h => h) (Or.inl ⟨by rfl,?_⟩) ?_ ?_
           rotate_left
           ·intro w'
            go_simp
            with_reducible rfl
           rotate_left
           ·simp only [Act.put,List.setIfInBounds_toArray,List.set_cons_zero,List.set_cons_succ,i64_w,i32_w]
            rfl
           refine pure_ (i := 29) (N := some 117) (v := ?_) (a' := ?_) #[true,true,true,true,true,true,true,true,true,true,true,true,true,true,true,true,true,true,true,true,true,true,true,true,true,true,true,true,true,true,false,false,false,false,false,false,false,false,false,false,false,false,false,false,false,false,false,false,false] rfl rfl (any_of HT_.out (by kernel_rfl)) (fun _ _ _ h => h) (Or.inl ⟨by rfl,?_⟩) ?_ ?_
           rotate_left
           ·intro w'
            go_simp
            with_reducible rfl
           rotate_left
           ·simp only [Act.put,List.setIfInBounds_toArray,List.set_cons_zero,List.set_cons_succ,i64_w,i32_w]
            rfl
           refine pure_ (i := 30) (N := some 118) (v := undef) (a' := ?_) #[true,true,true,true,true,true,true,true,true,true,true,true,true,true,true,true,true,true,true,true,true,true,true,true,true,true,true,true,true,true,true,false,false,false,false,false,false,false,false,false,false,false,false,false,false,false,false,false,false] rfl rfl (any_of HT_.out (by kernel_rfl)) (fun _ _ _ h => h) (Or.inr ⟨by rfl,rfl⟩) ?_ ?_
           rotate_left
           ·simp only [Act.put,List.setIfInBounds_toArray,List.set_cons_zero,List.set_cons_succ,i64_w,i32_w]
            rfl
           refine pure_ (i := 31) (N := some 119) (v := undef) (a' := ?_) #[true,true,true,true,true,true,true,true,true,true,true,true,true,true,true,true,true,true,true,true,true,true,true,true,true,true,true,true,true,true,true,true,false,false,false,false,false,false,false,false,false,false,false,false,false,false,false,false,false] rfl rfl (any_of HT_.out (by kernel_rfl)) (fun _ _ _ h => h) (Or.inr ⟨by rfl,rfl⟩) ?_ ?_
           rotate_left
           ·simp only [Act.put,List.setIfInBounds_toArray,List.set_cons_zero,List.set_cons_succ,i64_w,i32_w]
            rfl
           refine pure_ (i := 32) (N := some 120) (v := undef) (a' := ?_) #[true,true,true,true,true,true,true,true,true,true,true,true,true,true,true,true,true,true,true,true,true,true,true,true,true,true,true,true,true,true,true,true,true,false,false,false,false,false,false,false,false,false,false,false,false,false,false,false,false] rfl rfl (any_of HT_.out (by kernel_rfl)) (fun _ _ _ h => h) (Or.inr ⟨by rfl,rfl⟩) ?_ ?_
           rotate_left
           ·simp only [Act.put,List.setIfInBounds_toArray,List.set_cons_zero,List.set_cons_succ,i64_w,i32_w]
            rfl
           refine pure_ (i := 33) (N := some 121) (v := undef) (a' := ?_) #[true,true,true,true,true,true,true,true,true,true,true,true,true,true,true,true,true,true,true,true,true,true,true,true,true,true,true,true,true,true,true,true,true,true,false,false,false,false,false,false,false,false,false,false,false,false,false,false,false] rfl rfl (any_of HT_.out (by kernel_rfl)) (fun _ _ _ h => h) (Or.inr ⟨by rfl,rfl⟩) ?_ ?_
           rotate_left
           ·simp only [Act.put,List.setIfInBounds_toArray,List.set_cons_zero,List.set_cons_succ,i64_w,i32_w]
            rfl
           refine pure_ (i := 34) (N := some 122) (v := undef) (a' := ?_) #[true,true,true,true,true,true,true,true,true,true,true,true,true,true,true,true,true,true,true,true,true,true,true,true,true,true,true,true,true,true,true,true,true,true,true,false,false,false,false,false,false,false,false,false,false,false,false,false,false] rfl rfl (any_of HT_.out (by kernel_rfl)) (fun _ _ _ h => h) (Or.inr ⟨by rfl,rfl⟩) ?_ ?_
           rotate_left
           ·simp only [Act.put,List.setIfInBounds_toArray,List.set_cons_zero,List.set_cons_succ,i64_w,i32_w]
            rfl
           refine pure_ (i := 35) (N := some 123) (v := undef) (a' := ?_) #[true,true,true,true,true,true,true,true,true,true,true,true,true,true,true,true,true,true,true,true,true,true,true,true,true,true,true,true,true,true,true,true,true,true,true,true,false,false,false,false,false,false,false,false,false,false,false,false,false] rfl rfl (any_of HT_.out (by kernel_rfl)) (fun _ _ _ h => h) (Or.inr ⟨by rfl,rfl⟩) ?_ ?_
           rotate_left
           ·simp only [Act.put,List.setIfInBounds_toArray,List.set_cons_zero,List.set_cons_succ,i64_w,i32_w]
            rfl
           refine pure_ (i := 36) (N := some 124) (v := undef) (a' := ?_) #[true,true,true,true,true,true,true,true,true,true,true,true,true,true,true,true,true,true,true,true,true,true,true,true,true,true,true,true,true,true,true,true,true,true,true,true,true,false,false,false,false,false,false,false,false,false,false,false,false] rfl rfl (any_of HT_.out (by kernel_rfl)) (fun _ _ _ h => h) (Or.inr ⟨by rfl,rfl⟩) ?_ ?_
           rotate_left
           ·simp only [Act.put,List.setIfInBounds_toArray,List.set_cons_zero,List.set_cons_succ,i64_w,i32_w]
            rfl
           refine pure_ (i := 37) (N := some 125) (v := undef) (a' := ?_) #[true,true,true,true,true,true,true,true,true,true,true,true,true,true,true,true,true,true,true,true,true,true,true,true,true,true,true,true,true,true,true,true,true,true,true,true,true,true,false,false,false,false,false,false,false,false,false,false,false] rfl rfl (any_of HT_.out (by kernel_rfl)) (fun _ _ _ h => h) (Or.inr ⟨by rfl,rfl⟩) ?_ ?_
           rotate_left
           ·simp only [Act.put,List.setIfInBounds_toArray,List.set_cons_zero,List.set_cons_succ,i64_w,i32_w]
            rfl
           refine pure_ (i := 38) (N := some 126) (v := undef) (a' := ?_) #[true,true,true,true,true,true,true,true,true,true,true,true,true,true,true,true,true,true,true,true,true,true,true,true,true,true,true,true,true,true,true,true,true,true,true,true,true,true,true,false,false,false,false,false,false,false,false,false,false] rfl rfl (any_of HT_.out (by kernel_rfl)) (fun _ _ _ h => h) (Or.inr ⟨by rfl,rfl⟩) ?_ ?_
           rotate_left
           ·simp only [Act.put,List.setIfInBounds_toArray,List.set_cons_zero,List.set_cons_succ,i64_w,i32_w]
            rfl
           refine pure_ (i := 39) (N := some 127) (v := ?_) (a' := ?_) #[true,true,true,true,true,true,true,true,true,true,true,true,true,true,true,true,true,true,true,true,true,true,true,true,true,true,true,true,true,true,true,true,true,true,true,true,true,true,true,true,false,false,false,false,false,false,false,false,false] rfl rfl (any_of HT_.out (by kernel_rfl)) (fun _ _ _ h => h) (Or.inl ⟨by rfl,?_⟩) ?_ ?_
           rotate_left
           ·intro w'
            go_simp
            with_reducible rfl
           rotate_left
           ·simp only [Act.put,List.setIfInBounds_toArray,List.set_cons_zero,List.set_cons_succ,i64_w,i32_w]
            rfl
           refine pure_ (i := 40) (N := some 128) (v := ?_) (a' := ?_) #[true,true,true,true,true,true,true,true,true,true,true,true,true,true,true,true,true,true,true,true,true,true,true,true,true,true,true,true,true,true,true,true,true,true,true,true,true,true,true,true,true,false,false,false,false,false,false,false,false] rfl rfl (any_of HT_.out (by kernel_rfl)) (fun _ _ _ h => h) (Or.inl ⟨by rfl,?_⟩) ?_ ?_
           rotate_left
           ·intro w'
            go_simp
            with_reducible rfl
           rotate_left
           ·simp only [Act.put,List.setIfInBounds_toArray,List.set_cons_zero,List.set_cons_succ,i64_w,i32_w]
            rfl
           refine pure_ (i := 41) (N := some 129) (v := undef) (a' := ?_) #[true,true,true,true,true,true,true,true,true,true,true,true,true,true,true,true,true,true,true,true,true,true,true,true,true,true,true,true,true,true,true,true,true,true,true,true,true,true,true,true,true,true,false,false,false,false,false,false,false] rfl rfl (any_of HT_.out (by kernel_rfl)) (fun _ _ _ h => h) (Or.inr ⟨by rfl,rfl⟩) ?_ ?_
           rotate_left
           ·simp only [Act.put,List.setIfInBounds_toArray,List.set_cons_zero,List.set_cons_succ,i64_w,i32_w]
            rfl
           refine pure_ (i := 42) (N := some 130) (v := undef) (a' := ?_) #[true,true,true,true,true,true,true,true,true,true,true,true,true,true,true,true,true,true,true,true,true,true,true,true,true,true,true,true,true,true,true,true,true,true,true,true,true,true,true,true,true,true,true,false,false,false,false,false,false] rfl rfl (any_of HT_.out (by kernel_rfl)) (fun _ _ _ h => h) (Or.inr ⟨by rfl,rfl⟩) ?_ ?_
           rotate_left
           ·simp only [Act.put,List.setIfInBounds_toArray,List.set_cons_zero,List.set_cons_succ,i64_w,i32_w]
            rfl
           refine pure_ (i := 43) (N := some 131) (v := undef) (a' := ?_) #[true,true,true,true,true,true,true,true,true,true,true,true,true,true,true,true,true,true,true,true,true,true,true,true,true,true,true,true,true,true,true,true,true,true,true,true,true,true,true,true,true,true,true,true,false,false,false,false,false] rfl rfl (any_of HT_.out (by kernel_rfl)) (fun _ _ _ h => h) (Or.inr ⟨by rfl,rfl⟩) ?_ ?_
           rotate_left
           ·simp only [Act.put,List.setIfInBounds_toArray,List.set_cons_zero,List.set_cons_succ,i64_w,i32_w]
            rfl
           refine pure_ (i := 44) (N := some 132) (v := undef) (a' := ?_) #[true,true,true,true,true,true,true,true,true,true,true,true,true,true,true,true,true,true,true,true,true,true,true,true,true,true,true,true,true,true,true,true,true,true,true,true,true,true,true,true,true,true,true,true,true,false,false,false,false] rfl rfl (any_of HT_.out (by kernel_rfl)) (fun _ _ _ h => h) (Or.inr ⟨by rfl,rfl⟩) ?_ ?_
           rotate_left
           ·simp only [Act.put,List.setIfInBounds_toArray,List.set_cons_zero,List.set_cons_succ,i64_w,i32_w]
            rfl
           refine pure_ (i := 45) (N := some 133) (v := undef) (a' := ?_) #[true,true,true,true,true,true,true,true,true,true,true,true,true,true,true,true,true,true,true,true,true,true,true,true,true,true,true,true,true,true,true,true,true,true,true,true,true,true,true,true,true,true,true,true,true,true,false,false,false] rfl rfl (any_of HT_.out (by kernel_rfl)) (fun _ _ _ h => h) (Or.inr ⟨by rfl,rfl⟩) ?_ ?_
           rotate_left
           ·simp only [Act.put,List.setIfInBounds_toArray,List.set_cons_zero,List.set_cons_succ,i64_w,i32_w]
            rfl
           refine pure_ (i := 46) (N := some 134) (v := undef) (a' := ?_) #[true,true,true,true,true,true,true,true,true,true,true,true,true,true,true,true,true,true,true,true,true,true,true,true,true,true,true,true,true,true,true,true,true,true,true,true,true,true,true,true,true,true,true,true,true,true,true,false,false] rfl rfl (any_of HT_.out (by kernel_rfl)) (fun _ _ _ h => h) (Or.inr ⟨by rfl,rfl⟩) ?_ ?_
           rotate_left
           ·simp only [Act.put,List.setIfInBounds_toArray,List.set_cons_zero,List.set_cons_succ,i64_w,i32_w]
            rfl
           refine pure_ (i := 47) (N := some 135) (v := ?_) (a' := ?_) #[true,true,true,true,true,true,true,true,true,true,true,true,true,true,true,true,true,true,true,true,true,true,true,true,true,true,true,true,true,true,true,true,true,true,true,true,true,true,true,true,true,true,true,true,true,true,true,true,false] rfl rfl (any_of HT_.out (by kernel_rfl)) (fun _ _ _ h => h) (Or.inl ⟨by rfl,?_⟩) ?_ ?_
           rotate_left
           ·intro w'
            go_simp
            with_reducible rfl
           rotate_left
           ·simp only [Act.put,List.setIfInBounds_toArray,List.set_cons_zero,List.set_cons_succ,i64_w,i32_w]
            rfl
           refine pure_ (i := 48) (N := some 4) (v := ?_) (a' := ?_) #[true,true,true,true,true,true,true,true,true,true,true,true,true,true,true,true,true,true,true,true,true,true,true,true,true,true,true,true,true,true,true,true,true,true,true,true,true,true,true,true,true,true,true,true,true,true,true,true,true] rfl rfl (any_of HT_.out (by kernel_rfl)) (fun _ _ _ h => h) (Or.inl ⟨by rfl,?_⟩) ?_ ?_
           rotate_left
           ·intro w'
            go_simp
            with_reducible rfl
           rotate_left
           ·simp only [Act.put,List.setIfInBounds_toArray,List.set_cons_zero,List.set_cons_succ,i64_w,i32_w]
            rfl
           refine done_ (done_of HT_.out (by kernel_rfl)) ?_
           try go_wp2
           go_ret
           exact ⟨by first | rfl | (simp [errW_none,errW_some] <;> rfl) | (simp [*,errW_none,errW_some] <;> rfl),by repeat (first | (with_reducible first | exact HB.out | apply below_alloc | apply pw_below_drewN | apply below_drew1) | exact HB.out)⟩
  ·rw [if_neg c5] at H
   exact absurd H (by simp)
 ·replace c4 := Bool.eq_false_iff.mpr c4
  subst c4
  have H1 : (some false) = some r := by rw [if_neg (show ¬ (false = true) by decide)] at H;exact H
  clear H
  have H := H1
  clear H1
  obtain rfl := Option.some.inj H
  go_enter Tryd.func5,Tryd.ntmps5
  go_wp2_with (first | ((with_reducible refine gate_callee (f := 21) rfl ?_);refine goesL_ (some 14) rfl rfl Tryd.func21 (by kernel_rfl) rfl #[] rfl (by (try simp only [List.map_toArray,List.map_cons,List.map_nil]);first | done | rfl | (simp only [List.length_drop,List.length_take];rfl)) ?_;(with_reducible refine (bodkinlaw01_cuts.calls  false _ ?side1 A3.out).mono ?_);(case side1 => exact tabs_below HT.out (by repeat (first | (with_reducible first | exact HB.out | apply below_alloc | apply pw_below_drewN | apply below_drew1) | exact HB.out)));rintro e w99 ⟨rfl,hb⟩;refine ⟨_,rfl,?_⟩;have n0_ := Aside0.mk (below_step (by repeat (first | (with_reducible first | exact HB.out | apply below_alloc | apply pw_below_drewN | apply below_drew1) | exact HB.out)) hb);clear HB;have HB := n0_;clear n0_;(try clear hb);(try clear hb2);(try clear hk);(try clear hi)))
  go_ret
  exact ⟨by first | rfl | (simp [errW_none,errW_some] <;> rfl) | (simp [*,errW_none,errW_some] <;> rfl),by repeat (first | (with_reducible first | exact HB.out | apply below_alloc | apply pw_below_drewN | apply below_drew1) | exact HB.out)⟩

/-- THE ONE PURE STATEMENT of bodkinlaw01_UnitSeams: yours. -/
def bodkinlaw01_UnitSeams.Pure : Prop := ∀ (a0 : ByteArray) (a1 : ByteArray),a0.size ≤ 140737488351232 → a1.size ≤ 140737488351232 → ∃ k,bodkinlaw01_UnitSeams.f k a0 a1 = some true
theorem bodkinlaw01_UnitSeams.walk (P : bodkinlaw01_UnitSeams.Pure) (a0 : ByteArray) (a1 : ByteArray) (w : World) (w0 : a0.size ≤ 140737488351232) (w1 : a1.size ≤ 140737488351232) (hT : Lib.Utf8Tabs 0 1 w) :
  Calls Tryd.prog 5 #[.string a0,.string a1] w fun e w' => e = .returned (.bool true) ∧ Below w.heap.size w w' := by
 obtain ⟨k,h⟩ := P a0 a1 w0 w1
 refine (bodkinlaw01_UnitSeams.calls k a0 a1 true w hT h).mono ?_
 rintro e w' ⟨rfl,hd⟩
 exact ⟨rfl,hd⟩

end Go.Proofs.YtfhnfhgpaoddbaaDoor.U
