/- What the law ChangeCounts reaches of this seat's own texts, merged; what nothing uses is left out. -/
import Derived.Test.YtfmnmjoofnbnfaaDoorZChangeCounts0
import Derived.Test.YtfmnmjoofnbnfaaDoorZChangeCounts1
import Derived.Test.YtfmnmjoofnbnfaaDoorZChangeCounts9
import Derived.Test.YtfmnmjoofnbnfaaDoorZChangeCounts10
import Derived.Test.YtfmnmjoofnbnfaaDoorZChangeCounts11
section
namespace Go.Proofs.YtfmnmjoofnbnfaaDoor.U
open Go.RowKit Go.Proofs.YtfmnmjoofnbnfaaDoorW.PrintWords Go.Proofs.YtfmnmjoofnbnfaaDoorW.PrintLast Go.Proofs.YtfmnmjoofnbnfaaDoorW.PrintMore
attribute [local go_sem] max2_int min2_int max_two min_two max_three min_three max_four min_four   -- for this text's walks alone
set_option linter.unusedVariables false
set_option linter.unusedSimpArgs false
attribute [local go_sem high] eqA28 eqA30
mutual
noncomputable def bodkinlaw17_ChangeCounts.j0 : Nat → ByteArray → Int → Int → Int → Bool → Int → Int → ByteArray → Int → ByteArray → Bool → Option (Bool)
 | 0,_,_,_,_,_,_,_,_,_,_,_ => none
 | k + 1,x0,x6,x7,x9,x80,x189000,x189001,x189002,x189003,x189004,x189005 => if x80 = true then (some false) else (if x9 = 0 then (bodkinlaw17_ChangeCounts.l0 k x0 x6 x7 0 x189000 0 x189000 x189001 x189002 x189003 x189004 x189005) else (some (x9 == 8)))
noncomputable def bodkinlaw17_ChangeCounts.l0 : Nat → ByteArray → Int → Int → Int → Int → Int → Int → Int → ByteArray → Int → ByteArray → Bool → Option (Bool)
 | 0,_,_,_,_,_,_,_,_,_,_,_,_ => none
 | k + 1,x0,x6,x7,x14,x15,x16,x189000,x189001,x189002,x189003,x189004,x189005 => if x16 < x7 then ((change_Of.f x6 1 (⟨#[]⟩ : ByteArray) 0 x0 (wrap64 (x15 + x14)) (-1)).bind fun bt205 => (if bt205.2.2.2.2.2.2 = 0 then (if bt205.1 = (wrap64 (x15 + x14)) then (bodkinlaw17_ChangeCounts.l0 k x0 x6 x7 (wrap64 (x14 + bt205.2.1)) x15 (wrap64 (x16 + 1)) x189000 x189001 x189002 x189003 x189004 x189005) else (some false)) else (if (x189000 == x15 && (x189001 == x14 && (x189002.toList == ([] : List UInt8)))) = true then (some (x189003 == x15)) else (some false)))) else (if (x189000 == x15 && (x189001 == x14 && (x189002.toList == ([] : List UInt8)))) = true then (some (x189003 == x15)) else (some false))
end
noncomputable def bodkinlaw17_ChangeCounts.f (k : Nat) (a0 : ByteArray) (a1_0 : Int) (a1_1 : Int) (a1_2 : Int) (a1_3 : Int) : Option (Bool) := (bodkinlaw17_awake.f k).bind fun t176 => (if t176 = true then ((some (([14,16,18] : List Int) : List Int)).bind fun y177 => (if 0 ≤ (Int.tmod (wrap64 ((Int.tmod a1_0 3) + 3)) 3) then (if (Int.tmod (wrap64 ((Int.tmod a1_0 3) + 3)) 3) < (y177.length : Int) then ((change_Of.f (rd y177 (Int.tmod (wrap64 ((Int.tmod a1_0 3) + 3)) 3)) (wrap64 (1 + (Int.tmod (wrap64 ((Int.tmod a1_1 5) + 5)) 5))) (⟨#[]⟩ : ByteArray) 0 a0 a1_2 (-1)).bind fun bt181 => ((change_Of.f (rd y177 (Int.tmod (wrap64 ((Int.tmod a1_0 3) + 3)) 3)) 1 (⟨#[]⟩ : ByteArray) 0 a0 a1_2 (-1)).bind fun bt189 => ((change_Of.f (rd y177 (Int.tmod (wrap64 ((Int.tmod a1_0 3) + 3)) 3)) (wrap64 (-(Go.bits .and .i64 a1_1 7))) (⟨#[]⟩ : ByteArray) 0 a0 a1_2 (-1)).bind fun bt197 => (if bt181.2.2.2.2.2.2 = bt189.2.2.2.2.2.2 then (if bt189.2.2.2.2.2.2 = bt197.2.2.2.2.2.2 then (bodkinlaw17_ChangeCounts.j0 k a0 (rd y177 (Int.tmod (wrap64 ((Int.tmod a1_0 3) + 3)) 3)) (wrap64 (1 + (Int.tmod (wrap64 ((Int.tmod a1_1 5) + 5)) 5))) bt181.2.2.2.2.2.2 ((!(bt189.1 == bt197.1) || (!(bt189.2.1 == bt197.2.1) || (!(bt189.2.2.1.toList == bt197.2.2.1.toList)))) || (!(bt189.2.2.2.1 == bt197.2.2.2.1) || (!(bt189.2.2.2.2.1.toList == bt197.2.2.2.2.1.toList) || (!(bt189.2.2.2.2.2.1 == bt197.2.2.2.2.2.1))))) bt181.1 bt181.2.1 bt181.2.2.1 bt181.2.2.2.1 bt181.2.2.2.2.1 bt181.2.2.2.2.2.1) else (bodkinlaw17_ChangeCounts.j0 k a0 (rd y177 (Int.tmod (wrap64 ((Int.tmod a1_0 3) + 3)) 3)) (wrap64 (1 + (Int.tmod (wrap64 ((Int.tmod a1_1 5) + 5)) 5))) bt181.2.2.2.2.2.2 true bt181.1 bt181.2.1 bt181.2.2.1 bt181.2.2.2.1 bt181.2.2.2.2.1 bt181.2.2.2.2.2.1)) else (bodkinlaw17_ChangeCounts.j0 k a0 (rd y177 (Int.tmod (wrap64 ((Int.tmod a1_0 3) + 3)) 3)) (wrap64 (1 + (Int.tmod (wrap64 ((Int.tmod a1_1 5) + 5)) 5))) bt181.2.2.2.2.2.2 true bt181.1 bt181.2.1 bt181.2.2.1 bt181.2.2.2.1 bt181.2.2.2.2.1 bt181.2.2.2.2.2.1))))) else (none)) else (none))) else (some false))
set_option maxHeartbeats 8000000 in
set_option maxRecDepth 100000 in
theorem bodkinlaw17_ChangeCounts.calls (k : Nat) (a0 : ByteArray) (a1_0 : Int) (a1_1 : Int) (a1_2 : Int) (a1_3 : Int) (r : Bool) (hr_ : r = true) (w : World) (hT : Lib.Utf8Tabs 1 2 w) (h : bodkinlaw17_ChangeCounts.f k a0 a1_0 a1_1 a1_2 a1_3 = some r) :
  Calls Tryd.prog 3 #[.string a0,.agg #[.int .i64 a1_0,.int .i64 a1_1,.int .i64 a1_2,.int .i64 a1_3]] w fun e w' => e = .returned (.bool r) ∧ Below w.heap.size w w' := by
 have hu23 := Tryd.underlying23
 have hu35 := Tryd.underlying35
 have hu30 := Tryd.underlying30
 have hu28 := Tryd.underlying28
 have HT := Aside0.mk hT
 clear hT
 have HB := Aside0.mk (Below.refl w.heap.size w)
 have H : ((bodkinlaw17_awake.f k).bind fun t176 => (if t176 = true then ((some (([14,16,18] : List Int) : List Int)).bind fun y177 => (if 0 ≤ (Int.tmod (wrap64 ((Int.tmod a1_0 3) + 3)) 3) then (if (Int.tmod (wrap64 ((Int.tmod a1_0 3) + 3)) 3) < (y177.length : Int) then ((change_Of.f (rd y177 (Int.tmod (wrap64 ((Int.tmod a1_0 3) + 3)) 3)) (wrap64 (1 + (Int.tmod (wrap64 ((Int.tmod a1_1 5) + 5)) 5))) (⟨#[]⟩ : ByteArray) 0 a0 a1_2 (-1)).bind fun bt181 => ((change_Of.f (rd y177 (Int.tmod (wrap64 ((Int.tmod a1_0 3) + 3)) 3)) 1 (⟨#[]⟩ : ByteArray) 0 a0 a1_2 (-1)).bind fun bt189 => ((change_Of.f (rd y177 (Int.tmod (wrap64 ((Int.tmod a1_0 3) + 3)) 3)) (wrap64 (-(Go.bits .and .i64 a1_1 7))) (⟨#[]⟩ : ByteArray) 0 a0 a1_2 (-1)).bind fun bt197 => (if bt181.2.2.2.2.2.2 = bt189.2.2.2.2.2.2 then (if bt189.2.2.2.2.2.2 = bt197.2.2.2.2.2.2 then (bodkinlaw17_ChangeCounts.j0 k a0 (rd y177 (Int.tmod (wrap64 ((Int.tmod a1_0 3) + 3)) 3)) (wrap64 (1 + (Int.tmod (wrap64 ((Int.tmod a1_1 5) + 5)) 5))) bt181.2.2.2.2.2.2 ((!(bt189.1 == bt197.1) || (!(bt189.2.1 == bt197.2.1) || (!(bt189.2.2.1.toList == bt197.2.2.1.toList)))) || (!(bt189.2.2.2.1 == bt197.2.2.2.1) || (!(bt189.2.2.2.2.1.toList == bt197.2.2.2.2.1.toList) || (!(bt189.2.2.2.2.2.1 == bt197.2.2.2.2.2.1))))) bt181.1 bt181.2.1 bt181.2.2.1 bt181.2.2.2.1 bt181.2.2.2.2.1 bt181.2.2.2.2.2.1) else (bodkinlaw17_ChangeCounts.j0 k a0 (rd y177 (Int.tmod (wrap64 ((Int.tmod a1_0 3) + 3)) 3)) (wrap64 (1 + (Int.tmod (wrap64 ((Int.tmod a1_1 5) + 5)) 5))) bt181.2.2.2.2.2.2 true bt181.1 bt181.2.1 bt181.2.2.1 bt181.2.2.2.1 bt181.2.2.2.2.1 bt181.2.2.2.2.2.1)) else (bodkinlaw17_ChangeCounts.j0 k a0 (rd y177 (Int.tmod (wrap64 ((Int.tmod a1_0 3) + 3)) 3)) (wrap64 (1 + (Int.tmod (wrap64 ((Int.tmod a1_1 5) + 5)) 5))) bt181.2.2.2.2.2.2 true bt181.1 bt181.2.1 bt181.2.2.1 bt181.2.2.2.1 bt181.2.2.2.2.1 bt181.2.2.2.2.2.1))))) else (none)) else (none))) else (some false))) = some r := h
 clear h
 replace H := Option.bind_eq_some_iff.mp H
 obtain ⟨t176,A30,H⟩ := H
 replace H : (if t176 = true then ((some (([14,16,18] : List Int) : List Int)).bind fun y177 => (if 0 ≤ (Int.tmod (wrap64 ((Int.tmod a1_0 3) + 3)) 3) then (if (Int.tmod (wrap64 ((Int.tmod a1_0 3) + 3)) 3) < (y177.length : Int) then ((change_Of.f (rd y177 (Int.tmod (wrap64 ((Int.tmod a1_0 3) + 3)) 3)) (wrap64 (1 + (Int.tmod (wrap64 ((Int.tmod a1_1 5) + 5)) 5))) (⟨#[]⟩ : ByteArray) 0 a0 a1_2 (-1)).bind fun bt181 => ((change_Of.f (rd y177 (Int.tmod (wrap64 ((Int.tmod a1_0 3) + 3)) 3)) 1 (⟨#[]⟩ : ByteArray) 0 a0 a1_2 (-1)).bind fun bt189 => ((change_Of.f (rd y177 (Int.tmod (wrap64 ((Int.tmod a1_0 3) + 3)) 3)) (wrap64 (-(Go.bits .and .i64 a1_1 7))) (⟨#[]⟩ : ByteArray) 0 a0 a1_2 (-1)).bind fun bt197 => (if bt181.2.2.2.2.2.2 = bt189.2.2.2.2.2.2 then (if bt189.2.2.2.2.2.2 = bt197.2.2.2.2.2.2 then (bodkinlaw17_ChangeCounts.j0 k a0 (rd y177 (Int.tmod (wrap64 ((Int.tmod a1_0 3) + 3)) 3)) (wrap64 (1 + (Int.tmod (wrap64 ((Int.tmod a1_1 5) + 5)) 5))) bt181.2.2.2.2.2.2 ((!(bt189.1 == bt197.1) || (!(bt189.2.1 == bt197.2.1) || (!(bt189.2.2.1.toList == bt197.2.2.1.toList)))) || (!(bt189.2.2.2.1 == bt197.2.2.2.1) || (!(bt189.2.2.2.2.1.toList == bt197.2.2.2.2.1.toList) || (!(bt189.2.2.2.2.2.1 == bt197.2.2.2.2.2.1))))) bt181.1 bt181.2.1 bt181.2.2.1 bt181.2.2.2.1 bt181.2.2.2.2.1 bt181.2.2.2.2.2.1) else (bodkinlaw17_ChangeCounts.j0 k a0 (rd y177 (Int.tmod (wrap64 ((Int.tmod a1_0 3) + 3)) 3)) (wrap64 (1 + (Int.tmod (wrap64 ((Int.tmod a1_1 5) + 5)) 5))) bt181.2.2.2.2.2.2 true bt181.1 bt181.2.1 bt181.2.2.1 bt181.2.2.2.1 bt181.2.2.2.2.1 bt181.2.2.2.2.2.1)) else (bodkinlaw17_ChangeCounts.j0 k a0 (rd y177 (Int.tmod (wrap64 ((Int.tmod a1_0 3) + 3)) 3)) (wrap64 (1 + (Int.tmod (wrap64 ((Int.tmod a1_1 5) + 5)) 5))) bt181.2.2.2.2.2.2 true bt181.1 bt181.2.1 bt181.2.2.1 bt181.2.2.2.1 bt181.2.2.2.2.1 bt181.2.2.2.2.2.1))))) else (none)) else (none))) else (some false)) = some r := H
 have A3 := Aside0.mk A30
 clear A30
 by_cases c4 : t176 = true
 ·subst c4
  have H1 : ((some (([14,16,18] : List Int) : List Int)).bind fun y177 => (if 0 ≤ (Int.tmod (wrap64 ((Int.tmod a1_0 3) + 3)) 3) then (if (Int.tmod (wrap64 ((Int.tmod a1_0 3) + 3)) 3) < (y177.length : Int) then ((change_Of.f (rd y177 (Int.tmod (wrap64 ((Int.tmod a1_0 3) + 3)) 3)) (wrap64 (1 + (Int.tmod (wrap64 ((Int.tmod a1_1 5) + 5)) 5))) (⟨#[]⟩ : ByteArray) 0 a0 a1_2 (-1)).bind fun bt181 => ((change_Of.f (rd y177 (Int.tmod (wrap64 ((Int.tmod a1_0 3) + 3)) 3)) 1 (⟨#[]⟩ : ByteArray) 0 a0 a1_2 (-1)).bind fun bt189 => ((change_Of.f (rd y177 (Int.tmod (wrap64 ((Int.tmod a1_0 3) + 3)) 3)) (wrap64 (-(Go.bits .and .i64 a1_1 7))) (⟨#[]⟩ : ByteArray) 0 a0 a1_2 (-1)).bind fun bt197 => (if bt181.2.2.2.2.2.2 = bt189.2.2.2.2.2.2 then (if bt189.2.2.2.2.2.2 = bt197.2.2.2.2.2.2 then (bodkinlaw17_ChangeCounts.j0 k a0 (rd y177 (Int.tmod (wrap64 ((Int.tmod a1_0 3) + 3)) 3)) (wrap64 (1 + (Int.tmod (wrap64 ((Int.tmod a1_1 5) + 5)) 5))) bt181.2.2.2.2.2.2 ((!(bt189.1 == bt197.1) || (!(bt189.2.1 == bt197.2.1) || (!(bt189.2.2.1.toList == bt197.2.2.1.toList)))) || (!(bt189.2.2.2.1 == bt197.2.2.2.1) || (!(bt189.2.2.2.2.1.toList == bt197.2.2.2.2.1.toList) || (!(bt189.2.2.2.2.2.1 == bt197.2.2.2.2.2.1))))) bt181.1 bt181.2.1 bt181.2.2.1 bt181.2.2.2.1 bt181.2.2.2.2.1 bt181.2.2.2.2.2.1) else (bodkinlaw17_ChangeCounts.j0 k a0 (rd y177 (Int.tmod (wrap64 ((Int.tmod a1_0 3) + 3)) 3)) (wrap64 (1 + (Int.tmod (wrap64 ((Int.tmod a1_1 5) + 5)) 5))) bt181.2.2.2.2.2.2 true bt181.1 bt181.2.1 bt181.2.2.1 bt181.2.2.2.1 bt181.2.2.2.2.1 bt181.2.2.2.2.2.1)) else (bodkinlaw17_ChangeCounts.j0 k a0 (rd y177 (Int.tmod (wrap64 ((Int.tmod a1_0 3) + 3)) 3)) (wrap64 (1 + (Int.tmod (wrap64 ((Int.tmod a1_1 5) + 5)) 5))) bt181.2.2.2.2.2.2 true bt181.1 bt181.2.1 bt181.2.2.1 bt181.2.2.2.1 bt181.2.2.2.2.1 bt181.2.2.2.2.2.1))))) else (none)) else (none))) = some r := by rw [if_pos rfl] at H;exact H
  clear H
  have H := H1
  clear H1
  obtain ⟨y177,hy177⟩ : ∃ y_ : List Int,y_ = (([14,16,18] : List Int)) := ⟨_,rfl⟩
  replace H : (if 0 ≤ (Int.tmod (wrap64 ((Int.tmod a1_0 3) + 3)) 3) then (if (Int.tmod (wrap64 ((Int.tmod a1_0 3) + 3)) 3) < (y177.length : Int) then ((change_Of.f (rd y177 (Int.tmod (wrap64 ((Int.tmod a1_0 3) + 3)) 3)) (wrap64 (1 + (Int.tmod (wrap64 ((Int.tmod a1_1 5) + 5)) 5))) (⟨#[]⟩ : ByteArray) 0 a0 a1_2 (-1)).bind fun bt181 => ((change_Of.f (rd y177 (Int.tmod (wrap64 ((Int.tmod a1_0 3) + 3)) 3)) 1 (⟨#[]⟩ : ByteArray) 0 a0 a1_2 (-1)).bind fun bt189 => ((change_Of.f (rd y177 (Int.tmod (wrap64 ((Int.tmod a1_0 3) + 3)) 3)) (wrap64 (-(Go.bits .and .i64 a1_1 7))) (⟨#[]⟩ : ByteArray) 0 a0 a1_2 (-1)).bind fun bt197 => (if bt181.2.2.2.2.2.2 = bt189.2.2.2.2.2.2 then (if bt189.2.2.2.2.2.2 = bt197.2.2.2.2.2.2 then (bodkinlaw17_ChangeCounts.j0 k a0 (rd y177 (Int.tmod (wrap64 ((Int.tmod a1_0 3) + 3)) 3)) (wrap64 (1 + (Int.tmod (wrap64 ((Int.tmod a1_1 5) + 5)) 5))) bt181.2.2.2.2.2.2 ((!(bt189.1 == bt197.1) || (!(bt189.2.1 == bt197.2.1) || (!(bt189.2.2.1.toList == bt197.2.2.1.toList)))) || (!(bt189.2.2.2.1 == bt197.2.2.2.1) || (!(bt189.2.2.2.2.1.toList == bt197.2.2.2.2.1.toList) || (!(bt189.2.2.2.2.2.1 == bt197.2.2.2.2.2.1))))) bt181.1 bt181.2.1 bt181.2.2.1 bt181.2.2.2.1 bt181.2.2.2.2.1 bt181.2.2.2.2.2.1) else (bodkinlaw17_ChangeCounts.j0 k a0 (rd y177 (Int.tmod (wrap64 ((Int.tmod a1_0 3) + 3)) 3)) (wrap64 (1 + (Int.tmod (wrap64 ((Int.tmod a1_1 5) + 5)) 5))) bt181.2.2.2.2.2.2 true bt181.1 bt181.2.1 bt181.2.2.1 bt181.2.2.2.1 bt181.2.2.2.2.1 bt181.2.2.2.2.2.1)) else (bodkinlaw17_ChangeCounts.j0 k a0 (rd y177 (Int.tmod (wrap64 ((Int.tmod a1_0 3) + 3)) 3)) (wrap64 (1 + (Int.tmod (wrap64 ((Int.tmod a1_1 5) + 5)) 5))) bt181.2.2.2.2.2.2 true bt181.1 bt181.2.1 bt181.2.2.1 bt181.2.2.2.1 bt181.2.2.2.2.1 bt181.2.2.2.2.2.1))))) else (none)) else (none)) = some r := by first | (rw [hy177];with_reducible exact H) | (have H2_ := (Option.bind_some _ _).symm.trans H;rw [hy177];with_reducible exact H2_) | (have H2_ := (Option.bind_some _ _).symm.trans H;with_reducible exact H2_) | with_reducible exact H | (rw [hy177];exact H) | exact H
  have Ny177 := Aside0.mk hy177
  clear hy177
  obtain ⟨ji5,hji5⟩ : ∃ j_ : Int,(Int.tmod (wrap64 ((Int.tmod a1_0 3) + 3)) 3) = j_ := ⟨_,rfl⟩
  replace H : (if 0 ≤ (ji5) then (if (ji5) < (y177.length : Int) then ((change_Of.f (rd y177 (ji5)) (wrap64 (1 + (Int.tmod (wrap64 ((Int.tmod a1_1 5) + 5)) 5))) (⟨#[]⟩ : ByteArray) 0 a0 a1_2 (-1)).bind fun bt181 => ((change_Of.f (rd y177 (ji5)) 1 (⟨#[]⟩ : ByteArray) 0 a0 a1_2 (-1)).bind fun bt189 => ((change_Of.f (rd y177 (ji5)) (wrap64 (-(Go.bits .and .i64 a1_1 7))) (⟨#[]⟩ : ByteArray) 0 a0 a1_2 (-1)).bind fun bt197 => (if bt181.2.2.2.2.2.2 = bt189.2.2.2.2.2.2 then (if bt189.2.2.2.2.2.2 = bt197.2.2.2.2.2.2 then (bodkinlaw17_ChangeCounts.j0 k a0 (rd y177 (ji5)) (wrap64 (1 + (Int.tmod (wrap64 ((Int.tmod a1_1 5) + 5)) 5))) bt181.2.2.2.2.2.2 ((!(bt189.1 == bt197.1) || (!(bt189.2.1 == bt197.2.1) || (!(bt189.2.2.1.toList == bt197.2.2.1.toList)))) || (!(bt189.2.2.2.1 == bt197.2.2.2.1) || (!(bt189.2.2.2.2.1.toList == bt197.2.2.2.2.1.toList) || (!(bt189.2.2.2.2.2.1 == bt197.2.2.2.2.2.1))))) bt181.1 bt181.2.1 bt181.2.2.1 bt181.2.2.2.1 bt181.2.2.2.2.1 bt181.2.2.2.2.2.1) else (bodkinlaw17_ChangeCounts.j0 k a0 (rd y177 (ji5)) (wrap64 (1 + (Int.tmod (wrap64 ((Int.tmod a1_1 5) + 5)) 5))) bt181.2.2.2.2.2.2 true bt181.1 bt181.2.1 bt181.2.2.1 bt181.2.2.2.1 bt181.2.2.2.2.1 bt181.2.2.2.2.2.1)) else (bodkinlaw17_ChangeCounts.j0 k a0 (rd y177 (ji5)) (wrap64 (1 + (Int.tmod (wrap64 ((Int.tmod a1_1 5) + 5)) 5))) bt181.2.2.2.2.2.2 true bt181.1 bt181.2.1 bt181.2.2.1 bt181.2.2.2.1 bt181.2.2.2.2.1 bt181.2.2.2.2.2.1))))) else (none)) else (none)) = some r := by first | (rw [hji5] at H;exact H) | (simp only [hji5] at H ⊢;exact H)
  (try rw [hji5] at A3)
  by_cases c6 : 0 ≤ (ji5)
  ·rw [if_pos c6] at H
   have c6b0 : decide (0 ≤ (ji5)) = true := decide_eq_true c6
   clear c6
   by_cases c7 : (ji5) < (y177.length : Int)
   ·rw [if_pos c7] at H
    have c7b0 : decide ((ji5) < (y177.length : Int)) = true := decide_eq_true c7
    clear c7
    replace H := Option.bind_eq_some_iff.mp H
    obtain ⟨⟨t181,t182,t183,t184,t185,t186,t187⟩,A80,H⟩ := H
    replace H : ((change_Of.f (rd y177 (ji5)) 1 (⟨#[]⟩ : ByteArray) 0 a0 a1_2 (-1)).bind fun bt189 => ((change_Of.f (rd y177 (ji5)) (wrap64 (-(Go.bits .and .i64 a1_1 7))) (⟨#[]⟩ : ByteArray) 0 a0 a1_2 (-1)).bind fun bt197 => (if t187 = bt189.2.2.2.2.2.2 then (if bt189.2.2.2.2.2.2 = bt197.2.2.2.2.2.2 then (bodkinlaw17_ChangeCounts.j0 k a0 (rd y177 (ji5)) (wrap64 (1 + (Int.tmod (wrap64 ((Int.tmod a1_1 5) + 5)) 5))) t187 ((!(bt189.1 == bt197.1) || (!(bt189.2.1 == bt197.2.1) || (!(bt189.2.2.1.toList == bt197.2.2.1.toList)))) || (!(bt189.2.2.2.1 == bt197.2.2.2.1) || (!(bt189.2.2.2.2.1.toList == bt197.2.2.2.2.1.toList) || (!(bt189.2.2.2.2.2.1 == bt197.2.2.2.2.2.1))))) t181 t182 t183 t184 t185 t186) else (bodkinlaw17_ChangeCounts.j0 k a0 (rd y177 (ji5)) (wrap64 (1 + (Int.tmod (wrap64 ((Int.tmod a1_1 5) + 5)) 5))) t187 true t181 t182 t183 t184 t185 t186)) else (bodkinlaw17_ChangeCounts.j0 k a0 (rd y177 (ji5)) (wrap64 (1 + (Int.tmod (wrap64 ((Int.tmod a1_1 5) + 5)) 5))) t187 true t181 t182 t183 t184 t185 t186)))) = some r := H
    have A8 := Aside0.mk A80
    clear A80
    replace H := Option.bind_eq_some_iff.mp H
    obtain ⟨⟨t189,t190,t191,t192,t193,t194,t195⟩,A90,H⟩ := H
    replace H : ((change_Of.f (rd y177 (ji5)) (wrap64 (-(Go.bits .and .i64 a1_1 7))) (⟨#[]⟩ : ByteArray) 0 a0 a1_2 (-1)).bind fun bt197 => (if t187 = t195 then (if t195 = bt197.2.2.2.2.2.2 then (bodkinlaw17_ChangeCounts.j0 k a0 (rd y177 (ji5)) (wrap64 (1 + (Int.tmod (wrap64 ((Int.tmod a1_1 5) + 5)) 5))) t187 ((!(t189 == bt197.1) || (!(t190 == bt197.2.1) || (!(t191.toList == bt197.2.2.1.toList)))) || (!(t192 == bt197.2.2.2.1) || (!(t193.toList == bt197.2.2.2.2.1.toList) || (!(t194 == bt197.2.2.2.2.2.1))))) t181 t182 t183 t184 t185 t186) else (bodkinlaw17_ChangeCounts.j0 k a0 (rd y177 (ji5)) (wrap64 (1 + (Int.tmod (wrap64 ((Int.tmod a1_1 5) + 5)) 5))) t187 true t181 t182 t183 t184 t185 t186)) else (bodkinlaw17_ChangeCounts.j0 k a0 (rd y177 (ji5)) (wrap64 (1 + (Int.tmod (wrap64 ((Int.tmod a1_1 5) + 5)) 5))) t187 true t181 t182 t183 t184 t185 t186))) = some r := H
    have A9 := Aside0.mk A90
    clear A90
    replace H := Option.bind_eq_some_iff.mp H
    obtain ⟨⟨t197,t198,t199,t200,t201,t202,t203⟩,A100,H⟩ := H
    replace H : (if t187 = t195 then (if t195 = t203 then (bodkinlaw17_ChangeCounts.j0 k a0 (rd y177 (ji5)) (wrap64 (1 + (Int.tmod (wrap64 ((Int.tmod a1_1 5) + 5)) 5))) t187 ((!(t189 == t197) || (!(t190 == t198) || (!(t191.toList == t199.toList)))) || (!(t192 == t200) || (!(t193.toList == t201.toList) || (!(t194 == t202))))) t181 t182 t183 t184 t185 t186) else (bodkinlaw17_ChangeCounts.j0 k a0 (rd y177 (ji5)) (wrap64 (1 + (Int.tmod (wrap64 ((Int.tmod a1_1 5) + 5)) 5))) t187 true t181 t182 t183 t184 t185 t186)) else (bodkinlaw17_ChangeCounts.j0 k a0 (rd y177 (ji5)) (wrap64 (1 + (Int.tmod (wrap64 ((Int.tmod a1_1 5) + 5)) 5))) t187 true t181 t182 t183 t184 t185 t186)) = some r := H
    have A10 := Aside0.mk A100
    clear A100
    have HC11 := Aside0.mk H
    clear H
    go_enter Tryd.func3,Tryd.ntmps3
    go_upto_region 9 with (first | ((with_reducible refine gate_dst (N := 3) rfl ?_);refine box_event ?hg (N := 3) ?hd (cs := #[.int .i64 a1_0,.int .i64 a1_1,.int .i64 a1_2,.int .i64 a1_3]) (t := 23) ?hr ?_;(case hd => rfl);(case hg => rfl);(case hr => first | (go_simp;done) | (go_simp;rfl));intro gb175 hg w12 hbox hb;have n0_ := Aside0.mk (below_step au0 hb);have n1_ := Aside0.mk (hbox);have n2_ := Aside0.mk ((by rw [hg];exact (below_size au0) : w.heap.size ≤ gb175));have n3_ := Aside0.mk ((by rw [hg];exact (below_size au0) : w.heap.size ≤ gb175));clear HB;have HB := n0_;have BK175 := n1_;have GW175 := n2_;have GE175 := n3_;clear n0_ n1_ n2_ n3_;clear hb hbox hg) | ((with_reducible refine gate_callee (f := 8) rfl ?_);refine goesL_ (some 19) rfl rfl Tryd.func8 (by kernel_rfl) rfl #[] rfl au1 ?_;(with_reducible refine (bodkinlaw17_awake.calls k true rfl _ ?side1 A3.out).mono ?_);(case side1 => exact tabs_below HT.out au20);rintro e w13 ⟨rfl,hb⟩;refine ⟨_,rfl,?_⟩;have n0_ := Aside0.mk (blk_below (g := gb175) (o := .cells #[.int .i64 a1_0,.int .i64 a1_1,.int .i64 a1_2,.int .i64 a1_3] 23 (0,0)) au12 hb);have n1_ := Aside0.mk (below_step au20 hb);clear BK175;clear HB;have BK175 := n0_;have HB := n1_;clear n0_ n1_;(try clear hb);(try clear hb2);(try clear hk);(try clear hi)) | ((with_reducible refine gate_dst (N := 21) rfl ?_);refine Kd.R_lit (Kd.int .i64) _ 25 ?hg (N := 21) ?hd (xs := ([14,16,18] : List Int)) (inner := [.int .i64 14,.int .i64 16,.int .i64 18]) (ok := fun _ => True) (okp := fun _ => True) ?hr ?hp (fun _ hk => hk) trivial (Below.refl _ _) (Nat.le_refl _) (by simp) ?_;(case hd => rfl);(case hg => rfl);(case hr => first | (go_simp;done) | (go_simp;rfl));(case hp => exact (Reps.one (show Kd.M (Kd.int .i64) _ _ _ 14 [.int .i64 14] from rfl) (Reps.one (show Kd.M (Kd.int .i64) _ _ _ 16 [.int .i64 16] from rfl) (Reps.one (show Kd.M (Kd.int .i64) _ _ _ 18 [.int .i64 18] from rfl) (Reps.none _ _)))));intro v178 w14 ho15 hb hg_ hnew_;clear hg_ hnew_;(first | rw [← Ny177.out] at ho15 | (simp only [Int.reduceToNat] at ho15;rw [← Ny177.out] at ho15));have n0_ := Aside0.mk (Kd.R_lower ho15 (below_size au20));have n1_ := Aside0.mk (blk_below (g := gb175) (o := .cells #[.int .i64 a1_0,.int .i64 a1_1,.int .i64 a1_2,.int .i64 a1_3] 23 (0,0)) au12 hb);have n2_ := Aside0.mk (below_step au20 hb);clear BK175;clear HB;have HO179 := n0_;have BK175 := n1_;have HB := n2_;clear n0_ n1_ n2_;clear hb ho15;have hcz16_0 : w14.cell? ⟨gb175,0,none⟩ = some (.int .i64 a1_0) := (blk_cell BK175.out 0).trans rfl;have hcz16_1 : w14.cell? ⟨gb175,1,none⟩ = some (.int .i64 a1_1) := (blk_cell BK175.out 1).trans rfl;have hcz16_2 : w14.cell? ⟨gb175,2,none⟩ = some (.int .i64 a1_2) := (blk_cell BK175.out 2).trans rfl;have hcz16_3 : w14.cell? ⟨gb175,3,none⟩ = some (.int .i64 a1_3) := (blk_cell BK175.out 3).trans rfl;have hfz16_0 := blk_frozen BK175.out 0;have hfz16_1 := blk_frozen BK175.out 1;have hfz16_2 := blk_frozen BK175.out 2;have hfz16_3 := blk_frozen BK175.out 3;obtain ⟨Ao17,co17,eo17⟩ := Kd.R_slice HO179.out;subst eo17;have p180 : 0 ≤ ((ji5) : Int) := of_decide_eq_true au17;have q180 : (ji5) < (y177.length : Int) := of_decide_eq_true au17;obtain ⟨ad180,e180,hx180_0⟩ := Kd.at_int (Kd.R_reads' HO179.out).2.2 (ji5) p180 q180;cases e180;replace p180 := eq_true p180;replace q180 := eq_true q180) | ((with_reducible refine gate_callee (f := 9) rfl ?_);refine goesL_ (some 43) rfl rfl Tryd.func9 (by kernel_rfl) rfl #[.agg #[.int .i64 (rd y177 (ji5)),.int .i64 (wrap64 (1 + (Int.tmod (wrap64 ((Int.tmod a1_1 5) + 5)) 5))),.string (⟨#[]⟩ : ByteArray),.int .u8 0],.string a0,.int .i64 a1_2,.int .i64 (-1)] rfl (by (try simp only [List.map_toArray,List.map_cons,List.map_nil]);first | done | (simp only [hji5];rfl) | rfl | (simp only [List.length_drop,List.length_take];rfl)) ?_;(with_reducible refine (change_Of.calls (rd y177 (ji5)) (wrap64 (1 + (Int.tmod (wrap64 ((Int.tmod a1_1 5) + 5)) 5))) (⟨#[]⟩ : ByteArray) 0 a0 a1_2 (-1) t181 t182 t183 t184 t185 t186 t187 _ ?side1 A8.out).mono ?_);(case side1 => exact tabs_below HT.out au20);rintro e w18 ⟨rfl,hb⟩;refine ⟨_,rfl,?_⟩;have n0_ := Aside0.mk (Kd.R_below (by (with_reducible repeat (first | apply Kd.R_alloc | apply Kd.R_drewN | apply Kd.R_drew));exact HO179.out) hb);have n1_ := Aside0.mk (blk_below (g := gb175) (o := .cells #[.int .i64 a1_0,.int .i64 a1_1,.int .i64 a1_2,.int .i64 a1_3] 23 (0,0)) au12 hb);have n2_ := Aside0.mk (below_step au20 hb);clear HO179;clear BK175;clear HB;have HO179 := n0_;have BK175 := n1_;have HB := n2_;clear n0_ n1_ n2_;(try clear hb);(try clear hb2);(try clear hk);(try clear hi)) | ((with_reducible refine gate_dst (N := 8) rfl ?_);refine box_event ?hg (N := 8) ?hd (cs := #[.int .i64 0,.int .i64 0,.string (⟨#[]⟩ : ByteArray),.int .i64 0,.string (⟨#[]⟩ : ByteArray),.bool false]) (t := 30) ?hr ?_;(case hd => rfl);(case hg => rfl);(case hr => first | (go_simp;done) | (go_simp;rfl));intro gb188 hg w19 hbox hb;have n0_ := Aside0.mk (Kd.R_below (by (with_reducible repeat (first | apply Kd.R_alloc | apply Kd.R_drewN | apply Kd.R_drew));exact HO179.out) hb);have n1_ := Aside0.mk (blk_below (g := gb175) (o := .cells #[.int .i64 a1_0,.int .i64 a1_1,.int .i64 a1_2,.int .i64 a1_3] 23 (0,0)) au12 hb);have n2_ := Aside0.mk (below_step au20 hb);have n3_ := Aside0.mk (hbox);have n4_ := Aside0.mk ((by rw [hg];exact (below_size au20) : w.heap.size ≤ gb188));have n5_ := Aside0.mk ((by rw [hg];exact (below_size au20) : w.heap.size ≤ gb188));have n6_ := Aside0.mk ((by rw [hg];exact Nat.ne_of_lt (blk_lt (g := gb175) (o := .cells #[.int .i64 a1_0,.int .i64 a1_1,.int .i64 a1_2,.int .i64 a1_3] 23 (0,0)) au12) : gb175 ≠ gb188));have n7_ := Aside0.mk ((by rw [hg];exact Nat.ne_of_gt (blk_lt (g := gb175) (o := .cells #[.int .i64 a1_0,.int .i64 a1_1,.int .i64 a1_2,.int .i64 a1_3] 23 (0,0)) au12) : gb188 ≠ gb175));clear HO179;clear BK175;clear HB;have HO179 := n0_;have BK175 := n1_;have HB := n2_;have BK188 := n3_;have GW188 := n4_;have GE188 := n5_;have NB175_188 := n6_;have NB188_175 := n7_;clear n0_ n1_ n2_ n3_ n4_ n5_ n6_ n7_;clear hb hbox hg;have hnb20 := NB188_175.out;have hnc20 := NB175_188.out;have hcz21_0 : w19.cell? ⟨gb188,0,none⟩ = some (.int .i64 0) := (blk_cell BK188.out 0).trans rfl;have hcz21_1 : w19.cell? ⟨gb188,1,none⟩ = some (.int .i64 0) := (blk_cell BK188.out 1).trans rfl;have hcz21_2 : w19.cell? ⟨gb188,2,none⟩ = some (.string (⟨#[]⟩ : ByteArray)) := (blk_cell BK188.out 2).trans rfl;have hcz21_3 : w19.cell? ⟨gb188,3,none⟩ = some (.int .i64 0) := (blk_cell BK188.out 3).trans rfl;have hcz21_4 : w19.cell? ⟨gb188,4,none⟩ = some (.string (⟨#[]⟩ : ByteArray)) := (blk_cell BK188.out 4).trans rfl;have hcz21_5 : w19.cell? ⟨gb188,5,none⟩ = some (.bool false) := (blk_cell BK188.out 5).trans rfl;have hfz21_0 := blk_frozen BK188.out 0;have hfz21_1 := blk_frozen BK188.out 1;have hfz21_2 := blk_frozen BK188.out 2;have hfz21_3 := blk_frozen BK188.out 3;have hfz21_4 := blk_frozen BK188.out 4;have hfz21_5 := blk_frozen BK188.out 5;have hcz22_0 : w19.cell? ⟨gb175,0,none⟩ = some (.int .i64 a1_0) := (blk_cell BK175.out 0).trans rfl;have hcz22_1 : w19.cell? ⟨gb175,1,none⟩ = some (.int .i64 a1_1) := (blk_cell BK175.out 1).trans rfl;have hcz22_2 : w19.cell? ⟨gb175,2,none⟩ = some (.int .i64 a1_2) := (blk_cell BK175.out 2).trans rfl;have hcz22_3 : w19.cell? ⟨gb175,3,none⟩ = some (.int .i64 a1_3) := (blk_cell BK175.out 3).trans rfl;have hfz22_0 := blk_frozen BK175.out 0;have hfz22_1 := blk_frozen BK175.out 1;have hfz22_2 := blk_frozen BK175.out 2;have hfz22_3 := blk_frozen BK175.out 3) | ((with_reducible refine gate_callee (f := 9) rfl ?_);refine goesL_ (some 52) rfl rfl Tryd.func9 (by kernel_rfl) rfl #[.agg #[.int .i64 (rd y177 (ji5)),.int .i64 1,.string (⟨#[]⟩ : ByteArray),.int .u8 0],.string a0,.int .i64 a1_2,.int .i64 (-1)] rfl (by (try simp only [List.map_toArray,List.map_cons,List.map_nil]);first | done | (simp only [hji5];rfl) | rfl | (simp only [List.length_drop,List.length_take];rfl)) ?_;(with_reducible refine (change_Of.calls (rd y177 (ji5)) 1 (⟨#[]⟩ : ByteArray) 0 a0 a1_2 (-1) t189 t190 t191 t192 t193 t194 t195 _ ?side1 A9.out).mono ?_);(case side1 => exact tabs_below HT.out au38);rintro e w23 ⟨rfl,hb⟩;refine ⟨_,rfl,?_⟩;have n0_ := Aside0.mk (Kd.R_below (by (with_reducible repeat (first | apply Kd.R_alloc | apply Kd.R_drewN | apply Kd.R_drew));exact (Kd.R_mono (Kd.R_far (p := ⟨gb188,5,none⟩) (Kd.R_far (p := ⟨gb188,4,none⟩) (Kd.R_far (p := ⟨gb188,3,none⟩) (Kd.R_far (p := ⟨gb188,2,none⟩) (Kd.R_far (p := ⟨gb188,1,none⟩) (Kd.R_far (p := ⟨gb188,0,none⟩) (Kd.R_types HO179.out BK188.out (by decide)) (fun _ hk => hk.2) (.int .i64 t181)) (fun _ hk => hk.2) (.int .i64 t182)) (fun _ hk => hk.2) (.string t183)) (fun _ hk => hk.2) (.int .i64 t184)) (fun _ hk => hk.2) (.string t185)) (fun _ hk => hk.2) (.bool t186)) (fun _ h_ => h_.1))) hb);have n1_ := Aside0.mk (blk_below (g := gb175) (o := .cells #[.int .i64 a1_0,.int .i64 a1_1,.int .i64 a1_2,.int .i64 a1_3] 23 (0,0)) (by (with_reducible repeat (first | refine blk_drewN ?_ _ | refine blk_drew ?_ | refine blk_alloc ?_ _));refine blk_far ?_ NB175_188.out _;(with_reducible repeat (first | refine blk_drewN ?_ _ | refine blk_drew ?_ | refine blk_alloc ?_ _));refine blk_far ?_ NB175_188.out _;(with_reducible repeat (first | refine blk_drewN ?_ _ | refine blk_drew ?_ | refine blk_alloc ?_ _));refine blk_far ?_ NB175_188.out _;(with_reducible repeat (first | refine blk_drewN ?_ _ | refine blk_drew ?_ | refine blk_alloc ?_ _));refine blk_far ?_ NB175_188.out _;(with_reducible repeat (first | refine blk_drewN ?_ _ | refine blk_drew ?_ | refine blk_alloc ?_ _));refine blk_far ?_ NB175_188.out _;(with_reducible repeat (first | refine blk_drewN ?_ _ | refine blk_drew ?_ | refine blk_alloc ?_ _));refine blk_far ?_ NB175_188.out _;(with_reducible repeat (first | refine blk_drewN ?_ _ | refine blk_drew ?_ | refine blk_alloc ?_ _));exact BK175.out) hb);have n2_ := Aside0.mk (blk_below (g := gb188) (o := .cells #[.int .i64 t181,.int .i64 t182,.string t183,.int .i64 t184,.string t185,.bool t186] 30 (0,0)) (by (with_reducible repeat (first | refine blk_drewN ?_ _ | refine blk_drew ?_ | refine blk_alloc ?_ _));refine blk_put (cs := #[.int .i64 t181,.int .i64 t182,.string t183,.int .i64 t184,.string t185,.bool false]) ?_ 5 _ rfl;(with_reducible repeat (first | refine blk_drewN ?_ _ | refine blk_drew ?_ | refine blk_alloc ?_ _));refine blk_put (cs := #[.int .i64 t181,.int .i64 t182,.string t183,.int .i64 t184,.string (⟨#[]⟩ : ByteArray),.bool false]) ?_ 4 _ rfl;(with_reducible repeat (first | refine blk_drewN ?_ _ | refine blk_drew ?_ | refine blk_alloc ?_ _));refine blk_put (cs := #[.int .i64 t181,.int .i64 t182,.string t183,.int .i64 0,.string (⟨#[]⟩ : ByteArray),.bool false]) ?_ 3 _ rfl;(with_reducible repeat (first | refine blk_drewN ?_ _ | refine blk_drew ?_ | refine blk_alloc ?_ _));refine blk_put (cs := #[.int .i64 t181,.int .i64 t182,.string (⟨#[]⟩ : ByteArray),.int .i64 0,.string (⟨#[]⟩ : ByteArray),.bool false]) ?_ 2 _ rfl;(with_reducible repeat (first | refine blk_drewN ?_ _ | refine blk_drew ?_ | refine blk_alloc ?_ _));refine blk_put (cs := #[.int .i64 t181,.int .i64 0,.string (⟨#[]⟩ : ByteArray),.int .i64 0,.string (⟨#[]⟩ : ByteArray),.bool false]) ?_ 1 _ rfl;(with_reducible repeat (first | refine blk_drewN ?_ _ | refine blk_drew ?_ | refine blk_alloc ?_ _));refine blk_put (cs := #[.int .i64 0,.int .i64 0,.string (⟨#[]⟩ : ByteArray),.int .i64 0,.string (⟨#[]⟩ : ByteArray),.bool false]) ?_ 0 _ rfl;(with_reducible repeat (first | refine blk_drewN ?_ _ | refine blk_drew ?_ | refine blk_alloc ?_ _));exact BK188.out) hb);have n3_ := Aside0.mk (below_step au38 hb);clear HO179;clear BK175;clear BK188;clear HB;have HO179 := n0_;have BK175 := n1_;have BK188 := n2_;have HB := n3_;clear n0_ n1_ n2_ n3_;(try clear hb);(try clear hb2);(try clear hk);(try clear hi)) | ((with_reducible refine gate_dst (N := 10) rfl ?_);refine box_event ?hg (N := 10) ?hd (cs := #[.int .i64 0,.int .i64 0,.string (⟨#[]⟩ : ByteArray),.int .i64 0,.string (⟨#[]⟩ : ByteArray),.bool false]) (t := 30) ?hr ?_;(case hd => rfl);(case hg => rfl);(case hr => first | (go_simp;done) | (go_simp;rfl));intro gb196 hg w24 hbox hb;have n0_ := Aside0.mk (Kd.R_below (by (with_reducible repeat (first | apply Kd.R_alloc | apply Kd.R_drewN | apply Kd.R_drew));exact HO179.out) hb);have n1_ := Aside0.mk (blk_below (g := gb175) (o := .cells #[.int .i64 a1_0,.int .i64 a1_1,.int .i64 a1_2,.int .i64 a1_3] 23 (0,0)) au12 hb);have n2_ := Aside0.mk (blk_below (g := gb188) (o := .cells #[.int .i64 t181,.int .i64 t182,.string t183,.int .i64 t184,.string t185,.bool t186] 30 (0,0)) au16 hb);have n3_ := Aside0.mk (below_step au38 hb);have n4_ := Aside0.mk (hbox);have n5_ := Aside0.mk ((by rw [hg];exact (below_size au38) : w.heap.size ≤ gb196));have n6_ := Aside0.mk ((by rw [hg];exact (below_size au38) : w.heap.size ≤ gb196));have n7_ := Aside0.mk ((by rw [hg];exact Nat.ne_of_lt (blk_lt (g := gb175) (o := .cells #[.int .i64 a1_0,.int .i64 a1_1,.int .i64 a1_2,.int .i64 a1_3] 23 (0,0)) au12) : gb175 ≠ gb196));have n8_ := Aside0.mk ((by rw [hg];exact Nat.ne_of_gt (blk_lt (g := gb175) (o := .cells #[.int .i64 a1_0,.int .i64 a1_1,.int .i64 a1_2,.int .i64 a1_3] 23 (0,0)) au12) : gb196 ≠ gb175));have n9_ := Aside0.mk ((by rw [hg];exact Nat.ne_of_lt (blk_lt (g := gb188) (o := .cells #[.int .i64 t181,.int .i64 t182,.string t183,.int .i64 t184,.string t185,.bool t186] 30 (0,0)) au16) : gb188 ≠ gb196));have n10_ := Aside0.mk ((by rw [hg];exact Nat.ne_of_gt (blk_lt (g := gb188) (o := .cells #[.int .i64 t181,.int .i64 t182,.string t183,.int .i64 t184,.string t185,.bool t186] 30 (0,0)) au16) : gb196 ≠ gb188));clear HO179;clear BK175;clear BK188;clear HB;have HO179 := n0_;have BK175 := n1_;have BK188 := n2_;have HB := n3_;have BK196 := n4_;have GW196 := n5_;have GE196 := n6_;have NB175_196 := n7_;have NB196_175 := n8_;have NB188_196 := n9_;have NB196_188 := n10_;clear n0_ n1_ n2_ n3_ n4_ n5_ n6_ n7_ n8_ n9_ n10_;clear hb hbox hg;have hnb25 := NB196_175.out;have hnc25 := NB175_196.out;have hnb26 := NB196_188.out;have hnc26 := NB188_196.out;have hcz27_0 : w24.cell? ⟨gb196,0,none⟩ = some (.int .i64 0) := (blk_cell BK196.out 0).trans rfl;have hcz27_1 : w24.cell? ⟨gb196,1,none⟩ = some (.int .i64 0) := (blk_cell BK196.out 1).trans rfl;have hcz27_2 : w24.cell? ⟨gb196,2,none⟩ = some (.string (⟨#[]⟩ : ByteArray)) := (blk_cell BK196.out 2).trans rfl;have hcz27_3 : w24.cell? ⟨gb196,3,none⟩ = some (.int .i64 0) := (blk_cell BK196.out 3).trans rfl;have hcz27_4 : w24.cell? ⟨gb196,4,none⟩ = some (.string (⟨#[]⟩ : ByteArray)) := (blk_cell BK196.out 4).trans rfl;have hcz27_5 : w24.cell? ⟨gb196,5,none⟩ = some (.bool false) := (blk_cell BK196.out 5).trans rfl;have hfz27_0 := blk_frozen BK196.out 0;have hfz27_1 := blk_frozen BK196.out 1;have hfz27_2 := blk_frozen BK196.out 2;have hfz27_3 := blk_frozen BK196.out 3;have hfz27_4 := blk_frozen BK196.out 4;have hfz27_5 := blk_frozen BK196.out 5;have hcz28_0 : w24.cell? ⟨gb175,0,none⟩ = some (.int .i64 a1_0) := (blk_cell BK175.out 0).trans rfl;have hcz28_1 : w24.cell? ⟨gb175,1,none⟩ = some (.int .i64 a1_1) := (blk_cell BK175.out 1).trans rfl;have hcz28_2 : w24.cell? ⟨gb175,2,none⟩ = some (.int .i64 a1_2) := (blk_cell BK175.out 2).trans rfl;have hcz28_3 : w24.cell? ⟨gb175,3,none⟩ = some (.int .i64 a1_3) := (blk_cell BK175.out 3).trans rfl;have hfz28_0 := blk_frozen BK175.out 0;have hfz28_1 := blk_frozen BK175.out 1;have hfz28_2 := blk_frozen BK175.out 2;have hfz28_3 := blk_frozen BK175.out 3) | ((with_reducible refine gate_callee (f := 9) rfl ?_);refine goesL_ (some 65) rfl rfl Tryd.func9 (by kernel_rfl) rfl #[.agg #[.int .i64 (rd y177 (ji5)),.int .i64 (wrap64 (-(Go.bits .and .i64 a1_1 7))),.string (⟨#[]⟩ : ByteArray),.int .u8 0],.string a0,.int .i64 a1_2,.int .i64 (-1)] rfl (by (try simp only [List.map_toArray,List.map_cons,List.map_nil]);first | done | (simp only [hji5];rfl) | rfl | (simp only [List.length_drop,List.length_take];rfl)) ?_;(with_reducible refine (change_Of.calls (rd y177 (ji5)) (wrap64 (-(Go.bits .and .i64 a1_1 7))) (⟨#[]⟩ : ByteArray) 0 a0 a1_2 (-1) t197 t198 t199 t200 t201 t202 t203 _ ?side1 A10.out).mono ?_);(case side1 => exact tabs_below HT.out au26);rintro e w29 ⟨rfl,hb⟩;refine ⟨_,rfl,?_⟩;have n0_ := Aside0.mk (Kd.R_below (by (with_reducible repeat (first | apply Kd.R_alloc | apply Kd.R_drewN | apply Kd.R_drew));exact (Kd.R_mono (Kd.R_far (p := ⟨gb196,5,none⟩) (Kd.R_far (p := ⟨gb196,4,none⟩) (Kd.R_far (p := ⟨gb196,3,none⟩) (Kd.R_far (p := ⟨gb196,2,none⟩) (Kd.R_far (p := ⟨gb196,1,none⟩) (Kd.R_far (p := ⟨gb196,0,none⟩) (Kd.R_types HO179.out BK196.out (by decide)) (fun _ hk => hk.2) (.int .i64 t189)) (fun _ hk => hk.2) (.int .i64 t190)) (fun _ hk => hk.2) (.string t191)) (fun _ hk => hk.2) (.int .i64 t192)) (fun _ hk => hk.2) (.string t193)) (fun _ hk => hk.2) (.bool t194)) (fun _ h_ => h_.1))) hb);have n1_ := Aside0.mk (blk_below (g := gb175) (o := .cells #[.int .i64 a1_0,.int .i64 a1_1,.int .i64 a1_2,.int .i64 a1_3] 23 (0,0)) (by (with_reducible repeat (first | refine blk_drewN ?_ _ | refine blk_drew ?_ | refine blk_alloc ?_ _));refine blk_far ?_ NB175_196.out _;(with_reducible repeat (first | refine blk_drewN ?_ _ | refine blk_drew ?_ | refine blk_alloc ?_ _));refine blk_far ?_ NB175_196.out _;(with_reducible repeat (first | refine blk_drewN ?_ _ | refine blk_drew ?_ | refine blk_alloc ?_ _));refine blk_far ?_ NB175_196.out _;(with_reducible repeat (first | refine blk_drewN ?_ _ | refine blk_drew ?_ | refine blk_alloc ?_ _));refine blk_far ?_ NB175_196.out _;(with_reducible repeat (first | refine blk_drewN ?_ _ | refine blk_drew ?_ | refine blk_alloc ?_ _));refine blk_far ?_ NB175_196.out _;(with_reducible repeat (first | refine blk_drewN ?_ _ | refine blk_drew ?_ | refine blk_alloc ?_ _));refine blk_far ?_ NB175_196.out _;(with_reducible repeat (first | refine blk_drewN ?_ _ | refine blk_drew ?_ | refine blk_alloc ?_ _));exact BK175.out) hb);have n2_ := Aside0.mk (blk_below (g := gb188) (o := .cells #[.int .i64 t181,.int .i64 t182,.string t183,.int .i64 t184,.string t185,.bool t186] 30 (0,0)) (by (with_reducible repeat (first | refine blk_drewN ?_ _ | refine blk_drew ?_ | refine blk_alloc ?_ _));refine blk_far ?_ NB188_196.out _;(with_reducible repeat (first | refine blk_drewN ?_ _ | refine blk_drew ?_ | refine blk_alloc ?_ _));refine blk_far ?_ NB188_196.out _;(with_reducible repeat (first | refine blk_drewN ?_ _ | refine blk_drew ?_ | refine blk_alloc ?_ _));refine blk_far ?_ NB188_196.out _;(with_reducible repeat (first | refine blk_drewN ?_ _ | refine blk_drew ?_ | refine blk_alloc ?_ _));refine blk_far ?_ NB188_196.out _;(with_reducible repeat (first | refine blk_drewN ?_ _ | refine blk_drew ?_ | refine blk_alloc ?_ _));refine blk_far ?_ NB188_196.out _;(with_reducible repeat (first | refine blk_drewN ?_ _ | refine blk_drew ?_ | refine blk_alloc ?_ _));refine blk_far ?_ NB188_196.out _;(with_reducible repeat (first | refine blk_drewN ?_ _ | refine blk_drew ?_ | refine blk_alloc ?_ _));exact BK188.out) hb);have n3_ := Aside0.mk (blk_below (g := gb196) (o := .cells #[.int .i64 t189,.int .i64 t190,.string t191,.int .i64 t192,.string t193,.bool t194] 30 (0,0)) (by (with_reducible repeat (first | refine blk_drewN ?_ _ | refine blk_drew ?_ | refine blk_alloc ?_ _));refine blk_put (cs := #[.int .i64 t189,.int .i64 t190,.string t191,.int .i64 t192,.string t193,.bool false]) ?_ 5 _ rfl;(with_reducible repeat (first | refine blk_drewN ?_ _ | refine blk_drew ?_ | refine blk_alloc ?_ _));refine blk_put (cs := #[.int .i64 t189,.int .i64 t190,.string t191,.int .i64 t192,.string (⟨#[]⟩ : ByteArray),.bool false]) ?_ 4 _ rfl;(with_reducible repeat (first | refine blk_drewN ?_ _ | refine blk_drew ?_ | refine blk_alloc ?_ _));refine blk_put (cs := #[.int .i64 t189,.int .i64 t190,.string t191,.int .i64 0,.string (⟨#[]⟩ : ByteArray),.bool false]) ?_ 3 _ rfl;(with_reducible repeat (first | refine blk_drewN ?_ _ | refine blk_drew ?_ | refine blk_alloc ?_ _));refine blk_put (cs := #[.int .i64 t189,.int .i64 t190,.string (⟨#[]⟩ : ByteArray),.int .i64 0,.string (⟨#[]⟩ : ByteArray),.bool false]) ?_ 2 _ rfl;(with_reducible repeat (first | refine blk_drewN ?_ _ | refine blk_drew ?_ | refine blk_alloc ?_ _));refine blk_put (cs := #[.int .i64 t189,.int .i64 0,.string (⟨#[]⟩ : ByteArray),.int .i64 0,.string (⟨#[]⟩ : ByteArray),.bool false]) ?_ 1 _ rfl;(with_reducible repeat (first | refine blk_drewN ?_ _ | refine blk_drew ?_ | refine blk_alloc ?_ _));refine blk_put (cs := #[.int .i64 0,.int .i64 0,.string (⟨#[]⟩ : ByteArray),.int .i64 0,.string (⟨#[]⟩ : ByteArray),.bool false]) ?_ 0 _ rfl;(with_reducible repeat (first | refine blk_drewN ?_ _ | refine blk_drew ?_ | refine blk_alloc ?_ _));exact BK196.out) hb);have n4_ := Aside0.mk (below_step au26 hb);clear HO179;clear BK175;clear BK188;clear BK196;clear HB;have HO179 := n0_;have BK175 := n1_;have BK188 := n2_;have BK196 := n3_;have HB := n4_;clear n0_ n1_ n2_ n3_ n4_;(try clear hb);(try clear hb2);(try clear hk);(try clear hi)) | ((with_reducible refine gate_dst (N := 12) rfl ?_);refine box_event ?hg (N := 12) ?hd (cs := #[.int .i64 0,.int .i64 0,.string (⟨#[]⟩ : ByteArray),.int .i64 0,.string (⟨#[]⟩ : ByteArray),.bool false]) (t := 30) ?hr ?_;(case hd => rfl);(case hg => rfl);(case hr => first | (go_simp;done) | (go_simp;rfl));intro gb204 hg w30 hbox hb;have n0_ := Aside0.mk (Kd.R_below (by (with_reducible repeat (first | apply Kd.R_alloc | apply Kd.R_drewN | apply Kd.R_drew));exact HO179.out) hb);have n1_ := Aside0.mk (blk_below (g := gb175) (o := .cells #[.int .i64 a1_0,.int .i64 a1_1,.int .i64 a1_2,.int .i64 a1_3] 23 (0,0)) au12 hb);have n2_ := Aside0.mk (blk_below (g := gb188) (o := .cells #[.int .i64 t181,.int .i64 t182,.string t183,.int .i64 t184,.string t185,.bool t186] 30 (0,0)) au16 hb);have n3_ := Aside0.mk (blk_below (g := gb196) (o := .cells #[.int .i64 t189,.int .i64 t190,.string t191,.int .i64 t192,.string t193,.bool t194] 30 (0,0)) au21 hb);have n4_ := Aside0.mk (below_step au26 hb);have n5_ := Aside0.mk (hbox);have n6_ := Aside0.mk ((by rw [hg];exact (below_size au26) : w.heap.size ≤ gb204));have n7_ := Aside0.mk ((by rw [hg];exact (below_size au26) : w.heap.size ≤ gb204));have n8_ := Aside0.mk ((by rw [hg];exact Nat.ne_of_lt (blk_lt (g := gb175) (o := .cells #[.int .i64 a1_0,.int .i64 a1_1,.int .i64 a1_2,.int .i64 a1_3] 23 (0,0)) au12) : gb175 ≠ gb204));have n9_ := Aside0.mk ((by rw [hg];exact Nat.ne_of_gt (blk_lt (g := gb175) (o := .cells #[.int .i64 a1_0,.int .i64 a1_1,.int .i64 a1_2,.int .i64 a1_3] 23 (0,0)) au12) : gb204 ≠ gb175));have n10_ := Aside0.mk ((by rw [hg];exact Nat.ne_of_lt (blk_lt (g := gb188) (o := .cells #[.int .i64 t181,.int .i64 t182,.string t183,.int .i64 t184,.string t185,.bool t186] 30 (0,0)) au16) : gb188 ≠ gb204));have n11_ := Aside0.mk ((by rw [hg];exact Nat.ne_of_gt (blk_lt (g := gb188) (o := .cells #[.int .i64 t181,.int .i64 t182,.string t183,.int .i64 t184,.string t185,.bool t186] 30 (0,0)) au16) : gb204 ≠ gb188));have n12_ := Aside0.mk ((by rw [hg];exact Nat.ne_of_lt (blk_lt (g := gb196) (o := .cells #[.int .i64 t189,.int .i64 t190,.string t191,.int .i64 t192,.string t193,.bool t194] 30 (0,0)) au21) : gb196 ≠ gb204));have n13_ := Aside0.mk ((by rw [hg];exact Nat.ne_of_gt (blk_lt (g := gb196) (o := .cells #[.int .i64 t189,.int .i64 t190,.string t191,.int .i64 t192,.string t193,.bool t194] 30 (0,0)) au21) : gb204 ≠ gb196));clear HO179;clear BK175;clear BK188;clear BK196;clear HB;have HO179 := n0_;have BK175 := n1_;have BK188 := n2_;have BK196 := n3_;have HB := n4_;have BK204 := n5_;have GW204 := n6_;have GE204 := n7_;have NB175_204 := n8_;have NB204_175 := n9_;have NB188_204 := n10_;have NB204_188 := n11_;have NB196_204 := n12_;have NB204_196 := n13_;clear n0_ n1_ n2_ n3_ n4_ n5_ n6_ n7_ n8_ n9_ n10_ n11_ n12_ n13_;clear hb hbox hg;have hnb31 := NB204_175.out;have hnc31 := NB175_204.out;have hnb32 := NB204_188.out;have hnc32 := NB188_204.out;have hnb33 := NB204_196.out;have hnc33 := NB196_204.out;have hcz34_0 : w30.cell? ⟨gb204,0,none⟩ = some (.int .i64 0) := (blk_cell BK204.out 0).trans rfl;have hcz34_1 : w30.cell? ⟨gb204,1,none⟩ = some (.int .i64 0) := (blk_cell BK204.out 1).trans rfl;have hcz34_2 : w30.cell? ⟨gb204,2,none⟩ = some (.string (⟨#[]⟩ : ByteArray)) := (blk_cell BK204.out 2).trans rfl;have hcz34_3 : w30.cell? ⟨gb204,3,none⟩ = some (.int .i64 0) := (blk_cell BK204.out 3).trans rfl;have hcz34_4 : w30.cell? ⟨gb204,4,none⟩ = some (.string (⟨#[]⟩ : ByteArray)) := (blk_cell BK204.out 4).trans rfl;have hcz34_5 : w30.cell? ⟨gb204,5,none⟩ = some (.bool false) := (blk_cell BK204.out 5).trans rfl;have hfz34_0 := blk_frozen BK204.out 0;have hfz34_1 := blk_frozen BK204.out 1;have hfz34_2 := blk_frozen BK204.out 2;have hfz34_3 := blk_frozen BK204.out 3;have hfz34_4 := blk_frozen BK204.out 4;have hfz34_5 := blk_frozen BK204.out 5))
    (try simp only [Act.put,List.setIfInBounds_toArray,List.set_cons_zero,List.set_cons_succ])
    go_cut [80] (fun v80 wc => ∃ (kq : Nat) (x80_10 : Bool),v80 = .bool x80_10 ∧ Aside0 (bodkinlaw17_ChangeCounts.j0 kq a0 (rd y177 (ji5)) (wrap64 (1 + (Int.tmod (wrap64 ((Int.tmod a1_1 5) + 5)) 5))) t187 x80_10 t181 t182 t183 t184 t185 t186 = some r) ∧ Aside0 (kq ≤ k) ∧ Aside0 (wc.heap[gb175]? = some (.cells #[.int .i64 a1_0,.int .i64 a1_1,.int .i64 a1_2,.int .i64 a1_3] 23 (0,0))) ∧ Aside0 (wc.heap[gb188]? = some (.cells #[.int .i64 t181,.int .i64 t182,.string t183,.int .i64 t184,.string t185,.bool t186] 30 (0,0))) ∧ Aside0 (wc.heap[gb196]? = some (.cells #[.int .i64 t189,.int .i64 t190,.string t191,.int .i64 t192,.string t193,.bool t194] 30 (0,0))) ∧ Aside0 (wc.heap[gb204]? = some (.cells #[.int .i64 t197,.int .i64 t198,.string t199,.int .i64 t200,.string t201,.bool t202] 30 (0,0))) ∧ Aside0 (Below w.heap.size w wc))
    case first =>
     have H := HC11.out
     clear HC11
     by_cases c35 : t187 = t195
     ·rw [if_pos c35] at H
      have c35b0 : (t187 == t195) = true := beq_iff_eq.mpr c35
      have c35b1 : (t187 != t195) = false := bne_eq_false_iff_eq.mpr c35
      clear c35
      (first | rw [c35b0] | (simp only [i64_w,i32_w];rw [c35b0]) | skip)
      by_cases c36 : t195 = t203
      ·rw [if_pos c36] at H
       have c36b0 : (t195 == t203) = true := beq_iff_eq.mpr c36
       have c36b1 : (t195 != t203) = false := bne_eq_false_iff_eq.mpr c36
       clear c36
       have H' := Aside0.mk H
       clear H
       have hnb37 := NB196_175.out
       have hnc37 := NB175_196.out
       have hnb38 := NB196_188.out
       have hnc38 := NB188_196.out
       have hnb39 := NB196_204.out
       have hnc39 := NB204_196.out
       have hcz40_0 : w30.cell? ⟨gb196,0,none⟩ = some (.int .i64 t189) := (blk_cell BK196.out 0).trans rfl
       have hcz40_1 : w30.cell? ⟨gb196,1,none⟩ = some (.int .i64 t190) := (blk_cell BK196.out 1).trans rfl
       have hcz40_2 : w30.cell? ⟨gb196,2,none⟩ = some (.string t191) := (blk_cell BK196.out 2).trans rfl
       have hcz40_3 : w30.cell? ⟨gb196,3,none⟩ = some (.int .i64 t192) := (blk_cell BK196.out 3).trans rfl
       have hcz40_4 : w30.cell? ⟨gb196,4,none⟩ = some (.string t193) := (blk_cell BK196.out 4).trans rfl
       have hcz40_5 : w30.cell? ⟨gb196,5,none⟩ = some (.bool t194) := (blk_cell BK196.out 5).trans rfl
       have hfz40_0 := blk_frozen BK196.out 0
       have hfz40_1 := blk_frozen BK196.out 1
       have hfz40_2 := blk_frozen BK196.out 2
       have hfz40_3 := blk_frozen BK196.out 3
       have hfz40_4 := blk_frozen BK196.out 4
       have hfz40_5 := blk_frozen BK196.out 5
       have hnb41 := NB204_175.out
       have hnc41 := NB175_204.out
       have hnb42 := NB204_188.out
       have hnc42 := NB188_204.out
       have hcz43_0 : w30.cell? ⟨gb204,0,none⟩ = some (.int .i64 0) := (blk_cell BK204.out 0).trans rfl
       have hcz43_1 : w30.cell? ⟨gb204,1,none⟩ = some (.int .i64 0) := (blk_cell BK204.out 1).trans rfl
       have hcz43_2 : w30.cell? ⟨gb204,2,none⟩ = some (.string (⟨#[]⟩ : ByteArray)) := (blk_cell BK204.out 2).trans rfl
       have hcz43_3 : w30.cell? ⟨gb204,3,none⟩ = some (.int .i64 0) := (blk_cell BK204.out 3).trans rfl
       have hcz43_4 : w30.cell? ⟨gb204,4,none⟩ = some (.string (⟨#[]⟩ : ByteArray)) := (blk_cell BK204.out 4).trans rfl
       have hcz43_5 : w30.cell? ⟨gb204,5,none⟩ = some (.bool false) := (blk_cell BK204.out 5).trans rfl
       have hfz43_0 := blk_frozen BK204.out 0
       have hfz43_1 := blk_frozen BK204.out 1
       have hfz43_2 := blk_frozen BK204.out 2
       have hfz43_3 := blk_frozen BK204.out 3
       have hfz43_4 := blk_frozen BK204.out 4
       have hfz43_5 := blk_frozen BK204.out 5
       go_wp2
       go_meet
       case rel => exact ⟨_,(((!(t189 == t197) || (!(t190 == t198) || (!(t191.toList == t199.toList)))) || (!(t192 == t200) || (!(t193.toList == t201.toList) || (!(t194 == t202)))))),au8,H',⟨by first | omega | exact Nat.le_refl _⟩,⟨by (with_reducible repeat (first | refine blk_drewN ?_ _ | refine blk_drew ?_ | refine blk_alloc ?_ _));refine blk_far ?_ NB175_204.out _;(with_reducible repeat (first | refine blk_drewN ?_ _ | refine blk_drew ?_ | refine blk_alloc ?_ _));refine blk_far ?_ NB175_204.out _;(with_reducible repeat (first | refine blk_drewN ?_ _ | refine blk_drew ?_ | refine blk_alloc ?_ _));refine blk_far ?_ NB175_204.out _;(with_reducible repeat (first | refine blk_drewN ?_ _ | refine blk_drew ?_ | refine blk_alloc ?_ _));refine blk_far ?_ NB175_204.out _;(with_reducible repeat (first | refine blk_drewN ?_ _ | refine blk_drew ?_ | refine blk_alloc ?_ _));refine blk_far ?_ NB175_204.out _;(with_reducible repeat (first | refine blk_drewN ?_ _ | refine blk_drew ?_ | refine blk_alloc ?_ _));refine blk_far ?_ NB175_204.out _;(with_reducible repeat (first | refine blk_drewN ?_ _ | refine blk_drew ?_ | refine blk_alloc ?_ _));exact BK175.out⟩,⟨by (with_reducible repeat (first | refine blk_drewN ?_ _ | refine blk_drew ?_ | refine blk_alloc ?_ _));refine blk_far ?_ NB188_204.out _;(with_reducible repeat (first | refine blk_drewN ?_ _ | refine blk_drew ?_ | refine blk_alloc ?_ _));refine blk_far ?_ NB188_204.out _;(with_reducible repeat (first | refine blk_drewN ?_ _ | refine blk_drew ?_ | refine blk_alloc ?_ _));refine blk_far ?_ NB188_204.out _;(with_reducible repeat (first | refine blk_drewN ?_ _ | refine blk_drew ?_ | refine blk_alloc ?_ _));refine blk_far ?_ NB188_204.out _;(with_reducible repeat (first | refine blk_drewN ?_ _ | refine blk_drew ?_ | refine blk_alloc ?_ _));refine blk_far ?_ NB188_204.out _;(with_reducible repeat (first | refine blk_drewN ?_ _ | refine blk_drew ?_ | refine blk_alloc ?_ _));refine blk_far ?_ NB188_204.out _;(with_reducible repeat (first | refine blk_drewN ?_ _ | refine blk_drew ?_ | refine blk_alloc ?_ _));exact BK188.out⟩,⟨by (with_reducible repeat (first | refine blk_drewN ?_ _ | refine blk_drew ?_ | refine blk_alloc ?_ _));refine blk_far ?_ NB196_204.out _;(with_reducible repeat (first | refine blk_drewN ?_ _ | refine blk_drew ?_ | refine blk_alloc ?_ _));refine blk_far ?_ NB196_204.out _;(with_reducible repeat (first | refine blk_drewN ?_ _ | refine blk_drew ?_ | refine blk_alloc ?_ _));refine blk_far ?_ NB196_204.out _;(with_reducible repeat (first | refine blk_drewN ?_ _ | refine blk_drew ?_ | refine blk_alloc ?_ _));refine blk_far ?_ NB196_204.out _;(with_reducible repeat (first | refine blk_drewN ?_ _ | refine blk_drew ?_ | refine blk_alloc ?_ _));refine blk_far ?_ NB196_204.out _;(with_reducible repeat (first | refine blk_drewN ?_ _ | refine blk_drew ?_ | refine blk_alloc ?_ _));refine blk_far ?_ NB196_204.out _;(with_reducible repeat (first | refine blk_drewN ?_ _ | refine blk_drew ?_ | refine blk_alloc ?_ _));exact BK196.out⟩,⟨by (with_reducible repeat (first | refine blk_drewN ?_ _ | refine blk_drew ?_ | refine blk_alloc ?_ _));refine blk_put (cs := #[.int .i64 t197,.int .i64 t198,.string t199,.int .i64 t200,.string t201,.bool false]) ?_ 5 _ rfl;(with_reducible repeat (first | refine blk_drewN ?_ _ | refine blk_drew ?_ | refine blk_alloc ?_ _));refine blk_put (cs := #[.int .i64 t197,.int .i64 t198,.string t199,.int .i64 t200,.string (⟨#[]⟩ : ByteArray),.bool false]) ?_ 4 _ rfl;(with_reducible repeat (first | refine blk_drewN ?_ _ | refine blk_drew ?_ | refine blk_alloc ?_ _));refine blk_put (cs := #[.int .i64 t197,.int .i64 t198,.string t199,.int .i64 0,.string (⟨#[]⟩ : ByteArray),.bool false]) ?_ 3 _ rfl;(with_reducible repeat (first | refine blk_drewN ?_ _ | refine blk_drew ?_ | refine blk_alloc ?_ _));refine blk_put (cs := #[.int .i64 t197,.int .i64 t198,.string (⟨#[]⟩ : ByteArray),.int .i64 0,.string (⟨#[]⟩ : ByteArray),.bool false]) ?_ 2 _ rfl;(with_reducible repeat (first | refine blk_drewN ?_ _ | refine blk_drew ?_ | refine blk_alloc ?_ _));refine blk_put (cs := #[.int .i64 t197,.int .i64 0,.string (⟨#[]⟩ : ByteArray),.int .i64 0,.string (⟨#[]⟩ : ByteArray),.bool false]) ?_ 1 _ rfl;(with_reducible repeat (first | refine blk_drewN ?_ _ | refine blk_drew ?_ | refine blk_alloc ?_ _));refine blk_put (cs := #[.int .i64 0,.int .i64 0,.string (⟨#[]⟩ : ByteArray),.int .i64 0,.string (⟨#[]⟩ : ByteArray),.bool false]) ?_ 0 _ rfl;(with_reducible repeat (first | refine blk_drewN ?_ _ | refine blk_drew ?_ | refine blk_alloc ?_ _));exact BK204.out⟩,⟨by repeat (first | (with_reducible first | exact HB.out | apply below_alloc | apply pw_below_drewN | apply below_drew1 | refine below_set ?_ GE175.out | refine below_set ?_ GE188.out | refine below_set ?_ GE196.out | refine below_set ?_ GE204.out) | exact HB.out)⟩⟩
      ·rw [if_neg c36] at H
       exfalso
       subst hr_
       cases k <;> simp [bodkinlaw17_ChangeCounts.j0] at H
     ·rw [if_neg c35] at H
      exfalso
      subst hr_
      cases k <;> simp [bodkinlaw17_ChangeCounts.j0] at H
    case rest =>
     clear HC11
     try clear p1
     try clear q1
     try clear hx1
     try clear c2
     try clear p2
     try clear c3
     try clear c4
     try clear c6
     try clear c6b0
     try clear p6
     try clear c7
     try clear c7b0
     try clear c8
     try clear c9
     try clear p18
     try clear q18
     try clear hx18
     try clear c20
     try clear c25
     try clear c26
     try clear c31
     try clear c32
     try clear c33
     try clear c35
     try clear c35b0
     try clear c35b1
     try clear c36
     try clear c36b0
     try clear c36b1
     try clear c37
     try clear c38
     try clear c39
     try clear c41
     try clear c42
     try clear hcz16_0
     try clear hcz16_1
     try clear hcz16_2
     try clear hcz16_3
     try clear hcz21_0
     try clear hcz21_1
     try clear hcz21_2
     try clear hcz21_3
     try clear hcz21_4
     try clear hcz21_5
     try clear hcz22_0
     try clear hcz22_1
     try clear hcz22_2
     try clear hcz22_3
     try clear hcz27_0
     try clear hcz27_1
     try clear hcz27_2
     try clear hcz27_3
     try clear hcz27_4
     try clear hcz27_5
     try clear hcz28_0
     try clear hcz28_1
     try clear hcz28_2
     try clear hcz28_3
     try clear hcz34_0
     try clear hcz34_1
     try clear hcz34_2
     try clear hcz34_3
     try clear hcz34_4
     try clear hcz34_5
     try clear hcz40_0
     try clear hcz40_1
     try clear hcz40_2
     try clear hcz40_3
     try clear hcz40_4
     try clear hcz40_5
     try clear hcz43_0
     try clear hcz43_1
     try clear hcz43_2
     try clear hcz43_3
     try clear hcz43_4
     try clear hcz43_5
     try clear hfz16_0
     try clear hfz16_1
     try clear hfz16_2
     try clear hfz16_3
     try clear hfz21_0
     try clear hfz21_1
     try clear hfz21_2
     try clear hfz21_3
     try clear hfz21_4
     try clear hfz21_5
     try clear hfz22_0
     try clear hfz22_1
     try clear hfz22_2
     try clear hfz22_3
     try clear hfz27_0
     try clear hfz27_1
     try clear hfz27_2
     try clear hfz27_3
     try clear hfz27_4
     try clear hfz27_5
     try clear hfz28_0
     try clear hfz28_1
     try clear hfz28_2
     try clear hfz28_3
     try clear hfz34_0
     try clear hfz34_1
     try clear hfz34_2
     try clear hfz34_3
     try clear hfz34_4
     try clear hfz34_5
     try clear hfz40_0
     try clear hfz40_1
     try clear hfz40_2
     try clear hfz40_3
     try clear hfz40_4
     try clear hfz40_5
     try clear hfz43_0
     try clear hfz43_1
     try clear hfz43_2
     try clear hfz43_3
     try clear hfz43_4
     try clear hfz43_5
     try clear hx180_0
     try clear p180
     try clear q180
     obtain ⟨kq,x80_10,rfl,HA,HJ10,BK175,BK188,BK196,BK204,HB⟩ := hcut
     cases kq with
     | zero => exact absurd HA.out (by simp [bodkinlaw17_ChangeCounts.j0])
     | succ kj10 =>
      have H := HA.out
      clear HA
      simp only [bodkinlaw17_ChangeCounts.j0] at H
      by_cases c44 : x80_10 = true
      ·subst c44
       have H1 : (some false) = some r := by rw [if_pos rfl] at H;exact H
       clear H
       have H := H1
       clear H1
       obtain rfl := Option.some.inj H
       cases hr_
      ·replace c44 := Bool.eq_false_iff.mpr c44
       subst c44
       have H1 : (if t187 = 0 then (bodkinlaw17_ChangeCounts.l0 kj10 a0 (rd y177 (ji5)) (wrap64 (1 + (Int.tmod (wrap64 ((Int.tmod a1_1 5) + 5)) 5))) 0 t181 0 t181 t182 t183 t184 t185 t186) else (some (t187 == 8))) = some r := by rw [if_neg (show ¬ (false = true) by decide)] at H;exact H
       clear H
       have H := H1
       clear H1
       by_cases c45 : t187 = 0
       ·rw [if_pos c45] at H
        have c45b0 : (t187 == 0) = true := beq_iff_eq.mpr c45
        have c45b1 : (t187 != 0) = false := bne_eq_false_iff_eq.mpr c45
        clear c45
        have H' := Aside0.mk H
        clear H
        have hnb46 := NB188_175.out
        have hnc46 := NB175_188.out
        have hnb47 := NB188_196.out
        have hnc47 := NB196_188.out
        have hnb48 := NB188_204.out
        have hnc48 := NB204_188.out
        have hcz49_0 : wc.cell? ⟨gb188,0,none⟩ = some (.int .i64 t181) := (blk_cell BK188.out 0).trans rfl
        have hcz49_1 : wc.cell? ⟨gb188,1,none⟩ = some (.int .i64 t182) := (blk_cell BK188.out 1).trans rfl
        have hcz49_2 : wc.cell? ⟨gb188,2,none⟩ = some (.string t183) := (blk_cell BK188.out 2).trans rfl
        have hcz49_3 : wc.cell? ⟨gb188,3,none⟩ = some (.int .i64 t184) := (blk_cell BK188.out 3).trans rfl
        have hcz49_4 : wc.cell? ⟨gb188,4,none⟩ = some (.string t185) := (blk_cell BK188.out 4).trans rfl
        have hcz49_5 : wc.cell? ⟨gb188,5,none⟩ = some (.bool t186) := (blk_cell BK188.out 5).trans rfl
        have hfz49_0 := blk_frozen BK188.out 0
        have hfz49_1 := blk_frozen BK188.out 1
        have hfz49_2 := blk_frozen BK188.out 2
        have hfz49_3 := blk_frozen BK188.out 3
        have hfz49_4 := blk_frozen BK188.out 4
        have hfz49_5 := blk_frozen BK188.out 5
        go_wp2
        go_loopg [14,16] kj10 (fun kq v14 v16 w' => ∃ (x14_2 : Int) (x16_2 : Int),v14 = .int .i64 x14_2 ∧ v16 = .int .i64 x16_2 ∧ Aside0 (bodkinlaw17_ChangeCounts.l0 kq a0 (rd y177 (ji5)) (wrap64 (1 + (Int.tmod (wrap64 ((Int.tmod a1_1 5) + 5)) 5))) x14_2 t181 x16_2 t181 t182 t183 t184 t185 t186 = some r) ∧ Aside0 (kq ≤ kj10) ∧ Aside0 (w'.heap[gb175]? = some (.cells #[.int .i64 a1_0,.int .i64 a1_1,.int .i64 a1_2,.int .i64 a1_3] 23 (0,0))) ∧ Aside0 (w'.heap[gb188]? = some (.cells #[.int .i64 t181,.int .i64 t182,.string t183,.int .i64 t184,.string t185,.bool t186] 30 (0,0))) ∧ Aside0 (w'.heap[gb196]? = some (.cells #[.int .i64 t189,.int .i64 t190,.string t191,.int .i64 t192,.string t193,.bool t194] 30 (0,0))) ∧ Aside0 (w'.heap[gb204]? = some (.cells #[.int .i64 t197,.int .i64 t198,.string t199,.int .i64 t200,.string t201,.bool t202] 30 (0,0))) ∧ Aside0 (Below w.heap.size w w'))
        case atStart => exact ⟨(0),(0),au8,au8,H',⟨Nat.le_refl _⟩,⟨by (with_reducible repeat (first | refine blk_drewN ?_ _ | refine blk_drew ?_ | refine blk_alloc ?_ _));exact BK175.out⟩,⟨by (with_reducible repeat (first | refine blk_drewN ?_ _ | refine blk_drew ?_ | refine blk_alloc ?_ _));exact BK188.out⟩,⟨by (with_reducible repeat (first | refine blk_drewN ?_ _ | refine blk_drew ?_ | refine blk_alloc ?_ _));exact BK196.out⟩,⟨by (with_reducible repeat (first | refine blk_drewN ?_ _ | refine blk_drew ?_ | refine blk_alloc ?_ _));exact BK204.out⟩,⟨by repeat (first | (with_reducible first | exact HB.out | apply below_alloc | apply pw_below_drewN | apply below_drew1 | refine below_set ?_ GE175.out | refine below_set ?_ GE188.out | refine below_set ?_ GE196.out | refine below_set ?_ GE204.out) | exact HB.out)⟩⟩
        case round =>
         clear H'
         try clear p1
         try clear q1
         try clear hx1
         try clear c2
         try clear p2
         try clear c3
         try clear c4
         try clear c6
         try clear c6b0
         try clear p6
         try clear c7
         try clear c7b0
         try clear c8
         try clear c9
         try clear p18
         try clear q18
         try clear hx18
         try clear c20
         try clear c25
         try clear c26
         try clear c31
         try clear c32
         try clear c33
         try clear c35
         try clear c35b0
         try clear c35b1
         try clear c36
         try clear c36b0
         try clear c36b1
         try clear c37
         try clear c38
         try clear c39
         try clear c41
         try clear c42
         try clear c44
         try clear c45
         try clear c45b0
         try clear c45b1
         try clear c46
         try clear c47
         try clear c48
         try clear hcz16_0
         try clear hcz16_1
         try clear hcz16_2
         try clear hcz16_3
         try clear hcz21_0
         try clear hcz21_1
         try clear hcz21_2
         try clear hcz21_3
         try clear hcz21_4
         try clear hcz21_5
         try clear hcz22_0
         try clear hcz22_1
         try clear hcz22_2
         try clear hcz22_3
         try clear hcz27_0
         try clear hcz27_1
         try clear hcz27_2
         try clear hcz27_3
         try clear hcz27_4
         try clear hcz27_5
         try clear hcz28_0
         try clear hcz28_1
         try clear hcz28_2
         try clear hcz28_3
         try clear hcz34_0
         try clear hcz34_1
         try clear hcz34_2
         try clear hcz34_3
         try clear hcz34_4
         try clear hcz34_5
         try clear hcz40_0
         try clear hcz40_1
         try clear hcz40_2
         try clear hcz40_3
         try clear hcz40_4
         try clear hcz40_5
         try clear hcz43_0
         try clear hcz43_1
         try clear hcz43_2
         try clear hcz43_3
         try clear hcz43_4
         try clear hcz43_5
         try clear hcz49_0
         try clear hcz49_1
         try clear hcz49_2
         try clear hcz49_3
         try clear hcz49_4
         try clear hcz49_5
         try clear hfz16_0
         try clear hfz16_1
         try clear hfz16_2
         try clear hfz16_3
         try clear hfz21_0
         try clear hfz21_1
         try clear hfz21_2
         try clear hfz21_3
         try clear hfz21_4
         try clear hfz21_5
         try clear hfz22_0
         try clear hfz22_1
         try clear hfz22_2
         try clear hfz22_3
         try clear hfz27_0
         try clear hfz27_1
         try clear hfz27_2
         try clear hfz27_3
         try clear hfz27_4
         try clear hfz27_5
         try clear hfz28_0
         try clear hfz28_1
         try clear hfz28_2
         try clear hfz28_3
         try clear hfz34_0
         try clear hfz34_1
         try clear hfz34_2
         try clear hfz34_3
         try clear hfz34_4
         try clear hfz34_5
         try clear hfz40_0
         try clear hfz40_1
         try clear hfz40_2
         try clear hfz40_3
         try clear hfz40_4
         try clear hfz40_5
         try clear hfz43_0
         try clear hfz43_1
         try clear hfz43_2
         try clear hfz43_3
         try clear hfz43_4
         try clear hfz43_5
         try clear hfz49_0
         try clear hfz49_1
         try clear hfz49_2
         try clear hfz49_3
         try clear hfz49_4
         try clear hfz49_5
         try clear hx180_0
         try clear p1
         try clear p18
         try clear p180
         try clear p2
         try clear p6
         try clear q1
         try clear q18
         try clear q180
         obtain ⟨x14_2,x16_2,rfl,rfl,HA,HK2,BK175,BK188,BK196,BK204,HB⟩ := hrel
         cases gk with
         | zero => exact absurd HA.out (by simp [bodkinlaw17_ChangeCounts.l0])
         | succ k2 =>
          have H := HA.out
          clear HA
          simp only [bodkinlaw17_ChangeCounts.l0] at H
          by_cases c50 : x16_2 < (wrap64 (1 + (Int.tmod (wrap64 ((Int.tmod a1_1 5) + 5)) 5)))
          ·rw [if_pos c50] at H
           have c50b0 : decide (x16_2 < (wrap64 (1 + (Int.tmod (wrap64 ((Int.tmod a1_1 5) + 5)) 5)))) = true := decide_eq_true c50
           clear c50
           replace H := Option.bind_eq_some_iff.mp H
           obtain ⟨⟨t205,t206,t207,t208,t209,t210,t211⟩,A510,H⟩ := H
           replace H : (if t211 = 0 then (if t205 = (wrap64 (t181 + x14_2)) then (bodkinlaw17_ChangeCounts.l0 k2 a0 (rd y177 (ji5)) (wrap64 (1 + (Int.tmod (wrap64 ((Int.tmod a1_1 5) + 5)) 5))) (wrap64 (x14_2 + t206)) t181 (wrap64 (x16_2 + 1)) t181 t182 t183 t184 t185 t186) else (some false)) else (if (t181 == t181 && (t182 == x14_2 && (t183.toList == ([] : List UInt8)))) = true then (some (t184 == t181)) else (some false))) = some r := H
           have A51 := Aside0.mk A510
           clear A510
           by_cases c52 : t211 = 0
           ·rw [if_pos c52] at H
            have c52b0 : (t211 == 0) = true := beq_iff_eq.mpr c52
            have c52b1 : (t211 != 0) = false := bne_eq_false_iff_eq.mpr c52
            clear c52
            by_cases c53 : t205 = (wrap64 (t181 + x14_2))
            ·rw [if_pos c53] at H
             have c53b0 : (t205 == (wrap64 (t181 + x14_2))) = true := beq_iff_eq.mpr c53
             have c53b1 : (t205 != (wrap64 (t181 + x14_2))) = false := bne_eq_false_iff_eq.mpr c53
             clear c53
             have H' := Aside0.mk H
             clear H
             go_wp2_with (first | ((with_reducible refine gate_callee (f := 9) rfl ?_);refine goesL_ (some 100) rfl rfl Tryd.func9 (by kernel_rfl) rfl #[.agg #[.int .i64 (rd y177 (ji5)),.int .i64 1,.string (⟨#[]⟩ : ByteArray),.int .u8 0],.string a0,.int .i64 (wrap64 (t181 + x14_2)),.int .i64 (-1)] rfl (by (try simp only [List.map_toArray,List.map_cons,List.map_nil]);first | done | (simp only [hji5];rfl) | rfl | (simp only [List.length_drop,List.length_take];rfl)) ?_;(with_reducible refine (change_Of.calls (rd y177 (ji5)) 1 (⟨#[]⟩ : ByteArray) 0 a0 (wrap64 (t181 + x14_2)) (-1) t205 t206 t207 t208 t209 t210 t211 _ ?side1 A51.out).mono ?_);(case side1 => exact tabs_below HT.out au9);rintro e w54 ⟨rfl,hb⟩;refine ⟨_,rfl,?_⟩;have n0_ := Aside0.mk (blk_below (g := gb175) (o := .cells #[.int .i64 a1_0,.int .i64 a1_1,.int .i64 a1_2,.int .i64 a1_3] 23 (0,0)) au12 hb);have n1_ := Aside0.mk (blk_below (g := gb188) (o := .cells #[.int .i64 t181,.int .i64 t182,.string t183,.int .i64 t184,.string t185,.bool t186] 30 (0,0)) au16 hb);have n2_ := Aside0.mk (blk_below (g := gb196) (o := .cells #[.int .i64 t189,.int .i64 t190,.string t191,.int .i64 t192,.string t193,.bool t194] 30 (0,0)) au21 hb);have n3_ := Aside0.mk (blk_below (g := gb204) (o := .cells #[.int .i64 t197,.int .i64 t198,.string t199,.int .i64 t200,.string t201,.bool t202] 30 (0,0)) au36 hb);have n4_ := Aside0.mk (below_step au9 hb);clear BK175;clear BK188;clear BK196;clear BK204;clear HB;have BK175 := n0_;have BK188 := n1_;have BK196 := n2_;have BK204 := n3_;have HB := n4_;clear n0_ n1_ n2_ n3_ n4_;(try clear hb);(try clear hb2);(try clear hk);(try clear hi)) | ((with_reducible refine gate_dst (N := 17) rfl ?_);refine box_event ?hg (N := 17) ?hd (cs := #[.int .i64 0,.int .i64 0,.string (⟨#[]⟩ : ByteArray),.int .i64 0,.string (⟨#[]⟩ : ByteArray),.bool false]) (t := 30) ?hr ?_;(case hd => rfl);(case hg => rfl);(case hr => first | (go_simp;done) | (go_simp;rfl));intro gb212 hg w55 hbox hb;have n0_ := Aside0.mk (blk_below (g := gb175) (o := .cells #[.int .i64 a1_0,.int .i64 a1_1,.int .i64 a1_2,.int .i64 a1_3] 23 (0,0)) au12 hb);have n1_ := Aside0.mk (blk_below (g := gb188) (o := .cells #[.int .i64 t181,.int .i64 t182,.string t183,.int .i64 t184,.string t185,.bool t186] 30 (0,0)) au16 hb);have n2_ := Aside0.mk (blk_below (g := gb196) (o := .cells #[.int .i64 t189,.int .i64 t190,.string t191,.int .i64 t192,.string t193,.bool t194] 30 (0,0)) au21 hb);have n3_ := Aside0.mk (blk_below (g := gb204) (o := .cells #[.int .i64 t197,.int .i64 t198,.string t199,.int .i64 t200,.string t201,.bool t202] 30 (0,0)) au36 hb);have n4_ := Aside0.mk (below_step au9 hb);have n5_ := Aside0.mk (hbox);have n6_ := Aside0.mk ((by rw [hg];exact (below_size au9) : w.heap.size ≤ gb212));have n7_ := Aside0.mk ((by rw [hg];exact (below_size au9) : w.heap.size ≤ gb212));have n8_ := Aside0.mk ((by rw [hg];exact Nat.ne_of_lt (blk_lt (g := gb175) (o := .cells #[.int .i64 a1_0,.int .i64 a1_1,.int .i64 a1_2,.int .i64 a1_3] 23 (0,0)) au12) : gb175 ≠ gb212));have n9_ := Aside0.mk ((by rw [hg];exact Nat.ne_of_gt (blk_lt (g := gb175) (o := .cells #[.int .i64 a1_0,.int .i64 a1_1,.int .i64 a1_2,.int .i64 a1_3] 23 (0,0)) au12) : gb212 ≠ gb175));have n10_ := Aside0.mk ((by rw [hg];exact Nat.ne_of_lt (blk_lt (g := gb188) (o := .cells #[.int .i64 t181,.int .i64 t182,.string t183,.int .i64 t184,.string t185,.bool t186] 30 (0,0)) au16) : gb188 ≠ gb212));have n11_ := Aside0.mk ((by rw [hg];exact Nat.ne_of_gt (blk_lt (g := gb188) (o := .cells #[.int .i64 t181,.int .i64 t182,.string t183,.int .i64 t184,.string t185,.bool t186] 30 (0,0)) au16) : gb212 ≠ gb188));have n12_ := Aside0.mk ((by rw [hg];exact Nat.ne_of_lt (blk_lt (g := gb196) (o := .cells #[.int .i64 t189,.int .i64 t190,.string t191,.int .i64 t192,.string t193,.bool t194] 30 (0,0)) au21) : gb196 ≠ gb212));have n13_ := Aside0.mk ((by rw [hg];exact Nat.ne_of_gt (blk_lt (g := gb196) (o := .cells #[.int .i64 t189,.int .i64 t190,.string t191,.int .i64 t192,.string t193,.bool t194] 30 (0,0)) au21) : gb212 ≠ gb196));have n14_ := Aside0.mk ((by rw [hg];exact Nat.ne_of_lt (blk_lt (g := gb204) (o := .cells #[.int .i64 t197,.int .i64 t198,.string t199,.int .i64 t200,.string t201,.bool t202] 30 (0,0)) au36) : gb204 ≠ gb212));have n15_ := Aside0.mk ((by rw [hg];exact Nat.ne_of_gt (blk_lt (g := gb204) (o := .cells #[.int .i64 t197,.int .i64 t198,.string t199,.int .i64 t200,.string t201,.bool t202] 30 (0,0)) au36) : gb212 ≠ gb204));clear BK175;clear BK188;clear BK196;clear BK204;clear HB;have BK175 := n0_;have BK188 := n1_;have BK196 := n2_;have BK204 := n3_;have HB := n4_;have BK212 := n5_;have GW212 := n6_;have GE212 := n7_;have NB175_212 := n8_;have NB212_175 := n9_;have NB188_212 := n10_;have NB212_188 := n11_;have NB196_212 := n12_;have NB212_196 := n13_;have NB204_212 := n14_;have NB212_204 := n15_;clear n0_ n1_ n2_ n3_ n4_ n5_ n6_ n7_ n8_ n9_ n10_ n11_ n12_ n13_ n14_ n15_;clear hb hbox hg;have hnb56 := NB212_175.out;have hnc56 := NB175_212.out;have hnb57 := NB212_188.out;have hnc57 := NB188_212.out;have hnb58 := NB212_196.out;have hnc58 := NB196_212.out;have hnb59 := NB212_204.out;have hnc59 := NB204_212.out;have hcz60_0 : w55.cell? ⟨gb212,0,none⟩ = some (.int .i64 0) := (blk_cell BK212.out 0).trans rfl;have hcz60_1 : w55.cell? ⟨gb212,1,none⟩ = some (.int .i64 0) := (blk_cell BK212.out 1).trans rfl;have hcz60_2 : w55.cell? ⟨gb212,2,none⟩ = some (.string (⟨#[]⟩ : ByteArray)) := (blk_cell BK212.out 2).trans rfl;have hcz60_3 : w55.cell? ⟨gb212,3,none⟩ = some (.int .i64 0) := (blk_cell BK212.out 3).trans rfl;have hcz60_4 : w55.cell? ⟨gb212,4,none⟩ = some (.string (⟨#[]⟩ : ByteArray)) := (blk_cell BK212.out 4).trans rfl;have hcz60_5 : w55.cell? ⟨gb212,5,none⟩ = some (.bool false) := (blk_cell BK212.out 5).trans rfl;have hfz60_0 := blk_frozen BK212.out 0;have hfz60_1 := blk_frozen BK212.out 1;have hfz60_2 := blk_frozen BK212.out 2;have hfz60_3 := blk_frozen BK212.out 3;have hfz60_4 := blk_frozen BK212.out 4;have hfz60_5 := blk_frozen BK212.out 5))
             go_roundg k2
             case measure => have := HJ10.out;have := HK2.out;omega
             case rel => exact ⟨(wrap64 (x14_2 + t206)),(wrap64 (x16_2 + 1)),au8,au8,H',⟨by have := HJ10.out;have := HK2.out;omega⟩,⟨by (with_reducible repeat (first | refine blk_drewN ?_ _ | refine blk_drew ?_ | refine blk_alloc ?_ _));refine blk_far ?_ NB175_212.out _;(with_reducible repeat (first | refine blk_drewN ?_ _ | refine blk_drew ?_ | refine blk_alloc ?_ _));refine blk_far ?_ NB175_212.out _;(with_reducible repeat (first | refine blk_drewN ?_ _ | refine blk_drew ?_ | refine blk_alloc ?_ _));refine blk_far ?_ NB175_212.out _;(with_reducible repeat (first | refine blk_drewN ?_ _ | refine blk_drew ?_ | refine blk_alloc ?_ _));refine blk_far ?_ NB175_212.out _;(with_reducible repeat (first | refine blk_drewN ?_ _ | refine blk_drew ?_ | refine blk_alloc ?_ _));refine blk_far ?_ NB175_212.out _;(with_reducible repeat (first | refine blk_drewN ?_ _ | refine blk_drew ?_ | refine blk_alloc ?_ _));refine blk_far ?_ NB175_212.out _;(with_reducible repeat (first | refine blk_drewN ?_ _ | refine blk_drew ?_ | refine blk_alloc ?_ _));exact BK175.out⟩,⟨by (with_reducible repeat (first | refine blk_drewN ?_ _ | refine blk_drew ?_ | refine blk_alloc ?_ _));refine blk_far ?_ NB188_212.out _;(with_reducible repeat (first | refine blk_drewN ?_ _ | refine blk_drew ?_ | refine blk_alloc ?_ _));refine blk_far ?_ NB188_212.out _;(with_reducible repeat (first | refine blk_drewN ?_ _ | refine blk_drew ?_ | refine blk_alloc ?_ _));refine blk_far ?_ NB188_212.out _;(with_reducible repeat (first | refine blk_drewN ?_ _ | refine blk_drew ?_ | refine blk_alloc ?_ _));refine blk_far ?_ NB188_212.out _;(with_reducible repeat (first | refine blk_drewN ?_ _ | refine blk_drew ?_ | refine blk_alloc ?_ _));refine blk_far ?_ NB188_212.out _;(with_reducible repeat (first | refine blk_drewN ?_ _ | refine blk_drew ?_ | refine blk_alloc ?_ _));refine blk_far ?_ NB188_212.out _;(with_reducible repeat (first | refine blk_drewN ?_ _ | refine blk_drew ?_ | refine blk_alloc ?_ _));exact BK188.out⟩,⟨by (with_reducible repeat (first | refine blk_drewN ?_ _ | refine blk_drew ?_ | refine blk_alloc ?_ _));refine blk_far ?_ NB196_212.out _;(with_reducible repeat (first | refine blk_drewN ?_ _ | refine blk_drew ?_ | refine blk_alloc ?_ _));refine blk_far ?_ NB196_212.out _;(with_reducible repeat (first | refine blk_drewN ?_ _ | refine blk_drew ?_ | refine blk_alloc ?_ _));refine blk_far ?_ NB196_212.out _;(with_reducible repeat (first | refine blk_drewN ?_ _ | refine blk_drew ?_ | refine blk_alloc ?_ _));refine blk_far ?_ NB196_212.out _;(with_reducible repeat (first | refine blk_drewN ?_ _ | refine blk_drew ?_ | refine blk_alloc ?_ _));refine blk_far ?_ NB196_212.out _;(with_reducible repeat (first | refine blk_drewN ?_ _ | refine blk_drew ?_ | refine blk_alloc ?_ _));refine blk_far ?_ NB196_212.out _;(with_reducible repeat (first | refine blk_drewN ?_ _ | refine blk_drew ?_ | refine blk_alloc ?_ _));exact BK196.out⟩,⟨by (with_reducible repeat (first | refine blk_drewN ?_ _ | refine blk_drew ?_ | refine blk_alloc ?_ _));refine blk_far ?_ NB204_212.out _;(with_reducible repeat (first | refine blk_drewN ?_ _ | refine blk_drew ?_ | refine blk_alloc ?_ _));refine blk_far ?_ NB204_212.out _;(with_reducible repeat (first | refine blk_drewN ?_ _ | refine blk_drew ?_ | refine blk_alloc ?_ _));refine blk_far ?_ NB204_212.out _;(with_reducible repeat (first | refine blk_drewN ?_ _ | refine blk_drew ?_ | refine blk_alloc ?_ _));refine blk_far ?_ NB204_212.out _;(with_reducible repeat (first | refine blk_drewN ?_ _ | refine blk_drew ?_ | refine blk_alloc ?_ _));refine blk_far ?_ NB204_212.out _;(with_reducible repeat (first | refine blk_drewN ?_ _ | refine blk_drew ?_ | refine blk_alloc ?_ _));refine blk_far ?_ NB204_212.out _;(with_reducible repeat (first | refine blk_drewN ?_ _ | refine blk_drew ?_ | refine blk_alloc ?_ _));exact BK204.out⟩,⟨by repeat (first | (with_reducible first | exact HB.out | apply below_alloc | apply pw_below_drewN | apply below_drew1 | refine below_set ?_ GE175.out | refine below_set ?_ GE188.out | refine below_set ?_ GE196.out | refine below_set ?_ GE204.out | refine below_set ?_ GE212.out) | exact HB.out)⟩⟩
            ·rw [if_neg c53] at H
             have c53b0 : (t205 == (wrap64 (t181 + x14_2))) = false := beq_eq_false_iff_ne.mpr c53
             have c53b1 : (t205 != (wrap64 (t181 + x14_2))) = true := bne_iff_ne.mpr c53
             obtain rfl := Option.some.inj H
             cases hr_
           ·rw [if_neg c52] at H
            have c52b0 : (t211 == 0) = false := beq_eq_false_iff_ne.mpr c52
            have c52b1 : (t211 != 0) = true := bne_iff_ne.mpr c52
            by_cases c68 : (t181 == t181 && (t182 == x14_2 && (t183.toList == ([] : List UInt8)))) = true
            ·rw [if_pos c68] at H
             have c68b0 : (t181 == t181 && (t182 == x14_2 && (t183.toList == ([] : List UInt8)))) = true := c68
             have c68z := c68
             simp only [beq_self_eq_true,Bool.true_and,Bool.and_eq_true,beq_iff_eq] at c68z
             (try (have c68b1 : decide (t181 = t181 && (t182 == x14_2 && (t183.toList == ([] : List UInt8)))) = true := by simpa using c68))
             (try (have c68b2 : (t181 == t181 && (t182 == x14_2 && (t183.toList == ([] : List UInt8)))) = true := by simpa using c68))
             clear c68
             obtain rfl := Option.some.inj H
             go_wp2_with (first | ((with_reducible refine gate_callee (f := 9) rfl ?_);refine goesL_ (some 100) rfl rfl Tryd.func9 (by kernel_rfl) rfl #[.agg #[.int .i64 (rd y177 (ji5)),.int .i64 1,.string (⟨#[]⟩ : ByteArray),.int .u8 0],.string a0,.int .i64 (wrap64 (t181 + x14_2)),.int .i64 (-1)] rfl (by (try simp only [List.map_toArray,List.map_cons,List.map_nil]);first | done | (simp only [hji5];rfl) | rfl | (simp only [List.length_drop,List.length_take];rfl)) ?_;(with_reducible refine (change_Of.calls (rd y177 (ji5)) 1 (⟨#[]⟩ : ByteArray) 0 a0 (wrap64 (t181 + x14_2)) (-1) t205 t206 t207 t208 t209 t210 t211 _ ?side1 A51.out).mono ?_);(case side1 => exact tabs_below HT.out au9);rintro e w69 ⟨rfl,hb⟩;refine ⟨_,rfl,?_⟩;have n0_ := Aside0.mk (blk_below (g := gb175) (o := .cells #[.int .i64 a1_0,.int .i64 a1_1,.int .i64 a1_2,.int .i64 a1_3] 23 (0,0)) au12 hb);have n1_ := Aside0.mk (blk_below (g := gb188) (o := .cells #[.int .i64 t181,.int .i64 t182,.string t183,.int .i64 t184,.string t185,.bool t186] 30 (0,0)) au16 hb);have n2_ := Aside0.mk (blk_below (g := gb196) (o := .cells #[.int .i64 t189,.int .i64 t190,.string t191,.int .i64 t192,.string t193,.bool t194] 30 (0,0)) au21 hb);have n3_ := Aside0.mk (blk_below (g := gb204) (o := .cells #[.int .i64 t197,.int .i64 t198,.string t199,.int .i64 t200,.string t201,.bool t202] 30 (0,0)) au36 hb);have n4_ := Aside0.mk (below_step au9 hb);clear BK175;clear BK188;clear BK196;clear BK204;clear HB;have BK175 := n0_;have BK188 := n1_;have BK196 := n2_;have BK204 := n3_;have HB := n4_;clear n0_ n1_ n2_ n3_ n4_;(try clear hb);(try clear hb2);(try clear hk);(try clear hi)) | ((with_reducible refine gate_dst (N := 17) rfl ?_);refine box_event ?hg (N := 17) ?hd (cs := #[.int .i64 0,.int .i64 0,.string (⟨#[]⟩ : ByteArray),.int .i64 0,.string (⟨#[]⟩ : ByteArray),.bool false]) (t := 30) ?hr ?_;(case hd => rfl);(case hg => rfl);(case hr => first | (go_simp;done) | (go_simp;rfl));intro gb212 hg w70 hbox hb;have n0_ := Aside0.mk (blk_below (g := gb175) (o := .cells #[.int .i64 a1_0,.int .i64 a1_1,.int .i64 a1_2,.int .i64 a1_3] 23 (0,0)) au12 hb);have n1_ := Aside0.mk (blk_below (g := gb188) (o := .cells #[.int .i64 t181,.int .i64 t182,.string t183,.int .i64 t184,.string t185,.bool t186] 30 (0,0)) au16 hb);have n2_ := Aside0.mk (blk_below (g := gb196) (o := .cells #[.int .i64 t189,.int .i64 t190,.string t191,.int .i64 t192,.string t193,.bool t194] 30 (0,0)) au21 hb);have n3_ := Aside0.mk (blk_below (g := gb204) (o := .cells #[.int .i64 t197,.int .i64 t198,.string t199,.int .i64 t200,.string t201,.bool t202] 30 (0,0)) au36 hb);have n4_ := Aside0.mk (below_step au9 hb);have n5_ := Aside0.mk (hbox);have n6_ := Aside0.mk ((by rw [hg];exact (below_size au9) : w.heap.size ≤ gb212));have n7_ := Aside0.mk ((by rw [hg];exact (below_size au9) : w.heap.size ≤ gb212));have n8_ := Aside0.mk ((by rw [hg];exact Nat.ne_of_lt (blk_lt (g := gb175) (o := .cells #[.int .i64 a1_0,.int .i64 a1_1,.int .i64 a1_2,.int .i64 a1_3] 23 (0,0)) au12) : gb175 ≠ gb212));have n9_ := Aside0.mk ((by rw [hg];exact Nat.ne_of_gt (blk_lt (g := gb175) (o := .cells #[.int .i64 a1_0,.int .i64 a1_1,.int .i64 a1_2,.int .i64 a1_3] 23 (0,0)) au12) : gb212 ≠ gb175));have n10_ := Aside0.mk ((by rw [hg];exact Nat.ne_of_lt (blk_lt (g := gb188) (o := .cells #[.int .i64 t181,.int .i64 t182,.string t183,.int .i64 t184,.string t185,.bool t186] 30 (0,0)) au16) : gb188 ≠ gb212));have n11_ := Aside0.mk ((by rw [hg];exact Nat.ne_of_gt (blk_lt (g := gb188) (o := .cells #[.int .i64 t181,.int .i64 t182,.string t183,.int .i64 t184,.string t185,.bool t186] 30 (0,0)) au16) : gb212 ≠ gb188));have n12_ := Aside0.mk ((by rw [hg];exact Nat.ne_of_lt (blk_lt (g := gb196) (o := .cells #[.int .i64 t189,.int .i64 t190,.string t191,.int .i64 t192,.string t193,.bool t194] 30 (0,0)) au21) : gb196 ≠ gb212));have n13_ := Aside0.mk ((by rw [hg];exact Nat.ne_of_gt (blk_lt (g := gb196) (o := .cells #[.int .i64 t189,.int .i64 t190,.string t191,.int .i64 t192,.string t193,.bool t194] 30 (0,0)) au21) : gb212 ≠ gb196));have n14_ := Aside0.mk ((by rw [hg];exact Nat.ne_of_lt (blk_lt (g := gb204) (o := .cells #[.int .i64 t197,.int .i64 t198,.string t199,.int .i64 t200,.string t201,.bool t202] 30 (0,0)) au36) : gb204 ≠ gb212));have n15_ := Aside0.mk ((by rw [hg];exact Nat.ne_of_gt (blk_lt (g := gb204) (o := .cells #[.int .i64 t197,.int .i64 t198,.string t199,.int .i64 t200,.string t201,.bool t202] 30 (0,0)) au36) : gb212 ≠ gb204));clear BK175;clear BK188;clear BK196;clear BK204;clear HB;have BK175 := n0_;have BK188 := n1_;have BK196 := n2_;have BK204 := n3_;have HB := n4_;have BK212 := n5_;have GW212 := n6_;have GE212 := n7_;have NB175_212 := n8_;have NB212_175 := n9_;have NB188_212 := n10_;have NB212_188 := n11_;have NB196_212 := n12_;have NB212_196 := n13_;have NB204_212 := n14_;have NB212_204 := n15_;clear n0_ n1_ n2_ n3_ n4_ n5_ n6_ n7_ n8_ n9_ n10_ n11_ n12_ n13_ n14_ n15_;clear hb hbox hg;have hnb71 := NB212_175.out;have hnc71 := NB175_212.out;have hnb72 := NB212_188.out;have hnc72 := NB188_212.out;have hnb73 := NB212_196.out;have hnc73 := NB196_212.out;have hnb74 := NB212_204.out;have hnc74 := NB204_212.out;have hcz75_0 : w70.cell? ⟨gb212,0,none⟩ = some (.int .i64 0) := (blk_cell BK212.out 0).trans rfl;have hcz75_1 : w70.cell? ⟨gb212,1,none⟩ = some (.int .i64 0) := (blk_cell BK212.out 1).trans rfl;have hcz75_2 : w70.cell? ⟨gb212,2,none⟩ = some (.string (⟨#[]⟩ : ByteArray)) := (blk_cell BK212.out 2).trans rfl;have hcz75_3 : w70.cell? ⟨gb212,3,none⟩ = some (.int .i64 0) := (blk_cell BK212.out 3).trans rfl;have hcz75_4 : w70.cell? ⟨gb212,4,none⟩ = some (.string (⟨#[]⟩ : ByteArray)) := (blk_cell BK212.out 4).trans rfl;have hcz75_5 : w70.cell? ⟨gb212,5,none⟩ = some (.bool false) := (blk_cell BK212.out 5).trans rfl;have hfz75_0 := blk_frozen BK212.out 0;have hfz75_1 := blk_frozen BK212.out 1;have hfz75_2 := blk_frozen BK212.out 2;have hfz75_3 := blk_frozen BK212.out 3;have hfz75_4 := blk_frozen BK212.out 4;have hfz75_5 := blk_frozen BK212.out 5;have hnb76 := NB188_175.out;have hnc76 := NB175_188.out;have hnb77 := NB188_196.out;have hnc77 := NB196_188.out;have hnb78 := NB188_204.out;have hnc78 := NB204_188.out;have hcz79_0 : w70.cell? ⟨gb188,0,none⟩ = some (.int .i64 t181) := (blk_cell BK188.out 0).trans rfl;have hcz79_1 : w70.cell? ⟨gb188,1,none⟩ = some (.int .i64 t182) := (blk_cell BK188.out 1).trans rfl;have hcz79_2 : w70.cell? ⟨gb188,2,none⟩ = some (.string t183) := (blk_cell BK188.out 2).trans rfl;have hcz79_3 : w70.cell? ⟨gb188,3,none⟩ = some (.int .i64 t184) := (blk_cell BK188.out 3).trans rfl;have hcz79_4 : w70.cell? ⟨gb188,4,none⟩ = some (.string t185) := (blk_cell BK188.out 4).trans rfl;have hcz79_5 : w70.cell? ⟨gb188,5,none⟩ = some (.bool t186) := (blk_cell BK188.out 5).trans rfl;have hfz79_0 := blk_frozen BK188.out 0;have hfz79_1 := blk_frozen BK188.out 1;have hfz79_2 := blk_frozen BK188.out 2;have hfz79_3 := blk_frozen BK188.out 3;have hfz79_4 := blk_frozen BK188.out 4;have hfz79_5 := blk_frozen BK188.out 5))
             go_ret
             exact ⟨by first | rfl | (simp [errW_none,errW_some] <;> rfl) | (simp only [← hji5];first | rfl | (simp [errW_none,errW_some] <;> rfl)) | (simp [*,errW_none,errW_some] <;> rfl),by repeat (first | (with_reducible first | exact HB.out | apply below_alloc | apply pw_below_drewN | apply below_drew1 | refine below_set ?_ GE175.out | refine below_set ?_ GE188.out | refine below_set ?_ GE196.out | refine below_set ?_ GE204.out | refine below_set ?_ GE212.out) | exact HB.out)⟩
            ·rw [if_neg c68] at H
             have c68b0 : (t181 == t181 && (t182 == x14_2 && (t183.toList == ([] : List UInt8)))) = false := by simpa using c68
             (try (have c68b1 : decide (t181 = t181 && (t182 == x14_2 && (t183.toList == ([] : List UInt8)))) = false := by simpa using c68))
             (try (have c68b2 : (t181 == t181 && (t182 == x14_2 && (t183.toList == ([] : List UInt8)))) = false := by simpa using c68))
             (try (have c68b3 : ¬ (t181 = t181 && (t182 == x14_2 && (t183.toList == ([] : List UInt8)))) := by simpa using c68))
             clear c68
             obtain rfl := Option.some.inj H
             cases hr_
          ·rw [if_neg c50] at H
           have c50b0 : decide (x16_2 < (wrap64 (1 + (Int.tmod (wrap64 ((Int.tmod a1_1 5) + 5)) 5)))) = false := decide_eq_false c50
           clear c50
           by_cases c91 : (t181 == t181 && (t182 == x14_2 && (t183.toList == ([] : List UInt8)))) = true
           ·rw [if_pos c91] at H
            have c91b0 : (t181 == t181 && (t182 == x14_2 && (t183.toList == ([] : List UInt8)))) = true := c91
            have c91z := c91
            simp only [beq_self_eq_true,Bool.true_and,Bool.and_eq_true,beq_iff_eq] at c91z
            (try (have c91b1 : decide (t181 = t181 && (t182 == x14_2 && (t183.toList == ([] : List UInt8)))) = true := by simpa using c91))
            (try (have c91b2 : (t181 == t181 && (t182 == x14_2 && (t183.toList == ([] : List UInt8)))) = true := by simpa using c91))
            clear c91
            obtain rfl := Option.some.inj H
            have hnb92 := NB188_175.out
            have hnc92 := NB175_188.out
            have hnb93 := NB188_196.out
            have hnc93 := NB196_188.out
            have hnb94 := NB188_204.out
            have hnc94 := NB204_188.out
            have hcz95_0 : wr.cell? ⟨gb188,0,none⟩ = some (.int .i64 t181) := (blk_cell BK188.out 0).trans rfl
            have hcz95_1 : wr.cell? ⟨gb188,1,none⟩ = some (.int .i64 t182) := (blk_cell BK188.out 1).trans rfl
            have hcz95_2 : wr.cell? ⟨gb188,2,none⟩ = some (.string t183) := (blk_cell BK188.out 2).trans rfl
            have hcz95_3 : wr.cell? ⟨gb188,3,none⟩ = some (.int .i64 t184) := (blk_cell BK188.out 3).trans rfl
            have hcz95_4 : wr.cell? ⟨gb188,4,none⟩ = some (.string t185) := (blk_cell BK188.out 4).trans rfl
            have hcz95_5 : wr.cell? ⟨gb188,5,none⟩ = some (.bool t186) := (blk_cell BK188.out 5).trans rfl
            have hfz95_0 := blk_frozen BK188.out 0
            have hfz95_1 := blk_frozen BK188.out 1
            have hfz95_2 := blk_frozen BK188.out 2
            have hfz95_3 := blk_frozen BK188.out 3
            have hfz95_4 := blk_frozen BK188.out 4
            have hfz95_5 := blk_frozen BK188.out 5
            go_wp2
            go_ret
            exact ⟨by first | rfl | (simp [errW_none,errW_some] <;> rfl) | (simp only [← hji5];first | rfl | (simp [errW_none,errW_some] <;> rfl)) | (simp [*,errW_none,errW_some] <;> rfl),by repeat (first | (with_reducible first | exact HB.out | apply below_alloc | apply pw_below_drewN | apply below_drew1 | refine below_set ?_ GE175.out | refine below_set ?_ GE188.out | refine below_set ?_ GE196.out | refine below_set ?_ GE204.out) | exact HB.out)⟩
           ·rw [if_neg c91] at H
            have c91b0 : (t181 == t181 && (t182 == x14_2 && (t183.toList == ([] : List UInt8)))) = false := by simpa using c91
            (try (have c91b1 : decide (t181 = t181 && (t182 == x14_2 && (t183.toList == ([] : List UInt8)))) = false := by simpa using c91))
            (try (have c91b2 : (t181 == t181 && (t182 == x14_2 && (t183.toList == ([] : List UInt8)))) = false := by simpa using c91))
            (try (have c91b3 : ¬ (t181 = t181 && (t182 == x14_2 && (t183.toList == ([] : List UInt8)))) := by simpa using c91))
            clear c91
            obtain rfl := Option.some.inj H
            cases hr_
       ·rw [if_neg c45] at H
        have c45b0 : (t187 == 0) = false := beq_eq_false_iff_ne.mpr c45
        have c45b1 : (t187 != 0) = true := bne_iff_ne.mpr c45
        obtain rfl := Option.some.inj H
        go_wp2
        go_ret
        exact ⟨by first | rfl | (simp [errW_none,errW_some] <;> rfl) | (simp only [← hji5];first | rfl | (simp [errW_none,errW_some] <;> rfl)) | (simp [*,errW_none,errW_some] <;> rfl),by repeat (first | (with_reducible first | exact HB.out | apply below_alloc | apply pw_below_drewN | apply below_drew1 | refine below_set ?_ GE175.out | refine below_set ?_ GE188.out | refine below_set ?_ GE196.out | refine below_set ?_ GE204.out) | exact HB.out)⟩
   ·rw [if_neg c7] at H
    exact absurd H (by simp)
  ·rw [if_neg c6] at H
   exact absurd H (by simp)
 ·replace c4 := Bool.eq_false_iff.mpr c4
  subst c4
  have H1 : (some false) = some r := by rw [if_neg (show ¬ (false = true) by decide)] at H;exact H
  clear H
  have H := H1
  clear H1
  obtain rfl := Option.some.inj H
  cases hr_
end Go.Proofs.YtfmnmjoofnbnfaaDoor.U
end
section
namespace Go.Proofs.YtfmnmjoofnbnfaaDoor.Pu
open Go Go.RowKit Go.Proofs.YtfmnmjoofnbnfaaDoor.Mu Go.Proofs.YtfmnmjoofnbnfaaDoor.U Go.Proofs.YtfmnmjoofnbnfaaDoorW.PrintWords Go.Proofs.YtfmnmjoofnbnfaaDoorW.PrintLast Go.Proofs.YtfmnmjoofnbnfaaDoorW.PrintMore
set_option linter.unusedVariables false
set_option linter.unusedSimpArgs false
theorem of_eq {text : ByteArray} (hs : text.size ≤ 549755813888) (kind count : Int) (tx : ByteArray) (mark at_ region : Int) : change_Of.f kind count tx mark text at_ region = some (ofB kind (ruleZ (wkOf text count at_ region)) 13 0) := by
 unfold change_Of.f
 rw [if_pos hs]
theorem snZ_at {s : ByteArray} (hs : s.size ≤ 1099511627776) {a : Int} (h : CBI s a) : snZ s a = a := (snZ_spec s hs a).one (csnapS_at h)
theorem snZ_cb (s : ByteArray) (hs : s.size ≤ 1099511627776) (a : Int) : CBI s (snZ s a) := (snZ_spec s hs a).1
theorem nxZ_end (s : ByteArray) (hs : s.size ≤ 1099511627776) : nxZ s s.size = s.size := by
 have := nxZ_range s hs s.size (by omega) (Int.le_refl _)
 omega
def smp : ByteArray := ⟨#[97,98,32,99,45,100,10,101,102]⟩
theorem smp_size : smp.size = 9 := rfl
theorem smp_cb {a : Int} (h : decide (a ∈ cbndL smp) = true) : CBI smp a := (cbndL_mem smp a).1 (of_decide_eq_true h)
theorem smp_of1 : ofB 17 (ruleZ (wkOf smp 2 6 (-1))) 13 0 = (3,3,⟨#[]⟩,3,⟨#[99,45,100]⟩,true,0) := by
 have e : snZ smp 6 = 6 := snZ_at (by rw [smp_size];omega) (smp_cb (by kernel_rfl))
 have e2 : ofB 17 (ruleZ (wkOf smp 2 6 (-1))) 13 0 = cutZ smp true true (againN (beA smp) 2 (snZ smp 6)) (snZ smp 6) := rfl
 rw [e2,e]
 exact (show cutZ smp true true (againN (beA smp) 2 6) 6 = (3,3,⟨#[]⟩,3,⟨#[99,45,100]⟩,true,0) by kernel_rfl)
theorem smp_of2 : ofB 25 (ruleZ (wkOf smp 0 4 (-1))) 13 0 = (3,3,⟨#[100,45,99]⟩,6,⟨#[]⟩,false,0) := by
 have e : snZ smp 4 = 4 := snZ_at (by rw [smp_size];omega) (smp_cb (by kernel_rfl))
 have e2 : ofB 25 (ruleZ (wkOf smp 0 4 (-1))) 13 0 = trwZ ⟨smp,snZ smp 4,-1,1⟩ := rfl
 rw [e2,e]
 exact (show trwZ ⟨smp,4,-1,1⟩ = (3,3,⟨#[100,45,99]⟩,6,⟨#[]⟩,false,0) by kernel_rfl)
theorem smp_of3 : ofB 14 (ruleZ (wkOf smp 0 9 (-1))) 13 0 = (0,0,⟨#[]⟩,0,⟨#[]⟩,false,8) := by
 have hs : smp.size ≤ 1099511627776 := by rw [smp_size];omega
 have e : snZ smp 9 = 9 := snZ_at hs (cbI_size smp)
 have en : nxZ smp 9 = 9 := nxZ_end smp hs
 have e2 : ofB 14 (ruleZ (wkOf smp 0 9 (-1))) 13 0 = cutZ smp false false (snZ smp 9) (againN (nxZ smp) 1 (snZ smp 9)) := rfl
 rw [e2,e,againN,if_pos en,cutZ,if_pos rfl]
theorem next_a : Ev (fun k => cluster_Next.f k (⟨#[97]⟩ : ByteArray) 0) 1 := Ev.of (fun k => cluster_Next.mono _ _ k) (k := 100) (by kernel_rfl)
theorem awake17_ans : Ev (fun k => bodkinlaw17_awake.f k) true := by
 have hs : smp.size ≤ 549755813888 := by rw [smp_size];omega
 unfold bodkinlaw17_awake.f
 refine Ev.bind next_a (ev_pos rfl ?_)
 refine ev_some (of_eq hs 17 2 _ _ 6 (-1)) ?_
 rw [smp_of1]
 refine ev_some (of_eq hs 25 0 _ _ 4 (-1)) ?_
 rw [smp_of2]
 refine ev_some (of_eq hs 14 0 _ _ 9 (-1)) ?_
 rw [smp_of3]
 exact ev_pos (by kernel_rfl) (ev_pos rfl (ev_pos rfl (ev_pos rfl (ev_pos (by kernel_rfl) (ev_pos rfl (ev_pos rfl (ev_some (a := true) rfl (Ev.now _))))))))
end Go.Proofs.YtfmnmjoofnbnfaaDoor.Pu
end
section
namespace Go.Proofs.YtfmnmjoofnbnfaaDoor.Pu
open Go Go.RowKit Go.Proofs.YtfmnmjoofnbnfaaDoor.Mu Go.Proofs.YtfmnmjoofnbnfaaDoor.U Go.Proofs.YtfmnmjoofnbnfaaDoorW.PrintWords Go.Proofs.YtfmnmjoofnbnfaaDoorW.PrintLast Go.Proofs.YtfmnmjoofnbnfaaDoorW.PrintMore
set_option linter.unusedVariables false
set_option linter.unusedSimpArgs false
theorem bt_byt' (t : ByteArray) (i : Nat) (h : i < t.size) : bt t i = (byt t i : Int) := by
 unfold bt byt
 rw [dif_pos (by omega),get!_eq,List.getD_eq_getElem?_getD]
 have hl : i < t.data.toList.length := by rw [← Lib.size_eq];exact h
 rw [List.getElem?_eq_getElem hl]
 rfl
theorem index_spec (c : UInt8) : ∀ l : List UInt8,(Lib.indexByte l c = -1 ∧ ∀ j : Nat,l[j]? ≠ some c) ∨ ∃ i : Nat,Lib.indexByte l c = i ∧ l[i]? = some c ∧ ∀ j : Nat,j < i → l[j]? ≠ some c
 | [] => .inl ⟨rfl,fun j => by simp⟩
 | b :: l => by
  unfold Lib.indexByte
  by_cases hb : b = c
  ·rw [if_pos (by simp [hb])]
   exact .inr ⟨0,rfl,by simp [hb],fun j hj => by omega⟩
  ·rw [if_neg (by simp [hb])]
   rcases index_spec c l with ⟨h1,h2⟩ | ⟨i,h1,h2,h3⟩
   ·rw [if_pos (by simp [h1])]
    refine .inl ⟨rfl,fun j => ?_⟩
    cases j with
    | zero => simpa using hb
    | succ j => simpa using h2 j
   ·rw [if_neg (by rw [h1,beq_iff_eq];omega)]
    refine .inr ⟨i + 1,by omega,by simpa using h2,fun j hj => ?_⟩
    cases j with
    | zero => simpa using hb
    | succ j => simpa using h3 j (by omega)
theorem tail_at (s : ByteArray) (x j : Nat) (hj : x + j < s.size) : (s.extract x s.size).data.toList[j]? = some (s.get! (x + j)) := by
 rw [Lib.extract_data,List.getElem?_take,if_pos (by omega),List.getElem?_drop,get!_eq,List.getD_eq_getElem?_getD]
 rw [List.getElem?_eq_getElem (by rw [← Lib.size_eq];exact hj)]
 rfl
theorem ten_byt (s : ByteArray) (i : Nat) : s.get! i = 10 ↔ byt s i = 10 := by
 unfold byt
 exact ⟨fun h => by rw [h];rfl,fun h => UInt8.toNat_inj.1 (by rw [h];rfl)⟩
/-- The next newline. -/
theorem nl_spec (s : ByteArray) (x : Nat) (hx : x ≤ s.size) : (nlZ s x = -1 ∧ ∀ j,x ≤ j → j < s.size → byt s j ≠ 10) ∨ ∃ n : Nat,nlZ s x = n ∧ x + n < s.size ∧ byt s (x + n) = 10 ∧ ∀ j,x ≤ j → j < x + n → byt s j ≠ 10 := by
 have hl : (s.extract x s.size).data.toList.length = s.size - x := by
  rw [Array.length_toList]
  exact size_extract _ _ _ (Nat.le_refl _)
 unfold nlZ
 rw [Int.toNat_natCast]
 rcases index_spec 10 (s.extract x s.size).data.toList with ⟨h1,h2⟩ | ⟨n,h1,h2,h3⟩
 ·refine .inl ⟨h1,fun j hj hj2 h => h2 (j - x) ?_⟩
  rw [tail_at s x (j - x) (by omega),show x + (j - x) = j by omega,(ten_byt s j).2 h]
 ·have hn : n < s.size - x := by
   rw [← hl]
   exact (List.getElem?_eq_some_iff.1 h2).1
  rw [tail_at s x n (by omega)] at h2
  refine .inr ⟨n,h1,by omega,(ten_byt s _).1 (Option.some.inj h2),fun j hj hj2 h => h3 (j - x) (by omega) ?_⟩
  rw [tail_at s x (j - x) (by omega),show x + (j - x) = j by omega,(ten_byt s j).2 h]
theorem bd_low (s : ByteArray) (x : Nat) (hx : x < s.size) (h : byt s x < 128) : Bd s x :=
 ⟨by omega,fun j hj => by
  by_cases h2 : x < j + uN s j
  ·have := inner_cont s j x hj h2;omega
  ·omega⟩
theorem cb_nl (s : ByteArray) (x : Nat) (hx : x < s.size) (h : byt s x = 10) (hc : ∀ y,y + 1 = x → byt s y ≠ 13) : CB s x := by
 refine ⟨bd_low s x hx (by omega),fun y hy he hlt => ?_⟩
 rw [(uC_low s x 10 (by omega)).2 h]
 cases hg : glueB (uC s y) 10 with
 | false => rfl
 | true =>
  have hu := (glue_nl _).1 hg
  have h1 := uN_low s y 13 (by omega) hu
  exact absurd ((uC_low s y 13 (by omega)).1 hu) (hc y (by omega))
theorem cb_cr (s : ByteArray) (x : Nat) (hx : x < s.size) (h : byt s x = 13) : CB s x := by
 refine ⟨bd_low s x hx (by omega),fun y hy he hlt => ?_⟩
 rw [(uC_low s x 13 (by omega)).2 h]
 exact glue_cr _
theorem cb_after (s : ByteArray) (x : Nat) (hx : x < s.size) (h : byt s x = 10) : CB s (x + 1) := by
 have hu := (uC_low s x 10 (by omega)).2 h
 have h1 := uN_low s x 10 (by omega) hu
 have hb := bd_low s x hx (by omega)
 have hb1 := bd_next s x hb hx
 rw [h1] at hb1
 refine ⟨hb1,fun y hy he hlt => ?_⟩
 obtain rfl := bd_prev_one s (x + 1) y x hy hb he.symm (by omega)
 rw [hu]
 exact glue_of_nl _
theorem lend_cb (s : ByteArray) (x : Int) (h : CBI s x) : CBI s (lendZ s x).1 ∧ CBI s (lendZ s x).2 := by
 have hr := cbi_range h
 obtain ⟨y,rfl⟩ : ∃ y : Nat,x = y := ⟨x.toNat,by omega⟩
 unfold lendZ
 rcases nl_spec s y (by omega) with ⟨h1,_⟩ | ⟨n,h1,h2,h3,_⟩
 ·rw [h1,if_pos (by omega)]
  exact ⟨cbI_size s,cbI_size s⟩
 ·rw [h1,if_neg (by omega)]
  have ha : CBI s ((y : Int) + n + 1) := by
   have := cb_after s (y + n) h2 h3
   rw [show (y : Int) + n + 1 = ((y + n + 1 : Nat) : Int) by omega,cbI_nat]
   exact this
  by_cases hc : (n : Int) > 0 ∧ bt s ((y : Int) + n - 1) = 13
  ·rw [if_pos hc]
   have hb := hc.2
   rw [show (y : Int) + n - 1 = ((y + n - 1 : Nat) : Int) by omega,bt_byt' s _ (by omega)] at hb
   refine ⟨?_,ha⟩
   rw [show (y : Int) + n - 1 = ((y + n - 1 : Nat) : Int) by omega,cbI_nat]
   exact cb_cr s _ (by omega) (by omega)
  ·rw [if_neg hc]
   refine ⟨?_,ha⟩
   rcases Nat.eq_zero_or_pos n with rfl | hn
   ·rw [show (y : Int) + ((0 : Nat) : Int) = y by omega];exact h
   ·rw [show (y : Int) + n = ((y + n : Nat) : Int) by omega,cbI_nat]
    refine cb_nl s _ h2 h3 (fun z hz hz2 => hc ⟨by omega,?_⟩)
    rw [show (y : Int) + n - 1 = (z : Int) by omega,bt_byt' s _ (by omega),hz2]
    rfl
theorem onw_cb (s : ByteArray) (x : Int) (h : CBI s x) : CBI s (onwZ s x) := by
 have := lend_cb s x h
 unfold onwZ
 split
 ·exact this.2
 ·exact this.1
end Go.Proofs.YtfmnmjoofnbnfaaDoor.Pu
end
section
namespace Go.Proofs.YtfmnmjoofnbnfaaDoor.Pu
open Go Go.RowKit Go.Proofs.YtfmnmjoofnbnfaaDoor.Mu Go.Proofs.YtfmnmjoofnbnfaaDoor.U Go.Proofs.YtfmnmjoofnbnfaaDoorW.PrintWords Go.Proofs.YtfmnmjoofnbnfaaDoorW.PrintLast Go.Proofs.YtfmnmjoofnbnfaaDoorW.PrintMore
set_option linter.unusedVariables false
set_option linter.unusedSimpArgs false
theorem again_fix (F : Int → Int) (x : Int) (h : F x = x) : ∀ n,againN F n x = x
 | 0 => rfl
 | n + 1 => by rw [againN,if_pos h]
/-- From where a step leads on,so do n of them. -/
theorem again_moves (F : Int → Int) (m : Int) (hF : ∀ x,0 ≤ x → x ≤ m → x ≤ F x ∧ F x ≤ m) (n : Nat) (x : Int) (h0 : 0 ≤ x) (h1 : x ≤ m) : againN F (n + 1) x = x ↔ F x = x := by
 have h := hF x h0 h1
 constructor
 ·intro he
  rw [againN] at he
  split at he
  ·assumption
  ·have := again_up F m hF n (F x) (by omega) h.2;omega
 ·intro he;exact again_fix F x he _
theorem nx_cb (s : ByteArray) (hs : s.size ≤ 1099511627776) (x : Int) (_ : CBI s x) : CBI s (nxZ s x) := (nxZ_spec s hs x).1
theorem ah_cb (s : ByteArray) (x : Int) (h : CBI s x) : CBI s (ahA s x) := (ahA_spec s x (cbi_range h).1 (cbi_range h).2).2.2
section
variable {s : ByteArray} {F : Int → Int → Int}
end
end Go.Proofs.YtfmnmjoofnbnfaaDoor.Pu
end
section
namespace Go.Proofs.YtfmnmjoofnbnfaaDoor.Pure
open Go Go.RowKit Go.Proofs.YtfmnmjoofnbnfaaDoor.Mu Go.Proofs.YtfmnmjoofnbnfaaDoor.Pu Go.Proofs.YtfmnmjoofnbnfaaDoor.U Go.Proofs.YtfmnmjoofnbnfaaDoorW.PrintWords Go.Proofs.YtfmnmjoofnbnfaaDoorW.PrintLast Go.Proofs.YtfmnmjoofnbnfaaDoorW.PrintMore
set_option linter.unusedVariables false
set_option linter.unusedSimpArgs false
theorem and7 (a : Int) : 0 ≤ Go.bits .and .i64 a 7 ∧ Go.bits .and .i64 a 7 ≤ 7 := by
 have h : (BitVec.ofInt 64 a &&& BitVec.ofInt 64 7).toNat ≤ 7 := by rw [BitVec.toNat_and];exact Nat.and_le_right
 have e : Go.bits .and .i64 a 7 = IntKind.i64.wrap ((BitVec.ofInt 64 a &&& BitVec.ofInt 64 7).toNat : Int) := rfl
 rw [e,IntKind.wrap_i64]
 omega
def capN (c : Int) : Nat := (if 1000 < (if c < 1 then 1 else c) then (1000 : Int) else (if c < 1 then 1 else c)).toNat
theorem capN_low (c : Int) (h : c ≤ 1) : capN c = 1 := by
 unfold capN
 have e : (if c < 1 then (1 : Int) else c) = 1 := by split <;> omega
 rw [e,if_neg (by omega)];rfl
theorem capN_in (n : Nat) (h : n ≤ 1000) (h1 : 1 ≤ n) : capN n = n := by
 unfold capN
 have e : (if (n : Int) < 1 then (1 : Int) else (n : Int)) = n := by split <;> omega
 rw [e,if_neg (by omega),Int.toNat_natCast]
theorem same_change (r : Res) : ((!(r.1 == r.1) || (!(r.2.1 == r.2.1) || (!(r.2.2.1.toList == r.2.2.1.toList)))) || (!(r.2.2.2.1 == r.2.2.2.1) || (!(r.2.2.2.2.1.toList == r.2.2.2.2.1.toList) || (!(r.2.2.2.2.2.1 == r.2.2.2.2.2.1))))) = false := by simp
/-- One kind whose step leads on. -/
structure Steps (t : ByteArray) (kind : Int) (kk : Bool) (F : Int → Int) : Prop where
 up : ∀ x : Int,0 ≤ x → x ≤ t.size → x ≤ F x ∧ F x ≤ t.size
 cb : ∀ x,CBI t x → CBI t (F x)
 of : ∀ (q : Wk),q.text = t → ofB kind (ruleZ q) 13 0 = cutZ t kk false q.at0 (againN F q.n q.at0)
theorem steps_of (t : ByteArray) (hs : t.size ≤ 1099511627776) (i : Nat) (hi : i < 3) : ∃ kk F,Steps t (rd [14,16,18] (i : Int)) kk F := by
 match i,hi with
 | 0,_ => exact ⟨false,nxZ t,nxZ_range t hs,nx_cb t hs,fun q hq => by subst hq;rfl⟩
 | 1,_ => exact ⟨true,ahA t,ah_range t,ah_cb t,fun q hq => by subst hq;rfl⟩
 | 2,_ => exact ⟨true,onwZ t,onw_range t,onw_cb t,fun q hq => by subst hq;rfl⟩
section
variable {t : ByteArray} {kind : Int} {kk : Bool} {F : Int → Int}
theorem Steps.call (S : Steps t kind kk F) (hs : t.size ≤ 549755813888) (count a : Int) (tx : ByteArray) (mark : Int) : change_Of.f kind count tx mark t a (-1) = some (cutZ t kk false (snZ t a) (againN F (capN count) (snZ t a))) := by
 rw [of_eq hs,S.of _ rfl];rfl
theorem counts_end (p e cut : Int) (kk : Bool) (kill : ByteArray) (h : p + cut = e) : Ev (fun _ => if (p == p && (e - p == cut && ((⟨#[]⟩ : ByteArray).toList == ([] : List UInt8)))) = true then some (p == p) else some false) true := by
 have e0 : (⟨#[]⟩ : ByteArray).toList = [] := by kernel_rfl
 refine ev_pos ?_ (ev_now (by simp))
 rw [e0]
 simp
 omega
theorem counts_loop (S : Steps t kind kk F) (hs : t.size ≤ 549755813888) (n : Nat) (hn : n ≤ 1000) (p e : Int) (hp : 0 ≤ p ∧ p ≤ t.size) (he : p ≤ e ∧ e ≤ t.size) (kill : ByteArray) (fw : Bool) : ∀ (m i : Nat) (cut : Int),i + m = n → CBI t (p + cut) → 0 ≤ cut → againN F m (p + cut) = e →
  Ev (fun k => bodkinlaw17_ChangeCounts.l0 k t kind (n : Int) cut p (i : Int) p (e - p) ⟨#[]⟩ p kill fw) true := by
 intro m
 induction m with
 | zero =>
  intro i cut hi hc h0 hE
  exact Ev.step (fun k => bodkinlaw17_ChangeCounts.l0.eq_2 ..) (ev_neg (by omega) (counts_end p e cut kk kill hE))
 | succ m ih =>
  intro i cut hi hc h0 hE
  have hr := cbi_range hc
  have hF := S.up _ hr.1 hr.2
  have hw : wrap64 (p + cut) = p + cut := w64 (by omega) (by omega)
  refine Ev.step (fun k => bodkinlaw17_ChangeCounts.l0.eq_2 ..) (ev_pos (by omega) ?_)
  rw [hw]
  refine ev_some (S.call hs 1 (p + cut) _ _) ?_
  rw [snZ_at (by omega) hc,capN_low 1 (by omega),againN]
  rw [againN] at hE
  by_cases hfix : F (p + cut) = p + cut
  ·rw [if_pos hfix] at hE ⊢
   rw [cutZ,if_pos rfl]
   exact ev_neg (by decide) (counts_end p e cut kk kill hE)
  ·rw [if_neg hfix] at hE ⊢
   rw [againN,cutZ,if_neg (fun h => hfix h.symm)]
   refine ev_pos rfl (ev_pos rfl ?_)
   have e1 : wrap64 (cut + (F (p + cut) - (p + cut))) = F (p + cut) - p := by rw [w64 (by omega) (by omega)];omega
   have e2 : wrap64 ((i : Int) + 1) = ((i + 1 : Nat) : Int) := by rw [w64 (by omega) (by omega)];omega
   show Ev (fun k => bodkinlaw17_ChangeCounts.l0 k t kind (n : Int) (wrap64 (cut + (F (p + cut) - (p + cut)))) p (wrap64 ((i : Int) + 1)) p (e - p) ⟨#[]⟩ p kill fw) true
   rw [e1,e2]
   have e3 : p + (F (p + cut) - p) = F (p + cut) := by omega
   exact ih (i + 1) (F (p + cut) - p) (by omega) (by rw [e3];exact S.cb _ hc) (by omega) (by rw [e3];exact hE)
theorem counts_all (S : Steps t kind kk F) (hs : t.size ≤ 549755813888) (n : Nat) (h1 : 1 ≤ n) (hn : n ≤ 1000) (a c3 : Int) (hc3 : c3 ≤ 1) (tx : ByteArray) (mark : Int) :
  Ev (fun k => (change_Of.f kind (n : Int) tx mark t a (-1)).bind fun b1 => (change_Of.f kind 1 tx mark t a (-1)).bind fun b2 => (change_Of.f kind c3 tx mark t a (-1)).bind fun b3 =>
   if b1.2.2.2.2.2.2 = b2.2.2.2.2.2.2 then (if b2.2.2.2.2.2.2 = b3.2.2.2.2.2.2 then (bodkinlaw17_ChangeCounts.j0 k t kind (n : Int) b1.2.2.2.2.2.2 ((!(b2.1 == b3.1) || (!(b2.2.1 == b3.2.1) || (!(b2.2.2.1.toList == b3.2.2.1.toList)))) || (!(b2.2.2.2.1 == b3.2.2.2.1) || (!(b2.2.2.2.2.1.toList == b3.2.2.2.2.1.toList) || (!(b2.2.2.2.2.2.1 == b3.2.2.2.2.2.1))))) b1.1 b1.2.1 b1.2.2.1 b1.2.2.2.1 b1.2.2.2.2.1 b1.2.2.2.2.2.1)
    else (bodkinlaw17_ChangeCounts.j0 k t kind (n : Int) b1.2.2.2.2.2.2 true b1.1 b1.2.1 b1.2.2.1 b1.2.2.2.1 b1.2.2.2.2.1 b1.2.2.2.2.2.1))
   else (bodkinlaw17_ChangeCounts.j0 k t kind (n : Int) b1.2.2.2.2.2.2 true b1.1 b1.2.1 b1.2.2.1 b1.2.2.2.1 b1.2.2.2.2.1 b1.2.2.2.2.2.1)) true := by
 have hc : CBI t (snZ t a) := snZ_cb t (by omega) a
 have hr := cbi_range hc
 refine ev_some (S.call hs n a _ _) (ev_some (S.call hs 1 a _ _) (ev_some (S.call hs c3 a _ _) ?_))
 rw [capN_in n hn h1,capN_low 1 (by omega),capN_low c3 hc3]
 generalize snZ t a = p at hc hr
 obtain ⟨m,rfl⟩ : ∃ m,n = m + 1 := ⟨n - 1,by omega⟩
 have hm := again_moves F t.size S.up m p hr.1 hr.2
 have hu := again_up F t.size S.up (m + 1) p hr.1 hr.2
 by_cases hfix : F p = p
 ·rw [hm.2 hfix,again_fix F p hfix 1,cutZ,if_pos rfl]
  refine ev_pos rfl (ev_pos rfl ?_)
  refine Ev.step (fun k => bodkinlaw17_ChangeCounts.j0.eq_2 ..) (ev_neg ?_ (ev_neg (by decide) (ev_now rfl)))
  rw [same_change (0,0,⟨#[]⟩,0,⟨#[]⟩,false,8)]
  decide
 ·have h1 : againN F 1 p = F p := by rw [againN,if_neg hfix];rfl
  have e1 : cutZ t kk false p (againN F 1 p) = (p,F p - p,⟨#[]⟩,p,if kk = true then t.extract p.toNat (F p).toNat else ⟨#[]⟩,kk && false,0) := by rw [h1,cutZ,if_neg (fun h => hfix h.symm)]
  have e2 : cutZ t kk false p (againN F (m + 1) p) = (p,againN F (m + 1) p - p,⟨#[]⟩,p,if kk = true then t.extract p.toNat (againN F (m + 1) p).toNat else ⟨#[]⟩,kk && false,0) := by rw [cutZ,if_neg (fun h => hfix (hm.1 h.symm))]
  rw [e1,e2]
  refine ev_pos rfl (ev_pos rfl ?_)
  refine Ev.step (fun k => bodkinlaw17_ChangeCounts.j0.eq_2 ..) (ev_neg ?_ (ev_pos rfl ?_))
  ·rw [same_change (p,F p - p,⟨#[]⟩,p,if kk = true then t.extract p.toNat (F p).toNat else ⟨#[]⟩,kk && false,0)]
   decide
  ·exact counts_loop S hs (m + 1) hn p (againN F (m + 1) p) hr hu _ _ (m + 1) 0 0 (by omega) (by rw [Int.add_zero];exact hc) (by omega) (by rw [Int.add_zero])
end
theorem ChangeCounts (a0 : ByteArray) (a1_0 a1_1 a1_2 a1_3 : Int) (u0 : a0.size ≤ 1048576) : ∃ k,bodkinlaw17_ChangeCounts.f k a0 a1_0 a1_1 a1_2 a1_3 = some true := by
 apply Ev.rounds
 unfold bodkinlaw17_ChangeCounts.f
 refine Ev.bind awake17_ans (ev_pos rfl (ev_some rfl ?_))
 have m1 : -3 < Int.tmod a1_0 3 ∧ Int.tmod a1_0 3 < 3 := by
  have := Int.tmod_lt_of_pos a1_0 (b := 3) (by omega)
  have := Int.lt_tmod_of_pos a1_0 (b := 3) (by omega)
  omega
 have m2 : -5 < Int.tmod a1_1 5 ∧ Int.tmod a1_1 5 < 5 := by
  have := Int.tmod_lt_of_pos a1_1 (b := 5) (by omega)
  have := Int.lt_tmod_of_pos a1_1 (b := 5) (by omega)
  omega
 generalize Int.tmod a1_0 3 = x at m1
 generalize Int.tmod a1_1 5 = y at m2
 rw [w64 (x := x + 3) (by omega) (by omega),w64 (x := y + 5) (by omega) (by omega)]
 obtain ⟨i,hi,hi3⟩ : ∃ i : Nat,Int.tmod (x + 3) 3 = i ∧ i < 3 := by
  rw [Int.tmod_eq_emod_of_nonneg (by omega)]
  exact ⟨((x + 3) % 3).toNat,by omega,by omega⟩
 obtain ⟨n,hn,hn1,hn2⟩ : ∃ n : Nat,wrap64 (1 + Int.tmod (y + 5) 5) = n ∧ 1 ≤ n ∧ n ≤ 1000 := by
  rw [Int.tmod_eq_emod_of_nonneg (by omega),w64 (by omega) (by omega)]
  exact ⟨(1 + (y + 5) % 5).toNat,by omega,by omega,by omega⟩
 have h7 := and7 a1_1
 obtain ⟨c3,hc3,hc4⟩ : ∃ c3,wrap64 (-(Go.bits .and .i64 a1_1 7)) = c3 ∧ c3 ≤ 1 := ⟨_,rfl,by rw [w64 (by omega) (by omega)];omega⟩
 rw [hi,hn,hc3]
 refine ev_pos (by omega) (ev_pos (by show ((i : Nat) : Int) < ((3 : Nat) : Int);omega) ?_)
 obtain ⟨kk,F,S⟩ := steps_of a0 (by omega) i hi3
 exact counts_all S (by omega) n hn1 hn2 a1_2 c3 hc4 _ _
end Go.Proofs.YtfmnmjoofnbnfaaDoor.Pure
end
section
namespace Go.Proofs.YtfmnmjoofnbnfaaDoor.Lf
open Go.Lib Go.Proofs
theorem own : ownKnob Tryd.prog.godebug = none := by kernel_rfl
theorem laidOut : laidOutB Tryd.prog = true := by kernel_rfl
theorem extra : U8Extra Tryd.prog Tryd.lays260_ren := {
 n3 := by kernel_rfl
 n4 := by kernel_rfl
 y3 := by kernel_rfl
 y4 := by kernel_rfl
 c5 := by kernel_rfl
 c119 := by kernel_rfl
 c138 := by kernel_rfl }
theorem first_eq : Rows.laid_unicode_utf8_first = Lib.firstData := by kernel_rfl
theorem accept_eq : (Rows.laid_unicode_utf8_acceptRanges : DataW Unit) = Lib.acceptData := by kernel_rfl
abbrev laid : List (String × DataW Unit) := [("unicode/utf8.acceptRanges", Rows.laid_unicode_utf8_acceptRanges), ("unicode/utf8.first", Rows.laid_unicode_utf8_first)]
/-- The two tables lie as the contracts ask. -/
theorem tabs {W : World} (h : laidMetH Tryd.prog laid W) : Lib.Utf8Tabs 1 2 W := by
  rw [MakeChecks.laidMetH_plain _ _ _ (by kernel_rfl)] at h
  have h3 := laidMet.reads h (n := "unicode/utf8.first") (d := Rows.laid_unicode_utf8_first) (List.mem_cons_of_mem _ List.mem_cons_self)
  have h4 := laidMet.reads h (n := "unicode/utf8.acceptRanges") (d := Rows.laid_unicode_utf8_acceptRanges) List.mem_cons_self
  rw [first_eq] at h3
  rw [accept_eq] at h4
  exact utf8Tabs_of_reads Tryd.lays260 extra h3 h4
/-- The world of the witness: the settled one,the tables laid. -/
noncomputable abbrev wit (os : Os) : World := World.laidAll Tryd.prog os laid
theorem wit_laid (os : Os) (args : Array Value) : laidMetH Tryd.prog laid ((wit os).forCall (fun _ _ => 0) ⟨#[],args,[]⟩).memory := by
 rw [MakeChecks.laidMetH_plain _ _ _ (by kernel_rfl)]
 exact laidMet_laidAll _ (by kernel_rfl) (by kernel_rfl)
theorem wit_shaped (os : Os) (args : Array Value) : ((wit os).forCall (fun _ _ => 0) ⟨#[],args,[]⟩).Shaped Tryd.prog :=
 World.shaped_of_ZipB (by kernel_rfl) (by kernel_rfl)
end Go.Proofs.YtfmnmjoofnbnfaaDoor.Lf
end
