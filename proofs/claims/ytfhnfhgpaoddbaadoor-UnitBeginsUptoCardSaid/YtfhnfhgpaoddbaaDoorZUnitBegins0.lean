/- What the law UnitBegins reaches of this seat's own texts, merged; what nothing uses is left out. -/
import Derived.Test.YtfhnfhgpaoddbaaDoorProg
import Derived.Below
import Derived.Deep.Draws
import Derived.Deep.AppendLies
import Derived.Maps.AppendAt
import Derived.OwnWalk
import Derived.Laws.BytesArg
import Derived.Laws.MakeOwn
import Derived.Laws.OwnMore
import Derived.Deep.OwnRows
import Derived.Tactics
import Derived.Lib.ConvBytes
import Derived.Laws.Slices
import Derived.WalkKit
import Derived.KernelRfl
import Derived.RowKit3
import Derived.Deep.LoopGhost
import Derived.Deep.QuietTactic
import Derived.BigQuiet
import Derived.WideLaws
import Derived.Deep.DeepCutAuto
import Derived.Deep.CutBlock
import Derived.Deep.RegionHeld3
import Derived.Laws.Rows
import Derived.Lib.AppendStr
import Derived.ArgAppend
import Derived.Laws.IdiomCopy
import Derived.OrdersHeld
import Derived.Laws.BitsLemmas
import Derived.RowKit
import Derived.Shelf.Strings.Builder1
import Derived.Shelf.Small.Utf8
import Derived.Shelf.Strings.BuilderF
import Derived.Shelf.Strings.BuilderK
import Derived.Shelf.Utf8.AppendRunePlain
import Derived.Shelf.Utf8.RuneCount
import Derived.Shelf.Strings.Prefix
import Derived.Shelf.Unicode.Decode
import Derived.Shelf.Strings.RuneCount
import Derived.Shelf.Unicode.DecodeSlow
import Derived.Shelf.Unicode.DecodeAny
import Derived.Shelf.Strings.BuilderCap
import Derived.Lib.LaidU8
import Derived.RangeFuncNested
import Derived.RangeFuncBound
import Derived.RangeFuncCalls
import Derived.RangeFuncLeaves
import Derived.Lib.DecodeN
import Derived.Lib.MapLaws
import Derived.Laws.DeepStrings4
import Derived.Shelf.Unicode.DecodeLastEight
import Derived.Shelf.Abstract
import Derived.Shelf.RegionOpen
import Derived.OwnWalkIn
import Derived.TacticsInMore
import Derived.LoopNIn
import Derived.LoopIn
import Derived.Lib.Hide
import Derived.Deep.DeepAppendRoom
import Derived.Test.YtfhnfhgpaoddbaaDoorRows
import Derived.ProofKit
import Derived.Deep.DeepHandedRow
import Derived.LaidMore
import Derived.Lay
import Derived.Test.YtfhnfhgpaoddbaaDoorWWords
import Derived.Test.YtfhnfhgpaoddbaaDoorWLast
import Derived.Test.YtfhnfhgpaoddbaaDoorWTab
import Derived.Test.YtfhnfhgpaoddbaaDoorWQPut
import Derived.Test.YtfhnfhgpaoddbaaDoorWApart
import Derived.Test.YtfhnfhgpaoddbaaDoorWArr
import Derived.Test.YtfhnfhgpaoddbaaDoorWZeros
import Derived.Test.YtfhnfhgpaoddbaaDoorWFoot
import Derived.Test.YtfhnfhgpaoddbaaDoorWKept
import Derived.Test.YtfhnfhgpaoddbaaDoorWShare
import Derived.Test.YtfhnfhgpaoddbaaDoorWN
import Derived.Test.YtfhnfhgpaoddbaaDoorWEqStruct
import Derived.Test.YtfhnfhgpaoddbaaDoorWRepsOne
import Derived.Test.YtfhnfhgpaoddbaaDoorWInv
import Derived.Test.YtfhnfhgpaoddbaaDoorWNEv
import Derived.Test.YtfhnfhgpaoddbaaDoorWMore
section
namespace Go.Proofs.YtfhnfhgpaoddbaaDoor
theorem au6 {p : Prop} (h : p := by (with_reducible repeat (first | refine blk_drewN ?_ _ | refine blk_drew ?_ | refine blk_alloc ?_ _));refine blk_put (cs := #[.int .i32 t102,.int .i64 0]) ?_ 1 _ rfl;(with_reducible repeat (first | refine blk_drewN ?_ _ | refine blk_drew ?_ | refine blk_alloc ?_ _));refine blk_put (cs := #[.int .i32 0,.int .i64 0]) ?_ 0 _ rfl;(with_reducible repeat (first | refine blk_drewN ?_ _ | refine blk_drew ?_ | refine blk_alloc ?_ _));exact BK101.out) : p := h
theorem au5 {p : Prop} (h : p := by first | rfl | (simp;done) | (simp [*];done)) : p := h
theorem au4 {p : Prop} (h : p := by first | (with_reducible assumption) | assumption) : p := h
theorem au3 {p : Prop} (h : p := by repeat (first | (with_reducible first | exact HB.out | apply below_alloc | apply pw_below_drewN | apply below_drew1 | refine below_set ?_ GE101.out) | exact HB.out)) : p := h
theorem au2 {p : Prop} (h : p := by first | rfl | (simp [errW_none,errW_some] <;> rfl) | (simp [*,errW_none,errW_some] <;> rfl)) : p := h
theorem au1 {p : Prop} (h : p := by (try simp only [List.map_toArray,List.map_cons,List.map_nil]);first | done | rfl | (simp only [List.length_drop,List.length_take];rfl)) : p := h
theorem au0 {p : Prop} (h : p := by repeat (first | (with_reducible first | exact HB.out | apply below_alloc | apply pw_below_drewN | apply below_drew1) | exact HB.out)) : p := h
end Go.Proofs.YtfhnfhgpaoddbaaDoor
end
section
namespace Go.Proofs.YtfhnfhgpaoddbaaDoor.U
open Go.RowKit Go.Proofs.YtfhnfhgpaoddbaaDoorW.PrintWords Go.Proofs.YtfhnfhgpaoddbaaDoorW.PrintLast Go.Proofs.YtfhnfhgpaoddbaaDoorW.PrintMore
attribute [local go_sem] max2_int min2_int max_two min_two max_three min_three max_four min_four   -- for this text's walks alone
set_option linter.unusedVariables false
set_option linter.unusedSimpArgs false
def errW : Option Int → Value
 | none => .nilIface
 | some c => .iface 0 (.int .i64 c)
theorem errW_none : errW none = .nilIface := rfl
theorem errW_some (c : Int) : errW (some c) = .iface 0 (.int .i64 c) := rfl
theorem info5 : (Tryd.prog.info? 5).map (fun i => (i.zero,i.size,i.bytes)) = some (some (.int .u8 0),1,1) := by kernel_rfl
theorem info30 : (Tryd.prog.info? 30).map (fun i => (i.zero,i.size,i.bytes)) = some (some (.agg #[(.int .i32 0),(.int .i64 0)]),2,16) := by kernel_rfl
structure S30 where
 f0 : Int
 f1 : Int
def z30 : S30 := ⟨(0 : Int),(0 : Int)⟩
def k30 : Kd S30 := Kd.iso (Kd.pair (Kd.int .i32) (Kd.int .i64)) (fun x : S30 => (x.f0,x.f1))
theorem k30_open {w : World} {x : S30} {cs : List Value} (h : k30.K w x cs) : cs = [.int .i32 x.f0,.int .i64 x.f1] := by
 obtain ⟨_,_,rfl,rfl,rfl⟩ := h
 exact rfl
theorem k30_mkM (w : World) (base : Nat) (ok : Nat → Prop) (x : S30)  : k30.M w base ok x [.int .i32 x.f0,.int .i64 x.f1] := ⟨[.int .i32 x.f0],[.int .i64 x.f1],rfl,rfl,rfl⟩
def rd_T30 (xs : List S30) (i : Int) : S30 := xs.getD i.toNat z30
theorem at_T30 {w : World} {A : Option Addr} {n : Nat} {xs : List S30} (h : Kd.C k30 w A n xs) (i : Int) (h0 : 0 ≤ i) (h1 : i < n) : ∃ ad ,A = some ad ∧ w.cell? (ad.add (i.toNat * 2)) = some (.int .i32 (rd_T30 xs i).f0) ∧ w.cell? ⟨(ad.add (i.toNat * 2)).block,(ad.add (i.toNat * 2)).off + 1,none⟩ = some (.int .i64 (rd_T30 xs i).f1) := by
 obtain ⟨ad,c,e,_,hK,hc0⟩ := Kd.C_get h z30 i h0 h1
 have hc : ∀ j u,c[j]? = some u → w.cell? (ad.add (i.toNat * 2 + j)) = some u := hc0
 obtain rfl := k30_open hK
 exact ⟨ad,e,hc 0 _ rfl,by rw [← add_field _ _ 1 (by omega)];exact hc 1 _ rfl⟩
end Go.Proofs.YtfhnfhgpaoddbaaDoor.U
end
section
namespace Go.Proofs.YtfhnfhgpaoddbaaDoor.U
open Go.RowKit Go.Proofs.YtfhnfhgpaoddbaaDoorW.PrintWords Go.Proofs.YtfhnfhgpaoddbaaDoorW.PrintLast Go.Proofs.YtfhnfhgpaoddbaaDoorW.PrintMore
attribute [local go_sem] max2_int min2_int max_two min_two max_three min_three max_four min_four   -- for this text's walks alone
set_option linter.unusedVariables false
set_option linter.unusedSimpArgs false
theorem eqA30 (d : Nat) (w : World) (x0 y0 : Int) (x1 y1 : Int) :
  (Op.equalIn (d + 2) 30 (.agg #[.int .i32 x0,.int .i64 x1]) (.agg #[.int .i32 y0,.int .i64 y1])).run Tryd.prog w = .ok (x0 == y0 && (x1 == y1)) w := by
 refine eqA_of Tryd.underlying30 (by kernel_rfl) ?_
 refine eqf_cons (by rfl) (by go_simp;rfl) (by go_simp;rfl) (by go_simp) ?_
 exact eqf_last (by rfl) (by go_simp;rfl) (by go_simp;rfl) (by go_simp)
end Go.Proofs.YtfhnfhgpaoddbaaDoor.U
end
section
namespace Go.Proofs.YtfhnfhgpaoddbaaDoor.U
open Go.RowKit Go.Proofs.YtfhnfhgpaoddbaaDoorW.PrintWords Go.Proofs.YtfhnfhgpaoddbaaDoorW.PrintLast Go.Proofs.YtfhnfhgpaoddbaaDoorW.PrintMore
attribute [local go_sem] max2_int min2_int max_two min_two max_three min_three max_four min_four   -- for this text's walks alone
set_option linter.unusedVariables false
set_option linter.unusedSimpArgs false
attribute [local go_sem high] eqA30
mutual
def bodkinref01_lead.j0 : Nat → Int → Bool → Option (Int × Int)
 | 0,_,_ => none
 | k + 1,x0,x9 => if x9 = true then (some (wrap32 ((wrap32 (x0)) - 192),1)) else (if x0 ≥ 224 then (bodkinref01_lead.j1 k x0 (decide (x0 < 240))) else (bodkinref01_lead.j1 k x0 false))
def bodkinref01_lead.j1 : Nat → Int → Bool → Option (Int × Int)
 | 0,_,_ => none
 | k + 1,x0,x19 => if x19 = true then (some (wrap32 ((wrap32 (x0)) - 224),2)) else (if x0 ≥ 240 then (if x0 < 248 then (some (wrap32 ((wrap32 (x0)) - 240),3)) else (some (0,(-1)))) else (some (0,(-1))))
end
def bodkinref01_lead.f (k : Nat) (a0 : Int) : Option (Int × Int) := if a0 < 128 then (some (wrap32 (a0),0)) else (if a0 ≥ 192 then (bodkinref01_lead.j0 k a0 (decide (a0 < 224))) else (bodkinref01_lead.j0 k a0 false))
set_option maxHeartbeats 8000000 in
set_option maxRecDepth 100000 in
theorem bodkinref01_lead.calls (k : Nat) (a0 : Int) (r1 : Int) (r2 : Int) (w : World) (h : bodkinref01_lead.f k a0 = some (r1,r2)) :
  Calls Tryd.prog 73 #[.int .u8 a0] w fun e w' => e = .returned (.tuple #[.int .i32 r1,.int .i64 r2]) ∧ Drawn0 w w' := by
 have H : (if a0 < 128 then (some (wrap32 (a0),0)) else (if a0 ≥ 192 then (bodkinref01_lead.j0 k a0 (decide (a0 < 224))) else (bodkinref01_lead.j0 k a0 false))) = some (r1,r2) := h
 clear h
 by_cases c2 : a0 < 128
 ·rw [if_pos c2] at H
  have c2b0 : decide (a0 < 128) = true := decide_eq_true c2
  clear c2
  simp only [Option.some.injEq,Prod.mk.injEq] at H
  obtain ⟨rfl,rfl⟩ := H
  go_enter Tryd.func73,Tryd.ntmps73
  go_wp2
  go_ret2
  exact ⟨by first | rfl | (simp;done) | (simp [*];done),by repeat (first | exact Drawn0.refl _ | apply Drawn0.step)⟩
 ·rw [if_neg c2] at H
  have c2b0 : decide (a0 < 128) = false := decide_eq_false c2
  clear c2
  have HC3 := Aside0.mk H
  clear H
  go_enter Tryd.func73,Tryd.ntmps73
  go_upto_region 3 with (fail)
  go_cut [9] (fun v9 wc => ∃ (kq : Nat) (x9_2 : Bool),v9 = .bool x9_2 ∧ Aside0 (bodkinref01_lead.j0 kq a0 x9_2 = some (r1,r2)) ∧ Aside0 (kq ≤ k) ∧ Drawn0 w wc)
  case first =>
   have H := HC3.out
   clear HC3
   by_cases c4 : a0 ≥ 192
   ·rw [if_pos c4] at H
    have c4b0 : decide (192 ≤ a0) = true := decide_eq_true c4
    clear c4
    (first | rw [c4b0] | (simp only [i64_w,i32_w];rw [c4b0]) | skip)
    have H' := Aside0.mk H
    clear H
    go_wp2
    go_meet
    case rel => exact ⟨_,(decide (a0 < 224)),au5,H',⟨by first | omega | exact Nat.le_refl _⟩,by repeat (first | exact Drawn0.refl _ | apply Drawn0.step)⟩
   ·rw [if_neg c4] at H
    have c4b0 : decide (192 ≤ a0) = false := decide_eq_false c4
    clear c4
    (first | rw [c4b0] | (simp only [i64_w,i32_w];rw [c4b0]) | skip)
    have H' := Aside0.mk H
    clear H
    go_wp2
    go_meet
    case rel => exact ⟨_,(false),au5,H',⟨by first | omega | exact Nat.le_refl _⟩,by repeat (first | exact Drawn0.refl _ | apply Drawn0.step)⟩
  case rest =>
   clear HC3
   try clear c2
   try clear c2b0
   try clear p2
   try clear p3
   try clear c4
   try clear c4b0
   obtain ⟨kq,x9_2,rfl,HA,HJ2,⟨mc2,rfl⟩⟩ := hcut
   cases kq with
   | zero => exact absurd HA.out (by simp [bodkinref01_lead.j0])
   | succ kj2 =>
    have H := HA.out
    clear HA
    simp only [bodkinref01_lead.j0] at H
    by_cases c5 : x9_2 = true
    ·subst c5
     have H1 : (some (wrap32 ((wrap32 (a0)) - 192),1)) = some (r1,r2) := by rw [if_pos rfl] at H;exact H
     clear H
     have H := H1
     clear H1
     simp only [Option.some.injEq,Prod.mk.injEq] at H
     obtain ⟨rfl,rfl⟩ := H
     go_wp2
     go_ret2
     exact ⟨by first | rfl | (simp;done) | (simp [*];done),by repeat (first | exact Drawn0.refl _ | apply Drawn0.step)⟩
    ·replace c5 := Bool.eq_false_iff.mpr c5
     subst c5
     have H1 : (if a0 ≥ 224 then (bodkinref01_lead.j1 kj2 a0 (decide (a0 < 240))) else (bodkinref01_lead.j1 kj2 a0 false)) = some (r1,r2) := by rw [if_neg (show ¬ (false = true) by decide)] at H;exact H
     clear H
     have H := H1
     clear H1
     have HC6 := Aside0.mk H
     clear H
     go_upto_region 5 with (fail)
     go_cut [19] (fun v19 wc => ∃ (kq : Nat) (x19_5 : Bool),v19 = .bool x19_5 ∧ Aside0 (bodkinref01_lead.j1 kq a0 x19_5 = some (r1,r2)) ∧ Aside0 (kq ≤ kj2) ∧ Drawn0 w wc)
     case first =>
      have H := HC6.out
      clear HC6
      by_cases c7 : a0 ≥ 224
      ·rw [if_pos c7] at H
       have c7b0 : decide (224 ≤ a0) = true := decide_eq_true c7
       clear c7
       (first | rw [c7b0] | (simp only [i64_w,i32_w];rw [c7b0]) | skip)
       have H' := Aside0.mk H
       clear H
       go_wp2
       go_meet
       case rel => exact ⟨_,(decide (a0 < 240)),au5,H',⟨by have := HJ2.out;first | omega | exact Nat.le_refl _⟩,by repeat (first | exact Drawn0.refl _ | apply Drawn0.step)⟩
      ·rw [if_neg c7] at H
       have c7b0 : decide (224 ≤ a0) = false := decide_eq_false c7
       clear c7
       (first | rw [c7b0] | (simp only [i64_w,i32_w];rw [c7b0]) | skip)
       have H' := Aside0.mk H
       clear H
       go_wp2
       go_meet
       case rel => exact ⟨_,(false),au5,H',⟨by have := HJ2.out;first | omega | exact Nat.le_refl _⟩,by repeat (first | exact Drawn0.refl _ | apply Drawn0.step)⟩
     case rest =>
      clear HC6
      try clear c2
      try clear c2b0
      try clear p2
      try clear p3
      try clear c4
      try clear c4b0
      try clear c5
      try clear c7
      try clear c7b0
      try clear p2
      try clear p3
      obtain ⟨kq,x19_5,rfl,HA,HJ5,⟨mc5,rfl⟩⟩ := hcut
      cases kq with
      | zero => exact absurd HA.out (by simp [bodkinref01_lead.j1])
      | succ kj5 =>
       have H := HA.out
       clear HA
       simp only [bodkinref01_lead.j1] at H
       by_cases c8 : x19_5 = true
       ·subst c8
        have H1 : (some (wrap32 ((wrap32 (a0)) - 224),2)) = some (r1,r2) := by rw [if_pos rfl] at H;exact H
        clear H
        have H := H1
        clear H1
        simp only [Option.some.injEq,Prod.mk.injEq] at H
        obtain ⟨rfl,rfl⟩ := H
        go_wp2
        go_ret2
        exact ⟨by first | rfl | (simp;done) | (simp [*];done),by repeat (first | exact Drawn0.refl _ | apply Drawn0.step)⟩
       ·replace c8 := Bool.eq_false_iff.mpr c8
        subst c8
        have H1 : (if a0 ≥ 240 then (if a0 < 248 then (some (wrap32 ((wrap32 (a0)) - 240),3)) else (some (0,(-1)))) else (some (0,(-1)))) = some (r1,r2) := by rw [if_neg (show ¬ (false = true) by decide)] at H;exact H
        clear H
        have H := H1
        clear H1
        by_cases c9 : a0 ≥ 240
        ·rw [if_pos c9] at H
         have c9b0 : decide (240 ≤ a0) = true := decide_eq_true c9
         clear c9
         by_cases c10 : a0 < 248
         ·rw [if_pos c10] at H
          have c10b0 : decide (a0 < 248) = true := decide_eq_true c10
          clear c10
          simp only [Option.some.injEq,Prod.mk.injEq] at H
          obtain ⟨rfl,rfl⟩ := H
          go_wp2
          go_ret2
          exact ⟨by first | rfl | (simp;done) | (simp [*];done),by repeat (first | exact Drawn0.refl _ | apply Drawn0.step)⟩
         ·rw [if_neg c10] at H
          have c10b0 : decide (a0 < 248) = false := decide_eq_false c10
          clear c10
          simp only [Option.some.injEq,Prod.mk.injEq] at H
          obtain ⟨rfl,rfl⟩ := H
          go_wp2
          go_ret2
          exact ⟨by first | rfl | (simp;done) | (simp [*];done),by repeat (first | exact Drawn0.refl _ | apply Drawn0.step)⟩
        ·rw [if_neg c9] at H
         have c9b0 : decide (240 ≤ a0) = false := decide_eq_false c9
         clear c9
         simp only [Option.some.injEq,Prod.mk.injEq] at H
         obtain ⟨rfl,rfl⟩ := H
         go_wp2
         go_ret2
         exact ⟨by first | rfl | (simp;done) | (simp [*];done),by repeat (first | exact Drawn0.refl _ | apply Drawn0.step)⟩
def bodkinref01_scalar.f (a0 : Int) : Option (Bool) := if a0 ≥ 0 then (if a0 ≤ 1114111 then (if a0 < 55296 then (some true) else (some (decide (a0 > 57343)))) else (some false)) else (some false)
set_option maxHeartbeats 8000000 in
set_option maxRecDepth 100000 in
theorem bodkinref01_scalar.calls (a0 : Int) (r : Bool) (w : World) (h : bodkinref01_scalar.f a0 = some r) :
  Calls Tryd.prog 77 #[.int .i32 a0] w fun e w' => e = .returned (.bool r) ∧ Drawn0 w w' := by
 have H : (if a0 ≥ 0 then (if a0 ≤ 1114111 then (if a0 < 55296 then (some true) else (some (decide (a0 > 57343)))) else (some false)) else (some false)) = some r := h
 clear h
 by_cases c2 : a0 ≥ 0
 ·rw [if_pos c2] at H
  have c2b0 : decide (0 ≤ a0) = true := decide_eq_true c2
  clear c2
  by_cases c3 : a0 ≤ 1114111
  ·rw [if_pos c3] at H
   have c3b0 : decide (a0 ≤ 1114111) = true := decide_eq_true c3
   clear c3
   by_cases c4 : a0 < 55296
   ·rw [if_pos c4] at H
    have c4b0 : decide (a0 < 55296) = true := decide_eq_true c4
    clear c4
    obtain rfl := Option.some.inj H
    go_enter Tryd.func77,Tryd.ntmps77
    go_wp2
    go_ret
    exact ⟨by first | rfl | (simp;done) | (simp [*];done),by repeat (first | exact Drawn0.refl _ | apply Drawn0.step)⟩
   ·rw [if_neg c4] at H
    have c4b0 : decide (a0 < 55296) = false := decide_eq_false c4
    clear c4
    obtain rfl := Option.some.inj H
    go_enter Tryd.func77,Tryd.ntmps77
    go_wp2
    go_ret
    exact ⟨by first | rfl | (simp;done) | (simp [*];done),by repeat (first | exact Drawn0.refl _ | apply Drawn0.step)⟩
  ·rw [if_neg c3] at H
   have c3b0 : decide (a0 ≤ 1114111) = false := decide_eq_false c3
   clear c3
   obtain rfl := Option.some.inj H
   go_enter Tryd.func77,Tryd.ntmps77
   go_wp2
   go_ret
   exact ⟨by first | rfl | (simp;done) | (simp [*];done),by repeat (first | exact Drawn0.refl _ | apply Drawn0.step)⟩
 ·rw [if_neg c2] at H
  have c2b0 : decide (0 ≤ a0) = false := decide_eq_false c2
  clear c2
  obtain rfl := Option.some.inj H
  go_enter Tryd.func77,Tryd.ntmps77
  go_wp2
  go_ret
  exact ⟨by first | rfl | (simp;done) | (simp [*];done),by repeat (first | exact Drawn0.refl _ | apply Drawn0.step)⟩
end Go.Proofs.YtfhnfhgpaoddbaaDoor.U
end
section
namespace Go.Proofs
open Go.Shelf
def Tryd.lays197_ren : Go.Shelf.Ren := ⟨fun | 197 => 91 | 260 => 100 | n => n,fun | 9 => 9 | 21 => 21 | 3 => 3 | 4 => 4 | 5 => 5 | 105 => 71 | 119 => 93 | 0 => 0 | 46 => 97 | 139 => 96 | 138 => 95 | n => n,fun | 3 => 0 | 4 => 1 | n => n⟩
theorem Tryd.lays197 : Go.Proofs.Lays.n197 Tryd.prog Tryd.lays197_ren := {
 mixed := by kernel_rfl
 f197 := Tryd.func91.trans (congrArg some (by kernel_rfl))
 f260 := Tryd.func100.trans (congrArg some (by kernel_rfl))
 t0 := Tryd.underlying0
 a0 := Tryd.isAgg0
 z0 := Tryd.sizeOf0
 v0 := Tryd.zeroValue0
 t3 := Tryd.underlying3
 a3 := Tryd.isAgg3
 z3 := Tryd.sizeOf3
 v3 := Tryd.zeroValue3
 t4 := Tryd.underlying4
 a4 := Tryd.isAgg4
 z4 := Tryd.sizeOf4
 v4 := Tryd.zeroValue4
 t5 := Tryd.underlying5
 a5 := Tryd.isAgg5
 z5 := Tryd.sizeOf5
 v5 := Tryd.zeroValue5
 t9 := Tryd.underlying9
 a9 := Tryd.isAgg9
 z9 := Tryd.sizeOf9
 v9 := Tryd.zeroValue9
 t21 := Tryd.underlying21
 a21 := Tryd.isAgg21
 z21 := Tryd.sizeOf21
 v21 := Tryd.zeroValue21
 t46 := Tryd.underlying97
 a46 := Tryd.isAgg97
 z46 := Tryd.sizeOf97
 v46 := Tryd.zeroValue97
 t105 := Tryd.underlying71
 a105 := Tryd.isAgg71
 z105 := Tryd.sizeOf71
 v105 := Tryd.zeroValue71
 t119 := Tryd.underlying93
 a119 := Tryd.isAgg93
 z119 := Tryd.sizeOf93
 t138 := Tryd.underlying95
 a138 := Tryd.isAgg95
 z138 := Tryd.sizeOf95
 v138 := Tryd.zeroValue95
 t139 := Tryd.underlying96
 a139 := Tryd.isAgg96
 z139 := Tryd.sizeOf96
 v139 := Tryd.zeroValue96
 g3 := by kernel_rfl
 g4 := by kernel_rfl }
def Tryd.lays260_ren : Go.Shelf.Ren := ⟨fun | 260 => 100 | n => n,fun | 9 => 9 | 21 => 21 | 3 => 3 | 4 => 4 | 5 => 5 | 119 => 93 | 0 => 0 | 46 => 97 | 139 => 96 | 138 => 95 | n => n,fun | 3 => 0 | 4 => 1 | n => n⟩
theorem Tryd.lays260 : Go.Proofs.Lays.n260 Tryd.prog Tryd.lays260_ren := {
 mixed := by kernel_rfl
 f260 := Tryd.func100.trans (congrArg some (by kernel_rfl))
 t0 := Tryd.underlying0
 a0 := Tryd.isAgg0
 z0 := Tryd.sizeOf0
 v0 := Tryd.zeroValue0
 t3 := Tryd.underlying3
 a3 := Tryd.isAgg3
 z3 := Tryd.sizeOf3
 v3 := Tryd.zeroValue3
 t4 := Tryd.underlying4
 a4 := Tryd.isAgg4
 z4 := Tryd.sizeOf4
 v4 := Tryd.zeroValue4
 t5 := Tryd.underlying5
 a5 := Tryd.isAgg5
 z5 := Tryd.sizeOf5
 v5 := Tryd.zeroValue5
 t9 := Tryd.underlying9
 a9 := Tryd.isAgg9
 z9 := Tryd.sizeOf9
 v9 := Tryd.zeroValue9
 t21 := Tryd.underlying21
 a21 := Tryd.isAgg21
 z21 := Tryd.sizeOf21
 v21 := Tryd.zeroValue21
 t46 := Tryd.underlying97
 a46 := Tryd.isAgg97
 z46 := Tryd.sizeOf97
 v46 := Tryd.zeroValue97
 t119 := Tryd.underlying93
 a119 := Tryd.isAgg93
 z119 := Tryd.sizeOf93
 t138 := Tryd.underlying95
 a138 := Tryd.isAgg95
 z138 := Tryd.sizeOf95
 v138 := Tryd.zeroValue95
 t139 := Tryd.underlying96
 a139 := Tryd.isAgg96
 z139 := Tryd.sizeOf96
 v139 := Tryd.zeroValue96
 g3 := by kernel_rfl
 g4 := by kernel_rfl }
open Go.RowKit Go.Lib in
theorem Tryd.utf8_DecodeRuneInString (s : ByteArray) (w : World) (hT : Lib.Utf8Tabs 0 1 w) :
  Calls Tryd.prog 91 #[.string s] w fun e w' => e = .returned (.tuple #[.int .i32 (Lib.decodeGo s).1,.int .i64 (Lib.decodeGo s).2]) ∧ Below w.heap.size w w' := Any.utf8_DecodeRuneInString Tryd.lays197 s w hT
end Go.Proofs
end
section
namespace Go.Proofs.YtfhnfhgpaoddbaaDoor.U
open Go.RowKit Go.Proofs.YtfhnfhgpaoddbaaDoorW.PrintWords Go.Proofs.YtfhnfhgpaoddbaaDoorW.PrintLast Go.Proofs.YtfhnfhgpaoddbaaDoorW.PrintMore
set_option linter.unusedVariables false
set_option linter.unusedSimpArgs false
theorem block_of_cell {w : World} {p : Addr} {v : Value} (h : w.cell? p = some v) : p.block < w.heap.size := by
 unfold World.cell? at h
 cases hb : w.heap[p.block]? with
 | none => simp [hb] at h
 | some o => exact (Array.getElem?_eq_some_iff.1 hb).1
/-- The tables lie where nothing is turned. -/
theorem tabs_below {w0 w : World} (h : Lib.Utf8Tabs 0 1 w0) (hb : Below w0.heap.size w0 w) : Lib.Utf8Tabs 0 1 w :=
  ⟨fun c hc => (hb.cell (p := ⟨0, c, none⟩) (block_of_cell (h.1 c hc))).trans (h.1 c hc),
   fun i hi => ⟨(hb.cell (p := ⟨1, 2 * i, none⟩) (block_of_cell (h.2 i hi).1)).trans (h.2 i hi).1,
     (hb.cell (p := ⟨1, 2 * i + 1, none⟩) (block_of_cell (h.2 i hi).2)).trans (h.2 i hi).2⟩⟩
def utf8_DecodeRuneInString.f (a0 : ByteArray) : Option (Int × Int) := some (((Lib.decodeGo a0).1 : Int),((Lib.decodeGo a0).2 : Int))
theorem utf8_DecodeRuneInString.calls (a0 : ByteArray) (r1 : Int) (r2 : Int) (w : World) (hT : Lib.Utf8Tabs 0 1 w) (h : utf8_DecodeRuneInString.f a0 = some (r1,r2)) :
  Calls Tryd.prog 91 #[.string a0] w fun e w' => e = .returned (.tuple #[.int .i32 r1,.int .i64 r2]) ∧ Below w.heap.size w w' := by
 unfold utf8_DecodeRuneInString.f at h
 simp only [Option.some.injEq,Prod.mk.injEq] at h
 obtain ⟨rfl,rfl⟩ := h
 exact Tryd.utf8_DecodeRuneInString a0 w hT
def bodkinref01_size.f (a0 : Int) : Option (Int) := if a0 < 128 then (some 1) else (if a0 < 2048 then (some 2) else (if a0 < 65536 then (some 3) else (some 4)))
theorem bodkinref01_size.calls (a0 : Int) (r : Int) (w : World) (h : bodkinref01_size.f a0 = some r) :
  Calls Tryd.prog 63 #[.int .i32 a0] w fun e w' => e = .returned (.int .i64 r) ∧ Below w.heap.size w w' := by
 unfold bodkinref01_size.f at h
 by_cases c1 : a0 < 128
 ·rw [if_pos c1] at h
  obtain rfl := Option.some.inj h
  clear h
  go_enter Tryd.func63,Tryd.ntmps63
  go_wp2
  go_ret
  exact ⟨rfl,Below.refl _ _⟩
 ·rw [if_neg c1] at h
  by_cases c2 : a0 < 2048
  ·rw [if_pos c2] at h
   obtain rfl := Option.some.inj h
   clear h
   go_enter Tryd.func63,Tryd.ntmps63
   go_wp2
   go_ret
   exact ⟨rfl,Below.refl _ _⟩
  ·rw [if_neg c2] at h
   by_cases c3 : a0 < 65536
   ·rw [if_pos c3] at h
    obtain rfl := Option.some.inj h
    clear h
    go_enter Tryd.func63,Tryd.ntmps63
    go_wp2
    go_ret
    exact ⟨rfl,Below.refl _ _⟩
   ·rw [if_neg c3] at h
    obtain rfl := Option.some.inj h
    clear h
    go_enter Tryd.func63,Tryd.ntmps63
    go_wp2
    go_ret
    exact ⟨rfl,Below.refl _ _⟩
def fullN (n b0 b1 b2 : Nat) : Bool :=
 if n = 0 then false
 else if Lib.firstT b0 % 8 ≤ n then true
 else if 1 < n ∧ (b1 < Lib.accLo (Lib.firstT b0 / 16) ∨ Lib.accHi (Lib.firstT b0 / 16) < b1) then true
 else if 2 < n ∧ (b2 < 128 ∨ 191 < b2) then true
 else false
def fullB (s : ByteArray) : Bool := fullN s.size (s.get! 0).toNat (s.get! 1).toNat (s.get! 2).toNat
def utf8_FullRuneInString.f (a0 : ByteArray) : Option (Bool) := some (fullB a0)
set_option maxHeartbeats 2000000 in
set_option maxRecDepth 100000 in
/-- enough bytes -/
theorem full_enough (s : ByteArray) (w : World) (x0 : UInt8) (X : Nat) (hz0 : (0 : Int) < (s.size : Int)) (hzb : (((s.size : Nat) : Int) == 0) = false) (h0 : 0 < s.size) (hs0 : s[0]'h0 = x0)
  (hX : X = 240 ∨ X = 241 ∨ X = 2 ∨ X = 19 ∨ X = 3 ∨ X = 35 ∨ X = 52 ∨ X = 4 ∨ X = 68) (hc0 : w.cell? ⟨0,x0.toNat,none⟩ = some (.int .u8 X)) (hn : X % 8 ≤ s.size) :
  Calls Tryd.prog 72 #[.string s] w fun e w' => e = .returned (.bool true) ∧ Below w.heap.size w w' := by
 have l0 := x0.toNat_lt
 rcases hX with rfl | rfl | rfl | rfl | rfl | rfl | rfl | rfl | rfl
 all_goals
  simp only [Nat.reduceMod] at hn
  have hd : ∀ k : Nat,k ≤ s.size → decide ((k : Int) ≤ (s.size : Int)) = true := fun k hk => decide_eq_true (by omega)
  have hd' := hd _ hn
  clear hd
  go_enter Tryd.func72,Tryd.ntmps72
  go_wp2
  go_ret
  exact ⟨rfl,Below.refl _ _⟩
set_option maxHeartbeats 4000000 in
set_option maxRecDepth 100000 in
theorem full_short (s : ByteArray) (w : World) (x0 x1 x2 : UInt8) (X i lo hi : Nat) (hX : (X = 2 ∧ i = 0 ∧ lo = 128 ∧ hi = 191) ∨ (X = 19 ∧ i = 1 ∧ lo = 160 ∧ hi = 191) ∨ (X = 3 ∧ i = 0 ∧ lo = 128 ∧ hi = 191) ∨ (X = 35 ∧ i = 2 ∧ lo = 128 ∧ hi = 159) ∨ (X = 52 ∧ i = 3 ∧ lo = 144 ∧ hi = 191) ∨ (X = 4 ∧ i = 0 ∧ lo = 128 ∧ hi = 191) ∨ (X = 68 ∧ i = 4 ∧ lo = 128 ∧ hi = 143))
  (hz0 : (0 : Int) < (s.size : Int)) (hzb : (((s.size : Nat) : Int) == 0) = false) (h0 : 0 < s.size) (hs0 : s[0]'h0 = x0) (h1 : (hh : 1 < s.size) → s[1]'hh = x1) (h2 : (hh : 2 < s.size) → s[2]'hh = x2)
  (hc0 : w.cell? ⟨0,x0.toNat,none⟩ = some (.int .u8 X)) (ha0 : w.cell? ⟨1,2 * i,none⟩ = some (.int .u8 lo)) (ha1 : w.cell? ⟨1,2 * i + 1,none⟩ = some (.int .u8 hi)) (hn : s.size < X % 8) :
  Calls Tryd.prog 72 #[.string s] w fun e w' => e = .returned (.bool (decide (1 < s.size ∧ (x1.toNat < lo ∨ hi < x1.toNat)) || decide (2 < s.size ∧ (x2.toNat < 128 ∨ 191 < x2.toNat)))) ∧ Below w.heap.size w w' := by
 have l0 := x0.toNat_lt;have l1 := x1.toNat_lt;have l2 := x2.toNat_lt
 have u95 := run_underlying Tryd.underlying95
 have hdd : ∀ k : Nat,s.size < k → decide ((k : Int) ≤ (s.size : Int)) = false := fun k hk => decide_eq_false (by omega)
 have fin : ∀ b : Bool,(decide (1 < s.size ∧ (x1.toNat < lo ∨ hi < x1.toNat)) || decide (2 < s.size ∧ (x2.toNat < 128 ∨ 191 < x2.toNat))) = b →
   Calls Tryd.prog 72 #[.string s] w (fun e w' => e = .returned (.bool b) ∧ Below w.heap.size w w') := by
  intro b hb
  by_cases c1 : 1 < s.size
  ·have g1 : decide ((1 : Int) < (s.size : Int)) = true := decide_eq_true (by omega)
   have i1 : (1 : Int) < (s.size : Int) := by omega
   have e1 := h1 c1
   by_cases a1 : x1.toNat < lo
   ·have d1 : decide ((x1.toNat : Int) < (lo : Int)) = true := decide_eq_true (by omega)
    obtain rfl : true = b := by rw [← hb];simp [c1,a1]
    clear a1
    clear h1 h2 hb
    rcases hX with ⟨rfl,rfl,rfl,rfl⟩ | ⟨rfl,rfl,rfl,rfl⟩ | ⟨rfl,rfl,rfl,rfl⟩ | ⟨rfl,rfl,rfl,rfl⟩ | ⟨rfl,rfl,rfl,rfl⟩ | ⟨rfl,rfl,rfl,rfl⟩ | ⟨rfl,rfl,rfl,rfl⟩
    all_goals
     simp only [Nat.reduceMul,Nat.reduceAdd] at ha0 ha1
     simp only [Int.cast_ofNat_Int] at hc0 ha0 ha1
     try simp only [Int.cast_ofNat_Int] at d1
     try simp only [Int.cast_ofNat_Int] at d2
     simp only [Nat.reduceMod] at hn
     try have q2 : decide ((2 : Int) ≤ (s.size : Int)) = false := decide_eq_false (by omega)
     try have q3 : decide ((3 : Int) ≤ (s.size : Int)) = false := decide_eq_false (by omega)
     try have q4 : decide ((4 : Int) ≤ (s.size : Int)) = false := decide_eq_false (by omega)
     clear hn hdd
     go_enter Tryd.func72,Tryd.ntmps72
     go_wp2
     go_quiet (fail)
     go_wp2
     go_ret
     exact ⟨rfl,by repeat (first | exact Below.refl _ _ | apply below_alloc | apply pw_below_drewN | apply below_drew1)⟩
   ·have d1 : decide ((x1.toNat : Int) < (lo : Int)) = false := decide_eq_false (by omega)
    by_cases a2 : hi < x1.toNat
    ·have d2 : decide ((hi : Int) < (x1.toNat : Int)) = true := decide_eq_true (by omega)
     obtain rfl : true = b := by rw [← hb];simp [c1,a1,a2]
     clear a1 a2
     clear h1 h2 hb
     rcases hX with ⟨rfl,rfl,rfl,rfl⟩ | ⟨rfl,rfl,rfl,rfl⟩ | ⟨rfl,rfl,rfl,rfl⟩ | ⟨rfl,rfl,rfl,rfl⟩ | ⟨rfl,rfl,rfl,rfl⟩ | ⟨rfl,rfl,rfl,rfl⟩ | ⟨rfl,rfl,rfl,rfl⟩
     all_goals
      simp only [Nat.reduceMul,Nat.reduceAdd] at ha0 ha1
      simp only [Int.cast_ofNat_Int] at hc0 ha0 ha1
      try simp only [Int.cast_ofNat_Int] at d1
      try simp only [Int.cast_ofNat_Int] at d2
      simp only [Nat.reduceMod] at hn
      try have q2 : decide ((2 : Int) ≤ (s.size : Int)) = false := decide_eq_false (by omega)
      try have q3 : decide ((3 : Int) ≤ (s.size : Int)) = false := decide_eq_false (by omega)
      try have q4 : decide ((4 : Int) ≤ (s.size : Int)) = false := decide_eq_false (by omega)
      clear hn hdd
      go_enter Tryd.func72,Tryd.ntmps72
      go_wp2
      go_quiet (fail)
      go_wp2
      go_ret
      exact ⟨rfl,by repeat (first | exact Below.refl _ _ | apply below_alloc | apply pw_below_drewN | apply below_drew1)⟩
    ·have d2 : decide ((hi : Int) < (x1.toNat : Int)) = false := decide_eq_false (by omega)
     by_cases c2 : 2 < s.size
     ·have g2 : decide ((2 : Int) < (s.size : Int)) = true := decide_eq_true (by omega)
      have i2 : (2 : Int) < (s.size : Int) := by omega
      have e2 := h2 c2
      by_cases a3 : x2.toNat < 128
      ·have d3 : decide ((x2.toNat : Int) < 128) = true := decide_eq_true (by omega)
       obtain rfl : true = b := by rw [← hb];simp [c2,a3]
       clear a1 a2 a3
       clear h1 h2 hb
       rcases hX with ⟨rfl,rfl,rfl,rfl⟩ | ⟨rfl,rfl,rfl,rfl⟩ | ⟨rfl,rfl,rfl,rfl⟩ | ⟨rfl,rfl,rfl,rfl⟩ | ⟨rfl,rfl,rfl,rfl⟩ | ⟨rfl,rfl,rfl,rfl⟩ | ⟨rfl,rfl,rfl,rfl⟩
       all_goals
        simp only [Nat.reduceMul,Nat.reduceAdd] at ha0 ha1
        simp only [Int.cast_ofNat_Int] at hc0 ha0 ha1
        try simp only [Int.cast_ofNat_Int] at d1
        try simp only [Int.cast_ofNat_Int] at d2
        simp only [Nat.reduceMod] at hn
        try have q2 : decide ((2 : Int) ≤ (s.size : Int)) = false := decide_eq_false (by omega)
        try have q3 : decide ((3 : Int) ≤ (s.size : Int)) = false := decide_eq_false (by omega)
        try have q4 : decide ((4 : Int) ≤ (s.size : Int)) = false := decide_eq_false (by omega)
        clear hn hdd
        go_enter Tryd.func72,Tryd.ntmps72
        go_wp2
        go_quiet (fail)
        go_wp2
        go_ret
        exact ⟨rfl,by repeat (first | exact Below.refl _ _ | apply below_alloc | apply pw_below_drewN | apply below_drew1)⟩
      ·have d3 : decide ((x2.toNat : Int) < 128) = false := decide_eq_false (by omega)
       by_cases a4 : 191 < x2.toNat
       ·have d4 : decide (191 < (x2.toNat : Int)) = true := decide_eq_true (by omega)
        obtain rfl : true = b := by rw [← hb];simp [c2,a4]
        clear a1 a2 a3 a4
        clear h1 h2 hb
        rcases hX with ⟨rfl,rfl,rfl,rfl⟩ | ⟨rfl,rfl,rfl,rfl⟩ | ⟨rfl,rfl,rfl,rfl⟩ | ⟨rfl,rfl,rfl,rfl⟩ | ⟨rfl,rfl,rfl,rfl⟩ | ⟨rfl,rfl,rfl,rfl⟩ | ⟨rfl,rfl,rfl,rfl⟩
        all_goals
         simp only [Nat.reduceMul,Nat.reduceAdd] at ha0 ha1
         simp only [Int.cast_ofNat_Int] at hc0 ha0 ha1
         try simp only [Int.cast_ofNat_Int] at d1
         try simp only [Int.cast_ofNat_Int] at d2
         simp only [Nat.reduceMod] at hn
         try have q2 : decide ((2 : Int) ≤ (s.size : Int)) = false := decide_eq_false (by omega)
         try have q3 : decide ((3 : Int) ≤ (s.size : Int)) = false := decide_eq_false (by omega)
         try have q4 : decide ((4 : Int) ≤ (s.size : Int)) = false := decide_eq_false (by omega)
         clear hn hdd
         go_enter Tryd.func72,Tryd.ntmps72
         go_wp2
         go_quiet (fail)
         go_wp2
         go_ret
         exact ⟨rfl,by repeat (first | exact Below.refl _ _ | apply below_alloc | apply pw_below_drewN | apply below_drew1)⟩
       ·have d4 : decide (191 < (x2.toNat : Int)) = false := decide_eq_false (by omega)
        obtain rfl : false = b := by rw [← hb];simp [c1,a1,a2,a3,a4]
        clear a1 a2 a3 a4
        clear h1 h2 hb
        rcases hX with ⟨rfl,rfl,rfl,rfl⟩ | ⟨rfl,rfl,rfl,rfl⟩ | ⟨rfl,rfl,rfl,rfl⟩ | ⟨rfl,rfl,rfl,rfl⟩ | ⟨rfl,rfl,rfl,rfl⟩ | ⟨rfl,rfl,rfl,rfl⟩ | ⟨rfl,rfl,rfl,rfl⟩
        all_goals
         simp only [Nat.reduceMul,Nat.reduceAdd] at ha0 ha1
         simp only [Int.cast_ofNat_Int] at hc0 ha0 ha1
         try simp only [Int.cast_ofNat_Int] at d1
         try simp only [Int.cast_ofNat_Int] at d2
         simp only [Nat.reduceMod] at hn
         try have q2 : decide ((2 : Int) ≤ (s.size : Int)) = false := decide_eq_false (by omega)
         try have q3 : decide ((3 : Int) ≤ (s.size : Int)) = false := decide_eq_false (by omega)
         try have q4 : decide ((4 : Int) ≤ (s.size : Int)) = false := decide_eq_false (by omega)
         clear hn hdd
         go_enter Tryd.func72,Tryd.ntmps72
         go_wp2
         go_quiet (fail)
         go_wp2
         go_ret
         exact ⟨rfl,by repeat (first | exact Below.refl _ _ | apply below_alloc | apply pw_below_drewN | apply below_drew1)⟩
     ·have g2 : decide ((2 : Int) < (s.size : Int)) = false := decide_eq_false (by omega)
      obtain rfl : false = b := by rw [← hb];simp [a1,a2,c2]
      clear a1 a2 c2
      clear h1 h2 hb
      rcases hX with ⟨rfl,rfl,rfl,rfl⟩ | ⟨rfl,rfl,rfl,rfl⟩ | ⟨rfl,rfl,rfl,rfl⟩ | ⟨rfl,rfl,rfl,rfl⟩ | ⟨rfl,rfl,rfl,rfl⟩ | ⟨rfl,rfl,rfl,rfl⟩ | ⟨rfl,rfl,rfl,rfl⟩
      all_goals
       simp only [Nat.reduceMul,Nat.reduceAdd] at ha0 ha1
       simp only [Int.cast_ofNat_Int] at hc0 ha0 ha1
       try simp only [Int.cast_ofNat_Int] at d1
       try simp only [Int.cast_ofNat_Int] at d2
       simp only [Nat.reduceMod] at hn
       try have q2 : decide ((2 : Int) ≤ (s.size : Int)) = false := decide_eq_false (by omega)
       try have q3 : decide ((3 : Int) ≤ (s.size : Int)) = false := decide_eq_false (by omega)
       try have q4 : decide ((4 : Int) ≤ (s.size : Int)) = false := decide_eq_false (by omega)
       clear hn hdd
       go_enter Tryd.func72,Tryd.ntmps72
       go_wp2
       go_quiet (fail)
       go_wp2
       go_ret
       exact ⟨rfl,by repeat (first | exact Below.refl _ _ | apply below_alloc | apply pw_below_drewN | apply below_drew1)⟩
  ·have g1 : decide ((1 : Int) < (s.size : Int)) = false := decide_eq_false (by omega)
   have g2 : decide ((2 : Int) < (s.size : Int)) = false := decide_eq_false (by omega)
   obtain rfl : false = b := by rw [← hb];simp [c1];omega
   clear c1
   clear h1 h2 hb
   rcases hX with ⟨rfl,rfl,rfl,rfl⟩ | ⟨rfl,rfl,rfl,rfl⟩ | ⟨rfl,rfl,rfl,rfl⟩ | ⟨rfl,rfl,rfl,rfl⟩ | ⟨rfl,rfl,rfl,rfl⟩ | ⟨rfl,rfl,rfl,rfl⟩ | ⟨rfl,rfl,rfl,rfl⟩
   all_goals
    simp only [Nat.reduceMul,Nat.reduceAdd] at ha0 ha1
    simp only [Int.cast_ofNat_Int] at hc0 ha0 ha1
    try simp only [Int.cast_ofNat_Int] at d1
    try simp only [Int.cast_ofNat_Int] at d2
    simp only [Nat.reduceMod] at hn
    try have q2 : decide ((2 : Int) ≤ (s.size : Int)) = false := decide_eq_false (by omega)
    try have q3 : decide ((3 : Int) ≤ (s.size : Int)) = false := decide_eq_false (by omega)
    try have q4 : decide ((4 : Int) ≤ (s.size : Int)) = false := decide_eq_false (by omega)
    clear hn hdd
    go_enter Tryd.func72,Tryd.ntmps72
    go_wp2
    go_quiet (fail)
    go_wp2
    go_ret
    exact ⟨rfl,by repeat (first | exact Below.refl _ _ | apply below_alloc | apply pw_below_drewN | apply below_drew1)⟩
 exact fin _ rfl
theorem full_any (s : ByteArray) (w : World) (hT : Lib.Utf8Tabs 0 1 w) :
  Calls Tryd.prog 72 #[.string s] w fun e w' => e = .returned (.bool (fullB s)) ∧ Below w.heap.size w w' := by
 unfold fullB
 by_cases h0 : s.size = 0
 ·have hz : (((s.size : Nat) : Int) == 0) = true := by rw [beq_iff_eq];omega
  simp only [fullN,h0,if_true]
  go_enter Tryd.func72,Tryd.ntmps72
  go_wp2
  go_ret
  exact ⟨rfl,Below.refl _ _⟩
 ·have hz0 : (0 : Int) < (s.size : Int) := by omega
  have hzb : (((s.size : Nat) : Int) == 0) = false := by rw [beq_eq_false_iff_ne];omega
  obtain ⟨x0,hx0⟩ : ∃ x0,s.get! 0 = x0 := ⟨_,rfl⟩
  obtain ⟨x1,hx1⟩ : ∃ x1,s.get! 1 = x1 := ⟨_,rfl⟩
  obtain ⟨x2,hx2⟩ : ∃ x2,s.get! 2 = x2 := ⟨_,rfl⟩
  rw [hx0,hx1,hx2]
  have hp : 0 < s.size := by omega
  have hs0 : s[0]'hp = x0 := by rw [← hx0];exact (Utf8W.get!_of_lt s 0 (by omega)).symm
  have hs1 : (hh : 1 < s.size) → s[1]'hh = x1 := fun hh => by rw [← hx1];exact (Utf8W.get!_of_lt s 1 hh).symm
  have hs2 : (hh : 2 < s.size) → s[2]'hh = x2 := fun hh => by rw [← hx2];exact (Utf8W.get!_of_lt s 2 hh).symm
  have l0 := x0.toNat_lt
  have hc0 := hT.1 x0.toNat (by omega)
  have hX := Lib.firstT_cases x0.toNat
  by_cases hn : Lib.firstT x0.toNat % 8 ≤ s.size
  ·have e : fullN s.size x0.toNat x1.toNat x2.toNat = true := by simp only [fullN,h0,if_false,hn,if_true]
   rw [e]
   exact full_enough s w x0 _ hz0 hzb hp hs0 hX hc0 hn
  ·have e : fullN s.size x0.toNat x1.toNat x2.toNat = (decide (1 < s.size ∧ (x1.toNat < Lib.accLo (Lib.firstT x0.toNat / 16) ∨ Lib.accHi (Lib.firstT x0.toNat / 16) < x1.toNat)) || decide (2 < s.size ∧ (x2.toNat < 128 ∨ 191 < x2.toNat))) := by
    simp only [fullN,h0,if_false,hn]
    by_cases a : 1 < s.size ∧ (x1.toNat < Lib.accLo (Lib.firstT x0.toNat / 16) ∨ Lib.accHi (Lib.firstT x0.toNat / 16) < x1.toNat)
    ·simp [a]
    ·simp [a]
   rw [e]
   refine full_short s w x0 x1 x2 _ (Lib.firstT x0.toNat / 16) _ _ ?_ hz0 hzb hp hs0 hs1 hs2 hc0 (hT.2 _ ?_).1 (hT.2 _ ?_).2 (by omega)
   ·rcases hX with hX | hX | hX | hX | hX | hX | hX | hX | hX <;> rw [hX] at hn ⊢ <;> simp [Lib.accLo,Lib.accHi] <;> omega
   ·rcases hX with hX | hX | hX | hX | hX | hX | hX | hX | hX <;> rw [hX] <;> omega
   ·rcases hX with hX | hX | hX | hX | hX | hX | hX | hX | hX <;> rw [hX] <;> omega
theorem utf8_FullRuneInString.calls (a0 : ByteArray) (r : Bool) (w : World) (hT : Lib.Utf8Tabs 0 1 w) (h : utf8_FullRuneInString.f a0 = some r) :
  Calls Tryd.prog 72 #[.string a0] w fun e w' => e = .returned (.bool r) ∧ Below w.heap.size w w' := by
 obtain rfl := Option.some.inj h
 exact full_any a0 w hT
end Go.Proofs.YtfhnfhgpaoddbaaDoor.U
end
section
namespace Go.Proofs.YtfhnfhgpaoddbaaDoor.U
open Go.RowKit Go.Proofs.YtfhnfhgpaoddbaaDoorW.PrintWords Go.Proofs.YtfhnfhgpaoddbaaDoorW.PrintLast Go.Proofs.YtfhnfhgpaoddbaaDoorW.PrintMore
attribute [local go_sem] max2_int min2_int max_two min_two max_three min_three max_four min_four   -- for this text's walks alone
set_option linter.unusedVariables false
set_option linter.unusedSimpArgs false
def unit_first.f (a0 : ByteArray) : Option (Int × Int) := (utf8_DecodeRuneInString.f a0).bind fun bt102 => (if bt102.1 = 65533 then (if bt102.2 = 1 then (some ((-1),1)) else (some (bt102.1,bt102.2))) else (some (bt102.1,bt102.2)))
set_option maxHeartbeats 8000000 in
set_option maxRecDepth 100000 in
theorem unit_first.calls (a0 : ByteArray) (r1 : Int) (r2 : Int) (w : World) (hT : Lib.Utf8Tabs 0 1 w) (h : unit_first.f a0 = some (r1,r2)) :
  Calls Tryd.prog 61 #[.string a0] w fun e w' => e = .returned (.agg #[.int .i32 r1,.int .i64 r2]) ∧ Below w.heap.size w w' := by
 have hu30 := Tryd.underlying30
 have HT := Aside0.mk hT
 clear hT
 have HB := Aside0.mk (Below.refl w.heap.size w)
 have H : ((utf8_DecodeRuneInString.f a0).bind fun bt102 => (if bt102.1 = 65533 then (if bt102.2 = 1 then (some ((-1),1)) else (some (bt102.1,bt102.2))) else (some (bt102.1,bt102.2)))) = some (r1,r2) := h
 clear h
 replace H := Option.bind_eq_some_iff.mp H
 obtain ⟨⟨t102,t103⟩,A20,H⟩ := H
 replace H : (if t102 = 65533 then (if t103 = 1 then (some ((-1),1)) else (some (t102,t103))) else (some (t102,t103))) = some (r1,r2) := H
 have A2 := Aside0.mk A20
 clear A20
 by_cases c3 : t102 = 65533
 ·rw [if_pos c3] at H
  have c3b0 : (t102 == 65533) = true := beq_iff_eq.mpr c3
  have c3b1 : (t102 != 65533) = false := bne_eq_false_iff_eq.mpr c3
  clear c3
  by_cases c4 : t103 = 1
  ·rw [if_pos c4] at H
   have c4b0 : (t103 == 1) = true := beq_iff_eq.mpr c4
   have c4b1 : (t103 != 1) = false := bne_eq_false_iff_eq.mpr c4
   clear c4
   simp only [Option.some.injEq,Prod.mk.injEq] at H
   obtain ⟨rfl,rfl⟩ := H
   go_enter Tryd.func61,Tryd.ntmps61
   go_wp2_with (first | ((with_reducible refine gate_dst (N := 2) rfl ?_);refine box_event ?hg (N := 2) ?hd (cs := #[.int .i32 0,.int .i64 0]) (t := 30) ?hr ?_;(case hd => rfl);(case hg => rfl);(case hr => first | (go_simp;done) | (go_simp;rfl));intro gb101 hg w5 hbox hb;have n0_ := Aside0.mk (below_step au0 hb);have n1_ := Aside0.mk (hbox);have n2_ := Aside0.mk ((by rw [hg];exact (below_size au0) : w.heap.size ≤ gb101));have n3_ := Aside0.mk ((by rw [hg];exact (below_size au0) : w.heap.size ≤ gb101));clear HB;have HB := n0_;have BK101 := n1_;have GW101 := n2_;have GE101 := n3_;clear n0_ n1_ n2_ n3_;clear hb hbox hg) | ((with_reducible refine gate_callee (f := 91) rfl ?_);refine goesL_ (some 7) rfl rfl Tryd.func91 (by kernel_rfl) rfl #[.string a0] rfl au1 ?_;(with_reducible refine (utf8_DecodeRuneInString.calls a0 t102 t103 _ ?side1 A2.out).mono ?_);(case side1 => exact tabs_below HT.out au3);rintro e w6 ⟨rfl,hb⟩;refine ⟨_,rfl,?_⟩;have n0_ := Aside0.mk (blk_below (g := gb101) (o := .cells #[.int .i32 0,.int .i64 0] 30 (0,0)) (by (with_reducible repeat (first | refine blk_drewN ?_ _ | refine blk_drew ?_ | refine blk_alloc ?_ _));exact BK101.out) hb);have n1_ := Aside0.mk (below_step au3 hb);clear BK101;clear HB;have BK101 := n0_;have HB := n1_;clear n0_ n1_;(try clear hb);(try clear hb2);(try clear hk);(try clear hi);have hcz7_0 : w6.cell? ⟨gb101,0,none⟩ = some (.int .i32 0) := (blk_cell BK101.out 0).trans rfl;have hcz7_1 : w6.cell? ⟨gb101,1,none⟩ = some (.int .i64 0) := (blk_cell BK101.out 1).trans rfl;have hfz7_0 := blk_frozen BK101.out 0;have hfz7_1 := blk_frozen BK101.out 1))
   refine bodyPost_ret (results_cell_row rfl _ _ gb101 30 #[.int .i32 (-1),.int .i64 1] (0,0) _ rfl (by (with_reducible repeat (first | refine blk_drewN ?_ _ | refine blk_drew ?_ | refine blk_alloc ?_ _));refine blk_put (cs := #[.int .i32 (-1),.int .i64 0]) ?_ 1 _ rfl;(with_reducible repeat (first | refine blk_drewN ?_ _ | refine blk_drew ?_ | refine blk_alloc ?_ _));refine blk_put (cs := #[.int .i32 0,.int .i64 0]) ?_ 0 _ rfl;(with_reducible repeat (first | refine blk_drewN ?_ _ | refine blk_drew ?_ | refine blk_alloc ?_ _));exact BK101.out) Tryd.underlying30 rfl (by kernel_rfl)) rfl ?_
   exact ⟨au2,by repeat (first | (with_reducible first | exact HB.out | apply below_alloc | apply pw_below_drewN | apply below_drew1 | refine below_set ?_ GE101.out) | exact HB.out)⟩
  ·rw [if_neg c4] at H
   have c4b0 : (t103 == 1) = false := beq_eq_false_iff_ne.mpr c4
   have c4b1 : (t103 != 1) = true := bne_iff_ne.mpr c4
   simp only [Option.some.injEq,Prod.mk.injEq] at H
   obtain ⟨rfl,rfl⟩ := H
   go_enter Tryd.func61,Tryd.ntmps61
   go_wp2_with (first | ((with_reducible refine gate_dst (N := 2) rfl ?_);refine box_event ?hg (N := 2) ?hd (cs := #[.int .i32 0,.int .i64 0]) (t := 30) ?hr ?_;(case hd => rfl);(case hg => rfl);(case hr => first | (go_simp;done) | (go_simp;rfl));intro gb101 hg w8 hbox hb;have n0_ := Aside0.mk (below_step au0 hb);have n1_ := Aside0.mk (hbox);have n2_ := Aside0.mk ((by rw [hg];exact (below_size au0) : w.heap.size ≤ gb101));have n3_ := Aside0.mk ((by rw [hg];exact (below_size au0) : w.heap.size ≤ gb101));clear HB;have HB := n0_;have BK101 := n1_;have GW101 := n2_;have GE101 := n3_;clear n0_ n1_ n2_ n3_;clear hb hbox hg) | ((with_reducible refine gate_callee (f := 91) rfl ?_);refine goesL_ (some 7) rfl rfl Tryd.func91 (by kernel_rfl) rfl #[.string a0] rfl au1 ?_;(with_reducible refine (utf8_DecodeRuneInString.calls a0 t102 t103 _ ?side1 A2.out).mono ?_);(case side1 => exact tabs_below HT.out au3);rintro e w9 ⟨rfl,hb⟩;refine ⟨_,rfl,?_⟩;have n0_ := Aside0.mk (blk_below (g := gb101) (o := .cells #[.int .i32 0,.int .i64 0] 30 (0,0)) (by (with_reducible repeat (first | refine blk_drewN ?_ _ | refine blk_drew ?_ | refine blk_alloc ?_ _));exact BK101.out) hb);have n1_ := Aside0.mk (below_step au3 hb);clear BK101;clear HB;have BK101 := n0_;have HB := n1_;clear n0_ n1_;(try clear hb);(try clear hb2);(try clear hk);(try clear hi);have hcz10_0 : w9.cell? ⟨gb101,0,none⟩ = some (.int .i32 0) := (blk_cell BK101.out 0).trans rfl;have hcz10_1 : w9.cell? ⟨gb101,1,none⟩ = some (.int .i64 0) := (blk_cell BK101.out 1).trans rfl;have hfz10_0 := blk_frozen BK101.out 0;have hfz10_1 := blk_frozen BK101.out 1))
   refine bodyPost_ret (results_cell_row rfl _ _ gb101 30 #[.int .i32 t102,.int .i64 t103] (0,0) _ rfl au6 Tryd.underlying30 rfl (by kernel_rfl)) rfl ?_
   exact ⟨au2,by repeat (first | (with_reducible first | exact HB.out | apply below_alloc | apply pw_below_drewN | apply below_drew1 | refine below_set ?_ GE101.out) | exact HB.out)⟩
 ·rw [if_neg c3] at H
  have c3b0 : (t102 == 65533) = false := beq_eq_false_iff_ne.mpr c3
  have c3b1 : (t102 != 65533) = true := bne_iff_ne.mpr c3
  simp only [Option.some.injEq,Prod.mk.injEq] at H
  obtain ⟨rfl,rfl⟩ := H
  go_enter Tryd.func61,Tryd.ntmps61
  go_wp2_with (first | ((with_reducible refine gate_dst (N := 2) rfl ?_);refine box_event ?hg (N := 2) ?hd (cs := #[.int .i32 0,.int .i64 0]) (t := 30) ?hr ?_;(case hd => rfl);(case hg => rfl);(case hr => first | (go_simp;done) | (go_simp;rfl));intro gb101 hg w11 hbox hb;have n0_ := Aside0.mk (below_step au0 hb);have n1_ := Aside0.mk (hbox);have n2_ := Aside0.mk ((by rw [hg];exact (below_size au0) : w.heap.size ≤ gb101));have n3_ := Aside0.mk ((by rw [hg];exact (below_size au0) : w.heap.size ≤ gb101));clear HB;have HB := n0_;have BK101 := n1_;have GW101 := n2_;have GE101 := n3_;clear n0_ n1_ n2_ n3_;clear hb hbox hg) | ((with_reducible refine gate_callee (f := 91) rfl ?_);refine goesL_ (some 7) rfl rfl Tryd.func91 (by kernel_rfl) rfl #[.string a0] rfl au1 ?_;(with_reducible refine (utf8_DecodeRuneInString.calls a0 t102 t103 _ ?side1 A2.out).mono ?_);(case side1 => exact tabs_below HT.out au3);rintro e w12 ⟨rfl,hb⟩;refine ⟨_,rfl,?_⟩;have n0_ := Aside0.mk (blk_below (g := gb101) (o := .cells #[.int .i32 0,.int .i64 0] 30 (0,0)) (by (with_reducible repeat (first | refine blk_drewN ?_ _ | refine blk_drew ?_ | refine blk_alloc ?_ _));exact BK101.out) hb);have n1_ := Aside0.mk (below_step au3 hb);clear BK101;clear HB;have BK101 := n0_;have HB := n1_;clear n0_ n1_;(try clear hb);(try clear hb2);(try clear hk);(try clear hi);have hcz13_0 : w12.cell? ⟨gb101,0,none⟩ = some (.int .i32 0) := (blk_cell BK101.out 0).trans rfl;have hcz13_1 : w12.cell? ⟨gb101,1,none⟩ = some (.int .i64 0) := (blk_cell BK101.out 1).trans rfl;have hfz13_0 := blk_frozen BK101.out 0;have hfz13_1 := blk_frozen BK101.out 1))
  refine bodyPost_ret (results_cell_row rfl _ _ gb101 30 #[.int .i32 t102,.int .i64 t103] (0,0) _ rfl au6 Tryd.underlying30 rfl (by kernel_rfl)) rfl ?_
  exact ⟨au2,by repeat (first | (with_reducible first | exact HB.out | apply below_alloc | apply pw_below_drewN | apply below_drew1 | refine below_set ?_ GE101.out) | exact HB.out)⟩
def unit_around.l0 : Nat → ByteArray → Int → Int → Option (Int × Int)
 | 0,_,_,_ => none
 | k + 1,x0,x1,x6 => if x6 < x1 then (if 0 ≤ x6 then (if x6 ≤ (x0.size : Int) then ((unit_first.f (x0.extract (x6 : Int).toNat x0.size)).bind fun bt104 => (if (wrap64 (x6 + bt104.2)) > x1 then (some (x6,wrap64 (x6 + bt104.2))) else (unit_around.l0 k x0 x1 (wrap64 (x6 + 1))))) else (none)) else (none)) else (if x1 = (x0.size : Int) then (some (x1,x1)) else (if 0 ≤ x1 then (if x1 ≤ (x0.size : Int) then ((unit_first.f (x0.extract (x1 : Int).toNat x0.size)).bind fun bt107 => (some (x1,wrap64 (x1 + bt107.2)))) else (none)) else (none)))
def unit_around.f (k : Nat) (a0 : ByteArray) (a1 : Int) : Option (Int × Int) := unit_around.l0 k a0 a1 (mx 0 (wrap64 (a1 - 3)))
set_option maxHeartbeats 8000000 in
set_option maxRecDepth 100000 in
theorem unit_around.calls (k : Nat) (a0 : ByteArray) (a1 : Int) (r1 : Int) (r2 : Int) (w : World) (hT : Lib.Utf8Tabs 0 1 w) (h : unit_around.f k a0 a1 = some (r1,r2)) :
  Calls Tryd.prog 59 #[.string a0,.int .i64 a1] w fun e w' => e = .returned (.tuple #[.int .i64 r1,.int .i64 r2]) ∧ Below w.heap.size w w' := by
 have hu30 := Tryd.underlying30
 have hfd30_1 : ∀ (x0 x1 : Value) (W : World),(Instr.field 30 (.agg #[x0,x1]) 1).run Tryd.prog W = .ok (x1) W := fun _ _ _ => by kernel_rfl
 have HT := Aside0.mk hT
 clear hT
 have HB := Aside0.mk (Below.refl w.heap.size w)
 have H : (unit_around.l0 k a0 a1 (mx 0 (wrap64 (a1 - 3)))) = some (r1,r2) := h
 clear h
 obtain ⟨ji3,hji3⟩ : ∃ j_ : Int,(mx 0 (wrap64 (a1 - 3))) = j_ := ⟨_,rfl⟩
 replace H : (unit_around.l0 k a0 a1 ji3) = some (r1,r2) := by first | (rw [hji3] at H;exact H) | (simp only [hji3] at H ⊢;exact H)
 (try (have hji3l : 0 ≤ ji3 := by (rw [← hji3];unfold mx;(repeat' split) <;> omega)))
 (try (have hji3m : 0 ≤ ji3 := by omega))
 have hji3_ : (if 0 < (wrap64 (a1 - 3)) then (wrap64 (a1 - 3)) else 0) = ji3 := hji3
 have H' := Aside0.mk H
 clear H
 go_enter Tryd.func59,Tryd.ntmps59
 go_wp2
 repeat (go_quiet (fail);try go_wp2)
 go_loopg [6] k (fun kq v6 w' => ∃ (x6_1 : Int),v6 = .int .i64 x6_1 ∧ Aside0 (unit_around.l0 kq a0 a1 x6_1 = some (r1,r2)) ∧ Aside0 (kq ≤ k) ∧ Aside0 (Below w.heap.size w w'))
 case atStart => exact ⟨(ji3),(by first | rfl | (simp;done) | (simp only [← hji3] <;> (first | rfl | simp)) | (simp [*];done)),H',⟨Nat.le_refl _⟩,⟨au0⟩⟩
 case round =>
  clear H'
  try clear p2
  obtain ⟨x6_1,rfl,HA,HK1,HB⟩ := hrel
  cases gk with
  | zero => exact absurd HA.out (by simp [unit_around.l0])
  | succ k1 =>
   have H := HA.out
   clear HA
   simp only [unit_around.l0] at H
   by_cases c4 : x6_1 < a1
   ·rw [if_pos c4] at H
    have c4b0 : decide (x6_1 < a1) = true := decide_eq_true c4
    clear c4
    by_cases c5 : 0 ≤ x6_1
    ·rw [if_pos c5] at H
     have c5b0 := eq_true c5
     have c5b1 : decide (0 ≤ x6_1) = true := decide_eq_true c5
     clear c5
     by_cases c6 : x6_1 ≤ (a0.size : Int)
     ·rw [if_pos c6] at H
      have c6b0 := eq_true c6
      have c6b1 : decide (x6_1 ≤ (a0.size : Int)) = true := decide_eq_true c6
      clear c6
      replace H := Option.bind_eq_some_iff.mp H
      obtain ⟨⟨t104,t105⟩,A70,H⟩ := H
      replace H : (if (wrap64 (x6_1 + t105)) > a1 then (some (x6_1,wrap64 (x6_1 + t105))) else (unit_around.l0 k1 a0 a1 (wrap64 (x6_1 + 1)))) = some (r1,r2) := H
      have A7 := Aside0.mk A70
      clear A70
      by_cases c8 : (wrap64 (x6_1 + t105)) > a1
      ·rw [if_pos c8] at H
       have c8b0 : decide (a1 < (wrap64 (x6_1 + t105))) = true := decide_eq_true c8
       clear c8
       simp only [Option.some.injEq,Prod.mk.injEq] at H
       obtain ⟨rfl,rfl⟩ := H
       go_wp2_with (first | (go_at_call 61;(with_reducible refine (unit_first.calls (a0.extract (x6_1 : Int).toNat a0.size) t104 t105 _ ?side1 A7.out).mono ?_);(case side1 => exact tabs_below HT.out au0);rintro e w9 ⟨rfl,hb⟩;have n0_ := Aside0.mk (below_step au0 hb);clear HB;have HB := n0_;clear n0_;(try clear hb);(try clear hb2);(try clear hk);(try clear hi)) | ((with_reducible refine gate_dst (N := 7) rfl ?_);refine box_event ?hg (N := 7) ?hd (cs := #[.int .i32 0,.int .i64 0]) (t := 30) ?hr ?_;(case hd => rfl);(case hg => rfl);(case hr => first | (go_simp;done) | (go_simp;rfl));intro gb106 hg w10 hbox hb;have n0_ := Aside0.mk (below_step au0 hb);have n1_ := Aside0.mk (hbox);have n2_ := Aside0.mk ((by rw [hg];exact (below_size au0) : w.heap.size ≤ gb106));have n3_ := Aside0.mk ((by rw [hg];exact (below_size au0) : w.heap.size ≤ gb106));clear HB;have HB := n0_;have BK106 := n1_;have GW106 := n2_;have GE106 := n3_;clear n0_ n1_ n2_ n3_;clear hb hbox hg;have hcz11_0 : w10.cell? ⟨gb106,0,none⟩ = some (.int .i32 0) := (blk_cell BK106.out 0).trans rfl;have hcz11_1 : w10.cell? ⟨gb106,1,none⟩ = some (.int .i64 0) := (blk_cell BK106.out 1).trans rfl;have hfz11_0 := blk_frozen BK106.out 0;have hfz11_1 := blk_frozen BK106.out 1))
       repeat (go_quiet (first | (go_at_call 61;(with_reducible refine (unit_first.calls (a0.extract (x6_1 : Int).toNat a0.size) t104 t105 _ ?side1 A7.out).mono ?_);(case side1 => exact tabs_below HT.out au0);rintro e w9 ⟨rfl,hb⟩;have n0_ := Aside0.mk (below_step au0 hb);clear HB;have HB := n0_;clear n0_;(try clear hb);(try clear hb2);(try clear hk);(try clear hi)) | ((with_reducible refine gate_dst (N := 7) rfl ?_);refine box_event ?hg (N := 7) ?hd (cs := #[.int .i32 0,.int .i64 0]) (t := 30) ?hr ?_;(case hd => rfl);(case hg => rfl);(case hr => first | (go_simp;done) | (go_simp;rfl));intro gb106 hg w10 hbox hb;have n0_ := Aside0.mk (below_step au0 hb);have n1_ := Aside0.mk (hbox);have n2_ := Aside0.mk ((by rw [hg];exact (below_size au0) : w.heap.size ≤ gb106));have n3_ := Aside0.mk ((by rw [hg];exact (below_size au0) : w.heap.size ≤ gb106));clear HB;have HB := n0_;have BK106 := n1_;have GW106 := n2_;have GE106 := n3_;clear n0_ n1_ n2_ n3_;clear hb hbox hg;have hcz11_0 : w10.cell? ⟨gb106,0,none⟩ = some (.int .i32 0) := (blk_cell BK106.out 0).trans rfl;have hcz11_1 : w10.cell? ⟨gb106,1,none⟩ = some (.int .i64 0) := (blk_cell BK106.out 1).trans rfl;have hfz11_0 := blk_frozen BK106.out 0;have hfz11_1 := blk_frozen BK106.out 1));try go_wp2_with (first | (go_at_call 61;(with_reducible refine (unit_first.calls (a0.extract (x6_1 : Int).toNat a0.size) t104 t105 _ ?side1 A7.out).mono ?_);(case side1 => exact tabs_below HT.out au0);rintro e w9 ⟨rfl,hb⟩;have n0_ := Aside0.mk (below_step au0 hb);clear HB;have HB := n0_;clear n0_;(try clear hb);(try clear hb2);(try clear hk);(try clear hi)) | ((with_reducible refine gate_dst (N := 7) rfl ?_);refine box_event ?hg (N := 7) ?hd (cs := #[.int .i32 0,.int .i64 0]) (t := 30) ?hr ?_;(case hd => rfl);(case hg => rfl);(case hr => first | (go_simp;done) | (go_simp;rfl));intro gb106 hg w10 hbox hb;have n0_ := Aside0.mk (below_step au0 hb);have n1_ := Aside0.mk (hbox);have n2_ := Aside0.mk ((by rw [hg];exact (below_size au0) : w.heap.size ≤ gb106));have n3_ := Aside0.mk ((by rw [hg];exact (below_size au0) : w.heap.size ≤ gb106));clear HB;have HB := n0_;have BK106 := n1_;have GW106 := n2_;have GE106 := n3_;clear n0_ n1_ n2_ n3_;clear hb hbox hg;have hcz11_0 : w10.cell? ⟨gb106,0,none⟩ = some (.int .i32 0) := (blk_cell BK106.out 0).trans rfl;have hcz11_1 : w10.cell? ⟨gb106,1,none⟩ = some (.int .i64 0) := (blk_cell BK106.out 1).trans rfl;have hfz11_0 := blk_frozen BK106.out 0;have hfz11_1 := blk_frozen BK106.out 1)))
       go_ret2
       exact ⟨by first | rfl | (simp [errW_none,errW_some] <;> rfl) | (simp only [← hji3];first | rfl | (simp [errW_none,errW_some] <;> rfl)) | (simp [*,errW_none,errW_some] <;> rfl),by repeat (first | (with_reducible first | exact HB.out | apply below_alloc | apply pw_below_drewN | apply below_drew1 | refine below_set ?_ GE106.out) | exact HB.out)⟩
      ·rw [if_neg c8] at H
       have c8b0 : decide (a1 < (wrap64 (x6_1 + t105))) = false := decide_eq_false c8
       clear c8
       have H' := Aside0.mk H
       clear H
       go_wp2_with (first | (go_at_call 61;(with_reducible refine (unit_first.calls (a0.extract (x6_1 : Int).toNat a0.size) t104 t105 _ ?side1 A7.out).mono ?_);(case side1 => exact tabs_below HT.out au0);rintro e w12 ⟨rfl,hb⟩;have n0_ := Aside0.mk (below_step au0 hb);clear HB;have HB := n0_;clear n0_;(try clear hb);(try clear hb2);(try clear hk);(try clear hi)) | ((with_reducible refine gate_dst (N := 7) rfl ?_);refine box_event ?hg (N := 7) ?hd (cs := #[.int .i32 0,.int .i64 0]) (t := 30) ?hr ?_;(case hd => rfl);(case hg => rfl);(case hr => first | (go_simp;done) | (go_simp;rfl));intro gb106 hg w13 hbox hb;have n0_ := Aside0.mk (below_step au0 hb);have n1_ := Aside0.mk (hbox);have n2_ := Aside0.mk ((by rw [hg];exact (below_size au0) : w.heap.size ≤ gb106));have n3_ := Aside0.mk ((by rw [hg];exact (below_size au0) : w.heap.size ≤ gb106));clear HB;have HB := n0_;have BK106 := n1_;have GW106 := n2_;have GE106 := n3_;clear n0_ n1_ n2_ n3_;clear hb hbox hg;have hcz14_0 : w13.cell? ⟨gb106,0,none⟩ = some (.int .i32 0) := (blk_cell BK106.out 0).trans rfl;have hcz14_1 : w13.cell? ⟨gb106,1,none⟩ = some (.int .i64 0) := (blk_cell BK106.out 1).trans rfl;have hfz14_0 := blk_frozen BK106.out 0;have hfz14_1 := blk_frozen BK106.out 1))
       repeat (go_quiet (first | (go_at_call 61;(with_reducible refine (unit_first.calls (a0.extract (x6_1 : Int).toNat a0.size) t104 t105 _ ?side1 A7.out).mono ?_);(case side1 => exact tabs_below HT.out au0);rintro e w12 ⟨rfl,hb⟩;have n0_ := Aside0.mk (below_step au0 hb);clear HB;have HB := n0_;clear n0_;(try clear hb);(try clear hb2);(try clear hk);(try clear hi)) | ((with_reducible refine gate_dst (N := 7) rfl ?_);refine box_event ?hg (N := 7) ?hd (cs := #[.int .i32 0,.int .i64 0]) (t := 30) ?hr ?_;(case hd => rfl);(case hg => rfl);(case hr => first | (go_simp;done) | (go_simp;rfl));intro gb106 hg w13 hbox hb;have n0_ := Aside0.mk (below_step au0 hb);have n1_ := Aside0.mk (hbox);have n2_ := Aside0.mk ((by rw [hg];exact (below_size au0) : w.heap.size ≤ gb106));have n3_ := Aside0.mk ((by rw [hg];exact (below_size au0) : w.heap.size ≤ gb106));clear HB;have HB := n0_;have BK106 := n1_;have GW106 := n2_;have GE106 := n3_;clear n0_ n1_ n2_ n3_;clear hb hbox hg;have hcz14_0 : w13.cell? ⟨gb106,0,none⟩ = some (.int .i32 0) := (blk_cell BK106.out 0).trans rfl;have hcz14_1 : w13.cell? ⟨gb106,1,none⟩ = some (.int .i64 0) := (blk_cell BK106.out 1).trans rfl;have hfz14_0 := blk_frozen BK106.out 0;have hfz14_1 := blk_frozen BK106.out 1));try go_wp2_with (first | (go_at_call 61;(with_reducible refine (unit_first.calls (a0.extract (x6_1 : Int).toNat a0.size) t104 t105 _ ?side1 A7.out).mono ?_);(case side1 => exact tabs_below HT.out au0);rintro e w12 ⟨rfl,hb⟩;have n0_ := Aside0.mk (below_step au0 hb);clear HB;have HB := n0_;clear n0_;(try clear hb);(try clear hb2);(try clear hk);(try clear hi)) | ((with_reducible refine gate_dst (N := 7) rfl ?_);refine box_event ?hg (N := 7) ?hd (cs := #[.int .i32 0,.int .i64 0]) (t := 30) ?hr ?_;(case hd => rfl);(case hg => rfl);(case hr => first | (go_simp;done) | (go_simp;rfl));intro gb106 hg w13 hbox hb;have n0_ := Aside0.mk (below_step au0 hb);have n1_ := Aside0.mk (hbox);have n2_ := Aside0.mk ((by rw [hg];exact (below_size au0) : w.heap.size ≤ gb106));have n3_ := Aside0.mk ((by rw [hg];exact (below_size au0) : w.heap.size ≤ gb106));clear HB;have HB := n0_;have BK106 := n1_;have GW106 := n2_;have GE106 := n3_;clear n0_ n1_ n2_ n3_;clear hb hbox hg;have hcz14_0 : w13.cell? ⟨gb106,0,none⟩ = some (.int .i32 0) := (blk_cell BK106.out 0).trans rfl;have hcz14_1 : w13.cell? ⟨gb106,1,none⟩ = some (.int .i64 0) := (blk_cell BK106.out 1).trans rfl;have hfz14_0 := blk_frozen BK106.out 0;have hfz14_1 := blk_frozen BK106.out 1)))
       go_roundg k1
       case measure => have := HK1.out;omega
       case rel => exact ⟨(wrap64 (x6_1 + 1)),au5,H',⟨by have := HK1.out;omega⟩,⟨by repeat (first | (with_reducible first | exact HB.out | apply below_alloc | apply pw_below_drewN | apply below_drew1 | refine below_set ?_ GE106.out) | exact HB.out)⟩⟩
     ·rw [if_neg c6] at H
      exact absurd H (by simp)
    ·rw [if_neg c5] at H
     exact absurd H (by simp)
   ·rw [if_neg c4] at H
    have c4b0 : decide (x6_1 < a1) = false := decide_eq_false c4
    clear c4
    by_cases c15 : a1 = (a0.size : Int)
    ·rw [if_pos c15] at H
     have c15b0 : (a1 == (a0.size : Int)) = true := beq_iff_eq.mpr c15
     have c15b1 : (a1 != (a0.size : Int)) = false := bne_eq_false_iff_eq.mpr c15
     clear c15
     simp only [Option.some.injEq,Prod.mk.injEq] at H
     obtain ⟨rfl,rfl⟩ := H
     go_wp2
     repeat (go_quiet (fail);try go_wp2)
     go_ret2
     exact ⟨by first | rfl | (simp [errW_none,errW_some] <;> rfl) | (simp only [← hji3];first | rfl | (simp [errW_none,errW_some] <;> rfl)) | (simp [*,errW_none,errW_some] <;> rfl),au0⟩
    ·rw [if_neg c15] at H
     have c15b0 : (a1 == (a0.size : Int)) = false := beq_eq_false_iff_ne.mpr c15
     have c15b1 : (a1 != (a0.size : Int)) = true := bne_iff_ne.mpr c15
     by_cases c16 : 0 ≤ a1
     ·rw [if_pos c16] at H
      have c16b0 := eq_true c16
      have c16b1 : decide (0 ≤ a1) = true := decide_eq_true c16
      clear c16
      by_cases c17 : a1 ≤ (a0.size : Int)
      ·rw [if_pos c17] at H
       have c17b0 := eq_true c17
       have c17b1 : decide (a1 ≤ (a0.size : Int)) = true := decide_eq_true c17
       clear c17
       replace H := Option.bind_eq_some_iff.mp H
       obtain ⟨⟨t107,t108⟩,A180,H⟩ := H
       replace H : (some (a1,wrap64 (a1 + t108))) = some (r1,r2) := H
       have A18 := Aside0.mk A180
       clear A180
       simp only [Option.some.injEq,Prod.mk.injEq] at H
       obtain ⟨rfl,rfl⟩ := H
       go_wp2_with (first | (go_at_call 61;(with_reducible refine (unit_first.calls (a0.extract (a1 : Int).toNat a0.size) t107 t108 _ ?side1 A18.out).mono ?_);(case side1 => exact tabs_below HT.out au0);rintro e w19 ⟨rfl,hb⟩;have n0_ := Aside0.mk (below_step au0 hb);clear HB;have HB := n0_;clear n0_;(try clear hb);(try clear hb2);(try clear hk);(try clear hi)))
       repeat (go_quiet (first | (go_at_call 61;(with_reducible refine (unit_first.calls (a0.extract (a1 : Int).toNat a0.size) t107 t108 _ ?side1 A18.out).mono ?_);(case side1 => exact tabs_below HT.out au0);rintro e w19 ⟨rfl,hb⟩;have n0_ := Aside0.mk (below_step au0 hb);clear HB;have HB := n0_;clear n0_;(try clear hb);(try clear hb2);(try clear hk);(try clear hi)));try go_wp2_with (first | (go_at_call 61;(with_reducible refine (unit_first.calls (a0.extract (a1 : Int).toNat a0.size) t107 t108 _ ?side1 A18.out).mono ?_);(case side1 => exact tabs_below HT.out au0);rintro e w19 ⟨rfl,hb⟩;have n0_ := Aside0.mk (below_step au0 hb);clear HB;have HB := n0_;clear n0_;(try clear hb);(try clear hb2);(try clear hk);(try clear hi))))
       go_ret2
       exact ⟨by first | rfl | (simp [errW_none,errW_some] <;> rfl) | (simp only [← hji3];first | rfl | (simp [errW_none,errW_some] <;> rfl)) | (simp [*,errW_none,errW_some] <;> rfl),au0⟩
      ·rw [if_neg c17] at H
       exact absurd H (by simp)
     ·rw [if_neg c16] at H
      exact absurd H (by simp)
def unit_Boundary.f (k : Nat) (a0 : ByteArray) (a1 : Int) : Option (Bool) := if a1 < 0 then (some false) else (if a1 > (a0.size : Int) then (some false) else ((unit_around.f k a0 a1).bind fun bt109 => (some (bt109.1 == a1))))
set_option maxHeartbeats 8000000 in
set_option maxRecDepth 100000 in
theorem unit_Boundary.calls (k : Nat) (a0 : ByteArray) (a1 : Int) (r : Bool) (w : World) (hT : Lib.Utf8Tabs 0 1 w) (h : unit_Boundary.f k a0 a1 = some r) :
  Calls Tryd.prog 22 #[.string a0,.int .i64 a1] w fun e w' => e = .returned (.bool r) ∧ Below w.heap.size w w' := by
 have HT := Aside0.mk hT
 clear hT
 have HB := Aside0.mk (Below.refl w.heap.size w)
 have H : (if a1 < 0 then (some false) else (if a1 > (a0.size : Int) then (some false) else ((unit_around.f k a0 a1).bind fun bt109 => (some (bt109.1 == a1))))) = some r := h
 clear h
 by_cases c3 : a1 < 0
 ·rw [if_pos c3] at H
  have c3b0 : decide (a1 < 0) = true := decide_eq_true c3
  clear c3
  obtain rfl := Option.some.inj H
  go_enter Tryd.func22,Tryd.ntmps22
  go_wp2
  go_ret
  exact ⟨au2,au0⟩
 ·rw [if_neg c3] at H
  have c3b0 : decide (a1 < 0) = false := decide_eq_false c3
  clear c3
  by_cases c4 : a1 > (a0.size : Int)
  ·rw [if_pos c4] at H
   have c4b0 : decide ((a0.size : Int) < a1) = true := decide_eq_true c4
   clear c4
   obtain rfl := Option.some.inj H
   go_enter Tryd.func22,Tryd.ntmps22
   go_wp2
   go_ret
   exact ⟨au2,au0⟩
  ·rw [if_neg c4] at H
   have c4b0 : decide ((a0.size : Int) < a1) = false := decide_eq_false c4
   clear c4
   replace H := Option.bind_eq_some_iff.mp H
   obtain ⟨⟨t109,t110⟩,A50,H⟩ := H
   replace H : (some (t109 == a1)) = some r := H
   have A5 := Aside0.mk A50
   clear A50
   obtain rfl := Option.some.inj H
   go_enter Tryd.func22,Tryd.ntmps22
   go_wp2_with (first | ((with_reducible refine gate_callee (f := 59) rfl ?_);refine goesL_ (some 18) rfl rfl Tryd.func59 (by kernel_rfl) rfl #[.string a0,.int .i64 a1] rfl au1 ?_;(with_reducible refine (unit_around.calls k a0 a1 t109 t110 _ ?side1 A5.out).mono ?_);(case side1 => exact tabs_below HT.out au0);rintro e w6 ⟨rfl,hb⟩;refine ⟨_,rfl,?_⟩;have n0_ := Aside0.mk (below_step au0 hb);clear HB;have HB := n0_;clear n0_;(try clear hb);(try clear hb2);(try clear hk);(try clear hi)))
   go_ret
   exact ⟨au2,au0⟩
def unit_Up.f (k : Nat) (a0 : ByteArray) (a1 : Int) : Option (Int) := (unit_around.f k a0 (mn (mx a1 0) (a0.size : Int))).bind fun bt122 => (if bt122.1 = (mn (mx a1 0) (a0.size : Int)) then (some (mn (mx a1 0) (a0.size : Int))) else (some bt122.2))
set_option maxHeartbeats 8000000 in
set_option maxRecDepth 100000 in
theorem unit_Up.calls (k : Nat) (a0 : ByteArray) (a1 : Int) (r : Int) (w : World) (hT : Lib.Utf8Tabs 0 1 w) (h : unit_Up.f k a0 a1 = some r) :
  Calls Tryd.prog 27 #[.string a0,.int .i64 a1] w fun e w' => e = .returned (.int .i64 r) ∧ Below w.heap.size w w' := by
 have HT := Aside0.mk hT
 clear hT
 have HB := Aside0.mk (Below.refl w.heap.size w)
 have H : ((unit_around.f k a0 (mn (mx a1 0) (a0.size : Int))).bind fun bt122 => (if bt122.1 = (mn (mx a1 0) (a0.size : Int)) then (some (mn (mx a1 0) (a0.size : Int))) else (some bt122.2))) = some r := h
 clear h
 obtain ⟨ji3,hji3⟩ : ∃ j_ : Int,(mx a1 0) = j_ := ⟨_,rfl⟩
 replace H : ((unit_around.f k a0 (mn (ji3) (a0.size : Int))).bind fun bt122 => (if bt122.1 = (mn (ji3) (a0.size : Int)) then (some (mn (ji3) (a0.size : Int))) else (some bt122.2))) = some r := by first | (rw [hji3] at H;exact H) | (simp only [hji3] at H ⊢;exact H)
 (try (have hji3l : 0 ≤ ji3 := by (rw [← hji3];unfold mx;(repeat' split) <;> omega)))
 (try (have hji3m : 0 ≤ ji3 := by omega))
 have hji3_ : (if a1 < 0 then 0 else a1) = ji3 := hji3
 obtain ⟨ji4,hji4⟩ : ∃ j_ : Int,(mn (ji3) (a0.size : Int)) = j_ := ⟨_,rfl⟩
 replace H : ((unit_around.f k a0 (ji4)).bind fun bt122 => (if bt122.1 = (ji4) then (some ji4) else (some bt122.2))) = some r := by first | (rw [hji4] at H;exact H) | (simp only [hji4] at H ⊢;exact H)
 have hji4_ : (if (a0.size : Int) < (ji3) then (a0.size : Int) else (ji3)) = ji4 := hji4
 replace H := Option.bind_eq_some_iff.mp H
 obtain ⟨⟨t122,t123⟩,A50,H⟩ := H
 replace H : (if t122 = (ji4) then (some ji4) else (some t123)) = some r := H
 have A5 := Aside0.mk A50
 clear A50
 by_cases c6 : t122 = (ji4)
 ·rw [if_pos c6] at H
  have c6b0 : (t122 == (ji4)) = true := beq_iff_eq.mpr c6
  have c6b1 : (t122 != (ji4)) = false := bne_eq_false_iff_eq.mpr c6
  clear c6
  obtain rfl := Option.some.inj H
  go_enter Tryd.func27,Tryd.ntmps27
  go_wp2_with (first | ((with_reducible refine gate_callee (f := 59) rfl ?_);refine goesL_ (some 15) rfl rfl Tryd.func59 (by kernel_rfl) rfl #[.string a0,.int .i64 ji4] rfl (by (try simp only [List.map_toArray,List.map_cons,List.map_nil]);first | done | (simp only [hji4];rfl) | rfl | (simp only [List.length_drop,List.length_take];rfl)) ?_;(with_reducible refine (unit_around.calls k a0 ji4 t122 t123 _ ?side1 A5.out).mono ?_);(case side1 => exact tabs_below HT.out au0);rintro e w7 ⟨rfl,hb⟩;refine ⟨_,rfl,?_⟩;have n0_ := Aside0.mk (below_step au0 hb);clear HB;have HB := n0_;clear n0_;(try clear hb);(try clear hb2);(try clear hk);(try clear hi)))
  go_ret
  exact ⟨by first | rfl | (simp [errW_none,errW_some] <;> rfl) | (simp only [← hji3,← hji4];first | rfl | (simp [errW_none,errW_some] <;> rfl)) | (simp [*,errW_none,errW_some] <;> rfl),au0⟩
 ·rw [if_neg c6] at H
  have c6b0 : (t122 == (ji4)) = false := beq_eq_false_iff_ne.mpr c6
  have c6b1 : (t122 != (ji4)) = true := bne_iff_ne.mpr c6
  obtain rfl := Option.some.inj H
  go_enter Tryd.func27,Tryd.ntmps27
  go_wp2_with (first | ((with_reducible refine gate_callee (f := 59) rfl ?_);refine goesL_ (some 15) rfl rfl Tryd.func59 (by kernel_rfl) rfl #[.string a0,.int .i64 ji4] rfl (by (try simp only [List.map_toArray,List.map_cons,List.map_nil]);first | done | (simp only [hji4];rfl) | rfl | (simp only [List.length_drop,List.length_take];rfl)) ?_;(with_reducible refine (unit_around.calls k a0 ji4 t122 t123 _ ?side1 A5.out).mono ?_);(case side1 => exact tabs_below HT.out au0);rintro e w8 ⟨rfl,hb⟩;refine ⟨_,rfl,?_⟩;have n0_ := Aside0.mk (below_step au0 hb);clear HB;have HB := n0_;clear n0_;(try clear hb);(try clear hb2);(try clear hk);(try clear hi)))
  go_ret
  exact ⟨by first | rfl | (simp [errW_none,errW_some] <;> rfl) | (simp only [← hji3,← hji4];first | rfl | (simp [errW_none,errW_some] <;> rfl)) | (simp [*,errW_none,errW_some] <;> rfl),au0⟩
def unit_Next.f (k : Nat) (a0 : ByteArray) (a1 : Int) : Option (Int) := if a1 < 0 then (some 0) else ((unit_around.f k a0 (mn a1 (a0.size : Int))).bind fun bt167 => (some bt167.2))
set_option maxHeartbeats 8000000 in
set_option maxRecDepth 100000 in
theorem unit_Next.calls (k : Nat) (a0 : ByteArray) (a1 : Int) (r : Int) (w : World) (hT : Lib.Utf8Tabs 0 1 w) (h : unit_Next.f k a0 a1 = some r) :
  Calls Tryd.prog 32 #[.string a0,.int .i64 a1] w fun e w' => e = .returned (.int .i64 r) ∧ Below w.heap.size w w' := by
 have HT := Aside0.mk hT
 clear hT
 have HB := Aside0.mk (Below.refl w.heap.size w)
 have H : (if a1 < 0 then (some 0) else ((unit_around.f k a0 (mn a1 (a0.size : Int))).bind fun bt167 => (some bt167.2))) = some r := h
 clear h
 by_cases c3 : a1 < 0
 ·rw [if_pos c3] at H
  have c3b0 : decide (a1 < 0) = true := decide_eq_true c3
  clear c3
  obtain rfl := Option.some.inj H
  go_enter Tryd.func32,Tryd.ntmps32
  go_wp2
  go_ret
  exact ⟨au2,au0⟩
 ·rw [if_neg c3] at H
  have c3b0 : decide (a1 < 0) = false := decide_eq_false c3
  clear c3
  obtain ⟨ji4,hji4⟩ : ∃ j_ : Int,(mn a1 (a0.size : Int)) = j_ := ⟨_,rfl⟩
  replace H : ((unit_around.f k a0 (ji4)).bind fun bt167 => (some bt167.2)) = some r := by first | (rw [hji4] at H;exact H) | (simp only [hji4] at H ⊢;exact H)
  have hji4_ : (if (a0.size : Int) < a1 then (a0.size : Int) else a1) = ji4 := hji4
  replace H := Option.bind_eq_some_iff.mp H
  obtain ⟨⟨t167,t168⟩,A50,H⟩ := H
  replace H : (some t168) = some r := H
  have A5 := Aside0.mk A50
  clear A50
  obtain rfl := Option.some.inj H
  go_enter Tryd.func32,Tryd.ntmps32
  go_wp2_with (first | ((with_reducible refine gate_callee (f := 59) rfl ?_);refine goesL_ (some 15) rfl rfl Tryd.func59 (by kernel_rfl) rfl #[.string a0,.int .i64 ji4] rfl (by (try simp only [List.map_toArray,List.map_cons,List.map_nil]);first | done | (simp only [hji4];rfl) | rfl | (simp only [List.length_drop,List.length_take];rfl)) ?_;(with_reducible refine (unit_around.calls k a0 ji4 t167 t168 _ ?side1 A5.out).mono ?_);(case side1 => exact tabs_below HT.out au0);rintro e w6 ⟨rfl,hb⟩;refine ⟨_,rfl,?_⟩;have n0_ := Aside0.mk (below_step au0 hb);clear HB;have HB := n0_;clear n0_;(try clear hb);(try clear hb2);(try clear hk);(try clear hi)))
  go_ret
  exact ⟨by first | rfl | (simp [errW_none,errW_some] <;> rfl) | (simp only [← hji4];first | rfl | (simp [errW_none,errW_some] <;> rfl)) | (simp [*,errW_none,errW_some] <;> rfl),au0⟩
mutual
def bodkinref01_begins.j0 : Nat → ByteArray → Int → Int → Bool → Option (Int)
 | 0,_,_,_,_ => none
 | k + 1,x0,x3,x4,x19 => if x19 = true then (some (-1)) else (bodkinref01_begins.l0 k x0 x3 x4 1)
def bodkinref01_begins.l0 : Nat → ByteArray → Int → Int → Int → Option (Int)
 | 0,_,_,_,_ => none
 | k + 1,x0,x3,x4,x5 => if x5 ≤ x4 then (if 0 ≤ x5 then (if x5 < (x0.size : Int) then (if (bt x0 x5) < 128 then (some (-1)) else (if (bt x0 x5) > 191 then (some (-1)) else (bodkinref01_begins.l0 k x0 (wrap32 ((wrap32 ((wrap32 (x3 * 64)) + (wrap32 (bt x0 x5)))) - 128)) x4 (wrap64 (x5 + 1))))) else (none)) else (none)) else ((bodkinref01_scalar.f x3).bind fun t176 => (if t176 = true then ((bodkinref01_size.f x3).bind fun t177 => (if t177 = (wrap64 (x4 + 1)) then (some x3) else (some (-1)))) else (some (-1))))
end
def bodkinref01_begins.f (k : Nat) (a0 : ByteArray) : Option (Int) := if 0 < (a0.size : Int) then ((bodkinref01_lead.f k (bt a0 0)).bind fun bt174 => (if bt174.2 < 0 then (bodkinref01_begins.j0 k a0 bt174.1 bt174.2 true) else (bodkinref01_begins.j0 k a0 bt174.1 bt174.2 (decide ((a0.size : Int) ≤ bt174.2))))) else (none)
set_option maxHeartbeats 8000000 in
set_option maxRecDepth 100000 in
theorem bodkinref01_begins.calls (k : Nat) (a0 : ByteArray) (r : Int) (w : World) (h : bodkinref01_begins.f k a0 = some r) :
  Calls Tryd.prog 62 #[.string a0] w fun e w' => e = .returned (.int .i32 r) ∧ Below w.heap.size w w' := by
 have HB := Aside0.mk (Below.refl w.heap.size w)
 have H : (if 0 < (a0.size : Int) then ((bodkinref01_lead.f k (bt a0 0)).bind fun bt174 => (if bt174.2 < 0 then (bodkinref01_begins.j0 k a0 bt174.1 bt174.2 true) else (bodkinref01_begins.j0 k a0 bt174.1 bt174.2 (decide ((a0.size : Int) ≤ bt174.2))))) else (none)) = some r := h
 clear h
 by_cases c2 : 0 < (a0.size : Int)
 ·rw [if_pos c2] at H
  have c2b0 : decide (0 < (a0.size : Int)) = true := decide_eq_true c2
  have c2b1 : decide (0 < a0.size) = true := decide_eq_true (by omega)
  clear c2
  replace H := Option.bind_eq_some_iff.mp H
  obtain ⟨⟨t174,t175⟩,A40,H⟩ := H
  replace H : (if t175 < 0 then (bodkinref01_begins.j0 k a0 t174 t175 true) else (bodkinref01_begins.j0 k a0 t174 t175 (decide ((a0.size : Int) ≤ t175)))) = some r := H
  have A4 := Aside0.mk A40
  clear A40
  have HC5 := Aside0.mk H
  clear H
  have p3 : 0 ≤ (0 : Int) := (by omega)
  have q3 : 0 < a0.size := (by have : (0 : Int) < (a0.size : Int) := of_decide_eq_true au4;omega)
  have hx3 : ∀ h : 0 < a0.size,((a0[0]'h).toNat : Int) = bt a0 0 := bt_at a0 0
  clear p3
  have qi3 : (0 < (a0.size : Int)) = True := eq_true (of_decide_eq_true au4)
  replace q3 := eq_true q3
  go_enter Tryd.func62,Tryd.ntmps62
  go_upto_region 2 with (first | ((with_reducible refine gate_callee (f := 73) rfl ?_);refine goesL_ (some 9) rfl rfl Tryd.func73 (by kernel_rfl) rfl #[.int .u8 (bt a0 0)] rfl au1 ?_;(with_reducible refine (bodkinref01_lead.calls k (bt a0 0) t174 t175 _ A4.out).mono ?_);rintro e w' ⟨rfl,⟨nd,rfl⟩⟩;refine ⟨_,rfl,?_⟩))
  (try simp only [Act.put,List.setIfInBounds_toArray,List.set_cons_zero,List.set_cons_succ])
  go_cut [19] (fun v19 wc => ∃ (kq : Nat) (x19_4 : Bool),v19 = .bool x19_4 ∧ Aside0 (bodkinref01_begins.j0 kq a0 t174 t175 x19_4 = some r) ∧ Aside0 (kq ≤ k) ∧ Aside0 (Below w.heap.size w wc))
  case first =>
   have H := HC5.out
   clear HC5
   by_cases c6 : t175 < 0
   ·rw [if_pos c6] at H
    have c6b0 : decide (t175 < 0) = true := decide_eq_true c6
    clear c6
    (first | rw [c6b0] | (simp only [i64_w,i32_w];rw [c6b0]) | skip)
    have H' := Aside0.mk H
    clear H
    go_wp2
    go_meet
    case rel => exact ⟨_,(true),au5,H',⟨by first | omega | exact Nat.le_refl _⟩,⟨au0⟩⟩
   ·rw [if_neg c6] at H
    have c6b0 : decide (t175 < 0) = false := decide_eq_false c6
    clear c6
    (first | rw [c6b0] | (simp only [i64_w,i32_w];rw [c6b0]) | skip)
    have H' := Aside0.mk H
    clear H
    go_wp2
    go_meet
    case rel => exact ⟨_,(decide ((a0.size : Int) ≤ t175)),au5,H',⟨by first | omega | exact Nat.le_refl _⟩,⟨au0⟩⟩
  case rest =>
   clear HC5
   try clear c2
   try clear c2b0
   try clear c2b1
   try clear p2
   try clear p3
   try clear q3
   try clear hx3
   try clear qi3
   try clear c6
   try clear c6b0
   try clear p3
   try clear q3
   obtain ⟨kq,x19_4,rfl,HA,HJ4,HB⟩ := hcut
   cases kq with
   | zero => exact absurd HA.out (by simp [bodkinref01_begins.j0])
   | succ kj4 =>
    have H := HA.out
    clear HA
    simp only [bodkinref01_begins.j0] at H
    by_cases c7 : x19_4 = true
    ·subst c7
     have H1 : (some (-1)) = some r := by rw [if_pos rfl] at H;exact H
     clear H
     have H := H1
     clear H1
     obtain rfl := Option.some.inj H
     go_wp2
     go_ret
     exact ⟨au2,au0⟩
    ·replace c7 := Bool.eq_false_iff.mpr c7
     subst c7
     have H1 : (bodkinref01_begins.l0 kj4 a0 t174 t175 1) = some r := by rw [if_neg (show ¬ (false = true) by decide)] at H;exact H
     clear H
     have H := H1
     clear H1
     have H' := Aside0.mk H
     clear H
     go_wp2
     go_loopg [3,5] kj4 (fun kq v3 v5 w' => ∃ (x3_2 : Int) (x5_2 : Int),v3 = .int .i32 x3_2 ∧ v5 = .int .i64 x5_2 ∧ Aside0 (bodkinref01_begins.l0 kq a0 x3_2 t175 x5_2 = some r) ∧ Aside0 (kq ≤ kj4) ∧ Aside0 (Below w.heap.size w w'))
     case atStart => exact ⟨(t174),(1),au5,au5,H',⟨Nat.le_refl _⟩,⟨au0⟩⟩
     case round =>
      clear H'
      try clear c2
      try clear c2b0
      try clear c2b1
      try clear p2
      try clear p3
      try clear q3
      try clear hx3
      try clear qi3
      try clear c6
      try clear c6b0
      try clear c7
      try clear p2
      try clear p3
      try clear q3
      obtain ⟨x3_2,x5_2,rfl,rfl,HA,HK2,HB⟩ := hrel
      cases gk with
      | zero => exact absurd HA.out (by simp [bodkinref01_begins.l0])
      | succ k2 =>
       have H := HA.out
       clear HA
       simp only [bodkinref01_begins.l0] at H
       by_cases c8 : x5_2 ≤ t175
       ·rw [if_pos c8] at H
        have c8b0 : decide (x5_2 ≤ t175) = true := decide_eq_true c8
        clear c8
        by_cases c9 : 0 ≤ x5_2
        ·rw [if_pos c9] at H
         have c9b0 : decide (0 ≤ x5_2) = true := decide_eq_true c9
         clear c9
         by_cases c10 : x5_2 < (a0.size : Int)
         ·rw [if_pos c10] at H
          have c10b0 : decide (x5_2 < (a0.size : Int)) = true := decide_eq_true c10
          clear c10
          by_cases c12 : (bt a0 x5_2) < 128
          ·rw [if_pos c12] at H
           have c12b0 : decide ((bt a0 x5_2) < 128) = true := decide_eq_true c12
           clear c12
           obtain rfl := Option.some.inj H
           have p11 : 0 ≤ (x5_2 : Int) := of_decide_eq_true au4
           have q11 : x5_2 < (a0.size : Int) := of_decide_eq_true au4
           have hx11 := bt_at a0 x5_2
           replace p11 := eq_true p11
           replace q11 := eq_true q11
           go_wp2
           go_ret
           exact ⟨au2,au0⟩
          ·rw [if_neg c12] at H
           have c12b0 : decide ((bt a0 x5_2) < 128) = false := decide_eq_false c12
           clear c12
           by_cases c14 : (bt a0 x5_2) > 191
           ·rw [if_pos c14] at H
            have c14b0 : decide (191 < (bt a0 x5_2)) = true := decide_eq_true c14
            clear c14
            obtain rfl := Option.some.inj H
            have p11 : 0 ≤ (x5_2 : Int) := of_decide_eq_true au4
            have q11 : x5_2 < (a0.size : Int) := of_decide_eq_true au4
            have hx11 := bt_at a0 x5_2
            replace p11 := eq_true p11
            replace q11 := eq_true q11
            have p13 : 0 ≤ (x5_2 : Int) := of_decide_eq_true au4
            have q13 : x5_2 < (a0.size : Int) := of_decide_eq_true au4
            have hx13 := bt_at a0 x5_2
            replace p13 := eq_true p13
            replace q13 := eq_true q13
            go_wp2
            go_ret
            exact ⟨au2,au0⟩
           ·rw [if_neg c14] at H
            have c14b0 : decide (191 < (bt a0 x5_2)) = false := decide_eq_false c14
            clear c14
            have H' := Aside0.mk H
            clear H
            have p11 : 0 ≤ (x5_2 : Int) := of_decide_eq_true au4
            have q11 : x5_2 < (a0.size : Int) := of_decide_eq_true au4
            have hx11 := bt_at a0 x5_2
            replace p11 := eq_true p11
            replace q11 := eq_true q11
            have p13 : 0 ≤ (x5_2 : Int) := of_decide_eq_true au4
            have q13 : x5_2 < (a0.size : Int) := of_decide_eq_true au4
            have hx13 := bt_at a0 x5_2
            replace p13 := eq_true p13
            replace q13 := eq_true q13
            have p15 : 0 ≤ (x5_2 : Int) := of_decide_eq_true au4
            have q15 : x5_2 < (a0.size : Int) := of_decide_eq_true au4
            have hx15 := bt_at a0 x5_2
            replace p15 := eq_true p15
            replace q15 := eq_true q15
            go_wp2
            go_roundg k2
            case measure => have := HJ4.out;have := HK2.out;omega
            case rel => exact ⟨(wrap32 ((wrap32 ((wrap32 (x3_2 * 64)) + (wrap32 (bt a0 x5_2)))) - 128)),(wrap64 (x5_2 + 1)),au5,au5,H',⟨by have := HJ4.out;have := HK2.out;omega⟩,⟨au0⟩⟩
         ·rw [if_neg c10] at H
          exact absurd H (by simp)
        ·rw [if_neg c9] at H
         exact absurd H (by simp)
       ·rw [if_neg c8] at H
        have c8b0 : decide (x5_2 ≤ t175) = false := decide_eq_false c8
        clear c8
        replace H := Option.bind_eq_some_iff.mp H
        obtain ⟨t176,A160,H⟩ := H
        replace H : (if t176 = true then ((bodkinref01_size.f x3_2).bind fun t177 => (if t177 = (wrap64 (t175 + 1)) then (some x3_2) else (some (-1)))) else (some (-1))) = some r := H
        have A16 := Aside0.mk A160
        clear A160
        by_cases c17 : t176 = true
        ·subst c17
         have H1 : ((bodkinref01_size.f x3_2).bind fun t177 => (if t177 = (wrap64 (t175 + 1)) then (some x3_2) else (some (-1)))) = some r := by rw [if_pos rfl] at H;exact H
         clear H
         have H := H1
         clear H1
         replace H := Option.bind_eq_some_iff.mp H
         obtain ⟨t177,A180,H⟩ := H
         replace H : (if t177 = (wrap64 (t175 + 1)) then (some x3_2) else (some (-1))) = some r := H
         have A18 := Aside0.mk A180
         clear A180
         by_cases c19 : t177 = (wrap64 (t175 + 1))
         ·rw [if_pos c19] at H
          have c19b0 : (t177 == (wrap64 (t175 + 1))) = true := beq_iff_eq.mpr c19
          have c19b1 : (t177 != (wrap64 (t175 + 1))) = false := bne_eq_false_iff_eq.mpr c19
          clear c19
          obtain rfl := Option.some.inj H
          go_wp2_with (first | ((with_reducible refine gate_callee (f := 77) rfl ?_);refine goesL_ (some 44) rfl rfl Tryd.func77 (by kernel_rfl) rfl #[.int .i32 x3_2] rfl au1 ?_;(with_reducible refine (bodkinref01_scalar.calls x3_2 true _ A16.out).mono ?_);rintro e w' ⟨rfl,⟨nd,rfl⟩⟩;refine ⟨_,rfl,?_⟩) | (go_at_call 63;(with_reducible refine (bodkinref01_size.calls x3_2 t177 _ A18.out).mono ?_);rintro e w20 ⟨rfl,hb⟩;have n0_ := Aside0.mk (below_step au0 hb);clear HB;have HB := n0_;clear n0_;(try clear hb);(try clear hb2);(try clear hk);(try clear hi)))
          go_ret
          exact ⟨au2,au0⟩
         ·rw [if_neg c19] at H
          have c19b0 : (t177 == (wrap64 (t175 + 1))) = false := beq_eq_false_iff_ne.mpr c19
          have c19b1 : (t177 != (wrap64 (t175 + 1))) = true := bne_iff_ne.mpr c19
          obtain rfl := Option.some.inj H
          go_wp2_with (first | ((with_reducible refine gate_callee (f := 77) rfl ?_);refine goesL_ (some 44) rfl rfl Tryd.func77 (by kernel_rfl) rfl #[.int .i32 x3_2] rfl au1 ?_;(with_reducible refine (bodkinref01_scalar.calls x3_2 true _ A16.out).mono ?_);rintro e w' ⟨rfl,⟨nd,rfl⟩⟩;refine ⟨_,rfl,?_⟩) | (go_at_call 63;(with_reducible refine (bodkinref01_size.calls x3_2 t177 _ A18.out).mono ?_);rintro e w21 ⟨rfl,hb⟩;have n0_ := Aside0.mk (below_step au0 hb);clear HB;have HB := n0_;clear n0_;(try clear hb);(try clear hb2);(try clear hk);(try clear hi)))
          go_ret
          exact ⟨au2,au0⟩
        ·replace c17 := Bool.eq_false_iff.mpr c17
         subst c17
         have H1 : (some (-1)) = some r := by rw [if_neg (show ¬ (false = true) by decide)] at H;exact H
         clear H
         have H := H1
         clear H1
         obtain rfl := Option.some.inj H
         go_wp2_with (first | ((with_reducible refine gate_callee (f := 77) rfl ?_);refine goesL_ (some 44) rfl rfl Tryd.func77 (by kernel_rfl) rfl #[.int .i32 x3_2] rfl au1 ?_;(with_reducible refine (bodkinref01_scalar.calls x3_2 false _ A16.out).mono ?_);rintro e w' ⟨rfl,⟨nd,rfl⟩⟩;refine ⟨_,rfl,?_⟩))
         go_ret
         exact ⟨au2,au0⟩
 ·rw [if_neg c2] at H
  exact absurd H (by simp)
end Go.Proofs.YtfhnfhgpaoddbaaDoor.U
end
section
namespace Go.Proofs.YtfhnfhgpaoddbaaDoor.U
open Go.RowKit Go.Proofs.YtfhnfhgpaoddbaaDoorW.PrintWords Go.Proofs.YtfhnfhgpaoddbaaDoorW.PrintLast Go.Proofs.YtfhnfhgpaoddbaaDoorW.PrintMore
attribute [local go_sem] max2_int min2_int max_two min_two max_three min_three max_four min_four   -- for this text's walks alone
set_option linter.unusedVariables false
set_option linter.unusedSimpArgs false
attribute [local go_sem high] eqA30
def unit_Begun.f (a0 : ByteArray) : Option (Bool) := if a0.toList = ([] : List UInt8) then (some false) else ((utf8_FullRuneInString.f a0).bind fun t269 => (some (!t269)))
set_option maxHeartbeats 8000000 in
set_option maxRecDepth 100000 in
theorem unit_Begun.calls (a0 : ByteArray) (r : Bool) (w : World) (hT : Lib.Utf8Tabs 0 1 w) (h : unit_Begun.f a0 = some r) :
  Calls Tryd.prog 34 #[.string a0] w fun e w' => e = .returned (.bool r) ∧ Below w.heap.size w w' := by
 have HT := Aside0.mk hT
 clear hT
 have HB := Aside0.mk (Below.refl w.heap.size w)
 have H : (if a0.toList = ([] : List UInt8) then (some false) else ((utf8_FullRuneInString.f a0).bind fun t269 => (some (!t269)))) = some r := h
 clear h
 by_cases c2 : a0.toList = ([] : List UInt8)
 ·rw [if_pos c2] at H
  have c2b0 : (a0.toList == ([] : List UInt8)) = true := beq_iff_eq.mpr c2
  have c2b1 : (a0.toList != ([] : List UInt8)) = false := bne_eq_false_iff_eq.mpr c2
  clear c2
  obtain rfl := Option.some.inj H
  go_enter Tryd.func34,Tryd.ntmps34
  go_wp2
  go_ret
  exact ⟨au2,au0⟩
 ·rw [if_neg c2] at H
  have c2b0 : (a0.toList == ([] : List UInt8)) = false := beq_eq_false_iff_ne.mpr c2
  have c2b1 : (a0.toList != ([] : List UInt8)) = true := bne_iff_ne.mpr c2
  replace H := Option.bind_eq_some_iff.mp H
  obtain ⟨t269,A30,H⟩ := H
  replace H : (some (!t269)) = some r := H
  have A3 := Aside0.mk A30
  clear A30
  obtain rfl := Option.some.inj H
  go_enter Tryd.func34,Tryd.ntmps34
  go_wp2_with (first | (go_at_call 72;(with_reducible refine (utf8_FullRuneInString.calls a0 t269 _ ?side1 A3.out).mono ?_);(case side1 => exact tabs_below HT.out au0);rintro e w4 ⟨rfl,hb⟩;have n0_ := Aside0.mk (below_step au0 hb);clear HB;have HB := n0_;clear n0_;(try clear hb);(try clear hb2);(try clear hk);(try clear hi)))
  go_ret
  exact ⟨au2,au0⟩
end Go.Proofs.YtfhnfhgpaoddbaaDoor.U
end
section
namespace Go.Proofs.YtfhnfhgpaoddbaaDoor.Rf
open Go Go.RowKit
/-- What a round keeps: what lies below n₀;the cells that lie from B on;and the cells of the blocks of Pr (what the iterator has captured). -/
def KeepB (n₀ : Nat) (Pr : Nat → Prop) (B : Nat) (W W' : World) : Prop :=
 Below n₀ W W' ∧ ∀ (k : Nat) (o : Obj),(Pr k ∨ B ≤ k) → W.heap[k]? = some o → o.isCells = true → W'.heap[k]? = some o
theorem KeepB.refl (n₀ : Nat) (Pr : Nat → Prop) (B : Nat) (W : World) : KeepB n₀ Pr B W W := ⟨Below.refl _ _,fun _ _ _ h _ => h⟩
theorem KeepB.trans {n₀ : Nat} {Pr : Nat → Prop} {B : Nat} {X Y Z : World} (h : KeepB n₀ Pr B X Y) (k : KeepB n₀ Pr B Y Z) : KeepB n₀ Pr B X Z :=
 ⟨h.1.trans k.1,fun i o hi ho hc => k.2 i o hi (h.2 i o hi ho hc) hc⟩
theorem KeepB.of_below {n₀ : Nat} {Pr : Nat → Prop} {B : Nat} {X Y : World} (hn : n₀ ≤ X.heap.size) (h : Below X.heap.size X Y) : KeepB n₀ Pr B X Y :=
 ⟨h.mono hn,fun k _o _ ho _ => (h.block k (Array.getElem?_eq_some_iff.1 ho).1).trans ho⟩
theorem KeepB.putObj {n₀ : Nat} {Pr : Nat → Prop} {B : Nat} {W : World} {l : Nat} {o : Obj} (o' : Obj) (hn : n₀ ≤ W.heap.size) (hl : n₀ ≤ l) (h : W.heap[l]? = some o) (ho : o.isCells = false) : KeepB n₀ Pr B W (W.putObj l o') :=
 ⟨(Below.refl n₀ W).grown (grownBy_putObj' W l o') hn (fun k e => by cases e;omega),fun k p _ hk hc => by
  refine (World.putObj_heap_other (fun e => ?_)).trans hk
  subst e;rw [h] at hk;cases hk;rw [ho] at hc;cases hc⟩
/-- The iterator's contract: at each call of yield it tells a world W0 in which the caller's word held,and what it has laid since. -/
def SeqB {α : Type} (F : Fence) (n : Nat) (P : Program) (g : Nat) (lb : Array Value) (encs : α → Array Value) (n₀ : Nat) (Pr : Nat → Prop) (S Sp : List α → Prop) (N : Nat) (w : World) : Prop :=
 ∀ (l : Nat) (J Jx : List α → World → Prop) (W : World),Below w.heap.size w W → AbidesFrom W.heap.size J → AbidesFrom W.heap.size Jx →
  (∀ pre x W0 W1,J pre W0 → Below W0.heap.size W0 W1 → pre.length < N → YieldAt F (n - 1) P l (encs x) W1 fun e W' =>
   (e = .returned (.bool true) ∧ J (pre ++ [x]) W' ∧ KeepB n₀ Pr W0.heap.size W1 W') ∨ (e = .returned (.bool false) ∧ Jx (pre ++ [x]) W')) →
  J [] W →
  CallsIn F n P g (#[.func (.yield l) #[] #[]] ++ lb) W fun e W' => (∃ v,e = .returned v) ∧ ((∃ xs,S xs ∧ J xs W') ∨ (∃ pre,Sp pre ∧ Jx pre W'))
theorem SeqB.inRound {α : Type} {F : Fence} {n : Nat} {P : Program} {g : Nat} {lb : Array Value} {encs : α → Array Value} {n₀ : Nat} {Pr : Nat → Prop} {S Sp : List α → Prop} {N : Nat} {w : World} (l : Nat)
  (h : SeqB F n P g lb encs n₀ Pr S Sp N w) : SeqB (F.inRound l) n P g lb encs n₀ Pr S Sp N w := h
/-- How a round may be left. -/
def PostB {α : Type} (C n₀ : Nat) (Pr : Nat → Prop) (B : Nat) (I : Nat → List α → World → Prop) (Ix : Code → List α → World → Prop) (xs : List α) (W : World) : Exit → Act → World → Prop
 | .normal,_,W' => KeepsFrom C W W' ∧ KeepB n₀ Pr B W W' ∧ I W'.heap.size xs W'
 | .ret,_,W' => KeepsFrom C W W' ∧ Ix .ret xs W'
 | .exit id,_,W' => KeepsFrom C W W' ∧ Ix (.exit id) xs W'
 | .goto t,_,W' => KeepsFrom C W W' ∧ Ix (.goto t) xs W'
 | .panic _,_,_ => False
 | .outgrown,_,_ => False
variable {F : Fence} {n : Nat} {P : Program}
/-- What of a loop's own book-keeping lasts through its rounds: its record,and the block for deferred calls,where there is one. -/
structure Book (dz : Option Nat) (L : Nat) (r : Loop) (W : World) : Prop where
 at_ : W.heap[L]? = some (.loop r)
 dz_ : ∀ d,dz = some d → W.heap[d]? = some (.deferred (some []))
theorem Book.walks {dz : Option Nat} {L : Nat} {r : Loop} {A B : World} {row : Option Nat} (h : Book dz L r A) (hg : A.grownBy B row) (hr : ∀ k,row = some k → ∃ o : Obj,A.heap[k]? = some o ∧ o.isWalk = true) : Book dz L r B :=
 ⟨(grownBy_keeps hg hr h.at_ rfl).trans h.at_,fun d e => (grownBy_keeps hg hr (h.dz_ d e) rfl).trans (h.dz_ d e)⟩
theorem Book.from_ {dz : Option Nat} {L C : Nat} {r : Loop} {A B : World} (h : Book dz L r A) (hL : C ≤ L) (hd : ∀ d,dz = some d → C ≤ d ∧ d ≠ L) (hk : KeepsFrom C A B) : Book dz L r B :=
 ⟨hk.same _ _ hL h.at_ rfl,fun d e => hk.same _ _ (hd d e).1 (h.dz_ d e) rfl⟩
theorem Book.put {dz : Option Nat} {L C : Nat} {r : Loop} {A : World} (h : Book dz L r A) (hd : ∀ d,dz = some d → C ≤ d ∧ d ≠ L) (r' : Loop) : Book dz L r' (A.putObj L (.loop r')) :=
 ⟨World.putObj_heap_same (Array.getElem?_eq_some_iff.1 h.at_).1,fun d e => (World.putObj_heap_other (hd d e).2).trans (h.dz_ d e)⟩
/-- The rounds,whichever way the loop was entered. -/
theorem rounds {α : Type} {fid : FuncId} {ps : Array Tmp} {assign body : Code} {tm : Array Value} {C n₀ L D gf : Nat} {Pr : Nat → Prop} {lb : Array Value} {W1 w0 : World} {dz : Option Nat}
  {encs : α → Array Value} {S Sp : List α → Prop} {N : Nat} (hfid : F.fn fid) (hseq : SeqB F (n - 1) P gf lb encs n₀ Pr S Sp N w0) (hb1 : Below w0.heap.size w0 W1) (hps : ∀ x,(encs x).size = ps.size)
  (rec : LoopState → Option Code → Loop) (hrec : rec = fun st pe => { state := st,pending := pe,fn := fid,tmps := tm,params := ps,assign,body,defers := D })
  (hnC : n₀ ≤ C) (hCL : C ≤ L) (hCW : C ≤ W1.heap.size) (hdz : ∀ d,dz = some d → C ≤ d ∧ d ≠ L) (hbk : Book dz L (rec .ready none) W1)
  (I : Nat → List α → World → Prop) (Ix : Code → List α → World → Prop) (hI : ∀ B,OwnFrom C (I B)) (hm : ∀ B B' pre W,B ≤ B' → I B pre W → I B' pre W) (hIx : ∀ c,OwnFrom C (Ix c)) (h0 : I W1.heap.size [] W1)
  (Ax : α → Act → World → Prop) (hAx : ∀ x a',OwnFrom C (fun (_ : Unit) W => Ax x a' W))
  (hassign : ∀ (B : Nat) (pre : List α) (x : α) (W : World) (K : Act → World → Prop),C ≤ W.heap.size → B ≤ W.heap.size → I B pre W → (∀ a' W',KeepsFrom C W W' → KeepB n₀ Pr B W W' → I B pre W' → Ax x a' W' → K a' W') →
   assign.wpIn (F.inRound L) (n - 1 - 1) P (Exit.then K (fun _ _ _ => False)) { tmps := (ps.zip (encs x)).foldl (fun t (p,v) => t.setIfInBounds p v) tm,defers := [] } W)
  (hbody : ∀ (B : Nat) (pre : List α) (x : α) (a' : Act) (W : World),C ≤ W.heap.size → (∃ r,W.heap[L]? = some (.loop r)) → B ≤ W.heap.size → I B pre W → Ax x a' W → pre.length < N → body.wpIn (F.inRound L) (n - 1 - 1) P (PostB C n₀ Pr B I Ix (pre ++ [x]) W) a' W) :
  CallsIn F (n - 1) P gf (#[.func (.yield L) #[] #[]] ++ lb) W1 fun e W' => (∃ v,e = .returned v) ∧
   ((∃ xs,S xs ∧ C ≤ W'.heap.size ∧ I W'.heap.size xs W' ∧ Book dz L (rec .ready none) W') ∨ (∃ pre c,Sp pre ∧ C ≤ W'.heap.size ∧ Ix c pre W' ∧ Book dz L (rec .done (some c)) W')) := by
 have hC0 : ∀ {A B : World} {row : Option Nat},(∀ r,row = some r → W1.heap.size ≤ r ∧ ∃ o : Obj,A.heap[r]? = some o ∧ o.isWalk = true) → (∀ r,row = some r → C ≤ r ∧ ∃ o : Obj,A.heap[r]? = some o ∧ o.isCells = false) :=
  fun hr r e => by obtain ⟨hB,o,ho,hw⟩ := hr r e;exact ⟨Nat.le_trans hCW hB,o,ho,Obj.not_cells_of_walk hw⟩
 refine (hseq L (fun pre W => I W.heap.size pre W ∧ Book dz L (rec .ready none) W ∧ C ≤ W.heap.size) (fun pre W => ∃ c,Ix c pre W ∧ Book dz L (rec .done (some c)) W ∧ C ≤ W.heap.size) W1 hb1 ?_ ?_ ?_ ⟨h0,hbk,hCW⟩).mono ?_
 ·rintro s A B row ⟨h1,h2,h3⟩ hg hr
  exact ⟨hm _ _ _ _ hg.size (hI _ s A B row h1 hg (hC0 (B := B) hr)),h2.walks hg (fun r e => (hr r e).2),Nat.le_trans h3 hg.size⟩
 ·rintro s A B row ⟨c,h1,h2,h3⟩ hg hr
  exact ⟨c,hIx c s A B row h1 hg (hC0 (B := B) hr),h2.walks hg (fun r e => (hr r e).2),Nat.le_trans h3 hg.size⟩
 ·rintro pre x W0 W ⟨hi0,hb0,hC⟩ hbel hlen
  have hg : W0.grownBy W none := ⟨hbel.os,hbel.tape,hbel.output,hbel.size,fun i hi _ => hbel.block i hi⟩
  have hi : I W0.heap.size pre W := hI _ pre W0 W none hi0 hg (fun r e => by cases e)
  have hb : Book dz L (rec .ready none) W := hb0.walks hg (fun r e => by cases e)
  have hCW' : C ≤ W.heap.size := Nat.le_trans hC hbel.size
  have hy := run_yield (P := P) (args := encs x) hb.at_ (by rw [hrec];exact hps x)
  rw [hrec] at hy
  refine ⟨fid,_,assign,body,hy,roundIn_of_wpIn hfid (hassign W0.heap.size pre x W _ hCW' hbel.size hi ?_)⟩
  intro a' Wa hkf hkb hia hax
  have hba := hb.from_ hCL hdz hkf
  have hCa : C ≤ Wa.heap.size := Nat.le_trans hCW' hkf.size
  refine ⟨_,run_beginRound hba.at_ (by rw [hrec]),?_⟩
  have hba2 := hba.put (C := C) hdz { rec .ready none with state := .busy }
  have hkb2 : KeepB n₀ Pr W0.heap.size Wa (Wa.putObj L (.loop { rec .ready none with state := .busy })) := KeepB.putObj _ (Nat.le_trans hnC hCa) (Nat.le_trans hnC hCL) hba.at_ rfl
  have hsz2 : (Wa.putObj L (.loop { rec .ready none with state := .busy })).heap.size = Wa.heap.size := by simp
  refine wpIn_mono (hbody W0.heap.size pre x a' _ (by rw [hsz2];exact hCa) ⟨_,hba2.at_⟩ (by rw [hsz2];exact Nat.le_trans hbel.size hkf.size) ((hI _).putObj _ hia hCL hba.at_ rfl) ((hAx x a').putObj (s := ()) _ hax hCL hba.at_ rfl) hlen) ?_
  have fin : ∀ (jump : Option Code) (W3 : World),KeepsFrom C (Wa.putObj L (.loop { rec .ready none with state := .busy })) W3 →
    (Instr.endRound L jump).run P W3 = .ok (.bool jump.isNone) (W3.putObj L (.loop (rec (if jump.isNone then .ready else .done) jump))) ∧
    W3.heap[L]? = some (.loop { rec .ready none with state := .busy }) ∧ Book dz L (rec (if jump.isNone then .ready else .done) jump) (W3.putObj L (.loop (rec (if jump.isNone then .ready else .done) jump))) ∧
    C ≤ (W3.putObj L (.loop (rec (if jump.isNone then .ready else .done) jump))).heap.size := fun jump W3 hk3 => by
   have hb3 := hba2.from_ hCL hdz hk3
   have he := run_endRound (P := P) jump hb3.at_
   refine ⟨?_,hb3.at_,hb3.put (C := C) hdz _,by have := hk3.size;rw [hsz2] at this;simp;omega⟩
   rw [hrec] at he ⊢
   exact he
  rintro e a3 W3 hp
  cases e with
  | normal =>
   obtain ⟨hk3,hkp3,hi3⟩ := hp
   obtain ⟨hr,hl3,hb4,hC4⟩ := fin none W3 hk3
   have hsz3 : n₀ ≤ W3.heap.size := Nat.le_trans hnC (by simpa using hC4)
   refine ⟨_,_,hr,.inl ⟨rfl,⟨?_,hb4,hC4⟩,((hkb.trans hkb2).trans hkp3).trans (KeepB.putObj _ hsz3 (Nat.le_trans hnC hCL) hl3 rfl)⟩⟩
   have hx := (hI _).putObj (.loop (rec .ready none)) hi3 hCL hl3 rfl
   simpa using hx
  | ret =>
   obtain ⟨hk3,hi3⟩ := hp
   obtain ⟨hr,hl3,hb4,hC4⟩ := fin (some .ret) W3 hk3
   exact ⟨_,_,hr,.inr ⟨rfl,.ret,(hIx _).putObj _ hi3 hCL hl3 rfl,hb4,hC4⟩⟩
  | exit id =>
   obtain ⟨hk3,hi3⟩ := hp
   obtain ⟨hr,hl3,hb4,hC4⟩ := fin (some (.exit id)) W3 hk3
   exact ⟨_,_,hr,.inr ⟨rfl,.exit id,(hIx _).putObj _ hi3 hCL hl3 rfl,hb4,hC4⟩⟩
  | goto t =>
   obtain ⟨hk3,hi3⟩ := hp
   obtain ⟨hr,hl3,hb4,hC4⟩ := fin (some (.goto t)) W3 hk3
   exact ⟨_,_,hr,.inr ⟨rfl,.goto t,(hIx _).putObj _ hi3 hCL hl3 rfl,hb4,hC4⟩⟩
  | panic ch => exact hp.elim
  | outgrown => exact hp.elim
 ·rintro e W2 ⟨⟨v,rfl⟩,(⟨xs,hS,hi,hb,hC⟩ | ⟨pre,hSp,c,hi,hb,hC⟩)⟩
  ·exact ⟨⟨v,rfl⟩,.inl ⟨xs,hS,hC,hi,hb⟩⟩
  ·exact ⟨⟨v,rfl⟩,.inr ⟨pre,c,hSp,hC,hi,hb⟩⟩
/-- A loop that stands in no round. -/
theorem range_outer {α : Type} {g : Operand} {ps : Array Tmp} {assign body : Code} {Q : Exit → Act → World → Prop} {a : Act} {w : World} {n₀ : Nat} {Pr : Nat → Prop}
  (hro : F.round = none) (h1 : 1 ≤ n) {gf : Nat} {lb : Array Value} (hg : a.eval g = .func (.func gf) #[] lb) (hFg : F.fn gf) (eg : ∀ args w,(callFunc gf args).run P w = .ok (.enter gf args) w)
  {encs : α → Array Value} {S Sp : List α → Prop} {N : Nat} {w0 : World} (hseq : SeqB F (n - 1) P gf lb encs n₀ Pr S Sp N w0) (hb0 : Below w0.heap.size w0 w) (hps : ∀ x,(encs x).size = ps.size) (hn₀ : n₀ ≤ w.heap.size)
  (I : Nat → List α → World → Prop) (Ix : Code → List α → World → Prop) (hI : ∀ B,OwnFrom w.heap.size (I B)) (hm : ∀ B B' pre W,B ≤ B' → I B pre W → I B' pre W) (hIx : ∀ c,OwnFrom w.heap.size (Ix c)) (h0 : I w.heap.size [] w)
  (Ax : α → Act → World → Prop) (hAx : ∀ x a',OwnFrom w.heap.size (fun (_ : Unit) W => Ax x a' W))
  (hassign : ∀ (l B : Nat) (pre : List α) (x : α) (W : World) (K : Act → World → Prop),w.heap.size ≤ W.heap.size → B ≤ W.heap.size → I B pre W → (∀ a' W',KeepsFrom w.heap.size W W' → KeepB n₀ Pr B W W' → I B pre W' → Ax x a' W' → K a' W') →
   assign.wpIn (F.inRound l) (n - 1 - 1) P (Exit.then K (fun _ _ _ => False)) { tmps := (ps.zip (encs x)).foldl (fun t (p,v) => t.setIfInBounds p v) a.tmps,defers := [] } W)
  (hbody : ∀ (l B : Nat) (pre : List α) (x : α) (a' : Act) (W : World),w.heap.size ≤ l → w.heap.size ≤ W.heap.size → (∃ r,W.heap[l]? = some (.loop r)) → B ≤ W.heap.size → I B pre W → Ax x a' W → pre.length < N → body.wpIn (F.inRound l) (n - 1 - 1) P (PostB w.heap.size n₀ Pr B I Ix (pre ++ [x]) W) a' W)
  (hdone : ∀ (D : Nat) (xs : List α) (W : World),w.heap.size ≤ D → S xs → I W.heap.size xs W → W.heap[D]? = some (.deferred (some [])) → Q .normal { a with defers := { target := .collected D,args := #[] } :: a.defers } W)
  (hstop : ∀ (D : Nat) (c : Code) (pre : List α) (W : World),w.heap.size ≤ D → Sp pre → Ix c pre W → W.heap[D]? = some (.deferred (some [])) → c.wpIn F n P Q { a with defers := { target := .collected D,args := #[] } :: a.defers } W) :
  (Code.rangeFunc g ps assign body).wpIn F n P Q a w := by
 refine wpIn_rangeFunc ?_
 intro fid hfid
 rw [hro]
 obtain ⟨rec,hrec⟩ : ∃ rec : LoopState → Option Code → Loop,rec = fun st pe => { state := st,pending := pe,fn := fid,tmps := a.tmps,params := ps,assign,body,defers := w.heap.size } := ⟨_,rfl⟩
 obtain ⟨W1,hW1⟩ : ∃ W1,(w.alloc (.deferred (some []))).alloc (.loop (rec .ready none)) = W1 := ⟨_,rfl⟩
 have hbk : Book (some w.heap.size) (w.heap.size + 1) (rec .ready none) W1 := by
  rw [← hW1]
  refine ⟨?_,fun d e => ?_⟩
  ·have := World.alloc_heap_new (w.alloc (.deferred (some []))) (.loop (rec .ready none));rwa [World.size_alloc] at this
  ·cases e;exact (Below.heap_alloc _ _ _ (by simp)).trans (World.alloc_heap_new w _)
 have hsz : W1.heap.size = w.heap.size + 2 := by rw [← hW1];simp
 have hI1 : I W1.heap.size [] W1 := hm w.heap.size W1.heap.size [] W1 (by omega) (by rw [← hW1];exact (hI w.heap.size).alloc _ ((hI w.heap.size).alloc _ h0))
 have hb1 : Below w0.heap.size w0 W1 := by
  rw [← hW1];exact hb0.trans ((((Below.refl _ w).alloc (Nat.le_refl _) _).alloc (by simp) _).mono hb0.size)
 refine ⟨w.heap.size + 1,[{ target := .collected w.heap.size,args := #[] }],W1,{ target := .fn (.func gf) lb,args := #[.func (.yield (w.heap.size + 1)) #[] #[]] },W1,gf,
  #[.func (.yield (w.heap.size + 1)) #[] #[]] ++ lb,W1,?_,?_,?_,?_,fun _ => h1,?_⟩
 ·rw [← hW1,hrec];exact run_enterLoop_outer _ _ _ _ _
 ·simp only [resolve,hg]
  simp [go_sem]
 ·intro f' hf';simp [Target.leads] at hf';subst hf';exact hFg
 ·simp [invoke,go_sem,eg]
 ·refine (rounds (C := w.heap.size) (dz := some w.heap.size) hfid hseq hb1 hps rec hrec hn₀ (by omega) (by omega) (fun d e => by cases e;exact ⟨Nat.le_refl _,by omega⟩) hbk I Ix hI hm hIx hI1 Ax hAx
   (fun B => hassign _ B) (fun B pre x a' W => hbody _ B pre x a' W (by omega))).mono ?_
  rintro e W2 ⟨⟨v,rfl⟩,(⟨xs,hS,hC,hi,hb⟩ | ⟨pre,c,hSp,hC,hi,hb⟩)⟩
  ·refine ⟨none,_,by have := run_endLoop (P := P) hb.at_ (by rw [hrec];simp);rw [hrec] at this;exact this,hdone w.heap.size xs _ (Nat.le_refl _) hS ?_ ((World.putObj_heap_other (by omega)).trans (hb.dz_ _ rfl))⟩
   have hx := (hI _).putObj (.loop { rec .ready none with state := .exhausted }) hi (by omega : w.heap.size ≤ w.heap.size + 1) hb.at_ rfl
   rw [hrec] at hx
   simpa using hx
  ·exact ⟨some c,_,by have := run_endLoop (P := P) hb.at_ (by rw [hrec];simp);rw [hrec] at this;exact this,hstop w.heap.size c pre _ (Nat.le_refl _) hSp ((hIx c).putObj _ hi (by omega) hb.at_ rfl) ((World.putObj_heap_other (by omega)).trans (hb.dz_ _ rfl))⟩
end Go.Proofs.YtfhnfhgpaoddbaaDoor.Rf
end
section
namespace Go.Proofs.YtfhnfhgpaoddbaaDoor.Mu
open Go Go.Lib
def byt (s : ByteArray) (i : Nat) : Nat := (s.get! i).toNat
theorem byt_lt (s : ByteArray) (i : Nat) : byt s i < 256 := (s.get! i).toNat_lt
theorem dec_ascii (n b0 b1 b2 b3 : Nat) (h : b0 < 128) : decodeN n b0 b1 b2 b3 = (b0,1) := by unfold decodeN;rw [if_pos h]
theorem dec_two (n b0 b1 b2 b3 : Nat) (h0 : 192 ≤ b0) (h1 : b0 < 224) (hn : 1 < n) (h2 : b1 / 64 = 2) (hc : 128 ≤ b0 % 32 * 64 + b1 % 64) : decodeN n b0 b1 b2 b3 = (b0 % 32 * 64 + b1 % 64,2) := by
 unfold decodeN;rw [if_neg (by omega),if_pos ⟨by omega,hn,h2⟩,if_pos hc]
theorem dec_three (n b0 b1 b2 b3 : Nat) (h0 : 224 ≤ b0) (h1 : b0 < 240) (hn : 2 < n) (h2 : b1 / 64 = 2) (h3 : b2 / 64 = 2) (hc : 2048 ≤ b0 % 16 * 4096 + b1 % 64 * 64 + b2 % 64)
  (hs : b0 % 16 * 4096 + b1 % 64 * 64 + b2 % 64 < 55296 ∨ 57344 ≤ b0 % 16 * 4096 + b1 % 64 * 64 + b2 % 64) : decodeN n b0 b1 b2 b3 = (b0 % 16 * 4096 + b1 % 64 * 64 + b2 % 64,3) := by
 unfold decodeN;rw [if_neg (by omega),if_neg (by omega),if_pos ⟨by omega,⟨by omega,h2⟩,hn,h3⟩,if_pos ⟨hc,by omega⟩]
theorem dec_four (n b0 b1 b2 b3 : Nat) (h0 : 240 ≤ b0) (h1 : b0 < 248) (hn : 3 < n) (h2 : b1 / 64 = 2) (h3 : b2 / 64 = 2) (h4 : b3 / 64 = 2) (hc : 65536 ≤ b0 % 8 * 262144 + b1 % 64 * 4096 + b2 % 64 * 64 + b3 % 64)
  (hs : b0 % 8 * 262144 + b1 % 64 * 4096 + b2 % 64 * 64 + b3 % 64 ≤ 1114111) : decodeN n b0 b1 b2 b3 = (b0 % 8 * 262144 + b1 % 64 * 4096 + b2 % 64 * 64 + b3 % 64,4) := by
 unfold decodeN;rw [if_neg (by omega),if_neg (by omega),if_neg (by omega),if_pos ⟨by omega,⟨by omega,h2⟩,⟨by omega,h3⟩,hn,h4⟩,if_pos ⟨hc,by omega⟩]
/-- What a decoding can be. -/
theorem dec_cases (n b0 b1 b2 b3 : Nat) (hb : b0 < 256) :
  (b0 < 128 ∧ decodeN n b0 b1 b2 b3 = (b0,1)) ∨
  (128 ≤ b0 ∧ decodeN n b0 b1 b2 b3 = (65533,1)) ∨
  (192 ≤ b0 ∧ b0 < 224 ∧ 1 < n ∧ b1 / 64 = 2 ∧ 128 ≤ b0 % 32 * 64 + b1 % 64 ∧ decodeN n b0 b1 b2 b3 = (b0 % 32 * 64 + b1 % 64,2)) ∨
  (224 ≤ b0 ∧ b0 < 240 ∧ 2 < n ∧ b1 / 64 = 2 ∧ b2 / 64 = 2 ∧ 2048 ≤ b0 % 16 * 4096 + b1 % 64 * 64 + b2 % 64 ∧ (b0 % 16 * 4096 + b1 % 64 * 64 + b2 % 64 < 55296 ∨ 57344 ≤ b0 % 16 * 4096 + b1 % 64 * 64 + b2 % 64) ∧
   decodeN n b0 b1 b2 b3 = (b0 % 16 * 4096 + b1 % 64 * 64 + b2 % 64,3)) ∨
  (240 ≤ b0 ∧ b0 < 248 ∧ 3 < n ∧ b1 / 64 = 2 ∧ b2 / 64 = 2 ∧ b3 / 64 = 2 ∧ 65536 ≤ b0 % 8 * 262144 + b1 % 64 * 4096 + b2 % 64 * 64 + b3 % 64 ∧ b0 % 8 * 262144 + b1 % 64 * 4096 + b2 % 64 * 64 + b3 % 64 ≤ 1114111 ∧
   decodeN n b0 b1 b2 b3 = (b0 % 8 * 262144 + b1 % 64 * 4096 + b2 % 64 * 64 + b3 % 64,4)) := by
 by_cases h1 : b0 < 128
 ·exact .inl ⟨h1,dec_ascii _ _ _ _ _ h1⟩
 ·refine .inr ?_
  by_cases h2 : b0 / 32 = 6 ∧ (1 < n ∧ b1 / 64 = 2)
  ·by_cases hc : 128 ≤ b0 % 32 * 64 + b1 % 64
   ·exact .inr (.inl ⟨by omega,by omega,h2.2.1,h2.2.2,hc,dec_two _ _ _ _ _ (by omega) (by omega) h2.2.1 h2.2.2 hc⟩)
   ·exact .inl ⟨by omega,by unfold decodeN;rw [if_neg h1,if_pos h2,if_neg hc]⟩
  ·by_cases h3 : b0 / 16 = 14 ∧ (1 < n ∧ b1 / 64 = 2) ∧ (2 < n ∧ b2 / 64 = 2)
   ·by_cases hc : b0 % 16 * 4096 + b1 % 64 * 64 + b2 % 64 ≥ 2048 ∧ (b0 % 16 * 4096 + b1 % 64 * 64 + b2 % 64 < 55296 ∨ (57344 ≤ b0 % 16 * 4096 + b1 % 64 * 64 + b2 % 64 ∧ b0 % 16 * 4096 + b1 % 64 * 64 + b2 % 64 ≤ 1114111))
    ·exact .inr (.inr (.inl ⟨by omega,by omega,h3.2.2.1,h3.2.1.2,h3.2.2.2,hc.1,by omega,dec_three _ _ _ _ _ (by omega) (by omega) h3.2.2.1 h3.2.1.2 h3.2.2.2 hc.1 (by omega)⟩))
    ·exact .inl ⟨by omega,by unfold decodeN;rw [if_neg h1,if_neg h2,if_pos h3,if_neg hc]⟩
   ·by_cases h4 : b0 / 8 = 30 ∧ (1 < n ∧ b1 / 64 = 2) ∧ (2 < n ∧ b2 / 64 = 2) ∧ (3 < n ∧ b3 / 64 = 2)
    ·by_cases hc : b0 % 8 * 262144 + b1 % 64 * 4096 + b2 % 64 * 64 + b3 % 64 ≥ 65536 ∧ (b0 % 8 * 262144 + b1 % 64 * 4096 + b2 % 64 * 64 + b3 % 64 < 55296 ∨ (57344 ≤ b0 % 8 * 262144 + b1 % 64 * 4096 + b2 % 64 * 64 + b3 % 64 ∧ b0 % 8 * 262144 + b1 % 64 * 4096 + b2 % 64 * 64 + b3 % 64 ≤ 1114111))
     ·exact .inr (.inr (.inr ⟨by omega,by omega,h4.2.2.2.1,h4.2.1.2,h4.2.2.1.2,h4.2.2.2.2,hc.1,by omega,dec_four _ _ _ _ _ (by omega) (by omega) h4.2.2.2.1 h4.2.1.2 h4.2.2.1.2 h4.2.2.2.2 hc.1 (by omega)⟩))
     ·exact .inl ⟨by omega,by unfold decodeN;rw [if_neg h1,if_neg h2,if_neg h3,if_pos h4,if_neg hc]⟩
    ·exact .inl ⟨by omega,by unfold decodeN;rw [if_neg h1,if_neg h2,if_neg h3,if_neg h4]⟩
/-- Its bytes. -/
def uN (s : ByteArray) (i : Nat) : Nat := (Utf8.decode s i).2
/-- Its character,-1 of a bad one. -/
def uC (s : ByteArray) (i : Nat) : Int := if (Utf8.decode s i).1 = 65533 ∧ (Utf8.decode s i).2 = 1 then -1 else ((Utf8.decode s i).1 : Int)
theorem dec_eq (s : ByteArray) (i : Nat) : Utf8.decode s i = decodeN (s.size - i) (byt s i) (byt s (i + 1)) (byt s (i + 2)) (byt s (i + 3)) := decode_at s i
theorem uN_pos (s : ByteArray) (i : Nat) : 1 ≤ uN s i := by unfold uN;rw [dec_eq];exact decodeN_ge1 _ _ _ _ _
theorem uN_le (s : ByteArray) (i : Nat) (h : i < s.size) : i + uN s i ≤ s.size := by
 have := decodeN_le_n (s.size - i) (byt s i) (byt s (i + 1)) (byt s (i + 2)) (byt s (i + 3)) (by omega)
 rw [← dec_eq] at this
 unfold uN
 omega
def Bd (s : ByteArray) (i : Nat) : Prop := i ≤ s.size ∧ ∀ j,j < i → j + uN s j ≤ i
theorem decodeGo_extract (s : ByteArray) (pos : Nat) (h : pos < s.size) : decodeGo (s.extract pos s.size) = Utf8.decode s pos := by
 have hx : (s.extract pos s.size).data.toList = s.data.toList.drop pos := by
  rw [extract_data,List.take_of_length_le (by rw [List.length_drop,← size_eq];omega)]
 have hsz : (s.extract pos s.size).size ≠ 0 := by rw [size_eq,hx,List.length_drop,← size_eq];omega
 unfold decodeGo
 rw [if_neg hsz,← decodeL_drop s pos,← hx]
 rfl
theorem get!_eq (s : ByteArray) (i : Nat) : s.get! i = s.data.toList.getD i 0 := by
 show s.data[i]! = _
 simp [Array.getElem!_eq_getD]
 rfl
theorem size_extract (s : ByteArray) (a b : Nat) (hb : b ≤ s.size) : (s.extract a b).size = b - a := by simp;omega
end Go.Proofs.YtfhnfhgpaoddbaaDoor.Mu
end
