/- What the law WordChars reaches of this seat's own texts, merged; what nothing uses is left out. -/
import Derived.Test.YtkficbgnjpekaaaDoorProg
import Derived.Below
import Derived.Deep.Draws
import Derived.Deep.AppendLies
import Derived.Maps.AppendAt
import Derived.OwnWalk
import Derived.Laws.BytesArg
import Derived.Laws.MakeOwn
import Derived.Laws.OwnMore
import Derived.Deep.OwnRows
import Derived.Tactics
import Derived.Lib.ConvBytes
import Derived.Laws.Slices
import Derived.WalkKit
import Derived.KernelRfl
import Derived.RowKit3
import Derived.Deep.LoopGhost
import Derived.Deep.QuietTactic
import Derived.BigQuiet
import Derived.WideLaws
import Derived.Deep.DeepCutAuto
import Derived.Deep.CutBlock
import Derived.Deep.RegionHeld3
import Derived.Laws.Rows
import Derived.Lib.AppendStr
import Derived.ArgAppend
import Derived.Laws.IdiomCopy
import Derived.OrdersHeld
import Derived.Laws.BitsLemmas
import Derived.RowKit
import Derived.Shelf.Small.Utf8
import Derived.Shelf.Utf8.AppendRunePlain
import Derived.Shelf.Strings.Prefix
import Derived.Shelf.Unicode.Decode
import Derived.Shelf.Unicode.DecodeSlow
import Derived.Shelf.Unicode.DecodeAny
import Derived.Lib.LaidU8
import Derived.RangeFuncNested
import Derived.RangeFuncBound
import Derived.RangeFuncCalls
import Derived.RangeFuncLeaves
import Derived.Lib.DecodeN
import Derived.Lib.MapLaws
import Derived.Laws.DeepStrings4
import Derived.Shelf.Unicode.DecodeLastEight
import Derived.Shelf.Abstract
import Derived.Shelf.RegionOpen
import Derived.OwnWalkIn
import Derived.TacticsInMore
import Derived.LoopNIn
import Derived.LoopIn
import Derived.Lib.Hide
import Derived.Great.BuildSlice
import Derived.Great.Walk
import Derived.Deep.WholeRow
import Derived.Sort.BigQuietIn
import Derived.Sort.CutIn
import Derived.Lib.Bytes
import Derived.Maps.Own
import Derived.Maps.OwnOps
import Derived.Maps.Views
import Derived.Test.YtkficbgnjpekaaaDoorRows
import Derived.ProofKit
import Derived.Deep.DeepHandedRow
import Derived.LaidMore
import Derived.Lay
import Derived.Test.YtkficbgnjpekaaaDoorWWords
import Derived.Test.YtkficbgnjpekaaaDoorWLast
import Derived.Test.YtkficbgnjpekaaaDoorWTab
import Derived.Test.YtkficbgnjpekaaaDoorWQPut
import Derived.Test.YtkficbgnjpekaaaDoorWApart
import Derived.Test.YtkficbgnjpekaaaDoorWArr
import Derived.Test.YtkficbgnjpekaaaDoorWZeros
import Derived.Test.YtkficbgnjpekaaaDoorWFoot
import Derived.Test.YtkficbgnjpekaaaDoorWKept
import Derived.Test.YtkficbgnjpekaaaDoorWShare
import Derived.Test.YtkficbgnjpekaaaDoorWN
import Derived.Test.YtkficbgnjpekaaaDoorWEqStruct
import Derived.Test.YtkficbgnjpekaaaDoorWRepsOne
import Derived.Test.YtkficbgnjpekaaaDoorWInv
import Derived.Test.YtkficbgnjpekaaaDoorWGuard
import Derived.Test.YtkficbgnjpekaaaDoorWNEv
import Derived.Test.YtkficbgnjpekaaaDoorWMore
import Derived.Test.YtkficbgnjpekaaaDoorWSized
import Derived.Test.YtkficbgnjpekaaaDoorZWordChars0
section
namespace Go.Proofs.YtkficbgnjpekaaaDoor.U
open Go.RowKit Go.Proofs.YtkficbgnjpekaaaDoorW.PrintWords Go.Proofs.YtkficbgnjpekaaaDoorW.PrintLast Go.Proofs.YtkficbgnjpekaaaDoorW.PrintMore
attribute [local go_sem] max2_int min2_int max_two min_two max_three min_three max_four min_four   -- for this text's walks alone
set_option linter.unusedVariables false
set_option linter.unusedSimpArgs false
def bodkinref05_run.l0 : Nat → List (S55) → Int → Int → Int → Int → Option ((List (S55)))
 | 0,_,_,_,_,_ => none
 | k + 1,x0,x2,x3,x4,x11 => if x11 ≤ x2 then (if x11 = 305 then (bodkinref05_run.l0 k x0 x2 x3 x4 (wrap32 (x11 + x3))) else (if x0.length < 17592186044416 then (bodkinref05_run.l0 k (x0 ++ [(⟨x11,wrap32 (x11 - x4)⟩ : S55)]) x2 x3 x4 (wrap32 (x11 + x3))) else (none))) else (some x0)
def bodkinref05_run.f (k : Nat) (l0 : List (S55)) (a1 : Int) (a2 : Int) (a3 : Int) (a4 : Int) : Option ((List (S55))) := bodkinref05_run.l0 k l0 a2 a3 a4 a1
theorem bodkinref05_run.mono_l : ∀ k,(∀ y0 y1 y2 y3 y4,LeO (bodkinref05_run.l0 k y0 y1 y2 y3 y4) (bodkinref05_run.l0 (k + 1) y0 y1 y2 y3 y4))
 | 0 => fun _ _ _ _ _ r h => by simp [bodkinref05_run.l0] at h
 | k + 1 => by
  have ih0 := bodkinref05_run.mono_l k
  ·intro y0 y1 y2 y3 y4
   unfold bodkinref05_run.l0
   repeat' first
   | (with_reducible exact ih0 _ _ _ _ _)
   | (with_reducible exact LeO.refl _)
   | (with_reducible exact LeO.none _)
   | (with_reducible refine LeO.ite ?_ ?_)
   | (with_reducible refine LeO.bind ?_ (fun _ => ?_))
   | exact ih0 _ _ _ _ _
   | exact LeO.none _
   | refine LeO.ite ?_ ?_
   | refine LeO.bind ?_ (fun _ => ?_)
theorem bodkinref05_run.mono : ∀ a0 a1 a2 a3 a4 k,LeO (bodkinref05_run.f k a0 a1 a2 a3 a4) (bodkinref05_run.f (k + 1) a0 a1 a2 a3 a4) := by
 intro a0 a1 a2 a3 a4 k
 have ih0 := bodkinref05_run.mono_l k
 unfold bodkinref05_run.f
 repeat' first
   | (with_reducible exact ih0 _ _ _ _ _)
   | (with_reducible exact LeO.refl _)
   | (with_reducible exact LeO.none _)
   | (with_reducible refine LeO.ite ?_ ?_)
   | (with_reducible refine LeO.bind ?_ (fun _ => ?_))
   | exact ih0 _ _ _ _ _
   | exact LeO.none _
   | refine LeO.ite ?_ ?_
   | refine LeO.bind ?_ (fun _ => ?_)
set_option maxHeartbeats 8000000 in
set_option maxRecDepth 100000 in
theorem bodkinref05_run.calls (k : Nat) (P0_ : Nat → Prop) (u9000_ : Value) (l0 : List (S55)) (a1 : Int) (a2 : Int) (a3 : Int) (a4 : Int) (r : List (S55)) (w0 w : World) (hB : Below w0.heap.size w0 w) (ho0 : Kd.R k55 55 w w0.heap.size P0_ u9000_ l0) (h : bodkinref05_run.f k l0 a1 a2 a3 a4 = some r) :
  Calls Tryd.prog 65 #[u9000_,.int .i32 a1,.int .i32 a2,.int .i32 a3,.int .i32 a4] w fun e w' => ∃ v0_ : Value,e = .returned (v0_) ∧ Kd.R k55 55 w' w0.heap.size (fun k_ => (P0_ k_ ∨ w.heap.size ≤ k_)) v0_ r ∧ Below w0.heap.size w0 w' ∧ Kept w w' (fun k_ => P0_ k_) := by
 have hu55 := Tryd.underlying55
 have HO0 := Aside0.mk (show Kd.R k55 55 w w0.heap.size (fun k_ => (P0_ k_ ∨ w.heap.size ≤ k_)) u9000_ l0 from Kd.R_mono ho0 (fun k_ hk => (.inl hk)))
 have HK := Aside0.mk (Kept.refl w (fun k_ => P0_ k_))
 have HW0 := Aside0.mk hB.size
 have HB := Aside0.mk hB
 clear hB
 have H : (bodkinref05_run.l0 k l0 a2 a3 a4 a1) = some r := h
 clear h
 have H' := Aside0.mk H
 clear H
 go_enter Tryd.func65,Tryd.ntmps65
 go_wp2
 go_loopg [0,11] k (fun kq v0 v11 w' => ∃ (x0_1 : List (S55)) (x11_1 : Int),v11 = .int .i32 x11_1 ∧ Aside0 (bodkinref05_run.l0 kq x0_1 a2 a3 a4 x11_1 = some r) ∧ Aside0 (kq ≤ k) ∧ Aside0 (Kd.R k55 55 w' w0.heap.size (fun k_ => (P0_ k_ ∨ w.heap.size ≤ k_)) v0 x0_1) ∧ Aside0 (Kept w w' (fun k_ => P0_ k_)) ∧ Aside0 (Below w0.heap.size w0 w'))
 case atStart => exact ⟨(l0),(a1),(by first | rfl | (simp;done) | (simp [*];done)),H',⟨Nat.le_refl _⟩,⟨by (with_reducible repeat (first | apply Kd.R_alloc | apply Kd.R_drewN | apply Kd.R_drew));exact HO0.out⟩,⟨by repeat (first | (with_reducible first | exact HK.out | apply Kept.alloc | apply Kept.drewN | apply Kept.drew) | exact HK.out)⟩,⟨by repeat (first | (with_reducible first | exact HB.out | apply below_alloc | apply pw_below_drewN | apply below_drew1) | exact HB.out)⟩⟩
 case round =>
  clear H'
  try clear p2
  obtain ⟨x0_1,x11_1,rfl,HA,HK1,HO_0,HK,HB⟩ := hrel
  cases gk with
  | zero => exact absurd HA.out (by simp [bodkinref05_run.l0])
  | succ k1 =>
   have H := HA.out
   clear HA
   simp only [bodkinref05_run.l0] at H
   by_cases c6 : x11_1 ≤ a2
   ·rw [if_pos c6] at H
    have c6b0 : decide (x11_1 ≤ a2) = true := decide_eq_true c6
    clear c6
    by_cases c7 : x11_1 = 305
    ·rw [if_pos c7] at H
     have c7b0 : (x11_1 == 305) = true := beq_iff_eq.mpr c7
     have c7b1 : (x11_1 != 305) = false := bne_eq_false_iff_eq.mpr c7
     clear c7
     have H' := Aside0.mk H
     clear H
     go_wp2
     go_roundg k1
     case measure => have := HK1.out;omega
     case rel => exact ⟨(x0_1),(wrap32 (x11_1 + a3)),(by first | rfl | (simp;done) | (simp [*];done)),H',⟨by have := HK1.out;omega⟩,⟨by (with_reducible repeat (first | apply Kd.R_alloc | apply Kd.R_drewN | apply Kd.R_drew));exact HO_0.out⟩,⟨by repeat (first | (with_reducible first | exact HK.out | apply Kept.alloc | apply Kept.drewN | apply Kept.drew) | exact HK.out)⟩,⟨by repeat (first | (with_reducible first | exact HB.out | apply below_alloc | apply pw_below_drewN | apply below_drew1) | exact HB.out)⟩⟩
    ·rw [if_neg c7] at H
     have c7b0 : (x11_1 == 305) = false := beq_eq_false_iff_ne.mpr c7
     have c7b1 : (x11_1 != 305) = true := bne_iff_ne.mpr c7
     by_cases c8 : x0_1.length < 17592186044416
     ·rw [if_pos c8] at H
      have LMc8 := Aside0.mk c8
      clear c8
      obtain ⟨y198,hy198⟩ : ∃ y_ : List (S55),y_ = (x0_1 ++ [(⟨x11_1,wrap32 (x11_1 - a4)⟩ : S55)]) := ⟨_,rfl⟩
      replace H : (bodkinref05_run.l0 k1 y198 a2 a3 a4 (wrap32 (x11_1 + a3))) = some r := by first | (rw [hy198];with_reducible exact H) | (have H2_ := (Option.bind_some _ _).symm.trans H;rw [hy198];with_reducible exact H2_) | (have H2_ := (Option.bind_some _ _).symm.trans H;with_reducible exact H2_) | with_reducible exact H | (rw [hy198];exact H) | exact H
      have Ny198 := Aside0.mk hy198
      clear hy198
      have H' := Aside0.mk H
      clear H
      go_wp2_with (first | ((with_reducible refine gate_builtin (b := .append) (xs := #[.tmp 21,.tmp 27]) rfl ?_);at_builtin;refine Kd.R_append k55 (w0 := w0) w0.heap.size rfl (.tmp 21) (.tmp 27) 52 55 (.agg #[(.int .i32 0),(.int .i32 0)]) 8 rfl Tryd.underlying52 info55 rfl (by decide) (by omega) u0 x0_1 (⟨x11_1,wrap32 (x11_1 - a4)⟩ : S55) [.int .i32 x11_1,.int .i32 (wrap32 (x11_1 - a4))] (fun k_ => (P0_ k_ ∨ w.heap.size ≤ k_)) (fun _ => False) rfl rfl ?aP (fun _ hk => hk.elim) ?aF ?aO ?aB ?aS ?aL ?_;(case aP => exact k55_mkM _ _ _ (⟨x11_1,wrap32 (x11_1 - a4)⟩ : S55));(case aB => exact (by repeat (first | (with_reducible first | exact HB.out | apply below_alloc | apply pw_below_drewN | apply below_drew1) | exact HB.out)));(case aF => exact (fun k_ hk => (.inr (Nat.le_trans (by first | exact HK.out.1 | exact (show Kept w _ (fun k_ => P0_ k_) from by repeat (first | (with_reducible first | exact HK.out | apply Kept.alloc | apply Kept.drewN | apply Kept.drew) | exact HK.out)).1) hk))));(case aO => exact (by (with_reducible repeat (first | apply Kd.R_alloc | apply Kd.R_drewN | apply Kd.R_drew));exact HO_0.out));(case aS => exact (below_size (by repeat (first | (with_reducible first | exact HB.out | apply below_alloc | apply pw_below_drewN | apply below_drew1) | exact HB.out))));(case aL => have := LMc8.out;omega);intro v199 w9 ho hb hg hat;rw [← Ny198.out] at ho;have n0_ := Aside0.mk (hb);have n1_ := Aside0.mk (Kept.of_grown (S := (fun k_ => P0_ k_)) hg (by repeat (first | (with_reducible first | exact HK.out | apply Kept.alloc | apply Kept.drewN | apply Kept.drew) | exact HK.out)) (fun k_ e_ => (HO_0.out.1 k_ e_)));have n2_ := Aside0.mk (ho);clear HB;clear HK;clear HO_0;have HB := n0_;have HK := n1_;have HO200 := n2_;clear n0_ n1_ n2_;clear ho hb hg hat))
      go_roundg k1
      case measure => have := HK1.out;omega
      case rel => exact ⟨(y198),(wrap32 (x11_1 + a3)),(by first | rfl | (simp;done) | (simp [*];done)),H',⟨by have := HK1.out;omega⟩,⟨by (with_reducible repeat (first | apply Kd.R_alloc | apply Kd.R_drewN | apply Kd.R_drew));exact HO200.out⟩,⟨by repeat (first | (with_reducible first | exact HK.out | apply Kept.alloc | apply Kept.drewN | apply Kept.drew) | exact HK.out)⟩,⟨by repeat (first | (with_reducible first | exact HB.out | apply below_alloc | apply pw_below_drewN | apply below_drew1) | exact HB.out)⟩⟩
     ·rw [if_neg c8] at H
      exact absurd H (by simp)
   ·rw [if_neg c6] at H
    have c6b0 : decide (x11_1 ≤ a2) = false := decide_eq_false c6
    clear c6
    obtain rfl := Option.some.inj H
    go_wp2
    go_ret
    exact ⟨_,by first | rfl | (simp [errW_none,errW_some] <;> rfl) | (simp [*,errW_none,errW_some] <;> rfl),by (with_reducible repeat (first | apply Kd.R_alloc | apply Kd.R_drewN | apply Kd.R_drew));exact HO_0.out,by repeat (first | (with_reducible first | exact HB.out | apply below_alloc | apply pw_below_drewN | apply below_drew1) | exact HB.out),by repeat (first | (with_reducible first | exact HK.out | apply Kept.alloc | apply Kept.drewN | apply Kept.drew) | exact HK.out)⟩
def bodkinref05_Pairs.f (k : Nat)  : Option ((List (S55))) := (bodkinref05_run.f k ([] : List (S55)) 97 122 1 32).bind fun t201 => ((bodkinref05_run.f k t201 224 246 1 32).bind fun t204 => ((bodkinref05_run.f k t204 248 254 1 32).bind fun t207 => (if t207.length < 17592186044416 then ((bodkinref05_run.f k (t207 ++ [(⟨255,376⟩ : S55)]) 257 311 2 1).bind fun t213 => ((bodkinref05_run.f k t213 331 375 2 1).bind fun t216 => ((bodkinref05_run.f k t216 945 961 1 32).bind fun t219 => ((bodkinref05_run.f k t219 963 969 1 32).bind fun t222 => ((bodkinref05_run.f k t222 1072 1103 1 32).bind fun t225 => ((bodkinref05_run.f k t225 1104 1119 1 80).bind fun t228 => ((bodkinref05_run.f k t228 1121 1153 2 1).bind fun t231 => (some t231)))))))) else (none))))
theorem bodkinref05_Pairs.mono : ∀ k,LeO (bodkinref05_Pairs.f k ) (bodkinref05_Pairs.f (k + 1) ) := by
 intro  k
 unfold bodkinref05_Pairs.f
 repeat' first
   | (with_reducible exact bodkinref05_run.mono _ _ _ _ _ _)
   | (with_reducible exact LeO.refl _)
   | (with_reducible exact LeO.none _)
   | (with_reducible refine LeO.ite ?_ ?_)
   | (with_reducible refine LeO.bind ?_ (fun _ => ?_))
   | exact bodkinref05_run.mono _ _ _ _ _ _
   | exact LeO.none _
   | refine LeO.ite ?_ ?_
   | refine LeO.bind ?_ (fun _ => ?_)
set_option maxHeartbeats 8000000 in
set_option maxRecDepth 100000 in
theorem bodkinref05_Pairs.calls (k : Nat)  (r : List (S55)) (w : World) (h : bodkinref05_Pairs.f k  = some r) :
  Calls Tryd.prog 43 #[] w fun e w' => ∃ v0_ : Value,e = .returned (v0_) ∧ Kd.R k55 55 w' w.heap.size (fun _ => True) v0_ r ∧ Below w.heap.size w w' := by
 have hu55 := Tryd.underlying55
 have HB := Aside0.mk (Below.refl w.heap.size w)
 have H : ((bodkinref05_run.f k ([] : List (S55)) 97 122 1 32).bind fun t201 => ((bodkinref05_run.f k t201 224 246 1 32).bind fun t204 => ((bodkinref05_run.f k t204 248 254 1 32).bind fun t207 => (if t207.length < 17592186044416 then ((bodkinref05_run.f k (t207 ++ [(⟨255,376⟩ : S55)]) 257 311 2 1).bind fun t213 => ((bodkinref05_run.f k t213 331 375 2 1).bind fun t216 => ((bodkinref05_run.f k t216 945 961 1 32).bind fun t219 => ((bodkinref05_run.f k t219 963 969 1 32).bind fun t222 => ((bodkinref05_run.f k t222 1072 1103 1 32).bind fun t225 => ((bodkinref05_run.f k t225 1104 1119 1 80).bind fun t228 => ((bodkinref05_run.f k t228 1121 1153 2 1).bind fun t231 => (some t231)))))))) else (none))))) = some r := h
 clear h
 replace H := Option.bind_eq_some_iff.mp H
 obtain ⟨t201,A10,H⟩ := H
 replace H : ((bodkinref05_run.f k t201 224 246 1 32).bind fun t204 => ((bodkinref05_run.f k t204 248 254 1 32).bind fun t207 => (if t207.length < 17592186044416 then ((bodkinref05_run.f k (t207 ++ [(⟨255,376⟩ : S55)]) 257 311 2 1).bind fun t213 => ((bodkinref05_run.f k t213 331 375 2 1).bind fun t216 => ((bodkinref05_run.f k t216 945 961 1 32).bind fun t219 => ((bodkinref05_run.f k t219 963 969 1 32).bind fun t222 => ((bodkinref05_run.f k t222 1072 1103 1 32).bind fun t225 => ((bodkinref05_run.f k t225 1104 1119 1 80).bind fun t228 => ((bodkinref05_run.f k t228 1121 1153 2 1).bind fun t231 => (some t231)))))))) else (none)))) = some r := H
 have A1 := Aside0.mk A10
 clear A10
 replace H := Option.bind_eq_some_iff.mp H
 obtain ⟨t204,A20,H⟩ := H
 replace H : ((bodkinref05_run.f k t204 248 254 1 32).bind fun t207 => (if t207.length < 17592186044416 then ((bodkinref05_run.f k (t207 ++ [(⟨255,376⟩ : S55)]) 257 311 2 1).bind fun t213 => ((bodkinref05_run.f k t213 331 375 2 1).bind fun t216 => ((bodkinref05_run.f k t216 945 961 1 32).bind fun t219 => ((bodkinref05_run.f k t219 963 969 1 32).bind fun t222 => ((bodkinref05_run.f k t222 1072 1103 1 32).bind fun t225 => ((bodkinref05_run.f k t225 1104 1119 1 80).bind fun t228 => ((bodkinref05_run.f k t228 1121 1153 2 1).bind fun t231 => (some t231)))))))) else (none))) = some r := H
 have A2 := Aside0.mk A20
 clear A20
 replace H := Option.bind_eq_some_iff.mp H
 obtain ⟨t207,A30,H⟩ := H
 replace H : (if t207.length < 17592186044416 then ((bodkinref05_run.f k (t207 ++ [(⟨255,376⟩ : S55)]) 257 311 2 1).bind fun t213 => ((bodkinref05_run.f k t213 331 375 2 1).bind fun t216 => ((bodkinref05_run.f k t216 945 961 1 32).bind fun t219 => ((bodkinref05_run.f k t219 963 969 1 32).bind fun t222 => ((bodkinref05_run.f k t222 1072 1103 1 32).bind fun t225 => ((bodkinref05_run.f k t225 1104 1119 1 80).bind fun t228 => ((bodkinref05_run.f k t228 1121 1153 2 1).bind fun t231 => (some t231)))))))) else (none)) = some r := H
 have A3 := Aside0.mk A30
 clear A30
 by_cases c4 : t207.length < 17592186044416
 ·rw [if_pos c4] at H
  have LMc4 := Aside0.mk c4
  clear c4
  obtain ⟨y210,hy210⟩ : ∃ y_ : List (S55),y_ = (t207 ++ [(⟨255,376⟩ : S55)]) := ⟨_,rfl⟩
  replace H : ((bodkinref05_run.f k y210 257 311 2 1).bind fun t213 => ((bodkinref05_run.f k t213 331 375 2 1).bind fun t216 => ((bodkinref05_run.f k t216 945 961 1 32).bind fun t219 => ((bodkinref05_run.f k t219 963 969 1 32).bind fun t222 => ((bodkinref05_run.f k t222 1072 1103 1 32).bind fun t225 => ((bodkinref05_run.f k t225 1104 1119 1 80).bind fun t228 => ((bodkinref05_run.f k t228 1121 1153 2 1).bind fun t231 => (some t231)))))))) = some r := by first | (rw [hy210];with_reducible exact H) | (have H2_ := (Option.bind_some _ _).symm.trans H;rw [hy210];with_reducible exact H2_) | (have H2_ := (Option.bind_some _ _).symm.trans H;with_reducible exact H2_) | with_reducible exact H | (rw [hy210];exact H) | exact H
  have Ny210 := Aside0.mk hy210
  clear hy210
  replace H := Option.bind_eq_some_iff.mp H
  obtain ⟨t213,A50,H⟩ := H
  replace H : ((bodkinref05_run.f k t213 331 375 2 1).bind fun t216 => ((bodkinref05_run.f k t216 945 961 1 32).bind fun t219 => ((bodkinref05_run.f k t219 963 969 1 32).bind fun t222 => ((bodkinref05_run.f k t222 1072 1103 1 32).bind fun t225 => ((bodkinref05_run.f k t225 1104 1119 1 80).bind fun t228 => ((bodkinref05_run.f k t228 1121 1153 2 1).bind fun t231 => (some t231))))))) = some r := H
  have A5 := Aside0.mk A50
  clear A50
  replace H := Option.bind_eq_some_iff.mp H
  obtain ⟨t216,A60,H⟩ := H
  replace H : ((bodkinref05_run.f k t216 945 961 1 32).bind fun t219 => ((bodkinref05_run.f k t219 963 969 1 32).bind fun t222 => ((bodkinref05_run.f k t222 1072 1103 1 32).bind fun t225 => ((bodkinref05_run.f k t225 1104 1119 1 80).bind fun t228 => ((bodkinref05_run.f k t228 1121 1153 2 1).bind fun t231 => (some t231)))))) = some r := H
  have A6 := Aside0.mk A60
  clear A60
  replace H := Option.bind_eq_some_iff.mp H
  obtain ⟨t219,A70,H⟩ := H
  replace H : ((bodkinref05_run.f k t219 963 969 1 32).bind fun t222 => ((bodkinref05_run.f k t222 1072 1103 1 32).bind fun t225 => ((bodkinref05_run.f k t225 1104 1119 1 80).bind fun t228 => ((bodkinref05_run.f k t228 1121 1153 2 1).bind fun t231 => (some t231))))) = some r := H
  have A7 := Aside0.mk A70
  clear A70
  replace H := Option.bind_eq_some_iff.mp H
  obtain ⟨t222,A80,H⟩ := H
  replace H : ((bodkinref05_run.f k t222 1072 1103 1 32).bind fun t225 => ((bodkinref05_run.f k t225 1104 1119 1 80).bind fun t228 => ((bodkinref05_run.f k t228 1121 1153 2 1).bind fun t231 => (some t231)))) = some r := H
  have A8 := Aside0.mk A80
  clear A80
  replace H := Option.bind_eq_some_iff.mp H
  obtain ⟨t225,A90,H⟩ := H
  replace H : ((bodkinref05_run.f k t225 1104 1119 1 80).bind fun t228 => ((bodkinref05_run.f k t228 1121 1153 2 1).bind fun t231 => (some t231))) = some r := H
  have A9 := Aside0.mk A90
  clear A90
  replace H := Option.bind_eq_some_iff.mp H
  obtain ⟨t228,A100,H⟩ := H
  replace H : ((bodkinref05_run.f k t228 1121 1153 2 1).bind fun t231 => (some t231)) = some r := H
  have A10 := Aside0.mk A100
  clear A100
  replace H := Option.bind_eq_some_iff.mp H
  obtain ⟨t231,A110,H⟩ := H
  replace H : (some t231) = some r := H
  have A11 := Aside0.mk A110
  clear A110
  obtain rfl := Option.some.inj H
  go_enter Tryd.func43,Tryd.ntmps43
  go_wp2_with (first | ((with_reducible refine gate_callee (f := 65) rfl ?_);refine goesL_ (some 2) rfl rfl Tryd.func65 (by kernel_rfl) rfl #[.slice none 0 0,.int .i32 97,.int .i32 122,.int .i32 1,.int .i32 32] rfl (by (try simp only [List.map_toArray,List.map_cons,List.map_nil]);first | done | rfl | (simp only [List.length_drop,List.length_take];rfl)) ?_;(refine (bodkinref05_run.calls k (fun k_ => some k_ = (.slice none 0 0 : Value).ownBlock) (.slice none 0 0) ([] : List (S55)) 97 122 1 32 t201 w _ ?side1 ?side2 A1.out).mono ?_);(case side1 => repeat (first | (with_reducible first | exact HB.out | apply below_alloc | apply pw_below_drewN | apply below_drew1) | exact HB.out));(case side2 => exact Kd.R_nil _ _ _ _ _);rintro e w12 ⟨v202,rfl,ho0,hb,hkp⟩;refine ⟨_,rfl,?_⟩;have n0_ := Aside0.mk (Kd.R_mono (ok' := fun k_ => True) ho0 (fun k_ hk_ => trivial));have n1_ := Aside0.mk (hb);clear HB;have HO203 := n0_;have HB := n1_;clear n0_ n1_;(try clear hb);(try clear hkp);(try clear ho0);obtain ⟨Ao13,co13,eo13⟩ := Kd.R_slice HO203.out;subst eo13) | ((with_reducible refine gate_callee (f := 65) rfl ?_);refine goesL_ (some 4) rfl rfl Tryd.func65 (by kernel_rfl) rfl #[.slice Ao13 t201.length co13,.int .i32 224,.int .i32 246,.int .i32 1,.int .i32 32] rfl (by (try simp only [List.map_toArray,List.map_cons,List.map_nil]);first | done | rfl | (simp only [List.length_drop,List.length_take];rfl)) ?_;(with_reducible refine (bodkinref05_run.calls k (fun k_ => some k_ = (.slice Ao13 t201.length co13 : Value).ownBlock) (.slice Ao13 t201.length co13) t201 224 246 1 32 t204 w _ ?side1 ?side2 A2.out).mono ?_);(case side1 => repeat (first | (with_reducible first | exact HB.out | apply below_alloc | apply pw_below_drewN | apply below_drew1) | exact HB.out));(case side2 => exact Kd.R_tight rfl HO203.out);rintro e w14 ⟨v205,rfl,ho0,hb,hkp⟩;refine ⟨_,rfl,?_⟩;have n0_ := Aside0.mk (Kd.R_mono (ok' := fun k_ => True) ho0 (fun k_ hk_ => trivial));have n1_ := Aside0.mk (hb);clear HB;clear HO203;have HO206 := n0_;have HB := n1_;clear n0_ n1_;(try clear hb);(try clear hkp);(try clear ho0);obtain ⟨Ao15,co15,eo15⟩ := Kd.R_slice HO206.out;subst eo15) | ((with_reducible refine gate_callee (f := 65) rfl ?_);refine goesL_ (some 6) rfl rfl Tryd.func65 (by kernel_rfl) rfl #[.slice Ao15 t204.length co15,.int .i32 248,.int .i32 254,.int .i32 1,.int .i32 32] rfl (by (try simp only [List.map_toArray,List.map_cons,List.map_nil]);first | done | rfl | (simp only [List.length_drop,List.length_take];rfl)) ?_;(with_reducible refine (bodkinref05_run.calls k (fun k_ => some k_ = (.slice Ao15 t204.length co15 : Value).ownBlock) (.slice Ao15 t204.length co15) t204 248 254 1 32 t207 w _ ?side1 ?side2 A3.out).mono ?_);(case side1 => repeat (first | (with_reducible first | exact HB.out | apply below_alloc | apply pw_below_drewN | apply below_drew1) | exact HB.out));(case side2 => exact Kd.R_tight rfl HO206.out);rintro e w16 ⟨v208,rfl,ho0,hb,hkp⟩;refine ⟨_,rfl,?_⟩;have n0_ := Aside0.mk (Kd.R_mono (ok' := fun k_ => True) ho0 (fun k_ hk_ => trivial));have n1_ := Aside0.mk (hb);clear HB;clear HO206;have HO209 := n0_;have HB := n1_;clear n0_ n1_;(try clear hb);(try clear hkp);(try clear ho0)) | ((with_reducible refine gate_builtin (b := .append) (xs := #[.tmp 7,.tmp 9]) rfl ?_);at_builtin;refine Kd.R_append k55 (w0 := w) w.heap.size rfl (.tmp 7) (.tmp 9) 52 55 (.agg #[(.int .i32 0),(.int .i32 0)]) 8 rfl Tryd.underlying52 info55 rfl (by decide) (by omega) v208 t207 (⟨255,376⟩ : S55) [.int .i32 255,.int .i32 376] (fun _ => True) (fun _ => False) rfl rfl ?aP (fun _ hk => hk.elim) ?aF ?aO ?aB ?aS ?aL ?_;(case aP => exact k55_mkM _ _ _ (⟨255,376⟩ : S55));(case aB => exact (by repeat (first | (with_reducible first | exact HB.out | apply below_alloc | apply pw_below_drewN | apply below_drew1) | exact HB.out)));(case aF => exact (fun _ _ => trivial));(case aO => exact (by (with_reducible repeat (first | apply Kd.R_alloc | apply Kd.R_drewN | apply Kd.R_drew));exact HO209.out));(case aS => exact (below_size (by repeat (first | (with_reducible first | exact HB.out | apply below_alloc | apply pw_below_drewN | apply below_drew1) | exact HB.out))));(case aL => have := LMc4.out;omega);intro v211 w17 ho hb hg hat;rw [← Ny210.out] at ho;have n0_ := Aside0.mk (hb);have n1_ := Aside0.mk (ho);clear HB;clear HO209;have HB := n0_;have HO212 := n1_;clear n0_ n1_;clear ho hb hg hat;obtain ⟨Ao18,co18,eo18⟩ := Kd.R_slice HO212.out;subst eo18) | ((with_reducible refine gate_callee (f := 65) rfl ?_);refine goesL_ (some 12) rfl rfl Tryd.func65 (by kernel_rfl) rfl #[.slice Ao18 y210.length co18,.int .i32 257,.int .i32 311,.int .i32 2,.int .i32 1] rfl (by (try simp only [List.map_toArray,List.map_cons,List.map_nil]);first | done | rfl | (simp only [List.length_drop,List.length_take];rfl)) ?_;(with_reducible refine (bodkinref05_run.calls k (fun k_ => some k_ = (.slice Ao18 y210.length co18 : Value).ownBlock) (.slice Ao18 y210.length co18) y210 257 311 2 1 t213 w _ ?side1 ?side2 A5.out).mono ?_);(case side1 => repeat (first | (with_reducible first | exact HB.out | apply below_alloc | apply pw_below_drewN | apply below_drew1) | exact HB.out));(case side2 => exact Kd.R_tight rfl HO212.out);rintro e w19 ⟨v214,rfl,ho0,hb,hkp⟩;refine ⟨_,rfl,?_⟩;have n0_ := Aside0.mk (Kd.R_mono (ok' := fun k_ => True) ho0 (fun k_ hk_ => trivial));have n1_ := Aside0.mk (hb);clear HB;clear HO212;have HO215 := n0_;have HB := n1_;clear n0_ n1_;(try clear hb);(try clear hkp);(try clear ho0);obtain ⟨Ao20,co20,eo20⟩ := Kd.R_slice HO215.out;subst eo20) | ((with_reducible refine gate_callee (f := 65) rfl ?_);refine goesL_ (some 14) rfl rfl Tryd.func65 (by kernel_rfl) rfl #[.slice Ao20 t213.length co20,.int .i32 331,.int .i32 375,.int .i32 2,.int .i32 1] rfl (by (try simp only [List.map_toArray,List.map_cons,List.map_nil]);first | done | rfl | (simp only [List.length_drop,List.length_take];rfl)) ?_;(with_reducible refine (bodkinref05_run.calls k (fun k_ => some k_ = (.slice Ao20 t213.length co20 : Value).ownBlock) (.slice Ao20 t213.length co20) t213 331 375 2 1 t216 w _ ?side1 ?side2 A6.out).mono ?_);(case side1 => repeat (first | (with_reducible first | exact HB.out | apply below_alloc | apply pw_below_drewN | apply below_drew1) | exact HB.out));(case side2 => exact Kd.R_tight rfl HO215.out);rintro e w21 ⟨v217,rfl,ho0,hb,hkp⟩;refine ⟨_,rfl,?_⟩;have n0_ := Aside0.mk (Kd.R_mono (ok' := fun k_ => True) ho0 (fun k_ hk_ => trivial));have n1_ := Aside0.mk (hb);clear HB;clear HO215;have HO218 := n0_;have HB := n1_;clear n0_ n1_;(try clear hb);(try clear hkp);(try clear ho0);obtain ⟨Ao22,co22,eo22⟩ := Kd.R_slice HO218.out;subst eo22) | ((with_reducible refine gate_callee (f := 65) rfl ?_);refine goesL_ (some 16) rfl rfl Tryd.func65 (by kernel_rfl) rfl #[.slice Ao22 t216.length co22,.int .i32 945,.int .i32 961,.int .i32 1,.int .i32 32] rfl (by (try simp only [List.map_toArray,List.map_cons,List.map_nil]);first | done | rfl | (simp only [List.length_drop,List.length_take];rfl)) ?_;(with_reducible refine (bodkinref05_run.calls k (fun k_ => some k_ = (.slice Ao22 t216.length co22 : Value).ownBlock) (.slice Ao22 t216.length co22) t216 945 961 1 32 t219 w _ ?side1 ?side2 A7.out).mono ?_);(case side1 => repeat (first | (with_reducible first | exact HB.out | apply below_alloc | apply pw_below_drewN | apply below_drew1) | exact HB.out));(case side2 => exact Kd.R_tight rfl HO218.out);rintro e w23 ⟨v220,rfl,ho0,hb,hkp⟩;refine ⟨_,rfl,?_⟩;have n0_ := Aside0.mk (Kd.R_mono (ok' := fun k_ => True) ho0 (fun k_ hk_ => trivial));have n1_ := Aside0.mk (hb);clear HB;clear HO218;have HO221 := n0_;have HB := n1_;clear n0_ n1_;(try clear hb);(try clear hkp);(try clear ho0);obtain ⟨Ao24,co24,eo24⟩ := Kd.R_slice HO221.out;subst eo24) | ((with_reducible refine gate_callee (f := 65) rfl ?_);refine goesL_ (some 18) rfl rfl Tryd.func65 (by kernel_rfl) rfl #[.slice Ao24 t219.length co24,.int .i32 963,.int .i32 969,.int .i32 1,.int .i32 32] rfl (by (try simp only [List.map_toArray,List.map_cons,List.map_nil]);first | done | rfl | (simp only [List.length_drop,List.length_take];rfl)) ?_;(with_reducible refine (bodkinref05_run.calls k (fun k_ => some k_ = (.slice Ao24 t219.length co24 : Value).ownBlock) (.slice Ao24 t219.length co24) t219 963 969 1 32 t222 w _ ?side1 ?side2 A8.out).mono ?_);(case side1 => repeat (first | (with_reducible first | exact HB.out | apply below_alloc | apply pw_below_drewN | apply below_drew1) | exact HB.out));(case side2 => exact Kd.R_tight rfl HO221.out);rintro e w25 ⟨v223,rfl,ho0,hb,hkp⟩;refine ⟨_,rfl,?_⟩;have n0_ := Aside0.mk (Kd.R_mono (ok' := fun k_ => True) ho0 (fun k_ hk_ => trivial));have n1_ := Aside0.mk (hb);clear HB;clear HO221;have HO224 := n0_;have HB := n1_;clear n0_ n1_;(try clear hb);(try clear hkp);(try clear ho0);obtain ⟨Ao26,co26,eo26⟩ := Kd.R_slice HO224.out;subst eo26) | ((with_reducible refine gate_callee (f := 65) rfl ?_);refine goesL_ (some 20) rfl rfl Tryd.func65 (by kernel_rfl) rfl #[.slice Ao26 t222.length co26,.int .i32 1072,.int .i32 1103,.int .i32 1,.int .i32 32] rfl (by (try simp only [List.map_toArray,List.map_cons,List.map_nil]);first | done | rfl | (simp only [List.length_drop,List.length_take];rfl)) ?_;(with_reducible refine (bodkinref05_run.calls k (fun k_ => some k_ = (.slice Ao26 t222.length co26 : Value).ownBlock) (.slice Ao26 t222.length co26) t222 1072 1103 1 32 t225 w _ ?side1 ?side2 A9.out).mono ?_);(case side1 => repeat (first | (with_reducible first | exact HB.out | apply below_alloc | apply pw_below_drewN | apply below_drew1) | exact HB.out));(case side2 => exact Kd.R_tight rfl HO224.out);rintro e w27 ⟨v226,rfl,ho0,hb,hkp⟩;refine ⟨_,rfl,?_⟩;have n0_ := Aside0.mk (Kd.R_mono (ok' := fun k_ => True) ho0 (fun k_ hk_ => trivial));have n1_ := Aside0.mk (hb);clear HB;clear HO224;have HO227 := n0_;have HB := n1_;clear n0_ n1_;(try clear hb);(try clear hkp);(try clear ho0);obtain ⟨Ao28,co28,eo28⟩ := Kd.R_slice HO227.out;subst eo28) | ((with_reducible refine gate_callee (f := 65) rfl ?_);refine goesL_ (some 22) rfl rfl Tryd.func65 (by kernel_rfl) rfl #[.slice Ao28 t225.length co28,.int .i32 1104,.int .i32 1119,.int .i32 1,.int .i32 80] rfl (by (try simp only [List.map_toArray,List.map_cons,List.map_nil]);first | done | rfl | (simp only [List.length_drop,List.length_take];rfl)) ?_;(with_reducible refine (bodkinref05_run.calls k (fun k_ => some k_ = (.slice Ao28 t225.length co28 : Value).ownBlock) (.slice Ao28 t225.length co28) t225 1104 1119 1 80 t228 w _ ?side1 ?side2 A10.out).mono ?_);(case side1 => repeat (first | (with_reducible first | exact HB.out | apply below_alloc | apply pw_below_drewN | apply below_drew1) | exact HB.out));(case side2 => exact Kd.R_tight rfl HO227.out);rintro e w29 ⟨v229,rfl,ho0,hb,hkp⟩;refine ⟨_,rfl,?_⟩;have n0_ := Aside0.mk (Kd.R_mono (ok' := fun k_ => True) ho0 (fun k_ hk_ => trivial));have n1_ := Aside0.mk (hb);clear HB;clear HO227;have HO230 := n0_;have HB := n1_;clear n0_ n1_;(try clear hb);(try clear hkp);(try clear ho0);obtain ⟨Ao30,co30,eo30⟩ := Kd.R_slice HO230.out;subst eo30) | ((with_reducible refine gate_callee (f := 65) rfl ?_);refine goesL_ (some 24) rfl rfl Tryd.func65 (by kernel_rfl) rfl #[.slice Ao30 t228.length co30,.int .i32 1121,.int .i32 1153,.int .i32 2,.int .i32 1] rfl (by (try simp only [List.map_toArray,List.map_cons,List.map_nil]);first | done | rfl | (simp only [List.length_drop,List.length_take];rfl)) ?_;(with_reducible refine (bodkinref05_run.calls k (fun k_ => some k_ = (.slice Ao30 t228.length co30 : Value).ownBlock) (.slice Ao30 t228.length co30) t228 1121 1153 2 1 t231 w _ ?side1 ?side2 A11.out).mono ?_);(case side1 => repeat (first | (with_reducible first | exact HB.out | apply below_alloc | apply pw_below_drewN | apply below_drew1) | exact HB.out));(case side2 => exact Kd.R_tight rfl HO230.out);rintro e w31 ⟨v232,rfl,ho0,hb,hkp⟩;refine ⟨_,rfl,?_⟩;have n0_ := Aside0.mk (Kd.R_mono (ok' := fun k_ => True) ho0 (fun k_ hk_ => trivial));have n1_ := Aside0.mk (hb);clear HB;clear HO230;have HO233 := n0_;have HB := n1_;clear n0_ n1_;(try clear hb);(try clear hkp);(try clear ho0)))
  go_ret
  exact ⟨_,by first | rfl | (simp [errW_none,errW_some] <;> rfl) | (simp [*,errW_none,errW_some] <;> rfl),by (with_reducible repeat (first | apply Kd.R_alloc | apply Kd.R_drewN | apply Kd.R_drew));exact HO233.out,by repeat (first | (with_reducible first | exact HB.out | apply below_alloc | apply pw_below_drewN | apply below_drew1) | exact HB.out)⟩
 ·rw [if_neg c4] at H
  exact absurd H (by simp)
def bodkinref05_UpperOf.l0 : Nat → Int → List (S55) → Int → Option (Int)
 | 0,_,_,_ => none
 | k + 1,x0,x3,x4 => if x4 < (x3.length : Int) then (if 0 ≤ x4 then (if ((rd_T55 x3 x4).f0) = x0 then (some ((rd_T55 x3 x4).f1)) else (bodkinref05_UpperOf.l0 k x0 x3 (wrap64 (x4 + 1)))) else (none)) else (some x0)
def bodkinref05_UpperOf.f (k : Nat) (a0 : Int) : Option (Int) := (bodkinref05_Pairs.f k).bind fun t234 => (bodkinref05_UpperOf.l0 k a0 t234 0)
set_option maxHeartbeats 8000000 in
set_option maxRecDepth 100000 in
theorem bodkinref05_UpperOf.calls (k : Nat) (a0 : Int) (r : Int) (w : World) (h : bodkinref05_UpperOf.f k a0 = some r) :
  Calls Tryd.prog 16 #[.int .i32 a0] w fun e w' => e = .returned (.int .i32 r) ∧ Below w.heap.size w w' := by
 have HB := Aside0.mk (Below.refl w.heap.size w)
 have H : ((bodkinref05_Pairs.f k).bind fun t234 => (bodkinref05_UpperOf.l0 k a0 t234 0)) = some r := h
 clear h
 replace H := Option.bind_eq_some_iff.mp H
 obtain ⟨t234,A20,H⟩ := H
 replace H : (bodkinref05_UpperOf.l0 k a0 t234 0) = some r := H
 have A2 := Aside0.mk A20
 clear A20
 have H' := Aside0.mk H
 clear H
 go_enter Tryd.func16,Tryd.ntmps16
 go_wp2_with (first | ((with_reducible refine gate_callee (f := 43) rfl ?_);refine goesL_ (some 5) rfl rfl Tryd.func43 (by kernel_rfl) rfl #[] rfl (by (try simp only [List.map_toArray,List.map_cons,List.map_nil]);first | done | rfl | (simp only [List.length_drop,List.length_take];rfl)) ?_;(with_reducible refine (bodkinref05_Pairs.calls k  t234 _ A2.out).mono ?_);rintro e w3 ⟨v235,rfl,ho0,hb⟩;refine ⟨_,rfl,?_⟩;have n0_ := Aside0.mk (Kd.R_lower ho0 (below_size (by repeat (first | (with_reducible first | exact HB.out | apply below_alloc | apply pw_below_drewN | apply below_drew1) | exact HB.out))));have n1_ := Aside0.mk (below_step (by repeat (first | (with_reducible first | exact HB.out | apply below_alloc | apply pw_below_drewN | apply below_drew1) | exact HB.out)) hb);clear HB;have HO236 := n0_;have HB := n1_;clear n0_ n1_;(try clear hb);(try clear hb2);(try clear hk);(try clear hi);(try clear ho0)))
 go_loopg [4] k (fun kq v4 w' => ∃ (x4_1 : Int),v4 = .int .i64 x4_1 ∧ Aside0 (bodkinref05_UpperOf.l0 kq a0 t234 x4_1 = some r) ∧ Aside0 (kq ≤ k) ∧ Aside0 (Kd.R k55 55 w' w.heap.size (fun _ => True) v235 t234) ∧ Aside0 (Below w.heap.size w w'))
 case atStart => exact ⟨(0),(by first | rfl | (simp;done) | (simp [*];done)),H',⟨Nat.le_refl _⟩,⟨by (with_reducible repeat (first | apply Kd.R_alloc | apply Kd.R_drewN | apply Kd.R_drew));exact HO236.out⟩,⟨by repeat (first | (with_reducible first | exact HB.out | apply below_alloc | apply pw_below_drewN | apply below_drew1) | exact HB.out)⟩⟩
 case round =>
  clear H'
  try clear c1
  try clear p2
  obtain ⟨x4_1,rfl,HA,HK1,HO_3,HB⟩ := hrel
  cases gk with
  | zero => exact absurd HA.out (by simp [bodkinref05_UpperOf.l0])
  | succ k1 =>
   have H := HA.out
   clear HA
   simp only [bodkinref05_UpperOf.l0] at H
   by_cases c4 : x4_1 < (t234.length : Int)
   ·rw [if_pos c4] at H
    have c4b0 : decide (x4_1 < (t234.length : Int)) = true := decide_eq_true c4
    clear c4
    by_cases c5 : 0 ≤ x4_1
    ·rw [if_pos c5] at H
     have c5b0 : decide (0 ≤ x4_1) = true := decide_eq_true c5
     clear c5
     by_cases c6 : ((rd_T55 t234 x4_1).f0) = a0
     ·rw [if_pos c6] at H
      have c6b0 : (((rd_T55 t234 x4_1).f0) == a0) = true := beq_iff_eq.mpr c6
      have c6b1 : (((rd_T55 t234 x4_1).f0) != a0) = false := bne_eq_false_iff_eq.mpr c6
      clear c6
      obtain rfl := Option.some.inj H
      obtain ⟨Ao7,co7,eo7⟩ := Kd.R_slice HO_3.out
      subst eo7
      have p237 : 0 ≤ (x4_1 : Int) := of_decide_eq_true (by first | (with_reducible assumption) | assumption)
      have q237 : x4_1 < (t234.length : Int) := of_decide_eq_true (by first | (with_reducible assumption) | assumption)
      obtain ⟨ad237,e237,hx237_0,hx237_1⟩ := at_T55 (Kd.R_reads' HO_3.out).2.2 x4_1 p237 q237
      cases e237
      replace p237 := eq_true p237
      replace q237 := eq_true q237
      have p238 : 0 ≤ (x4_1 : Int) := of_decide_eq_true (by first | (with_reducible assumption) | assumption)
      have q238 : x4_1 < (t234.length : Int) := of_decide_eq_true (by first | (with_reducible assumption) | assumption)
      obtain ⟨ad238,e238,hx238_0,hx238_1⟩ := at_T55 (Kd.R_reads' HO_3.out).2.2 x4_1 p238 q238
      obtain rfl : ad237 = ad238 := (by injection e238)
      replace p238 := eq_true p238
      replace q238 := eq_true q238
      go_wp2
      go_ret
      exact ⟨by first | rfl | (simp [errW_none,errW_some] <;> rfl) | (simp [*,errW_none,errW_some] <;> rfl),by repeat (first | (with_reducible first | exact HB.out | apply below_alloc | apply pw_below_drewN | apply below_drew1) | exact HB.out)⟩
     ·rw [if_neg c6] at H
      have c6b0 : (((rd_T55 t234 x4_1).f0) == a0) = false := beq_eq_false_iff_ne.mpr c6
      have c6b1 : (((rd_T55 t234 x4_1).f0) != a0) = true := bne_iff_ne.mpr c6
      have H' := Aside0.mk H
      clear H
      obtain ⟨Ao8,co8,eo8⟩ := Kd.R_slice HO_3.out
      subst eo8
      have p237 : 0 ≤ (x4_1 : Int) := of_decide_eq_true (by first | (with_reducible assumption) | assumption)
      have q237 : x4_1 < (t234.length : Int) := of_decide_eq_true (by first | (with_reducible assumption) | assumption)
      obtain ⟨ad237,e237,hx237_0,hx237_1⟩ := at_T55 (Kd.R_reads' HO_3.out).2.2 x4_1 p237 q237
      cases e237
      replace p237 := eq_true p237
      replace q237 := eq_true q237
      go_wp2
      go_roundg k1
      case measure => have := HK1.out;omega
      case rel => exact ⟨(wrap64 (x4_1 + 1)),(by first | rfl | (simp;done) | (simp [*];done)),H',⟨by have := HK1.out;omega⟩,⟨by (with_reducible repeat (first | apply Kd.R_alloc | apply Kd.R_drewN | apply Kd.R_drew));exact HO_3.out⟩,⟨by repeat (first | (with_reducible first | exact HB.out | apply below_alloc | apply pw_below_drewN | apply below_drew1) | exact HB.out)⟩⟩
    ·rw [if_neg c5] at H
     exact absurd H (by simp)
   ·rw [if_neg c4] at H
    have c4b0 : decide (x4_1 < (t234.length : Int)) = false := decide_eq_false c4
    clear c4
    obtain rfl := Option.some.inj H
    obtain ⟨Ao9,co9,eo9⟩ := Kd.R_slice HO_3.out
    subst eo9
    go_wp2
    go_ret
    exact ⟨by first | rfl | (simp [errW_none,errW_some] <;> rfl) | (simp [*,errW_none,errW_some] <;> rfl),by repeat (first | (with_reducible first | exact HB.out | apply below_alloc | apply pw_below_drewN | apply below_drew1) | exact HB.out)⟩
def bodkinref05_LowerOf.l0 : Nat → Int → List (S55) → Int → Option (Int)
 | 0,_,_,_ => none
 | k + 1,x0,x3,x4 => if x4 < (x3.length : Int) then (if 0 ≤ x4 then (if ((rd_T55 x3 x4).f1) = x0 then (some ((rd_T55 x3 x4).f0)) else (bodkinref05_LowerOf.l0 k x0 x3 (wrap64 (x4 + 1)))) else (none)) else (some x0)
def bodkinref05_LowerOf.f (k : Nat) (a0 : Int) : Option (Int) := (bodkinref05_Pairs.f k).bind fun t239 => (bodkinref05_LowerOf.l0 k a0 t239 0)
set_option maxHeartbeats 8000000 in
set_option maxRecDepth 100000 in
theorem bodkinref05_LowerOf.calls (k : Nat) (a0 : Int) (r : Int) (w : World) (h : bodkinref05_LowerOf.f k a0 = some r) :
  Calls Tryd.prog 18 #[.int .i32 a0] w fun e w' => e = .returned (.int .i32 r) ∧ Below w.heap.size w w' := by
 have HB := Aside0.mk (Below.refl w.heap.size w)
 have H : ((bodkinref05_Pairs.f k).bind fun t239 => (bodkinref05_LowerOf.l0 k a0 t239 0)) = some r := h
 clear h
 replace H := Option.bind_eq_some_iff.mp H
 obtain ⟨t239,A20,H⟩ := H
 replace H : (bodkinref05_LowerOf.l0 k a0 t239 0) = some r := H
 have A2 := Aside0.mk A20
 clear A20
 have H' := Aside0.mk H
 clear H
 go_enter Tryd.func18,Tryd.ntmps18
 go_wp2_with (first | ((with_reducible refine gate_callee (f := 43) rfl ?_);refine goesL_ (some 5) rfl rfl Tryd.func43 (by kernel_rfl) rfl #[] rfl (by (try simp only [List.map_toArray,List.map_cons,List.map_nil]);first | done | rfl | (simp only [List.length_drop,List.length_take];rfl)) ?_;(with_reducible refine (bodkinref05_Pairs.calls k  t239 _ A2.out).mono ?_);rintro e w3 ⟨v240,rfl,ho0,hb⟩;refine ⟨_,rfl,?_⟩;have n0_ := Aside0.mk (Kd.R_lower ho0 (below_size (by repeat (first | (with_reducible first | exact HB.out | apply below_alloc | apply pw_below_drewN | apply below_drew1) | exact HB.out))));have n1_ := Aside0.mk (below_step (by repeat (first | (with_reducible first | exact HB.out | apply below_alloc | apply pw_below_drewN | apply below_drew1) | exact HB.out)) hb);clear HB;have HO241 := n0_;have HB := n1_;clear n0_ n1_;(try clear hb);(try clear hb2);(try clear hk);(try clear hi);(try clear ho0)))
 go_loopg [4] k (fun kq v4 w' => ∃ (x4_1 : Int),v4 = .int .i64 x4_1 ∧ Aside0 (bodkinref05_LowerOf.l0 kq a0 t239 x4_1 = some r) ∧ Aside0 (kq ≤ k) ∧ Aside0 (Kd.R k55 55 w' w.heap.size (fun _ => True) v240 t239) ∧ Aside0 (Below w.heap.size w w'))
 case atStart => exact ⟨(0),(by first | rfl | (simp;done) | (simp [*];done)),H',⟨Nat.le_refl _⟩,⟨by (with_reducible repeat (first | apply Kd.R_alloc | apply Kd.R_drewN | apply Kd.R_drew));exact HO241.out⟩,⟨by repeat (first | (with_reducible first | exact HB.out | apply below_alloc | apply pw_below_drewN | apply below_drew1) | exact HB.out)⟩⟩
 case round =>
  clear H'
  try clear c1
  try clear p2
  obtain ⟨x4_1,rfl,HA,HK1,HO_3,HB⟩ := hrel
  cases gk with
  | zero => exact absurd HA.out (by simp [bodkinref05_LowerOf.l0])
  | succ k1 =>
   have H := HA.out
   clear HA
   simp only [bodkinref05_LowerOf.l0] at H
   by_cases c4 : x4_1 < (t239.length : Int)
   ·rw [if_pos c4] at H
    have c4b0 : decide (x4_1 < (t239.length : Int)) = true := decide_eq_true c4
    clear c4
    by_cases c5 : 0 ≤ x4_1
    ·rw [if_pos c5] at H
     have c5b0 : decide (0 ≤ x4_1) = true := decide_eq_true c5
     clear c5
     by_cases c6 : ((rd_T55 t239 x4_1).f1) = a0
     ·rw [if_pos c6] at H
      have c6b0 : (((rd_T55 t239 x4_1).f1) == a0) = true := beq_iff_eq.mpr c6
      have c6b1 : (((rd_T55 t239 x4_1).f1) != a0) = false := bne_eq_false_iff_eq.mpr c6
      clear c6
      obtain rfl := Option.some.inj H
      obtain ⟨Ao7,co7,eo7⟩ := Kd.R_slice HO_3.out
      subst eo7
      have p242 : 0 ≤ (x4_1 : Int) := of_decide_eq_true (by first | (with_reducible assumption) | assumption)
      have q242 : x4_1 < (t239.length : Int) := of_decide_eq_true (by first | (with_reducible assumption) | assumption)
      obtain ⟨ad242,e242,hx242_0,hx242_1⟩ := at_T55 (Kd.R_reads' HO_3.out).2.2 x4_1 p242 q242
      cases e242
      replace p242 := eq_true p242
      replace q242 := eq_true q242
      have p243 : 0 ≤ (x4_1 : Int) := of_decide_eq_true (by first | (with_reducible assumption) | assumption)
      have q243 : x4_1 < (t239.length : Int) := of_decide_eq_true (by first | (with_reducible assumption) | assumption)
      obtain ⟨ad243,e243,hx243_0,hx243_1⟩ := at_T55 (Kd.R_reads' HO_3.out).2.2 x4_1 p243 q243
      obtain rfl : ad242 = ad243 := (by injection e243)
      replace p243 := eq_true p243
      replace q243 := eq_true q243
      go_wp2
      go_ret
      exact ⟨by first | rfl | (simp [errW_none,errW_some] <;> rfl) | (simp [*,errW_none,errW_some] <;> rfl),by repeat (first | (with_reducible first | exact HB.out | apply below_alloc | apply pw_below_drewN | apply below_drew1) | exact HB.out)⟩
     ·rw [if_neg c6] at H
      have c6b0 : (((rd_T55 t239 x4_1).f1) == a0) = false := beq_eq_false_iff_ne.mpr c6
      have c6b1 : (((rd_T55 t239 x4_1).f1) != a0) = true := bne_iff_ne.mpr c6
      have H' := Aside0.mk H
      clear H
      obtain ⟨Ao8,co8,eo8⟩ := Kd.R_slice HO_3.out
      subst eo8
      have p242 : 0 ≤ (x4_1 : Int) := of_decide_eq_true (by first | (with_reducible assumption) | assumption)
      have q242 : x4_1 < (t239.length : Int) := of_decide_eq_true (by first | (with_reducible assumption) | assumption)
      obtain ⟨ad242,e242,hx242_0,hx242_1⟩ := at_T55 (Kd.R_reads' HO_3.out).2.2 x4_1 p242 q242
      cases e242
      replace p242 := eq_true p242
      replace q242 := eq_true q242
      go_wp2
      go_roundg k1
      case measure => have := HK1.out;omega
      case rel => exact ⟨(wrap64 (x4_1 + 1)),(by first | rfl | (simp;done) | (simp [*];done)),H',⟨by have := HK1.out;omega⟩,⟨by (with_reducible repeat (first | apply Kd.R_alloc | apply Kd.R_drewN | apply Kd.R_drew));exact HO_3.out⟩,⟨by repeat (first | (with_reducible first | exact HB.out | apply below_alloc | apply pw_below_drewN | apply below_drew1) | exact HB.out)⟩⟩
    ·rw [if_neg c5] at H
     exact absurd H (by simp)
   ·rw [if_neg c4] at H
    have c4b0 : decide (x4_1 < (t239.length : Int)) = false := decide_eq_false c4
    clear c4
    obtain rfl := Option.some.inj H
    obtain ⟨Ao9,co9,eo9⟩ := Kd.R_slice HO_3.out
    subst eo9
    go_wp2
    go_ret
    exact ⟨by first | rfl | (simp [errW_none,errW_some] <;> rfl) | (simp [*,errW_none,errW_some] <;> rfl),by repeat (first | (with_reducible first | exact HB.out | apply below_alloc | apply pw_below_drewN | apply below_drew1) | exact HB.out)⟩
end Go.Proofs.YtkficbgnjpekaaaDoor.U
end
section
namespace Go.Proofs
open Go.Shelf
def Tryd.lays119_ren : Go.Shelf.Ren := ⟨fun | 119 => 52 | n => n,fun | 21 => 21 | 4 => 4 | n => n,fun | n => n⟩
theorem Tryd.lays119 : Go.Proofs.Lays.n119 Tryd.prog Tryd.lays119_ren := {
 mixed := by kernel_rfl
 f119 := Tryd.func52.trans (congrArg some (by kernel_rfl))
 t4 := Tryd.underlying4
 a4 := Tryd.isAgg4
 z4 := Tryd.sizeOf4
 v4 := Tryd.zeroValue4
 t21 := Tryd.underlying21
 a21 := Tryd.isAgg21
 z21 := Tryd.sizeOf21
 v21 := Tryd.zeroValue21 }
theorem Tryd.utf8_ValidRune (r : Int) (w : World) :
  Calls Tryd.prog 52 #[.int .i32 r] w fun e w' => e = .returned (.bool (Lib.validRune r)) ∧ w' = w := Any.utf8_ValidRune Tryd.lays119 r w
def Tryd.lays206_ren : Go.Shelf.Ren := ⟨fun | 206 => 88 | n => n,fun | 9 => 9 | 4 => 4 | 3 => 3 | n => n,fun | n => n⟩
theorem Tryd.lays206 : Go.Proofs.Lays.n206 Tryd.prog Tryd.lays206_ren := {
 mixed := by kernel_rfl
 f206 := Tryd.func88.trans (congrArg some (by kernel_rfl))
 t3 := Tryd.underlying3
 a3 := Tryd.isAgg3
 z3 := Tryd.sizeOf3
 v3 := Tryd.zeroValue3
 t4 := Tryd.underlying4
 a4 := Tryd.isAgg4
 z4 := Tryd.sizeOf4
 v4 := Tryd.zeroValue4
 t9 := Tryd.underlying9
 a9 := Tryd.isAgg9
 z9 := Tryd.sizeOf9
 v9 := Tryd.zeroValue9 }
open Go.RowKit Go.Lib in
theorem Tryd.stringslite_HasPrefix (s p : ByteArray) (w : World) :
  Calls Tryd.prog 88 #[.string s,.string p] w fun e w' => e = .returned (.bool (Lib.hasPrefix s.data.toList p.data.toList)) ∧ w' = w := Any.stringslite_HasPrefix Tryd.lays206 s p w
def Tryd.lays99_ren : Go.Shelf.Ren := ⟨fun | 99 => 82 | 206 => 88 | n => n,fun | 9 => 9 | 4 => 4 | 3 => 3 | n => n,fun | n => n⟩
theorem Tryd.lays99 : Go.Proofs.Lays.n99 Tryd.prog Tryd.lays99_ren := {
 mixed := by kernel_rfl
 f99 := Tryd.func82.trans (congrArg some (by kernel_rfl))
 f206 := Tryd.func88.trans (congrArg some (by kernel_rfl))
 t3 := Tryd.underlying3
 a3 := Tryd.isAgg3
 z3 := Tryd.sizeOf3
 v3 := Tryd.zeroValue3
 t4 := Tryd.underlying4
 a4 := Tryd.isAgg4
 z4 := Tryd.sizeOf4
 v4 := Tryd.zeroValue4
 t9 := Tryd.underlying9
 a9 := Tryd.isAgg9
 z9 := Tryd.sizeOf9
 v9 := Tryd.zeroValue9 }
open Go.RowKit Go.Lib in
theorem Tryd.strings_HasPrefix (s p : ByteArray) (w : World) :
  Calls Tryd.prog 82 #[.string s,.string p] w fun e w' => e = .returned (.bool (Lib.hasPrefix s.data.toList p.data.toList)) ∧ w' = w := Any.strings_HasPrefix Tryd.lays99 s p w
def Tryd.lays197_ren : Go.Shelf.Ren := ⟨fun | 197 => 76 | 260 => 86 | n => n,fun | 9 => 9 | 21 => 21 | 3 => 3 | 4 => 4 | 5 => 5 | 105 => 89 | 119 => 101 | 0 => 0 | 46 => 94 | 139 => 104 | 138 => 103 | n => n,fun | 3 => 0 | 4 => 1 | n => n⟩
theorem Tryd.lays197 : Go.Proofs.Lays.n197 Tryd.prog Tryd.lays197_ren := {
 mixed := by kernel_rfl
 f197 := Tryd.func76.trans (congrArg some (by kernel_rfl))
 f260 := Tryd.func86.trans (congrArg some (by kernel_rfl))
 t0 := Tryd.underlying0
 a0 := Tryd.isAgg0
 z0 := Tryd.sizeOf0
 v0 := Tryd.zeroValue0
 t3 := Tryd.underlying3
 a3 := Tryd.isAgg3
 z3 := Tryd.sizeOf3
 v3 := Tryd.zeroValue3
 t4 := Tryd.underlying4
 a4 := Tryd.isAgg4
 z4 := Tryd.sizeOf4
 v4 := Tryd.zeroValue4
 t5 := Tryd.underlying5
 a5 := Tryd.isAgg5
 z5 := Tryd.sizeOf5
 v5 := Tryd.zeroValue5
 t9 := Tryd.underlying9
 a9 := Tryd.isAgg9
 z9 := Tryd.sizeOf9
 v9 := Tryd.zeroValue9
 t21 := Tryd.underlying21
 a21 := Tryd.isAgg21
 z21 := Tryd.sizeOf21
 v21 := Tryd.zeroValue21
 t46 := Tryd.underlying94
 a46 := Tryd.isAgg94
 z46 := Tryd.sizeOf94
 v46 := Tryd.zeroValue94
 t105 := Tryd.underlying89
 a105 := Tryd.isAgg89
 z105 := Tryd.sizeOf89
 v105 := Tryd.zeroValue89
 t119 := Tryd.underlying101
 a119 := Tryd.isAgg101
 z119 := Tryd.sizeOf101
 t138 := Tryd.underlying103
 a138 := Tryd.isAgg103
 z138 := Tryd.sizeOf103
 v138 := Tryd.zeroValue103
 t139 := Tryd.underlying104
 a139 := Tryd.isAgg104
 z139 := Tryd.sizeOf104
 v139 := Tryd.zeroValue104
 g3 := by kernel_rfl
 g4 := by kernel_rfl }
def Tryd.lays260_ren : Go.Shelf.Ren := ⟨fun | 260 => 86 | n => n,fun | 9 => 9 | 21 => 21 | 3 => 3 | 4 => 4 | 5 => 5 | 119 => 101 | 0 => 0 | 46 => 94 | 139 => 104 | 138 => 103 | n => n,fun | 3 => 0 | 4 => 1 | n => n⟩
theorem Tryd.lays260 : Go.Proofs.Lays.n260 Tryd.prog Tryd.lays260_ren := {
 mixed := by kernel_rfl
 f260 := Tryd.func86.trans (congrArg some (by kernel_rfl))
 t0 := Tryd.underlying0
 a0 := Tryd.isAgg0
 z0 := Tryd.sizeOf0
 v0 := Tryd.zeroValue0
 t3 := Tryd.underlying3
 a3 := Tryd.isAgg3
 z3 := Tryd.sizeOf3
 v3 := Tryd.zeroValue3
 t4 := Tryd.underlying4
 a4 := Tryd.isAgg4
 z4 := Tryd.sizeOf4
 v4 := Tryd.zeroValue4
 t5 := Tryd.underlying5
 a5 := Tryd.isAgg5
 z5 := Tryd.sizeOf5
 v5 := Tryd.zeroValue5
 t9 := Tryd.underlying9
 a9 := Tryd.isAgg9
 z9 := Tryd.sizeOf9
 v9 := Tryd.zeroValue9
 t21 := Tryd.underlying21
 a21 := Tryd.isAgg21
 z21 := Tryd.sizeOf21
 v21 := Tryd.zeroValue21
 t46 := Tryd.underlying94
 a46 := Tryd.isAgg94
 z46 := Tryd.sizeOf94
 v46 := Tryd.zeroValue94
 t119 := Tryd.underlying101
 a119 := Tryd.isAgg101
 z119 := Tryd.sizeOf101
 t138 := Tryd.underlying103
 a138 := Tryd.isAgg103
 z138 := Tryd.sizeOf103
 v138 := Tryd.zeroValue103
 t139 := Tryd.underlying104
 a139 := Tryd.isAgg104
 z139 := Tryd.sizeOf104
 v139 := Tryd.zeroValue104
 g3 := by kernel_rfl
 g4 := by kernel_rfl }
open Go.RowKit Go.Lib in
theorem Tryd.utf8_DecodeRuneInString (s : ByteArray) (w : World) (hT : Lib.Utf8Tabs 0 1 w) :
  Calls Tryd.prog 76 #[.string s] w fun e w' => e = .returned (.tuple #[.int .i32 (Lib.decodeGo s).1,.int .i64 (Lib.decodeGo s).2]) ∧ Below w.heap.size w w' := Any.utf8_DecodeRuneInString Tryd.lays197 s w hT
end Go.Proofs
end
section
namespace Go.Proofs.YtkficbgnjpekaaaDoor.U
open Go.RowKit Go.Proofs.YtkficbgnjpekaaaDoorW.PrintWords Go.Proofs.YtkficbgnjpekaaaDoorW.PrintLast Go.Proofs.YtkficbgnjpekaaaDoorW.PrintMore
set_option linter.unusedVariables false
set_option linter.unusedSimpArgs false
theorem block_of_cell {w : World} {p : Addr} {v : Value} (h : w.cell? p = some v) : p.block < w.heap.size := by
 unfold World.cell? at h
 cases hb : w.heap[p.block]? with
 | none => simp [hb] at h
 | some o => exact (Array.getElem?_eq_some_iff.1 hb).1
/-- The tables lie where nothing is turned. -/
theorem tabs_below {w0 w : World} (h : Lib.Utf8Tabs 0 1 w0) (hb : Below w0.heap.size w0 w) : Lib.Utf8Tabs 0 1 w :=
  ⟨fun c hc => (hb.cell (p := ⟨0, c, none⟩) (block_of_cell (h.1 c hc))).trans (h.1 c hc),
   fun i hi => ⟨(hb.cell (p := ⟨1, 2 * i, none⟩) (block_of_cell (h.2 i hi).1)).trans (h.2 i hi).1,
     (hb.cell (p := ⟨1, 2 * i + 1, none⟩) (block_of_cell (h.2 i hi).2)).trans (h.2 i hi).2⟩⟩
def utf8_DecodeRuneInString.f (a0 : ByteArray) : Option (Int × Int) := some (((Lib.decodeGo a0).1 : Int),((Lib.decodeGo a0).2 : Int))
theorem utf8_DecodeRuneInString.calls (a0 : ByteArray) (r1 : Int) (r2 : Int) (w : World) (hT : Lib.Utf8Tabs 0 1 w) (h : utf8_DecodeRuneInString.f a0 = some (r1,r2)) :
  Calls Tryd.prog 76 #[.string a0] w fun e w' => e = .returned (.tuple #[.int .i32 r1,.int .i64 r2]) ∧ Below w.heap.size w w' := by
 unfold utf8_DecodeRuneInString.f at h
 simp only [Option.some.injEq,Prod.mk.injEq] at h
 obtain ⟨rfl,rfl⟩ := h
 exact Tryd.utf8_DecodeRuneInString a0 w hT
end Go.Proofs.YtkficbgnjpekaaaDoor.U
end
