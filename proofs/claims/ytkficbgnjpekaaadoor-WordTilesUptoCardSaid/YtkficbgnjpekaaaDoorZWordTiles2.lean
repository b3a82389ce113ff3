/- What the law WordTiles reaches of this seat's own texts, merged; what nothing uses is left out. -/
import Derived.Test.YtkficbgnjpekaaaDoorZWordTiles0
import Derived.Test.YtkficbgnjpekaaaDoorZWordTiles1
section
namespace Go.Proofs.YtkficbgnjpekaaaDoor.U
open Go.RowKit Go.Proofs.YtkficbgnjpekaaaDoorW.PrintWords Go.Proofs.YtkficbgnjpekaaaDoorW.PrintLast Go.Proofs.YtkficbgnjpekaaaDoorW.PrintMore
attribute [local go_sem] max2_int min2_int max_two min_two max_three min_three max_four min_four   -- for this text's walks alone
set_option linter.unusedVariables false
set_option linter.unusedSimpArgs false
def word_odd.f (a0 : Int) (a1 : Int) (a2 : Int) : Option (Bool) := if a0 ≥ a1 then (if a0 ≤ a2 then (some ((Int.tmod a0 2) == 1)) else (some false)) else (some false)
set_option maxHeartbeats 8000000 in
set_option maxRecDepth 100000 in
theorem word_odd.calls (a0 : Int) (a1 : Int) (a2 : Int) (r : Bool) (w : World) (h : word_odd.f a0 a1 a2 = some r) :
  Calls Tryd.prog 42 #[.int .i32 a0,.int .i32 a1,.int .i32 a2] w fun e w' => e = .returned (.bool r) ∧ Drawn0 w w' := by
 have H : (if a0 ≥ a1 then (if a0 ≤ a2 then (some ((Int.tmod a0 2) == 1)) else (some false)) else (some false)) = some r := h
 clear h
 by_cases c4 : a0 ≥ a1
 ·rw [if_pos c4] at H
  have c4b0 : decide (a1 ≤ a0) = true := decide_eq_true c4
  clear c4
  by_cases c5 : a0 ≤ a2
  ·rw [if_pos c5] at H
   have c5b0 : decide (a0 ≤ a2) = true := decide_eq_true c5
   clear c5
   obtain rfl := Option.some.inj H
   go_enter Tryd.func42,Tryd.ntmps42
   go_wp2
   go_ret
   exact ⟨by first | rfl | (simp;done) | (simp [*];done),by repeat (first | exact Drawn0.refl _ | apply Drawn0.step)⟩
  ·rw [if_neg c5] at H
   have c5b0 : decide (a0 ≤ a2) = false := decide_eq_false c5
   clear c5
   obtain rfl := Option.some.inj H
   go_enter Tryd.func42,Tryd.ntmps42
   go_wp2
   go_ret
   exact ⟨by first | rfl | (simp;done) | (simp [*];done),by repeat (first | exact Drawn0.refl _ | apply Drawn0.step)⟩
 ·rw [if_neg c4] at H
  have c4b0 : decide (a1 ≤ a0) = false := decide_eq_false c4
  clear c4
  obtain rfl := Option.some.inj H
  go_enter Tryd.func42,Tryd.ntmps42
  go_wp2
  go_ret
  exact ⟨by first | rfl | (simp;done) | (simp [*];done),by repeat (first | exact Drawn0.refl _ | apply Drawn0.step)⟩
end Go.Proofs.YtkficbgnjpekaaaDoor.U
end
section
namespace Go.Proofs.YtkficbgnjpekaaaDoor.U
open Go.RowKit Go.Proofs.YtkficbgnjpekaaaDoorW.PrintWords Go.Proofs.YtkficbgnjpekaaaDoorW.PrintLast Go.Proofs.YtkficbgnjpekaaaDoorW.PrintMore
attribute [local go_sem] max2_int min2_int max_two min_two max_three min_three max_four min_four   -- for this text's walks alone
set_option linter.unusedVariables false
set_option linter.unusedSimpArgs false
attribute [local go_sem high] eqA32
def utf8_ValidRune.j0 : Nat → Int → Bool → Option (Bool)
 | 0,_,_ => none
 | k + 1,x0,x3 => if x3 = true then (some true) else (if 57343 < x0 then (if x0 ≤ 1114111 then (some true) else (some false)) else (some false))
def utf8_ValidRune.f (k : Nat) (a0 : Int) : Option (Bool) := if 0 ≤ a0 then (utf8_ValidRune.j0 k a0 (decide (a0 < 55296))) else (utf8_ValidRune.j0 k a0 false)
set_option maxHeartbeats 8000000 in
set_option maxRecDepth 100000 in
theorem utf8_ValidRune.calls (k : Nat) (a0 : Int) (r : Bool) (w : World) (h : utf8_ValidRune.f k a0 = some r) :
  Calls Tryd.prog 52 #[.int .i32 a0] w fun e w' => e = .returned (.bool r) ∧ Drawn0 w w' := by
 have H : (if 0 ≤ a0 then (utf8_ValidRune.j0 k a0 (decide (a0 < 55296))) else (utf8_ValidRune.j0 k a0 false)) = some r := h
 clear h
 have HC2 := Aside0.mk H
 clear H
 go_enter Tryd.func52,Tryd.ntmps52
 go_upto_region 1 with (fail)
 go_cut [3] (fun v3 wc => ∃ (kq : Nat) (x3_1 : Bool),v3 = .bool x3_1 ∧ Aside0 (utf8_ValidRune.j0 kq a0 x3_1 = some r) ∧ Aside0 (kq ≤ k) ∧ Drawn0 w wc)
 case first =>
  have H := HC2.out
  clear HC2
  by_cases c3 : 0 ≤ a0
  ·rw [if_pos c3] at H
   have c3b0 : decide (0 ≤ a0) = true := decide_eq_true c3
   clear c3
   (first | rw [c3b0] | (simp only [i64_w,i32_w];rw [c3b0]) | skip)
   have H' := Aside0.mk H
   clear H
   go_wp2
   go_meet
   case rel => exact ⟨_,(decide (a0 < 55296)),au3,H',⟨by first | omega | exact Nat.le_refl _⟩,by repeat (first | exact Drawn0.refl _ | apply Drawn0.step)⟩
  ·rw [if_neg c3] at H
   have c3b0 : decide (0 ≤ a0) = false := decide_eq_false c3
   clear c3
   (first | rw [c3b0] | (simp only [i64_w,i32_w];rw [c3b0]) | skip)
   have H' := Aside0.mk H
   clear H
   go_wp2
   go_meet
   case rel => exact ⟨_,(false),au3,H',⟨by first | omega | exact Nat.le_refl _⟩,by repeat (first | exact Drawn0.refl _ | apply Drawn0.step)⟩
 case rest =>
  clear HC2
  try clear p2
  try clear c3
  try clear c3b0
  obtain ⟨kq,x3_1,rfl,HA,HJ1,⟨mc1,rfl⟩⟩ := hcut
  cases kq with
  | zero => exact absurd HA.out (by simp [utf8_ValidRune.j0])
  | succ kj1 =>
   have H := HA.out
   clear HA
   simp only [utf8_ValidRune.j0] at H
   by_cases c4 : x3_1 = true
   ·subst c4
    have H1 : (some true) = some r := by rw [if_pos rfl] at H;exact H
    clear H
    have H := H1
    clear H1
    obtain rfl := Option.some.inj H
    go_wp2
    go_ret
    exact ⟨by first | rfl | (simp;done) | (simp [*];done),by repeat (first | exact Drawn0.refl _ | apply Drawn0.step)⟩
   ·replace c4 := Bool.eq_false_iff.mpr c4
    subst c4
    have H1 : (if 57343 < a0 then (if a0 ≤ 1114111 then (some true) else (some false)) else (some false)) = some r := by rw [if_neg (show ¬ (false = true) by decide)] at H;exact H
    clear H
    have H := H1
    clear H1
    by_cases c5 : 57343 < a0
    ·rw [if_pos c5] at H
     have c5b0 : decide (57343 < a0) = true := decide_eq_true c5
     clear c5
     by_cases c6 : a0 ≤ 1114111
     ·rw [if_pos c6] at H
      have c6b0 : decide (a0 ≤ 1114111) = true := decide_eq_true c6
      clear c6
      obtain rfl := Option.some.inj H
      go_wp2
      go_ret
      exact ⟨by first | rfl | (simp;done) | (simp [*];done),by repeat (first | exact Drawn0.refl _ | apply Drawn0.step)⟩
     ·rw [if_neg c6] at H
      have c6b0 : decide (a0 ≤ 1114111) = false := decide_eq_false c6
      clear c6
      obtain rfl := Option.some.inj H
      go_wp2
      go_ret
      exact ⟨by first | rfl | (simp;done) | (simp [*];done),by repeat (first | exact Drawn0.refl _ | apply Drawn0.step)⟩
    ·rw [if_neg c5] at H
     have c5b0 : decide (57343 < a0) = false := decide_eq_false c5
     clear c5
     obtain rfl := Option.some.inj H
     go_wp2
     go_ret
     exact ⟨by first | rfl | (simp;done) | (simp [*];done),by repeat (first | exact Drawn0.refl _ | apply Drawn0.step)⟩
def utf8_appendRuneNonASCII.j0 : Nat → List Int → Int → Int → Bool → Option (List Int)
 | 0,_,_,_,_ => none
 | k + 1,x0,x1,x5,x25 => if x25 = true then ((some (([Go.bits .or .u8 224 ((x1 / 4096) % 256),128 + ((x1 / 64) % 64),128 + (x1 % 64)] : List Int) : List Int)).bind fun y418 => (if x0.length + y418.length < 140737488355328 then (some (x0 ++ y418)) else (none))) else (if x5 > 65535 then (if x5 ≤ 1114111 then ((some (([Go.bits .or .u8 240 ((x1 / 262144) % 256),128 + ((x1 / 4096) % 64),128 + ((x1 / 64) % 64),128 + (x1 % 64)] : List Int) : List Int)).bind fun y424 => (if x0.length + y424.length < 140737488355328 then (some (x0 ++ y424)) else (none))) else ((some (([239,191,189] : List Int) : List Int)).bind fun y430 => (if x0.length + y430.length < 140737488355328 then (some (x0 ++ y430)) else (none)))) else ((some (([239,191,189] : List Int) : List Int)).bind fun y436 => (if x0.length + y436.length < 140737488355328 then (some (x0 ++ y436)) else (none))))
def utf8_appendRuneNonASCII.f (k : Nat) (l0 : List Int) (a1 : Int) : Option (List Int) := if ((a1) % 4294967296) ≤ 2047 then ((some (([Go.bits .or .u8 192 ((a1 / 64) % 256),128 + (a1 % 64)] : List Int) : List Int)).bind fun y412 => (if l0.length + y412.length < 140737488355328 then (some (l0 ++ y412)) else (none))) else (if ((a1) % 4294967296) < 55296 then (utf8_appendRuneNonASCII.j0 k l0 a1 ((a1) % 4294967296) (decide (((a1) % 4294967296) < 55296))) else (if 57343 < ((a1) % 4294967296) then (utf8_appendRuneNonASCII.j0 k l0 a1 ((a1) % 4294967296) (decide (((a1) % 4294967296) ≤ 65535))) else (utf8_appendRuneNonASCII.j0 k l0 a1 ((a1) % 4294967296) false)))
set_option maxHeartbeats 8000000 in
set_option maxRecDepth 100000 in
theorem utf8_appendRuneNonASCII.calls (k : Nat) (P0_ : Nat → Prop) (u9000_ : Value) (l0 : List Int) (a1 : Int) (r : List Int) (w0 w : World) (hB : Below w0.heap.size w0 w) (ho0 : Kd.R (Kd.int .u8) 5 w w0.heap.size P0_ u9000_ l0) (h : utf8_appendRuneNonASCII.f k l0 a1 = some r) :
  Calls Tryd.prog 73 #[u9000_,.int .i32 a1] w fun e w' => ∃ v0_ : Value,e = .returned (v0_) ∧ Kd.R (Kd.int .u8) 5 w' w0.heap.size (fun k_ => (P0_ k_ ∨ w.heap.size ≤ k_)) v0_ r ∧ Below w0.heap.size w0 w' ∧ Kept w w' (fun k_ => P0_ k_) := by
 have HO0 := Aside0.mk (show Kd.R (Kd.int .u8) 5 w w0.heap.size (fun k_ => (P0_ k_ ∨ w.heap.size ≤ k_)) u9000_ l0 from Kd.R_mono ho0 (fun k_ hk => (.inl hk)))
 have HK := Aside0.mk (Kept.refl w (fun k_ => P0_ k_))
 have HW0 := Aside0.mk hB.size
 have HB := Aside0.mk hB
 clear hB
 have H : (if ((a1) % 4294967296) ≤ 2047 then ((some (([Go.bits .or .u8 192 ((a1 / 64) % 256),128 + (a1 % 64)] : List Int) : List Int)).bind fun y412 => (if l0.length + y412.length < 140737488355328 then (some (l0 ++ y412)) else (none))) else (if ((a1) % 4294967296) < 55296 then (utf8_appendRuneNonASCII.j0 k l0 a1 ((a1) % 4294967296) (decide (((a1) % 4294967296) < 55296))) else (if 57343 < ((a1) % 4294967296) then (utf8_appendRuneNonASCII.j0 k l0 a1 ((a1) % 4294967296) (decide (((a1) % 4294967296) ≤ 65535))) else (utf8_appendRuneNonASCII.j0 k l0 a1 ((a1) % 4294967296) false)))) = some r := h
 clear h
 by_cases c3 : ((a1) % 4294967296) ≤ 2047
 ·rw [if_pos c3] at H
  have c3b0 : decide (((a1) % 4294967296) ≤ 2047) = true := decide_eq_true c3
  clear c3
  obtain ⟨y412,hy412⟩ : ∃ y_ : List Int,y_ = (([Go.bits .or .u8 192 ((a1 / 64) % 256),128 + (a1 % 64)] : List Int)) := ⟨_,rfl⟩
  replace H : (if l0.length + y412.length < 140737488355328 then (some (l0 ++ y412)) else (none)) = some r := by first | (rw [hy412];with_reducible exact H) | (have H2_ := (Option.bind_some _ _).symm.trans H;rw [hy412];with_reducible exact H2_) | (have H2_ := (Option.bind_some _ _).symm.trans H;with_reducible exact H2_) | with_reducible exact H | (rw [hy412];exact H) | exact H
  have Ny412 := Aside0.mk hy412
  clear hy412
  by_cases c4 : l0.length + y412.length < 140737488355328
  ·rw [if_pos c4] at H
   have LMc4 := Aside0.mk c4
   clear c4
   obtain ⟨y415,hy415⟩ : ∃ y_ : List Int,y_ = (l0 ++ y412) := ⟨_,rfl⟩
   replace H : (some y415) = some r := by first | (rw [hy415];with_reducible exact H) | (have H2_ := (Option.bind_some _ _).symm.trans H;rw [hy415];with_reducible exact H2_) | (have H2_ := (Option.bind_some _ _).symm.trans H;with_reducible exact H2_) | with_reducible exact H | (rw [hy415];exact H) | exact H
   have Ny415 := Aside0.mk hy415
   clear hy415
   obtain rfl := Option.some.inj H
   go_enter Tryd.func73,Tryd.ntmps73
   go_wp2_with (first | ((with_reducible refine gate_dst (N := 23) rfl ?_);refine Kd.R_lit (Kd.int .u8) _ 5 ?hg (N := 23) ?hd (xs := ([Go.bits .or .u8 192 ((a1 / 64) % 256),128 + (a1 % 64)] : List Int)) (inner := [.int .u8 (Go.bits .or .u8 192 ((a1 / 64) % 256)),.int .u8 (128 + (a1 % 64))]) (ok := fun _ => True) (okp := fun _ => True) ?hr ?hp (fun _ hk => hk) trivial (Below.refl _ _) (Nat.le_refl _) (by simp) ?_;(case hd => rfl);(case hg => rfl);(case hr => first | (go_simp;done) | (go_simp;rfl));(case hp => exact (Reps.one (show Kd.M (Kd.int .u8) _ _ _ (Go.bits .or .u8 192 ((a1 / 64) % 256)) [.int .u8 (Go.bits .or .u8 192 ((a1 / 64) % 256))] from rfl) (Reps.one (show Kd.M (Kd.int .u8) _ _ _ (128 + (a1 % 64)) [.int .u8 (128 + (a1 % 64))] from rfl) (Reps.none _ _))));intro v413 w5 ho6 hb hg_ hnew_;clear hg_ hnew_;(first | rw [← Ny412.out] at ho6 | (simp only [Int.reduceToNat] at ho6;rw [← Ny412.out] at ho6));have n0_ := Aside0.mk (Kd.R_elder' (by (with_reducible repeat (first | apply Kd.R_alloc | apply Kd.R_drewN | apply Kd.R_drew));exact HO0.out) (Kd.R_base ho6) hb);have n1_ := Aside0.mk (Kd.R_lower (Kd.R_new' (Kd.R_newM (M := fun k_ => (P0_ k_ ∨ w.heap.size ≤ k_)) ho6 au5 (fun k_ h_ => .inr h_)) (Kd.R_lt (by (with_reducible repeat (first | apply Kd.R_alloc | apply Kd.R_drewN | apply Kd.R_drew));exact HO0.out))) (below_size au0));have n2_ := Aside0.mk (Kept.below (S := (fun k_ => P0_ k_)) au8 hb);have n3_ := Aside0.mk (below_step au0 hb);clear HO0;clear HK;clear HB;have HO0 := n0_;have HO414 := n1_;have HK := n2_;have HB := n3_;clear n0_ n1_ n2_ n3_;clear hb ho6;obtain ⟨Ao8,co8,eo8⟩ := Kd.R_slice HO414.out;subst eo8) | ((with_reducible refine gate_builtin (b := .append) (xs := #[.tmp 14,.tmp 23]) rfl ?_);at_builtin;refine Kd.R_append_rows (Kd.int .u8) (w0 := w0) w0.heap.size rfl (.tmp 14) (.tmp 23) 66 5 (.int .u8 0) 1 rfl Tryd.underlying66 info5 rfl (by decide) (by omega) u9000_ l0 y412 _ _ _ (fun k_ => (P0_ k_ ∨ w.heap.size ≤ k_) ∧ some k_ ≠ (.slice Ao8 y412.length co8 : Value).ownBlock) (fun _ => False) rfl rfl ?aO ?aR (fun _ _ h => h) (fun _ h => h.elim) ?aF ?aB ?aS ?aL ?_;(case aR => repeat (first | exact (Kd.R_reads' HO414.out).2.2 | (with_reducible refine Kd.C_alloc ?_ _) | (with_reducible refine Kd.C_drewN ?_ _) | (with_reducible refine Kd.C_drew ?_)));(case aB => exact au0);(case aF => exact (fun k_ hk => ⟨(.inr (Nat.le_trans au5 hk)),Kd.fresh' (Kd.R_lt (by (with_reducible repeat (first | apply Kd.R_alloc | apply Kd.R_drewN | apply Kd.R_drew));exact HO414.out)) k_ hk⟩));(case aO => exact (by (with_reducible repeat (first | apply Kd.R_alloc | apply Kd.R_drewN | apply Kd.R_drew));exact HO0.out));(case aS => exact (below_size au0));(case aL => have := LMc4.out;omega);intro v416 w7 ho hb hg hat;rw [← Ny415.out] at ho;have n0_ := Aside0.mk (Kd.R_after (ok := (fun k_ => (P0_ k_ ∨ w.heap.size ≤ k_))) (by (with_reducible repeat (first | apply Kd.R_alloc | apply Kd.R_drewN | apply Kd.R_drew));exact Kd.R_mono HO414.out (fun _ hk => ⟨hk.1.1,hk.2⟩)) hg hat);have n1_ := Aside0.mk (hb);have n2_ := Aside0.mk (Kept.of_grown (S := (fun k_ => P0_ k_)) hg au8 (fun k_ e_ => (HO0.out.1 k_ e_).1));have n3_ := Aside0.mk (ho);clear HO414;clear HB;clear HK;clear HO0;have HO414 := n0_;have HB := n1_;have HK := n2_;have HO417 := n3_;clear n0_ n1_ n2_ n3_;clear ho hb hg hat))
   go_ret
   exact ⟨_,by first | rfl | (simp [errW_none,errW_some] <;> rfl) | (simp [*,errW_none,errW_some] <;> rfl),by (with_reducible repeat (first | apply Kd.R_alloc | apply Kd.R_drewN | apply Kd.R_drew));exact Kd.R_mono HO417.out (fun _ hk => hk.1),by repeat (first | (with_reducible first | exact HB.out | apply below_alloc | apply pw_below_drewN | apply below_drew1) | exact HB.out),by repeat (first | (with_reducible first | exact HK.out | apply Kept.alloc | apply Kept.drewN | apply Kept.drew) | exact HK.out)⟩
  ·rw [if_neg c4] at H
   exact absurd H (by simp)
 ·rw [if_neg c3] at H
  have c3b0 : decide (((a1) % 4294967296) ≤ 2047) = false := decide_eq_false c3
  clear c3
  have HC9 := Aside0.mk H
  clear H
  go_enter Tryd.func73,Tryd.ntmps73
  go_upto_if 25 with (fail)
  go_cut [25] (fun v25 wc => ∃ (kq : Nat) (x25_8 : Bool),v25 = .bool x25_8 ∧ Aside0 (utf8_appendRuneNonASCII.j0 kq l0 a1 ((a1) % 4294967296) x25_8 = some r) ∧ Aside0 (kq ≤ k) ∧ Aside0 (Kd.R (Kd.int .u8) 5 wc w0.heap.size (fun k_ => (P0_ k_ ∨ w.heap.size ≤ k_)) u9000_ l0) ∧ Aside0 (Kept w wc (fun k_ => P0_ k_)) ∧ Aside0 (Below w0.heap.size w0 wc))
  case first =>
   have H := HC9.out
   clear HC9
   by_cases c10 : ((a1) % 4294967296) < 55296
   ·rw [if_pos c10] at H
    have c10b0 : decide (((a1) % 4294967296) < 55296) = true := decide_eq_true c10
    clear c10
    (first | rw [c10b0] | (simp only [i64_w,i32_w];rw [c10b0]) | skip)
    have H' := Aside0.mk H
    clear H
    go_wp2
    go_meet
    case rel => exact ⟨_,(decide (((a1) % 4294967296) < 55296)),au3,H',⟨by first | omega | exact Nat.le_refl _⟩,⟨by (with_reducible repeat (first | apply Kd.R_alloc | apply Kd.R_drewN | apply Kd.R_drew));exact HO0.out⟩,⟨by repeat (first | (with_reducible first | exact HK.out | apply Kept.alloc | apply Kept.drewN | apply Kept.drew) | exact HK.out)⟩,⟨au0⟩⟩
   ·rw [if_neg c10] at H
    have c10b0 : decide (((a1) % 4294967296) < 55296) = false := decide_eq_false c10
    clear c10
    (first | rw [c10b0] | (simp only [i64_w,i32_w];rw [c10b0]) | skip)
    by_cases c11 : 57343 < ((a1) % 4294967296)
    ·rw [if_pos c11] at H
     have c11b0 : decide (57343 < ((a1) % 4294967296)) = true := decide_eq_true c11
     clear c11
     have H' := Aside0.mk H
     clear H
     go_wp2
     go_meet
     case rel => exact ⟨_,(decide (((a1) % 4294967296) ≤ 65535)),au3,H',⟨by first | omega | exact Nat.le_refl _⟩,⟨by (with_reducible repeat (first | apply Kd.R_alloc | apply Kd.R_drewN | apply Kd.R_drew));exact HO0.out⟩,⟨by repeat (first | (with_reducible first | exact HK.out | apply Kept.alloc | apply Kept.drewN | apply Kept.drew) | exact HK.out)⟩,⟨au0⟩⟩
    ·rw [if_neg c11] at H
     have c11b0 : decide (57343 < ((a1) % 4294967296)) = false := decide_eq_false c11
     clear c11
     have H' := Aside0.mk H
     clear H
     go_wp2
     go_meet
     case rel => exact ⟨_,(false),au3,H',⟨by first | omega | exact Nat.le_refl _⟩,⟨by (with_reducible repeat (first | apply Kd.R_alloc | apply Kd.R_drewN | apply Kd.R_drew));exact HO0.out⟩,⟨by repeat (first | (with_reducible first | exact HK.out | apply Kept.alloc | apply Kept.drewN | apply Kept.drew) | exact HK.out)⟩,⟨au0⟩⟩
  case rest =>
   clear HC9
   try clear c1
   try clear p2
   try clear c3
   try clear c3b0
   try clear c4
   try clear c7
   try clear c10
   try clear c10b0
   try clear c11
   try clear c11b0
   obtain ⟨kq,x25_8,rfl,HA,HJ8,HO_0,HK,HB⟩ := hcut
   cases kq with
   | zero => exact absurd HA.out (by simp [utf8_appendRuneNonASCII.j0])
   | succ kj8 =>
    have H := HA.out
    clear HA
    simp only [utf8_appendRuneNonASCII.j0] at H
    by_cases c12 : x25_8 = true
    ·subst c12
     have H1 : ((some (([Go.bits .or .u8 224 ((a1 / 4096) % 256),128 + ((a1 / 64) % 64),128 + (a1 % 64)] : List Int) : List Int)).bind fun y418 => (if l0.length + y418.length < 140737488355328 then (some (l0 ++ y418)) else (none))) = some r := by rw [if_pos rfl] at H;exact H
     clear H
     have H := H1
     clear H1
     obtain ⟨y418,hy418⟩ : ∃ y_ : List Int,y_ = (([Go.bits .or .u8 224 ((a1 / 4096) % 256),128 + ((a1 / 64) % 64),128 + (a1 % 64)] : List Int)) := ⟨_,rfl⟩
     replace H : (if l0.length + y418.length < 140737488355328 then (some (l0 ++ y418)) else (none)) = some r := by first | (rw [hy418];with_reducible exact H) | (have H2_ := (Option.bind_some _ _).symm.trans H;rw [hy418];with_reducible exact H2_) | (have H2_ := (Option.bind_some _ _).symm.trans H;with_reducible exact H2_) | with_reducible exact H | (rw [hy418];exact H) | exact H
     have Ny418 := Aside0.mk hy418
     clear hy418
     by_cases c13 : l0.length + y418.length < 140737488355328
     ·rw [if_pos c13] at H
      have LMc13 := Aside0.mk c13
      clear c13
      obtain ⟨y421,hy421⟩ : ∃ y_ : List Int,y_ = (l0 ++ y418) := ⟨_,rfl⟩
      replace H : (some y421) = some r := by first | (rw [hy421];with_reducible exact H) | (have H2_ := (Option.bind_some _ _).symm.trans H;rw [hy421];with_reducible exact H2_) | (have H2_ := (Option.bind_some _ _).symm.trans H;with_reducible exact H2_) | with_reducible exact H | (rw [hy421];exact H) | exact H
      have Ny421 := Aside0.mk hy421
      clear hy421
      obtain rfl := Option.some.inj H
      go_wp2_with (first | ((with_reducible refine gate_dst (N := 48) rfl ?_);refine Kd.R_lit (Kd.int .u8) _ 5 ?hg (N := 48) ?hd (xs := ([Go.bits .or .u8 224 ((a1 / 4096) % 256),128 + ((a1 / 64) % 64),128 + (a1 % 64)] : List Int)) (inner := [.int .u8 (Go.bits .or .u8 224 ((a1 / 4096) % 256)),.int .u8 (128 + ((a1 / 64) % 64)),.int .u8 (128 + (a1 % 64))]) (ok := fun _ => True) (okp := fun _ => True) ?hr ?hp (fun _ hk => hk) trivial (Below.refl _ _) (Nat.le_refl _) (by simp) ?_;(case hd => rfl);(case hg => rfl);(case hr => first | (go_simp;done) | (go_simp;rfl));(case hp => exact (Reps.one (show Kd.M (Kd.int .u8) _ _ _ (Go.bits .or .u8 224 ((a1 / 4096) % 256)) [.int .u8 (Go.bits .or .u8 224 ((a1 / 4096) % 256))] from rfl) (Reps.one (show Kd.M (Kd.int .u8) _ _ _ (128 + ((a1 / 64) % 64)) [.int .u8 (128 + ((a1 / 64) % 64))] from rfl) (Reps.one (show Kd.M (Kd.int .u8) _ _ _ (128 + (a1 % 64)) [.int .u8 (128 + (a1 % 64))] from rfl) (Reps.none _ _)))));intro v419 w14 ho15 hb hg_ hnew_;clear hg_ hnew_;(first | rw [← Ny418.out] at ho15 | (simp only [Int.reduceToNat] at ho15;rw [← Ny418.out] at ho15));have n0_ := Aside0.mk (Kd.R_elder' au10 (Kd.R_base ho15) hb);have n1_ := Aside0.mk (Kd.R_lower (Kd.R_new' (Kd.R_newM (M := fun k_ => (P0_ k_ ∨ w.heap.size ≤ k_)) ho15 au5 (fun k_ h_ => .inr h_)) (Kd.R_lt au10)) (below_size au0));have n2_ := Aside0.mk (Kept.below (S := (fun k_ => P0_ k_)) au8 hb);have n3_ := Aside0.mk (below_step au0 hb);clear HO_0;clear HK;clear HB;have HO_0 := n0_;have HO420 := n1_;have HK := n2_;have HB := n3_;clear n0_ n1_ n2_ n3_;clear hb ho15;obtain ⟨Ao17,co17,eo17⟩ := Kd.R_slice HO420.out;subst eo17) | ((with_reducible refine gate_builtin (b := .append) (xs := #[.tmp 34,.tmp 48]) rfl ?_);at_builtin;refine Kd.R_append_rows (Kd.int .u8) (w0 := w0) w0.heap.size rfl (.tmp 34) (.tmp 48) 66 5 (.int .u8 0) 1 rfl Tryd.underlying66 info5 rfl (by decide) (by omega) u9000_ l0 y418 _ _ _ (fun k_ => (P0_ k_ ∨ w.heap.size ≤ k_) ∧ some k_ ≠ (.slice Ao17 y418.length co17 : Value).ownBlock) (fun _ => False) rfl rfl ?aO ?aR (fun _ _ h => h) (fun _ h => h.elim) ?aF ?aB ?aS ?aL ?_;(case aR => repeat (first | exact (Kd.R_reads' HO420.out).2.2 | (with_reducible refine Kd.C_alloc ?_ _) | (with_reducible refine Kd.C_drewN ?_ _) | (with_reducible refine Kd.C_drew ?_)));(case aB => exact au0);(case aF => exact (fun k_ hk => ⟨(.inr (Nat.le_trans au5 hk)),Kd.fresh' (Kd.R_lt (by (with_reducible repeat (first | apply Kd.R_alloc | apply Kd.R_drewN | apply Kd.R_drew));exact HO420.out)) k_ hk⟩));(case aO => exact au10);(case aS => exact (below_size au0));(case aL => have := LMc13.out;omega);intro v422 w16 ho hb hg hat;rw [← Ny421.out] at ho;have n0_ := Aside0.mk (Kd.R_after (ok := (fun k_ => (P0_ k_ ∨ w.heap.size ≤ k_))) (by (with_reducible repeat (first | apply Kd.R_alloc | apply Kd.R_drewN | apply Kd.R_drew));exact Kd.R_mono HO420.out (fun _ hk => ⟨hk.1.1,hk.2⟩)) hg hat);have n1_ := Aside0.mk (hb);have n2_ := Aside0.mk (Kept.of_grown (S := (fun k_ => P0_ k_)) hg au8 (fun k_ e_ => (HO_0.out.1 k_ e_).1));have n3_ := Aside0.mk (ho);clear HO420;clear HB;clear HK;clear HO_0;have HO420 := n0_;have HB := n1_;have HK := n2_;have HO423 := n3_;clear n0_ n1_ n2_ n3_;clear ho hb hg hat))
      go_ret
      exact ⟨_,by first | rfl | (simp [errW_none,errW_some] <;> rfl) | (simp [*,errW_none,errW_some] <;> rfl),by (with_reducible repeat (first | apply Kd.R_alloc | apply Kd.R_drewN | apply Kd.R_drew));exact Kd.R_mono HO423.out (fun _ hk => hk.1),by repeat (first | (with_reducible first | exact HB.out | apply below_alloc | apply pw_below_drewN | apply below_drew1) | exact HB.out),by repeat (first | (with_reducible first | exact HK.out | apply Kept.alloc | apply Kept.drewN | apply Kept.drew) | exact HK.out)⟩
     ·rw [if_neg c13] at H
      exact absurd H (by simp)
    ·replace c12 := Bool.eq_false_iff.mpr c12
     subst c12
     have H1 : (if ((a1) % 4294967296) > 65535 then (if ((a1) % 4294967296) ≤ 1114111 then ((some (([Go.bits .or .u8 240 ((a1 / 262144) % 256),128 + ((a1 / 4096) % 64),128 + ((a1 / 64) % 64),128 + (a1 % 64)] : List Int) : List Int)).bind fun y424 => (if l0.length + y424.length < 140737488355328 then (some (l0 ++ y424)) else (none))) else ((some (([239,191,189] : List Int) : List Int)).bind fun y430 => (if l0.length + y430.length < 140737488355328 then (some (l0 ++ y430)) else (none)))) else ((some (([239,191,189] : List Int) : List Int)).bind fun y436 => (if l0.length + y436.length < 140737488355328 then (some (l0 ++ y436)) else (none)))) = some r := by rw [if_neg (show ¬ (false = true) by decide)] at H;exact H
     clear H
     have H := H1
     clear H1
     by_cases c18 : ((a1) % 4294967296) > 65535
     ·rw [if_pos c18] at H
      have c18b0 : decide (65535 < ((a1) % 4294967296)) = true := decide_eq_true c18
      clear c18
      by_cases c19 : ((a1) % 4294967296) ≤ 1114111
      ·rw [if_pos c19] at H
       have c19b0 : decide (((a1) % 4294967296) ≤ 1114111) = true := decide_eq_true c19
       clear c19
       obtain ⟨y424,hy424⟩ : ∃ y_ : List Int,y_ = (([Go.bits .or .u8 240 ((a1 / 262144) % 256),128 + ((a1 / 4096) % 64),128 + ((a1 / 64) % 64),128 + (a1 % 64)] : List Int)) := ⟨_,rfl⟩
       replace H : (if l0.length + y424.length < 140737488355328 then (some (l0 ++ y424)) else (none)) = some r := by first | (rw [hy424];with_reducible exact H) | (have H2_ := (Option.bind_some _ _).symm.trans H;rw [hy424];with_reducible exact H2_) | (have H2_ := (Option.bind_some _ _).symm.trans H;with_reducible exact H2_) | with_reducible exact H | (rw [hy424];exact H) | exact H
       have Ny424 := Aside0.mk hy424
       clear hy424
       by_cases c20 : l0.length + y424.length < 140737488355328
       ·rw [if_pos c20] at H
        have LMc20 := Aside0.mk c20
        clear c20
        obtain ⟨y427,hy427⟩ : ∃ y_ : List Int,y_ = (l0 ++ y424) := ⟨_,rfl⟩
        replace H : (some y427) = some r := by first | (rw [hy427];with_reducible exact H) | (have H2_ := (Option.bind_some _ _).symm.trans H;rw [hy427];with_reducible exact H2_) | (have H2_ := (Option.bind_some _ _).symm.trans H;with_reducible exact H2_) | with_reducible exact H | (rw [hy427];exact H) | exact H
        have Ny427 := Aside0.mk hy427
        clear hy427
        obtain rfl := Option.some.inj H
        go_wp2_with (first | ((with_reducible refine gate_dst (N := 76) rfl ?_);refine Kd.R_lit (Kd.int .u8) _ 5 ?hg (N := 76) ?hd (xs := ([Go.bits .or .u8 240 ((a1 / 262144) % 256),128 + ((a1 / 4096) % 64),128 + ((a1 / 64) % 64),128 + (a1 % 64)] : List Int)) (inner := [.int .u8 (Go.bits .or .u8 240 ((a1 / 262144) % 256)),.int .u8 (128 + ((a1 / 4096) % 64)),.int .u8 (128 + ((a1 / 64) % 64)),.int .u8 (128 + (a1 % 64))]) (ok := fun _ => True) (okp := fun _ => True) ?hr ?hp (fun _ hk => hk) trivial (Below.refl _ _) (Nat.le_refl _) (by simp) ?_;(case hd => rfl);(case hg => rfl);(case hr => first | (go_simp;done) | (go_simp;rfl));(case hp => exact (Reps.one (show Kd.M (Kd.int .u8) _ _ _ (Go.bits .or .u8 240 ((a1 / 262144) % 256)) [.int .u8 (Go.bits .or .u8 240 ((a1 / 262144) % 256))] from rfl) (Reps.one (show Kd.M (Kd.int .u8) _ _ _ (128 + ((a1 / 4096) % 64)) [.int .u8 (128 + ((a1 / 4096) % 64))] from rfl) (Reps.one (show Kd.M (Kd.int .u8) _ _ _ (128 + ((a1 / 64) % 64)) [.int .u8 (128 + ((a1 / 64) % 64))] from rfl) (Reps.one (show Kd.M (Kd.int .u8) _ _ _ (128 + (a1 % 64)) [.int .u8 (128 + (a1 % 64))] from rfl) (Reps.none _ _))))));intro v425 w21 ho22 hb hg_ hnew_;clear hg_ hnew_;(first | rw [← Ny424.out] at ho22 | (simp only [Int.reduceToNat] at ho22;rw [← Ny424.out] at ho22));have n0_ := Aside0.mk (Kd.R_elder' au10 (Kd.R_base ho22) hb);have n1_ := Aside0.mk (Kd.R_lower (Kd.R_new' (Kd.R_newM (M := fun k_ => (P0_ k_ ∨ w.heap.size ≤ k_)) ho22 au5 (fun k_ h_ => .inr h_)) (Kd.R_lt au10)) (below_size au0));have n2_ := Aside0.mk (Kept.below (S := (fun k_ => P0_ k_)) au8 hb);have n3_ := Aside0.mk (below_step au0 hb);clear HO_0;clear HK;clear HB;have HO_0 := n0_;have HO426 := n1_;have HK := n2_;have HB := n3_;clear n0_ n1_ n2_ n3_;clear hb ho22;obtain ⟨Ao24,co24,eo24⟩ := Kd.R_slice HO426.out;subst eo24) | ((with_reducible refine gate_builtin (b := .append) (xs := #[.tmp 57,.tmp 76]) rfl ?_);at_builtin;refine Kd.R_append_rows (Kd.int .u8) (w0 := w0) w0.heap.size rfl (.tmp 57) (.tmp 76) 66 5 (.int .u8 0) 1 rfl Tryd.underlying66 info5 rfl (by decide) (by omega) u9000_ l0 y424 _ _ _ (fun k_ => (P0_ k_ ∨ w.heap.size ≤ k_) ∧ some k_ ≠ (.slice Ao24 y424.length co24 : Value).ownBlock) (fun _ => False) rfl rfl ?aO ?aR (fun _ _ h => h) (fun _ h => h.elim) ?aF ?aB ?aS ?aL ?_;(case aR => repeat (first | exact (Kd.R_reads' HO426.out).2.2 | (with_reducible refine Kd.C_alloc ?_ _) | (with_reducible refine Kd.C_drewN ?_ _) | (with_reducible refine Kd.C_drew ?_)));(case aB => exact au0);(case aF => exact (fun k_ hk => ⟨(.inr (Nat.le_trans au5 hk)),Kd.fresh' (Kd.R_lt (by (with_reducible repeat (first | apply Kd.R_alloc | apply Kd.R_drewN | apply Kd.R_drew));exact HO426.out)) k_ hk⟩));(case aO => exact au10);(case aS => exact (below_size au0));(case aL => have := LMc20.out;omega);intro v428 w23 ho hb hg hat;rw [← Ny427.out] at ho;have n0_ := Aside0.mk (Kd.R_after (ok := (fun k_ => (P0_ k_ ∨ w.heap.size ≤ k_))) (by (with_reducible repeat (first | apply Kd.R_alloc | apply Kd.R_drewN | apply Kd.R_drew));exact Kd.R_mono HO426.out (fun _ hk => ⟨hk.1.1,hk.2⟩)) hg hat);have n1_ := Aside0.mk (hb);have n2_ := Aside0.mk (Kept.of_grown (S := (fun k_ => P0_ k_)) hg au8 (fun k_ e_ => (HO_0.out.1 k_ e_).1));have n3_ := Aside0.mk (ho);clear HO426;clear HB;clear HK;clear HO_0;have HO426 := n0_;have HB := n1_;have HK := n2_;have HO429 := n3_;clear n0_ n1_ n2_ n3_;clear ho hb hg hat))
        go_ret
        exact ⟨_,by first | rfl | (simp [errW_none,errW_some] <;> rfl) | (simp [*,errW_none,errW_some] <;> rfl),by (with_reducible repeat (first | apply Kd.R_alloc | apply Kd.R_drewN | apply Kd.R_drew));exact Kd.R_mono HO429.out (fun _ hk => hk.1),by repeat (first | (with_reducible first | exact HB.out | apply below_alloc | apply pw_below_drewN | apply below_drew1) | exact HB.out),by repeat (first | (with_reducible first | exact HK.out | apply Kept.alloc | apply Kept.drewN | apply Kept.drew) | exact HK.out)⟩
       ·rw [if_neg c20] at H
        exact absurd H (by simp)
      ·rw [if_neg c19] at H
       have c19b0 : decide (((a1) % 4294967296) ≤ 1114111) = false := decide_eq_false c19
       clear c19
       obtain ⟨y430,hy430⟩ : ∃ y_ : List Int,y_ = (([239,191,189] : List Int)) := ⟨_,rfl⟩
       replace H : (if l0.length + y430.length < 140737488355328 then (some (l0 ++ y430)) else (none)) = some r := by first | (rw [hy430];with_reducible exact H) | (have H2_ := (Option.bind_some _ _).symm.trans H;rw [hy430];with_reducible exact H2_) | (have H2_ := (Option.bind_some _ _).symm.trans H;with_reducible exact H2_) | with_reducible exact H | (rw [hy430];exact H) | exact H
       have Ny430 := Aside0.mk hy430
       clear hy430
       by_cases c25 : l0.length + y430.length < 140737488355328
       ·rw [if_pos c25] at H
        have LMc25 := Aside0.mk c25
        clear c25
        obtain ⟨y433,hy433⟩ : ∃ y_ : List Int,y_ = (l0 ++ y430) := ⟨_,rfl⟩
        replace H : (some y433) = some r := by first | (rw [hy433];with_reducible exact H) | (have H2_ := (Option.bind_some _ _).symm.trans H;rw [hy433];with_reducible exact H2_) | (have H2_ := (Option.bind_some _ _).symm.trans H;with_reducible exact H2_) | with_reducible exact H | (rw [hy433];exact H) | exact H
        have Ny433 := Aside0.mk hy433
        clear hy433
        obtain rfl := Option.some.inj H
        go_wp2_with (first | ((with_reducible refine gate_dst (N := 9) rfl ?_);refine Kd.R_lit (Kd.int .u8) _ 5 ?hg (N := 9) ?hd (xs := ([239,191,189] : List Int)) (inner := [.int .u8 239,.int .u8 191,.int .u8 189]) (ok := fun _ => True) (okp := fun _ => True) ?hr ?hp (fun _ hk => hk) trivial (Below.refl _ _) (Nat.le_refl _) (by simp) ?_;(case hd => rfl);(case hg => rfl);(case hr => first | (go_simp;done) | (go_simp;rfl));(case hp => exact (Reps.one (show Kd.M (Kd.int .u8) _ _ _ 239 [.int .u8 239] from rfl) (Reps.one (show Kd.M (Kd.int .u8) _ _ _ 191 [.int .u8 191] from rfl) (Reps.one (show Kd.M (Kd.int .u8) _ _ _ 189 [.int .u8 189] from rfl) (Reps.none _ _)))));intro v431 w26 ho27 hb hg_ hnew_;clear hg_ hnew_;(first | rw [← Ny430.out] at ho27 | (simp only [Int.reduceToNat] at ho27;rw [← Ny430.out] at ho27));have n0_ := Aside0.mk (Kd.R_elder' au10 (Kd.R_base ho27) hb);have n1_ := Aside0.mk (Kd.R_lower (Kd.R_new' (Kd.R_newM (M := fun k_ => (P0_ k_ ∨ w.heap.size ≤ k_)) ho27 au5 (fun k_ h_ => .inr h_)) (Kd.R_lt au10)) (below_size au0));have n2_ := Aside0.mk (Kept.below (S := (fun k_ => P0_ k_)) au8 hb);have n3_ := Aside0.mk (below_step au0 hb);clear HO_0;clear HK;clear HB;have HO_0 := n0_;have HO432 := n1_;have HK := n2_;have HB := n3_;clear n0_ n1_ n2_ n3_;clear hb ho27;obtain ⟨Ao29,co29,eo29⟩ := Kd.R_slice HO432.out;subst eo29) | ((with_reducible refine gate_builtin (b := .append) (xs := #[.tmp 8,.tmp 9]) rfl ?_);at_builtin;refine Kd.R_append_rows (Kd.int .u8) (w0 := w0) w0.heap.size rfl (.tmp 8) (.tmp 9) 66 5 (.int .u8 0) 1 rfl Tryd.underlying66 info5 rfl (by decide) (by omega) u9000_ l0 y430 _ _ _ (fun k_ => (P0_ k_ ∨ w.heap.size ≤ k_) ∧ some k_ ≠ (.slice Ao29 y430.length co29 : Value).ownBlock) (fun _ => False) rfl rfl ?aO ?aR (fun _ _ h => h) (fun _ h => h.elim) ?aF ?aB ?aS ?aL ?_;(case aR => repeat (first | exact (Kd.R_reads' HO432.out).2.2 | (with_reducible refine Kd.C_alloc ?_ _) | (with_reducible refine Kd.C_drewN ?_ _) | (with_reducible refine Kd.C_drew ?_)));(case aB => exact au0);(case aF => exact (fun k_ hk => ⟨(.inr (Nat.le_trans au5 hk)),Kd.fresh' (Kd.R_lt (by (with_reducible repeat (first | apply Kd.R_alloc | apply Kd.R_drewN | apply Kd.R_drew));exact HO432.out)) k_ hk⟩));(case aO => exact au10);(case aS => exact (below_size au0));(case aL => have := LMc25.out;omega);intro v434 w28 ho hb hg hat;rw [← Ny433.out] at ho;have n0_ := Aside0.mk (Kd.R_after (ok := (fun k_ => (P0_ k_ ∨ w.heap.size ≤ k_))) (by (with_reducible repeat (first | apply Kd.R_alloc | apply Kd.R_drewN | apply Kd.R_drew));exact Kd.R_mono HO432.out (fun _ hk => ⟨hk.1.1,hk.2⟩)) hg hat);have n1_ := Aside0.mk (hb);have n2_ := Aside0.mk (Kept.of_grown (S := (fun k_ => P0_ k_)) hg au8 (fun k_ e_ => (HO_0.out.1 k_ e_).1));have n3_ := Aside0.mk (ho);clear HO432;clear HB;clear HK;clear HO_0;have HO432 := n0_;have HB := n1_;have HK := n2_;have HO435 := n3_;clear n0_ n1_ n2_ n3_;clear ho hb hg hat))
        go_ret
        exact ⟨_,by first | rfl | (simp [errW_none,errW_some] <;> rfl) | (simp [*,errW_none,errW_some] <;> rfl),by (with_reducible repeat (first | apply Kd.R_alloc | apply Kd.R_drewN | apply Kd.R_drew));exact Kd.R_mono HO435.out (fun _ hk => hk.1),by repeat (first | (with_reducible first | exact HB.out | apply below_alloc | apply pw_below_drewN | apply below_drew1) | exact HB.out),by repeat (first | (with_reducible first | exact HK.out | apply Kept.alloc | apply Kept.drewN | apply Kept.drew) | exact HK.out)⟩
       ·rw [if_neg c25] at H
        exact absurd H (by simp)
     ·rw [if_neg c18] at H
      have c18b0 : decide (65535 < ((a1) % 4294967296)) = false := decide_eq_false c18
      clear c18
      obtain ⟨y436,hy436⟩ : ∃ y_ : List Int,y_ = (([239,191,189] : List Int)) := ⟨_,rfl⟩
      replace H : (if l0.length + y436.length < 140737488355328 then (some (l0 ++ y436)) else (none)) = some r := by first | (rw [hy436];with_reducible exact H) | (have H2_ := (Option.bind_some _ _).symm.trans H;rw [hy436];with_reducible exact H2_) | (have H2_ := (Option.bind_some _ _).symm.trans H;with_reducible exact H2_) | with_reducible exact H | (rw [hy436];exact H) | exact H
      have Ny436 := Aside0.mk hy436
      clear hy436
      by_cases c30 : l0.length + y436.length < 140737488355328
      ·rw [if_pos c30] at H
       have LMc30 := Aside0.mk c30
       clear c30
       obtain ⟨y439,hy439⟩ : ∃ y_ : List Int,y_ = (l0 ++ y436) := ⟨_,rfl⟩
       replace H : (some y439) = some r := by first | (rw [hy439];with_reducible exact H) | (have H2_ := (Option.bind_some _ _).symm.trans H;rw [hy439];with_reducible exact H2_) | (have H2_ := (Option.bind_some _ _).symm.trans H;with_reducible exact H2_) | with_reducible exact H | (rw [hy439];exact H) | exact H
       have Ny439 := Aside0.mk hy439
       clear hy439
       obtain rfl := Option.some.inj H
       go_wp2_with (first | ((with_reducible refine gate_dst (N := 9) rfl ?_);refine Kd.R_lit (Kd.int .u8) _ 5 ?hg (N := 9) ?hd (xs := ([239,191,189] : List Int)) (inner := [.int .u8 239,.int .u8 191,.int .u8 189]) (ok := fun _ => True) (okp := fun _ => True) ?hr ?hp (fun _ hk => hk) trivial (Below.refl _ _) (Nat.le_refl _) (by simp) ?_;(case hd => rfl);(case hg => rfl);(case hr => first | (go_simp;done) | (go_simp;rfl));(case hp => exact (Reps.one (show Kd.M (Kd.int .u8) _ _ _ 239 [.int .u8 239] from rfl) (Reps.one (show Kd.M (Kd.int .u8) _ _ _ 191 [.int .u8 191] from rfl) (Reps.one (show Kd.M (Kd.int .u8) _ _ _ 189 [.int .u8 189] from rfl) (Reps.none _ _)))));intro v437 w31 ho32 hb hg_ hnew_;clear hg_ hnew_;(first | rw [← Ny436.out] at ho32 | (simp only [Int.reduceToNat] at ho32;rw [← Ny436.out] at ho32));have n0_ := Aside0.mk (Kd.R_elder' au10 (Kd.R_base ho32) hb);have n1_ := Aside0.mk (Kd.R_lower (Kd.R_new' (Kd.R_newM (M := fun k_ => (P0_ k_ ∨ w.heap.size ≤ k_)) ho32 au5 (fun k_ h_ => .inr h_)) (Kd.R_lt au10)) (below_size au0));have n2_ := Aside0.mk (Kept.below (S := (fun k_ => P0_ k_)) au8 hb);have n3_ := Aside0.mk (below_step au0 hb);clear HO_0;clear HK;clear HB;have HO_0 := n0_;have HO438 := n1_;have HK := n2_;have HB := n3_;clear n0_ n1_ n2_ n3_;clear hb ho32;obtain ⟨Ao34,co34,eo34⟩ := Kd.R_slice HO438.out;subst eo34) | ((with_reducible refine gate_builtin (b := .append) (xs := #[.tmp 8,.tmp 9]) rfl ?_);at_builtin;refine Kd.R_append_rows (Kd.int .u8) (w0 := w0) w0.heap.size rfl (.tmp 8) (.tmp 9) 66 5 (.int .u8 0) 1 rfl Tryd.underlying66 info5 rfl (by decide) (by omega) u9000_ l0 y436 _ _ _ (fun k_ => (P0_ k_ ∨ w.heap.size ≤ k_) ∧ some k_ ≠ (.slice Ao34 y436.length co34 : Value).ownBlock) (fun _ => False) rfl rfl ?aO ?aR (fun _ _ h => h) (fun _ h => h.elim) ?aF ?aB ?aS ?aL ?_;(case aR => repeat (first | exact (Kd.R_reads' HO438.out).2.2 | (with_reducible refine Kd.C_alloc ?_ _) | (with_reducible refine Kd.C_drewN ?_ _) | (with_reducible refine Kd.C_drew ?_)));(case aB => exact au0);(case aF => exact (fun k_ hk => ⟨(.inr (Nat.le_trans au5 hk)),Kd.fresh' (Kd.R_lt (by (with_reducible repeat (first | apply Kd.R_alloc | apply Kd.R_drewN | apply Kd.R_drew));exact HO438.out)) k_ hk⟩));(case aO => exact au10);(case aS => exact (below_size au0));(case aL => have := LMc30.out;omega);intro v440 w33 ho hb hg hat;rw [← Ny439.out] at ho;have n0_ := Aside0.mk (Kd.R_after (ok := (fun k_ => (P0_ k_ ∨ w.heap.size ≤ k_))) (by (with_reducible repeat (first | apply Kd.R_alloc | apply Kd.R_drewN | apply Kd.R_drew));exact Kd.R_mono HO438.out (fun _ hk => ⟨hk.1.1,hk.2⟩)) hg hat);have n1_ := Aside0.mk (hb);have n2_ := Aside0.mk (Kept.of_grown (S := (fun k_ => P0_ k_)) hg au8 (fun k_ e_ => (HO_0.out.1 k_ e_).1));have n3_ := Aside0.mk (ho);clear HO438;clear HB;clear HK;clear HO_0;have HO438 := n0_;have HB := n1_;have HK := n2_;have HO441 := n3_;clear n0_ n1_ n2_ n3_;clear ho hb hg hat))
       go_ret
       exact ⟨_,by first | rfl | (simp [errW_none,errW_some] <;> rfl) | (simp [*,errW_none,errW_some] <;> rfl),by (with_reducible repeat (first | apply Kd.R_alloc | apply Kd.R_drewN | apply Kd.R_drew));exact Kd.R_mono HO441.out (fun _ hk => hk.1),by repeat (first | (with_reducible first | exact HB.out | apply below_alloc | apply pw_below_drewN | apply below_drew1) | exact HB.out),by repeat (first | (with_reducible first | exact HK.out | apply Kept.alloc | apply Kept.drewN | apply Kept.drew) | exact HK.out)⟩
      ·rw [if_neg c30] at H
       exact absurd H (by simp)
def utf8_AppendRune.f (k : Nat) (l0 : List Int) (a1 : Int) : Option (List Int) := if ((a1) % 4294967296) ≤ 127 then (if l0.length < 140737488355328 then (some (l0 ++ [(a1) % 256])) else (none)) else ((utf8_appendRuneNonASCII.f k l0 a1).bind fun t445 => (some t445))
set_option maxHeartbeats 8000000 in
set_option maxRecDepth 100000 in
theorem utf8_AppendRune.calls (k : Nat) (P0_ : Nat → Prop) (u9000_ : Value) (l0 : List Int) (a1 : Int) (r : List Int) (w0 w : World) (hB : Below w0.heap.size w0 w) (ho0 : Kd.R (Kd.int .u8) 5 w w0.heap.size P0_ u9000_ l0) (h : utf8_AppendRune.f k l0 a1 = some r) :
  Calls Tryd.prog 53 #[u9000_,.int .i32 a1] w fun e w' => ∃ v0_ : Value,e = .returned (v0_) ∧ Kd.R (Kd.int .u8) 5 w' w0.heap.size (fun k_ => (P0_ k_ ∨ w.heap.size ≤ k_)) v0_ r ∧ Below w0.heap.size w0 w' ∧ Kept w w' (fun k_ => P0_ k_) := by
 have HO0 := Aside0.mk (show Kd.R (Kd.int .u8) 5 w w0.heap.size (fun k_ => (P0_ k_ ∨ w.heap.size ≤ k_)) u9000_ l0 from Kd.R_mono ho0 (fun k_ hk => (.inl hk)))
 have HK := Aside0.mk (Kept.refl w (fun k_ => P0_ k_))
 have HW0 := Aside0.mk hB.size
 have HB := Aside0.mk hB
 clear hB
 have H : (if ((a1) % 4294967296) ≤ 127 then (if l0.length < 140737488355328 then (some (l0 ++ [(a1) % 256])) else (none)) else ((utf8_appendRuneNonASCII.f k l0 a1).bind fun t445 => (some t445))) = some r := h
 clear h
 by_cases c3 : ((a1) % 4294967296) ≤ 127
 ·rw [if_pos c3] at H
  have c3b0 : decide (((a1) % 4294967296) ≤ 127) = true := decide_eq_true c3
  clear c3
  by_cases c4 : l0.length < 140737488355328
  ·rw [if_pos c4] at H
   have LMc4 := Aside0.mk c4
   clear c4
   obtain ⟨y442,hy442⟩ : ∃ y_ : List Int,y_ = (l0 ++ [(a1) % 256]) := ⟨_,rfl⟩
   replace H : (some y442) = some r := by first | (rw [hy442];with_reducible exact H) | (have H2_ := (Option.bind_some _ _).symm.trans H;rw [hy442];with_reducible exact H2_) | (have H2_ := (Option.bind_some _ _).symm.trans H;with_reducible exact H2_) | with_reducible exact H | (rw [hy442];exact H) | exact H
   have Ny442 := Aside0.mk hy442
   clear hy442
   obtain rfl := Option.some.inj H
   go_enter Tryd.func53,Tryd.ntmps53
   go_wp2_with (first | ((with_reducible refine gate_builtin (b := .append) (xs := #[.tmp 8,.tmp 11]) rfl ?_);at_builtin;refine Kd.R_append (Kd.int .u8) (w0 := w0) w0.heap.size rfl (.tmp 8) (.tmp 11) 66 5 (.int .u8 0) 1 rfl Tryd.underlying66 info5 rfl (by decide) (by omega) u9000_ l0 ((a1) % 256) [.int .u8 ((a1) % 256)] (fun k_ => (P0_ k_ ∨ w.heap.size ≤ k_)) (fun _ => False) rfl rfl ?aP (fun _ hk => hk.elim) ?aF ?aO ?aB ?aS ?aL ?_;(case aP => exact rfl);(case aB => exact au0);(case aF => exact (fun k_ hk => (.inr (Nat.le_trans au5 hk))));(case aO => exact (by (with_reducible repeat (first | apply Kd.R_alloc | apply Kd.R_drewN | apply Kd.R_drew));exact HO0.out));(case aS => exact (below_size au0));(case aL => have := LMc4.out;omega);intro v443 w5 ho hb hg hat;rw [← Ny442.out] at ho;have n0_ := Aside0.mk (hb);have n1_ := Aside0.mk (Kept.of_grown (S := (fun k_ => P0_ k_)) hg au8 (fun k_ e_ => (HO0.out.1 k_ e_)));have n2_ := Aside0.mk (ho);clear HB;clear HK;clear HO0;have HB := n0_;have HK := n1_;have HO444 := n2_;clear n0_ n1_ n2_;clear ho hb hg hat))
   go_ret
   exact ⟨_,by first | rfl | (simp [errW_none,errW_some] <;> rfl) | (simp [*,errW_none,errW_some] <;> rfl),by (with_reducible repeat (first | apply Kd.R_alloc | apply Kd.R_drewN | apply Kd.R_drew));exact HO444.out,by repeat (first | (with_reducible first | exact HB.out | apply below_alloc | apply pw_below_drewN | apply below_drew1) | exact HB.out),by repeat (first | (with_reducible first | exact HK.out | apply Kept.alloc | apply Kept.drewN | apply Kept.drew) | exact HK.out)⟩
  ·rw [if_neg c4] at H
   exact absurd H (by simp)
 ·rw [if_neg c3] at H
  have c3b0 : decide (((a1) % 4294967296) ≤ 127) = false := decide_eq_false c3
  clear c3
  replace H := Option.bind_eq_some_iff.mp H
  obtain ⟨t445,A60,H⟩ := H
  replace H : (some t445) = some r := H
  have A6 := Aside0.mk A60
  clear A60
  obtain rfl := Option.some.inj H
  obtain ⟨Ao7,co7,eo7⟩ := Kd.R_slice HO0.out
  subst eo7
  go_enter Tryd.func53,Tryd.ntmps53
  go_wp2_with (first | ((with_reducible refine gate_callee (f := 73) rfl ?_);refine goesL_ (some 15) rfl rfl Tryd.func73 (by kernel_rfl) rfl #[.slice Ao7 l0.length co7,.int .i32 a1] rfl au1 ?_;(with_reducible refine (utf8_appendRuneNonASCII.calls k (fun k_ => some k_ = (.slice Ao7 l0.length co7 : Value).ownBlock) (.slice Ao7 l0.length co7) l0 a1 t445 w0 _ ?side1 ?side2 A6.out).mono ?_);(case side1 => repeat (first | (with_reducible first | exact HB.out | apply below_alloc | apply pw_below_drewN | apply below_drew1) | exact HB.out));(case side2 => exact Kd.R_tight rfl HO0.out);rintro e w8 ⟨v446,rfl,ho0,hb,hkp⟩;refine ⟨_,rfl,?_⟩;have n0_ := Aside0.mk (Kd.R_mono (ok' := fun k_ => (P0_ k_ ∨ w.heap.size ≤ k_)) ho0 (fun k_ hk_ => Or.elim hk_ (fun hs_ => (HO0.out.1 k_ (hs_).symm)) (fun hn_ => (.inr (Nat.le_trans au5 hn_)))));have n1_ := Aside0.mk (Kept.then_ (S := (fun k_ => P0_ k_)) au8 hkp (fun k_ hs_ => (fun e_ => (HO0.out.1 k_ e_.symm)) hs_));have n2_ := Aside0.mk (hb);clear HK;clear HB;clear HO0;have HO447 := n0_;have HK := n1_;have HB := n2_;clear n0_ n1_ n2_;(try clear hb);(try clear hkp);(try clear ho0)))
  go_ret
  exact ⟨_,by first | rfl | (simp [errW_none,errW_some] <;> rfl) | (simp [*,errW_none,errW_some] <;> rfl),by (with_reducible repeat (first | apply Kd.R_alloc | apply Kd.R_drewN | apply Kd.R_drew));exact HO447.out,by repeat (first | (with_reducible first | exact HB.out | apply below_alloc | apply pw_below_drewN | apply below_drew1) | exact HB.out),by repeat (first | (with_reducible first | exact HK.out | apply Kept.alloc | apply Kept.drewN | apply Kept.drew) | exact HK.out)⟩
end Go.Proofs.YtkficbgnjpekaaaDoor.U
end
section
namespace Go.Proofs.YtkficbgnjpekaaaDoor.U
open Go.RowKit Go.Proofs.YtkficbgnjpekaaaDoorW.PrintWords Go.Proofs.YtkficbgnjpekaaaDoorW.PrintLast Go.Proofs.YtkficbgnjpekaaaDoorW.PrintMore
attribute [local go_sem] max2_int min2_int max_two min_two max_three min_three max_four min_four   -- for this text's walks alone
set_option linter.unusedVariables false
set_option linter.unusedSimpArgs false
def unit_Encode.l0 : Nat → List Int → List Int → Int → Int → Option (ByteArray)
 | 0,_,_,_,_ => none
 | k + 1,x3,x6,x7,x8 => if x8 < x7 then (if 0 ≤ x8 then (if x8 < (x6.length : Int) then ((utf8_ValidRune.f k (rd x6 x8)).bind fun t449 => (if t449 = true then ((utf8_AppendRune.f k x3 (rd x6 x8)).bind fun t450 => (unit_Encode.l0 k t450 x6 x7 (wrap64 (x8 + 1)))) else (unit_Encode.l0 k x3 x6 x7 (wrap64 (x8 + 1))))) else (none)) else (none)) else (some (strOfNums x3))
def unit_Encode.f (k : Nat) (l0 : List Int) : Option (ByteArray) := unit_Encode.l0 k ([] : List Int) l0 (l0.length : Int) 0
set_option maxHeartbeats 8000000 in
set_option maxRecDepth 100000 in
theorem unit_Encode.calls (k : Nat) (A0 : Option Addr) (c0 : Nat) (l0 : List Int) (r : ByteArray) (w : World) (hr0 : Kd.C (Kd.int .i32) w A0 l0.length l0) (hc0 : l0.length ≤ c0) (h : unit_Encode.f k l0 = some r) :
  Calls Tryd.prog 29 #[.slice A0 l0.length c0] w fun e w' => e = .returned (.string r) ∧ Below w.heap.size w w' := by
 have HR0 := Aside0.mk hr0
 have HC0 := Aside0.mk hc0
 clear hr0 hc0
 have HB := Aside0.mk (Below.refl w.heap.size w)
 have H : (unit_Encode.l0 k ([] : List Int) l0 (l0.length : Int) 0) = some r := h
 clear h
 have H' := Aside0.mk H
 clear H
 go_enter Tryd.func29,Tryd.ntmps29
 go_wp2
 go_loopg [3,8] k (fun kq v3 v8 w' => ∃ (x3_1 : List Int) (x8_1 : Int),v8 = .int .i64 x8_1 ∧ Aside0 (unit_Encode.l0 kq x3_1 l0 (l0.length : Int) x8_1 = some r) ∧ Aside0 (kq ≤ k) ∧ Aside0 (Kd.R (Kd.int .u8) 5 w' w.heap.size (fun _ => True) v3 x3_1) ∧ Aside0 (Below w.heap.size w w'))
 case atStart => exact ⟨(([] : List Int)),(0),au3,H',⟨Nat.le_refl _⟩,⟨by first | exact Kd.R_nil _ _ _ _ _ | exact Kd.N_nil _ _ _ _ _ | exact Kd.V_nil _ _ _ _ _ | exact Kd.Q_nil _ _ _ _ _ | exact Kd.S_nil _ _ _ _ _⟩,⟨au0⟩⟩
 case round =>
  clear H'
  obtain ⟨x3_1,x8_1,rfl,HA,HK1,HO_3,HB⟩ := hrel
  cases gk with
  | zero => exact absurd HA.out (by simp [unit_Encode.l0])
  | succ k1 =>
   have H := HA.out
   clear HA
   simp only [unit_Encode.l0] at H
   by_cases c2 : x8_1 < (l0.length : Int)
   ·rw [if_pos c2] at H
    have c2b0 : decide (x8_1 < (l0.length : Int)) = true := decide_eq_true c2
    clear c2
    by_cases c3 : 0 ≤ x8_1
    ·rw [if_pos c3] at H
     have c3b0 : decide (0 ≤ x8_1) = true := decide_eq_true c3
     clear c3
     by_cases c4 : x8_1 < (l0.length : Int)
     ·rw [if_pos c4] at H
      have c4b0 : decide (x8_1 < (l0.length : Int)) = true := decide_eq_true c4
      clear c4
      replace H := Option.bind_eq_some_iff.mp H
      obtain ⟨t449,A50,H⟩ := H
      replace H : (if t449 = true then ((utf8_AppendRune.f k1 x3_1 (rd l0 x8_1)).bind fun t450 => (unit_Encode.l0 k1 t450 l0 (l0.length : Int) (wrap64 (x8_1 + 1)))) else (unit_Encode.l0 k1 x3_1 l0 (l0.length : Int) (wrap64 (x8_1 + 1)))) = some r := H
      have A5 := Aside0.mk A50
      clear A50
      by_cases c6 : t449 = true
      ·subst c6
       have H1 : ((utf8_AppendRune.f k1 x3_1 (rd l0 x8_1)).bind fun t450 => (unit_Encode.l0 k1 t450 l0 (l0.length : Int) (wrap64 (x8_1 + 1)))) = some r := by rw [if_pos rfl] at H;exact H
       clear H
       have H := H1
       clear H1
       replace H := Option.bind_eq_some_iff.mp H
       obtain ⟨t450,A70,H⟩ := H
       replace H : (unit_Encode.l0 k1 t450 l0 (l0.length : Int) (wrap64 (x8_1 + 1))) = some r := H
       have A7 := Aside0.mk A70
       clear A70
       have H' := Aside0.mk H
       clear H
       have p448 : 0 ≤ (x8_1 : Int) := of_decide_eq_true au11
       have q448 : x8_1 < (l0.length : Int) := of_decide_eq_true au11
       obtain ⟨ad448,e448,hx448_0⟩ := Kd.at_int HR0.out x8_1 p448 q448
       cases e448
       replace hx448_0 := (HB.out.cell (World.block_lt_of_cell? w _ hx448_0)).trans hx448_0
       replace p448 := eq_true p448
       replace q448 := eq_true q448
       go_wp2_with (first | ((with_reducible refine gate_callee (f := 52) rfl ?_);refine goesL_ (some 13) rfl rfl Tryd.func52 (by kernel_rfl) rfl #[.int .i32 (rd l0 x8_1)] rfl au1 ?_;(with_reducible refine (utf8_ValidRune.calls k1 (rd l0 x8_1) true _ A5.out).mono ?_);rintro e w' ⟨rfl,⟨nd,rfl⟩⟩;refine ⟨_,rfl,?_⟩;obtain ⟨Ao8,co8,eo8⟩ := Kd.R_slice HO_3.out;subst eo8) | ((with_reducible refine gate_callee (f := 53) rfl ?_);refine goesL_ (some 16) rfl rfl Tryd.func53 (by kernel_rfl) rfl #[.slice Ao8 x3_1.length co8,.int .i32 (rd l0 x8_1)] rfl au1 ?_;(with_reducible refine (utf8_AppendRune.calls k1 (fun k_ => some k_ = (.slice Ao8 x3_1.length co8 : Value).ownBlock) (.slice Ao8 x3_1.length co8) x3_1 (rd l0 x8_1) t450 w _ ?side1 ?side2 A7.out).mono ?_);(case side1 => repeat (first | (with_reducible first | exact HB.out | apply below_alloc | apply pw_below_drewN | apply below_drew1) | exact HB.out));(case side2 => exact Kd.R_tight rfl HO_3.out);rintro e w9 ⟨v451,rfl,ho0,hb,hkp⟩;refine ⟨_,rfl,?_⟩;have n0_ := Aside0.mk (Kd.R_mono (ok' := fun k_ => True) ho0 (fun k_ hk_ => trivial));have n1_ := Aside0.mk (hb);clear HB;clear HO_3;have HO452 := n0_;have HB := n1_;clear n0_ n1_;(try clear hb);(try clear hkp);(try clear ho0)))
       go_roundg k1
       case measure => have := HK1.out;omega
       case rel => exact ⟨(t450),(wrap64 (x8_1 + 1)),au3,H',⟨by have := HK1.out;omega⟩,⟨by (with_reducible repeat (first | apply Kd.R_alloc | apply Kd.R_drewN | apply Kd.R_drew));exact HO452.out⟩,⟨au0⟩⟩
      ·replace c6 := Bool.eq_false_iff.mpr c6
       subst c6
       have H1 : (unit_Encode.l0 k1 x3_1 l0 (l0.length : Int) (wrap64 (x8_1 + 1))) = some r := by rw [if_neg (show ¬ (false = true) by decide)] at H;exact H
       clear H
       have H := H1
       clear H1
       have H' := Aside0.mk H
       clear H
       have p448 : 0 ≤ (x8_1 : Int) := of_decide_eq_true au11
       have q448 : x8_1 < (l0.length : Int) := of_decide_eq_true au11
       obtain ⟨ad448,e448,hx448_0⟩ := Kd.at_int HR0.out x8_1 p448 q448
       cases e448
       replace hx448_0 := (HB.out.cell (World.block_lt_of_cell? w _ hx448_0)).trans hx448_0
       replace p448 := eq_true p448
       replace q448 := eq_true q448
       go_wp2_with (first | ((with_reducible refine gate_callee (f := 52) rfl ?_);refine goesL_ (some 13) rfl rfl Tryd.func52 (by kernel_rfl) rfl #[.int .i32 (rd l0 x8_1)] rfl au1 ?_;(with_reducible refine (utf8_ValidRune.calls k1 (rd l0 x8_1) false _ A5.out).mono ?_);rintro e w' ⟨rfl,⟨nd,rfl⟩⟩;refine ⟨_,rfl,?_⟩))
       go_roundg k1
       case measure => have := HK1.out;omega
       case rel => exact ⟨(x3_1),(wrap64 (x8_1 + 1)),au3,H',⟨by have := HK1.out;omega⟩,⟨by (with_reducible repeat (first | apply Kd.R_alloc | apply Kd.R_drewN | apply Kd.R_drew));exact HO_3.out⟩,⟨au0⟩⟩
     ·rw [if_neg c4] at H
      exact absurd H (by simp)
    ·rw [if_neg c3] at H
     exact absurd H (by simp)
   ·rw [if_neg c2] at H
    have c2b0 : decide (x8_1 < (l0.length : Int)) = false := decide_eq_false c2
    clear c2
    obtain rfl := Option.some.inj H
    have hcv10 := own_string (P := Tryd.prog) Tryd.underlying66 Tryd.underlying5 Tryd.underlying9 (Kd.own_of_R HO_3.out)
    go_wp2
    go_ret
    exact ⟨au2,au0⟩
def stringslite_HasPrefix.f (a0 : ByteArray) (a1 : ByteArray) : Option (Bool) := if (a0.size : Int) ≥ (a1.size : Int) then (if 0 ≤ (a1.size : Int) then (if (a1.size : Int) ≤ (a0.size : Int) then (some ((a0.extract 0 ((a1.size : Int) : Int).toNat).toList == a1.toList)) else (none)) else (none)) else (some false)
set_option maxHeartbeats 8000000 in
set_option maxRecDepth 100000 in
theorem stringslite_HasPrefix.calls (a0 : ByteArray) (a1 : ByteArray) (r : Bool) (w : World) (h : stringslite_HasPrefix.f a0 a1 = some r) :
  Calls Tryd.prog 88 #[.string a0,.string a1] w fun e w' => e = .returned (.bool r) ∧ Drawn0 w w' := by
 have H : (if (a0.size : Int) ≥ (a1.size : Int) then (if 0 ≤ (a1.size : Int) then (if (a1.size : Int) ≤ (a0.size : Int) then (some ((a0.extract 0 ((a1.size : Int) : Int).toNat).toList == a1.toList)) else (none)) else (none)) else (some false)) = some r := h
 clear h
 by_cases c3 : (a0.size : Int) ≥ (a1.size : Int)
 ·rw [if_pos c3] at H
  have c3b0 : decide ((a1.size : Int) ≤ (a0.size : Int)) = true := decide_eq_true c3
  have c3b1 : decide (a1.size ≤ a0.size) = true := decide_eq_true (Int.ofNat_le.mp c3)
  clear c3
  by_cases c4 : 0 ≤ (a1.size : Int)
  ·rw [if_pos c4] at H
   have c4b0 := eq_true c4
   have c4b1 : decide (0 ≤ (a1.size : Int)) = true := decide_eq_true c4
   clear c4
   by_cases c5 : (a1.size : Int) ≤ (a0.size : Int)
   ·rw [if_pos c5] at H
    have c5b0 := eq_true c5
    have c5b1 : decide ((a1.size : Int) ≤ (a0.size : Int)) = true := decide_eq_true c5
    clear c5
    obtain rfl := Option.some.inj H
    go_enter Tryd.func88,Tryd.ntmps88
    go_wp2
    go_ret
    exact ⟨by first | rfl | (simp;done) | (simp [*];done),by repeat (first | exact Drawn0.refl _ | apply Drawn0.step)⟩
   ·rw [if_neg c5] at H
    exact absurd H (by simp)
  ·rw [if_neg c4] at H
   exact absurd H (by simp)
 ·rw [if_neg c3] at H
  have c3b0 : decide ((a1.size : Int) ≤ (a0.size : Int)) = false := decide_eq_false c3
  have c3b1 : decide (a1.size ≤ a0.size) = false := decide_eq_false (fun h => c3 (Int.ofNat_le.mpr h))
  clear c3
  obtain rfl := Option.some.inj H
  go_enter Tryd.func88,Tryd.ntmps88
  go_wp2
  go_ret
  exact ⟨by first | rfl | (simp;done) | (simp [*];done),by repeat (first | exact Drawn0.refl _ | apply Drawn0.step)⟩
def strings_HasPrefix.f (a0 : ByteArray) (a1 : ByteArray) : Option (Bool) := (stringslite_HasPrefix.f a0 a1).bind fun t620 => (some t620)
set_option maxHeartbeats 8000000 in
set_option maxRecDepth 100000 in
theorem strings_HasPrefix.calls (a0 : ByteArray) (a1 : ByteArray) (r : Bool) (w : World) (h : strings_HasPrefix.f a0 a1 = some r) :
  Calls Tryd.prog 82 #[.string a0,.string a1] w fun e w' => e = .returned (.bool r) ∧ Drawn0 w w' := by
 have H : ((stringslite_HasPrefix.f a0 a1).bind fun t620 => (some t620)) = some r := h
 clear h
 replace H := Option.bind_eq_some_iff.mp H
 obtain ⟨t620,A30,H⟩ := H
 replace H : (some t620) = some r := H
 have A3 := Aside0.mk A30
 clear A30
 obtain rfl := Option.some.inj H
 go_enter Tryd.func82,Tryd.ntmps82
 go_wp2_with (first | ((with_reducible refine gate_callee (f := 88) rfl ?_);refine goesL_ (some 7) rfl rfl Tryd.func88 (by kernel_rfl) rfl #[.string a0,.string a1] rfl au1 ?_;(with_reducible refine (stringslite_HasPrefix.calls a0 a1 t620 _ A3.out).mono ?_);rintro e w' ⟨rfl,⟨nd,rfl⟩⟩;refine ⟨_,rfl,?_⟩))
 go_ret
 exact ⟨by first | rfl | (simp;done) | (simp [*];done),by repeat (first | exact Drawn0.refl _ | apply Drawn0.step)⟩
end Go.Proofs.YtkficbgnjpekaaaDoor.U
end
section
namespace Go.Proofs.YtkficbgnjpekaaaDoor.U
open Go.RowKit Go.Proofs.YtkficbgnjpekaaaDoorW.PrintWords Go.Proofs.YtkficbgnjpekaaaDoorW.PrintLast Go.Proofs.YtkficbgnjpekaaaDoorW.PrintMore
attribute [local go_sem] max2_int min2_int max_two min_two max_three min_three max_four min_four   -- for this text's walks alone
set_option linter.unusedVariables false
set_option linter.unusedSimpArgs false
def cluster_made.f (k : Nat) (a0 : ByteArray) (a1 : Int) (a2 : Int) : Option (Int × Int × Int × Int) := (unit_At.f k a0 a1).bind fun bt622 => ((width_Class.f k bt622.1).bind fun t626 => ((width_Cells.f k bt622.1).bind fun t627 => (if bt622.1 = 13 then (if 0 ≤ (wrap64 (a1 + 1)) then (if (wrap64 (a1 + 1)) ≤ (a0.size : Int) then ((strings_HasPrefix.f (a0.extract ((wrap64 (a1 + 1)) : Int).toNat a0.size) (⟨#[10]⟩ : ByteArray)).bind fun t629 => (if t629 = true then (some (a1,a2,1,0)) else (some (a1,a2,t626,t627)))) else (none)) else (none)) else (some (a1,a2,t626,t627)))))
def cluster_made.T2 : Bool × List (List Nat × List Nat) := (true,[([],[]),([],[]),([],[]),([2],[2]),([3],[3]),([],[]),([5],[5]),([6,4],[6]),([0,1,4,7],[0,1,4,7]),([],[]),([9,8,7,0,1,2,3,4,5,6,7,8,9],[8,9])])
def cluster_made.B2 : List Nat := [0,0,0,4,12,0,32,124,255,0,1023]
theorem cluster_made.tab2 : rtab .any (opsOf Tryd.f70 2) = cluster_made.T2 := by kernel_rfl
theorem cluster_made.bits2 : waitsOk cluster_made.T2.2 cluster_made.B2 = true := by kernel_rfl
set_option maxHeartbeats 8000000 in
set_option maxRecDepth 100000 in
theorem cluster_made.calls (k : Nat) (a0 : ByteArray) (a1 : Int) (a2 : Int) (r1 : Int) (r2 : Int) (r3 : Int) (r4 : Int) (w : World) (hT : Lib.Utf8Tabs 0 1 w) (h : cluster_made.f k a0 a1 a2 = some (r1,r2,r3,r4)) :
  Calls Tryd.prog 70 #[.string a0,.int .i64 a1,.int .i64 a2] w fun e w' => e = .returned (.agg #[.int .i64 r1,.int .i64 r2,.int .i64 r3,.int .i64 r4]) ∧ Below w.heap.size w w' := by
 have hu61 := Tryd.underlying61
 have hu42 := Tryd.underlying42
 have HT := Aside0.mk hT
 clear hT
 have HB := Aside0.mk (Below.refl w.heap.size w)
 have H : ((unit_At.f k a0 a1).bind fun bt622 => ((width_Class.f k bt622.1).bind fun t626 => ((width_Cells.f k bt622.1).bind fun t627 => (if bt622.1 = 13 then (if 0 ≤ (wrap64 (a1 + 1)) then (if (wrap64 (a1 + 1)) ≤ (a0.size : Int) then ((strings_HasPrefix.f (a0.extract ((wrap64 (a1 + 1)) : Int).toNat a0.size) (⟨#[10]⟩ : ByteArray)).bind fun t629 => (if t629 = true then (some (a1,a2,1,0)) else (some (a1,a2,t626,t627)))) else (none)) else (none)) else (some (a1,a2,t626,t627)))))) = some (r1,r2,r3,r4) := h
 clear h
 replace H := Option.bind_eq_some_iff.mp H
 obtain ⟨⟨t622,t623,t624⟩,A40,H⟩ := H
 replace H : ((width_Class.f k t622).bind fun t626 => ((width_Cells.f k t622).bind fun t627 => (if t622 = 13 then (if 0 ≤ (wrap64 (a1 + 1)) then (if (wrap64 (a1 + 1)) ≤ (a0.size : Int) then ((strings_HasPrefix.f (a0.extract ((wrap64 (a1 + 1)) : Int).toNat a0.size) (⟨#[10]⟩ : ByteArray)).bind fun t629 => (if t629 = true then (some (a1,a2,1,0)) else (some (a1,a2,t626,t627)))) else (none)) else (none)) else (some (a1,a2,t626,t627))))) = some (r1,r2,r3,r4) := H
 have A4 := Aside0.mk A40
 clear A40
 replace H := Option.bind_eq_some_iff.mp H
 obtain ⟨t626,A50,H⟩ := H
 replace H : ((width_Cells.f k t622).bind fun t627 => (if t622 = 13 then (if 0 ≤ (wrap64 (a1 + 1)) then (if (wrap64 (a1 + 1)) ≤ (a0.size : Int) then ((strings_HasPrefix.f (a0.extract ((wrap64 (a1 + 1)) : Int).toNat a0.size) (⟨#[10]⟩ : ByteArray)).bind fun t629 => (if t629 = true then (some (a1,a2,1,0)) else (some (a1,a2,t626,t627)))) else (none)) else (none)) else (some (a1,a2,t626,t627)))) = some (r1,r2,r3,r4) := H
 have A5 := Aside0.mk A50
 clear A50
 replace H := Option.bind_eq_some_iff.mp H
 obtain ⟨t627,A60,H⟩ := H
 replace H : (if t622 = 13 then (if 0 ≤ (wrap64 (a1 + 1)) then (if (wrap64 (a1 + 1)) ≤ (a0.size : Int) then ((strings_HasPrefix.f (a0.extract ((wrap64 (a1 + 1)) : Int).toNat a0.size) (⟨#[10]⟩ : ByteArray)).bind fun t629 => (if t629 = true then (some (a1,a2,1,0)) else (some (a1,a2,t626,t627)))) else (none)) else (none)) else (some (a1,a2,t626,t627))) = some (r1,r2,r3,r4) := H
 have A6 := Aside0.mk A60
 clear A60
 go_enter Tryd.func70,Tryd.ntmps70
 try go_wp2_with (first | ((with_reducible refine gate_dst (N := 6) rfl ?_);refine box_event ?hg (N := 6) ?hd (cs := #[.int .i64 0,.int .i64 0,.int .i64 0,.int .i64 0]) (t := 61) ?hr ?_;(case hd => rfl);(case hg => rfl);(case hr => first | (go_simp;done) | (go_simp;rfl));intro gb621 hg w13 hbox hb;have n0_ := Aside0.mk (below_step au0 hb);have n1_ := Aside0.mk (hbox);have n2_ := Aside0.mk ((by rw [hg];exact (below_size au0) : w.heap.size ≤ gb621));have n3_ := Aside0.mk ((by rw [hg];exact (below_size au0) : w.heap.size ≤ gb621));clear HB;have HB := n0_;have BK621 := n1_;have GW621 := n2_;have GE621 := n3_;clear n0_ n1_ n2_ n3_;clear hb hbox hg) | ((with_reducible refine gate_callee (f := 36) rfl ?_);refine goesL_ (some 13) rfl rfl Tryd.func36 (by kernel_rfl) rfl #[.string a0,.int .i64 a1] rfl au1 ?_;(with_reducible refine (unit_At.calls k a0 a1 t622 t623 t624 _ ?side1 A4.out).mono ?_);(case side1 => exact tabs_below HT.out au17);rintro e w14 ⟨rfl,hb⟩;refine ⟨_,rfl,?_⟩;have n0_ := Aside0.mk (blk_below (g := gb621) (o := .cells #[.int .i64 0,.int .i64 0,.int .i64 0,.int .i64 0] 61 (0,0)) au4 hb);have n1_ := Aside0.mk (below_step au17 hb);clear BK621;clear HB;have BK621 := n0_;have HB := n1_;clear n0_ n1_;(try clear hb);(try clear hb2);(try clear hk);(try clear hi)) | ((with_reducible refine gate_dst (N := 7) rfl ?_);refine box_event ?hg (N := 7) ?hd (cs := #[.int .i32 0,.int .i64 0]) (t := 42) ?hr ?_;(case hd => rfl);(case hg => rfl);(case hr => first | (go_simp;done) | (go_simp;rfl));intro gb625 hg w15 hbox hb;have n0_ := Aside0.mk (blk_below (g := gb621) (o := .cells #[.int .i64 0,.int .i64 0,.int .i64 0,.int .i64 0] 61 (0,0)) au4 hb);have n1_ := Aside0.mk (below_step au17 hb);have n2_ := Aside0.mk (hbox);have n3_ := Aside0.mk ((by rw [hg];exact (below_size au17) : w.heap.size ≤ gb625));have n4_ := Aside0.mk ((by rw [hg];exact (below_size au17) : w.heap.size ≤ gb625));have n5_ := Aside0.mk ((by rw [hg];exact Nat.ne_of_lt (blk_lt (g := gb621) (o := .cells #[.int .i64 0,.int .i64 0,.int .i64 0,.int .i64 0] 61 (0,0)) au4) : gb621 ≠ gb625));have n6_ := Aside0.mk ((by rw [hg];exact Nat.ne_of_gt (blk_lt (g := gb621) (o := .cells #[.int .i64 0,.int .i64 0,.int .i64 0,.int .i64 0] 61 (0,0)) au4) : gb625 ≠ gb621));clear BK621;clear HB;have BK621 := n0_;have HB := n1_;have BK625 := n2_;have GW625 := n3_;have GE625 := n4_;have NB621_625 := n5_;have NB625_621 := n6_;clear n0_ n1_ n2_ n3_ n4_ n5_ n6_;clear hb hbox hg;have hnb16 := NB625_621.out;have hnc16 := NB621_625.out;have hcz17_0 : w15.cell? ⟨gb625,0,none⟩ = some (.int .i32 0) := (blk_cell BK625.out 0).trans rfl;have hcz17_1 : w15.cell? ⟨gb625,1,none⟩ = some (.int .i64 0) := (blk_cell BK625.out 1).trans rfl;have hfz17_0 := blk_frozen BK625.out 0;have hfz17_1 := blk_frozen BK625.out 1))
 have n0_ : Aside0 (((w15.setCell ⟨gb625,0,none⟩ (.int .i32 t622)).setCell ⟨gb625,1,none⟩ (.int .i64 t623)).heap[gb621]? = some (.cells #[.int .i64 0,.int .i64 0,.int .i64 0,.int .i64 0] 61 (0,0))) := ⟨by (with_reducible repeat (first | refine blk_drewN ?_ _ | refine blk_drew ?_ | refine blk_alloc ?_ _));refine blk_far ?_ NB621_625.out _;(with_reducible repeat (first | refine blk_drewN ?_ _ | refine blk_drew ?_ | refine blk_alloc ?_ _));refine blk_far ?_ NB621_625.out _;(with_reducible repeat (first | refine blk_drewN ?_ _ | refine blk_drew ?_ | refine blk_alloc ?_ _));exact BK621.out⟩
 have n1_ : Aside0 (((w15.setCell ⟨gb625,0,none⟩ (.int .i32 t622)).setCell ⟨gb625,1,none⟩ (.int .i64 t623)).heap[gb625]? = some (.cells #[.int .i32 t622,.int .i64 t623] 42 (0,0))) := ⟨by (with_reducible repeat (first | refine blk_drewN ?_ _ | refine blk_drew ?_ | refine blk_alloc ?_ _));refine blk_put (cs := #[.int .i32 t622,.int .i64 0]) ?_ 1 _ rfl;(with_reducible repeat (first | refine blk_drewN ?_ _ | refine blk_drew ?_ | refine blk_alloc ?_ _));refine blk_put (cs := #[.int .i32 0,.int .i64 0]) ?_ 0 _ rfl;(with_reducible repeat (first | refine blk_drewN ?_ _ | refine blk_drew ?_ | refine blk_alloc ?_ _));exact BK625.out⟩
 have n2_ : Aside0 (Below w.heap.size w ((w15.setCell ⟨gb625,0,none⟩ (.int .i32 t622)).setCell ⟨gb625,1,none⟩ (.int .i64 t623))) := ⟨by repeat (first | (with_reducible first | exact HB.out | apply below_alloc | apply pw_below_drewN | apply below_drew1 | refine below_set ?_ GE621.out | refine below_set ?_ GE625.out) | exact HB.out)⟩
 (try clear BK621)
 (try clear BK625)
 (try clear HB)
 generalize ((w15.setCell ⟨gb625,0,none⟩ (.int .i32 t622)).setCell ⟨gb625,1,none⟩ (.int .i64 t623)) = w18 at n0_ n1_ n2_ ⊢
 have BK621 := n0_
 have BK625 := n1_
 have HB := n2_
 clear n0_ n1_ n2_
 have n0_ := Aside0.mk (blk_drew BK621.out)
 have n1_ := Aside0.mk (blk_drew BK625.out)
 have n2_ := Aside0.mk (below_drew1 HB.out)
 clear BK621
 clear BK625
 clear HB
 have BK621 := n0_
 have BK625 := n1_
 have HB := n2_
 clear n0_ n1_ n2_
 refine start_ (n := 11) (S := fun w' => w'.cell? ⟨gb625,0,none⟩ = some (.int .i32 t622) ∧ w'.cell? ⟨gb625,1,none⟩ = some (.int .i64 t623)) (ds := []) #[false,false,false,false,false,false,false,false,false,false,false] (by kernel_rfl) rfl rfl ⟨(blk_cell BK625.out 0).trans rfl,(blk_cell BK625.out 1).trans rfl⟩ (fun hHeld => ?_);refine with_tabW cluster_made.tab2 cluster_made.bits2 (fun HT_ HW_ => ?_)
 generalize w18.drew = w19 at BK621 BK625 HB hHeld ⊢
 refine pure_ (i := 0) (N := some 16) (v := ?_) (a' := ?_) #[true,false,false,false,false,false,false,false,false,false,false] rfl rfl (any_of HT_.out (by kernel_rfl)) (fun _ _ _ h => h) (Or.inl ⟨by rfl,?_⟩) ?_ ?_
 rotate_left
 ·intro w'
  go_simp
  with_reducible rfl
 rotate_left
 ·simp only [Act.put,List.setIfInBounds_toArray,List.set_cons_zero,List.set_cons_succ,i64_w,i32_w]
  rfl
 refine pure_ (i := 1) (N := some 17) (v := ?_) (a' := ?_) #[true,true,false,false,false,false,false,false,false,false,false] rfl rfl (any_of HT_.out (by kernel_rfl)) (fun _ _ _ h => h) (Or.inl ⟨by rfl,?_⟩) ?_ ?_
 rotate_left
 ·intro w'
  go_simp
  with_reducible rfl
 rotate_left
 ·simp only [Act.put,List.setIfInBounds_toArray,List.set_cons_zero,List.set_cons_succ,i64_w,i32_w]
  rfl
 refine pure_ (i := 2) (N := some 18) (v := ?_) (a' := ?_) #[true,true,true,false,false,false,false,false,false,false,false] rfl rfl (any_of HT_.out (by kernel_rfl)) (fun _ _ _ h => h) (Or.inl ⟨by rfl,?_⟩) ?_ ?_
 rotate_left
 ·intro w'
  go_simp
  with_reducible rfl
 rotate_left
 ·simp only [Act.put,List.setIfInBounds_toArray,List.set_cons_zero,List.set_cons_succ,i64_w,i32_w]
  rfl
 refine pure_ (i := 5) (N := some 21) (v := ?_) (a' := ?_) #[true,true,true,false,false,true,false,false,false,false,false] rfl rfl (any_of HT_.out (by kernel_rfl)) (fun _ _ _ h => h) (Or.inl ⟨by rfl,?_⟩) ?_ ?_
 rotate_left
 ·intro w'
  go_simp
  with_reducible rfl
 rotate_left
 ·simp only [Act.put,List.setIfInBounds_toArray,List.set_cons_zero,List.set_cons_succ,i64_w,i32_w]
  rfl
 refine take_ (i := 3) (N := some 19) (v := ?_) (a' := ?_) #[true,true,true,true,false,true,false,false,false,false,false] rfl rfl (take_ofW HT_.out HW_.out (by kernel_rfl)) (fun _ _ _ h => h) (Or.inl ⟨by rfl,?_⟩) hHeld ?_ ?_
 rotate_left
 ·rintro w' ⟨s0,s1⟩
  go_simp
  with_reducible rfl
 rotate_left
 ·simp only [Act.put,List.setIfInBounds_toArray,List.set_cons_zero,List.set_cons_succ,i64_w,i32_w]
  rfl
 refine take_ (i := 6) (N := some 22) (v := ?_) (a' := ?_) #[true,true,true,true,false,true,true,false,false,false,false] rfl rfl (take_ofW HT_.out HW_.out (by kernel_rfl)) (fun _ _ _ h => h) (Or.inl ⟨by rfl,?_⟩) hHeld ?_ ?_
 rotate_left
 ·rintro w' ⟨s0,s1⟩
  go_simp
  with_reducible rfl
 rotate_left
 ·simp only [Act.put,List.setIfInBounds_toArray,List.set_cons_zero,List.set_cons_succ,i64_w,i32_w]
  rfl
 refine join_ (σ := Nat) 1 #[true,true,true,true,true,true,true,true,true,true,false] (fun s_ => [(20,.int .i64 t626),(23,.int .i64 t627),(9,.pointer (some ⟨s_,0,none⟩)),(24,.agg #[.int .i64 a1,.int .i64 a2,.int .i64 t626,.int .i64 t627])]) (fun s_ w' => (w'.cell? ⟨gb625,0,none⟩ = some (.int .i32 t622) ∧ w'.cell? ⟨gb625,1,none⟩ = some (.int .i64 t623)) ∧ (w'.heap[gb621]? = some (.cells #[.int .i64 0,.int .i64 0,.int .i64 0,.int .i64 0] 61 (0,0))) ∧ (w'.heap[gb625]? = some (.cells #[.int .i32 t622,.int .i64 t623] 42 (0,0))) ∧ (w'.heap[s_]? = some (.cells #[.int .i64 0,.int .i64 0,.int .i64 0,.int .i64 0] 61 (0,0))) ∧ (w.heap.size ≤ s_) ∧ (w.heap.size ≤ s_) ∧ (gb621 ≠ s_) ∧ (s_ ≠ gb621) ∧ (gb625 ≠ s_) ∧ (s_ ≠ gb625) ∧ (Below w.heap.size w w')) ?_ ?_
 rotate_left
 ·intro hCont
  refine two_ (i := 4) (j := 9) (Ni := some 20) (Nj := some 9) #[true,true,true,true,true,true,true,false,false,false,false] #[true,true,true,true,false,true,true,false,false,true,false] rfl rfl rfl rfl (two_of HT_.out (by kernel_rfl)) (by decide) (by decide) (fun K hK => ?_) (fun K hK => ?_)
  ·skip
   refine goes_ Tryd.func37 (by kernel_rfl) rfl #[.int .i32 t622] (by rfl) rfl rfl au1 ?_
   with_reducible refine (width_Class.calls k t622 t626 _ A5.out).mono ?_
   rintro e w20 ⟨rfl,hb⟩
   refine ⟨_,rfl,?_⟩
   have n0_ := Aside0.mk (blk_below (g := gb621) (o := .cells #[.int .i64 0,.int .i64 0,.int .i64 0,.int .i64 0] 61 (0,0)) au4 hb)
   have n1_ := Aside0.mk (blk_below (g := gb625) (o := .cells #[.int .i32 t622,.int .i64 t623] 42 (0,0)) au7 hb)
   have n2_ := Aside0.mk (below_step au6 hb)
   clear BK621
   clear BK625
   clear HB
   have BK621 := n0_
   have BK625 := n1_
   have HB := n2_
   clear n0_ n1_ n2_
   (try clear hb)
   (try clear hb2)
   (try clear hk)
   (try clear hi)
   refine hK.out _ _ ⟨(blk_cell BK625.out 0).trans rfl,(blk_cell BK625.out 1).trans rfl⟩ (fun hHeld => ?_)
   clear hK K
   refine norm_ (a' := ?_) ?_ ?_
   rotate_left
   ·show Act.put _ (some 20) _ = _
    simp only [Act.put,List.setIfInBounds_toArray,List.set_cons_zero,List.set_cons_succ,i64_w,i32_w]
    rfl
   refine two_ (i := 7) (j := 9) (Ni := some 23) (Nj := some 9) #[true,true,true,true,true,true,true,true,false,false,false] #[true,true,true,true,true,true,true,false,false,true,false] rfl rfl rfl rfl (two_of HT_.out (by kernel_rfl)) (by decide) (by decide) (fun K hK => ?_) (fun K hK => ?_)
   ·skip
    refine goes_ Tryd.func81 (by kernel_rfl) rfl #[.int .i32 t622] (by rfl) rfl rfl au1 ?_
    with_reducible refine (width_Cells.calls k t622 t627 _ A6.out).mono ?_
    rintro e w21 ⟨rfl,hb⟩
    refine ⟨_,rfl,?_⟩
    have n0_ := Aside0.mk (blk_below (g := gb621) (o := .cells #[.int .i64 0,.int .i64 0,.int .i64 0,.int .i64 0] 61 (0,0)) au4 hb)
    have n1_ := Aside0.mk (blk_below (g := gb625) (o := .cells #[.int .i32 t622,.int .i64 t623] 42 (0,0)) au7 hb)
    have n2_ := Aside0.mk (below_step au6 hb)
    clear BK621
    clear BK625
    clear HB
    have BK621 := n0_
    have BK625 := n1_
    have HB := n2_
    clear n0_ n1_ n2_
    (try clear hb)
    (try clear hb2)
    (try clear hk)
    (try clear hi)
    refine hK.out _ _ ⟨(blk_cell BK625.out 0).trans rfl,(blk_cell BK625.out 1).trans rfl⟩ (fun hHeld => ?_)
    clear hK K
    refine norm_ (a' := ?_) ?_ ?_
    rotate_left
    ·show Act.put _ (some 23) _ = _
     simp only [Act.put,List.setIfInBounds_toArray,List.set_cons_zero,List.set_cons_succ,i64_w,i32_w]
     rfl
    refine pure_ (i := 8) (N := some 24) (v := ?_) (a' := ?_) #[true,true,true,true,true,true,true,true,true,false,false] rfl rfl (any_of HT_.out (by kernel_rfl)) (fun _ _ _ h => h) (Or.inl ⟨by rfl,?_⟩) ?_ ?_
    rotate_left
    ·intro w'
     go_simp
     with_reducible rfl
    rotate_left
    ·simp only [Act.put,List.setIfInBounds_toArray,List.set_cons_zero,List.set_cons_succ,i64_w,i32_w]
     rfl
    refine one_ (i := 9) (N := some 9) #[true,true,true,true,true,true,true,true,true,true,false] rfl rfl (one_of HT_.out (by kernel_rfl)) (by decide) (fun K hK => ?_)
    refine box_step ?hg (N := 9) ?hd (cs := #[.int .i64 0,.int .i64 0,.int .i64 0,.int .i64 0]) (t := 61) ?hr ?_;(case hd => rfl);(case hg => rfl);(case hr => first | (go_simp;done) | (go_simp;rfl))
    intro gb628 hg w22 hbox hb
    have n0_ := Aside0.mk (blk_below (g := gb621) (o := .cells #[.int .i64 0,.int .i64 0,.int .i64 0,.int .i64 0] 61 (0,0)) au4 hb)
    have n1_ := Aside0.mk (blk_below (g := gb625) (o := .cells #[.int .i32 t622,.int .i64 t623] 42 (0,0)) au7 hb)
    have n2_ := Aside0.mk (below_step au6 hb)
    have n3_ := Aside0.mk (hbox)
    have n4_ := Aside0.mk ((by rw [hg];exact (below_size au6) : w.heap.size ≤ gb628))
    have n5_ := Aside0.mk ((by rw [hg];exact (below_size au6) : w.heap.size ≤ gb628))
    have n6_ := Aside0.mk ((by rw [hg];exact Nat.ne_of_lt (blk_lt (g := gb621) (o := .cells #[.int .i64 0,.int .i64 0,.int .i64 0,.int .i64 0] 61 (0,0)) au4) : gb621 ≠ gb628))
    have n7_ := Aside0.mk ((by rw [hg];exact Nat.ne_of_gt (blk_lt (g := gb621) (o := .cells #[.int .i64 0,.int .i64 0,.int .i64 0,.int .i64 0] 61 (0,0)) au4) : gb628 ≠ gb621))
    have n8_ := Aside0.mk ((by rw [hg];exact Nat.ne_of_lt (blk_lt (g := gb625) (o := .cells #[.int .i32 t622,.int .i64 t623] 42 (0,0)) au7) : gb625 ≠ gb628))
    have n9_ := Aside0.mk ((by rw [hg];exact Nat.ne_of_gt (blk_lt (g := gb625) (o := .cells #[.int .i32 t622,.int .i64 t623] 42 (0,0)) au7) : gb628 ≠ gb625))
    clear BK621
    clear BK625
    clear HB
    have BK621 := n0_
    have BK625 := n1_
    have HB := n2_
    have BK628 := n3_
    have GW628 := n4_
    have GE628 := n5_
    have NB621_628 := n6_
    have NB628_621 := n7_
    have NB625_628 := n8_
    have NB628_625 := n9_
    clear n0_ n1_ n2_ n3_ n4_ n5_ n6_ n7_ n8_ n9_
    clear hb hbox hg
    refine hK.out _ _ ⟨(blk_cell BK625.out 0).trans rfl,(blk_cell BK625.out 1).trans rfl⟩ (fun hHeld => ?_)
    clear hK K
    refine norm_ (a' := ?_) ?_ ?_
    rotate_left
    ·show Act.put _ (some 9) _ = _
     simp only [Act.put,List.setIfInBounds_toArray,List.set_cons_zero,List.set_cons_succ,i64_w,i32_w]
     rfl
    exact norm_ (by simp only [putAll,Act.put,List.setIfInBounds_toArray,List.set_cons_zero,List.set_cons_succ]) (hCont (gb628) _ ⟨hHeld,au4,au7,au18,GW628.out,GE628.out,NB621_628.out,NB628_621.out,NB625_628.out,NB628_625.out,au9⟩)
   ·skip
    refine box_step ?hg (N := 9) ?hd (cs := #[.int .i64 0,.int .i64 0,.int .i64 0,.int .i64 0]) (t := 61) ?hr ?_;(case hd => rfl);(case hg => rfl);(case hr => first | (go_simp;done) | (go_simp;rfl))
    intro gb628 hg w21 hbox hb
    have n0_ := Aside0.mk (blk_below (g := gb621) (o := .cells #[.int .i64 0,.int .i64 0,.int .i64 0,.int .i64 0] 61 (0,0)) au4 hb)
    have n1_ := Aside0.mk (blk_below (g := gb625) (o := .cells #[.int .i32 t622,.int .i64 t623] 42 (0,0)) au7 hb)
    have n2_ := Aside0.mk (below_step au6 hb)
    have n3_ := Aside0.mk (hbox)
    have n4_ := Aside0.mk ((by rw [hg];exact (below_size au6) : w.heap.size ≤ gb628))
    have n5_ := Aside0.mk ((by rw [hg];exact (below_size au6) : w.heap.size ≤ gb628))
    have n6_ := Aside0.mk ((by rw [hg];exact Nat.ne_of_lt (blk_lt (g := gb621) (o := .cells #[.int .i64 0,.int .i64 0,.int .i64 0,.int .i64 0] 61 (0,0)) au4) : gb621 ≠ gb628))
    have n7_ := Aside0.mk ((by rw [hg];exact Nat.ne_of_gt (blk_lt (g := gb621) (o := .cells #[.int .i64 0,.int .i64 0,.int .i64 0,.int .i64 0] 61 (0,0)) au4) : gb628 ≠ gb621))
    have n8_ := Aside0.mk ((by rw [hg];exact Nat.ne_of_lt (blk_lt (g := gb625) (o := .cells #[.int .i32 t622,.int .i64 t623] 42 (0,0)) au7) : gb625 ≠ gb628))
    have n9_ := Aside0.mk ((by rw [hg];exact Nat.ne_of_gt (blk_lt (g := gb625) (o := .cells #[.int .i32 t622,.int .i64 t623] 42 (0,0)) au7) : gb628 ≠ gb625))
    clear BK621
    clear BK625
    clear HB
    have BK621 := n0_
    have BK625 := n1_
    have HB := n2_
    have BK628 := n3_
    have GW628 := n4_
    have GE628 := n5_
    have NB621_628 := n6_
    have NB628_621 := n7_
    have NB625_628 := n8_
    have NB628_625 := n9_
    clear n0_ n1_ n2_ n3_ n4_ n5_ n6_ n7_ n8_ n9_
    clear hb hbox hg
    refine hK.out _ _ ⟨(blk_cell BK625.out 0).trans rfl,(blk_cell BK625.out 1).trans rfl⟩ (fun hHeld => ?_)
    clear hK K
    refine norm_ (a' := ?_) ?_ ?_
    rotate_left
    ·show Act.put _ (some 9) _ = _
     simp only [Act.put,List.setIfInBounds_toArray,List.set_cons_zero,List.set_cons_succ,i64_w,i32_w]
     rfl
    refine one_ (i := 7) (N := some 23) #[true,true,true,true,true,true,true,true,false,true,false] rfl rfl (one_of HT_.out (by kernel_rfl)) (by decide) (fun K hK => ?_)
    refine goes_ Tryd.func81 (by kernel_rfl) rfl #[.int .i32 t622] (by rfl) rfl rfl au1 ?_
    with_reducible refine (width_Cells.calls k t622 t627 _ A6.out).mono ?_
    rintro e w22 ⟨rfl,hb⟩
    refine ⟨_,rfl,?_⟩
    have n0_ := Aside0.mk (blk_below (g := gb621) (o := .cells #[.int .i64 0,.int .i64 0,.int .i64 0,.int .i64 0] 61 (0,0)) au4 hb)
    have n1_ := Aside0.mk (blk_below (g := gb625) (o := .cells #[.int .i32 t622,.int .i64 t623] 42 (0,0)) au7 hb)
    have n2_ := Aside0.mk (blk_below (g := gb628) (o := .cells #[.int .i64 0,.int .i64 0,.int .i64 0,.int .i64 0] 61 (0,0)) au18 hb)
    have n3_ := Aside0.mk (below_step au9 hb)
    clear BK621
    clear BK625
    clear BK628
    clear HB
    have BK621 := n0_
    have BK625 := n1_
    have BK628 := n2_
    have HB := n3_
    clear n0_ n1_ n2_ n3_
    (try clear hb)
    (try clear hb2)
    (try clear hk)
    (try clear hi)
    refine hK.out _ _ ⟨(blk_cell BK625.out 0).trans rfl,(blk_cell BK625.out 1).trans rfl⟩ (fun hHeld => ?_)
    clear hK K
    refine norm_ (a' := ?_) ?_ ?_
    rotate_left
    ·show Act.put _ (some 23) _ = _
     simp only [Act.put,List.setIfInBounds_toArray,List.set_cons_zero,List.set_cons_succ,i64_w,i32_w]
     rfl
    refine pure_ (i := 8) (N := some 24) (v := ?_) (a' := ?_) #[true,true,true,true,true,true,true,true,true,true,false] rfl rfl (any_of HT_.out (by kernel_rfl)) (fun _ _ _ h => h) (Or.inl ⟨by rfl,?_⟩) ?_ ?_
    rotate_left
    ·intro w'
     go_simp
     with_reducible rfl
    rotate_left
    ·simp only [Act.put,List.setIfInBounds_toArray,List.set_cons_zero,List.set_cons_succ,i64_w,i32_w]
     rfl
    exact norm_ (by simp only [putAll,Act.put,List.setIfInBounds_toArray,List.set_cons_zero,List.set_cons_succ]) (hCont (gb628) _ ⟨hHeld,au4,au7,au18,GW628.out,GE628.out,NB621_628.out,NB628_621.out,NB625_628.out,NB628_625.out,au9⟩)
  ·skip
   refine box_step ?hg (N := 9) ?hd (cs := #[.int .i64 0,.int .i64 0,.int .i64 0,.int .i64 0]) (t := 61) ?hr ?_;(case hd => rfl);(case hg => rfl);(case hr => first | (go_simp;done) | (go_simp;rfl))
   intro gb628 hg w20 hbox hb
   have n0_ := Aside0.mk (blk_below (g := gb621) (o := .cells #[.int .i64 0,.int .i64 0,.int .i64 0,.int .i64 0] 61 (0,0)) au4 hb)
   have n1_ := Aside0.mk (blk_below (g := gb625) (o := .cells #[.int .i32 t622,.int .i64 t623] 42 (0,0)) au7 hb)
   have n2_ := Aside0.mk (below_step au6 hb)
   have n3_ := Aside0.mk (hbox)
   have n4_ := Aside0.mk ((by rw [hg];exact (below_size au6) : w.heap.size ≤ gb628))
   have n5_ := Aside0.mk ((by rw [hg];exact (below_size au6) : w.heap.size ≤ gb628))
   have n6_ := Aside0.mk ((by rw [hg];exact Nat.ne_of_lt (blk_lt (g := gb621) (o := .cells #[.int .i64 0,.int .i64 0,.int .i64 0,.int .i64 0] 61 (0,0)) au4) : gb621 ≠ gb628))
   have n7_ := Aside0.mk ((by rw [hg];exact Nat.ne_of_gt (blk_lt (g := gb621) (o := .cells #[.int .i64 0,.int .i64 0,.int .i64 0,.int .i64 0] 61 (0,0)) au4) : gb628 ≠ gb621))
   have n8_ := Aside0.mk ((by rw [hg];exact Nat.ne_of_lt (blk_lt (g := gb625) (o := .cells #[.int .i32 t622,.int .i64 t623] 42 (0,0)) au7) : gb625 ≠ gb628))
   have n9_ := Aside0.mk ((by rw [hg];exact Nat.ne_of_gt (blk_lt (g := gb625) (o := .cells #[.int .i32 t622,.int .i64 t623] 42 (0,0)) au7) : gb628 ≠ gb625))
   clear BK621
   clear BK625
   clear HB
   have BK621 := n0_
   have BK625 := n1_
   have HB := n2_
   have BK628 := n3_
   have GW628 := n4_
   have GE628 := n5_
   have NB621_628 := n6_
   have NB628_621 := n7_
   have NB625_628 := n8_
   have NB628_625 := n9_
   clear n0_ n1_ n2_ n3_ n4_ n5_ n6_ n7_ n8_ n9_
   clear hb hbox hg
   refine hK.out _ _ ⟨(blk_cell BK625.out 0).trans rfl,(blk_cell BK625.out 1).trans rfl⟩ (fun hHeld => ?_)
   clear hK K
   refine norm_ (a' := ?_) ?_ ?_
   rotate_left
   ·show Act.put _ (some 9) _ = _
    simp only [Act.put,List.setIfInBounds_toArray,List.set_cons_zero,List.set_cons_succ,i64_w,i32_w]
    rfl
   refine one_ (i := 4) (N := some 20) #[true,true,true,true,true,true,true,false,false,true,false] rfl rfl (one_of HT_.out (by kernel_rfl)) (by decide) (fun K hK => ?_)
   refine goes_ Tryd.func37 (by kernel_rfl) rfl #[.int .i32 t622] (by rfl) rfl rfl au1 ?_
   with_reducible refine (width_Class.calls k t622 t626 _ A5.out).mono ?_
   rintro e w21 ⟨rfl,hb⟩
   refine ⟨_,rfl,?_⟩
   have n0_ := Aside0.mk (blk_below (g := gb621) (o := .cells #[.int .i64 0,.int .i64 0,.int .i64 0,.int .i64 0] 61 (0,0)) au4 hb)
   have n1_ := Aside0.mk (blk_below (g := gb625) (o := .cells #[.int .i32 t622,.int .i64 t623] 42 (0,0)) au7 hb)
   have n2_ := Aside0.mk (blk_below (g := gb628) (o := .cells #[.int .i64 0,.int .i64 0,.int .i64 0,.int .i64 0] 61 (0,0)) au18 hb)
   have n3_ := Aside0.mk (below_step au9 hb)
   clear BK621
   clear BK625
   clear BK628
   clear HB
   have BK621 := n0_
   have BK625 := n1_
   have BK628 := n2_
   have HB := n3_
   clear n0_ n1_ n2_ n3_
   (try clear hb)
   (try clear hb2)
   (try clear hk)
   (try clear hi)
   refine hK.out _ _ ⟨(blk_cell BK625.out 0).trans rfl,(blk_cell BK625.out 1).trans rfl⟩ (fun hHeld => ?_)
   clear hK K
   refine norm_ (a' := ?_) ?_ ?_
   rotate_left
   ·show Act.put _ (some 20) _ = _
    simp only [Act.put,List.setIfInBounds_toArray,List.set_cons_zero,List.set_cons_succ,i64_w,i32_w]
    rfl
   refine one_ (i := 7) (N := some 23) #[true,true,true,true,true,true,true,true,false,true,false] rfl rfl (one_of HT_.out (by kernel_rfl)) (by decide) (fun K hK => ?_)
   refine goes_ Tryd.func81 (by kernel_rfl) rfl #[.int .i32 t622] (by rfl) rfl rfl au1 ?_
   with_reducible refine (width_Cells.calls k t622 t627 _ A6.out).mono ?_
   rintro e w22 ⟨rfl,hb⟩
   refine ⟨_,rfl,?_⟩
   have n0_ := Aside0.mk (blk_below (g := gb621) (o := .cells #[.int .i64 0,.int .i64 0,.int .i64 0,.int .i64 0] 61 (0,0)) au4 hb)
   have n1_ := Aside0.mk (blk_below (g := gb625) (o := .cells #[.int .i32 t622,.int .i64 t623] 42 (0,0)) au7 hb)
   have n2_ := Aside0.mk (blk_below (g := gb628) (o := .cells #[.int .i64 0,.int .i64 0,.int .i64 0,.int .i64 0] 61 (0,0)) au18 hb)
   have n3_ := Aside0.mk (below_step au9 hb)
   clear BK621
   clear BK625
   clear BK628
   clear HB
   have BK621 := n0_
   have BK625 := n1_
   have BK628 := n2_
   have HB := n3_
   clear n0_ n1_ n2_ n3_
   (try clear hb)
   (try clear hb2)
   (try clear hk)
   (try clear hi)
   refine hK.out _ _ ⟨(blk_cell BK625.out 0).trans rfl,(blk_cell BK625.out 1).trans rfl⟩ (fun hHeld => ?_)
   clear hK K
   refine norm_ (a' := ?_) ?_ ?_
   rotate_left
   ·show Act.put _ (some 23) _ = _
    simp only [Act.put,List.setIfInBounds_toArray,List.set_cons_zero,List.set_cons_succ,i64_w,i32_w]
    rfl
   refine pure_ (i := 8) (N := some 24) (v := ?_) (a' := ?_) #[true,true,true,true,true,true,true,true,true,true,false] rfl rfl (any_of HT_.out (by kernel_rfl)) (fun _ _ _ h => h) (Or.inl ⟨by rfl,?_⟩) ?_ ?_
   rotate_left
   ·intro w'
    go_simp
    with_reducible rfl
   rotate_left
   ·simp only [Act.put,List.setIfInBounds_toArray,List.set_cons_zero,List.set_cons_succ,i64_w,i32_w]
    rfl
   exact norm_ (by simp only [putAll,Act.put,List.setIfInBounds_toArray,List.set_cons_zero,List.set_cons_succ]) (hCont (gb628) _ ⟨hHeld,au4,au7,au18,GW628.out,GE628.out,NB621_628.out,NB628_621.out,NB625_628.out,NB628_625.out,au9⟩)
 rintro gb628 w23 ⟨hS_,h0_,h1_,h2_,h3_,h4_,h5_,h6_,h7_,h8_,h9_⟩
 have n0_ : Aside0 (w23.heap[gb621]? = some (.cells #[.int .i64 0,.int .i64 0,.int .i64 0,.int .i64 0] 61 (0,0))) := ⟨h0_⟩
 have n1_ : Aside0 (w23.heap[gb625]? = some (.cells #[.int .i32 t622,.int .i64 t623] 42 (0,0))) := ⟨h1_⟩
 have n2_ : Aside0 (w23.heap[gb628]? = some (.cells #[.int .i64 0,.int .i64 0,.int .i64 0,.int .i64 0] 61 (0,0))) := ⟨h2_⟩
 have n3_ : Aside0 (w.heap.size ≤ gb628) := ⟨h3_⟩
 have n4_ : Aside0 (w.heap.size ≤ gb628) := ⟨h4_⟩
 have n5_ : Aside0 (gb621 ≠ gb628) := ⟨h5_⟩
 have n6_ : Aside0 (gb628 ≠ gb621) := ⟨h6_⟩
 have n7_ : Aside0 (gb625 ≠ gb628) := ⟨h7_⟩
 have n8_ : Aside0 (gb628 ≠ gb625) := ⟨h8_⟩
 have n9_ : Aside0 (Below w.heap.size w w23) := ⟨h9_⟩
 clear BK621
 clear BK625
 clear HB
 clear h0_ h1_ h2_ h3_ h4_ h5_ h6_ h7_ h8_ h9_
 have BK621 := n0_
 have BK625 := n1_
 have BK628 := n2_
 have GW628 := n3_
 have GE628 := n4_
 have NB621_628 := n5_
 have NB628_621 := n6_
 have NB625_628 := n7_
 have NB628_625 := n8_
 have HB := n9_
 clear n0_ n1_ n2_ n3_ n4_ n5_ n6_ n7_ n8_ n9_
 have hHeld : w23.cell? ⟨gb625,0,none⟩ = some (.int .i32 t622) ∧ w23.cell? ⟨gb625,1,none⟩ = some (.int .i64 t623) := hS_
 refine norm_ (a' := ?_) ?_ ?_
 rotate_left
 ·simp only [putAll,Act.put,List.setIfInBounds_toArray,List.set_cons_zero,List.set_cons_succ]
  rfl
 refine one_ (i := 10) (N := none) #[true,true,true,true,true,true,true,true,true,true,true] rfl rfl (one_of HT_.out (by kernel_rfl)) (by decide) (fun K hK => ?_)
 have hs24 : w23.cell? ⟨gb628,0,none⟩ = some (.int .i64 0) := (blk_cell BK628.out 0).trans rfl
 have hfs24 := blk_frozen BK628.out 0
 have hns24_0 := NB621_628.out
 have hns24_1 := NB625_628.out
 have hms24_0 := NB628_621.out
 have hms24_1 := NB628_625.out
 have hs25 : w23.cell? ⟨gb628,1,none⟩ = some (.int .i64 0) := (blk_cell BK628.out 1).trans rfl
 have hfs25 := blk_frozen BK628.out 1
 have hns25_0 := NB621_628.out
 have hns25_1 := NB625_628.out
 have hms25_0 := NB628_621.out
 have hms25_1 := NB628_625.out
 have hs26 : w23.cell? ⟨gb628,2,none⟩ = some (.int .i64 0) := (blk_cell BK628.out 2).trans rfl
 have hfs26 := blk_frozen BK628.out 2
 have hns26_0 := NB621_628.out
 have hns26_1 := NB625_628.out
 have hms26_0 := NB628_621.out
 have hms26_1 := NB628_625.out
 have hs27 : w23.cell? ⟨gb628,3,none⟩ = some (.int .i64 0) := (blk_cell BK628.out 3).trans rfl
 have hfs27 := blk_frozen BK628.out 3
 have hns27_0 := NB621_628.out
 have hns27_1 := NB625_628.out
 have hms27_0 := NB628_621.out
 have hms27_1 := NB628_625.out
 refine skip_ (w1 := ?_) (by rfl) rfl ?_ ?_
 rotate_left
 ·go_simp
  rfl
 refine hK.out _ _ ⟨((cell_far (p := ⟨gb628,_,none⟩) NB625_628.out _).trans (((cell_far (p := ⟨gb628,_,none⟩) NB625_628.out _).trans (((cell_far (p := ⟨gb628,_,none⟩) NB625_628.out _).trans (((cell_far (p := ⟨gb628,_,none⟩) NB625_628.out _).trans (hHeld.1)))))))),((cell_far (p := ⟨gb628,_,none⟩) NB625_628.out _).trans (((cell_far (p := ⟨gb628,_,none⟩) NB625_628.out _).trans (((cell_far (p := ⟨gb628,_,none⟩) NB625_628.out _).trans (((cell_far (p := ⟨gb628,_,none⟩) NB625_628.out _).trans (hHeld.2))))))))⟩ (fun hHeld => ?_)
 clear hK K
 refine done_ (done_of HT_.out (by kernel_rfl)) ?_
 have m0 : ((((w23.setCell ⟨gb628,0,none⟩ (.int .i64 a1)).setCell ⟨gb628,1,none⟩ (.int .i64 a2)).setCell ⟨gb628,2,none⟩ (.int .i64 t626)).setCell ⟨gb628,3,none⟩ (.int .i64 t627)).heap[gb628]? = some (.cells #[.int .i64 a1,.int .i64 a2,.int .i64 t626,.int .i64 t627] 61 (0,0)) :=
  blk_put (cs := #[.int .i64 a1,.int .i64 a2,.int .i64 t626,.int .i64 0]) (blk_put (cs := #[.int .i64 a1,.int .i64 a2,.int .i64 0,.int .i64 0]) (blk_put (cs := #[.int .i64 a1,.int .i64 0,.int .i64 0,.int .i64 0]) (blk_put (cs := #[.int .i64 0,.int .i64 0,.int .i64 0,.int .i64 0]) BK628.out 0 _ rfl) 1 _ rfl) 2 _ rfl) 3 _ rfl
 have m1 : ((((w23.setCell ⟨gb628,0,none⟩ (.int .i64 a1)).setCell ⟨gb628,1,none⟩ (.int .i64 a2)).setCell ⟨gb628,2,none⟩ (.int .i64 t626)).setCell ⟨gb628,3,none⟩ (.int .i64 t627)).heap[gb625]? = some (.cells #[.int .i32 t622,.int .i64 t623] 42 (0,0)) :=
  blk_far (blk_far (blk_far (blk_far BK625.out NB625_628.out _) NB625_628.out _) NB625_628.out _) NB625_628.out _
 have m2 : ((((w23.setCell ⟨gb628,0,none⟩ (.int .i64 a1)).setCell ⟨gb628,1,none⟩ (.int .i64 a2)).setCell ⟨gb628,2,none⟩ (.int .i64 t626)).setCell ⟨gb628,3,none⟩ (.int .i64 t627)).heap[gb621]? = some (.cells #[.int .i64 0,.int .i64 0,.int .i64 0,.int .i64 0] 61 (0,0)) :=
  blk_far (blk_far (blk_far (blk_far BK621.out NB621_628.out _) NB621_628.out _) NB621_628.out _) NB621_628.out _
 have m3 : Below w.heap.size w ((((w23.setCell ⟨gb628,0,none⟩ (.int .i64 a1)).setCell ⟨gb628,1,none⟩ (.int .i64 a2)).setCell ⟨gb628,2,none⟩ (.int .i64 t626)).setCell ⟨gb628,3,none⟩ (.int .i64 t627)) :=
  below_set (below_set (below_set (below_set HB.out GE628.out) GE628.out) GE628.out) GE628.out
 have q1 := NB621_628.out
 have q2 := NB628_621.out
 have q3 := GE628.out
 have q4 := GE621.out
 generalize ((((w23.setCell ⟨gb628,0,none⟩ (.int .i64 a1)).setCell ⟨gb628,1,none⟩ (.int .i64 a2)).setCell ⟨gb628,2,none⟩ (.int .i64 t626)).setCell ⟨gb628,3,none⟩ (.int .i64 t627)) = W at m0 m1 m2 m3 ⊢
 (try clear HB)
 (try clear BK621)
 (try clear GW621)
 (try clear GE621)
 (try clear BK625)
 (try clear GW625)
 (try clear GE625)
 (try clear NB621_625)
 (try clear NB625_621)
 (try clear hnb16)
 (try clear hnc16)
 (try clear hcz17_0)
 (try clear hcz17_1)
 (try clear hfz17_0)
 (try clear hfz17_1)
 (try clear BK628)
 (try clear GW628)
 (try clear GE628)
 (try clear NB621_628)
 (try clear NB628_621)
 (try clear NB625_628)
 (try clear NB628_625)
 (try clear hs24)
 (try clear hfs24)
 (try clear hns24_0)
 (try clear hns24_1)
 (try clear hms24_0)
 (try clear hms24_1)
 (try clear hs25)
 (try clear hfs25)
 (try clear hns25_0)
 (try clear hns25_1)
 (try clear hms25_0)
 (try clear hms25_1)
 (try clear hs26)
 (try clear hfs26)
 (try clear hns26_0)
 (try clear hns26_1)
 (try clear hms26_0)
 (try clear hms26_1)
 (try clear hs27)
 (try clear hfs27)
 (try clear hns27_0)
 (try clear hns27_1)
 (try clear hms27_0)
 (try clear hms27_1)
 (try clear hS_)
 (try clear hHeld)
 (try clear HT_)
 (try clear HW_)
 (try clear hCont)
 have e0 : W.cell? ⟨gb625,0,none⟩ = some (.int .i32 t622) := (blk_cell m1 0).trans rfl
 have d0 : W.cell? ⟨gb628,0,none⟩ = some (.int .i64 a1) := (blk_cell m0 0).trans rfl
 have d1 : W.cell? ⟨gb628,1,none⟩ = some (.int .i64 a2) := (blk_cell m0 1).trans rfl
 have d2 : W.cell? ⟨gb628,2,none⟩ = some (.int .i64 t626) := (blk_cell m0 2).trans rfl
 have d3 : W.cell? ⟨gb628,3,none⟩ = some (.int .i64 t627) := (blk_cell m0 3).trans rfl
 have fd2 : W.frozen? ⟨gb628,2,none⟩ = false := blk_frozen m0 2
 have fd3 : W.frozen? ⟨gb628,3,none⟩ = false := blk_frozen m0 3
 have r0 : W.cell? ⟨gb621,0,none⟩ = some (.int .i64 0) := (blk_cell m2 0).trans rfl
 have r1_ : W.cell? ⟨gb621,1,none⟩ = some (.int .i64 0) := (blk_cell m2 1).trans rfl
 have r2_ : W.cell? ⟨gb621,2,none⟩ = some (.int .i64 0) := (blk_cell m2 2).trans rfl
 have r3_ : W.cell? ⟨gb621,3,none⟩ = some (.int .i64 0) := (blk_cell m2 3).trans rfl
 have fr0 : W.frozen? ⟨gb621,0,none⟩ = false := blk_frozen m2 0
 have fr1 : W.frozen? ⟨gb621,1,none⟩ = false := blk_frozen m2 1
 have fr2 : W.frozen? ⟨gb621,2,none⟩ = false := blk_frozen m2 2
 have fr3 : W.frozen? ⟨gb621,3,none⟩ = false := blk_frozen m2 3
 by_cases c7 : t622 = 13
 ·rw [if_pos c7] at H
  have c7b0 : (t622 == 13) = true := beq_iff_eq.mpr c7
  clear c7
  obtain ⟨j,hj⟩ : ∃ j_ : Int,wrap64 (a1 + 1) = j_ := ⟨_,rfl⟩
  rw [hj] at H
  have hjw : IntKind.i64.wrap (a1 + 1) = j := (i64_w _).trans hj
  clear hj
  by_cases c9 : 0 ≤ j
  ·rw [if_pos c9] at H
   have c9b0 := eq_true c9
   have c9b1 : decide (0 ≤ j) = true := decide_eq_true c9
   clear c9
   by_cases c10 : j ≤ (a0.size : Int)
   ·rw [if_pos c10] at H
    have c10b0 := eq_true c10
    have c10b1 : decide (j ≤ (a0.size : Int)) = true := decide_eq_true c10
    clear c10
    obtain ⟨b,hp,H⟩ := Option.bind_eq_some_iff.mp H
    have HP := Aside0.mk hp
    clear hp
    by_cases c12 : b = true
    ·subst c12
     rw [if_pos rfl] at H
     simp only [Option.some.injEq,Prod.mk.injEq] at H
     obtain ⟨rfl,rfl,rfl,rfl⟩ := H
     go_wp2_with (go_at_call 82;(with_reducible refine (strings_HasPrefix.calls (a0.extract (j : Int).toNat a0.size) (⟨#[10]⟩ : ByteArray) true _ HP.out).mono ?_);rintro e w' ⟨rfl,⟨nd,rfl⟩⟩)
     refine bodyPost_ret (results_cell_row rfl _ _ gb621 61 #[.int .i64 a1,.int .i64 a2,.int .i64 1,.int .i64 0] (0,0) _ rfl (blk_put (cs := #[.int .i64 a1,.int .i64 a2,.int .i64 1,.int .i64 0]) (blk_put (cs := #[.int .i64 a1,.int .i64 a2,.int .i64 0,.int .i64 0]) (blk_put (cs := #[.int .i64 a1,.int .i64 0,.int .i64 0,.int .i64 0]) (blk_put (cs := #[.int .i64 0,.int .i64 0,.int .i64 0,.int .i64 0]) (blk_far (blk_far (blk_drewN m2 nd) q1 _) q1 _) 0 _ rfl) 1 _ rfl) 2 _ rfl) 3 _ rfl) Tryd.underlying61 rfl (by kernel_rfl)) rfl ?_
     exact ⟨rfl,below_set (below_set (below_set (below_set (below_set (below_set (pw_below_drewN m3 nd) q3) q3) q4) q4) q4) q4⟩
    ·replace c12 := Bool.eq_false_iff.mpr c12
     subst c12
     rw [if_neg (by decide)] at H
     simp only [Option.some.injEq,Prod.mk.injEq] at H
     obtain ⟨rfl,rfl,rfl,rfl⟩ := H
     go_wp2_with (go_at_call 82;(with_reducible refine (strings_HasPrefix.calls (a0.extract (j : Int).toNat a0.size) (⟨#[10]⟩ : ByteArray) false _ HP.out).mono ?_);rintro e w' ⟨rfl,⟨nd,rfl⟩⟩)
     refine bodyPost_ret (results_cell_row rfl _ _ gb621 61 #[.int .i64 a1,.int .i64 a2,.int .i64 t626,.int .i64 t627] (0,0) _ rfl (blk_put (cs := #[.int .i64 a1,.int .i64 a2,.int .i64 t626,.int .i64 0]) (blk_put (cs := #[.int .i64 a1,.int .i64 a2,.int .i64 0,.int .i64 0]) (blk_put (cs := #[.int .i64 a1,.int .i64 0,.int .i64 0,.int .i64 0]) (blk_put (cs := #[.int .i64 0,.int .i64 0,.int .i64 0,.int .i64 0]) (blk_drewN m2 nd) 0 _ rfl) 1 _ rfl) 2 _ rfl) 3 _ rfl) Tryd.underlying61 rfl (by kernel_rfl)) rfl ?_
     exact ⟨rfl,below_set (below_set (below_set (below_set (pw_below_drewN m3 nd) q4) q4) q4) q4⟩
   ·rw [if_neg c10] at H;cases H
  ·rw [if_neg c9] at H;cases H
 ·rw [if_neg c7] at H
  have c7b0 : (t622 == 13) = false := by simpa using c7
  clear c7
  simp only [Option.some.injEq,Prod.mk.injEq] at H
  obtain ⟨rfl,rfl,rfl,rfl⟩ := H
  go_wp2
  refine bodyPost_ret (results_cell_row rfl _ _ gb621 61 #[.int .i64 a1,.int .i64 a2,.int .i64 t626,.int .i64 t627] (0,0) _ rfl (blk_put (cs := #[.int .i64 a1,.int .i64 a2,.int .i64 t626,.int .i64 0]) (blk_put (cs := #[.int .i64 a1,.int .i64 a2,.int .i64 0,.int .i64 0]) (blk_put (cs := #[.int .i64 a1,.int .i64 0,.int .i64 0,.int .i64 0]) (blk_put (cs := #[.int .i64 0,.int .i64 0,.int .i64 0,.int .i64 0]) m2 0 _ rfl) 1 _ rfl) 2 _ rfl) 3 _ rfl) Tryd.underlying61 rfl (by kernel_rfl)) rfl ?_
  exact ⟨rfl,below_set (below_set (below_set (below_set m3 q4) q4) q4) q4⟩
end Go.Proofs.YtkficbgnjpekaaaDoor.U
end
