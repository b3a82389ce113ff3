/- What the law ScreenFresh reaches of this seat's own texts, merged; what nothing uses is left out. -/
import Derived.Test.YtgdpnmikcopkmaaDoorZScreenFresh0
section
namespace Go.Proofs.YtgdpnmikcopkmaaDoor.U
open Go.RowKit Go.Shelf Go.Proofs.YtgdpnmikcopkmaaDoorW.PrintWords Go.Proofs.YtgdpnmikcopkmaaDoorW.PrintLast Go.Proofs.YtgdpnmikcopkmaaDoorW.PrintMore
set_option linter.unusedVariables false
set_option linter.unusedSimpArgs false
theorem reads_int_of_C {k : IntKind} {w : World} {A : Option Addr} {n : Nat} {l : List Int} (h : (Kd.int k).C w A n l) : ReadsInt w k A n l :=
 Kd.reads_of_C (enc := Value.int k) (d := (0 : Int)) (h1 := fun _ => rfl) h
set_option maxRecDepth 100000 in
set_option maxHeartbeats 2000000 in
theorem within1_calls (l : List Int) (c : Int) (A : Option Addr) (cp b0 b1 : Nat) (W : World) (i : Nat) (hi : 2 * i + 1 < l.length) (hl : l.length ≤ 100000) (h0 : W.cell? ⟨b0,0,none⟩ = some (.slice A l.length cp)) (h1 : W.cell? ⟨b1,0,none⟩ = some (.int .i32 c)) (hr : ReadsInt W .i32 A l.length l) :
  Calls Tryd.prog 105 #[.int .i64 i,.pointer (some ⟨b0,0,none⟩),.pointer (some ⟨b1,0,none⟩)] W fun e w' => e = .returned (.bool (decide (rd l (2 * i + 1) ≥ c))) ∧ ∃ q,w' = W.drewN q := by
 obtain ⟨ad,rfl,hc⟩ := hr.at_ (2 * i + 1) (by omega) (by omega)
 have e1 : (2 : Int) * (i : Int) + 1 < (l.length : Int) := by omega
 have e2 : (0 : Int) ≤ 2 * (i : Int) + 1 := by omega
 rw [show ((2 : Int) * i + 1).toNat = 2 * i + 1 by omega] at hc
 rw [show ad.add (2 * i + 1) = ⟨ad.block,ad.off + (2 * i + 1),none⟩ by simp [Addr.add]] at hc
 have hw1 : IntKind.i64.wrap (2 * (i : Int)) = 2 * (i : Int) := (i64_w _).trans (by unfold wrap64;omega)
 have hw2 : IntKind.i64.wrap (2 * (i : Int) + 1) = 2 * (i : Int) + 1 := (i64_w _).trans (by unfold wrap64;omega)
 have ht : (2 * (i : Int) + 1).toNat = 2 * i + 1 := by omega
 go_enter Tryd.func105,Tryd.ntmps105
 go_wp2_with (fail)
 go_quiet (fail)
 go_wp2
 go_ret
 exact ⟨rfl,nq,rfl⟩
set_option maxRecDepth 100000 in
set_option maxHeartbeats 4000000 in
theorem search_calls (g : Nat) (cb : Array Value) (n : Nat) (p : Nat → Bool) (w : World) (eg : ∀ args w,(callFunc g args).run Tryd.prog w = .ok (.enter g args) w) (hn : n < 1000000)
  (hf : ∀ (m i : Nat),i < n → Calls Tryd.prog g (#[.int .i64 i] ++ cb) (w.drewN m) fun e w' => e = .returned (.bool (p i)) ∧ ∃ q,w' = w.drewN q)
  (hmono : ∀ a b,a ≤ b → b < n → p a = true → p b = true) :
  Calls Tryd.prog 104 #[.int .i64 n,.func (.func g) #[] cb] w fun e w' => ∃ i : Nat,e = .returned (.int .i64 i) ∧ i ≤ n ∧ (∀ t,t < i → p t = false) ∧ (∀ t,i ≤ t → t < n → p t = true) ∧ ∃ q,w' = w.drewN q := by
 go_enter Tryd.func104,Tryd.ntmps104
 go_wp2
 go_loopw [5,6] (fun v5 v6 wr => ∃ lo hi q : Nat,v5 = .int .i64 lo ∧ v6 = .int .i64 hi ∧ lo ≤ hi ∧ hi ≤ n ∧ wr = w.drewN q ∧ Hid ((∀ t,t < lo → p t = false) ∧ (∀ t,hi ≤ t → t < n → p t = true)))
  (fun v5 v6 _ => (intOf v6).toNat - (intOf v5).toNat)
 case atStart => exact ⟨0,n,0,rfl,rfl,Nat.zero_le _,Nat.le_refl _,rfl,Lib.hid ⟨fun t h => absurd h (Nat.not_lt_zero _),fun t h1 h2 => by omega⟩⟩
 case round =>
  obtain ⟨lo,hi,q,rfl,rfl,hlh,hhn,rfl,hI⟩ := hrel
  by_cases hlt : lo < hi
  ·have hlt' : (lo : Int) < (hi : Int) := by omega
   go_wp2_with (fail)
   obtain ⟨m,hm⟩ : ∃ m : Nat,((lo : Int) + (hi : Int)) / 2 = m := ⟨(lo + hi) / 2,by omega⟩
   rw [hm]
   refine (hf q m (by omega)).mono ?_
   rintro e w1 ⟨rfl,q1,rfl⟩
   have hm64 : IntKind.i64.wrap ((m : Int) + 1) = (m : Int) + 1 := (i64_w _).trans (by unfold wrap64;omega)
   cases hp : p m
   ·have hlow : ∀ t,t < m + 1 → p t = false := by
     intro t ht
     by_cases h : t < lo
     ·exact hI.out.1 t h
     ·cases hpt : p t with
      | false => rfl
      | true => have h5 := hmono t m (by omega) (by omega) hpt;rw [hp] at h5;cases h5
    have hup := hI.out.2
    go_wp2
    go_roundw
    case rel => exact ⟨m + 1,hi,q1,by simp,rfl,by omega,hhn,rfl,Lib.hid ⟨hlow,hup⟩⟩
    case measure => simp [intOf];omega
   ·go_wp2
    go_roundw
    case rel => exact ⟨lo,m,q1,rfl,rfl,by omega,by omega,rfl,Lib.hid ⟨hI.out.1,fun t h1 h2 => hmono m t h1 h2 hp⟩⟩
    case measure => simp [intOf];omega
  ·have hge : ¬ ((lo : Int) < (hi : Int)) := by omega
   go_wp2_with (fail)
   go_ret
   obtain rfl : lo = hi := by omega
   exact ⟨lo,rfl,hhn,hI.out.1,hI.out.2,q,rfl⟩
theorem boxed_below' {X Y : World} {B : Nat} {t : TypeId} {v : Value} (h : Boxed X B t v) (hb : Below X.heap.size X Y) : Boxed Y B t v := (hb.block B h.lt).trans h
def okTab (l : List Int) : Bool := (List.range l.length).all fun b => (List.range b).all fun a => decide (rd l (a : Int) ≤ rd l (b : Int)) && (decide (a % 2 = 0) || decide (rd l (a : Int) < rd l (b : Int)))
theorem okTab_le {l : List Int} (h : okTab l = true) {a b : Nat} (hab : a < b) (hb : b < l.length) : rd l (a : Int) ≤ rd l (b : Int) ∧ (a % 2 = 1 → rd l (a : Int) < rd l (b : Int)) := by
 unfold okTab at h
 rw [List.all_eq_true] at h
 have h1 := h b (List.mem_range.2 hb)
 rw [List.all_eq_true] at h1
 have h2 := h1 a (List.mem_range.2 hab)
 simp only [Bool.and_eq_true,Bool.or_eq_true,decide_eq_true_eq] at h2
 exact ⟨h2.1,fun ho => by rcases h2.2 with h3 | h3;omega;exact h3⟩
def withinB (l : List Int) (c : Int) : Bool := (List.range (l.length / 2)).any fun k => decide (rd l (2 * (k : Int)) ≤ c) && decide (c ≤ rd l (2 * (k : Int) + 1))
theorem withinB_of {l : List Int} (h : okTab l = true) (c : Int) (i : Nat) (h2 : l.length % 2 = 0) (hi : i ≤ l.length / 2) (hlo : ∀ t,t < i → decide (rd l (2 * (t : Int) + 1) ≥ c) = false) (hup : ∀ t,i ≤ t → t < l.length / 2 → decide (rd l (2 * (t : Int) + 1) ≥ c) = true) :
  withinB l c = (decide (i < l.length / 2) && decide (rd l (2 * (i : Int)) ≤ c)) := by
 rw [Bool.eq_iff_iff]
 unfold withinB
 simp only [List.any_eq_true,List.mem_range,Bool.and_eq_true,decide_eq_true_eq]
 constructor
 ·rintro ⟨k,hk,h3,h4⟩
  have hik : i ≤ k := by
   rcases Nat.lt_or_ge k i with h5 | h5
   ·have := of_decide_eq_false (hlo k h5);omega
   ·exact h5
  rcases Nat.lt_or_ge i k with h5 | h5
  ·exfalso
   have h6 := of_decide_eq_true (hup i (Nat.le_refl _) (by omega))
   have h7 := (okTab_le h (a := 2 * i + 1) (b := 2 * k) (by omega) (by omega)).2 (by omega)
   have e1 : ((2 * i + 1 : Nat) : Int) = 2 * (i : Int) + 1 := by omega
   have e2 : ((2 * k : Nat) : Int) = 2 * (k : Int) := by omega
   rw [e1,e2] at h7
   omega
  ·obtain rfl : i = k := by omega
   exact ⟨hk,h3⟩
 ·rintro ⟨h3,h4⟩
  exact ⟨i,h3,h4,of_decide_eq_true (hup i (Nat.le_refl _) h3)⟩
set_option maxRecDepth 100000 in
set_option maxHeartbeats 4000000 in
theorem within_any (l : List Int) (c : Int) (A : Option Addr) (cp : Nat) (w : World) (hl : l.length ≤ 100000) (h2 : l.length % 2 = 0) (hok : okTab l = true) (hr : ReadsInt w .i32 A l.length l) (hcp : l.length ≤ cp) :
  Calls Tryd.prog 83 #[.slice A l.length cp,.int .i32 c] w fun e w' => e = .returned (.bool (withinB l c)) ∧ Below w.heap.size w w' := by
 have hq : Int.tdiv (l.length : Int) 2 = ((l.length / 2 : Nat) : Int) := by rw [Int.tdiv_eq_ediv_of_nonneg (by omega)];omega
 go_enter Tryd.func83,Tryd.ntmps83
 go_wp2_with (fail)
 obtain ⟨n,hn,hn2⟩ : ∃ n : Nat,((l.length : Int) / 2) = n ∧ n = l.length / 2 := ⟨l.length / 2,by omega,rfl⟩
 rw [hn]
 have b0 := (Boxed.new w 100 (.slice A l.length cp)).alloc (.cells #[.int .i32 c] 21)
 have b1 := Boxed.new (w.alloc (.cells #[.slice A l.length cp] 100)) 21 (.int .i32 c)
 rw [World.size_alloc] at b1
 have hB : Below w.heap.size w ((w.alloc (.cells #[.slice A l.length cp] 100)).alloc (.cells #[.int .i32 c] 21)) := ((Below.refl _ w).alloc (Nat.le_refl _) _).alloc (by simp) _
 generalize (w.alloc (.cells #[.slice A l.length cp] 100)).alloc (.cells #[.int .i32 c] 21) = W2 at b0 b1 hB ⊢
 have hr2 : ReadsInt W2 .i32 A l.length l := hr.below hB
 refine (search_calls 105 #[.pointer (some ⟨w.heap.size,0,none⟩),.pointer (some ⟨w.heap.size + 1,0,none⟩)] n (fun k => decide (rd l (2 * (k : Int) + 1) ≥ c)) W2 (enters_of Tryd.func105 (by kernel_rfl) rfl) (by omega)
  (fun m i hi => ?_) (fun a b hab hb hp => ?_)).mono ?_
 ·have hd : Below W2.heap.size W2 (W2.drewN m) := pw_below_drewN (Below.refl _ _) m
  refine (within1_calls l c A cp w.heap.size (w.heap.size + 1) (W2.drewN m) i (by omega) hl (boxed_below' b0 hd).cell (boxed_below' b1 hd).cell (hr2.below hd)).mono ?_
  rintro e w' ⟨rfl,q,rfl⟩
  exact ⟨rfl,m + q,by rw [World.drewN_drewN]⟩
 ·rcases Nat.lt_or_ge a b with h | h
  ·have h3 := (okTab_le hok (a := 2 * a + 1) (b := 2 * b + 1) (by omega) (by omega)).1
   have e1 : ((2 * a + 1 : Nat) : Int) = 2 * (a : Int) + 1 := by omega
   have e2 : ((2 * b + 1 : Nat) : Int) = 2 * (b : Int) + 1 := by omega
   rw [e1,e2] at h3
   have := of_decide_eq_true hp
   exact decide_eq_true (by omega)
  ·obtain rfl : a = b := by omega
   exact hp
 rintro e w' ⟨i,rfl,hin,hlo,hup,q,rfl⟩
 dsimp only
 have hw : Hid (withinB l c = (decide (i < n) && decide (rd l (2 * (i : Int)) ≤ c))) := Lib.hid (by rw [hn2];exact withinB_of hok c i h2 (by omega) hlo (fun t h3 h4 => hup t h3 (by omega)))
 have hd : Below W2.heap.size W2 (W2.drewN q) := pw_below_drewN (Below.refl _ _) q
 have b0' := boxed_below' b0 hd
 have b1' := boxed_below' b1 hd
 have hr3 := hr2.below hd
 have hB3 := hB.trans (hd.mono hB.size)
 generalize W2.drewN q = W3 at b0' b1' hr3 hB3 ⊢
 have c0 := b0'.cell
 have c1 := b1'.cell
 by_cases hi : i < n
 ·have hi' : decide ((i : Int) < (n : Int)) = true := decide_eq_true (by omega)
  obtain ⟨ad,rfl,hc⟩ := hr3.at_ (2 * i) (by omega) (by omega)
  rw [show ((2 : Int) * i).toNat = 2 * i by omega] at hc
  have hw1 : IntKind.i64.wrap (2 * (i : Int)) = 2 * (i : Int) := (i64_w _).trans (by unfold wrap64;omega)
  clear hn2 hq hin hlo hup
  go_wp2_with (fail)
  go_quiet (fail)
  go_wp2
  have hwv : withinB l c = decide (rd l (2 * (i : Int)) ≤ c) := by rw [hw.out,decide_eq_true hi,Bool.true_and]
  go_ret
  rw [hwv]
  exact ⟨rfl,pw_below_drewN hB3 nq⟩
 ·have hi' : decide ((i : Int) < (n : Int)) = false := decide_eq_false (by omega)
  clear hn2 hq hin hlo hup
  go_wp2_with (fail)
  go_quiet (fail)
  go_wp2
  have hwv : withinB l c = false := by rw [hw.out,decide_eq_false hi,Bool.false_and]
  go_ret
  rw [hwv]
  exact ⟨rfl,pw_below_drewN hB3 nq⟩
def width_within_rune.f (l0 : List Int) (a1 : Int) : Option (Bool) := if l0.length ≤ 100000 ∧ l0.length % 2 = 0 ∧ okTab l0 = true then some (withinB l0 a1) else none
theorem width_within_rune.calls (A0 : Option Addr) (c0 : Nat) (l0 : List Int) (a1 : Int) (r : Bool) (w : World) (hr0 : Kd.C (Kd.int .i32) w A0 l0.length l0) (hc0 : l0.length ≤ c0) (h : width_within_rune.f l0 a1 = some r) :
  Calls Tryd.prog 83 #[.slice A0 l0.length c0,.int .i32 a1] w fun e w' => e = .returned (.bool r) ∧ Below w.heap.size w w' := by
 unfold width_within_rune.f at h
 split at h
 ·rename_i hs
  obtain rfl := Option.some.inj h
  exact within_any l0 a1 A0 c0 w hs.1 hs.2.1 hs.2.2 (reads_int_of_C hr0) hc0
 ·cases h
end Go.Proofs.YtgdpnmikcopkmaaDoor.U
end
section
namespace Go.Proofs.YtgdpnmikcopkmaaDoor.U
open Go.RowKit Go.Proofs.YtgdpnmikcopkmaaDoorW.PrintWords Go.Proofs.YtgdpnmikcopkmaaDoorW.PrintLast Go.Proofs.YtgdpnmikcopkmaaDoorW.PrintMore
attribute [local go_sem] max2_int min2_int max_two min_two max_three min_three max_four min_four   -- for this text's walks alone
set_option linter.unusedVariables false
set_option linter.unusedSimpArgs false
mutual
def width_Class.j0 : Nat → Int → Bool → Option (Int)
 | 0,_,_ => none
 | k + 1,x0,x3 => if x3 = true then (some 5) else (if x0 = 10 then (some 1) else (if x0 < 32 then (width_Class.j1 k x0 true) else (if x0 ≥ 127 then (width_Class.j1 k x0 (decide (x0 ≤ 159))) else (width_Class.j1 k x0 false))))
def width_Class.j1 : Nat → Int → Bool → Option (Int)
 | 0,_,_ => none
 | k + 1,x0,x21 => if x21 = true then (some 2) else ((width_marks.f).bind fun t144 => ((width_within_rune.f t144 x0).bind fun t147 => (if t147 = true then (some 3) else ((width_wides.f).bind fun t148 => ((width_within_rune.f t148 x0).bind fun t151 => (if t151 = true then (some 4) else (some 0)))))))
end
def width_Class.f (k : Nat) (a0 : Int) : Option (Int) := if a0 < 0 then (width_Class.j0 k a0 true) else (if a0 > 1114111 then (width_Class.j0 k a0 true) else (if a0 ≥ 55296 then (width_Class.j0 k a0 (decide (a0 ≤ 57343))) else (width_Class.j0 k a0 false)))
set_option maxHeartbeats 8000000 in
set_option maxRecDepth 100000 in
theorem width_Class.calls (k : Nat) (a0 : Int) (r : Int) (w : World) (h : width_Class.f k a0 = some r) :
  Calls Tryd.prog 66 #[.int .i32 a0] w fun e w' => e = .returned (.int .i64 r) ∧ Below w.heap.size w w' := by
 have HB := Aside0.mk (Below.refl w.heap.size w)
 have H : (if a0 < 0 then (width_Class.j0 k a0 true) else (if a0 > 1114111 then (width_Class.j0 k a0 true) else (if a0 ≥ 55296 then (width_Class.j0 k a0 (decide (a0 ≤ 57343))) else (width_Class.j0 k a0 false)))) = some r := h
 clear h
 have HC2 := Aside0.mk H
 clear H
 go_enter Tryd.func66,Tryd.ntmps66
 go_upto_region 1 with (fail)
 go_cut [3] (fun v3 wc => ∃ (kq : Nat) (x3_1 : Bool),v3 = .bool x3_1 ∧ Aside0 (width_Class.j0 kq a0 x3_1 = some r) ∧ Aside0 (kq ≤ k) ∧ Aside0 (Below w.heap.size w wc))
 case first =>
  have H := HC2.out
  clear HC2
  by_cases c3 : a0 < 0
  ·rw [if_pos c3] at H
   have c3b0 : decide (a0 < 0) = true := decide_eq_true c3
   clear c3
   (first | rw [c3b0] | (simp only [i64_w,i32_w];rw [c3b0]) | skip)
   have H' := Aside0.mk H
   clear H
   go_wp2
   go_meet
   case rel => exact ⟨_,(true),au4,H',⟨by first | omega | exact Nat.le_refl _⟩,⟨au0⟩⟩
  ·rw [if_neg c3] at H
   have c3b0 : decide (a0 < 0) = false := decide_eq_false c3
   clear c3
   (first | rw [c3b0] | (simp only [i64_w,i32_w];rw [c3b0]) | skip)
   by_cases c4 : a0 > 1114111
   ·rw [if_pos c4] at H
    have c4b0 : decide (1114111 < a0) = true := decide_eq_true c4
    clear c4
    have H' := Aside0.mk H
    clear H
    go_wp2
    go_meet
    case rel => exact ⟨_,(true),au4,H',⟨by first | omega | exact Nat.le_refl _⟩,⟨au0⟩⟩
   ·rw [if_neg c4] at H
    have c4b0 : decide (1114111 < a0) = false := decide_eq_false c4
    clear c4
    by_cases c5 : a0 ≥ 55296
    ·rw [if_pos c5] at H
     have c5b0 : decide (55296 ≤ a0) = true := decide_eq_true c5
     clear c5
     have H' := Aside0.mk H
     clear H
     go_wp2
     go_meet
     case rel => exact ⟨_,(decide (a0 ≤ 57343)),au4,H',⟨by first | omega | exact Nat.le_refl _⟩,⟨au0⟩⟩
    ·rw [if_neg c5] at H
     have c5b0 : decide (55296 ≤ a0) = false := decide_eq_false c5
     clear c5
     have H' := Aside0.mk H
     clear H
     go_wp2
     go_meet
     case rel => exact ⟨_,(false),au4,H',⟨by first | omega | exact Nat.le_refl _⟩,⟨au0⟩⟩
 case rest =>
  clear HC2
  try clear p2
  try clear c3
  try clear c3b0
  try clear c4
  try clear c4b0
  try clear c5
  try clear c5b0
  obtain ⟨kq,x3_1,rfl,HA,HJ1,HB⟩ := hcut
  cases kq with
  | zero => exact absurd HA.out (by simp [width_Class.j0])
  | succ kj1 =>
   have H := HA.out
   clear HA
   simp only [width_Class.j0] at H
   by_cases c6 : x3_1 = true
   ·subst c6
    have H1 : (some 5) = some r := by rw [if_pos rfl] at H;exact H
    clear H
    have H := H1
    clear H1
    obtain rfl := Option.some.inj H
    go_wp2
    go_ret
    exact ⟨au2,au0⟩
   ·replace c6 := Bool.eq_false_iff.mpr c6
    subst c6
    have H1 : (if a0 = 10 then (some 1) else (if a0 < 32 then (width_Class.j1 kj1 a0 true) else (if a0 ≥ 127 then (width_Class.j1 kj1 a0 (decide (a0 ≤ 159))) else (width_Class.j1 kj1 a0 false)))) = some r := by rw [if_neg (show ¬ (false = true) by decide)] at H;exact H
    clear H
    have H := H1
    clear H1
    by_cases c7 : a0 = 10
    ·rw [if_pos c7] at H
     have c7b0 : (a0 == 10) = true := beq_iff_eq.mpr c7
     have c7b1 : (a0 != 10) = false := bne_eq_false_iff_eq.mpr c7
     clear c7
     obtain rfl := Option.some.inj H
     go_wp2
     go_ret
     exact ⟨au2,au0⟩
    ·rw [if_neg c7] at H
     have c7b0 : (a0 == 10) = false := beq_eq_false_iff_ne.mpr c7
     have c7b1 : (a0 != 10) = true := bne_iff_ne.mpr c7
     have HC8 := Aside0.mk H
     clear H
     go_upto_region 5 with (fail)
     go_cut [21] (fun v21 wc => ∃ (kq : Nat) (x21_7 : Bool),v21 = .bool x21_7 ∧ Aside0 (width_Class.j1 kq a0 x21_7 = some r) ∧ Aside0 (kq ≤ kj1) ∧ Aside0 (Below w.heap.size w wc))
     case first =>
      have H := HC8.out
      clear HC8
      by_cases c9 : a0 < 32
      ·rw [if_pos c9] at H
       have c9b0 : decide (a0 < 32) = true := decide_eq_true c9
       clear c9
       (first | rw [c9b0] | (simp only [i64_w,i32_w];rw [c9b0]) | skip)
       have H' := Aside0.mk H
       clear H
       go_wp2
       go_meet
       case rel => exact ⟨_,(true),au4,H',⟨by have := HJ1.out;first | omega | exact Nat.le_refl _⟩,⟨au0⟩⟩
      ·rw [if_neg c9] at H
       have c9b0 : decide (a0 < 32) = false := decide_eq_false c9
       clear c9
       (first | rw [c9b0] | (simp only [i64_w,i32_w];rw [c9b0]) | skip)
       by_cases c10 : a0 ≥ 127
       ·rw [if_pos c10] at H
        have c10b0 : decide (127 ≤ a0) = true := decide_eq_true c10
        clear c10
        have H' := Aside0.mk H
        clear H
        go_wp2
        go_meet
        case rel => exact ⟨_,(decide (a0 ≤ 159)),au4,H',⟨by have := HJ1.out;first | omega | exact Nat.le_refl _⟩,⟨au0⟩⟩
       ·rw [if_neg c10] at H
        have c10b0 : decide (127 ≤ a0) = false := decide_eq_false c10
        clear c10
        have H' := Aside0.mk H
        clear H
        go_wp2
        go_meet
        case rel => exact ⟨_,(false),au4,H',⟨by have := HJ1.out;first | omega | exact Nat.le_refl _⟩,⟨au0⟩⟩
     case rest =>
      clear HC8
      try clear c1
      try clear p2
      try clear c3
      try clear c3b0
      try clear c4
      try clear c4b0
      try clear c5
      try clear c5b0
      try clear c6
      try clear c7
      try clear c7b0
      try clear c7b1
      try clear c9
      try clear c9b0
      try clear c10
      try clear c10b0
      try clear p2
      obtain ⟨kq,x21_7,rfl,HA,HJ7,HB⟩ := hcut
      cases kq with
      | zero => exact absurd HA.out (by simp [width_Class.j1])
      | succ kj7 =>
       have H := HA.out
       clear HA
       simp only [width_Class.j1] at H
       by_cases c11 : x21_7 = true
       ·subst c11
        have H1 : (some 2) = some r := by rw [if_pos rfl] at H;exact H
        clear H
        have H := H1
        clear H1
        obtain rfl := Option.some.inj H
        go_wp2
        go_ret
        exact ⟨au2,au0⟩
       ·replace c11 := Bool.eq_false_iff.mpr c11
        subst c11
        have H1 : ((width_marks.f).bind fun t144 => ((width_within_rune.f t144 a0).bind fun t147 => (if t147 = true then (some 3) else ((width_wides.f).bind fun t148 => ((width_within_rune.f t148 a0).bind fun t151 => (if t151 = true then (some 4) else (some 0))))))) = some r := by rw [if_neg (show ¬ (false = true) by decide)] at H;exact H
        clear H
        have H := H1
        clear H1
        replace H := Option.bind_eq_some_iff.mp H
        obtain ⟨t144,A120,H⟩ := H
        replace H : ((width_within_rune.f t144 a0).bind fun t147 => (if t147 = true then (some 3) else ((width_wides.f).bind fun t148 => ((width_within_rune.f t148 a0).bind fun t151 => (if t151 = true then (some 4) else (some 0)))))) = some r := H
        have A12 := Aside0.mk A120
        clear A120
        replace H := Option.bind_eq_some_iff.mp H
        obtain ⟨t147,A130,H⟩ := H
        replace H : (if t147 = true then (some 3) else ((width_wides.f).bind fun t148 => ((width_within_rune.f t148 a0).bind fun t151 => (if t151 = true then (some 4) else (some 0))))) = some r := H
        have A13 := Aside0.mk A130
        clear A130
        by_cases c14 : t147 = true
        ·subst c14
         have H1 : (some 3) = some r := by rw [if_pos rfl] at H;exact H
         clear H
         have H := H1
         clear H1
         obtain rfl := Option.some.inj H
         go_wp2_with (first | ((with_reducible refine gate_callee (f := 84) rfl ?_);refine goesL_ (some 33) rfl rfl Tryd.func84 (by kernel_rfl) rfl #[] rfl au1 ?_;(with_reducible refine (width_marks.calls  t144 _ A12.out).mono ?_);rintro e w15 ⟨v145,rfl,ho0,hb⟩;refine ⟨_,rfl,?_⟩;have n0_ := Aside0.mk (Kd.R_lower ho0 (below_size au0));have n1_ := Aside0.mk (below_step au0 hb);clear HB;have HO146 := n0_;have HB := n1_;clear n0_ n1_;(try clear hb);(try clear hb2);(try clear hk);(try clear hi);(try clear ho0);obtain ⟨Ao16,co16,eo16⟩ := Kd.R_slice HO146.out;subst eo16) | ((with_reducible refine gate_callee (f := 83) rfl ?_);refine goesL_ (some 35) rfl rfl Tryd.func83 (by kernel_rfl) rfl #[.slice Ao16 t144.length co16,.int .i32 a0] rfl au1 ?_;(with_reducible refine (width_within_rune.calls _ _ t144 a0 true _ ?side1 ?side2 A13.out).mono ?_);(case side1 => repeat (first | exact (Kd.R_reads' HO146.out).2.2 | (with_reducible refine Kd.C_alloc ?_ _) | (with_reducible refine Kd.C_drewN ?_ _) | (with_reducible refine Kd.C_drew ?_)));(case side2 => exact (Kd.R_reads' HO146.out).2.1);rintro e w17 ⟨rfl,hb⟩;refine ⟨_,rfl,?_⟩;have n0_ := Aside0.mk (Kd.R_below au9 hb);have n1_ := Aside0.mk (below_step au0 hb);clear HO146;clear HB;have HO146 := n0_;have HB := n1_;clear n0_ n1_;(try clear hb);(try clear hb2);(try clear hk);(try clear hi)))
         go_ret
         exact ⟨au2,au0⟩
        ·replace c14 := Bool.eq_false_iff.mpr c14
         subst c14
         have H1 : ((width_wides.f).bind fun t148 => ((width_within_rune.f t148 a0).bind fun t151 => (if t151 = true then (some 4) else (some 0)))) = some r := by rw [if_neg (show ¬ (false = true) by decide)] at H;exact H
         clear H
         have H := H1
         clear H1
         replace H := Option.bind_eq_some_iff.mp H
         obtain ⟨t148,A180,H⟩ := H
         replace H : ((width_within_rune.f t148 a0).bind fun t151 => (if t151 = true then (some 4) else (some 0))) = some r := H
         have A18 := Aside0.mk A180
         clear A180
         replace H := Option.bind_eq_some_iff.mp H
         obtain ⟨t151,A190,H⟩ := H
         replace H : (if t151 = true then (some 4) else (some 0)) = some r := H
         have A19 := Aside0.mk A190
         clear A190
         by_cases c20 : t151 = true
         ·subst c20
          have H1 : (some 4) = some r := by rw [if_pos rfl] at H;exact H
          clear H
          have H := H1
          clear H1
          obtain rfl := Option.some.inj H
          go_wp2_with (first | ((with_reducible refine gate_callee (f := 84) rfl ?_);refine goesL_ (some 33) rfl rfl Tryd.func84 (by kernel_rfl) rfl #[] rfl au1 ?_;(with_reducible refine (width_marks.calls  t144 _ A12.out).mono ?_);rintro e w21 ⟨v145,rfl,ho0,hb⟩;refine ⟨_,rfl,?_⟩;have n0_ := Aside0.mk (Kd.R_lower ho0 (below_size au0));have n1_ := Aside0.mk (below_step au0 hb);clear HB;have HO146 := n0_;have HB := n1_;clear n0_ n1_;(try clear hb);(try clear hb2);(try clear hk);(try clear hi);(try clear ho0);obtain ⟨Ao22,co22,eo22⟩ := Kd.R_slice HO146.out;subst eo22) | ((with_reducible refine gate_callee (f := 83) rfl ?_);refine goesL_ (some 35) rfl rfl Tryd.func83 (by kernel_rfl) rfl #[.slice Ao22 t144.length co22,.int .i32 a0] rfl au1 ?_;(with_reducible refine (width_within_rune.calls _ _ t144 a0 false _ ?side1 ?side2 A13.out).mono ?_);(case side1 => repeat (first | exact (Kd.R_reads' HO146.out).2.2 | (with_reducible refine Kd.C_alloc ?_ _) | (with_reducible refine Kd.C_drewN ?_ _) | (with_reducible refine Kd.C_drew ?_)));(case side2 => exact (Kd.R_reads' HO146.out).2.1);rintro e w23 ⟨rfl,hb⟩;refine ⟨_,rfl,?_⟩;have n0_ := Aside0.mk (Kd.R_below au9 hb);have n1_ := Aside0.mk (below_step au0 hb);clear HO146;clear HB;have HO146 := n0_;have HB := n1_;clear n0_ n1_;(try clear hb);(try clear hb2);(try clear hk);(try clear hi)) | ((with_reducible refine gate_callee (f := 85) rfl ?_);refine goesL_ (some 37) rfl rfl Tryd.func85 (by kernel_rfl) rfl #[] rfl au1 ?_;(with_reducible refine (width_wides.calls  t148 _ A18.out).mono ?_);rintro e w24 ⟨v149,rfl,ho0,hb⟩;refine ⟨_,rfl,?_⟩;have n0_ := Aside0.mk (Kd.R_elder' au9 (Kd.R_base ho0) hb);have n1_ := Aside0.mk (Kd.R_lower (Kd.R_new' ho0 (Kd.R_lt au9)) (below_size au0));have n2_ := Aside0.mk (below_step au0 hb);clear HO146;clear HB;have HO146 := n0_;have HO150 := n1_;have HB := n2_;clear n0_ n1_ n2_;(try clear hb);(try clear hb2);(try clear hk);(try clear hi);(try clear ho0);obtain ⟨Ao25,co25,eo25⟩ := Kd.R_slice HO150.out;subst eo25) | ((with_reducible refine gate_callee (f := 83) rfl ?_);refine goesL_ (some 39) rfl rfl Tryd.func83 (by kernel_rfl) rfl #[.slice Ao25 t148.length co25,.int .i32 a0] rfl au1 ?_;(with_reducible refine (width_within_rune.calls _ _ t148 a0 true _ ?side1 ?side2 A19.out).mono ?_);(case side1 => repeat (first | exact (Kd.R_reads' HO150.out).2.2 | (with_reducible refine Kd.C_alloc ?_ _) | (with_reducible refine Kd.C_drewN ?_ _) | (with_reducible refine Kd.C_drew ?_)));(case side2 => exact (Kd.R_reads' HO150.out).2.1);rintro e w26 ⟨rfl,hb⟩;refine ⟨_,rfl,?_⟩;have n0_ := Aside0.mk (Kd.R_below au9 hb);have n1_ := Aside0.mk (Kd.R_below (by (with_reducible repeat (first | apply Kd.R_alloc | apply Kd.R_drewN | apply Kd.R_drew));exact HO150.out) hb);have n2_ := Aside0.mk (below_step au0 hb);clear HO146;clear HO150;clear HB;have HO146 := n0_;have HO150 := n1_;have HB := n2_;clear n0_ n1_ n2_;(try clear hb);(try clear hb2);(try clear hk);(try clear hi)))
          go_ret
          exact ⟨au2,au0⟩
         ·replace c20 := Bool.eq_false_iff.mpr c20
          subst c20
          have H1 : (some 0) = some r := by rw [if_neg (show ¬ (false = true) by decide)] at H;exact H
          clear H
          have H := H1
          clear H1
          obtain rfl := Option.some.inj H
          go_wp2_with (first | ((with_reducible refine gate_callee (f := 84) rfl ?_);refine goesL_ (some 33) rfl rfl Tryd.func84 (by kernel_rfl) rfl #[] rfl au1 ?_;(with_reducible refine (width_marks.calls  t144 _ A12.out).mono ?_);rintro e w27 ⟨v145,rfl,ho0,hb⟩;refine ⟨_,rfl,?_⟩;have n0_ := Aside0.mk (Kd.R_lower ho0 (below_size au0));have n1_ := Aside0.mk (below_step au0 hb);clear HB;have HO146 := n0_;have HB := n1_;clear n0_ n1_;(try clear hb);(try clear hb2);(try clear hk);(try clear hi);(try clear ho0);obtain ⟨Ao28,co28,eo28⟩ := Kd.R_slice HO146.out;subst eo28) | ((with_reducible refine gate_callee (f := 83) rfl ?_);refine goesL_ (some 35) rfl rfl Tryd.func83 (by kernel_rfl) rfl #[.slice Ao28 t144.length co28,.int .i32 a0] rfl au1 ?_;(with_reducible refine (width_within_rune.calls _ _ t144 a0 false _ ?side1 ?side2 A13.out).mono ?_);(case side1 => repeat (first | exact (Kd.R_reads' HO146.out).2.2 | (with_reducible refine Kd.C_alloc ?_ _) | (with_reducible refine Kd.C_drewN ?_ _) | (with_reducible refine Kd.C_drew ?_)));(case side2 => exact (Kd.R_reads' HO146.out).2.1);rintro e w29 ⟨rfl,hb⟩;refine ⟨_,rfl,?_⟩;have n0_ := Aside0.mk (Kd.R_below au9 hb);have n1_ := Aside0.mk (below_step au0 hb);clear HO146;clear HB;have HO146 := n0_;have HB := n1_;clear n0_ n1_;(try clear hb);(try clear hb2);(try clear hk);(try clear hi)) | ((with_reducible refine gate_callee (f := 85) rfl ?_);refine goesL_ (some 37) rfl rfl Tryd.func85 (by kernel_rfl) rfl #[] rfl au1 ?_;(with_reducible refine (width_wides.calls  t148 _ A18.out).mono ?_);rintro e w30 ⟨v149,rfl,ho0,hb⟩;refine ⟨_,rfl,?_⟩;have n0_ := Aside0.mk (Kd.R_elder' au9 (Kd.R_base ho0) hb);have n1_ := Aside0.mk (Kd.R_lower (Kd.R_new' ho0 (Kd.R_lt au9)) (below_size au0));have n2_ := Aside0.mk (below_step au0 hb);clear HO146;clear HB;have HO146 := n0_;have HO150 := n1_;have HB := n2_;clear n0_ n1_ n2_;(try clear hb);(try clear hb2);(try clear hk);(try clear hi);(try clear ho0);obtain ⟨Ao31,co31,eo31⟩ := Kd.R_slice HO150.out;subst eo31) | ((with_reducible refine gate_callee (f := 83) rfl ?_);refine goesL_ (some 39) rfl rfl Tryd.func83 (by kernel_rfl) rfl #[.slice Ao31 t148.length co31,.int .i32 a0] rfl au1 ?_;(with_reducible refine (width_within_rune.calls _ _ t148 a0 false _ ?side1 ?side2 A19.out).mono ?_);(case side1 => repeat (first | exact (Kd.R_reads' HO150.out).2.2 | (with_reducible refine Kd.C_alloc ?_ _) | (with_reducible refine Kd.C_drewN ?_ _) | (with_reducible refine Kd.C_drew ?_)));(case side2 => exact (Kd.R_reads' HO150.out).2.1);rintro e w32 ⟨rfl,hb⟩;refine ⟨_,rfl,?_⟩;have n0_ := Aside0.mk (Kd.R_below au9 hb);have n1_ := Aside0.mk (Kd.R_below (by (with_reducible repeat (first | apply Kd.R_alloc | apply Kd.R_drewN | apply Kd.R_drew));exact HO150.out) hb);have n2_ := Aside0.mk (below_step au0 hb);clear HO146;clear HO150;clear HB;have HO146 := n0_;have HO150 := n1_;have HB := n2_;clear n0_ n1_ n2_;(try clear hb);(try clear hb2);(try clear hk);(try clear hi)))
          go_ret
          exact ⟨au2,au0⟩
end Go.Proofs.YtgdpnmikcopkmaaDoor.U
end
section
namespace Go.Proofs.YtgdpnmikcopkmaaDoor.U
open Go.RowKit Go.Proofs.YtgdpnmikcopkmaaDoorW.PrintWords Go.Proofs.YtgdpnmikcopkmaaDoorW.PrintLast Go.Proofs.YtgdpnmikcopkmaaDoorW.PrintMore
attribute [local go_sem] max2_int min2_int max_two min_two max_three min_three max_four min_four   -- for this text's walks alone
set_option linter.unusedVariables false
set_option linter.unusedSimpArgs false
/-- A state of type 74 at block g of W;what its slices lead to came in by w0. -/
def IsS74 (w0 W : World) (g : Nat) (f0 : Int) (f1 : Int) (f2 : List (List (S38))) (f3 : Int) (f4 : Int) (f5 : Bool) (f6 : ByteArray) (f7 : Bool) (f8 : Int) (f9 : Int) : Prop := ∃ A2 c2,W.heap[g]? = some (.cells #[.int .i64 f0,.int .i64 f1,.slice A2 f2.length c2,.int .i64 f3,.int .i64 f4,.bool f5,.string f6,.bool f7,.int .i64 f8,.int .i64 f9] 74 (0,0)) ∧ w0.heap.size ≤ g ∧ Kd.C (Kd.slice 38 k38) w0 A2 f2.length f2
theorem IsS74.grown {w0 W : World} {g : Nat} {f0 : Int} {f1 : Int} {f2 : List (List (S38))} {f3 : Int} {f4 : Int} {f5 : Bool} {f6 : ByteArray} {f7 : Bool} {f8 : Int} {f9 : Int} {W1 : World} {row : Option Nat} (h : IsS74 w0 W g f0 f1 f2 f3 f4 f5 f6 f7 f8 f9) (hw : W.grownBy W1 row) (hne : some g ≠ row) : IsS74 w0 W1 g f0 f1 f2 f3 f4 f5 f6 f7 f8 f9 := by
 obtain ⟨A2,c2,hb,hg,hr2⟩ := h
 exact ⟨A2,c2,blk_grown hb hw hne,hg,hr2⟩
theorem IsS74.fresh {w0 W : World} {g : Nat} {f0 : Int} {f1 : Int} {f2 : List (List (S38))} {f3 : Int} {f4 : Int} {f5 : Bool} {f6 : ByteArray} {f7 : Bool} {f8 : Int} {f9 : Int} (h : IsS74 w0 W g f0 f1 f2 f3 f4 f5 f6 f7 f8 f9) : ∀ k,W.heap.size ≤ k → k ≠ g := by
 obtain ⟨A2,c2,hb,hg,hr2⟩ := h
 exact Kd.freshB hb
theorem IsS74.kept {w0 W : World} {g : Nat} {f0 : Int} {f1 : Int} {f2 : List (List (S38))} {f3 : Int} {f4 : Int} {f5 : Bool} {f6 : ByteArray} {f7 : Bool} {f8 : Int} {f9 : Int} {W1 : World} {S : Nat → Prop} (h : IsS74 w0 W g f0 f1 f2 f3 f4 f5 f6 f7 f8 f9) (hk : Kept W W1 S) (hne : ¬ S g) : IsS74 w0 W1 g f0 f1 f2 f3 f4 f5 f6 f7 f8 f9 := by
 obtain ⟨A2,c2,hb,hg,hr2⟩ := h
 exact ⟨A2,c2,blk_kept hb hk hne,hg,hr2⟩
theorem IsS74.below {w0 W : World} {g : Nat} {f0 : Int} {f1 : Int} {f2 : List (List (S38))} {f3 : Int} {f4 : Int} {f5 : Bool} {f6 : ByteArray} {f7 : Bool} {f8 : Int} {f9 : Int} {W1 : World} (h : IsS74 w0 W g f0 f1 f2 f3 f4 f5 f6 f7 f8 f9) (hw : Below W.heap.size W W1) : IsS74 w0 W1 g f0 f1 f2 f3 f4 f5 f6 f7 f8 f9 := h.grown (grown_of_below hw none) (by simp)
theorem IsS74.alloc {w0 W : World} {g : Nat} {f0 : Int} {f1 : Int} {f2 : List (List (S38))} {f3 : Int} {f4 : Int} {f5 : Bool} {f6 : ByteArray} {f7 : Bool} {f8 : Int} {f9 : Int} (h : IsS74 w0 W g f0 f1 f2 f3 f4 f5 f6 f7 f8 f9) (o : Obj) : IsS74 w0 (W.alloc o) g f0 f1 f2 f3 f4 f5 f6 f7 f8 f9 := h.below (below_alloc (Below.refl _ _) o)
theorem IsS74.drewN {w0 W : World} {g : Nat} {f0 : Int} {f1 : Int} {f2 : List (List (S38))} {f3 : Int} {f4 : Int} {f5 : Bool} {f6 : ByteArray} {f7 : Bool} {f8 : Int} {f9 : Int} (h : IsS74 w0 W g f0 f1 f2 f3 f4 f5 f6 f7 f8 f9) (m : Nat) : IsS74 w0 (W.drewN m) g f0 f1 f2 f3 f4 f5 f6 f7 f8 f9 := h
theorem IsS74.drew {w0 W : World} {g : Nat} {f0 : Int} {f1 : Int} {f2 : List (List (S38))} {f3 : Int} {f4 : Int} {f5 : Bool} {f6 : ByteArray} {f7 : Bool} {f8 : Int} {f9 : Int} (h : IsS74 w0 W g f0 f1 f2 f3 f4 f5 f6 f7 f8 f9) : IsS74 w0 W.drew g f0 f1 f2 f3 f4 f5 f6 f7 f8 f9 := h
theorem IsS74.at_ {w0 W : World} {g : Nat} {f0 : Int} {f1 : Int} {f2 : List (List (S38))} {f3 : Int} {f4 : Int} {f5 : Bool} {f6 : ByteArray} {f7 : Bool} {f8 : Int} {f9 : Int} {w' : World} {m : Nat} (hq : W.drewN m = w') (h : IsS74 w0 W g f0 f1 f2 f3 f4 f5 f6 f7 f8 f9) : IsS74 w0 w' g f0 f1 f2 f3 f4 f5 f6 f7 f8 f9 := by subst hq;exact IsS74.drewN h m
theorem IsS74.apart {w0 W : World} {g : Nat} {f0 : Int} {f1 : Int} {f2 : List (List (S38))} {f3 : Int} {f4 : Int} {f5 : Bool} {f6 : ByteArray} {f7 : Bool} {f8 : Int} {f9 : Int} {α : Type} {d : Kd α} {e : Nat} {base : Nat} {ok : Nat → Prop} {v : Value} {xs : List α} (h : IsS74 w0 W g f0 f1 f2 f3 f4 f5 f6 f7 f8 f9) (ho : d.R e W base ok v xs) (ht : ∀ q,q ∈ e :: d.E → q ≠ 74) : d.R e W base (fun k => ok k ∧ k ≠ g) v xs := by
 obtain ⟨A2,c2,hb,hg,hr2⟩ := h
 exact Kd.R_types ho hb ht
theorem IsS74.own_ne {w0 W : World} {g : Nat} {f0 : Int} {f1 : Int} {f2 : List (List (S38))} {f3 : Int} {f4 : Int} {f5 : Bool} {f6 : ByteArray} {f7 : Bool} {f8 : Int} {f9 : Int} {α : Type} {d : Kd α} {e : Nat} {base : Nat} {ok : Nat → Prop} {v : Value} {xs : List α} (h : IsS74 w0 W g f0 f1 f2 f3 f4 f5 f6 f7 f8 f9) (ho : d.R e W base ok v xs) (ht : e ≠ 74) : some g ≠ v.ownBlock := by
 obtain ⟨A2,c2,hb,hg,hr2⟩ := h
 exact Kd.R_ne ho hb ht
theorem IsS74.lt {w0 W : World} {g : Nat} {f0 : Int} {f1 : Int} {f2 : List (List (S38))} {f3 : Int} {f4 : Int} {f5 : Bool} {f6 : ByteArray} {f7 : Bool} {f8 : Int} {f9 : Int} (h : IsS74 w0 W g f0 f1 f2 f3 f4 f5 f6 f7 f8 f9) : g < W.heap.size := by
 obtain ⟨A2,c2,hb,hg,hr2⟩ := h
 exact blk_lt hb
theorem IsS74.far {w0 W : World} {g : Nat} {f0 : Int} {f1 : Int} {f2 : List (List (S38))} {f3 : Int} {f4 : Int} {f5 : Bool} {f6 : ByteArray} {f7 : Bool} {f8 : Int} {f9 : Int} {p : Addr} (h : IsS74 w0 W g f0 f1 f2 f3 f4 f5 f6 f7 f8 f9) (hne : g ≠ p.block) (u : Value) : IsS74 w0 (W.setCell p u) g f0 f1 f2 f3 f4 f5 f6 f7 f8 f9 := by
 obtain ⟨A2,c2,hb,hg,hr2⟩ := h
 exact ⟨A2,c2,blk_far hb hne u,hg,hr2⟩
theorem IsS74.new (w0 W : World) (A2 : Option Addr) (c2 : Nat) (f0 : Int) (f1 : Int) (f2 : List (List (S38))) (f3 : Int) (f4 : Int) (f5 : Bool) (f6 : ByteArray) (f7 : Bool) (f8 : Int) (f9 : Int) (hB : Below w0.heap.size w0 W) (hr2 : Kd.C (Kd.slice 38 k38) w0 A2 f2.length f2) : IsS74 w0 (W.alloc (.cells #[.int .i64 f0,.int .i64 f1,.slice A2 f2.length c2,.int .i64 f3,.int .i64 f4,.bool f5,.string f6,.bool f7,.int .i64 f8,.int .i64 f9] 74)) W.heap.size f0 f1 f2 f3 f4 f5 f6 f7 f8 f9 := ⟨A2,c2,by simpa using heap_alloc_new W _,hB.size,hr2⟩
end Go.Proofs.YtgdpnmikcopkmaaDoor.U
end
section
namespace Go.Proofs.YtgdpnmikcopkmaaDoor.U
open Go.RowKit Go.Proofs.YtgdpnmikcopkmaaDoorW.PrintWords Go.Proofs.YtgdpnmikcopkmaaDoorW.PrintLast Go.Proofs.YtgdpnmikcopkmaaDoorW.PrintMore
attribute [local go_sem] max2_int min2_int max_two min_two max_three min_three max_four min_four   -- for this text's walks alone
set_option linter.unusedVariables false
set_option linter.unusedSimpArgs false
def unit_Prev.f (k : Nat) (a0 : ByteArray) (a1 : Int) : Option (Int) := if a1 ≤ 0 then (some 0) else ((unit_Down.f k a0 (mn (wrap64 (a1 - 1)) (a0.size : Int))).bind fun t176 => (some t176))
set_option maxHeartbeats 8000000 in
set_option maxRecDepth 100000 in
theorem unit_Prev.calls (k : Nat) (a0 : ByteArray) (a1 : Int) (r : Int) (w : World) (hT : Lib.Utf8Tabs 0 1 w) (h : unit_Prev.f k a0 a1 = some r) :
  Calls Tryd.prog 59 #[.string a0,.int .i64 a1] w fun e w' => e = .returned (.int .i64 r) ∧ Below w.heap.size w w' := by
 have HT := Aside0.mk hT
 clear hT
 have HB := Aside0.mk (Below.refl w.heap.size w)
 have H : (if a1 ≤ 0 then (some 0) else ((unit_Down.f k a0 (mn (wrap64 (a1 - 1)) (a0.size : Int))).bind fun t176 => (some t176))) = some r := h
 clear h
 by_cases c3 : a1 ≤ 0
 ·rw [if_pos c3] at H
  have c3b0 : decide (a1 ≤ 0) = true := decide_eq_true c3
  clear c3
  obtain rfl := Option.some.inj H
  go_enter Tryd.func59,Tryd.ntmps59
  go_wp2
  go_ret
  exact ⟨au2,au0⟩
 ·rw [if_neg c3] at H
  have c3b0 : decide (a1 ≤ 0) = false := decide_eq_false c3
  clear c3
  obtain ⟨ji4,hji4⟩ : ∃ j_ : Int,(mn (wrap64 (a1 - 1)) (a0.size : Int)) = j_ := ⟨_,rfl⟩
  replace H : ((unit_Down.f k a0 (ji4)).bind fun t176 => (some t176)) = some r := by first | (rw [hji4] at H;exact H) | (simp only [hji4] at H ⊢;exact H)
  have hji4_ : (if (a0.size : Int) < (wrap64 (a1 - 1)) then (a0.size : Int) else (wrap64 (a1 - 1))) = ji4 := hji4
  replace H := Option.bind_eq_some_iff.mp H
  obtain ⟨t176,A50,H⟩ := H
  replace H : (some t176) = some r := H
  have A5 := Aside0.mk A50
  clear A50
  obtain rfl := Option.some.inj H
  go_enter Tryd.func59,Tryd.ntmps59
  go_wp2_with (first | ((with_reducible refine gate_callee (f := 79) rfl ?_);refine goesL_ (some 13) rfl rfl Tryd.func79 (by kernel_rfl) rfl #[.string a0,.int .i64 ji4] rfl (by (try simp only [List.map_toArray,List.map_cons,List.map_nil]);first | done | (simp only [hji4];rfl) | rfl | (simp only [List.length_drop,List.length_take];rfl)) ?_;(with_reducible refine (unit_Down.calls k a0 ji4 t176 _ ?side1 A5.out).mono ?_);(case side1 => exact tabs_below HT.out au0);rintro e w6 ⟨rfl,hb⟩;refine ⟨_,rfl,?_⟩;have n0_ := Aside0.mk (below_step au0 hb);clear HB;have HB := n0_;clear n0_;(try clear hb);(try clear hb2);(try clear hk);(try clear hi)))
  go_ret
  exact ⟨by first | rfl | (simp [errW_none,errW_some] <;> rfl) | (simp only [← hji4];first | rfl | (simp [errW_none,errW_some] <;> rfl)) | (simp [*,errW_none,errW_some] <;> rfl),au0⟩
end Go.Proofs.YtgdpnmikcopkmaaDoor.U
end
section
namespace Go.Proofs.YtgdpnmikcopkmaaDoor.U
open Go.RowKit Go.Proofs.YtgdpnmikcopkmaaDoorW.PrintWords Go.Proofs.YtgdpnmikcopkmaaDoorW.PrintLast Go.Proofs.YtgdpnmikcopkmaaDoorW.PrintMore
attribute [local go_sem] max2_int min2_int max_two min_two max_three min_three max_four min_four   -- for this text's walks alone
set_option linter.unusedVariables false
set_option linter.unusedSimpArgs false
def unit_At.f (k : Nat) (a0 : ByteArray) (a1 : Int) : Option (Int × Int × Bool) := if a1 < 0 then (some (0,0,false)) else (if a1 ≥ (a0.size : Int) then (some (0,0,false)) else ((unit_Boundary.f k a0 a1).bind fun t115 => (if t115 = true then (if 0 ≤ a1 then (if a1 ≤ (a0.size : Int) then ((unit_first.f (a0.extract (a1 : Int).toNat a0.size)).bind fun bt116 => (some (bt116.1,bt116.2,true))) else (none)) else (none)) else (some (0,0,false)))))
set_option maxHeartbeats 8000000 in
set_option maxRecDepth 100000 in
theorem unit_At.calls (k : Nat) (a0 : ByteArray) (a1 : Int) (r1 : Int) (r2 : Int) (r3 : Bool) (w : World) (hT : Lib.Utf8Tabs 0 1 w) (h : unit_At.f k a0 a1 = some (r1,r2,r3)) :
  Calls Tryd.prog 58 #[.string a0,.int .i64 a1] w fun e w' => e = .returned (.tuple #[.agg #[.int .i32 r1,.int .i64 r2],.bool r3]) ∧ Below w.heap.size w w' := by
 have hu83 := Tryd.underlying83
 have HT := Aside0.mk hT
 clear hT
 have HB := Aside0.mk (Below.refl w.heap.size w)
 have H : (if a1 < 0 then (some (0,0,false)) else (if a1 ≥ (a0.size : Int) then (some (0,0,false)) else ((unit_Boundary.f k a0 a1).bind fun t115 => (if t115 = true then (if 0 ≤ a1 then (if a1 ≤ (a0.size : Int) then ((unit_first.f (a0.extract (a1 : Int).toNat a0.size)).bind fun bt116 => (some (bt116.1,bt116.2,true))) else (none)) else (none)) else (some (0,0,false)))))) = some (r1,r2,r3) := h
 clear h
 by_cases c3 : a1 < 0
 ·rw [if_pos c3] at H
  have c3b0 : decide (a1 < 0) = true := decide_eq_true c3
  clear c3
  simp only [Option.some.injEq,Prod.mk.injEq] at H
  obtain ⟨rfl,rfl,rfl⟩ := H
  go_enter Tryd.func58,Tryd.ntmps58
  go_wp2_with (first | ((with_reducible refine gate_dst (N := 4) rfl ?_);(try (refine gate_guard (by rfl) ?_;dsimp only));refine box_event ?hg (N := 4) ?hd (cs := #[.int .i32 0,.int .i64 0]) (t := 83) ?hr ?_;(case hd => rfl);(case hg => rfl);(case hr => first | (go_simp;done) | (go_simp;rfl));intro gb114 hg w4 hbox hb;have n0_ := Aside0.mk (below_step au0 hb);have n1_ := Aside0.mk (hbox);have n2_ := Aside0.mk ((by rw [hg];exact (below_size au0) : w.heap.size ≤ gb114));have n3_ := Aside0.mk ((by rw [hg];exact (below_size au0) : w.heap.size ≤ gb114));clear HB;have HB := n0_;have BK114 := n1_;have GW114 := n2_;have GE114 := n3_;clear n0_ n1_ n2_ n3_;clear hb hbox hg;have hcz5_0 : w4.cell? ⟨gb114,0,none⟩ = some (.int .i32 0) := (blk_cell BK114.out 0).trans rfl;have hcz5_1 : w4.cell? ⟨gb114,1,none⟩ = some (.int .i64 0) := (blk_cell BK114.out 1).trans rfl;have hfz5_0 := blk_frozen BK114.out 0;have hfz5_1 := blk_frozen BK114.out 1))
  refine bodyPost_ret (results_ct rfl _ _ gb114 83 #[.int .i32 0,.int .i64 0] (0,0) _ rfl au8 Tryd.underlying83 rfl (by kernel_rfl)) rfl ?_
  exact ⟨au2,by repeat (first | (with_reducible first | exact HB.out | apply below_alloc | apply pw_below_drewN | apply below_drew1 | refine below_set ?_ GE114.out) | exact HB.out)⟩
 ·rw [if_neg c3] at H
  have c3b0 : decide (a1 < 0) = false := decide_eq_false c3
  clear c3
  by_cases c6 : a1 ≥ (a0.size : Int)
  ·rw [if_pos c6] at H
   have c6b0 : decide ((a0.size : Int) ≤ a1) = true := decide_eq_true c6
   clear c6
   simp only [Option.some.injEq,Prod.mk.injEq] at H
   obtain ⟨rfl,rfl,rfl⟩ := H
   go_enter Tryd.func58,Tryd.ntmps58
   go_wp2_with (first | ((with_reducible refine gate_dst (N := 4) rfl ?_);(try (refine gate_guard (by rfl) ?_;dsimp only));refine box_event ?hg (N := 4) ?hd (cs := #[.int .i32 0,.int .i64 0]) (t := 83) ?hr ?_;(case hd => rfl);(case hg => rfl);(case hr => first | (go_simp;done) | (go_simp;rfl));intro gb114 hg w7 hbox hb;have n0_ := Aside0.mk (below_step au0 hb);have n1_ := Aside0.mk (hbox);have n2_ := Aside0.mk ((by rw [hg];exact (below_size au0) : w.heap.size ≤ gb114));have n3_ := Aside0.mk ((by rw [hg];exact (below_size au0) : w.heap.size ≤ gb114));clear HB;have HB := n0_;have BK114 := n1_;have GW114 := n2_;have GE114 := n3_;clear n0_ n1_ n2_ n3_;clear hb hbox hg;have hcz8_0 : w7.cell? ⟨gb114,0,none⟩ = some (.int .i32 0) := (blk_cell BK114.out 0).trans rfl;have hcz8_1 : w7.cell? ⟨gb114,1,none⟩ = some (.int .i64 0) := (blk_cell BK114.out 1).trans rfl;have hfz8_0 := blk_frozen BK114.out 0;have hfz8_1 := blk_frozen BK114.out 1))
   refine bodyPost_ret (results_ct rfl _ _ gb114 83 #[.int .i32 0,.int .i64 0] (0,0) _ rfl au8 Tryd.underlying83 rfl (by kernel_rfl)) rfl ?_
   exact ⟨au2,by repeat (first | (with_reducible first | exact HB.out | apply below_alloc | apply pw_below_drewN | apply below_drew1 | refine below_set ?_ GE114.out) | exact HB.out)⟩
  ·rw [if_neg c6] at H
   have c6b0 : decide ((a0.size : Int) ≤ a1) = false := decide_eq_false c6
   clear c6
   replace H := Option.bind_eq_some_iff.mp H
   obtain ⟨t115,A90,H⟩ := H
   replace H : (if t115 = true then (if 0 ≤ a1 then (if a1 ≤ (a0.size : Int) then ((unit_first.f (a0.extract (a1 : Int).toNat a0.size)).bind fun bt116 => (some (bt116.1,bt116.2,true))) else (none)) else (none)) else (some (0,0,false))) = some (r1,r2,r3) := H
   have A9 := Aside0.mk A90
   clear A90
   by_cases c10 : t115 = true
   ·subst c10
    have H1 : (if 0 ≤ a1 then (if a1 ≤ (a0.size : Int) then ((unit_first.f (a0.extract (a1 : Int).toNat a0.size)).bind fun bt116 => (some (bt116.1,bt116.2,true))) else (none)) else (none)) = some (r1,r2,r3) := by rw [if_pos rfl] at H;exact H
    clear H
    have H := H1
    clear H1
    by_cases c11 : 0 ≤ a1
    ·rw [if_pos c11] at H
     have c11b0 := eq_true c11
     have c11b1 : decide (0 ≤ a1) = true := decide_eq_true c11
     clear c11
     by_cases c12 : a1 ≤ (a0.size : Int)
     ·rw [if_pos c12] at H
      have c12b0 := eq_true c12
      have c12b1 : decide (a1 ≤ (a0.size : Int)) = true := decide_eq_true c12
      clear c12
      replace H := Option.bind_eq_some_iff.mp H
      obtain ⟨⟨t116,t117⟩,A130,H⟩ := H
      replace H : (some (t116,t117,true)) = some (r1,r2,r3) := H
      have A13 := Aside0.mk A130
      clear A130
      simp only [Option.some.injEq,Prod.mk.injEq] at H
      obtain ⟨rfl,rfl,rfl⟩ := H
      go_enter Tryd.func58,Tryd.ntmps58
      go_wp2_with (first | ((with_reducible refine gate_dst (N := 4) rfl ?_);(try (refine gate_guard (by rfl) ?_;dsimp only));refine box_event ?hg (N := 4) ?hd (cs := #[.int .i32 0,.int .i64 0]) (t := 83) ?hr ?_;(case hd => rfl);(case hg => rfl);(case hr => first | (go_simp;done) | (go_simp;rfl));intro gb114 hg w14 hbox hb;have n0_ := Aside0.mk (below_step au0 hb);have n1_ := Aside0.mk (hbox);have n2_ := Aside0.mk ((by rw [hg];exact (below_size au0) : w.heap.size ≤ gb114));have n3_ := Aside0.mk ((by rw [hg];exact (below_size au0) : w.heap.size ≤ gb114));clear HB;have HB := n0_;have BK114 := n1_;have GW114 := n2_;have GE114 := n3_;clear n0_ n1_ n2_ n3_;clear hb hbox hg) | (go_at_call 57;(with_reducible refine (unit_Boundary.calls k a0 a1 true _ ?side1 A9.out).mono ?_);(case side1 => exact tabs_below HT.out au11);rintro e w15 ⟨rfl,hb⟩;have n0_ := Aside0.mk (blk_below (g := gb114) (o := .cells #[.int .i32 0,.int .i64 0] 83 (0,0)) (by (with_reducible repeat (first | refine blk_drewN ?_ _ | refine blk_drew ?_ | refine blk_alloc ?_ _));exact BK114.out) hb);have n1_ := Aside0.mk (below_step au11 hb);clear BK114;clear HB;have BK114 := n0_;have HB := n1_;clear n0_ n1_;(try clear hb);(try clear hb2);(try clear hk);(try clear hi)) | ((with_reducible refine gate_callee (f := 78) rfl ?_);refine goesL_ (some 24) rfl rfl Tryd.func78 (by kernel_rfl) rfl #[.string (a0.extract (a1 : Int).toNat a0.size)] rfl au1 ?_;(with_reducible refine (unit_first.calls (a0.extract (a1 : Int).toNat a0.size) t116 t117 _ ?side1 A13.out).mono ?_);(case side1 => exact tabs_below HT.out au11);rintro e w16 ⟨rfl,hb⟩;refine ⟨_,rfl,?_⟩;have n0_ := Aside0.mk (blk_below (g := gb114) (o := .cells #[.int .i32 0,.int .i64 0] 83 (0,0)) (by (with_reducible repeat (first | refine blk_drewN ?_ _ | refine blk_drew ?_ | refine blk_alloc ?_ _));exact BK114.out) hb);have n1_ := Aside0.mk (below_step au11 hb);clear BK114;clear HB;have BK114 := n0_;have HB := n1_;clear n0_ n1_;(try clear hb);(try clear hb2);(try clear hk);(try clear hi);have hcz17_0 : w16.cell? ⟨gb114,0,none⟩ = some (.int .i32 0) := (blk_cell BK114.out 0).trans rfl;have hcz17_1 : w16.cell? ⟨gb114,1,none⟩ = some (.int .i64 0) := (blk_cell BK114.out 1).trans rfl;have hfz17_0 := blk_frozen BK114.out 0;have hfz17_1 := blk_frozen BK114.out 1))
      refine bodyPost_ret (results_ct rfl _ _ gb114 83 #[.int .i32 t116,.int .i64 t117] (0,0) _ rfl (by (with_reducible repeat (first | refine blk_drewN ?_ _ | refine blk_drew ?_ | refine blk_alloc ?_ _));refine blk_put (cs := #[.int .i32 t116,.int .i64 0]) ?_ 1 _ rfl;(with_reducible repeat (first | refine blk_drewN ?_ _ | refine blk_drew ?_ | refine blk_alloc ?_ _));refine blk_put (cs := #[.int .i32 0,.int .i64 0]) ?_ 0 _ rfl;(with_reducible repeat (first | refine blk_drewN ?_ _ | refine blk_drew ?_ | refine blk_alloc ?_ _));exact BK114.out) Tryd.underlying83 rfl (by kernel_rfl)) rfl ?_
      exact ⟨au2,by repeat (first | (with_reducible first | exact HB.out | apply below_alloc | apply pw_below_drewN | apply below_drew1 | refine below_set ?_ GE114.out) | exact HB.out)⟩
     ·rw [if_neg c12] at H
      exact absurd H (by simp)
    ·rw [if_neg c11] at H
     exact absurd H (by simp)
   ·replace c10 := Bool.eq_false_iff.mpr c10
    subst c10
    have H1 : (some (0,0,false)) = some (r1,r2,r3) := by rw [if_neg (show ¬ (false = true) by decide)] at H;exact H
    clear H
    have H := H1
    clear H1
    simp only [Option.some.injEq,Prod.mk.injEq] at H
    obtain ⟨rfl,rfl,rfl⟩ := H
    go_enter Tryd.func58,Tryd.ntmps58
    go_wp2_with (first | ((with_reducible refine gate_dst (N := 4) rfl ?_);(try (refine gate_guard (by rfl) ?_;dsimp only));refine box_event ?hg (N := 4) ?hd (cs := #[.int .i32 0,.int .i64 0]) (t := 83) ?hr ?_;(case hd => rfl);(case hg => rfl);(case hr => first | (go_simp;done) | (go_simp;rfl));intro gb114 hg w18 hbox hb;have n0_ := Aside0.mk (below_step au0 hb);have n1_ := Aside0.mk (hbox);have n2_ := Aside0.mk ((by rw [hg];exact (below_size au0) : w.heap.size ≤ gb114));have n3_ := Aside0.mk ((by rw [hg];exact (below_size au0) : w.heap.size ≤ gb114));clear HB;have HB := n0_;have BK114 := n1_;have GW114 := n2_;have GE114 := n3_;clear n0_ n1_ n2_ n3_;clear hb hbox hg) | (go_at_call 57;(with_reducible refine (unit_Boundary.calls k a0 a1 false _ ?side1 A9.out).mono ?_);(case side1 => exact tabs_below HT.out au11);rintro e w19 ⟨rfl,hb⟩;have n0_ := Aside0.mk (blk_below (g := gb114) (o := .cells #[.int .i32 0,.int .i64 0] 83 (0,0)) (by (with_reducible repeat (first | refine blk_drewN ?_ _ | refine blk_drew ?_ | refine blk_alloc ?_ _));exact BK114.out) hb);have n1_ := Aside0.mk (below_step au11 hb);clear BK114;clear HB;have BK114 := n0_;have HB := n1_;clear n0_ n1_;(try clear hb);(try clear hb2);(try clear hk);(try clear hi);have hcz20_0 : w19.cell? ⟨gb114,0,none⟩ = some (.int .i32 0) := (blk_cell BK114.out 0).trans rfl;have hcz20_1 : w19.cell? ⟨gb114,1,none⟩ = some (.int .i64 0) := (blk_cell BK114.out 1).trans rfl;have hfz20_0 := blk_frozen BK114.out 0;have hfz20_1 := blk_frozen BK114.out 1))
    refine bodyPost_ret (results_ct rfl _ _ gb114 83 #[.int .i32 0,.int .i64 0] (0,0) _ rfl au8 Tryd.underlying83 rfl (by kernel_rfl)) rfl ?_
    exact ⟨au2,by repeat (first | (with_reducible first | exact HB.out | apply below_alloc | apply pw_below_drewN | apply below_drew1 | refine below_set ?_ GE114.out) | exact HB.out)⟩
end Go.Proofs.YtgdpnmikcopkmaaDoor.U
end
section
namespace Go.Proofs.YtgdpnmikcopkmaaDoor.Pu
open Go Go.RowKit Go.Proofs.YtgdpnmikcopkmaaDoor.Mu Go.Proofs.YtgdpnmikcopkmaaDoor.U Go.Proofs.YtgdpnmikcopkmaaDoorW.PrintWords Go.Proofs.YtgdpnmikcopkmaaDoorW.PrintLast Go.Proofs.YtgdpnmikcopkmaaDoorW.PrintMore
theorem w64 {x : Int} (h : -9223372036854775808 ≤ x) (h2 : x < 9223372036854775808) : wrap64 x = x := by unfold wrap64;omega
theorem w32 {x : Int} (h : -2147483648 ≤ x) (h2 : x < 2147483648) : wrap32 x = x := by unfold wrap32;omega
theorem ev_pos {α : Type} {c : Prop} [Decidable c] {a b : Nat → Option α} {v : α} (hc : c) (h : Ev a v) : Ev (fun k => if c then a k else b k) v := Ev.congr (fun _ => if_pos hc) h
theorem ev_neg {α : Type} {c : Prop} [Decidable c] {a b : Nat → Option α} {v : α} (hc : ¬ c) (h : Ev b v) : Ev (fun k => if c then a k else b k) v := Ev.congr (fun _ => if_neg hc) h
theorem ev_some {α β : Type} {o : Option α} {f : Nat → α → Option β} {a : α} {v : β} (ho : o = some a) (h : Ev (fun n => f n a) v) : Ev (fun k => o.bind (f k)) v := Ev.congr (fun k => by rw [ho];rfl) h
theorem ev_now {α : Type} {v v' : α} (h : v = v') : Ev (fun _ => some v) v' := ⟨0,fun _ _ => by rw [h]⟩
theorem around_go (s : ByteArray) (hs : s.size ≤ 1099511627776) (i : Nat) (hi : i ≤ s.size) (hb : Bd s i) : ∀ n x : Nat,x + n = i → Ev (fun k => unit_around.l0 k s i x) ((i : Int),((if i = s.size then i else i + uN s i : Nat) : Int)) := by
 intro n
 induction n with
 | zero =>
  intro x hx
  obtain rfl : x = i := by omega
  refine Ev.step (fun k => unit_around.l0.eq_2 ..) (ev_neg (by omega) ?_)
  by_cases h : x = s.size
  ·rw [if_pos h];exact ev_pos (by omega) (Ev.now _)
  ·have := uN_le4 s x
   refine ev_neg (by omega) (ev_pos (by omega) (ev_pos (by omega) (ev_some (first_at s x (by omega)) (ev_now ?_))))
   show ((x : Int),wrap64 ((x : Int) + (uN s x : Int))) = _
   rw [w64 (by omega) (by omega),if_neg h,Int.natCast_add]
 | succ n ih =>
  intro x hx
  have h2 := hb.2 x (by omega)
  refine Ev.step (fun k => unit_around.l0.eq_2 ..) (ev_pos (by omega) (ev_pos (by omega) (ev_pos (by omega) (ev_some (first_at s x (by omega)) (ev_neg ?_ ?_)))))
  ·show ¬ wrap64 ((x : Int) + (uN s x : Int)) > i
   rw [w64 (by omega) (by omega)];omega
  ·rw [w64 (by omega) (by omega)]
   exact ih (x + 1) (by omega)
theorem around_in (s : ByteArray) (hs : s.size ≤ 1099511627776) (i j : Nat) (hi : i ≤ s.size) (hj : j < i) (h : i < j + uN s j) : ∀ n x : Nat,x + n = j → Ev (fun k => unit_around.l0 k s i x) ((j : Int),((j + uN s j : Nat) : Int)) := by
 intro n
 induction n with
 | zero =>
  intro x hx
  obtain rfl : x = j := by omega
  have := uN_le s x (by omega)
  have e : wrap64 ((x : Int) + (uN s x : Int)) = (x : Int) + (uN s x : Int) := w64 (by omega) (by omega)
  refine Ev.step (fun k => unit_around.l0.eq_2 ..) (ev_pos (by omega) (ev_pos (by omega) (ev_pos (by omega) (ev_some (first_at s x (by omega)) (ev_pos ?_ (ev_now ?_))))))
  ·show wrap64 ((x : Int) + (uN s x : Int)) > i
   rw [e];omega
  ·show ((x : Int),wrap64 ((x : Int) + (uN s x : Int))) = _
   rw [e,Int.natCast_add]
 | succ n ih =>
  intro x hx
  have h2 : x + uN s x ≤ j := by
   by_cases h3 : j < x + uN s x
   ·have := inner_one s x j (by omega) h3;omega
   ·omega
  refine Ev.step (fun k => unit_around.l0.eq_2 ..) (ev_pos (by omega) (ev_pos (by omega) (ev_pos (by omega) (ev_some (first_at s x (by omega)) (ev_neg ?_ ?_)))))
  ·show ¬ wrap64 ((x : Int) + (uN s x : Int)) > i
   rw [w64 (by omega) (by omega)];omega
  ·rw [w64 (by omega) (by omega)]
   exact ih (x + 1) (by omega)
/-- What around answers. -/
theorem around_ans (s : ByteArray) (hs : s.size ≤ 1099511627776) (i : Nat) (hi : i ≤ s.size) : ∃ lo hi : Nat,Ev (fun k => unit_around.f k s i) ((lo : Int),(hi : Int)) ∧ Bd s lo ∧ Bd s hi ∧ lo ≤ i ∧ i ≤ hi ∧ (lo = i ↔ Bd s i) ∧ (i < s.size → i < hi) ∧
  (∀ e,Bd s e → e ≤ i → e ≤ lo) ∧ (∀ e,Bd s e → i < e → hi ≤ e) ∧ (hi = i → i = s.size) := by
 have hm : ∃ x : Nat,mx 0 (wrap64 ((i : Int) - 3)) = x ∧ x = i - 3 := by
  rw [w64 (by omega) (by omega)]
  unfold mx
  split
  ·exact ⟨i - 3,by omega,rfl⟩
  ·exact ⟨0,rfl,by omega⟩
 obtain ⟨x,hx,hx2⟩ := hm
 have hf : ∀ k,unit_around.f k s i = unit_around.l0 k s i x := fun k => by unfold unit_around.f;rw [hx]
 by_cases hb : Bd s i
 ·refine ⟨i,if i = s.size then i else i + uN s i,Ev.congr hf (around_go s hs i hi hb (i - x) x (by omega)),hb,?_,Nat.le_refl _,?_,by simp [hb],?_,fun e _ h => h,?_,?_⟩
  ·split
   ·exact hb
   ·exact bd_next s i hb (by omega)
  ·split <;> omega
  ·intro h;rw [if_neg (by omega)];have := uN_pos s i;omega
  ·intro e he hie
   have h1 := he.1
   rw [if_neg (by omega)]
   exact he.2 i hie
  ·intro h;have := uN_pos s i;split at h <;> omega
 ·obtain ⟨j,hj,hj2,hjb,hj3⟩ := within s i hi hb
  refine ⟨j,j + uN s j,Ev.congr hf (around_in s hs i j hi hj hj2 (j - x) x (by omega)),hjb,bd_next s j hjb (by omega),by omega,by omega,?_,by omega,?_,?_,by omega⟩
  ·exact ⟨fun h => by omega,fun h => absurd h hb⟩
  ·intro e he hei
   rcases Nat.lt_trichotomy e i with h | h | h
   ·by_cases h5 : j < e
    ·exact absurd he (not_bd_inner s j e h5 (by omega))
    ·omega
   ·subst h;exact absurd he hb
   ·omega
  ·intro e he hie
   by_cases h5 : e < j + uN s j
   ·exact absurd he (not_bd_inner s j e (by omega) h5)
   ·omega
def BdI (s : ByteArray) (a : Int) : Prop := 0 ≤ a ∧ Bd s a.toNat
noncomputable def bdB (s : ByteArray) (a : Int) : Bool := @decide (BdI s a) (Classical.propDecidable _)
theorem bdB_iff (s : ByteArray) (a : Int) : bdB s a = true ↔ BdI s a := by unfold bdB;simp
theorem bdI_nat (s : ByteArray) (i : Nat) : BdI s i ↔ Bd s i := by unfold BdI;simp
theorem bdI_le {s : ByteArray} {a : Int} (h : BdI s a) : 0 ≤ a ∧ a ≤ s.size := ⟨h.1,by have := h.2.1;have := h.1;omega⟩
def DownS (s : ByteArray) (a d : Int) : Prop := BdI s d ∧ (d ≤ a ∨ d = 0) ∧ ∀ e,BdI s e → e ≤ a → e ≤ d
def UpS (s : ByteArray) (a d : Int) : Prop := BdI s d ∧ (a ≤ d ∨ d = s.size) ∧ ∀ e,BdI s e → a ≤ e → d ≤ e
def NextS (s : ByteArray) (a d : Int) : Prop := BdI s d ∧ (a < d ∨ d = s.size) ∧ ∀ e,BdI s e → a < e → d ≤ e
def PrevS (s : ByteArray) (a d : Int) : Prop := BdI s d ∧ (d < a ∨ d = 0) ∧ ∀ e,BdI s e → e < a → e ≤ d
theorem DownS.one {s : ByteArray} {a d d' : Int} (h : DownS s a d) (h' : DownS s a d') : d = d' := by
 have := bdI_le h.1;have := bdI_le h'.1
 rcases h.2.1 with h1 | h1 <;> rcases h'.2.1 with h2 | h2
 ·have := h.2.2 d' h'.1 h2;have := h'.2.2 d h.1 h1;omega
 ·have := h'.2.2 d h.1 h1;omega
 ·have := h.2.2 d' h'.1 h2;omega
 ·omega
theorem PrevS.one {s : ByteArray} {a d d' : Int} (h : PrevS s a d) (h' : PrevS s a d') : d = d' := by
 have := bdI_le h.1;have := bdI_le h'.1
 rcases h.2.1 with h1 | h1 <;> rcases h'.2.1 with h2 | h2
 ·have := h.2.2 d' h'.1 h2;have := h'.2.2 d h.1 h1;omega
 ·have := h'.2.2 d h.1 h1;omega
 ·have := h.2.2 d' h'.1 h2;omega
 ·omega
theorem UpS.one {s : ByteArray} {a d d' : Int} (h : UpS s a d) (h' : UpS s a d') : d = d' := by
 have := bdI_le h.1;have := bdI_le h'.1
 rcases h.2.1 with h1 | h1 <;> rcases h'.2.1 with h2 | h2
 ·have := h.2.2 d' h'.1 h2;have := h'.2.2 d h.1 h1;omega
 ·have := h'.2.2 d h.1 h1;omega
 ·have := h.2.2 d' h'.1 h2;omega
 ·omega
theorem NextS.one {s : ByteArray} {a d d' : Int} (h : NextS s a d) (h' : NextS s a d') : d = d' := by
 have := bdI_le h.1;have := bdI_le h'.1
 rcases h.2.1 with h1 | h1 <;> rcases h'.2.1 with h2 | h2
 ·have := h.2.2 d' h'.1 h2;have := h'.2.2 d h.1 h1;omega
 ·have := h'.2.2 d h.1 h1;omega
 ·have := h.2.2 d' h'.1 h2;omega
 ·omega
theorem boundary_ans (s : ByteArray) (hs : s.size ≤ 1099511627776) (a : Int) : Ev (fun k => unit_Boundary.f k s a) (bdB s a) := by
 have hd := bdB_iff s a
 unfold unit_Boundary.f
 by_cases h0 : a < 0
 ·simp only [h0,if_true]
  have : bdB s a = false := by by_cases h : bdB s a = true;(have := bdI_le (hd.1 h);omega);simpa using h
  rw [this];exact Ev.now _
 ·by_cases h1 : a > (s.size : Int)
  ·simp only [h0,h1,if_true,if_false]
   have : bdB s a = false := by by_cases h : bdB s a = true;(have := bdI_le (hd.1 h);omega);simpa using h
   rw [this];exact Ev.now _
  ·simp only [h0,h1,if_false]
   obtain ⟨i,rfl⟩ : ∃ i : Nat,a = i := ⟨a.toNat,by omega⟩
   obtain ⟨lo,hi,hE,_,_,_,_,hiff,_⟩ := around_ans s hs i (by omega)
   refine Ev.bind hE ?_
   have : bdB s i = ((lo : Int) == (i : Int)) := by
    rw [Bool.eq_iff_iff,hd,bdI_nat,← hiff,beq_iff_eq];omega
   rw [this];exact Ev.now _
noncomputable def atA (s : ByteArray) (a : Int) : Int × Int × Bool := if bdB s a = true ∧ a < s.size then (uC s a.toNat,(uN s a.toNat : Int),true) else (0,0,false)
theorem at_ans (s : ByteArray) (hs : s.size ≤ 1099511627776) (a : Int) : Ev (fun k => unit_At.f k s a) (atA s a) := by
 have hd := bdB_iff s a
 unfold unit_At.f atA
 by_cases h0 : a < 0
 ·simp only [h0,if_true]
  rw [if_neg (by rw [hd];intro h;have := bdI_le h.1;omega)];exact Ev.now _
 ·by_cases h1 : a ≥ (s.size : Int)
  ·simp only [h0,h1,if_true,if_false]
   rw [if_neg (by omega)];exact Ev.now _
  ·simp only [h0,h1,if_false]
   refine Ev.bind (boundary_ans s hs a) ?_
   by_cases hb : bdB s a = true
   ·simp only [hb,if_true,show 0 ≤ a by omega,show a ≤ (s.size : Int) by omega,first_at s a.toNat (by omega),Option.bind_some]
    rw [if_pos ⟨trivial,by omega⟩];exact Ev.now _
   ·simp only [hb]
    simpa using Ev.now _
end Go.Proofs.YtgdpnmikcopkmaaDoor.Pu
end
section
namespace Go.Proofs.YtgdpnmikcopkmaaDoor.Pu
open Go Go.RowKit Go.Proofs.YtgdpnmikcopkmaaDoor.U Go.Proofs.YtgdpnmikcopkmaaDoorW.PrintWords Go.Proofs.YtgdpnmikcopkmaaDoorW.PrintLast Go.Proofs.YtgdpnmikcopkmaaDoorW.PrintMore
set_option linter.unusedVariables false
def marksL : List Int := (width_marks.f).getD []
def widesL : List Int := (width_wides.f).getD []
theorem marks_eq : width_marks.f = some marksL := rfl
theorem wides_eq : width_wides.f = some widesL := rfl
theorem marks_ok : okTab marksL = true := by kernel_rfl
theorem wides_ok : okTab widesL = true := by kernel_rfl
theorem within_marks (c : Int) : width_within_rune.f marksL c = some (withinB marksL c) := by
 unfold width_within_rune.f;rw [if_pos ⟨by decide,by decide,marks_ok⟩]
theorem within_wides (c : Int) : width_within_rune.f widesL c = some (withinB widesL c) := by
 unfold width_within_rune.f;rw [if_pos ⟨by decide,by decide,wides_ok⟩]
attribute [local irreducible] marksL widesL
def cls (c : Int) : Int := if c < 0 ∨ c > 1114111 ∨ (55296 ≤ c ∧ c ≤ 57343) then 5 else if c = 10 then 1 else if c < 32 ∨ (127 ≤ c ∧ c ≤ 159) then 2 else if withinB marksL c = true then 3 else if withinB widesL c = true then 4 else 0
theorem ev_val {α : Type} {c : Prop} [Decidable c] {g : Nat → Option α} {v v' : α} (h : c → Ev g v) (h' : ¬ c → Ev g v') : Ev g (if c then v else v') := by
 split
 ·rename_i hc;exact h hc
 ·rename_i hc;exact h' hc
theorem class_j1 (c : Int) (b : Bool) : Ev (fun k => width_Class.j1 k c b) (if b = true then 2 else if withinB marksL c = true then 3 else if withinB widesL c = true then 4 else 0) :=
 Ev.step (fun k => width_Class.j1.eq_2 ..) (ev_val (fun hb => ev_pos hb (Ev.now _)) (fun hb => ev_neg hb (ev_some (a := marksL) marks_eq (ev_some (a := withinB marksL c) (within_marks c) (ev_val (fun h => ev_pos h (Ev.now _)) (fun h => ev_neg h
  (ev_some (a := widesL) wides_eq (ev_some (a := withinB widesL c) (within_wides c) (ev_val (fun h2 => ev_pos h2 (Ev.now _)) (fun h2 => ev_neg h2 (Ev.now _)))))))))))
theorem class_j0 (c : Int) (b : Bool) : Ev (fun k => width_Class.j0 k c b) (if b = true then 5 else if c = 10 then 1 else if c < 32 ∨ (127 ≤ c ∧ c ≤ 159) then 2 else if withinB marksL c = true then 3 else if withinB widesL c = true then 4 else 0) := by
 have hy : ∀ d : Bool,d = true → Ev (fun k => width_Class.j1 k c d) 2 := fun d hd => by have := class_j1 c d;rwa [if_pos hd] at this
 have hn : ∀ d : Bool,¬ d = true → Ev (fun k => width_Class.j1 k c d) (if withinB marksL c = true then 3 else if withinB widesL c = true then 4 else 0) := fun d hd => by have := class_j1 c d;rwa [if_neg hd] at this
 refine Ev.step (fun k => width_Class.j0.eq_2 ..) (ev_val (fun hb => ev_pos hb (Ev.now _)) (fun hb => ev_neg hb (ev_val (fun h => ev_pos h (Ev.now _)) (fun h => ev_neg h (ev_val (fun h2 => ?_) (fun h2 => ?_))))))
 ·by_cases h3 : c < 32
  ·exact ev_pos h3 (hy _ rfl)
  ·exact ev_neg h3 (ev_pos (by omega) (hy _ (by rw [decide_eq_true_eq];omega)))
 ·refine ev_neg (by omega) ?_
  by_cases h3 : c ≥ 127
  ·exact ev_pos h3 (hn _ (by rw [decide_eq_true_eq];omega))
  ·exact ev_neg h3 (hn _ (by simp))
theorem class_ans (c : Int) : Ev (fun k => width_Class.f k c) (cls c) := by
 have hy : ∀ d : Bool,d = true → Ev (fun k => width_Class.j0 k c d) 5 := fun d hd => by have := class_j0 c d;rwa [if_pos hd] at this
 have hn : ∀ d : Bool,¬ d = true → Ev (fun k => width_Class.j0 k c d) (if c = 10 then 1 else if c < 32 ∨ (127 ≤ c ∧ c ≤ 159) then 2 else if withinB marksL c = true then 3 else if withinB widesL c = true then 4 else 0) := fun d hd => by have := class_j0 c d;rwa [if_neg hd] at this
 unfold width_Class.f cls
 refine ev_val (fun h => ?_) (fun h => ?_)
 ·by_cases h1 : c < 0
  ·exact ev_pos h1 (hy _ rfl)
  ·refine ev_neg h1 ?_
   by_cases h2 : c > 1114111
   ·exact ev_pos h2 (hy _ rfl)
   ·exact ev_neg h2 (ev_pos (by omega) (hy _ (by rw [decide_eq_true_eq];omega)))
 ·refine ev_neg (by omega) (ev_neg (by omega) ?_)
  by_cases h3 : c ≥ 55296
  ·exact ev_pos h3 (hn _ (by rw [decide_eq_true_eq];omega))
  ·exact ev_neg h3 (hn _ (by simp))
end Go.Proofs.YtgdpnmikcopkmaaDoor.Pu
end
section
namespace Go.Proofs.YtgdpnmikcopkmaaDoor.Pu
open Go Go.RowKit Go.Proofs.YtgdpnmikcopkmaaDoor.Mu Go.Proofs.YtgdpnmikcopkmaaDoor.U
set_option linter.unusedVariables false
def fffdS : ByteArray := ⟨#[239,191,189]⟩
/-- The numbers of a sequence's inside. -/
def numsGo : List UInt8 → List Int → Option (List Int)
 | [],acc => some acc
 | c :: r,acc =>
  if 48 ≤ c.toNat ∧ c.toNat ≤ 57 then numsGo r (acc.set (acc.length - 1) (min (acc.getD (acc.length - 1) 0 * 10 + ((c.toNat : Int) - 48)) 65535))
  else if c.toNat = 59 ∧ acc.length = 1 then numsGo r (acc ++ [0]) else none
def numsL (s : ByteArray) : List Int := (numsGo s.data.toList [0]).getD []
def numsB (s : ByteArray) : Bool := (numsGo s.data.toList [0]).isSome
/-- Where a sequence's inside ends. -/
def escJ (s : ByteArray) : Nat → Nat → Nat
 | 0,j => j
 | k + 1,j => if j < s.size ∧ 32 ≤ byt s j ∧ byt s j ≤ 63 then escJ s k (j + 1) else j
def escE (s : ByteArray) : Nat := escJ s s.size 2
def Sc.escape (s : Sc) (all : ByteArray) : Sc × Nat :=
 if all.size = 1 then (s,0) else if byt all 1 = 27 then ({ s with marks := false },1) else if byt all 1 ≠ 91 then ({ s with marks := false },2)
 else if escE all = all.size then (s,0)
 else if byt all (escE all) < 64 ∨ 126 < byt all (escE all) then ({ s with marks := false },escE all)
 else (({ s with marks := false } : Sc).carry (byt all (escE all)) (numsL (all.extract 2 (escE all))) (numsB (all.extract 2 (escE all))),escE all + 1)
def Sc.unit (s : Sc) (cl : Int) (t : ByteArray) : Sc :=
 if cl = 3 then s.mark t else if cl = 0 then s.write t 1 else if cl = 5 then s.write fffdS 1
 else if cl = 4 then (if s.w = 1 then s.write fffdS 1 else s.write t 2) else { s with full := false,marks := false }
def Sc.step (s : Sc) (all : ByteArray) : Sc × Nat :=
 if byt all 0 = 27 then s.escape all
 else if byt all 0 < 32 ∨ byt all 0 = 127 then (s.control (byt all 0),1)
 else if fullB all = false then (s,0)
 else (s.unit (cls (uC all 0)) (all.extract 0 (uN all 0)),uN all 0)
def Sc.feedN : Nat → Sc → ByteArray → Sc × ByteArray
 | 0,s,all => (s,all)
 | k + 1,s,all => if all.size = 0 then (s,all) else if (s.step all).2 = 0 then ((s.step all).1,all) else feedN k (s.step all).1 (all.extract (s.step all).2 all.size)
/-- A screen and what it holds back: bytes come. -/
def feedS (p : Sc × ByteArray) (b : ByteArray) : Sc × ByteArray := Sc.feedN (p.2 ++ b).size p.1 (p.2 ++ b)
theorem escJ_bd (s : ByteArray) : ∀ k j,j ≤ escJ s k j ∧ (j ≤ s.size → escJ s k j ≤ s.size)
 | 0,j => ⟨Nat.le_refl _,fun h => h⟩
 | k + 1,j => by
  unfold escJ
  split
  ·rename_i h
   have := escJ_bd s k (j + 1)
   exact ⟨by omega,fun _ => this.2 (by omega)⟩
  ·exact ⟨Nat.le_refl _,fun h => h⟩
theorem numsGo_ok : ∀ (l : List UInt8) (acc r : List Int),numsGo l acc = some r → (∀ x ∈ acc,0 ≤ x ∧ x ≤ 65535) → 1 ≤ acc.length → acc.length ≤ 2 → (∀ x ∈ r,0 ≤ x ∧ x ≤ 65535) ∧ 1 ≤ r.length ∧ r.length ≤ 2
 | [],acc,r,h,ha,h1,h2 => by
  unfold numsGo at h
  injection h with h
  subst h
  exact ⟨ha,h1,h2⟩
 | c :: l,acc,r,h,ha,h1,h2 => by
  unfold numsGo at h
  split at h
  ·refine numsGo_ok l _ r h ?_ (by rw [List.length_set];exact h1) (by rw [List.length_set];exact h2)
   intro x hx
   rcases List.mem_or_eq_of_mem_set hx with hx | rfl
   ·exact ha x hx
   ·have : 0 ≤ acc.getD (acc.length - 1) 0 := by
     rw [List.getD_eq_getElem?_getD,List.getElem?_eq_getElem (by omega)]
     exact (ha _ (List.getElem_mem _)).1
    omega
  ·split at h
   ·rename_i hc
    refine numsGo_ok l _ r h ?_ (by simp) (by simp;omega)
    intro x hx
    rcases List.mem_append.1 hx with hx | hx
    ·exact ha x hx
    ·obtain rfl := List.mem_singleton.1 hx;omega
   ·cases h
/-- What a step keeps. -/
theorem Sc.Ok.mark {s : Sc} (h : s.Ok) (t : ByteArray) : (s.mark t).Ok := by
 unfold Sc.mark
 split
 ·rename_i hm
  obtain ⟨hm1,hm2⟩ := h.ma hm
  refine { h with rl := ?_,cl := ?_,ma := fun _ => ⟨?_,?_⟩ }
  ·show (s.rows.set s.lr _).length ≤ s.h
   rw [List.length_set];exact h.rl
  ·intro row hr
   rcases List.mem_or_eq_of_mem_set hr with hr | rfl
   ·exact h.cl row hr
   ·show ((s.rows.getD s.lr []).set s.lc _).length ≤ s.w
    rw [List.length_set]
    refine h.cl _ ?_
    rw [List.getD_eq_getElem?_getD,List.getElem?_eq_getElem hm1]
    exact List.getElem_mem _
  ·show s.lr < (s.rows.set s.lr _).length
   rw [List.length_set];exact hm1
  ·show s.lc < ((s.rows.set s.lr _).getD s.lr []).length
   rw [List.getD_eq_getElem?_getD,List.getElem?_set_self hm1,Option.getD_some,List.length_set]
   exact hm2
 ·exact h
theorem Sc.Ok.unit {s : Sc} (h : s.Ok) (cl : Int) (t : ByteArray) : (s.unit cl t).Ok := by
 have := h.w1
 unfold Sc.unit
 split
 ·exact h.mark t
 split
 ·exact h.write t 1 (by omega) (by omega) (by omega)
 split
 ·exact h.write _ 1 (by omega) (by omega) (by omega)
 split
 ·split
  ·exact h.write _ 1 (by omega) (by omega) (by omega)
  ·exact h.write t 2 (by omega) (by omega) (by omega)
 ·exact h.unfull.unmark
theorem Sc.Ok.escape {s : Sc} (h : s.Ok) (all : ByteArray) : (s.escape all).1.Ok := by
 unfold Sc.escape
 split
 ·exact h
 split
 ·exact h.unmark
 split
 ·exact h.unmark
 split
 ·exact h
 split
 ·exact h.unmark
 ·exact h.unmark.carry rfl _ _ _
theorem Sc.Ok.step {s : Sc} (h : s.Ok) (all : ByteArray) : (s.step all).1.Ok := by
 unfold Sc.step
 split
 ·exact h.escape all
 split
 ·exact h.control _
 split
 ·exact h
 ·exact h.unit _ _
theorem Sc.Ok.feedN : ∀ (k : Nat) {s : Sc} (h : s.Ok) (all : ByteArray),(Sc.feedN k s all).1.Ok
 | 0,s,h,all => h
 | k + 1,s,h,all => by
  unfold Sc.feedN
  split
  ·exact h
  split
  ·exact h.step all
  ·exact Sc.Ok.feedN k (h.step all) _
theorem feedS_ok {p : Sc × ByteArray} (h : p.1.Ok) (b : ByteArray) : (feedS p b).1.Ok := Sc.Ok.feedN _ h _
theorem step_le (s : Sc) (all : ByteArray) (h0 : 0 < all.size) : (s.step all).2 ≤ all.size := by
 have hn := uN_le all 0 h0
 unfold Sc.step
 split
 ·unfold Sc.escape
  have he := (escJ_bd all all.size 2)
  split
  ·exact Nat.zero_le _
  split
  ·exact h0
  split
  ·show 2 ≤ all.size;omega
  split
  ·exact Nat.zero_le _
  have h2 := he.2 (by omega)
  rename_i h5
  unfold escE at h5 ⊢
  split
  ·exact h2
  ·show escJ all all.size 2 + 1 ≤ all.size;omega
 split
 ·exact h0
 split
 ·exact Nat.zero_le _
 ·show uN all 0 ≤ all.size;omega
/-- What is held back is no longer than what came. -/
theorem feedN_rest : ∀ (k : Nat) (s : Sc) (all : ByteArray),(Sc.feedN k s all).2.size ≤ all.size
 | 0,s,all => Nat.le_refl _
 | k + 1,s,all => by
  unfold Sc.feedN
  split
  ·exact Nat.le_refl _
  split
  ·exact Nat.le_refl _
  ·have := feedN_rest k (s.step all).1 (all.extract (s.step all).2 all.size)
   rw [size_extract _ _ _ (Nat.le_refl _)] at this
   omega
end Go.Proofs.YtgdpnmikcopkmaaDoor.Pu
end
section
namespace Go.Proofs.YtgdpnmikcopkmaaDoor.U
open Go.RowKit Go.Proofs.YtgdpnmikcopkmaaDoorW.PrintWords Go.Proofs.YtgdpnmikcopkmaaDoorW.PrintLast Go.Proofs.YtgdpnmikcopkmaaDoorW.PrintMore
attribute [local go_sem] max2_int min2_int max_two min_two max_three min_three max_four min_four   -- for this text's walks alone
set_option linter.unusedVariables false
set_option linter.unusedSimpArgs false
def screen_counted.f (a0 : Int) : Option (Int) := some (mn (mx a0 1) 65535)
set_option maxHeartbeats 8000000 in
set_option maxRecDepth 100000 in
theorem screen_counted.calls (a0 : Int) (r : Int) (w : World) (h : screen_counted.f a0 = some r) :
  Calls Tryd.prog 40 #[.int .i64 a0] w fun e w' => e = .returned (.int .i64 r) ∧ Below w.heap.size w w' := by
 have HB := Aside0.mk (Below.refl w.heap.size w)
 have H : (some (mn (mx a0 1) 65535)) = some r := h
 clear h
 obtain ⟨ji2,hji2⟩ : ∃ j_ : Int,(mx a0 1) = j_ := ⟨_,rfl⟩
 replace H : (some (mn (ji2) 65535)) = some r := by first | (rw [hji2] at H;exact H) | (simp only [hji2] at H ⊢;exact H)
 (try (have hji2l : 1 ≤ ji2 := by (rw [← hji2];unfold mx;(repeat' split) <;> omega)))
 (try (have hji2m : 0 ≤ ji2 := by omega))
 have hji2_ : (if a0 < 1 then 1 else a0) = ji2 := hji2
 obtain ⟨ji3,hji3⟩ : ∃ j_ : Int,(mn (ji2) 65535) = j_ := ⟨_,rfl⟩
 replace H : (some ji3) = some r := by first | (rw [hji3] at H;exact H) | (simp only [hji3] at H ⊢;exact H)
 have hji3_ : (if 65535 < (ji2) then 65535 else (ji2)) = ji3 := hji3
 obtain rfl := Option.some.inj H
 go_enter Tryd.func40,Tryd.ntmps40
 go_wp2
 go_ret
 exact ⟨by first | rfl | (simp [errW_none,errW_some] <;> rfl) | (simp only [← hji2,← hji3];first | rfl | (simp [errW_none,errW_some] <;> rfl)) | (simp [*,errW_none,errW_some] <;> rfl),au0⟩
end Go.Proofs.YtgdpnmikcopkmaaDoor.U
end
section
namespace Go.Proofs.YtgdpnmikcopkmaaDoor.U
open Go.RowKit Go.Proofs.YtgdpnmikcopkmaaDoor.Pu Go.Proofs.YtgdpnmikcopkmaaDoorW.PrintWords Go.Proofs.YtgdpnmikcopkmaaDoorW.PrintLast Go.Proofs.YtgdpnmikcopkmaaDoorW.PrintMore
set_option linter.unusedVariables false
set_option linter.unusedSimpArgs false
abbrev kRow : Kd (List Cl) := Kd.slice 38 k38
theorem info36 : (Tryd.prog.info? 36).map (fun i => (i.zero,i.size,i.bytes)) = some (some (.slice none 0 0),1,24) := by kernel_rfl
/-- The cells of a screen whose rows' value is rv. -/
abbrev scC (s : Sc) (rv : Value) (hd : ByteArray) : Array Value := #[.int .i64 s.w,.int .i64 s.h,rv,.int .i64 s.r,.int .i64 s.c,.bool s.full,.int .i64 s.lr,.int .i64 s.lc,.bool s.marks,.string hd]
/-- A screen at block p;its rows' blocks are in ok. -/
structure ScrAt (base p : Nat) (ok : Nat → Prop) (W : World) (s : Sc) (hd : ByteArray) : Prop where
 at_ : ∃ rv,W.heap[p]? = some (.cells (scC s rv hd) 69 (0,0)) ∧ Kd.S kRow 36 W base ok rv s.rows
 low : base ≤ p
 ne : ¬ ok p
theorem _root_.Go.Proofs.YtgdpnmikcopkmaaDoorW.PrintWords.Kd.S.own_ok {α : Type} {d : Kd α} {e : Nat} {w : World} {base : Nat} {ok : Nat → Prop} {v : Value} {xs : List α} (h : Kd.S d e w base ok v xs) (k : Nat) (hk : v.ownBlock = some k) : ok k := (Kd.S_R h).1 k hk
/-- What a call has made of the screen,and what it has kept. -/
structure Stp (base p : Nat) (ok : Nat → Prop) (W w : World) (s : Sc) (hd : ByteArray) : Prop where
 at_ : ScrAt base p ok w s hd
 below : Below base W w
 kept : Kept W w (fun k => ok k ∨ k = p)
section
variable {base p : Nat} {ok : Nat → Prop} {W w w1 : World} {s s' : Sc} {hd : ByteArray}
theorem Stp.start (h : ScrAt base p ok W s hd) : Stp base p ok W W s hd := ⟨h,Below.refl _ _,Kept.refl _ _⟩
theorem ScrAt.below (h : ScrAt base p ok W s hd) (hb : Below W.heap.size W w) : ScrAt base p ok w s hd := by
 obtain ⟨⟨rv,h1,h2⟩,h3,h4⟩ := h
 exact ⟨⟨rv,(hb.block p (blk_lt h1)).trans h1,Kd.S_below h2 hb⟩,h3,h4⟩
theorem Stp.more (h : Stp base p ok W w s hd) (hb : Below w.heap.size w w1) (hbs : base ≤ W.heap.size) : Stp base p ok W w1 s hd :=
 ⟨h.at_.below hb,h.below.trans (hb.mono (Nat.le_trans hbs h.kept.1)),h.kept.below hb⟩
theorem Stp.then_ (h : Stp base p ok W w s hd) {hd' : ByteArray} (h2 : Stp base p ok w w1 s' hd') : Stp base p ok W w1 s' hd' :=
 ⟨h2.at_,h.below.trans h2.below,h.kept.then_ h2.kept (fun k hk => .inl hk)⟩
theorem Stp.size (h : Stp base p ok W w s hd) : W.heap.size ≤ w.heap.size := h.kept.1
theorem Stp.fresh (h : Stp base p ok W w s hd) (hf : ∀ k,W.heap.size ≤ k → ok k) : ∀ k,w.heap.size ≤ k → ok k := fun k hk => hf k (Nat.le_trans h.size hk)
theorem Stp.bs (h : Stp base p ok W w s hd) (hb : base ≤ W.heap.size) : base ≤ w.heap.size := Nat.le_trans hb h.size
/-- A field is written. -/
theorem ScrAt.put (h : ScrAt base p ok W s hd) (j : Nat) (v : Value) {hd' : ByteArray} (hr : s'.rows = s.rows) (he : ∀ rv,(scC s rv hd).setIfInBounds j v = scC s' rv hd') : ScrAt base p ok (W.setCell ⟨p,j,none⟩ v) s' hd' := by
 obtain ⟨⟨rv,h1,h2⟩,h3,h4⟩ := h
 refine ⟨⟨rv,?_,?_⟩,h3,h4⟩
 ·exact blk_put h1 j _ (he rv)
 ·rw [hr];exact Kd.S_far (p := ⟨p,j,none⟩) h2 (fun k hk (he : k = p) => h4 (he ▸ hk)) v
theorem Stp.put (h : Stp base p ok W w s hd) (j : Nat) (v : Value) {hd' : ByteArray} (hr : s'.rows = s.rows) (he : ∀ rv,(scC s rv hd).setIfInBounds j v = scC s' rv hd') : Stp base p ok W (w.setCell ⟨p,j,none⟩ v) s' hd' :=
 ⟨h.at_.put j v hr he,h.below.setCell (p := ⟨p,j,none⟩) h.at_.low v,h.kept.setCell (p := ⟨p,j,none⟩) (.inl (.inr rfl)) v⟩
/-- The rows are written: they are others now. -/
theorem Stp.rows (h : Stp base p ok W w s hd) (v : Value) (rows : List (List Cl)) (hS : Kd.S kRow 36 w base ok v rows) : Stp base p ok W (w.setCell ⟨p,2,none⟩ v) { s with rows := rows } hd := by
 obtain ⟨⟨⟨rv,h1,h2⟩,h3,h4⟩,h5,h6⟩ := h
 exact ⟨⟨⟨v,blk_put h1 2 _ rfl,Kd.S_far (p := ⟨p,2,none⟩) hS (fun k hk (he : k = p) => h4 (he ▸ hk)) v⟩,h3,h4⟩,h5.setCell (p := ⟨p,2,none⟩) h3 v,h6.setCell (p := ⟨p,2,none⟩) (.inl (.inr rfl)) v⟩
/-- What is read at the pointer. -/
theorem sc_cells {rv : Value} (h : w.heap[p]? = some (.cells (scC s rv hd) 69 (0,0))) : w.cell? ⟨p,0,none⟩ = some (.int .i64 s.w) ∧ w.cell? ⟨p,1,none⟩ = some (.int .i64 s.h) ∧ w.cell? ⟨p,2,none⟩ = some rv ∧ w.cell? ⟨p,3,none⟩ = some (.int .i64 s.r) ∧ w.cell? ⟨p,4,none⟩ = some (.int .i64 s.c) ∧ w.cell? ⟨p,5,none⟩ = some (.bool s.full) ∧ w.cell? ⟨p,6,none⟩ = some (.int .i64 s.lr) ∧ w.cell? ⟨p,7,none⟩ = some (.int .i64 s.lc) ∧ w.cell? ⟨p,8,none⟩ = some (.bool s.marks) ∧ w.cell? ⟨p,9,none⟩ = some (.string hd) :=
 ⟨blk_cell h 0,blk_cell h 1,blk_cell h 2,blk_cell h 3,blk_cell h 4,blk_cell h 5,blk_cell h 6,blk_cell h 7,blk_cell h 8,blk_cell h 9⟩
theorem ScrAt.cells (h : ScrAt base p ok w s hd) : ∃ rv,(w.cell? ⟨p,0,none⟩ = some (.int .i64 s.w) ∧ w.cell? ⟨p,1,none⟩ = some (.int .i64 s.h) ∧ w.cell? ⟨p,2,none⟩ = some rv ∧ w.cell? ⟨p,3,none⟩ = some (.int .i64 s.r) ∧ w.cell? ⟨p,4,none⟩ = some (.int .i64 s.c) ∧ w.cell? ⟨p,5,none⟩ = some (.bool s.full) ∧ w.cell? ⟨p,6,none⟩ = some (.int .i64 s.lr) ∧ w.cell? ⟨p,7,none⟩ = some (.int .i64 s.lc) ∧ w.cell? ⟨p,8,none⟩ = some (.bool s.marks) ∧ w.cell? ⟨p,9,none⟩ = some (.string hd)) ∧ Kd.S kRow 36 w base ok rv s.rows := by
 obtain ⟨⟨rv,h1,h2⟩,_,_⟩ := h
 exact ⟨rv,sc_cells h1,h2⟩
theorem ScrAt.blk (h : ScrAt base p ok w s hd) : ∃ cs,w.heap[p]? = some (.cells cs 69 (0,0)) := by
 obtain ⟨⟨rv,h1,h2⟩,_,_⟩ := h
 exact ⟨_,h1⟩
theorem ScrAt.frozen (h : ScrAt base p ok w s hd) (j : Nat) : w.frozen? ⟨p,j,none⟩ = false := by
 obtain ⟨cs,h1⟩ := h.blk
 exact blk_frozen h1 j
theorem ScrAt.lt (h : ScrAt base p ok w s hd) : p < w.heap.size := by
 obtain ⟨cs,h1⟩ := h.blk
 exact blk_lt h1
end
theorem cell_below {w w' : World} {a : Addr} {v : Value} (h : w.cell? a = some v) (hb : Below w.heap.size w w') : w'.cell? a = some v := by
 have := hb.block a.block (World.block_lt_of_cell? w a h)
 simpa [World.cell?,this] using h
theorem run_eql_ptr_nil {tp te : TypeId} {j : TypeInfo} (w : World) (a : Option Addr) (hp : Tryd.prog.underlying tp = some (.pointer te)) (hte : Tryd.prog.info? te = some j) : (binOp .eql tp (.pointer a) (.pointer none)).run Tryd.prog w = .ok (.bool a.isNone) w := by
 have h : ∀ d : Nat,(Op.equalIn (d + 1) tp (.pointer a) (.pointer none)).run Tryd.prog w = .ok a.isNone w := fun d => by
  cases a <;> simp [Op.equalIn,run_underlying hp,sizeOf,typeInfo,hte]
 simp only [binOp]
 simp [Op.equal,Op.maxDepth,h 9999]
end Go.Proofs.YtgdpnmikcopkmaaDoor.U
end
section
namespace Go.Proofs.YtgdpnmikcopkmaaDoor.U
open Go.RowKit Go.Proofs.YtgdpnmikcopkmaaDoor.Pu Go.Proofs.YtgdpnmikcopkmaaDoorW.PrintWords Go.Proofs.YtgdpnmikcopkmaaDoorW.PrintLast Go.Proofs.YtgdpnmikcopkmaaDoorW.PrintMore
set_option linter.unusedVariables false
set_option linter.unusedSimpArgs false
def cntN (n : Nat) : Nat := min (max n 1) 65535
theorem cnt_eq (n : Nat) : screen_counted.f (n : Int) = some ((cntN n : Nat) : Int) := by
 unfold screen_counted.f mn mx cntN
 split <;> split <;> (congr 1;omega)
theorem cnt_ok {n : Nat} (h : 1 ≤ n) (h2 : n ≤ 65535) : cntN n = n := by unfold cntN;omega
def _root_.Go.Proofs.YtgdpnmikcopkmaaDoor.Pu.Sc.rdy (s : Sc) : Sc := { s with w := cntN s.w,h := cntN s.h }
theorem rdy_ok {s : Sc} (h : s.Ok) : s.rdy = s := by
 unfold Sc.rdy
 rw [cnt_ok h.w1 h.w2,cnt_ok h.h1 h.h2]
def rdy3.T : Bool × List (List Nat × List Nat) := (true,[([],[]),([],[]),([],[]),([2],[2]),([3],[3]),([4],[4]),([5],[5]),([],[]),([7],[7]),([8],[8]),([9],[9]),([10,6],[10]),([0,0,2,3,4,5,6,10,11],[0]),([12,0,2,3,4,5,6,10,11],[12]),([13,6,11,0,2,3,4,5,6,10,11],[6,13]),([1,0,1,2,3,4,5,6,7,8,9,10,11,12,13,14],[1]),([15,0,1,2,3,4,5,6,7,8,9,10,11,12,13,14],[15]),([16,11,14,0,1,2,3,4,5,6,7,8,9,10,11,12,13,14],[11,16])])
def rdy3.B : List Nat := [0,0,0,4,12,28,60,0,128,384,896,2044,4093,8189,16381,32767,65535,131071]
theorem rdy3.tab : rtab .any (opsOf Tryd.f42 3) = rdy3.T := by kernel_rfl
theorem rdy3.bits : waitsOk rdy3.T.2 rdy3.B = true := by kernel_rfl
set_option maxRecDepth 100000 in
set_option maxHeartbeats 4000000 in
theorem sc_ready {base p : Nat} {ok : Nat → Prop} {W : World} {s : Sc} {hd : ByteArray} (h : ScrAt base p ok W s hd) (hb : base ≤ W.heap.size) :
  Calls Tryd.prog 42 #[.pointer (some ⟨p,0,none⟩)] W fun e w' => e = .returned (.bool true) ∧ Stp base p ok W w' s.rdy hd := by
 have hq := run_eql_ptr_nil (tp := 28) (te := 69) W (some ⟨p,0,none⟩) Tryd.underlying28 (j := _) rfl
 have hs := Stp.start h
 obtain ⟨rv,⟨c0,c1,_⟩,_⟩ := h.cells
 go_enter Tryd.func42,Tryd.ntmps42
 go_upto_region 3 with (fail)
 refine start_ (n := 18) (S := fun w' => w'.cell? ⟨p,0,none⟩ = some (.int .i64 s.w) ∧ w'.cell? ⟨p,1,none⟩ = some (.int .i64 s.h)) (ds := [14,17]) #[false,false,false,false,false,false,false,false,false,false,false,false,false,false,false,false,false,false] (by kernel_rfl) rfl rfl ⟨c0,c1⟩ (fun hHeld => ?_);refine with_tabW rdy3.tab rdy3.bits (fun HT_ HW_ => ?_)
 have hs0 := hs.more (below_drew (Below.refl _ _)) hb
 generalize W.drew = w0 at hs0 hHeld ⊢
 clear hs
 refine pure_ (i := 0) (N := (some 5)) (v := ?_) (a' := ?_) #[true,false,false,false,false,false,false,false,false,false,false,false,false,false,false,false,false,false] rfl rfl (any_of HT_.out (by kernel_rfl)) (fun _ _ _ h => h) (Or.inl ⟨by rfl,?_⟩) ?_ ?_
 rotate_left
 ·intro w'
  go_simp
  with_reducible rfl
 rotate_left
 ·simp only [Act.put,List.setIfInBounds_toArray,List.set_cons_zero,List.set_cons_succ,i64_w,i32_w]
  rfl
 refine pure_ (i := 1) (N := (some 6)) (v := ?_) (a' := ?_) #[true,true,false,false,false,false,false,false,false,false,false,false,false,false,false,false,false,false] rfl rfl (any_of HT_.out (by kernel_rfl)) (fun _ _ _ h => h) (Or.inl ⟨by rfl,?_⟩) ?_ ?_
 rotate_left
 ·intro w'
  go_simp
  with_reducible rfl
 rotate_left
 ·simp only [Act.put,List.setIfInBounds_toArray,List.set_cons_zero,List.set_cons_succ,i64_w,i32_w]
  rfl
 refine pure_ (i := 2) (N := (some 7)) (v := ?_) (a' := ?_) #[true,true,true,false,false,false,false,false,false,false,false,false,false,false,false,false,false,false] rfl rfl (any_of HT_.out (by kernel_rfl)) (fun _ _ _ h => h) (Or.inl ⟨by rfl,?_⟩) ?_ ?_
 rotate_left
 ·intro w'
  go_simp
  with_reducible rfl
 rotate_left
 ·simp only [Act.put,List.setIfInBounds_toArray,List.set_cons_zero,List.set_cons_succ,i64_w,i32_w]
  rfl
 refine pure_ (i := 3) (N := (some 8)) (v := ?_) (a' := ?_) #[true,true,true,true,false,false,false,false,false,false,false,false,false,false,false,false,false,false] rfl rfl (any_of HT_.out (by kernel_rfl)) (fun _ _ _ h => h) (Or.inl ⟨by rfl,?_⟩) ?_ ?_
 rotate_left
 ·intro w'
  go_simp
  with_reducible rfl
 rotate_left
 ·simp only [Act.put,List.setIfInBounds_toArray,List.set_cons_zero,List.set_cons_succ,i64_w,i32_w]
  rfl
 refine pure_ (i := 4) (N := (some 9)) (v := ?_) (a' := ?_) #[true,true,true,true,true,false,false,false,false,false,false,false,false,false,false,false,false,false] rfl rfl (any_of HT_.out (by kernel_rfl)) (fun _ _ _ h => h) (Or.inl ⟨by rfl,?_⟩) ?_ ?_
 rotate_left
 ·intro w'
  go_simp
  with_reducible rfl
 rotate_left
 ·simp only [Act.put,List.setIfInBounds_toArray,List.set_cons_zero,List.set_cons_succ,i64_w,i32_w]
  rfl
 refine take_ (i := 5) (N := (some 10)) (v := ?_) (a' := ?_) #[true,true,true,true,true,true,false,false,false,false,false,false,false,false,false,false,false,false] rfl rfl (take_ofW HT_.out HW_.out (by kernel_rfl)) (fun _ _ _ h => h) (Or.inl ⟨by rfl,?_⟩) hHeld ?_ ?_
 rotate_left
 ·rintro w' ⟨s1,s2⟩
  go_simp
  with_reducible rfl
 rotate_left
 ·simp only [Act.put,List.setIfInBounds_toArray,List.set_cons_zero,List.set_cons_succ,i64_w,i32_w]
  rfl
 refine pure_ (i := 7) (N := (some 12)) (v := ?_) (a' := ?_) #[true,true,true,true,true,true,false,true,false,false,false,false,false,false,false,false,false,false] rfl rfl (any_of HT_.out (by kernel_rfl)) (fun _ _ _ h => h) (Or.inl ⟨by rfl,?_⟩) ?_ ?_
 rotate_left
 ·intro w'
  go_simp
  with_reducible rfl
 rotate_left
 ·simp only [Act.put,List.setIfInBounds_toArray,List.set_cons_zero,List.set_cons_succ,i64_w,i32_w]
  rfl
 refine pure_ (i := 8) (N := (some 13)) (v := ?_) (a' := ?_) #[true,true,true,true,true,true,false,true,true,false,false,false,false,false,false,false,false,false] rfl rfl (any_of HT_.out (by kernel_rfl)) (fun _ _ _ h => h) (Or.inl ⟨by rfl,?_⟩) ?_ ?_
 rotate_left
 ·intro w'
  go_simp
  with_reducible rfl
 rotate_left
 ·simp only [Act.put,List.setIfInBounds_toArray,List.set_cons_zero,List.set_cons_succ,i64_w,i32_w]
  rfl
 refine pure_ (i := 9) (N := (some 14)) (v := ?_) (a' := ?_) #[true,true,true,true,true,true,false,true,true,true,false,false,false,false,false,false,false,false] rfl rfl (any_of HT_.out (by kernel_rfl)) (fun _ _ _ h => h) (Or.inl ⟨by rfl,?_⟩) ?_ ?_
 rotate_left
 ·intro w'
  go_simp
  with_reducible rfl
 rotate_left
 ·simp only [Act.put,List.setIfInBounds_toArray,List.set_cons_zero,List.set_cons_succ,i64_w,i32_w]
  rfl
 refine take_ (i := 10) (N := (some 15)) (v := ?_) (a' := ?_) #[true,true,true,true,true,true,false,true,true,true,true,false,false,false,false,false,false,false] rfl rfl (take_ofW HT_.out HW_.out (by kernel_rfl)) (fun _ _ _ h => h) (Or.inl ⟨by rfl,?_⟩) hHeld ?_ ?_
 rotate_left
 ·rintro w' ⟨s1,s2⟩
  go_simp
  with_reducible rfl
 rotate_left
 ·simp only [Act.put,List.setIfInBounds_toArray,List.set_cons_zero,List.set_cons_succ,i64_w,i32_w]
  rfl
 refine one_ (i := 6) (N := (some 11)) #[true,true,true,true,true,true,true,true,true,true,true,false,false,false,false,false,false,false] rfl rfl (one_of HT_.out (by kernel_rfl)) (by decide) (fun K hK => ?_)
 refine call_ 40 #[.int .i64 s.w] (by rfl) rfl au6 ?_
 refine (screen_counted.calls _ _ _ (cnt_eq s.w)).mono ?_
 rintro e w1 ⟨rfl,hb1⟩
 have hs1 := hs0.more hb1 hb
 refine ⟨_,rfl,hK.out _ _ ⟨cell_below hHeld.1 hb1,cell_below hHeld.2 hb1⟩ (fun hHeld => ?_)⟩
 clear hK K hs0 hb1
 refine norm_ (a' := ?_) ?_ ?_
 rotate_left
 ·show Act.put _ (some 11) _ = _
  simp only [Act.put,List.setIfInBounds_toArray,List.set_cons_zero,List.set_cons_succ,i64_w,i32_w]
  rfl
 refine one_ (i := 11) (N := (some 16)) #[true,true,true,true,true,true,true,true,true,true,true,true,false,false,false,false,false,false] rfl rfl (one_of HT_.out (by kernel_rfl)) (by decide) (fun K hK => ?_)
 refine call_ 40 #[.int .i64 s.h] (by rfl) rfl au6 ?_
 refine (screen_counted.calls _ _ _ (cnt_eq s.h)).mono ?_
 rintro e w2 ⟨rfl,hb2⟩
 have hs2 := hs1.more hb2 hb
 refine ⟨_,rfl,hK.out _ _ ⟨cell_below hHeld.1 hb2,cell_below hHeld.2 hb2⟩ (fun hHeld => ?_)⟩
 clear hK K hs1 hb2
 have c0 := hHeld.1
 have g0 := hs2.at_.frozen 0
 refine norm_ (a' := ?_) ?_ ?_
 rotate_left
 ·show Act.put _ (some 16) _ = _
  simp only [Act.put,List.setIfInBounds_toArray,List.set_cons_zero,List.set_cons_succ,i64_w,i32_w]
  rfl
 refine pure_ (i := 12) (N := (some 17)) (v := ?_) (a' := ?_) #[true,true,true,true,true,true,true,true,true,true,true,true,true,false,false,false,false,false] rfl rfl (any_of HT_.out (by kernel_rfl)) (fun _ _ _ h => h) (Or.inl ⟨by rfl,?_⟩) ?_ ?_
 rotate_left
 ·intro w'
  go_simp
  with_reducible rfl
 rotate_left
 ·simp only [Act.put,List.setIfInBounds_toArray,List.set_cons_zero,List.set_cons_succ,i64_w,i32_w]
  rfl
 refine pure_ (i := 13) (N := (some 18)) (v := ?_) (a' := ?_) #[true,true,true,true,true,true,true,true,true,true,true,true,true,true,false,false,false,false] rfl rfl (any_of HT_.out (by kernel_rfl)) (fun _ _ _ h => h) (Or.inl ⟨by rfl,?_⟩) ?_ ?_
 rotate_left
 ·intro w'
  go_simp
  with_reducible rfl
 rotate_left
 ·simp only [Act.put,List.setIfInBounds_toArray,List.set_cons_zero,List.set_cons_succ,i64_w,i32_w]
  rfl
 refine last_ (i := 14) (N := none) #[true,true,true,true,true,true,true,true,true,true,true,true,true,true,true,false,false,false] rfl rfl (one_of HT_.out (by kernel_rfl)) (by decide) (fun K hK => ?_)
 refine skip_ (w1 := ?_) (by rfl) rfl ?_ ?_
 rotate_left
 ·go_simp
  rfl
 refine hK.out _ _ ?_
 clear hK K
 have hs3 := hs2.put (s' := { s with w := cntN s.w }) 0 (.int .i64 (cntN s.w : Nat)) rfl (fun _ => rfl)
 obtain ⟨_,⟨_,c1,_⟩,_⟩ := hs3.at_.cells
 generalize w2.setCell ⟨p,0,none⟩ (.int .i64 (cntN s.w : Nat)) = w3 at hs3 c1 ⊢
 clear hs2 c0 g0 hHeld
 have g1 := hs3.at_.frozen 1
 refine pure_ (i := 15) (N := (some 19)) (v := ?_) (a' := ?_) #[true,true,true,true,true,true,true,true,true,true,true,true,true,true,true,true,false,false] rfl rfl (any_of HT_.out (by kernel_rfl)) (fun _ _ _ h => h) (Or.inl ⟨by rfl,?_⟩) ?_ ?_
 rotate_left
 ·intro w'
  go_simp
  with_reducible rfl
 rotate_left
 ·simp only [Act.put,List.setIfInBounds_toArray,List.set_cons_zero,List.set_cons_succ,i64_w,i32_w]
  rfl
 refine pure_ (i := 16) (N := (some 20)) (v := ?_) (a' := ?_) #[true,true,true,true,true,true,true,true,true,true,true,true,true,true,true,true,true,false] rfl rfl (any_of HT_.out (by kernel_rfl)) (fun _ _ _ h => h) (Or.inl ⟨by rfl,?_⟩) ?_ ?_
 rotate_left
 ·intro w'
  go_simp
  with_reducible rfl
 rotate_left
 ·simp only [Act.put,List.setIfInBounds_toArray,List.set_cons_zero,List.set_cons_succ,i64_w,i32_w]
  rfl
 refine last_ (i := 17) (N := none) #[true,true,true,true,true,true,true,true,true,true,true,true,true,true,true,true,true,true] rfl rfl (one_of HT_.out (by kernel_rfl)) (by decide) (fun K hK => ?_)
 refine skip_ (w1 := ?_) (by rfl) rfl ?_ ?_
 rotate_left
 ·go_simp
  rfl
 refine hK.out _ _ ?_
 clear hK K
 have hs4 := hs3.put (s' := s.rdy) 1 (.int .i64 (cntN s.h : Nat)) rfl (fun _ => rfl)
 generalize w3.setCell ⟨p,1,none⟩ (.int .i64 (cntN s.h : Nat)) = w4 at hs4 ⊢
 clear hs3 c1 g1
 refine done_ (done_of HT_.out (by kernel_rfl)) ?_
 clear HT_ HW_
 go_wp2
 go_ret
 exact ⟨rfl,hs4⟩
set_option maxRecDepth 100000 in
set_option maxHeartbeats 4000000 in
theorem sc_full {base p : Nat} {ok : Nat → Prop} {W : World} {s : Sc} {hd : ByteArray} (h : ScrAt base p ok W s hd) :
  Calls Tryd.prog 25 #[.pointer (some ⟨p,0,none⟩)] W fun e w' => e = .returned (.bool s.full) ∧ Below W.heap.size W w' := by
 have hq := run_eql_ptr_nil (tp := 28) (te := 69) W (some ⟨p,0,none⟩) Tryd.underlying28 (j := _) rfl
 obtain ⟨rv,⟨c0,c1,c2,c3,c4,c5,c6,c7,c8,c9⟩,_⟩ := h.cells
 go_enter Tryd.func25,Tryd.ntmps25
 go_wp2
 go_ret
 exact ⟨rfl,Below.refl _ _⟩
set_option maxRecDepth 100000 in
set_option maxHeartbeats 4000000 in
theorem sc_cursor {base p : Nat} {ok : Nat → Prop} {W : World} {s : Sc} {hd : ByteArray} (h : ScrAt base p ok W s hd) :
  Calls Tryd.prog 26 #[.pointer (some ⟨p,0,none⟩)] W fun e w' => e = .returned (.agg #[.int .i64 s.r,.int .i64 s.c]) ∧ Below W.heap.size W w' := by
 have hq := run_eql_ptr_nil (tp := 28) (te := 69) W (some ⟨p,0,none⟩) Tryd.underlying28 (j := _) rfl
 obtain ⟨rv,⟨c0,c1,c2,c3,c4,c5,c6,c7,c8,c9⟩,_⟩ := h.cells
 go_enter Tryd.func26,Tryd.ntmps26
 have d3 : ∀ o,(W.alloc o).cell? ⟨p,3,none⟩ = some (.int .i64 s.r) := fun o => cell_below c3 (below_alloc (Below.refl _ _) o)
 have d4 : ∀ o,(W.alloc o).cell? ⟨p,4,none⟩ = some (.int .i64 s.c) := fun o => cell_below c4 (below_alloc (Below.refl _ _) o)
 go_wp2
 refine bodyPost_ret (results_cell_row rfl _ _ W.heap.size 24 #[.int .i64 s.r,.int .i64 s.c] (0,0) _ rfl (World.alloc_heap_new W _) Tryd.underlying24 rfl (by kernel_rfl)) rfl ?_
 exact ⟨rfl,below_alloc (Below.refl _ _) _⟩
end Go.Proofs.YtgdpnmikcopkmaaDoor.U
end
section
namespace Go.Proofs.YtgdpnmikcopkmaaDoor.U
open Go.RowKit Go.Proofs.YtgdpnmikcopkmaaDoorW.PrintWords Go.Proofs.YtgdpnmikcopkmaaDoorW.PrintLast Go.Proofs.YtgdpnmikcopkmaaDoorW.PrintMore
attribute [local go_sem] max2_int min2_int max_two min_two max_three min_three max_four min_four   -- for this text's walks alone
set_option linter.unusedVariables false
set_option linter.unusedSimpArgs false
def screen_blank.f  : Option (ByteArray × Int) := some ((⟨#[32]⟩ : ByteArray),1)
set_option maxHeartbeats 8000000 in
set_option maxRecDepth 100000 in
theorem screen_blank.calls  (r1 : ByteArray) (r2 : Int) (w : World) (h : screen_blank.f  = some (r1,r2)) :
  Calls Tryd.prog 55 #[] w fun e w' => e = .returned (.agg #[.string r1,.int .i64 r2]) ∧ Below w.heap.size w w' := by
 have hu38 := Tryd.underlying38
 have HB := Aside0.mk (Below.refl w.heap.size w)
 have H : (some ((⟨#[32]⟩ : ByteArray),1)) = some (r1,r2) := h
 clear h
 simp only [Option.some.injEq,Prod.mk.injEq] at H
 obtain ⟨rfl,rfl⟩ := H
 go_enter Tryd.func55,Tryd.ntmps55
 go_wp2_with (first | ((with_reducible refine gate_dst (N := 0) rfl ?_);refine box_event ?hg (N := 0) ?hd (cs := #[.string (⟨#[]⟩ : ByteArray),.int .i64 0]) (t := 38) ?hr ?_;(case hd => rfl);(case hg => rfl);(case hr => first | (go_simp;done) | (go_simp;rfl));intro gb126 hg w1 hbox hb;have n0_ := Aside0.mk (below_step au0 hb);have n1_ := Aside0.mk (hbox);have n2_ := Aside0.mk ((by rw [hg];exact (below_size au0) : w.heap.size ≤ gb126));have n3_ := Aside0.mk ((by rw [hg];exact (below_size au0) : w.heap.size ≤ gb126));clear HB;have HB := n0_;have BK126 := n1_;have GW126 := n2_;have GE126 := n3_;clear n0_ n1_ n2_ n3_;clear hb hbox hg;have hcz2_0 : w1.cell? ⟨gb126,0,none⟩ = some (.string (⟨#[]⟩ : ByteArray)) := (blk_cell BK126.out 0).trans rfl;have hcz2_1 : w1.cell? ⟨gb126,1,none⟩ = some (.int .i64 0) := (blk_cell BK126.out 1).trans rfl;have hfz2_0 := blk_frozen BK126.out 0;have hfz2_1 := blk_frozen BK126.out 1))
 refine bodyPost_ret (results_cell_row rfl _ _ gb126 38 #[.string (⟨#[32]⟩ : ByteArray),.int .i64 1] (0,0) _ rfl (by (with_reducible repeat (first | refine blk_drewN ?_ _ | refine blk_drew ?_ | refine blk_alloc ?_ _));refine blk_put (cs := #[.string (⟨#[32]⟩ : ByteArray),.int .i64 0]) ?_ 1 _ rfl;(with_reducible repeat (first | refine blk_drewN ?_ _ | refine blk_drew ?_ | refine blk_alloc ?_ _));refine blk_put (cs := #[.string (⟨#[]⟩ : ByteArray),.int .i64 0]) ?_ 0 _ rfl;(with_reducible repeat (first | refine blk_drewN ?_ _ | refine blk_drew ?_ | refine blk_alloc ?_ _));exact BK126.out) Tryd.underlying38 rfl (by kernel_rfl)) rfl ?_
 exact ⟨au2,by repeat (first | (with_reducible first | exact HB.out | apply below_alloc | apply pw_below_drewN | apply below_drew1 | refine below_set ?_ GE126.out) | exact HB.out)⟩
end Go.Proofs.YtgdpnmikcopkmaaDoor.U
end
section
namespace Go.Proofs.YtgdpnmikcopkmaaDoor.U
open Go.RowKit Go.Proofs.YtgdpnmikcopkmaaDoor.Pu Go.Proofs.YtgdpnmikcopkmaaDoorW.PrintWords Go.Proofs.YtgdpnmikcopkmaaDoorW.PrintLast Go.Proofs.YtgdpnmikcopkmaaDoorW.PrintMore
set_option linter.unusedVariables false
set_option linter.unusedSimpArgs false
abbrev RowAt (base : Nat) (ok : Nat → Prop) (W : World) (v : Value) (row : List Cl) : Prop := Kd.R k38 38 W base ok v row
section
variable {base g n cap : Nat} {ok : Nat → Prop} {W : World} {row : List Cl}
theorem row_cells (h : RowAt base ok W (.slice (some ⟨g,0,none⟩) n cap) row) (i : Nat) (hi : i < row.length) : W.cell? ⟨g,i * 2,none⟩ = some (.string (gC row i).f0) ∧ W.cell? ⟨g,i * 2 + 1,none⟩ = some (.int .i64 (gC row i).f1) ∧ W.frozen? ⟨g,i * 2,none⟩ = false ∧ W.frozen? ⟨g,i * 2 + 1,none⟩ = false := by
 have hn := (Kd.R_reads' h).1
 obtain ⟨c,hcl,hM,hcc,hf⟩ := Kd.R_elem h noC (i : Int) (by omega) (by omega)
 rw [Int.toNat_natCast] at hM hcc hf
 have hM' : k38.M W base (fun k => ok k ∧ k ≠ g) (gC row i) c := hM
 obtain rfl := k38_openM hM'
 exact ⟨hcc 0 _ rfl,hcc 1 _ rfl,hf 0,hf 1⟩
theorem row_put (h : RowAt base ok W (.slice (some ⟨g,0,none⟩) n cap) row) (i : Nat) (hi : i < row.length) (x : Cl) : RowAt base ok ((W.setCell ⟨g,i * 2,none⟩ (.string x.f0)).setCell ⟨g,i * 2 + 1,none⟩ (.int .i64 x.f1)) (.slice (some ⟨g,0,none⟩) n cap) (row.set i x) := by
 have hn := (Kd.R_reads' h).1
 obtain ⟨c,hcl,hM,hcc,hf⟩ := Kd.R_elem h noC (i : Int) (by omega) (by omega)
 have hc2 : c.length = 2 := hcl
 have hh := (Kd.R_seg h (i : Int) (by omega) (by omega) (seg := [.string x.f0,.int .i64 x.f1]) (j := 0) (okp := fun _ => False) hcl hcc (Nat.le_refl 2) (x' := x) (by
  rw [List.take_zero,List.nil_append,List.drop_eq_nil_of_le (by rw [hc2];exact Nat.le_refl _),List.append_nil]
  exact k38_mkM _ _ _ x) (fun _ hk => hk.elim)).1
 rw [Int.toNat_natCast] at hh
 exact hh
end
theorem kept_put {base g : Nat} {W w : World} (i : Nat) (u v : Value) (hg : base ≤ g) (hB : Below base W w) (hK : Kept W w (fun k => k = g)) : Below base W ((w.setCell ⟨g,i * 2,none⟩ u).setCell ⟨g,i * 2 + 1,none⟩ v) ∧ Kept W ((w.setCell ⟨g,i * 2,none⟩ u).setCell ⟨g,i * 2 + 1,none⟩ v) (fun k => k = g) :=
 ⟨(hB.setCell (p := ⟨g,i * 2,none⟩) hg u).setCell (p := ⟨g,i * 2 + 1,none⟩) hg v,(hK.setCell (p := ⟨g,i * 2,none⟩) (.inl rfl) u).setCell (p := ⟨g,i * 2 + 1,none⟩) (.inl rfl) v⟩
theorem wrapN {x : Int} (h : -1099511627776 ≤ x) (h2 : x ≤ 1099511627776) : IntKind.i64.wrap x = x := (i64_w _).trans (by unfold wrap64;omega)
theorem blank_eq : screen_blank.f = some (blC.f0,blC.f1) := rfl
theorem gC_set (row : List Cl) (i j : Nat) (x : Cl) (h : i ≠ j) : gC (row.set i x) j = gC row j := by
 unfold gC
 rw [List.getD_eq_getElem?_getD,List.getD_eq_getElem?_getD,List.getElem?_set_ne h]
theorem clrH_left (row : List Cl) (col : Nat) (hc : col < row.length) (hz : (gC row col).f1 = 0) (hp : 0 < col) : clrH row col = row.set (col - 1) blC := by
 unfold clrH
 rw [if_neg (by omega)]
 simp only [if_pos (show (gC row col).f1 = 0 ∧ 0 < col from ⟨hz,hp⟩)]
 rw [if_neg]
 intro h
 rw [gC_set row _ _ _ (by omega),hz] at h
 exact absurd h.1 (by decide)
theorem clrH_none (row : List Cl) (col : Nat) (hc : col < row.length) (hz : (gC row col).f1 = 0 → col = 0) (h2 : (gC row col).f1 = 2 → row.length ≤ col + 1) : clrH row col = row := by
 unfold clrH
 rw [if_neg (by omega)]
 simp only [if_neg (show ¬ ((gC row col).f1 = 0 ∧ 0 < col) from fun h => by have := hz h.1;omega)]
 rw [if_neg (fun h => by have := h2 h.1;omega)]
theorem clrH_right (row : List Cl) (col : Nat) (hc : col < row.length) (hz : (gC row col).f1 = 2) (hp : col + 1 < row.length) : clrH row col = row.set (col + 1) blC := by
 unfold clrH
 rw [if_neg (by omega)]
 simp only [if_neg (show ¬ ((gC row col).f1 = 0 ∧ 0 < col) from fun h => by have := h.1;omega)]
 rw [if_pos ⟨hz,hp⟩]
set_option maxRecDepth 100000 in
set_option maxHeartbeats 4000000 in
theorem clear_half {base g cap : Nat} {ok : Nat → Prop} {W : World} {row : List Cl} {col : Nat} (hR : RowAt base ok W (.slice (some ⟨g,0,none⟩) row.length cap) row) (hb : base ≤ W.heap.size) (hl : row.length ≤ 1099511627776) (hc : col < row.length) :
  Calls Tryd.prog 86 #[.slice (some ⟨g,0,none⟩) row.length cap,.int .i64 col] W fun e w' => e = .returned (.tuple #[]) ∧ RowAt base ok w' (.slice (some ⟨g,0,none⟩) row.length cap) (clrH row col) ∧ Below base W w' ∧ Kept W w' (fun k => k = g) := by
 have hg : base ≤ g := Kd.R_base hR g rfl
 have hcap := (Kd.R_reads' hR).2.1
 obtain ⟨c0,c1,_,_⟩ := row_cells hR col hc
 have hlt : (col : Int) < (row.length : Int) := by omega
 have hge := eq_false (show ¬ (row.length : Int) ≤ (col : Int) by omega)
 by_cases hz : (gC row col).f1 = 0
 ·by_cases hp : 0 < col
  ·have hc0 := clrH_left row col hc hz hp
   obtain ⟨m,rfl⟩ : ∃ m,col = m + 1 := ⟨col - 1,by omega⟩
   have hH := Lib.hid hc0
   clear hc0
   have hw : IntKind.i64.wrap (((m + 1 : Nat) : Int) - 1) = (m : Int) := (wrapN (by omega) (by omega)).trans (by omega)
   have hp' : (0 : Int) < ((m + 1 : Nat) : Int) := by omega
   go_enter Tryd.func86,Tryd.ntmps86
   go_upto_region 1 with (fail)
   go_upto_region 3 with (go_at_call 55;refine (screen_blank.calls _ _ _ blank_eq).mono ?_;rintro e w1 ⟨rfl,hb1⟩;have hR1 := Kd.R_below hR hb1;obtain ⟨d0,d1,f0,f1⟩ := row_cells hR1 m (by omega))
   have hR2 := row_put hR1 m (by omega) blC
   obtain ⟨hB2,hK2⟩ := kept_put m (.string blC.f0) (.int .i64 blC.f1) hg (hb1.mono hb) (Kept.of_below hb1 (fun k => k = g))
   generalize (w1.setCell ⟨g,m * 2,none⟩ (.string blC.f0)).setCell ⟨g,m * 2 + 1,none⟩ (.int .i64 blC.f1) = w2 at hR2 hB2 hK2 ⊢
   clear c0 c1 d0 d1 f0 f1 hR1 hb1
   obtain ⟨c0,c1,_,_⟩ := row_cells hR2 (m + 1) (by rw [List.length_set];exact hc)
   rw [gC_set _ _ _ _ (by omega)] at c0 c1
   go_wp2
   refine bodyPost_end (results_none rfl _ _ _) rfl ?_
   exact ⟨rfl,by rw [hH.out];exact hR2,hB2,hK2⟩
  ·have hp' := eq_false (show ¬ (0 : Int) < (col : Int) by omega)
   have hH := Lib.hid (clrH_none row col hc (fun _ => by omega) (fun h => by rw [hz] at h;exact absurd h (by decide)))
   have hp2 := eq_false hp
   have hp3 : decide (0 < col) = false := decide_eq_false hp
   go_enter Tryd.func86,Tryd.ntmps86
   go_wp2
   refine bodyPost_end (results_none rfl _ _ _) rfl ?_
   exact ⟨rfl,by rw [hH.out];exact hR,Below.refl _ _,Kept.refl _ _⟩
 ·have hz' := eq_false hz
  by_cases h2 : (gC row col).f1 = 2
  ·have hw : IntKind.i64.wrap ((col : Int) + 1) = ((col + 1 : Nat) : Int) := (wrapN (by omega) (by omega)).trans (by omega)
   by_cases hp : col + 1 < row.length
   ·have hp' : ((col + 1 : Nat) : Int) < (row.length : Int) := by omega
    have hH := Lib.hid (clrH_right row col hc h2 hp)
    go_enter Tryd.func86,Tryd.ntmps86
    go_upto_region 4 with (fail)
    go_wp2_with (go_at_call 55;refine (screen_blank.calls _ _ _ blank_eq).mono ?_;rintro e w1 ⟨rfl,hb1⟩;have hR1 := Kd.R_below hR hb1;obtain ⟨d0,d1,f0,f1⟩ := row_cells hR1 (col + 1) (by omega))
    have hR2 := row_put hR1 (col + 1) (by omega) blC
    obtain ⟨hB2,hK2⟩ := kept_put (col + 1) (.string blC.f0) (.int .i64 blC.f1) hg (hb1.mono hb) (Kept.of_below hb1 (fun k => k = g))
    refine bodyPost_end (results_none rfl _ _ _) rfl ?_
    exact ⟨rfl,by rw [hH.out];exact hR2,hB2,hK2⟩
   ·have hp' := eq_false (show ¬ ((col + 1 : Nat) : Int) < (row.length : Int) by omega)
    have hH := Lib.hid (clrH_none row col hc (fun h => absurd h hz) (fun _ => by omega))
    go_enter Tryd.func86,Tryd.ntmps86
    go_wp2
    refine bodyPost_end (results_none rfl _ _ _) rfl ?_
    exact ⟨rfl,by rw [hH.out];exact hR,Below.refl _ _,Kept.refl _ _⟩
  ·have h2' := eq_false h2
   have hH := Lib.hid (clrH_none row col hc (fun h => absurd h hz) (fun h => absurd h h2))
   go_enter Tryd.func86,Tryd.ntmps86
   go_wp2
   refine bodyPost_end (results_none rfl _ _ _) rfl ?_
   exact ⟨rfl,by rw [hH.out];exact hR,Below.refl _ _,Kept.refl _ _⟩
end Go.Proofs.YtgdpnmikcopkmaaDoor.U
end
section
namespace Go.Proofs.YtgdpnmikcopkmaaDoor.U
open Go.RowKit Go.Proofs.YtgdpnmikcopkmaaDoor.Pu Go.Proofs.YtgdpnmikcopkmaaDoorW.PrintWords Go.Proofs.YtgdpnmikcopkmaaDoorW.PrintLast Go.Proofs.YtgdpnmikcopkmaaDoorW.PrintMore
set_option linter.unusedVariables false
set_option linter.unusedSimpArgs false
theorem no_row (W : World) (base : Nat) (hb : base ≤ W.heap.size) : Kd.R k38 38 (W.alloc (.cells #[] 38 (0,0))) base (fun _ => True) (.slice (some ⟨W.heap.size,0,none⟩) 0 0) [] := by
 refine ⟨fun _ _ => trivial,[],?_,Reps.none _ _⟩
 have h2 := World.ownsRow_lit (base := base) (e := 38) (size := 2) W #[] 0 hb (by decide) rfl
 exact (by simpa using h2 : (W.alloc (.cells #[] 38 (0,0))).ownsRow base 38 2 (.slice (some ⟨W.heap.size,0,none⟩) 0 0) 0 [])
theorem no_rows (f : Nat → Nat) (W : World) (base : Nat) (ok : Nat → Prop) (hk : ok W.heap.size) (hb : base ≤ W.heap.size) : (Kd.tag f kRow).R 36 (W.alloc (.cells #[] 36 (0,0))) base ok (.slice (some ⟨W.heap.size,0,none⟩) 0 0) [] := by
 refine ⟨fun k h => by simp [Value.ownBlock] at h;subst h;exact hk,[],?_,Reps.none _ _⟩
 have h2 := World.ownsRow_lit (base := base) (e := 36) (size := 1) W #[] 0 hb (by decide) rfl
 exact (by simpa using h2 : (W.alloc (.cells #[] 36 (0,0))).ownsRow base 36 1 (.slice (some ⟨W.heap.size,0,none⟩) 0 0) 0 [])
set_option maxRecDepth 100000 in
set_option maxHeartbeats 4000000 in
theorem clone_any (A : Option Addr) (n c : Nat) (xs : List Cl) (W : World) (hC : Kd.C k38 W A n xs) (hl : n ≤ 1099511627776) :
  Calls Tryd.prog 49 #[.slice A n c] W fun e w' => ∃ v',e = .returned v' ∧ Kd.R k38 38 w' W.heap.size (fun _ => True) v' xs ∧ Below W.heap.size W w' := by
 have hn : xs.length = n := hC.1
 have q22 : ∀ (w : World) (a : Option Addr) (n c n' c' : Nat),(binOp .eql 36 (.slice a n c) (.slice none n' c')).run Tryd.prog w = .ok (.bool a.isNone) w := fun w a n c n' c' => Lib.run_eql_slice_nil w _ _ a n c n' c' Tryd.underlying36
 cases A with
 | none =>
  have h0 : n = 0 := by
   rcases Nat.eq_zero_or_pos n with h0 | h0
   ·exact h0
   ·obtain ⟨ad,h,_⟩ := hC.2.2 h0
    cases h
  subst h0
  have hx : xs = [] := List.eq_nil_of_length_eq_zero hn
  subst hx
  go_enter Tryd.func49,Tryd.ntmps49
  go_wp2
  go_ret
  exact ⟨_,rfl,Kd.R_nil _ _ _ _ _,Below.refl _ _⟩
 | some ad =>
  go_enter Tryd.func49,Tryd.ntmps49
  go_wp2_with ((with_reducible refine gate_builtin (b := .append) (xs := #[.tmp 5,.tmp 6]) rfl ?_);at_builtin;(refine Kd.R_append_rows k38 (Rr := k38.K _) (w0 := W) W.heap.size rfl (.tmp 5) (.tmp 6) 36 38 (.agg #[.string ⟨#[]⟩,.int .i64 0]) 24 rfl Tryd.underlying36 info38 rfl (by decide) (by decide) (.slice (some ⟨W.heap.size,0,none⟩) 0 0) [] xs (some ad) n c (fun _ => True) (fun _ => False) rfl rfl (no_row W W.heap.size (Nat.le_refl _)) (Kd.C_below hC (below_alloc (Below.refl _ _) _)) (fun x cs h => by rw [k38_open h];exact k38_mkM _ _ _ x) (fun _ hk => hk.elim) (fun _ _ => trivial) (below_alloc (Below.refl _ _) _) (by rw [World.size_alloc];omega) (by simp;omega) ?_;intro v1 w1 hR1 hB1 hg1 hat1))
  go_ret
  exact ⟨_,rfl,hR1,hB1⟩
/-- The rows behind the first,as they are read. -/
theorem tail_reads {base g n cap : Nat} {ok : Nat → Prop} {W : World} {rows : List (List Cl)} {f : Nat → Nat} (h : (Kd.tag f kRow).R 36 W base ok (.slice (some ⟨g,0,none⟩) n cap) rows.zipIdx) (A : Option Addr) (hA : 1 < n → A = some ⟨g,1,none⟩) (w : World) (hb : Below W.heap.size W w) :
  ReadsRow ((Kd.tag (fun k => f k - 1) kRow).M w base (fun k => ok k ∧ k < W.heap.size)) 1 w A (n - 1) (rows.drop 1).zipIdx := by
 have hn := (Kd.R_reads' h).1
 have hmx := (Kd.R_reads' h).2.2.2.1
 rw [List.length_zipIdx] at hn hmx
 refine ⟨by rw [List.length_zipIdx,List.length_drop,hn],by omega,fun h0 => ⟨_,hA (by omega),fun j p hj => ?_⟩⟩
 rw [List.getElem?_zipIdx,Nat.zero_add,List.getElem?_drop] at hj
 obtain ⟨q,hq,rfl⟩ := Option.map_eq_some_iff.1 hj
 have hlt : 1 + j < rows.length := (List.getElem?_eq_some_iff.1 hq).1
 obtain ⟨c,hcl,hM,hcc,_⟩ := Kd.R_elem h (q,0) ((1 + j : Nat) : Int) (by omega) (by omega)
 rw [Int.toNat_natCast] at hM hcc
 have hz : rows.zipIdx.getD (1 + j) (q,0) = (q,1 + j) := by
  rw [List.getD_eq_getElem?_getD,List.getElem?_zipIdx,hq]
  simp
 rw [hz] at hM
 refine ⟨c,hcl,?_,fun i u hu => ?_⟩
 ·have hM' : kRow.M W base (fun k => (ok k ∧ k ≠ g) ∧ f k = 1 + j) q c := hM
  show kRow.M w base (fun k => (ok k ∧ k < W.heap.size) ∧ f k - 1 = j) q c
  have hM2 := kRow.M_mono (fun k hk => (show ((ok k ∧ k < W.heap.size) ∧ f k - 1 = j) from ⟨⟨hk.1.1.1,hk.2.2.1⟩,by have := hk.1.2;omega⟩)) (kRow.M_bound hM')
  exact kRow.M_move (fun k hk => hb.block k hk.1.2) hM2
 ·have hcell := hcc i u hu
  have := cell_below hcell hb
  rw [add_at]
  have e : (⟨g,1 + (j * 1 + i),none⟩ : Addr) = ⟨g,(1 + j) * (Kd.tag f kRow).sz + i,none⟩ := by
   show (⟨g,1 + (j * 1 + i),none⟩ : Addr) = ⟨g,(1 + j) * 1 + i,none⟩
   congr 1
   omega
  rw [e]
  exact this
set_option maxRecDepth 100000 in
set_option maxHeartbeats 4000000 in
theorem clone_rows (A : Option Addr) (hA : A.isSome = true) (n c : Nat) (rows : List (List Cl)) (f : Nat → Nat) (base : Nat) (ok okp : Nat → Prop) (W : World)
  (hC : ∀ o,ReadsRow ((Kd.tag f kRow).M (W.alloc o) base okp) 1 (W.alloc o) A n rows.zipIdx) (hokp : ∀ k,okp k → ok k ∧ k < W.heap.size) (hf : ∀ k,W.heap.size ≤ k → ok k) (hb : base ≤ W.heap.size) (hl : n ≤ 1099511627776) :
  Calls Tryd.prog 103 #[.slice A n c] W fun e w' => ∃ v',e = .returned v' ∧ Kd.S kRow 36 w' base ok v' rows ∧ Below W.heap.size W w' := by
 obtain ⟨ad,rfl⟩ := Option.isSome_iff_exists.1 hA
 have q22 : ∀ (w : World) (a : Option Addr) (n c n' c' : Nat),(binOp .eql 22 (.slice a n c) (.slice none n' c')).run Tryd.prog w = .ok (.bool a.isNone) w := fun w a n c n' c' => Lib.run_eql_slice_nil w _ _ a n c n' c' Tryd.underlying22
 go_enter Tryd.func103,Tryd.ntmps103
 go_wp2_with ((with_reducible refine gate_builtin (b := .append) (xs := #[.tmp 5,.tmp 6]) rfl ?_);at_builtin;(refine Kd.R_append_rows (Kd.tag f kRow) (Rr := (Kd.tag f kRow).M _ base okp) (w0 := W) base rfl (.tmp 5) (.tmp 6) 22 36 (.slice none 0 0) 24 rfl Tryd.underlying22 info36 rfl (show 0 < 1 from by decide) (by decide) (.slice (some ⟨W.heap.size,0,none⟩) 0 0) [] rows.zipIdx (some ad) n c ok okp rfl rfl (no_rows f W base ok (hf _ (Nat.le_refl _)) hb) (hC _) (fun x cs h => h) (fun k hk => ⟨(hokp k hk).1,fun he => by have := (hokp k hk).2;simp [Value.ownBlock] at he;omega⟩) (fun k hk => hf k (by rw [World.size_alloc] at hk;omega)) ((below_alloc (Below.refl _ W) _).mono hb) (by rw [World.size_alloc];omega) (by simp;omega) ?_;intro v1 w1 hR1 hB1 hg1 hat1))
 go_ret
 have hB2 : Below W.heap.size W w1 := Below.grown (below_alloc (Below.refl W.heap.size W) (.cells #[] 36 (0,0))) hg1 (by rw [World.size_alloc];omega) (fun k hk => by simp [Value.ownBlock] at hk;omega)
 exact ⟨_,rfl,⟨f,by rw [List.nil_append] at hR1;exact hR1⟩,hB2⟩
end Go.Proofs.YtgdpnmikcopkmaaDoor.U
end
