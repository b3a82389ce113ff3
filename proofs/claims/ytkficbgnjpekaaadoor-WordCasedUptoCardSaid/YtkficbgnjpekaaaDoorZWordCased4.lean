/- What the law WordCased reaches of this seat's own texts, merged; what nothing uses is left out. -/
import Derived.Test.YtkficbgnjpekaaaDoorZWordCased0
import Derived.Test.YtkficbgnjpekaaaDoorZWordCased2
import Derived.Test.YtkficbgnjpekaaaDoorZWordCased3
section
namespace Go.Proofs.YtkficbgnjpekaaaDoor.Pu
open Go Go.RowKit Go.Proofs.YtkficbgnjpekaaaDoor.Mu Go.Proofs.YtkficbgnjpekaaaDoor.U Go.Proofs.YtkficbgnjpekaaaDoorW.PrintWords Go.Proofs.YtkficbgnjpekaaaDoorW.PrintLast Go.Proofs.YtkficbgnjpekaaaDoorW.PrintMore
set_option linter.unusedVariables false
def glueB (u v : Int) : Bool := decide (u = 13 ∧ v = 10) || (decide (cls v = 3) && (!decide (cls u = 1) && !decide (cls u = 2)))
theorem glue_iff (u v : Int) : glueB u v = true ↔ (u = 13 ∧ v = 10) ∨ (cls v = 3 ∧ cls u ≠ 1 ∧ cls u ≠ 2) := by
 unfold glueB;simp
def CB (s : ByteArray) (x : Nat) : Prop := Bd s x ∧ ∀ y,Bd s y → x = y + uN s y → x < s.size → glueB (uC s y) (uC s x) = false
theorem cb_zero (s : ByteArray) : CB s 0 := ⟨bd_zero s,fun y _ h _ => by have := uN_pos s y;omega⟩
theorem cb_size (s : ByteArray) : CB s s.size := ⟨bd_size s,fun y _ _ h => by omega⟩
theorem bd_prev (s : ByteArray) (x : Nat) (h : Bd s x) (hx : 0 < x) : ∃ y,Bd s y ∧ y + uN s y = x := by
 have h1 := h.1
 by_cases hb : Bd s (x - 1)
 ·refine ⟨x - 1,hb,?_⟩
  have := uN_pos s (x - 1)
  have := h.2 (x - 1) (by omega)
  omega
 ·obtain ⟨j,hj,hj2,hjb,_⟩ := within s (x - 1) (by omega) hb
  refine ⟨j,hjb,?_⟩
  have := h.2 j (by omega)
  omega
theorem bd_prev_one (s : ByteArray) (x y z : Nat) (hy : Bd s y) (hz : Bd s z) (h : y + uN s y = x) (h' : z + uN s z = x) : y = z := by
 have := uN_pos s y;have := uN_pos s z
 rcases Nat.lt_trichotomy y z with h1 | h1 | h1
 ·have := hz.2 y h1;omega
 ·exact h1
 ·have := hy.2 z h1;omega
theorem cb_iff (s : ByteArray) (x y : Nat) (hy : Bd s y) (hx : y + uN s y = x) (h : x < s.size) : CB s x ↔ glueB (uC s y) (uC s x) = false := by
 constructor
 ·intro hc;exact hc.2 y hy hx.symm h
 ·intro hg
  refine ⟨hx ▸ bd_next s y hy (by have := uN_pos s y;omega),fun z hz hzx _ => ?_⟩
  rw [← bd_prev_one s x y z hy hz hx hzx.symm];exact hg
def CBI (s : ByteArray) (a : Int) : Prop := 0 ≤ a ∧ CB s a.toNat
noncomputable def cbB (s : ByteArray) (a : Int) : Bool := @decide (CBI s a) (Classical.propDecidable _)
theorem cbB_iff (s : ByteArray) (a : Int) : cbB s a = true ↔ CBI s a := by unfold cbB;simp
theorem cbI_nat (s : ByteArray) (i : Nat) : CBI s i ↔ CB s i := by unfold CBI;simp
theorem CBI.bd {s : ByteArray} {a : Int} (h : CBI s a) : BdI s a := ⟨h.1,h.2.1⟩
theorem cbI_le {s : ByteArray} {a : Int} (h : CBI s a) : 0 ≤ a ∧ a ≤ s.size := bdI_le h.bd
theorem cbI_zero (s : ByteArray) : CBI s 0 := (cbI_nat s 0).2 (cb_zero s)
theorem cbI_size (s : ByteArray) : CBI s s.size := (cbI_nat s s.size).2 (cb_size s)
def CNextS (s : ByteArray) (a d : Int) : Prop := CBI s d ∧ (a < d ∨ d = s.size) ∧ ∀ e,CBI s e → a < e → d ≤ e
def CPrevS (s : ByteArray) (a d : Int) : Prop := CBI s d ∧ (d < a ∨ d = 0) ∧ ∀ e,CBI s e → e < a → e ≤ d
def CSnapS (s : ByteArray) (a d : Int) : Prop := CBI s d ∧ (a ≤ d ∨ d = s.size) ∧ ∀ e,CBI s e → a ≤ e → d ≤ e
theorem CPrevS.one {s : ByteArray} {a d d' : Int} (h : CPrevS s a d) (h' : CPrevS s a d') : d = d' := by
 have := cbI_le h.1;have := cbI_le h'.1
 rcases h.2.1 with h1 | h1 <;> rcases h'.2.1 with h2 | h2
 ·have := h.2.2 d' h'.1 h2;have := h'.2.2 d h.1 h1;omega
 ·have := h'.2.2 d h.1 h1;omega
 ·have := h.2.2 d' h'.1 h2;omega
 ·omega
theorem CSnapS.one {s : ByteArray} {a d d' : Int} (h : CSnapS s a d) (h' : CSnapS s a d') : d = d' := by
 have := cbI_le h.1;have := cbI_le h'.1
 rcases h.2.1 with h1 | h1 <;> rcases h'.2.1 with h2 | h2
 ·have := h.2.2 d' h'.1 h2;have := h'.2.2 d h.1 h1;omega
 ·have := h'.2.2 d h.1 h1;omega
 ·have := h.2.2 d' h'.1 h2;omega
 ·omega
theorem CNextS.one {s : ByteArray} {a d d' : Int} (h : CNextS s a d) (h' : CNextS s a d') : d = d' := by
 have := cbI_le h.1;have := cbI_le h'.1
 rcases h.2.1 with h1 | h1 <;> rcases h'.2.1 with h2 | h2
 ·have := h.2.2 d' h'.1 h2;have := h'.2.2 d h.1 h1;omega
 ·have := h'.2.2 d h.1 h1;omega
 ·have := h.2.2 d' h'.1 h2;omega
 ·omega
def nxtN (s : ByteArray) : Nat → Nat → Nat
 | 0,x => x
 | k + 1,x => if x + uN s x < s.size ∧ glueB (uC s x) (uC s (x + uN s x)) = true then nxtN s k (x + uN s x) else x + uN s x
theorem nxtN_fuel (s : ByteArray) : ∀ f g x : Nat,x < s.size → s.size - x ≤ f → s.size - x ≤ g → nxtN s f x = nxtN s g x
 | 0,_,_,hx,h,_ => by omega
 | _ + 1,0,_,hx,_,h => by omega
 | f + 1,g + 1,x,hx,h,h' => by
  have := uN_pos s x
  rw [nxtN,nxtN]
  split
  ·rename_i hc
   exact nxtN_fuel s f g _ hc.1 (by omega) (by omega)
  ·rfl
def nxt (s : ByteArray) (x : Nat) : Nat := nxtN s s.size x
theorem nxt_eq (s : ByteArray) (x : Nat) (hx : x < s.size) : nxt s x = if x + uN s x < s.size ∧ glueB (uC s x) (uC s (x + uN s x)) = true then nxt s (x + uN s x) else x + uN s x := by
 have := uN_pos s x
 unfold nxt
 obtain ⟨n,hn⟩ : ∃ n,s.size = n + 1 := ⟨s.size - 1,by omega⟩
 rw [nxtN_fuel s s.size (n + 1) x hx (by omega) (by omega),nxtN]
 split
 ·rename_i hc;exact nxtN_fuel s n s.size _ hc.1 (by omega) (by omega)
 ·rfl
theorem nxt_glue (s : ByteArray) (x : Nat) (hx : x + uN s x < s.size) (h : glueB (uC s x) (uC s (x + uN s x)) = true) : nxt s x = nxt s (x + uN s x) := by
 rw [nxt_eq s x (by omega),if_pos ⟨hx,h⟩]
theorem nxt_cut (s : ByteArray) (x : Nat) (hx : x < s.size) (h : x + uN s x < s.size → glueB (uC s x) (uC s (x + uN s x)) = false) : nxt s x = x + uN s x := by
 rw [nxt_eq s x hx,if_neg]
 rintro ⟨h1,h2⟩
 rw [h h1] at h2;cases h2
/-- The end of a cluster is the next boundary. -/
theorem nxt_spec (s : ByteArray) : ∀ n x : Nat,s.size - x ≤ n → Bd s x → x < s.size → CB s (nxt s x) ∧ x + uN s x ≤ nxt s x ∧ ∀ e,CB s e → x < e → nxt s x ≤ e := by
 intro n
 induction n with
 | zero => intro x h _ hx;omega
 | succ n ih =>
  intro x hn hb hx
  have h1 := uN_pos s x
  have hb' := bd_next s x hb hx
  have hle := hb'.1
  have hno : ∀ e,CB s e → x < e → x + uN s x ≤ e := fun e he hxe => he.1.2 x hxe
  by_cases hc : x + uN s x < s.size ∧ glueB (uC s x) (uC s (x + uN s x)) = true
  ·rw [nxt_glue s x hc.1 hc.2]
   obtain ⟨g1,g2,g3⟩ := ih (x + uN s x) (by omega) hb' hc.1
   refine ⟨g1,by omega,fun e he hxe => ?_⟩
   have h3 := hno e he hxe
   rcases Nat.lt_or_ge (x + uN s x) e with h4 | h4
   ·exact g3 e he h4
   ·obtain rfl : e = x + uN s x := by omega
    rw [(cb_iff s _ x hb rfl hc.1).1 he] at hc
    exact absurd hc.2 (by simp)
  ·have hg : x + uN s x < s.size → glueB (uC s x) (uC s (x + uN s x)) = false := fun h => by
    cases h2 : glueB (uC s x) (uC s (x + uN s x)) with
    | false => rfl
    | true => exact absurd ⟨h,h2⟩ hc
   rw [nxt_cut s x hx hg]
   refine ⟨?_,Nat.le_refl _,hno⟩
   rcases Nat.lt_or_ge (x + uN s x) s.size with h4 | h4
   ·exact (cb_iff s _ x hb rfl h4).2 (hg h4)
   ·rw [show x + uN s x = s.size by omega];exact cb_size s
theorem nxt_cb (s : ByteArray) (x : Nat) (hb : Bd s x) (hx : x < s.size) : CB s (nxt s x) := (nxt_spec s _ x (Nat.le_refl _) hb hx).1
theorem nxt_least (s : ByteArray) (x : Nat) (hb : Bd s x) (hx : x < s.size) (e : Nat) (he : CB s e) (h : x < e) : nxt s x ≤ e := (nxt_spec s _ x (Nat.le_refl _) hb hx).2.2 e he h
theorem nxt_le (s : ByteArray) (x : Nat) (hb : Bd s x) (hx : x < s.size) : nxt s x ≤ s.size := (nxt_cb s x hb hx).1.1
theorem nxtS (s : ByteArray) (x : Nat) (hb : Bd s x) (hx : x < s.size) (a : Int) (h1 : (x : Int) ≤ a) (h2 : a < nxt s x) : CNextS s a (nxt s x) := by
 refine ⟨(cbI_nat _ _).2 (nxt_cb s x hb hx),.inl h2,fun e he hae => ?_⟩
 have := cbI_le he
 have := nxt_least s x hb hx e.toNat he.2 (by omega)
 omega
def celB (c : Int) : Int := if cls c = 1 then 0 else if cls c = 4 ∨ (cls c = 2 ∧ c ≤ 127) then 2 else 1
/-- Is it a carriage return with a newline behind it? -/
def crlf (s : ByteArray) (x : Nat) : Prop := uC s x = 13 ∧ x + uN s x < s.size ∧ uC s (x + uN s x) = 10
instance (s : ByteArray) (x : Nat) : Decidable (crlf s x) := by unfold crlf;exact inferInstance
def clsAt (s : ByteArray) (x : Nat) : Int := if crlf s x then 1 else cls (uC s x)
def celAt (s : ByteArray) (x : Nat) : Int := if crlf s x then 0 else celB (uC s x)
def clAt (s : ByteArray) (x : Nat) : S61 := ⟨(x : Int),(nxt s x : Int),clsAt s x,celAt s x⟩
def cluL (s : ByteArray) : Nat → Nat → List S61
 | 0,_ => []
 | k + 1,x => if x < s.size then clAt s x :: cluL s k (nxt s x) else []
def clusL (s : ByteArray) : List S61 := cluL s s.size 0
theorem nxt_up (s : ByteArray) : ∀ n x : Nat,s.size - x ≤ n → x < s.size → x + 1 ≤ nxt s x := by
 intro n
 induction n with
 | zero => intro x h hx;omega
 | succ n ih =>
  intro x hn hx
  have h1 := uN_pos s x
  rw [nxt_eq s x hx]
  split
  ·rename_i hc;have := ih (x + uN s x) (by omega) hc.1;omega
  ·omega
theorem nxt_pos (s : ByteArray) (x : Nat) (hx : x < s.size) : x + 1 ≤ nxt s x := nxt_up s _ x (Nat.le_refl _) hx
theorem cluL_fuel (s : ByteArray) : ∀ f g x : Nat,s.size - x ≤ f → s.size - x ≤ g → cluL s f x = cluL s g x
 | 0,0,_,_,_ => rfl
 | 0,g + 1,x,h,_ => by rw [cluL,cluL,if_neg (by omega)]
 | f + 1,0,x,_,h => by rw [cluL,cluL,if_neg (by omega)]
 | f + 1,g + 1,x,h,h' => by
  rw [cluL,cluL]
  split
  ·rename_i hx
   have := nxt_pos s x hx
   rw [cluL_fuel s f g (nxt s x) (by omega) (by omega)]
  ·rfl
def ctl (s : ByteArray) (x : Nat) : List S61 := cluL s s.size x
theorem clusL_ctl (s : ByteArray) : clusL s = ctl s 0 := rfl
theorem ctl_end (s : ByteArray) (x : Nat) (h : s.size ≤ x) : ctl s x = [] := by
 unfold ctl;rw [cluL_fuel s s.size 0 x (by omega) (by omega)];rfl
theorem ctl_go (s : ByteArray) (x : Nat) (h : x < s.size) : ctl s x = clAt s x :: ctl s (nxt s x) := by
 have := nxt_pos s x h
 unfold ctl
 obtain ⟨n,hn⟩ : ∃ n,s.size = n + 1 := ⟨s.size - 1,by omega⟩
 rw [cluL_fuel s s.size (n + 1) x (by omega) (by omega),cluL,if_pos h,cluL_fuel s n s.size (nxt s x) (by omega) (by omega)]
theorem cluL_length (s : ByteArray) : ∀ k i,(cluL s k i).length ≤ k
 | 0,_ => by simp [cluL]
 | k + 1,i => by
  unfold cluL
  split
  ·have := cluL_length s k (nxt s i);simp;omega
  ·simp
theorem clusL_length (s : ByteArray) : (clusL s).length ≤ s.size := cluL_length s s.size 0
end Go.Proofs.YtkficbgnjpekaaaDoor.Pu
end
section
namespace Go.Proofs.YtkficbgnjpekaaaDoor.Pu
open Go Go.RowKit Go.Proofs.YtkficbgnjpekaaaDoor.Mu Go.Proofs.YtkficbgnjpekaaaDoor.U Go.Proofs.YtkficbgnjpekaaaDoorW.PrintWords Go.Proofs.YtkficbgnjpekaaaDoorW.PrintLast Go.Proofs.YtkficbgnjpekaaaDoorW.PrintMore
set_option linter.unusedVariables false
theorem glued_j0 (u v : Int) (b : Bool) : Ev (fun k => cluster_glued.j0 k u v b) (if b = true then true else (decide (cls v = 3) && (!decide (cls u = 1) && !decide (cls u = 2)))) := by
 refine Ev.step (fun k => cluster_glued.j0.eq_2 ..) (ev_val (fun hb => ev_pos hb (Ev.now _)) (fun hb => ev_neg hb ?_))
 refine Ev.bind (class_ans u) (Ev.bind (class_ans v) ?_)
 by_cases h3 : cls v = 3
 ·refine ev_pos h3 ?_
  by_cases h1 : cls u = 1
  ·exact ev_pos h1 (ev_now (by simp [h1]))
  ·exact ev_neg h1 (ev_now (by by_cases h2 : cls u = 2 <;> simp [h1,h2,h3]))
 ·exact ev_neg h3 (ev_now (by simp [h3]))
theorem glued_ans (u v : Int) : Ev (fun k => cluster_glued.f k u v) (glueB u v) := by
 unfold cluster_glued.f
 by_cases h : u = 13
 ·refine ev_pos h ?_
  have := glued_j0 u v (v == 10)
  have e : glueB u v = (if (v == 10) = true then true else (decide (cls v = 3) && (!decide (cls u = 1) && !decide (cls u = 2)))) := by
   unfold glueB
   by_cases hv : v = 10 <;> simp [h,hv]
  rw [e];exact this
 ·refine ev_neg h ?_
  have := glued_j0 u v false
  have e : glueB u v = (if false = true then true else (decide (cls v = 3) && (!decide (cls u = 1) && !decide (cls u = 2)))) := by
   unfold glueB
   simp [h]
  rw [e];exact this
theorem atA_nat {s : ByteArray} {x : Nat} (hb : Bd s x) (hx : x < s.size) : atA s x = (uC s x,(uN s x : Int),true) := by
 unfold atA
 rw [if_pos ⟨(bdB_iff s x).2 ((bdI_nat s x).2 hb),by omega⟩,Int.toNat_natCast]
theorem prevS_of {s : ByteArray} {x y : Nat} (hy : Bd s y) (h : y + uN s y = x) : PrevS s x y := by
 have := uN_pos s y
 exact prevS_in hy (by omega) (by omega)
theorem cboundary_j0 (s : ByteArray) (hs : s.size ≤ 1099511627776) (a : Int) (b : Bool) (hb : b = true ↔ (a ≤ 0 ∨ (s.size : Int) ≤ a)) : Ev (fun k => cluster_Boundary.j0 k s a b) (cbB s a) := by
 have hc := cbB_iff s a
 refine Ev.step (fun k => cluster_Boundary.j0.eq_2 ..) ?_
 by_cases h : b = true
 ·refine ev_pos h ?_
  have h1 := hb.1 h
  by_cases h0 : a = 0
  ·refine ev_pos h0 (ev_now ?_)
   subst h0
   exact (hc.2 (cbI_zero s)).symm
  ·refine ev_neg h0 (ev_now ?_)
   rw [Bool.eq_iff_iff,hc,beq_iff_eq]
   constructor
   ·intro e;rw [e];exact cbI_size s
   ·intro hC;have := cbI_le hC;omega
 ·have h1 : ¬ (a ≤ 0 ∨ (s.size : Int) ≤ a) := fun h2 => h (hb.2 h2)
  refine ev_neg h (Ev.bind (boundary_ans s hs a) ?_)
  by_cases hB : bdB s a = true
  ·refine ev_pos hB ?_
   obtain ⟨x,rfl⟩ : ∃ x : Nat,a = x := ⟨a.toNat,by omega⟩
   have hbx : Bd s x := (bdI_nat s x).1 ((bdB_iff s x).1 hB)
   obtain ⟨y,hy,hyx⟩ := bd_prev s x hbx (by omega)
   have hp := uN_pos s y
   refine Ev.bind (prev_ev hs (by omega) (prevS_of hy hyx)) (Ev.bind (at_ans s hs y) (Ev.bind (at_ans s hs x) ?_))
   rw [atA_nat hy (by omega),atA_nat hbx (by omega)]
   refine Ev.bind (glued_ans (uC s y) (uC s x)) (ev_now ?_)
   rw [Bool.eq_iff_iff,hc,cbI_nat,cb_iff s x y hy hyx (by omega)]
   cases glueB (uC s y) (uC s x) <;> simp
  ·refine ev_neg hB (ev_now ?_)
   symm
   rw [← Bool.not_eq_true,hc]
   exact fun h2 => hB ((bdB_iff s a).2 h2.bd)
theorem cboundary_ans (s : ByteArray) (hs : s.size ≤ 1099511627776) (a : Int) : Ev (fun k => cluster_Boundary.f k s a) (cbB s a) := by
 unfold cluster_Boundary.f
 by_cases h : a ≤ 0
 ·exact ev_pos h (cboundary_j0 s hs a _ ⟨fun _ => .inl h,fun _ => rfl⟩)
 ·exact ev_neg h (cboundary_j0 s hs a _ (by rw [decide_eq_true_eq];omega))
theorem cboundary_yes {s : ByteArray} (hs : s.size ≤ 1099511627776) {a : Int} (h : CBI s a) : Ev (fun k => cluster_Boundary.f k s a) true := (cbB_iff s a).2 h ▸ cboundary_ans s hs a
theorem cboundary_no {s : ByteArray} (hs : s.size ≤ 1099511627776) {a : Int} (h : ¬ CBI s a) : Ev (fun k => cluster_Boundary.f k s a) false := by
 have : cbB s a = false := by rw [← Bool.not_eq_true,cbB_iff];exact h
 exact this ▸ cboundary_ans s hs a
theorem cnext_loop (s : ByteArray) (hs : s.size ≤ 1099511627776) : ∀ (n : Nat) (a : Int),(s.size : Int) - a ≤ n → 0 ≤ a → ∃ d,Ev (fun k => cluster_Next.l0 k s a) d ∧ CNextS s a d := by
 have hend : ∀ a : Int,(s.size : Int) ≤ a → ∃ d,Ev (fun k => cluster_Next.l0 k s a) d ∧ CNextS s a d := fun a h =>
  ⟨s.size,Ev.step (fun k => cluster_Next.l0.eq_2 ..) (ev_neg (by omega) (Ev.now _)),cbI_size s,.inr rfl,fun e he hae => by have := cbI_le he;omega⟩
 intro n
 induction n with
 | zero => intro a hn h0;exact hend a (by omega)
 | succ n ih =>
  intro a hn h0
  by_cases ha : a < (s.size : Int)
  ·obtain ⟨d,hE,hD⟩ := next_ans s hs a
   have hd := bdI_le hD.1
   have hda : a < d := by rcases hD.2.1 with h | h <;> omega
   by_cases hc : CBI s d
   ·refine ⟨d,Ev.step (fun k => cluster_Next.l0.eq_2 ..) (ev_pos ha (Ev.bind hE (Ev.bind (cboundary_yes hs hc) (ev_pos rfl (Ev.now _))))),hc,.inl hda,fun e he hae => hD.2.2 e he.bd hae⟩
   ·obtain ⟨d',hE',hD'⟩ := ih d (by omega) (by omega)
    refine ⟨d',Ev.step (fun k => cluster_Next.l0.eq_2 ..) (ev_pos ha (Ev.bind hE (Ev.bind (cboundary_no hs hc) (ev_neg (by simp) hE')))),hD'.1,?_,fun e he hae => ?_⟩
    ·rcases hD'.2.1 with h | h
     ·exact .inl (by omega)
     ·exact .inr h
    ·have h1 := hD.2.2 e he.bd hae
     refine hD'.2.2 e he ?_
     by_cases h2 : e = d
     ·subst h2;exact absurd he hc
     ·omega
  ·exact hend a (by omega)
theorem cnext_ans (s : ByteArray) (hs : s.size ≤ 1099511627776) (a : Int) : ∃ d,Ev (fun k => cluster_Next.f k s a) d ∧ CNextS s a d := by
 unfold cluster_Next.f
 by_cases h : a < 0
 ·exact ⟨0,ev_pos h (Ev.now _),cbI_zero s,.inl h,fun e he _ => (cbI_le he).1⟩
 ·obtain ⟨d,hE,hD⟩ := cnext_loop s hs s.size a (by omega) (by omega)
  exact ⟨d,ev_neg h hE,hD⟩
theorem cnext_ev {s : ByteArray} (hs : s.size ≤ 1099511627776) {a d : Int} (h : CNextS s a d) : Ev (fun k => cluster_Next.f k s a) d := by
 obtain ⟨d',hE,h'⟩ := cnext_ans s hs a;exact h.one h' ▸ hE
theorem cells_ans (c : Int) : Ev (fun k => width_Cells.f k c) (celB c) := by
 have hC : celB c = if cls c = 1 then 0 else if cls c = 4 ∨ (cls c = 2 ∧ c ≤ 127) then 2 else 1 := rfl
 unfold width_Cells.f
 refine Ev.bind (class_ans c) ?_
 by_cases h1 : cls c = 1
 ·exact ev_pos h1 (ev_now (by rw [hC,if_pos h1]))
 ·refine ev_neg h1 ?_
  by_cases h4 : cls c = 4
  ·exact ev_pos h4 (ev_now (by rw [hC,if_neg h1,if_pos (.inl h4)]))
  ·refine ev_neg h4 ?_
   by_cases h2 : cls c = 2
   ·refine ev_pos h2 ?_
    by_cases h5 : c ≤ 127
    ·exact ev_pos h5 (ev_now (by rw [hC,if_neg h1,if_pos (.inr ⟨h2,h5⟩)]))
    ·exact ev_neg h5 (ev_now (by rw [hC,if_neg h1,if_neg (by omega)]))
   ·exact ev_neg h2 (ev_now (by rw [hC,if_neg h1,if_neg (by omega)]))
theorem toList_bytes (s : ByteArray) : s.toList = s.data.toList := Lib.toList_data s
theorem uC_low (s : ByteArray) (x : Nat) (c : Nat) (hc : c < 128) : uC s x = c ↔ byt s x = c := by
 rcases uC_cases s x with h | h | h | h | h <;> omega
theorem uN_low (s : ByteArray) (x : Nat) (c : Nat) (hc : c < 128) (h : uC s x = c) : uN s x = 1 := by
 rcases uC_cases s x with h | h | h | h | h <;> omega
theorem prefix_nl (s : ByteArray) (x : Nat) (hx : x < s.size) : strings_HasPrefix.f (s.extract (x + 1) s.size) (⟨#[10]⟩ : ByteArray) = some (decide (x + 1 < s.size ∧ byt s (x + 1) = 10)) := by
 have hsz : (s.extract (x + 1) s.size).size = s.size - (x + 1) := size_extract _ _ _ (Nat.le_refl _)
 unfold strings_HasPrefix.f stringslite_HasPrefix.f
 rw [hsz]
 by_cases h : x + 1 < s.size
 ·rw [if_pos (by show ((s.size - (x + 1) : Nat) : Int) ≥ ((1 : Nat) : Int);omega),if_pos (by omega),if_pos (by show ((1 : Nat) : Int) ≤ _;omega)]
  show some _ = some _
  congr 1
  rw [Bool.eq_iff_iff,beq_iff_eq,decide_eq_true_eq,toList_bytes,toList_bytes,Lib.extract_data]
  have e : (s.extract (x + 1) s.size).data.toList = s.data.toList.drop (x + 1) := by
   rw [Lib.extract_data,List.take_of_length_le (by rw [List.length_drop,← Lib.size_eq];omega)]
  rw [e,List.drop_zero]
  have hl : x + 1 < s.data.toList.length := by rw [← Lib.size_eq];exact h
  rw [List.drop_eq_getElem_cons hl]
  show [s.data.toList[x + 1]] = [10] ↔ _
  have hb : byt s (x + 1) = (s.data.toList[x + 1]).toNat := by
   unfold byt
   rw [get!_eq,List.getD_eq_getElem?_getD,List.getElem?_eq_getElem hl];rfl
  rw [hb,List.cons.injEq]
  constructor
  ·rintro ⟨h1,_⟩;exact ⟨h,by rw [h1];rfl⟩
  ·rintro ⟨_,h1⟩;exact ⟨UInt8.toNat_inj.1 (by rw [h1];rfl),rfl⟩
 ·rw [if_neg (by show ¬ ((s.size - (x + 1) : Nat) : Int) ≥ ((1 : Nat) : Int);omega)]
  show some _ = some _
  congr 1
  symm
  rw [decide_eq_false_iff_not]
  omega
theorem made_ans (s : ByteArray) (hs : s.size ≤ 1099511627776) (x : Nat) (hb : Bd s x) (hx : x < s.size) (t : Int) : Ev (fun k => cluster_made.f k s x t) ((x : Int),t,clsAt s x,celAt s x) := by
 unfold cluster_made.f
 refine Ev.bind (at_ans s hs x) ?_
 rw [atA_nat hb hx]
 refine Ev.bind (class_ans (uC s x)) (Ev.bind (cells_ans (uC s x)) ?_)
 by_cases h : uC s x = 13
 ·have h1 := uN_low s x 13 (by omega) h
  have hw : wrap64 ((x : Int) + 1) = ((x + 1 : Nat) : Int) := by rw [w64 (by omega) (by omega)];omega
  refine ev_pos h ?_
  rw [hw]
  refine ev_pos (by omega) (ev_pos (by omega) (ev_some (prefix_nl s x hx) ?_))
  have hc : crlf s x ↔ (x + 1 < s.size ∧ byt s (x + 1) = 10) := by
   unfold crlf
   rw [h1,← uC_low s (x + 1) 10 (by omega)]
   exact ⟨fun h => h.2,fun h2 => ⟨h,h2⟩⟩
  unfold clsAt celAt
  by_cases hq : crlf s x
  ·rw [if_pos hq,if_pos hq]
   exact ev_pos (by rw [decide_eq_true_eq];exact hc.1 hq) (Ev.now _)
  ·rw [if_neg hq,if_neg hq]
   exact ev_neg (by rw [decide_eq_true_eq];exact fun h => hq (hc.2 h)) (Ev.now _)
 ·refine ev_neg h (ev_now ?_)
  unfold clsAt celAt
  rw [if_neg (fun hq => h hq.1),if_neg (fun hq => h hq.1)]
end Go.Proofs.YtkficbgnjpekaaaDoor.Pu
end
section
namespace Go.Proofs.YtkficbgnjpekaaaDoor.U
open Go.RowKit Go.Shelf Go.Proofs.YtkficbgnjpekaaaDoor.Mu Go.Proofs.YtkficbgnjpekaaaDoor.Pu Go.Proofs.YtkficbgnjpekaaaDoor.Rg Go.Proofs.YtkficbgnjpekaaaDoorW.PrintWords Go.Proofs.YtkficbgnjpekaaaDoorW.PrintLast Go.Proofs.YtkficbgnjpekaaaDoorW.PrintMore
attribute [local go_sem] Oper.semAt_some
set_option linter.unusedVariables false
set_option linter.unusedSimpArgs false
abbrev encC (c : S61) : Array Value := #[.agg #[.int .i64 c.f0,.int .i64 c.f1,.int .i64 c.f2,.int .i64 c.f3]]
set_option maxRecDepth 100000 in
set_option maxHeartbeats 2000000 in
/-- cluster.Walk's inner function: its contract. -/
theorem cwalk1_seq (n : Nat) (hn : 1 ≤ n) (w₀ w : World) (s : ByteArray) (Bs : Nat) (hs : s.size ≤ 1099511627776) (hT : Lib.Utf8Tabs 0 1 w₀) (hb : Below w₀.heap.size w₀ w) (hc : Boxed w Bs 9 (.string s)) :
  SeqB Fence.wide n Tryd.prog 69 #[.pointer (some ⟨Bs,0,none⟩)] encC w₀.heap.size (fun k => k = Bs) (fun xs => Hid (xs = clusL s)) (fun pre => pre <+: clusL s) (clusL s).length w := by
 intro l J Jx W hW hJ hJx hY h0
 refine callsIn_of_wp Tryd.func69 rfl trivial ?_ rfl
 simp only [Tryd.ntmps69,List.size_toArray,List.length_cons,List.length_nil,Nat.reduceAdd,Nat.reduceSub,Array.replicate_succ,Array.replicate_zero,List.push_toArray,List.append_toArray,List.nil_append,List.cons_append]
 gi_wp2
 gi_loopw [3] (fun v wr => ∃ (i : Nat) (pre : List S61),v = .int .i64 i ∧ i ≤ s.size ∧ Hid (CB s i) ∧ Hid (clusL s = pre ++ ctl s i) ∧ J pre wr ∧ Boxed wr Bs 9 (.string s) ∧ Below w₀.heap.size w₀ wr)
  (fun v _ => s.size - (intOf v).toNat)
 case atStart =>
  exact ⟨0,[],rfl,Nat.zero_le _,Lib.hid (cb_zero s),Lib.hid rfl,h0,(hW.block Bs hc.lt).trans hc,hb.trans (hW.mono hb.size)⟩
 case round =>
  obtain ⟨i,pre,rfl,hi,hcb0,hx,hJs,hbx,hbl⟩ := hrel
  have hcb := hbx.cell
  by_cases hlt : i < s.size
  ·have hlt' : (i : Int) < (s.size : Int) := by omega
   obtain ⟨t,ht⟩ : ∃ t,nxt s i = t := ⟨_,rfl⟩
   have ht1 : i < t := ht ▸ nxt_pos s i hlt
   have ht2 : t ≤ s.size := ht ▸ nxt_le s i hcb0.out.1 hlt
   obtain ⟨k1,hk1⟩ := Ev.rounds (cnext_ev hs (nxtS s i hcb0.out.1 hlt i (Int.le_refl _) (by rw [ht];omega)))
   rw [ht] at hk1
   have hk1 := Lib.hid hk1
   obtain ⟨k2,hk2⟩ := Ev.rounds (made_ans s hs i hcb0.out.1 hlt (t : Int))
   have hcl : Hid (clAt s i = ⟨(i : Int),(t : Int),clsAt s i,celAt s i⟩) := Lib.hid (by unfold clAt;rw [ht])
   obtain ⟨q2,hq2⟩ : ∃ q2,clsAt s i = q2 := ⟨_,rfl⟩
   obtain ⟨q3,hq3⟩ : ∃ q3,celAt s i = q3 := ⟨_,rfl⟩
   rw [hq2,hq3] at hk2 hcl
   have hk2 := Lib.hid hk2
   have hcbt : Hid (CB s t) := Lib.hid (ht ▸ nxt_cb s i hcb0.out.1 hlt)
   have hx2 : Hid (clusL s = pre ++ (⟨(i : Int),(t : Int),q2,q3⟩ : S61) :: ctl s t) := Lib.hid (by
    have := hx.out;rw [ctl_go s i hlt,hcl.out,ht] at this;exact this)
   clear hx hcl hq2 hq3 ht hcb0
   have hTw := tabs_below hT hbl
   gi_wp2_with (refine ⟨trivial,?_⟩;gi_at_call 27;refine (callsIn_wide.2 (cluster_Next.calls k1 s i t wr hTw hk1.out)).mono ?_;rintro e w1 ⟨rfl,hb1⟩;have hbx1 : Boxed w1 Bs 9 (.string s) := (hb1.block Bs hbx.lt).trans hbx;have hcb1 := hbx1.cell;have hT1 := tabs_below hTw hb1)
   gi_wp2_with (refine ⟨trivial,?_⟩;gi_at_call 70;refine (callsIn_wide.2 (cluster_made.calls k2 s i t i t q2 q3 w1 hT1 hk2.out)).mono ?_;rintro e w2 ⟨rfl,hb2⟩;have hb12 : Below wr.heap.size wr w2 := hb1.trans (hb2.mono hb1.size);obtain ⟨fn,tmps,assign,body,hy,hR⟩ := hY pre (⟨(i : Int),(t : Int),q2,q3⟩ : S61) wr w2 hJs hb12 (by rw [hx2.out];simp) ⟨ctl s t,by rw [hx2.out];simp⟩)
   refine hR.mono ?_
   rintro e W3 (⟨rfl,hJ3,hk3⟩ | ⟨rfl,hJx3⟩)
   ·have hbx3 : Boxed W3 Bs 9 (.string s) := hk3.2 Bs _ (.inl rfl) ((hb12.block Bs hbx.lt).trans hbx) rfl
    have hbl3 : Below w₀.heap.size w₀ W3 := (hbl.trans (hb12.mono hbl.size)).trans hk3.1
    gi_wp2
    go_roundw
    case rel => exact ⟨t,pre ++ [(⟨(i : Int),(t : Int),q2,q3⟩ : S61)],rfl,ht2,hcbt,Lib.hid (by rw [hx2.out];simp),hJ3,hbx3,hbl3⟩
    case measure => simp [intOf];omega
   ·gi_wp2
    refine bodyPost_ret (results_none rfl _ _ _) rfl ?_
    exact ⟨⟨_,rfl⟩,.inr ⟨_,⟨ctl s t,by rw [hx2.out];simp⟩,hJx3⟩⟩
  ·have hge : ¬ ((i : Int) < (s.size : Int)) := by omega
   gi_wp2
   go_end0
   have hz : ctl s i = [] := ctl_end s i (by omega)
   exact ⟨⟨_,rfl⟩,.inl ⟨pre,Lib.hid (by rw [hx.out,hz,List.append_nil]),hJs⟩⟩
theorem cwalk_calls (s : ByteArray) (w : World) :
  Calls Tryd.prog 46 #[.string s] w fun e w' => e = .returned (.func (.func 69) #[] #[.pointer (some ⟨w.heap.size,0,none⟩)]) ∧ w' = w.alloc (.cells #[.string s] 9) := by
 go_enter Tryd.func46,Tryd.ntmps46
 go_wp2
 go_ret
 exact ⟨rfl,rfl⟩
end Go.Proofs.YtkficbgnjpekaaaDoor.U
end
section
namespace Go.Proofs.YtkficbgnjpekaaaDoor.Pu
open Go Go.RowKit Go.Proofs.YtkficbgnjpekaaaDoor.Mu Go.Proofs.YtkficbgnjpekaaaDoor.U Go.Proofs.YtkficbgnjpekaaaDoorW.PrintWords Go.Proofs.YtkficbgnjpekaaaDoorW.PrintLast Go.Proofs.YtkficbgnjpekaaaDoorW.PrintMore
set_option linter.unusedVariables false
set_option linter.unusedSimpArgs false
theorem clus_mem' (s : ByteArray) : ∀ k x,CB s x → ∀ c ∈ cluL s k x,∃ i,CB s i ∧ i < s.size ∧ c = clAt s i
 | 0,_,_,c,h => by simp [cluL] at h
 | k + 1,x,hc,c,h => by
  rw [cluL] at h
  split at h
  ·rename_i hx
   rcases List.mem_cons.1 h with rfl | h
   ·exact ⟨x,hc,hx,rfl⟩
   ·exact clus_mem' s k _ (nxt_cb s x hc.1 hx) c h
  ·simp at h
/-- Is it 0 to 9,A to Z,a to z,_? -/
def wLow (c : Int) : Bool := decide ((48 ≤ c ∧ c ≤ 57) ∨ (65 ≤ c ∧ c ≤ 90) ∨ (97 ≤ c ∧ c ≤ 122) ∨ c = 95)
def wHigh (c : Int) : Bool := decide (170 ≤ c) && (decide (cls c = 3 ∨ cls c = 4 ∨ cls c = 0) && !outB c)
/-- Does a character stand in words? -/
def wordB (c : Int) : Bool := wLow c || wHigh c
/-- Does the unit at x? -/
def wAt (s : ByteArray) (x : Nat) : Bool := wordB (uC s x)
/-- One more cluster: whether it stands in a word,and the words so far. -/
def spStep (s : ByteArray) (st : Bool × List S32) (c : S61) : Bool × List S32 :=
 (wAt s c.f0.toNat,if wAt s c.f0.toNat = true then (if st.1 = true then st.2.dropLast ++ [⟨(st.2.getLastD ⟨0,0⟩).f0,c.f1⟩] else st.2 ++ [⟨c.f0,c.f1⟩]) else st.2)
def spF (s : ByteArray) (cs : List S61) : Bool × List S32 := cs.foldl (spStep s) (false,[])
theorem spF_snoc (s : ByteArray) (cs : List S61) (c : S61) : spF s (cs ++ [c]) = spStep s (spF s cs) c := by
 unfold spF;rw [List.foldl_append];rfl
/-- The words of a text. -/
def spansL (s : ByteArray) : List S32 := (spF s (clusL s)).2
theorem spF_shapeN (s : ByteArray) : ∀ (n : Nat) (cs : List S61),cs.length = n → (spF s cs).2.length ≤ cs.length ∧ ((spF s cs).1 = true → ∃ p a b,(spF s cs).2 = p ++ [(⟨a,b⟩ : S32)])
 | 0,cs,hn => by
  obtain rfl := List.length_eq_zero_iff.1 hn
  exact ⟨Nat.le_refl _,fun h => by cases h⟩
 | n + 1,cs,hn => by
  rcases List.eq_nil_or_concat cs with rfl | ⟨l,c,rfl⟩
  ·cases hn
  rw [List.concat_eq_append] at hn ⊢
  rw [spF_snoc]
  obtain ⟨h1,h2⟩ := spF_shapeN s n l (by simpa using hn)
  unfold spStep
  by_cases hw : wAt s c.f0.toNat = true
  ·rw [if_pos hw]
   by_cases hi : (spF s l).1 = true
   ·obtain ⟨p,a,b,e⟩ := h2 hi
    rw [if_pos hi,e]
    rw [e] at h1
    simp only [List.length_append,List.length_cons,List.length_nil] at h1
    refine ⟨by simp only [List.dropLast_concat,List.length_append,List.length_cons,List.length_nil];omega,fun _ => ⟨p,a,c.f1,by simp⟩⟩
   ·rw [if_neg hi]
    exact ⟨by simp only [List.length_append,List.length_cons,List.length_nil];omega,fun _ => ⟨_,_,_,rfl⟩⟩
  ·rw [if_neg hw]
   exact ⟨by simp only [List.length_append,List.length_cons,List.length_nil];omega,fun h => absurd h hw⟩
theorem spF_shape (s : ByteArray) (cs : List S61) : (spF s cs).2.length ≤ cs.length ∧ ((spF s cs).1 = true → ∃ p a b,(spF s cs).2 = p ++ [(⟨a,b⟩ : S32)]) := spF_shapeN s _ cs rfl
theorem spStep_on (s : ByteArray) (p : List S32) (a b : Int) (c : S61) (h : wAt s c.f0.toNat = true) : spStep s (true,p ++ [⟨a,b⟩]) c = (true,p ++ [⟨a,c.f1⟩]) := by
 unfold spStep;rw [h,if_pos rfl,if_pos rfl];simp
theorem spStep_new (s : ByteArray) (p : List S32) (c : S61) (h : wAt s c.f0.toNat = true) : spStep s (false,p) c = (true,p ++ [⟨c.f0,c.f1⟩]) := by
 unfold spStep;rw [h,if_pos rfl,if_neg (by simp)]
theorem spStep_off (s : ByteArray) (i : Bool) (p : List S32) (c : S61) (h : wAt s c.f0.toNat = false) : spStep s (i,p) c = (false,p) := by
 unfold spStep;rw [h,if_neg (by simp)]
theorem isw_j2 (c : Int) (b : Bool) : Ev (fun k => word_IsWord.j2 k c b) (if b = true then true else if c < 170 then false else if cls c = 3 then !outB c else if cls c = 4 then !outB c else if cls c = 0 then !outB c else false) :=
 Ev.step (fun k => word_IsWord.j2.eq_2 ..) (ev_val (fun hb => ev_pos hb (Ev.now _)) (fun hb => ev_neg hb (ev_val (fun h => ev_pos h (Ev.now _)) (fun h => ev_neg h
  (Ev.bind (a := cls c) (class_ans c) (ev_val (fun h3 => ev_pos h3 (ev_some (a := outB c) rfl (Ev.now _))) (fun h3 => ev_neg h3 (ev_val (fun h4 => ev_pos h4 (ev_some (a := outB c) rfl (Ev.now _))) (fun h4 => ev_neg h4
   (ev_val (fun h0 => ev_pos h0 (ev_some (a := outB c) rfl (Ev.now _))) (fun h0 => ev_neg h0 (Ev.now _))))))))))))
theorem wHigh_eq (c : Int) : (if c < 170 then false else if cls c = 3 then !outB c else if cls c = 4 then !outB c else if cls c = 0 then !outB c else false) = wHigh c := by
 unfold wHigh
 by_cases h : c < 170
 ·rw [if_pos h,decide_eq_false (by omega),Bool.false_and]
 ·rw [if_neg h,decide_eq_true (by omega),Bool.true_and]
  by_cases h3 : cls c = 3
  ·rw [if_pos h3,decide_eq_true (.inl h3),Bool.true_and]
  ·rw [if_neg h3]
   by_cases h4 : cls c = 4
   ·rw [if_pos h4,decide_eq_true (.inr (.inl h4)),Bool.true_and]
   ·rw [if_neg h4]
    by_cases h0 : cls c = 0
    ·rw [if_pos h0,decide_eq_true (.inr (.inr h0)),Bool.true_and]
    ·rw [if_neg h0,decide_eq_false (by omega),Bool.false_and]
theorem isw_at (c : Int) (b : Bool) (h : b = wLow c) : Ev (fun k => word_IsWord.j2 k c b) (wordB c) := by
 have := isw_j2 c b
 rw [wHigh_eq] at this
 unfold wordB
 rw [← h]
 cases b with
 | true => rw [if_pos rfl] at this;rw [Bool.true_or];exact this
 | false => rw [if_neg (by simp)] at this;rw [Bool.false_or];exact this
theorem isw_j1 (c : Int) (b : Bool) (hb : b = true → wLow c = true) (hn : b = false → ¬ (48 ≤ c ∧ c ≤ 57) ∧ ¬ (65 ≤ c ∧ c ≤ 90)) : Ev (fun k => word_IsWord.j1 k c b) (wordB c) := by
 refine Ev.step (fun k => word_IsWord.j1.eq_2 ..) ?_
 have hl : b = false → ∀ d : Bool,(d = true ↔ (97 ≤ c ∧ c ≤ 122) ∨ c = 95) → d = wLow c := fun h d hd => by
  have := hn h
  rw [Bool.eq_iff_iff,hd];unfold wLow;rw [decide_eq_true_iff];omega
 by_cases h : b = true
 ·exact ev_pos h (isw_at c b (by rw [h,hb h]))
 ·have hf := eq_false_of_ne_true h
  refine ev_neg h ?_
  by_cases h1 : c ≥ 97
  ·refine ev_pos h1 ?_
   by_cases h2 : c ≤ 122
   ·exact ev_pos h2 (isw_at c _ (hl hf _ (by simp;omega)))
   ·exact ev_neg h2 (isw_at c _ (hl hf _ (by simp;omega)))
  ·exact ev_neg h1 (isw_at c _ (hl hf _ (by simp;omega)))
theorem isw_j0 (c : Int) (b : Bool) (hb : b = true → wLow c = true) (hn : b = false → ¬ (48 ≤ c ∧ c ≤ 57)) : Ev (fun k => word_IsWord.j0 k c b) (wordB c) := by
 refine Ev.step (fun k => word_IsWord.j0.eq_2 ..) ?_
 by_cases h : b = true
 ·exact ev_pos h (isw_at c b (by rw [h,hb h]))
 ·have hf := hn (eq_false_of_ne_true h)
  refine ev_neg h ?_
  by_cases h1 : c ≥ 65
  ·exact ev_pos h1 (isw_j1 c _ (fun h2 => by have := of_decide_eq_true h2;unfold wLow;rw [decide_eq_true_iff];omega) (fun h2 => by have := of_decide_eq_false h2;omega))
  ·exact ev_neg h1 (isw_j1 c _ (by simp) (fun _ => by omega))
/-- What word.IsWord answers. -/
theorem isword_ans (c : Int) : Ev (fun k => word_IsWord.f k c) (wordB c) := by
 unfold word_IsWord.f
 by_cases h1 : c ≥ 48
 ·exact ev_pos h1 (isw_j0 c _ (fun h2 => by have := of_decide_eq_true h2;unfold wLow;rw [decide_eq_true_iff];omega) (fun h2 => by have := of_decide_eq_false h2;omega))
 ·exact ev_neg h1 (isw_j0 c _ (by simp) (fun _ => by omega))
end Go.Proofs.YtkficbgnjpekaaaDoor.Pu
end
section
namespace Go.Proofs.YtkficbgnjpekaaaDoor.U
open Go.RowKit Go.Shelf Go.Proofs.YtkficbgnjpekaaaDoor.Mu Go.Proofs.YtkficbgnjpekaaaDoor.Pu Go.Proofs.YtkficbgnjpekaaaDoor.Rg Go.Proofs.YtkficbgnjpekaaaDoorW.PrintWords Go.Proofs.YtkficbgnjpekaaaDoorW.PrintLast Go.Proofs.YtkficbgnjpekaaaDoorW.PrintMore
attribute [local go_sem] Oper.semAt_some
set_option linter.unusedVariables false
set_option linter.unusedSimpArgs false
def cellsP : List S32 → List Value
 | [] => []
 | c :: cs => .int .i64 c.f0 :: .int .i64 c.f1 :: cellsP cs
theorem cellsP_snoc (cs : List S32) (a b : Int) : cellsP (cs ++ [⟨a,b⟩]) = cellsP cs ++ [.int .i64 a,.int .i64 b] := by
 induction cs with
 | nil => rfl
 | cons x xs ih => simp [cellsP,ih]
theorem cellsP_len (cs : List S32) : (cellsP cs).length = cs.length * 2 := by
 induction cs with
 | nil => rfl
 | cons x xs ih => simp [cellsP,ih];omega
theorem reps_cellsP (w : World) (base : Nat) (ok : Nat → Prop) : ∀ cs : List S32,Reps (k32.M w base ok) 2 cs (cellsP cs)
 | [] => Reps.none _ _
 | c :: cs => Reps.c2 (k32_mkM w base ok c) (reps_cellsP w base ok cs)
theorem cellsP_set (p : List S32) (a b t : Int) : (cellsP (p ++ [⟨a,b⟩])).set (p.length * 2 + 1) (.int .i64 t) = cellsP (p ++ [⟨a,t⟩]) := by
 rw [cellsP_snoc,cellsP_snoc,List.set_append_right _ _ (by rw [cellsP_len];omega),cellsP_len,show p.length * 2 + 1 - p.length * 2 = 1 by omega]
 rfl
/-- What a call (or a new block) keeps. -/
theorem keep_below {X Y : World} {n₀ B C : Nat} {Pr : Nat → Prop} (hb : Below X.heap.size X Y) (hn : n₀ ≤ X.heap.size) : KeepsFrom C X Y ∧ KeepB n₀ Pr B X Y :=
 ⟨KeepsFrom.of_grownBy (row := none) ⟨hb.os,hb.tape,hb.output,hb.size,fun i hi _ => hb.block i hi⟩ (fun _ e => by cases e),KeepB.of_below hn hb⟩
/-- What a store into one block keeps. -/
theorem keep_set {X : World} {n₀ B C b j : Nat} {Pr : Nat → Prop} (hn : n₀ ≤ X.heap.size) (hb0 : n₀ ≤ b) (hB : b < B) (hPr : ∀ k,Pr k → k ≠ b) (v : Value) :
  KeepsFrom C X (X.setCell ⟨b,j,none⟩ v) ∧ KeepB n₀ Pr B X (X.setCell ⟨b,j,none⟩ v) := by
 refine ⟨(KeepsOthers.setCell X _ v).from C,?_,?_⟩
 ·exact (Below.refl n₀ X).setCell (p := ⟨b,j,none⟩) hb0 v
 ·intro k o hk ho _
  have h5 : k ≠ b := by
   rcases hk with hk | hk
   ·exact hPr k hk
   ·omega
  exact (Below.heap_setCell X ⟨b,j,none⟩ v k h5).trans ho
/-- What the variables of Spans hold behind the clusters pre. -/
structure SpInv (w : World) (s : ByteArray) (st : Bool × List S32) (B : Nat) (W : World) : Prop where
 all : ∃ v,Boxed W (w.heap.size + 1) 28 v ∧ W.ownsRow w.heap.size 32 2 v st.2.length (cellsP st.2) ∧ (∀ g,v.ownBlock = some g → g < B)
 txt : Boxed W w.heap.size 9 (.string s)
 inn : Boxed W (w.heap.size + 2) 4 (.bool st.1)
 cls : Boxed W (w.heap.size + 3) 9 (.string s)
 bel : Below w.heap.size w W
 low : w.heap.size + 3 < B
theorem SpInv.grow {w : World} {s : ByteArray} {st : Bool × List S32} {B C : Nat} {X Y : World} {row : Option Nat} (h : SpInv w s st B X) (hC : w.heap.size ≤ C) (hg : X.grownBy Y row) (hr : ∀ r,row = some r → C ≤ r ∧ ∃ o : Obj,X.heap[r]? = some o ∧ o.isCells = false) : SpInv w s st B Y := by
 have hr' : ∀ r,row = some r → ∃ o : Obj,X.heap[r]? = some o ∧ o.isCells = false := fun r e => (hr r e).2
 refine ⟨?_,boxed_grow h.txt hg hr',boxed_grow h.inn hg hr',boxed_grow h.cls hg hr',h.bel.grown hg h.bel.size (fun k e => Nat.le_trans hC (hr k e).1),h.low⟩
 have := holdsRow_own w.heap.size (w.heap.size + 1) 28 32 2 (fun (q : Bool × List S32) => q.2.length) (fun q => cellsP q.2) (fun _ v => ∀ g,v.ownBlock = some g → g < B) st X Y row h.all hg hr'
 exact this
theorem SpInv.below {w : World} {s : ByteArray} {st : Bool × List S32} {B : Nat} {X Y : World} (h : SpInv w s st B X) (hb : Below X.heap.size X Y) : SpInv w s st B Y := by
 obtain ⟨v,h1,h2,h3⟩ := h.all
 exact ⟨⟨v,boxed_below h1 hb,pw_own_below h2 hb,h3⟩,boxed_below h.txt hb,boxed_below h.inn hb,boxed_below h.cls hb,h.bel.trans (hb.mono h.bel.size),h.low⟩
theorem SpInv.mono {w : World} {s : ByteArray} {st : Bool × List S32} {B B' : Nat} {W : World} (h : SpInv w s st B W) (hB : B ≤ B') : SpInv w s st B' W := by
 obtain ⟨v,h1,h2,h3⟩ := h.all
 have := h.low
 exact ⟨⟨v,h1,h2,fun g hg => Nat.lt_of_lt_of_le (h3 g hg) hB⟩,h.txt,h.inn,h.cls,h.bel,by omega⟩
/-- 'in' is told anew. -/
theorem SpInv.setIn {w : World} {s : ByteArray} {st : Bool × List S32} {B : Nat} {X : World} (h : SpInv w s st B X) (i : Bool) : SpInv w s (i,st.2) B (X.setCell ⟨w.heap.size + 2,0,none⟩ (.bool i)) := by
 obtain ⟨v,h1,h2,h3⟩ := h.all
 have hsz := h.bel.size
 have hne := h.inn.not_row (by decide) h2
 exact ⟨⟨v,h1.other (by omega) _,h2.kept (grownBy_setCell' X _ _) (.inr (fun e => hne e.symm)),h3⟩,h.txt.other (by omega) _,h.inn.set _,h.cls.other (by omega) _,h.bel.trans (belowAt w.heap.size (w.heap.size + 2) _ hsz (by omega)),h.low⟩
/-- The last word's end is told anew. -/
theorem SpInv.last {w : World} {s : ByteArray} {i : Bool} {p : List S32} {a b : Int} {B : Nat} {X : World} (h : SpInv w s (i,p ++ [⟨a,b⟩]) B X) :
  ∃ g cap,Boxed X (w.heap.size + 1) 28 (.slice (some ⟨g,0,none⟩) (p.length + 1) cap) ∧ X.cell? ⟨g,p.length * 2 + 1,none⟩ = some (.int .i64 b) ∧ X.frozen? ⟨g,p.length * 2 + 1,none⟩ = false ∧
   ∀ (t : Int),SpInv w s (i,p ++ [⟨a,t⟩]) B (X.setCell ⟨g,p.length * 2 + 1,none⟩ (.int .i64 t)) ∧ ∀ C,KeepsFrom C X (X.setCell ⟨g,p.length * 2 + 1,none⟩ (.int .i64 t)) ∧ KeepB w.heap.size (fun k => k = w.heap.size + 3) B X (X.setCell ⟨g,p.length * 2 + 1,none⟩ (.int .i64 t)) := by
 obtain ⟨v,h1,h2,h3⟩ := h.all
 have hl : (p ++ [(⟨a,b⟩ : S32)]).length = p.length + 1 := by simp
 have hl2 : (p ++ [(⟨a,b⟩ : S32)]).length = (p ++ [(⟨a,b⟩ : S32)]).length := rfl
 simp only [hl] at h2
 obtain ⟨g,cap,rfl⟩ := ownsRow_succ h2
 have hgB : g < B := h3 g rfl
 have hg0 : w.heap.size ≤ g := own_base h2 g rfl
 have hsz := h.bel.size
 have hb1 := h1.not_row (by decide) h2
 have hb2 := h.txt.not_row (by decide) h2
 have hb3 := h.inn.not_row (by decide) h2
 have hb4 := h.cls.not_row (by decide) h2
 refine ⟨g,cap,h1,?_,h2.frozenAt _,fun t => ⟨?_,fun C => ?_⟩⟩
 ·rw [h2.cellAt _ (by omega),cellsP_snoc,List.getElem?_append_right (by rw [cellsP_len];omega),cellsP_len,show p.length * 2 + 1 - p.length * 2 = 1 by omega];rfl
 ·obtain ⟨ho,hg⟩ := h2.stored (p.length * 2 + 1) (.int .i64 t)
  rw [cellsP_set] at ho
  refine ⟨⟨_,h1.kept hg hb1,by simpa using ho,h3⟩,h.txt.kept hg hb2,h.inn.kept hg hb3,h.cls.kept hg hb4,h.bel.grown hg hsz (fun k e => by cases e;exact hg0),h.low⟩
 ·exact keep_set hsz hg0 hgB (fun k hk e => hb4 (by rw [← hk,e];rfl)) _
theorem SpInv.appended {w : World} {s : ByteArray} {i : Bool} {L : List S32} {v v' : Value} {t' : S32} {B : Nat} {W w1 : World} {tmp : Obj} (h : SpInv w s (i,L) B W)
  (hv : Boxed W (w.heap.size + 1) 28 v) (hrow : W.ownsRow w.heap.size 32 2 v L.length (cellsP L)) (hvB : ∀ g,v.ownBlock = some g → g < B)
  (hown' : w1.ownsRow w.heap.size 32 2 v' (L.length + 1) (cellsP L ++ [.int .i64 t'.f0,.int .i64 t'.f1])) (hgrow : (W.alloc tmp).grownBy w1 v.ownBlock) :
  Boxed w1 (w.heap.size + 1) 28 v ∧ SpInv w s (i,L ++ [t']) (w1.setCell ⟨w.heap.size + 1,0,none⟩ v').heap.size (w1.setCell ⟨w.heap.size + 1,0,none⟩ v') ∧
   ∀ C,KeepsFrom C W (w1.setCell ⟨w.heap.size + 1,0,none⟩ v') ∧ KeepB w.heap.size (fun k => k = w.heap.size + 3) B W (w1.setCell ⟨w.heap.size + 1,0,none⟩ v') := by
 have hsz := h.bel.size
 have hlow := h.low
 obtain ⟨hv1,hv2,hr2,hk2,hb2⟩ := hv.appended (by decide) hrow hsz (by omega) hown' hgrow
 have hkb := appended_keepB (v' := v') (Pr := fun k => k = w.heap.size ∨ k = w.heap.size + 2 ∨ k = w.heap.size + 3) (B := B) (outB := w.heap.size + 1) hgrow (by omega) (fun k hk => ⟨by rcases hk with rfl | rfl | rfl <;> omega,by
  rcases hk with rfl | rfl | rfl
  ·exact h.txt.not_row (by decide) hrow
  ·exact h.inn.not_row (by decide) hrow
  ·exact h.cls.not_row (by decide) hrow⟩) hvB
 have e : cellsP L ++ [.int .i64 t'.f0,.int .i64 t'.f1] = cellsP (L ++ [t']) := (cellsP_snoc L t'.f0 t'.f1).symm
 rw [e] at hr2
 have hcl : Boxed (w1.setCell ⟨w.heap.size + 1,0,none⟩ v') (w.heap.size + 3) 9 (.string s) := hkb _ _ (.inl (.inr (.inr rfl))) h.cls rfl
 refine ⟨hv1,⟨⟨v',hv2,by rw [List.length_append];exact hr2,fun g hg => own_lt hr2 g hg⟩,hkb _ _ (.inl (.inl rfl)) h.txt rfl,hkb _ _ (.inl (.inr (.inl rfl))) h.inn rfl,hcl,h.bel.trans hb2,hcl.lt⟩,fun C => ⟨hk2.from C,hb2,fun k o hk ho hc => hkb k o ?_ ho hc⟩⟩
 rcases hk with hk | hk
 ·exact .inl (.inr (.inr hk))
 ·exact .inr hk
set_option maxRecDepth 100000 in
set_option maxHeartbeats 4000000 in
theorem spans_any (s : ByteArray) (w : World) (hs : s.size ≤ 1099511627776) (hT : Lib.Utf8Tabs 0 1 w) :
  Calls Tryd.prog 20 #[.string s] w fun e w' => ∃ v0_ : Value,e = .returned v0_ ∧ Kd.R k32 32 w' w.heap.size (fun _ => True) v0_ (spansL s) ∧ Below w.heap.size w w' := by
 have hlen : (clusL s).length ≤ s.size := clusL_length s
 obtain ⟨i0,hi,hz0,hz1,hz2⟩ := info_parts info32
 refine (callsIn_wide (n := 6)).1 ?_
 refine callsIn_of_wp_marks Tryd.func20 rfl trivial ?_ rfl
 simp only [Tryd.ntmps20,List.size_toArray,List.length_cons,List.length_nil,Nat.reduceAdd,Nat.reduceSub,Array.replicate_succ,Array.replicate_zero,List.push_toArray,List.append_toArray,List.nil_append,List.cons_append]
 gi_wp2_with (refine ⟨trivial,?_⟩;gi_at_call 46;refine (callsIn_wide.2 (cwalk_calls s _)).mono ?_;rintro e w' ⟨rfl,rfl⟩)
 simp only [Nat.add_assoc,Nat.reduceAdd]
 obtain ⟨W0,hW0⟩ : ∃ W0,(((w.alloc (.cells #[.string s] 9)).alloc (.cells #[.slice none 0 0] 28)).alloc (.cells #[.bool false] 4)).alloc (.cells #[.string s] 9) = W0 := ⟨_,rfl⟩
 rw [hW0]
 have hsz : W0.heap.size = w.heap.size + 4 := by rw [← hW0];simp
 have hI0 : SpInv w s (false,[]) (w.heap.size + 4) W0 := by
  rw [← hW0]
  refine ⟨⟨_,?_,World.ownsRow_nil _ _ _ _,by simp [Value.ownBlock]⟩,(((Boxed.new w _ _).alloc _).alloc _).alloc _,?_,?_,?_,by omega⟩
  ·have := Boxed.new (w.alloc (.cells #[.string s] 9)) 28 (.slice none 0 0)
   rw [World.size_alloc] at this
   exact (this.alloc _).alloc _
  ·have := Boxed.new ((w.alloc (.cells #[.string s] 9)).alloc (.cells #[.slice none 0 0] 28)) 4 (.bool false)
   rw [World.size_alloc,World.size_alloc] at this
   exact this.alloc _
  ·have := Boxed.new (((w.alloc (.cells #[.string s] 9)).alloc (.cells #[.slice none 0 0] 28)).alloc (.cells #[.bool false] 4)) 9 (.string s)
   rw [World.size_alloc,World.size_alloc,World.size_alloc] at this
   exact this
  ·exact ((((Below.refl _ w).alloc (Nat.le_refl _) _).alloc (by simp) _).alloc (by simp;omega) _).alloc (by simp;omega) _
 clear hW0
 refine range_outer (α := S61) rfl (by omega) (gf := 69) (lb := #[.pointer (some ⟨w.heap.size + 3,0,none⟩)]) rfl trivial (enters_of Tryd.func69 (by kernel_rfl) rfl)
  (cwalk1_seq 5 (by omega) w W0 s (w.heap.size + 3) hs hT hI0.bel hI0.cls) (Below.refl _ _) (fun _ => rfl) (by omega)
  (fun (B : Nat) (pre : List S61) (W : World) => SpInv w s (spF s pre) B W)
  (fun _ _ _ => False)
  (fun B pre X Y row h hg hr => h.grow (by omega) hg hr)
  (fun B B' pre W hBB h => h.mono hBB)
  (fun _ _ _ _ _ hs _ _ => hs)
  (by rw [hsz];exact hI0)
  (fun (x : S61) (a' : Act) (W : World) => ∃ Bx,Hid (W.heap[Bx]? = some (.cells #[.int .i64 x.f0,.int .i64 x.f1,.int .i64 x.f2,.int .i64 x.f3] 61 (0,0))) ∧ a' = { tmps := #[.string s,.pointer (some ⟨w.heap.size,0,none⟩),.slice none 0 0,.pointer (some ⟨w.heap.size + 1,0,none⟩),.pointer (some ⟨w.heap.size + 2,0,none⟩),.pointer (some ⟨Bx,0,none⟩),undef,undef,undef,.string s,.func (.func 69) #[] #[.pointer (some ⟨w.heap.size + 3,0,none⟩)],.agg #[.int .i64 x.f0,.int .i64 x.f1,.int .i64 x.f2,.int .i64 x.f3],undef,undef,undef,undef,undef,undef,undef,undef,undef,undef,undef,undef,undef,undef,undef,undef,undef,undef,undef,undef,undef,undef,undef,undef,undef,undef,undef,undef,undef,undef,undef,undef,undef,undef,undef],defers := [] })
  (fun x a' _ X Y row hs hg hr => by
   obtain ⟨Bx,h1,h2⟩ := hs
   refine ⟨Bx,?_,h2⟩
   refine (hg.block Bx (Array.getElem?_eq_some_iff.1 h1).1 (fun e => ?_)).trans h1
   obtain ⟨_,o,ho,hc⟩ := hr Bx e.symm
   rw [show X.heap[Bx]? = _ from h1] at ho;cases ho;cases hc)
  ?assign ?body ?done ?stop
 case assign =>
  rintro l B pre x W K hCW hBW hI hK
  have hsz1 := hI.bel.size
  gi_wp2
  exact hK _ _ ((KeepsOthers.alloc _ _).from _) (KeepB.of_below hsz1 ((Below.refl _ W).alloc (Nat.le_refl _) _)) (hI.below ((Below.refl _ W).alloc (Nat.le_refl _) _)) ⟨W.heap.size,Lib.hid (World.alloc_heap_new W _),rfl⟩
 case body =>
  rintro l B pre x a' W hl hCW hr hBW hI ⟨Bx,hBx,rfl⟩ hlt hpx
  obtain ⟨i,hci,hiS,rfl⟩ : ∃ i : Nat,CB s i ∧ i < s.size ∧ x = clAt s i := clus_mem' s s.size 0 (cb_zero s) x (hpx.subset (by simp))
  obtain ⟨q1,q2,q3,hq⟩ : ∃ q1 q2 q3,clAt s i = ⟨(i : Int),q1,q2,q3⟩ := ⟨_,_,_,rfl⟩
  rw [hq] at hBx hpx ⊢
  clear hq
  have hst : Hid (spF s (pre ++ [(⟨(i : Int),q1,q2,q3⟩ : S61)]) = spStep s (spF s pre) ⟨(i : Int),q1,q2,q3⟩) := Lib.hid (spF_snoc _ _ _)
  obtain ⟨hlen2,hshape⟩ := spF_shape s pre
  obtain ⟨⟨inn,L⟩,hL⟩ : ∃ st,spF s pre = st := ⟨_,rfl⟩
  rw [hL] at hI hst hlen2 hshape
  have hlt2 : pre.length < s.size := Nat.lt_of_lt_of_le hlt hlen
  have hLn : L.length < s.size := Nat.lt_of_le_of_lt hlen2 hlt2
  clear hL hlt hlen2 hpx
  have hsz1 := hI.bel.size
  have hkA : Hid (∃ k,unit_At.f k s (i : Int) = some (uC s i,(uN s i : Int),true)) := Lib.hid (by
   obtain ⟨k,hk⟩ := Ev.rounds (at_ans s hs (i : Int))
   refine ⟨k,hk.trans ?_⟩
   unfold atA
   rw [if_pos ⟨(bdB_iff s _).2 ((bdI_nat s i).2 hci.1),by omega⟩,Int.toNat_natCast])
  have hkW : Hid (∃ k,word_IsWord.f k (uC s i) = some (wAt s i)) := Lib.hid (Ev.rounds (isword_ans (uC s i)))
  obtain ⟨r,hr2⟩ : ∃ r,wAt s i = r := ⟨_,rfl⟩
  obtain ⟨c,hc2⟩ : ∃ c,uC s i = c := ⟨_,rfl⟩
  obtain ⟨n,hn2⟩ : ∃ n,uN s i = n := ⟨_,rfl⟩
  rw [hc2,hn2] at hkA
  rw [hc2,hr2] at hkW
  have hr2 := Lib.hid hr2
  clear hc2 hn2
  obtain ⟨kA,hkA⟩ := hkA.out
  obtain ⟨kW,hkW⟩ := hkW.out
  have hkA := Lib.hid hkA
  have hkW := Lib.hid hkW
  have hTw := tabs_below hT hI.bel
  have ct := hI.txt.cell
  have hcx0 : W.cell? ⟨Bx,0,none⟩ = some (.int .i64 i) := by simp [World.cell?,show W.heap[Bx]? = _ from hBx.out]
  have hu61 := Tryd.underlying61
  have hu42 := Tryd.underlying42
  have hu32 := Tryd.underlying32
  dsimp only
  gi_wp2_with (refine ⟨trivial,?_⟩;gi_at_call 36;refine (callsIn_wide.2 (unit_At.calls kA s i c n true W hTw hkA.out)).mono ?_;rintro e w1 ⟨rfl,hb1⟩)
  have hcy : ∀ (w2 : World),Below W.heap.size W w2 → ∀ (j : Nat) (u : Value),#[Value.int .i64 i,.int .i64 q1,.int .i64 q2,.int .i64 q3][j]? = some u → w2.cell? ⟨Bx,j,none⟩ = some u := fun w2 hb j u hj => by
   have e : w2.heap[Bx]? = _ := (hb.block Bx (Array.getElem?_eq_some_iff.1 hBx.out).1).trans hBx.out
   simp [World.cell?,e]
   simpa using hj
  cases r
  ·have hst2 : Hid (spF s (pre ++ [(⟨(i : Int),q1,q2,q3⟩ : S61)]) = (false,L)) := Lib.hid (hst.out.trans (spStep_off s inn L _ (by rw [Int.toNat_natCast];exact hr2.out)))
   gi_wp2_with (refine ⟨trivial,?_⟩;gi_at_call 13;refine (callsIn_wide.2 (word_IsWord.calls kW c false _ hkW.out)).mono ?_;rintro e w2 ⟨rfl,hb2⟩;have hb12 : Below W.heap.size W w2 := (hb1.alloc hb1.size _).trans (hb2.mono (Nat.le_trans hb1.size (by simp)));have hI2 := hI.below hb12;have cIn := hI2.inn.cell;have fIn := hI2.inn.frozen)
   have hk1 := fun C => keep_below (C := C) (B := B) (Pr := fun k => k = w.heap.size + 3) hb12 hsz1
   have hk2 := fun C => keep_set (C := C) (B := B) (b := w.heap.size + 2) (j := 0) (Pr := fun k => k = w.heap.size + 3) hI2.bel.size (by omega) (by have := hI.low;omega) (fun k hk => by omega) (.bool false)
   exact ⟨(hk1 _).1.trans (hk2 _).1,(hk1 0).2.trans (hk2 0).2,by show SpInv w s (spF s _) _ _;rw [hst2.out];exact (hI2.setIn false).mono (by have := hb12.size;have := (hk2 0).1.size;omega)⟩
  ·cases inn
   ·have hst2 : Hid (spF s (pre ++ [(⟨(i : Int),q1,q2,q3⟩ : S61)]) = (true,L ++ [⟨(i : Int),q1⟩])) := Lib.hid (hst.out.trans (spStep_new s L _ (by rw [Int.toNat_natCast];exact hr2.out)))
    gi_wp2_with (first | (refine ⟨trivial,?_⟩;gi_at_call 13;refine (callsIn_wide.2 (word_IsWord.calls kW c true _ hkW.out)).mono ?_;rintro e w2 ⟨rfl,hb2⟩;have hb12 : Below W.heap.size W w2 := (hb1.alloc hb1.size _).trans (hb2.mono (Nat.le_trans hb1.size (by simp)));have hI2 := hI.below hb12;have hcy0 := hcy w2 hb12 0 _ rfl;have hcy1 := hcy w2 hb12 1 _ rfl;have cIn := hI2.inn.cell;have fIn := hI2.inn.frozen;have hsz2 := hI2.bel.size;obtain ⟨v,hv,hrow,hvB⟩ := hI2.all;have cAll := hv.cell) | (gi_at_builtin;refine wpListIn_append_own _ rfl _ _ 28 rfl w.heap.size 32 i0 _ 2 16 Tryd.underlying28 hi hz0 hz1 hz2 rfl (by decide) _ _ _ rfl (hrow.alloc _) ⟨w2.heap.size,0,none⟩ 1 1 [.int .i64 i,.int .i64 q1] rfl rfl (cells_two_new _ _ _ _) (by simp [Value.oneCell']) (by unfold maxLen;omega) (by omega) (by simp;omega) ?_;intro v' w3 hown' hgrow _;obtain ⟨g',cap',rfl⟩ := ownsRow_succ hown';obtain ⟨hv1,hI3,hk3⟩ := hI2.appended (t' := ⟨(i : Int),q1⟩) hv hrow hvB hown' hgrow;have hc1 := hv1.cell;have hf1 := hv1.frozen;have cIn3 := hI3.inn.cell;have fIn3 := hI3.inn.frozen))
    have hk1 := fun C => keep_below (C := C) (B := B) (Pr := fun k => k = w.heap.size + 3) hb12 hsz1
    have hk4 := fun C => keep_set (C := C) (B := B) (b := w.heap.size + 2) (j := 0) (Pr := fun k => k = w.heap.size + 3) hI3.bel.size (by omega) (by have := hI.low;omega) (fun k hk => by omega) (.bool true)
    exact ⟨((hk1 _).1.trans (hk3 _).1).trans (hk4 _).1,((hk1 0).2.trans (hk3 0).2).trans (hk4 0).2,by show SpInv w s (spF s _) _ _;rw [hst2.out];exact (hI3.setIn true).mono (hk4 0).1.size⟩
   ·obtain ⟨p,a,b,rfl⟩ := hshape rfl
    have hwp : wrap64 (p.length : Int) = (p.length : Int) := by rw [List.length_append] at hLn;unfold wrap64;omega
    have hst2 : Hid (spF s (pre ++ [(⟨(i : Int),q1,q2,q3⟩ : S61)]) = (true,p ++ [⟨a,q1⟩])) := Lib.hid (hst.out.trans (spStep_on s p a b _ (by rw [Int.toNat_natCast];exact hr2.out)))
    gi_wp2_with (refine ⟨trivial,?_⟩;gi_at_call 13;refine (callsIn_wide.2 (word_IsWord.calls kW c true _ hkW.out)).mono ?_;rintro e w2 ⟨rfl,hb2⟩;have hb12 : Below W.heap.size W w2 := (hb1.alloc hb1.size _).trans (hb2.mono (Nat.le_trans hb1.size (by simp)));have hI2 := hI.below hb12;have hcy0 := hcy w2 hb12 0 _ rfl;have hcy1 := hcy w2 hb12 1 _ rfl;have cIn := hI2.inn.cell;have fIn := hI2.inn.frozen;obtain ⟨g,cap,hbx,hcg,hfg,hset⟩ := hI2.last;have cAll := hbx.cell;have hI3 := (hset q1).1;have cIn3 := hI3.inn.cell;have fIn3 := hI3.inn.frozen)
    clear hwp
    have hk1 := fun C => keep_below (C := C) (B := B) (Pr := fun k => k = w.heap.size + 3) hb12 hsz1
    have hk4 := fun C => keep_set (C := C) (B := B) (b := w.heap.size + 2) (j := 0) (Pr := fun k => k = w.heap.size + 3) hI3.bel.size (by omega) (by have := hI.low;omega) (fun k hk => by omega) (.bool true)
    exact ⟨((hk1 _).1.trans ((hset q1).2 _).1).trans (hk4 _).1,((hk1 0).2.trans ((hset q1).2 0).2).trans (hk4 0).2,by show SpInv w s (spF s _) _ _;rw [hst2.out];exact (hI3.setIn true).mono (Nat.le_trans hBW (Nat.le_trans hb12.size (Nat.le_trans ((hset q1).2 0).1.size (hk4 0).1.size)))⟩
 case done =>
  rintro D ys W hD hys hI hK
  obtain ⟨v,hv,hrow,_⟩ := hI.all
  have hc := hv.cell
  gi_wp2
  refine ⟨by simp,.inl ⟨_,_,rfl,run_takeDeferred hK,?_⟩⟩
  refine ⟨_,results_tmp rfl _ _ _,v,rfl,⟨fun _ _ => trivial,cellsP (spansL s),?_,reps_cellsP _ _ _ _⟩,hI.bel.trans (belowK_b (w := w) (Nat.le_refl _) W D _ _ (by omega) hK rfl rfl)⟩
  have e : ys = clusL s := hys
  have h2 := ownsRow_putObj hrow (.deferred none) hK rfl
  rw [e] at h2
  exact h2
 case stop =>
  rintro D c pre W _ _ h _
  exact h.elim
def word_Spans.f (a0 : ByteArray) : Option (List (S32)) := if a0.size ≤ 1099511627776 then some (spansL a0) else none
theorem word_Spans.calls (a0 : ByteArray) (r : List (S32)) (w : World) (hT : Lib.Utf8Tabs 0 1 w) (h : word_Spans.f a0 = some r) :
  Calls Tryd.prog 20 #[.string a0] w fun e w' => ∃ v0_ : Value,e = .returned (v0_) ∧ Kd.R k32 32 w' w.heap.size (fun _ => True) v0_ r ∧ Below w.heap.size w w' := by
 unfold word_Spans.f at h
 split at h
 ·obtain rfl := Option.some.inj h
  rename_i hs
  exact spans_any a0 w hs hT
 ·cases h
end Go.Proofs.YtkficbgnjpekaaaDoor.U
end
section
namespace Go.Proofs.YtkficbgnjpekaaaDoor.U
open Go.RowKit Go.Shelf Go.Proofs.YtkficbgnjpekaaaDoor.Mu Go.Proofs.YtkficbgnjpekaaaDoor.Pu Go.Proofs.YtkficbgnjpekaaaDoorW.PrintWords Go.Proofs.YtkficbgnjpekaaaDoorW.PrintLast Go.Proofs.YtkficbgnjpekaaaDoorW.PrintMore
set_option linter.unusedVariables false
set_option linter.unusedSimpArgs false
def oddB (c a b : Int) : Bool := decide (a ≤ c ∧ c ≤ b ∧ c % 2 = 1)
theorem odd_ans (c a b : Int) (h : 0 ≤ a) : word_odd.f c a b = some (oddB c a b) := by
 unfold word_odd.f oddB
 by_cases h1 : a ≤ c
 ·rw [if_pos h1]
  by_cases h2 : c ≤ b
  ·rw [if_pos h2,Int.tmod_eq_emod_of_nonneg (by omega)]
   congr 1
   rw [Bool.eq_iff_iff]
   simp [h1,h2]
  ·rw [if_neg h2];simp [h2]
 ·rw [if_neg h1];simp [h1]
/-- one below,two alphabets of odd small letters -/
def low1 (c : Int) (b : Bool) : Int := if b = true then c - 1 else if oddB c 331 375 = true then c - 1 else if oddB c 1121 1153 = true then c - 1 else c
def low2 (c : Int) (b : Bool) : Int := if b = true then c - 80 else if c = 255 then 376 else low1 c (decide (c ≠ 305) && oddB c 257 311)
def low3 (c : Int) (b : Bool) : Int := if b = true then c - 32 else low2 c (decide (1104 ≤ c ∧ c ≤ 1119))
def runB (c : Int) : Bool := decide ((97 ≤ c ∧ c ≤ 122) ∨ (224 ≤ c ∧ c ≤ 246) ∨ (248 ≤ c ∧ c ≤ 254) ∨ (945 ≤ c ∧ c ≤ 961) ∨ (963 ≤ c ∧ c ≤ 969) ∨ (1072 ≤ c ∧ c ≤ 1103))
/-- The large letter of a small one. -/
def upC (c : Int) : Int := low3 c (runB c)
theorem up_j6 (k : Nat) (c : Int) (b : Bool) (hb : b = true → 0 ≤ c ∧ c ≤ 2000) : word_UpperOf.j6 (k + 1) c b = some (low1 c b) := by
 rw [word_UpperOf.j6.eq_2]
 unfold low1
 split
 ·rename_i h;have := hb h;rw [w32 (by omega) (by omega)]
 ·rw [odd_ans _ _ _ (by omega),Option.bind_some]
  split
  ·rename_i h;unfold oddB at h;have := of_decide_eq_true h;rw [w32 (by omega) (by omega)]
  ·rw [odd_ans _ _ _ (by omega),Option.bind_some]
   split
   ·rename_i h;unfold oddB at h;have := of_decide_eq_true h;rw [w32 (by omega) (by omega)]
   ·rfl
theorem up_j5 (k : Nat) (c : Int) (b : Bool) (hb : b = true → 0 ≤ c ∧ c ≤ 2000) : word_UpperOf.j5 (k + 2) c b = some (low2 c b) := by
 rw [word_UpperOf.j5.eq_2]
 unfold low2
 split
 ·rename_i h;have := hb h;rw [w32 (by omega) (by omega)]
 ·split
  ·rfl
  ·split
   ·rename_i h
    rw [up_j6 k c false (by simp),show (decide (c ≠ 305) && oddB c 257 311) = false by simp [h]]
   ·rename_i h
    rw [odd_ans _ _ _ (by omega),Option.bind_some,up_j6 k c _ (fun h2 => by unfold oddB at h2;have := of_decide_eq_true h2;omega),show (decide (c ≠ 305) && oddB c 257 311) = oddB c 257 311 by simp [h]]
theorem up_j4 (k : Nat) (c : Int) (b : Bool) (hb : b = true → 0 ≤ c ∧ c ≤ 2000) : word_UpperOf.j4 (k + 3) c b = some (low3 c b) := by
 rw [word_UpperOf.j4.eq_2]
 unfold low3
 split
 ·rename_i h;have := hb h;rw [w32 (by omega) (by omega)]
 ·split
  ·rename_i h
   rw [up_j5 (k + 0) c _ (fun h2 => by have := of_decide_eq_true h2;omega)]
   congr 2
   rw [Bool.eq_iff_iff];simp;omega
  ·rename_i h
   rw [up_j5 (k + 0) c false (by simp)]
   congr 2
   symm;rw [decide_eq_false_iff_not];omega
theorem up_at (k : Nat) (c : Int) (b : Bool) (h : b = runB c) : word_UpperOf.j4 (k + 3) c b = some (upC c) := by
 rw [up_j4 k c b (fun h2 => by rw [h] at h2;unfold runB at h2;have := of_decide_eq_true h2;omega),h];rfl
theorem run_of {c : Int} {b : Bool} (h : b = true ↔ ((97 ≤ c ∧ c ≤ 122) ∨ (224 ≤ c ∧ c ≤ 246) ∨ (248 ≤ c ∧ c ≤ 254) ∨ (945 ≤ c ∧ c ≤ 961) ∨ (963 ≤ c ∧ c ≤ 969) ∨ (1072 ≤ c ∧ c ≤ 1103))) : b = runB c := by
 rw [Bool.eq_iff_iff,h];unfold runB;rw [decide_eq_true_iff]
theorem upper_ans (k : Nat) (c : Int) : word_UpperOf.f (k + 7) c = some (upC c) := by
 have e3 : ∀ b : Bool,(b = true → runB c = true) → (b = false → c < 945 ∨ 961 < c) → (b = false → ¬ (97 ≤ c ∧ c ≤ 122) ∧ ¬ (224 ≤ c ∧ c ≤ 246) ∧ ¬ (248 ≤ c ∧ c ≤ 254)) → word_UpperOf.j3 (k + 4) c b = some (upC c) := by
  intro b h1 h2 h3
  rw [word_UpperOf.j3.eq_2]
  split
  ·rename_i h;exact up_at k c b (by rw [h,h1 h])
  ·rename_i h
   have h := eq_false_of_ne_true h
   have h2 := h2 h;have h3 := h3 h
   repeat' split
   all_goals exact up_at k c _ (run_of (by simp;omega))
 have e2 : ∀ b : Bool,(b = true → runB c = true) → (b = false → ¬ (97 ≤ c ∧ c ≤ 122) ∧ ¬ (224 ≤ c ∧ c ≤ 246) ∧ ¬ (248 ≤ c ∧ c ≤ 254)) → word_UpperOf.j2 (k + 5) c b = some (upC c) := by
  intro b h1 h3
  rw [word_UpperOf.j2.eq_2]
  split
  ·rename_i h;exact up_at (k + 1) c b (by rw [h,h1 h])
  ·rename_i h
   have h3 := h3 (eq_false_of_ne_true h)
   split
   ·exact e3 _ (fun h => by have := of_decide_eq_true h;unfold runB;rw [decide_eq_true_iff];omega) (fun h => by have := of_decide_eq_false h;omega) (fun _ => h3)
   ·exact e3 _ (by simp) (fun _ => by omega) (fun _ => h3)
 have e1 : ∀ b : Bool,(b = true → runB c = true) → (b = false → ¬ (97 ≤ c ∧ c ≤ 122) ∧ ¬ (224 ≤ c ∧ c ≤ 246)) → word_UpperOf.j1 (k + 6) c b = some (upC c) := by
  intro b h1 h3
  rw [word_UpperOf.j1.eq_2]
  split
  ·rename_i h;exact up_at (k + 2) c b (by rw [h,h1 h])
  ·rename_i h
   have h3 := h3 (eq_false_of_ne_true h)
   split
   ·exact e2 _ (fun h => by have := of_decide_eq_true h;unfold runB;rw [decide_eq_true_iff];omega) (fun h => by have := of_decide_eq_false h;omega)
   ·exact e2 _ (by simp) (fun _ => by omega)
 have e0 : ∀ b : Bool,(b = true → runB c = true) → (b = false → ¬ (97 ≤ c ∧ c ≤ 122)) → word_UpperOf.j0 (k + 7) c b = some (upC c) := by
  intro b h1 h3
  rw [word_UpperOf.j0.eq_2]
  split
  ·rename_i h;exact up_at (k + 3) c b (by rw [h,h1 h])
  ·rename_i h
   have h3 := h3 (eq_false_of_ne_true h)
   split
   ·exact e1 _ (fun h => by have := of_decide_eq_true h;unfold runB;rw [decide_eq_true_iff];omega) (fun h => by have := of_decide_eq_false h;omega)
   ·exact e1 _ (by simp) (fun _ => by omega)
 unfold word_UpperOf.f
 split
 ·exact e0 _ (fun h => by have := of_decide_eq_true h;unfold runB;rw [decide_eq_true_iff];omega) (fun h => by have := of_decide_eq_false h;omega)
 ·exact e0 _ (by simp) (fun _ => by omega)
theorem upper7 (c : Int) : word_UpperOf.f 7 c = some (upC c) := upper_ans 0 c
attribute [local irreducible] upC
/-- The small letter of a large one. -/
def lowTry (c f : Int) (r : Int) : Int := if 0 < c ∧ c < 1280 ∧ upC (c + f) = c then c + f else r
def lowC (c : Int) : Int := if c = 376 then 255 else lowTry c 1 (lowTry c 32 (lowTry c 80 c))
def word_LowerOf.f (a0 : Int) : Option Int := some (lowC a0)
set_option maxRecDepth 100000 in
set_option maxHeartbeats 4000000 in
theorem word_LowerOf.calls (a0 : Int) (r : Int) (w : World) (h : word_LowerOf.f a0 = some r) :
  Calls Tryd.prog 17 #[.int .i32 a0] w fun e w' => e = .returned (.int .i32 r) ∧ Below w.heap.size w w' := by
 obtain rfl := Option.some.inj h
 by_cases h0 : a0 = 376
 ·have e : lowC a0 = 255 := by unfold lowC;rw [if_pos h0]
  rw [e,h0]
  go_enter Tryd.func17,Tryd.ntmps17
  go_wp2
  go_ret
  exact ⟨rfl,Below.refl _ _⟩
 ·have e : lowC a0 = lowTry a0 1 (lowTry a0 32 (lowTry a0 80 a0)) := by unfold lowC;rw [if_neg h0]
  rw [e]
  obtain ⟨G,hG⟩ : ∃ G,lowTry a0 1 (lowTry a0 32 (lowTry a0 80 a0)) = G := ⟨_,rfl⟩
  rw [hG]
  have hx0 : ∀ (x y z : Value) (W : World),(Instr.index 56 (.agg #[x,y,z]) (.int .i64 0)).run Tryd.prog W = .ok x W := fun x y z W => by kernel_rfl
  have hx1 : ∀ (x y z : Value) (W : World),(Instr.index 56 (.agg #[x,y,z]) (.int .i64 1)).run Tryd.prog W = .ok y W := fun x y z W => by kernel_rfl
  have hx2 : ∀ (x y z : Value) (W : World),(Instr.index 56 (.agg #[x,y,z]) (.int .i64 2)).run Tryd.prog W = .ok z W := fun x y z W => by kernel_rfl
  go_enter Tryd.func17,Tryd.ntmps17
  go_wp2
  rw [show (a0 == 376) = false by simp [h0]]
  go_loopw [9] (fun v wr => ∃ i : Int,v = .int .i64 i ∧ Hid ((i = 0 ∧ lowTry a0 1 (lowTry a0 32 (lowTry a0 80 a0)) = G) ∨ (i = 1 ∧ lowTry a0 32 (lowTry a0 80 a0) = G) ∨ (i = 2 ∧ lowTry a0 80 a0 = G) ∨ (i = 3 ∧ a0 = G)) ∧ Below w.heap.size w wr)
   (fun v _ => (3 - intOf v).toNat)
  case atStart => exact ⟨0,rfl,Lib.hid (.inl ⟨rfl,hG⟩),Below.refl _ _⟩
  case round =>
   obtain ⟨i,rfl,hI,hb⟩ := hrel
   rcases hI.out with ⟨rfl,hi⟩ | ⟨rfl,hi⟩ | ⟨rfl,hi⟩ | ⟨rfl,hi⟩
   ·clear hI
    by_cases c1 : 0 < a0
    ·by_cases c2 : a0 < 1280
     ·have hw : IntKind.i32.wrap (a0 + 1) = a0 + 1 := (i32_w _).trans (by unfold wrap32;omega)
      by_cases c3 : upC (a0 + 1) = a0
      ·have hn : a0 + 1 = G := by rw [← hi];unfold lowTry;rw [if_pos ⟨c1,c2,c3⟩]
       subst hn
       clear hi hG
       go_wp2_with (go_at_call 15;refine (word_UpperOf.calls 7 (a0 + 1) (upC (a0 + 1)) _ (upper7 (a0 + 1))).mono ?_;rintro e w1 ⟨rfl,q,rfl⟩)
       go_ret
       exact ⟨rfl,pw_below_drewN hb _⟩
      ·have hn : Hid ((lowTry a0 32 (lowTry a0 80 a0)) = G) := Lib.hid (by rw [← hi];conv => rhs;rw [lowTry.eq_def];rw [if_neg (fun h => c3 h.2.2)])
       clear hi hG
       go_wp2_with (go_at_call 15;refine (word_UpperOf.calls 7 (a0 + 1) (upC (a0 + 1)) _ (upper7 (a0 + 1))).mono ?_;rintro e w1 ⟨rfl,q,rfl⟩)
       go_roundw
       case rel => exact ⟨1,rfl,Lib.hid ((.inr (.inl ⟨rfl,hn.out⟩))),pw_below_drewN hb _⟩
       case measure => simp [intOf]
     ·have hn : Hid ((lowTry a0 32 (lowTry a0 80 a0)) = G) := Lib.hid (by rw [← hi];conv => rhs;rw [lowTry.eq_def];rw [if_neg (fun h => c2 h.2.1)])
      clear hi hG
      go_wp2_with (fail)
      go_roundw
      case rel => exact ⟨1,rfl,Lib.hid ((.inr (.inl ⟨rfl,hn.out⟩))),hb⟩
      case measure => simp [intOf]
    ·have hn : Hid ((lowTry a0 32 (lowTry a0 80 a0)) = G) := Lib.hid (by rw [← hi];conv => rhs;rw [lowTry.eq_def];rw [if_neg (fun h => c1 h.1)])
     clear hi hG
     go_wp2_with (fail)
     go_roundw
     case rel => exact ⟨1,rfl,Lib.hid ((.inr (.inl ⟨rfl,hn.out⟩))),hb⟩
     case measure => simp [intOf]
   ·clear hI
    by_cases c1 : 0 < a0
    ·by_cases c2 : a0 < 1280
     ·have hw : IntKind.i32.wrap (a0 + 32) = a0 + 32 := (i32_w _).trans (by unfold wrap32;omega)
      by_cases c3 : upC (a0 + 32) = a0
      ·have hn : a0 + 32 = G := by rw [← hi];unfold lowTry;rw [if_pos ⟨c1,c2,c3⟩]
       subst hn
       clear hi hG
       go_wp2_with (go_at_call 15;refine (word_UpperOf.calls 7 (a0 + 32) (upC (a0 + 32)) _ (upper7 (a0 + 32))).mono ?_;rintro e w1 ⟨rfl,q,rfl⟩)
       go_ret
       exact ⟨rfl,pw_below_drewN hb _⟩
      ·have hn : Hid ((lowTry a0 80 a0) = G) := Lib.hid (by rw [← hi];conv => rhs;rw [lowTry.eq_def];rw [if_neg (fun h => c3 h.2.2)])
       clear hi hG
       go_wp2_with (go_at_call 15;refine (word_UpperOf.calls 7 (a0 + 32) (upC (a0 + 32)) _ (upper7 (a0 + 32))).mono ?_;rintro e w1 ⟨rfl,q,rfl⟩)
       go_roundw
       case rel => exact ⟨2,rfl,Lib.hid ((.inr (.inr (.inl ⟨rfl,hn.out⟩)))),pw_below_drewN hb _⟩
       case measure => simp [intOf]
     ·have hn : Hid ((lowTry a0 80 a0) = G) := Lib.hid (by rw [← hi];conv => rhs;rw [lowTry.eq_def];rw [if_neg (fun h => c2 h.2.1)])
      clear hi hG
      go_wp2_with (fail)
      go_roundw
      case rel => exact ⟨2,rfl,Lib.hid ((.inr (.inr (.inl ⟨rfl,hn.out⟩)))),hb⟩
      case measure => simp [intOf]
    ·have hn : Hid ((lowTry a0 80 a0) = G) := Lib.hid (by rw [← hi];conv => rhs;rw [lowTry.eq_def];rw [if_neg (fun h => c1 h.1)])
     clear hi hG
     go_wp2_with (fail)
     go_roundw
     case rel => exact ⟨2,rfl,Lib.hid ((.inr (.inr (.inl ⟨rfl,hn.out⟩)))),hb⟩
     case measure => simp [intOf]
   ·clear hI
    by_cases c1 : 0 < a0
    ·by_cases c2 : a0 < 1280
     ·have hw : IntKind.i32.wrap (a0 + 80) = a0 + 80 := (i32_w _).trans (by unfold wrap32;omega)
      by_cases c3 : upC (a0 + 80) = a0
      ·have hn : a0 + 80 = G := by rw [← hi];unfold lowTry;rw [if_pos ⟨c1,c2,c3⟩]
       subst hn
       clear hi hG
       go_wp2_with (go_at_call 15;refine (word_UpperOf.calls 7 (a0 + 80) (upC (a0 + 80)) _ (upper7 (a0 + 80))).mono ?_;rintro e w1 ⟨rfl,q,rfl⟩)
       go_ret
       exact ⟨rfl,pw_below_drewN hb _⟩
      ·have hn : Hid (a0 = G) := Lib.hid (by rw [← hi];conv => rhs;rw [lowTry.eq_def];rw [if_neg (fun h => c3 h.2.2)])
       clear hi hG
       go_wp2_with (go_at_call 15;refine (word_UpperOf.calls 7 (a0 + 80) (upC (a0 + 80)) _ (upper7 (a0 + 80))).mono ?_;rintro e w1 ⟨rfl,q,rfl⟩)
       go_roundw
       case rel => exact ⟨3,rfl,Lib.hid ((.inr (.inr (.inr ⟨rfl,hn.out⟩)))),pw_below_drewN hb _⟩
       case measure => simp [intOf]
     ·have hn : Hid (a0 = G) := Lib.hid (by rw [← hi];conv => rhs;rw [lowTry.eq_def];rw [if_neg (fun h => c2 h.2.1)])
      clear hi hG
      go_wp2_with (fail)
      go_roundw
      case rel => exact ⟨3,rfl,Lib.hid ((.inr (.inr (.inr ⟨rfl,hn.out⟩)))),hb⟩
      case measure => simp [intOf]
    ·have hn : Hid (a0 = G) := Lib.hid (by rw [← hi];conv => rhs;rw [lowTry.eq_def];rw [if_neg (fun h => c1 h.1)])
     clear hi hG
     go_wp2_with (fail)
     go_roundw
     case rel => exact ⟨3,rfl,Lib.hid ((.inr (.inr (.inr ⟨rfl,hn.out⟩)))),hb⟩
     case measure => simp [intOf]
   ·subst hi
    clear hI hG
    go_wp2
    go_ret
    exact ⟨rfl,hb⟩
end Go.Proofs.YtkficbgnjpekaaaDoor.U
end
section
namespace Go.Proofs.YtkficbgnjpekaaaDoor.Pu
open Go Go.RowKit Go.Proofs.YtkficbgnjpekaaaDoor.Mu Go.Proofs.YtkficbgnjpekaaaDoor.U Go.Proofs.YtkficbgnjpekaaaDoorW.PrintWords Go.Proofs.YtkficbgnjpekaaaDoorW.PrintLast Go.Proofs.YtkficbgnjpekaaaDoorW.PrintMore
section
variable (t : ByteArray) (ht : t.size ≤ 1099511627776)
include ht
omit ht
include ht
end
theorem drop_cons {α : Type} {l t : List α} {b d : α} {i : Nat} (h : l.drop i = b :: t) : i < l.length ∧ l.getD i d = b ∧ l.drop (i + 1) = t := by
 have h1 : i < l.length := by
  rcases Nat.lt_or_ge i l.length with h2 | h2
  ·exact h2
  ·rw [List.drop_eq_nil_of_le h2] at h;cases h
 rw [List.drop_eq_getElem_cons h1] at h
 injection h with h2 h3
 exact ⟨h1,by rw [List.getD_eq_getElem?_getD,List.getElem?_eq_getElem h1];exact h2,h3⟩
theorem drop_nil_le {α : Type} {l : List α} {i : Nat} (h : l.drop i = []) : l.length ≤ i := List.drop_eq_nil_iff.1 h
theorem rd_nat (B : List Int) (i : Nat) : rd B i = B.getD i 0 := by unfold rd;rw [Int.toNat_natCast]
end Go.Proofs.YtkficbgnjpekaaaDoor.Pu
end
section
namespace Go.Proofs.YtkficbgnjpekaaaDoor.Pu
open Go Go.RowKit Go.Proofs.YtkficbgnjpekaaaDoor.Mu Go.Proofs.YtkficbgnjpekaaaDoor.U Go.Proofs.YtkficbgnjpekaaaDoorW.PrintWords Go.Proofs.YtkficbgnjpekaaaDoorW.PrintLast Go.Proofs.YtkficbgnjpekaaaDoorW.PrintMore
theorem bits192 : ∀ m : Fin 32,Go.bits .or .u8 192 ((m.val : Nat) : Int) = 192 + (m.val : Int) := by decide
theorem bits224 : ∀ m : Fin 16,Go.bits .or .u8 224 ((m.val : Nat) : Int) = 224 + (m.val : Int) := by decide
theorem bits240 : ∀ m : Fin 8,Go.bits .or .u8 240 ((m.val : Nat) : Int) = 240 + (m.val : Int) := by decide
theorem or192 {x : Int} (h : 0 ≤ x) (h2 : x < 32) : Go.bits .or .u8 192 x = 192 + x := by
 have := bits192 ⟨x.toNat,by omega⟩
 rwa [show ((x.toNat : Nat) : Int) = x by omega] at this
theorem or224 {x : Int} (h : 0 ≤ x) (h2 : x < 16) : Go.bits .or .u8 224 x = 224 + x := by
 have := bits224 ⟨x.toNat,by omega⟩
 rwa [show ((x.toNat : Nat) : Int) = x by omega] at this
theorem or240 {x : Int} (h : 0 ≤ x) (h2 : x < 8) : Go.bits .or .u8 240 x = 240 + x := by
 have := bits240 ⟨x.toNat,by omega⟩
 rwa [show ((x.toNat : Nat) : Int) = x by omega] at this
def okC (c : Int) : Prop := 0 ≤ c ∧ c ≤ 1114111 ∧ (c < 55296 ∨ 57343 < c)
instance (c : Int) : Decidable (okC c) := by unfold okC;infer_instance
/-- The bytes of a character. -/
def encI (c : Int) : List Int :=
 if c < 128 then [c] else if c < 2048 then [192 + c / 64,128 + c % 64] else if c < 65536 then [224 + c / 4096,128 + c / 64 % 64,128 + c % 64]
 else [240 + c / 262144,128 + c / 4096 % 64,128 + c / 64 % 64,128 + c % 64]
def encO (c : Int) : List Int := if okC c then encI c else []
theorem encI_len (c : Int) : (encI c).length ≤ 4 := by unfold encI;split <;> (try split) <;> (try split) <;> simp
theorem encO_len (c : Int) : (encO c).length ≤ 4 := by unfold encO;split;exact encI_len c;simp
theorem encI_byte (c : Int) (h : okC c) : ∀ x ∈ encI c,0 ≤ x ∧ x < 256 := by
 unfold okC at h
 intro x hx
 unfold encI at hx
 split at hx
 ·simp at hx;omega
 ·split at hx
  ·simp at hx;omega
  ·split at hx
   ·simp at hx;omega
   ·simp at hx;omega
theorem valid_ans (c : Int) : Ev (fun k => utf8_ValidRune.f k c) (decide (okC c)) := by
 unfold utf8_ValidRune.f
 by_cases h0 : 0 ≤ c
 ·refine ev_pos h0 (Ev.step (fun k => utf8_ValidRune.j0.eq_2 ..) ?_)
  by_cases h1 : c < 55296
  ·exact ev_pos (by simpa using h1) (ev_now (by rw [decide_eq_true (show okC c by unfold okC;omega)]))
  ·refine ev_neg (by simpa using h1) ?_
   by_cases h2 : 57343 < c
   ·refine ev_pos h2 ?_
    by_cases h3 : c ≤ 1114111
    ·exact ev_pos h3 (ev_now (by rw [decide_eq_true (show okC c by unfold okC;omega)]))
    ·exact ev_neg h3 (ev_now (by rw [decide_eq_false (show ¬ okC c by unfold okC;omega)]))
   ·exact ev_neg h2 (ev_now (by rw [decide_eq_false (show ¬ okC c by unfold okC;omega)]))
 ·exact ev_neg h0 (Ev.step (fun k => utf8_ValidRune.j0.eq_2 ..) (ev_neg (by simp) (ev_neg (by omega) (ev_now (by rw [decide_eq_false (show ¬ okC c by unfold okC;omega)])))))
theorem append_ans (l : List Int) (hl : l.length ≤ 17592186044416) (c : Int) (h : okC c) : Ev (fun k => utf8_AppendRune.f k l c) (l ++ encI c) := by
 unfold okC at h
 have e : c % 4294967296 = c := by omega
 unfold utf8_AppendRune.f
 by_cases h1 : c < 128
 ·refine ev_pos (by omega) (ev_pos (by omega) (ev_now ?_))
  unfold encI;rw [if_pos h1,show c % 256 = c by omega]
 refine ev_neg (by omega) (Ev.bind (f := fun _ t => some t) (a := l ++ encI c) ?_ (Ev.now _))
 unfold utf8_appendRuneNonASCII.f
 rw [e]
 by_cases h2 : c < 2048
 ·refine ev_pos (by omega) (ev_some rfl (ev_pos (by simp;omega) (ev_now ?_)))
  unfold encI;rw [if_neg h1,if_pos h2,or192 (by omega) (by omega),show c / 64 % 256 = c / 64 by omega]
 refine ev_neg (by omega) ?_
 have hj3 : c < 65536 → ∀ b,b = true → Ev (fun k => utf8_appendRuneNonASCII.j0 k l c c b) (l ++ encI c) := by
  intro h3 b hb
  refine Ev.step (fun k => utf8_appendRuneNonASCII.j0.eq_2 ..) (ev_pos hb (ev_some rfl (ev_pos (by simp;omega) (ev_now ?_))))
  unfold encI;rw [if_neg h1,if_neg h2,if_pos h3,or224 (by omega) (by omega),show c / 4096 % 256 = c / 4096 by omega]
 by_cases h3 : c < 55296
 ·exact ev_pos h3 (hj3 (by omega) _ (by simpa using h3))
 refine ev_neg h3 (ev_pos (by omega) ?_)
 by_cases h4 : c < 65536
 ·exact hj3 h4 _ (by rw [decide_eq_true_eq];omega)
 ·refine Ev.step (fun k => utf8_appendRuneNonASCII.j0.eq_2 ..) (ev_neg (by rw [decide_eq_true_eq];omega) (ev_pos (by omega) (ev_pos (by omega) (ev_some rfl (ev_pos (by simp;omega) (ev_now ?_))))))
  unfold encI;rw [if_neg h1,if_neg h2,if_neg h4,or240 (by omega) (by omega),show c / 262144 % 256 = c / 262144 by omega]
theorem encode_loop (L : List Int) (hL : L.length ≤ 1099511627776) : ∀ (l : List Int) (i : Nat) (o : List Int),L.drop i = l → o.length + 4 * l.length ≤ 8796093022208 → Ev (fun k => unit_Encode.l0 k o L (L.length : Int) i) (strOfNums (o ++ l.flatMap encO)) := by
 intro l
 induction l with
 | nil => intro i o h _;have := drop_nil_le h;exact Ev.step (fun k => unit_Encode.l0.eq_2 ..) (ev_neg (by omega) (ev_now (by simp)))
 | cons c l ih =>
  intro i o h ho
  rw [List.length_cons] at ho
  obtain ⟨hi,hg,hd⟩ := drop_cons (d := 0) h
  have hv := valid_ans c
  have := encO_len c
  have hgo := ih (i + 1) (o ++ encO c) hd (by rw [List.length_append];omega)
  rw [List.append_assoc] at hgo
  rw [List.flatMap_cons]
  refine Ev.step (fun k => unit_Encode.l0.eq_2 ..) (ev_pos (by omega) (ev_pos (by omega) (ev_pos (by omega) ?_)))
  rw [rd_nat,hg,w64 (by omega) (by omega)]
  refine Ev.bind hv ?_
  by_cases hc : okC c
  ·refine ev_pos (by simpa using hc) (Ev.bind (append_ans o (by omega) c hc) ?_)
   rw [show encO c = encI c by unfold encO;rw [if_pos hc]] at hgo ⊢
   exact hgo
  ·refine ev_neg (by simpa using hc) ?_
   rw [show encO c = [] by unfold encO;rw [if_neg hc]] at hgo ⊢
   rw [List.nil_append] at hgo ⊢
   rw [List.append_nil] at hgo
   exact hgo
theorem encode_ans (l : List Int) (hl : l.length ≤ 1099511627776) : Ev (fun k => unit_Encode.f k l) (strOfNums (l.flatMap encO)) := encode_loop l hl l 0 [] rfl (by simp;omega)
theorem bytesOf_str (l : List Int) (h : ∀ x ∈ l,0 ≤ x ∧ x < 256) : bytesOf (strOfNums l) = l := by
 unfold bytesOf
 rw [strOfNums_data,List.map_map]
 conv => rhs;rw [← List.map_id l]
 apply List.map_congr_left
 intro x hx
 obtain ⟨h0,h1⟩ := h x hx
 show (((UInt8.ofNat x.toNat).toNat : Nat) : Int) = x
 rw [UInt8.toNat_ofNat']
 omega
end Go.Proofs.YtkficbgnjpekaaaDoor.Pu
end
section
namespace Go.Proofs.YtkficbgnjpekaaaDoor.U
open Go.RowKit Go.Shelf Go.Proofs.YtkficbgnjpekaaaDoor.Mu Go.Proofs.YtkficbgnjpekaaaDoor.Pu Go.Proofs.YtkficbgnjpekaaaDoor.Rg Go.Proofs.YtkficbgnjpekaaaDoorW.PrintWords Go.Proofs.YtkficbgnjpekaaaDoorW.PrintLast Go.Proofs.YtkficbgnjpekaaaDoorW.PrintMore
set_option linter.unusedVariables false
set_option linter.unusedSimpArgs false
/-- What a unit becomes. -/
def eachU (s : ByteArray) (F : Int → Int → Int) (i : Nat) : List Int := if uC s i < 0 then bytesOf (s.extract i (i + uN s i)) else encO (F i (uC s i))
def eachL (s : ByteArray) (F : Int → Int → Int) : Nat → Nat → List Int
 | 0,_ => []
 | k + 1,i => if i < s.size then eachU s F i ++ eachL s F k (i + uN s i) else []
theorem encO_byte (c : Int) : ∀ x ∈ encO c,0 ≤ x ∧ x < 256 := by
 unfold encO
 split
 ·rename_i h;exact encI_byte c h
 ·intro x hx;cases hx
theorem uC_neg_one (s : ByteArray) (i : Nat) (h : uC s i < 0) : uN s i = 1 := by
 unfold uC at h
 unfold uN
 split at h
 ·rename_i h2;exact h2.2
 ·omega
theorem eachU_len (s : ByteArray) (F : Int → Int → Int) (i : Nat) (hi : i < s.size) : (eachU s F i).length ≤ 4 * uN s i := by
 have h1 := uN_pos s i
 unfold eachU
 split
 ·rw [bytesOf_length,size_extract _ _ _ (uN_le s i hi)];omega
 ·have := encO_len (F i (uC s i));omega
theorem units_kept {W w9 : World} {b n : Nat} {ok : Nat → Prop} {v5 vu : Value} {xs : List Value} {us : List S42} (hown : W.ownsRow b 5 1 v5 n xs) (hR : Kd.R k42 42 W b ok vu us) (hg : W.grownBy w9 v5.ownBlock) : Kd.R k42 42 w9 b ok vu us := by
 obtain ⟨inner,ho⟩ := Kd.R_own hR
 refine Kd.R_grown2 hR rfl hg (fun k e => ?_)
 rcases own_type_ne hown ho (by decide) with h | h
 ·rw [h] at e;cases e
 ·rw [← e];exact h
theorem unit_box_kept {W w9 : World} {b n B : Nat} {v5 : Value} {xs : List Value} {c m : Int} (hown : W.ownsRow b 5 1 v5 n xs) (hB : W.heap[B]? = some (.cells #[.int .i32 c,.int .i64 m] 42 (0,0))) (hg : W.grownBy w9 v5.ownBlock) : w9.cell? ⟨B,1,none⟩ = some (.int .i64 m) := by
 have hne := own_ne hown hB (by decide)
 have h2 := (hg.block B (Array.getElem?_eq_some_iff.1 hB).1 hne).trans hB
 simp [World.cell?,h2]
theorem lit_one (W : World) (x : Int) : Kd.C (Kd.int .i32) (W.alloc (.cells #[.int .i32 x] 21)) (some ⟨W.heap.size,0,none⟩) [x].length [x] := by
 have ho : (W.alloc (.cells #[.int .i32 x] 21)).ownsRow W.heap.size 21 1 (.slice (some ⟨W.heap.size,0,none⟩) 1 1) [x].length (nums .i32 [x]) := World.ownsRow_lit W #[.int .i32 x] 1 (Nat.le_refl _) (by decide) rfl
 have hR : Kd.R (Kd.int .i32) 21 (W.alloc (.cells #[.int .i32 x] 21)) W.heap.size (fun _ => True) (.slice (some ⟨W.heap.size,0,none⟩) 1 1) [x] := Kd.R_of_own ho (fun _ _ => trivial)
 exact (Kd.R_reads' hR).2.2
theorem eachL_end (s : ByteArray) (F : Int → Int → Int) (k i : Nat) (h : ¬ i < s.size) : eachL s F k i = [] := by
 cases k with
 | zero => rfl
 | succ k => rw [eachL,if_neg h]
/-- One round more: the unit that stands there. -/
theorem each_round {eachT' : List Int} (s : ByteArray) (F : Int → Int → Int) (k i j : Nat) (acc : List Int) (hk : s.size ≤ i + k) (hlt : j < (unitsL s).length) (hU : (unitsL s).drop j = (walkL s k i).map (·.2)) (hI : eachT' = acc ++ eachL s F k i) :
  ∃ k',k = k' + 1 ∧ i < s.size ∧ rd_T42 (unitsL s) (j : Int) = uAt s i ∧ Hid ((unitsL s).drop (j + 1) = (walkL s k' (i + uN s i)).map (·.2)) ∧ Hid (eachT' = (acc ++ eachU s F i) ++ eachL s F k' (i + uN s i)) := by
 cases k with
 | zero => rw [walkL] at hU;have h2 := congrArg List.length hU;rw [List.length_drop] at h2;simp at h2;omega
 | succ k =>
  rw [walkL] at hU
  by_cases hi : i < s.size
  ·rw [if_pos hi,List.map_cons] at hU
   rw [eachL,if_pos hi,← List.append_assoc] at hI
   refine ⟨k,rfl,hi,?_,Lib.hid ?_,Lib.hid hI⟩
   ·unfold rd_T42
    rw [Int.toNat_natCast,List.getD_eq_getElem?_getD,← List.head?_drop,hU]
    rfl
   ·rw [List.drop_add_one_eq_tail_drop,hU];rfl
  ·rw [if_neg hi] at hU;have h2 := congrArg List.length hU;rw [List.length_drop] at h2;simp at h2;omega
/-- The bytes of the changed text. -/
def eachT (s : ByteArray) (F : Int → Int → Int) : List Int := eachL s F s.size 0
set_option maxRecDepth 100000 in
set_option maxHeartbeats 4000000 in
theorem each_any (s : ByteArray) (g : Nat) (lb : Array Value) (F : Int → Int → Int) (w : World) (hs : s.size ≤ 1099511627776) (hT : Lib.Utf8Tabs 0 1 w)
  (eg : ∀ args w,(callFunc g args).run Tryd.prog w = .ok (.enter g args) w)
  (hone : ∀ (W : World) (at_ : Nat) (c : Int),at_ < s.size → Below w.heap.size w W → Calls Tryd.prog g (#[.int .i64 (at_ : Int),.int .i32 c] ++ lb) W fun e w' => e = .returned (.int .i32 (F (at_ : Int) c)) ∧ Below W.heap.size W w') :
  Calls Tryd.prog 54 #[.string s,.func (.func g) #[] lb] w fun e w' => e = .returned (.string (strOfNums (eachT s F))) ∧ Below w.heap.size w w' := by
 have hu : unit_Units.f s = some (unitsL s) := by unfold unit_Units.f;rw [if_pos (by omega)]
 obtain ⟨i5,hi5,hz0,hz1,hz2⟩ := info_parts info5
 obtain ⟨w1,hmk,hown0,hg0⟩ := run_make_own (P := Tryd.prog) w w.heap.size 66 5 i5 (.int .u8 0) 1 Tryd.underlying66 hi5 hz0 hz1 .i64 .i64 s.size (by rw [hz2];omega) (by unfold maxLen;omega) (Nat.le_refl _)
 have hb1 : Below w.heap.size w w1 := (Below.refl _ w).grown hg0 (Nat.le_refl _) (fun k e => by cases e)
 have hT1 := tabs_below hT hb1
 go_enter Tryd.func54,Tryd.ntmps54
 go_wp2_with (go_at_call 74;refine (unit_Units.calls s (unitsL s) w1 hT1 hu).mono ?_;rintro e w2 ⟨v0,rfl,hR,hb2⟩;obtain ⟨A,c,rfl,hcl,hC⟩ := Kd.R_reads hR)
 have hbw2 : Below w.heap.size w w2 := hb1.trans (hb2.mono hb1.size)
 have hn : (unitsL s).length ≤ s.size := by rw [unitsL_len];exact walkL_length s s.size 0
 have hown2 : w2.ownsRow w.heap.size 5 1 (.slice (some ⟨w.heap.size,0,none⟩) 0 s.size) ([] : List Int).length (nums .u8 []) := pw_own_below hown0 hb2
 have hR2 := Kd.R_lower hR hb1.size
 clear hR hown0 hmk hg0 hb1 hb2 hT1 hC hu hi5 hz0 hz1 hz2
 have hI0 : Hid (eachT s F = [] ++ eachL s F s.size 0) := Lib.hid rfl
 have hU0 : Hid ((unitsL s).drop 0 = (walkL s s.size 0).map (·.2)) := Lib.hid rfl
 go_loopw [5,6,15] (fun v5 v6 v15 wr => ∃ (k i j : Nat) (acc : List Int),v6 = .int .i64 i ∧ v15 = .int .i64 j ∧ i ≤ s.size ∧ s.size ≤ i + k ∧ j ≤ (unitsL s).length ∧ Hid ((unitsL s).drop j = (walkL s k i).map (·.2)) ∧ Hid (eachT s F = acc ++ eachL s F k i) ∧ acc.length ≤ 4 * i ∧
   wr.ownsRow w.heap.size 5 1 v5 acc.length (nums .u8 acc) ∧ Kd.R k42 42 wr w.heap.size (fun _ => True) (.slice A (unitsL s).length c) (unitsL s) ∧ Below w.heap.size w wr)
  (fun _ _ v _ => (unitsL s).length - (intOf v).toNat)
 case atStart => exact ⟨s.size,0,0,[],rfl,rfl,Nat.zero_le _,by omega,Nat.zero_le _,hU0,hI0,Nat.zero_le _,hown2,hR2,hbw2⟩
 case round =>
  obtain ⟨k,i,j,acc,rfl,rfl,hi,hk,hj,hU,hI,hacc,hown,hR,hb⟩ := hrel
  clear hI0 hU0 hown2 hR2 hbw2
  by_cases hlt : j < (unitsL s).length
  ·obtain ⟨k,rfl,hiS,hrd,hU2,hI2⟩ := each_round s F k i j acc hk hlt hU.out hI.out
   obtain ⟨A',c',e',_,hC⟩ := Kd.R_reads hR
   obtain ⟨rfl,_,rfl⟩ : A = A' ∧ (unitsL s).length = (unitsL s).length ∧ c = c' := by injection e' with e1 e2 e3;exact ⟨e1,e2,e3⟩
   obtain ⟨ad,rfl,ca0,ca1⟩ := at_T42 hC (j : Int) (by omega) (by omega)
   rw [hrd] at ca0 ca1
   obtain ⟨ch,hch⟩ : ∃ x,uC s i = x := ⟨_,rfl⟩
   obtain ⟨m,hm⟩ : ∃ x,uN s i = x := ⟨_,rfl⟩
   have hm1 : 1 ≤ m := hm ▸ uN_pos s i
   have hm2 : i + m ≤ s.size := hm ▸ uN_le s i hiS
   have hlen := eachU_len s F i hiS
   have e1 : (uAt s i).f0 = ch := hch
   have e2 : (uAt s i).f1 = (m : Int) := by rw [← hm];rfl
   rw [e1] at ca0
   rw [e2] at ca1
   rw [hm] at hU2 hI2 hlen
   simp only [Int.toNat_natCast] at ca0 ca1
   clear hU hI hrd e1 e2
   have hjlt : (j : Int) < ((unitsL s).length : Int) := by omega
   have hu42 := Tryd.underlying42
   have hw1 : IntKind.i64.wrap ((i : Int) + (m : Int)) = ((i + m : Nat) : Int) := (i64_w _).trans (by unfold wrap64;omega)
   have hw2 : IntKind.i64.wrap ((j : Int) + 1) = ((j + 1 : Nat) : Int) := (i64_w _).trans (by unfold wrap64;omega)
   obtain ⟨U,hUe⟩ : ∃ U,eachU s F i = U := ⟨_,rfl⟩
   have hB0 : Below w.heap.size w (wr.alloc (.cells #[.int .i32 ch,.int .i64 m] 42)) := hb.alloc hb.size _
   have hbx : (wr.alloc (.cells #[.int .i32 ch,.int .i64 m] 42)).heap[wr.heap.size]? = some (.cells #[.int .i32 ch,.int .i64 m] 42 (0,0)) := World.alloc_heap_new _ _
   have hownA := own_alloc hown (.cells #[.int .i32 ch,.int .i64 m] 42)
   have hRA := Kd.R_alloc hR (.cells #[.int .i32 ch,.int .i64 m] 42)
   by_cases hneg : ch < 0
   ·have hUb : Hid (bytesOf (s.extract i (i + m)) = U) := Lib.hid (by rw [← hUe];unfold eachU;rw [hch,if_pos hneg,hm])
    rw [hUe] at hI2 hlen
    have hsz : (s.extract i (i + m)).size = m := by rw [size_extract _ _ _ hm2];omega
    clear hUe hch hm
    go_wp2_with (at_builtin;refine print_append_str (w0 := w) w.heap.size rfl (.tmp 22) _ 66 9 5 rfl Tryd.underlying66 Tryd.underlying9 info5 u5 acc (s.extract i (i + m)) rfl rfl hownA hB0 hB0.size (by rw [hsz];omega) ?_;rw [hUb.out];intro v9 w9 ho9 hb9 hg9;have hR9 := units_kept hownA hRA hg9;have hc9 := unit_box_kept hownA hbx hg9)
    go_roundw
    case rel => exact ⟨k,i + m,j + 1,acc ++ U,by go_num,by go_num,hm2,by omega,by omega,hU2,hI2,by rw [List.length_append];omega,ho9,hR9,hb9⟩
    case measure => (try clear hw1);(try clear hw2);simp [intOf];omega
   ·have hUb : Hid (encO (F i ch) = U) := Lib.hid (by rw [← hUe];unfold eachU;rw [hch,if_neg hneg])
    rw [hUe] at hI2 hlen
    clear hUe hch hm
    have hone1 := hone _ i ch hiS hB0
    obtain ⟨fc,hfc⟩ : ∃ x,F i ch = x := ⟨_,rfl⟩
    rw [hfc] at hUb hone1
    clear hfc
    have hkE : Hid (∃ k,unit_Encode.f k [fc] = some (strOfNums U)) := Lib.hid (by
     have := Ev.rounds (encode_ans [fc] (by simp))
     rw [List.flatMap_cons,List.flatMap_nil,List.append_nil,hUb.out] at this
     exact this)
    obtain ⟨kE,hkE⟩ := hkE.out
    have hkE := Lib.hid hkE
    have hUs : Hid (bytesOf (strOfNums U) = U) := Lib.hid (by rw [← hUb.out];exact bytesOf_str _ (encO_byte fc))
    have hsz : (strOfNums U).size = U.length := by rw [← bytesOf_length,hUs.out]
    have hneg' : ¬ (ch < 0) := hneg
    go_wp2_with (fail)
    refine hone1.mono ?_
    rintro e w3 ⟨rfl,hb3⟩
    have hB3 : Below w.heap.size w w3 := hB0.trans (hb3.mono hB0.size)
    have hown3 := pw_own_below hownA hb3
    have hR3 := Kd.R_below hRA hb3
    have hbx3 : w3.heap[wr.heap.size]? = some (.cells #[.int .i32 ch,.int .i64 m] 42 (0,0)) := (hb3.block _ (Array.getElem?_eq_some_iff.1 hbx).1).trans hbx
    have hC3 := lit_one w3 fc
    clear hone1 hownA hRA hbx
    go_wp2_with (first | (go_at_call 29;refine (unit_Encode.calls kE (some ⟨w3.heap.size,0,none⟩) 1 [fc] (strOfNums U) _ hC3 (Nat.le_refl _) hkE.out).mono ?_;rintro e w4 ⟨rfl,hb4⟩;have hb34 : Below w3.heap.size w3 w4 := ((Below.refl _ w3).alloc (Nat.le_refl _) _).trans (hb4.mono (by simp));have hB4 : Below w.heap.size w w4 := hB3.trans (hb34.mono hB3.size);have hown4 := pw_own_below hown3 hb34;have hR4 := Kd.R_below hR3 hb34;have hbx4 : w4.heap[wr.heap.size]? = some (.cells #[.int .i32 ch,.int .i64 m] 42 (0,0)) := (hb34.block _ (Array.getElem?_eq_some_iff.1 hbx3).1).trans hbx3) | (at_builtin;refine print_append_str (w0 := w) w.heap.size rfl (.tmp 31) _ 66 9 5 rfl Tryd.underlying66 Tryd.underlying9 info5 u5 acc (strOfNums U) rfl rfl hown4 hB4 hB4.size (by rw [hsz];omega) ?_;rw [hUs.out];intro v9 w9 ho9 hb9 hg9;have hR9 := units_kept hown4 hR4 hg9;have hc9 := unit_box_kept hown4 hbx4 hg9))
    go_roundw
    case rel => exact ⟨k,i + m,j + 1,acc ++ U,by go_num,by go_num,hm2,by omega,by omega,hU2,hI2,by rw [List.length_append];omega,ho9,hR9,hb9⟩
    case measure => (try clear hw1);(try clear hw2);simp [intOf];omega
  ·have hge : ¬ ((j : Int) < ((unitsL s).length : Int)) := by omega
   have hend : eachT s F = acc := by
    have h1 := hI.out
    have h2 := hU.out
    rw [List.drop_eq_nil_of_le (by omega)] at h2
    have h3 : ¬ i < s.size := fun h => by
     cases k with
     | zero => omega
     | succ k => rw [walkL,if_pos h] at h2;cases h2
    rw [h1,eachL_end s F k i h3,List.append_nil]
   clear hI hU
   have hend := Lib.hid hend
   have hcv := own_string (P := Tryd.prog) Tryd.underlying66 Tryd.underlying5 Tryd.underlying9 hown
   go_wp2
   go_ret
   exact ⟨by first | rfl | (rw [hend.out];rfl),hb⟩
def upF (_ c : Int) : Int := upC c
def lowF (_ c : Int) : Int := lowC c
set_option maxRecDepth 100000 in
set_option maxHeartbeats 4000000 in
theorem upper1_calls (W : World) (at_ c : Int) : Calls Tryd.prog 55 (#[.int .i64 at_,.int .i32 c] ++ #[]) W fun e w' => e = .returned (.int .i32 (upF at_ c)) ∧ Below W.heap.size W w' := by
 show Calls Tryd.prog 55 #[.int .i64 at_,.int .i32 c] W _
 unfold upF
 go_enter Tryd.func55,Tryd.ntmps55
 go_wp2_with (go_at_call 15;refine (word_UpperOf.calls 7 c (upC c) _ (upper7 c)).mono ?_;rintro e w1 ⟨rfl,q,rfl⟩)
 go_ret
 exact ⟨rfl,pw_below_drewN (Below.refl _ _) _⟩
set_option maxRecDepth 100000 in
set_option maxHeartbeats 4000000 in
theorem lower1_calls (W : World) (at_ c : Int) : Calls Tryd.prog 57 (#[.int .i64 at_,.int .i32 c] ++ #[]) W fun e w' => e = .returned (.int .i32 (lowF at_ c)) ∧ Below W.heap.size W w' := by
 show Calls Tryd.prog 57 #[.int .i64 at_,.int .i32 c] W _
 unfold lowF
 go_enter Tryd.func57,Tryd.ntmps57
 go_wp2_with (go_at_call 17;refine (word_LowerOf.calls c (lowC c) _ rfl).mono ?_;rintro e w1 ⟨rfl,hb1⟩)
 go_ret
 exact ⟨rfl,hb1⟩
def word_Upper.f (a0 : ByteArray) : Option ByteArray := if a0.size ≤ 1099511627776 then some (strOfNums (eachT a0 upF)) else none
def word_Lower.f (a0 : ByteArray) : Option ByteArray := if a0.size ≤ 1099511627776 then some (strOfNums (eachT a0 lowF)) else none
set_option maxRecDepth 100000 in
set_option maxHeartbeats 4000000 in
theorem word_Upper.calls (a0 : ByteArray) (r : ByteArray) (w : World) (hT : Lib.Utf8Tabs 0 1 w) (h : word_Upper.f a0 = some r) :
  Calls Tryd.prog 30 #[.string a0] w fun e w' => e = .returned (.string r) ∧ Below w.heap.size w w' := by
 unfold word_Upper.f at h
 split at h
 ·obtain rfl := Option.some.inj h
  rename_i hs
  have he := each_any a0 55 #[] upF w hs hT (enters_of Tryd.func55 (by kernel_rfl) rfl) (fun W at_ c _ _ => upper1_calls W at_ c)
  go_enter Tryd.func30,Tryd.ntmps30
  go_wp2_with (go_at_call 54;refine he.mono ?_;rintro e w1 ⟨rfl,hb1⟩)
  go_ret
  exact ⟨rfl,hb1⟩
 ·cases h
set_option maxRecDepth 100000 in
set_option maxHeartbeats 4000000 in
theorem word_Lower.calls (a0 : ByteArray) (r : ByteArray) (w : World) (hT : Lib.Utf8Tabs 0 1 w) (h : word_Lower.f a0 = some r) :
  Calls Tryd.prog 32 #[.string a0] w fun e w' => e = .returned (.string r) ∧ Below w.heap.size w w' := by
 unfold word_Lower.f at h
 split at h
 ·obtain rfl := Option.some.inj h
  rename_i hs
  have he := each_any a0 57 #[] lowF w hs hT (enters_of Tryd.func57 (by kernel_rfl) rfl) (fun W at_ c _ _ => lower1_calls W at_ c)
  go_enter Tryd.func32,Tryd.ntmps32
  go_wp2_with (go_at_call 54;refine he.mono ?_;rintro e w1 ⟨rfl,hb1⟩)
  go_ret
  exact ⟨rfl,hb1⟩
 ·cases h
end Go.Proofs.YtkficbgnjpekaaaDoor.U
end
section
namespace Go.Proofs.YtkficbgnjpekaaaDoor.U
open Go.RowKit Go.Shelf Go.Maps Go.Proofs.YtkficbgnjpekaaaDoor.Mu Go.Proofs.YtkficbgnjpekaaaDoor.Pu Go.Proofs.YtkficbgnjpekaaaDoor.Rg Go.Proofs.YtkficbgnjpekaaaDoorW.PrintWords Go.Proofs.YtkficbgnjpekaaaDoorW.PrintLast Go.Proofs.YtkficbgnjpekaaaDoorW.PrintMore
set_option linter.unusedVariables false
set_option linter.unusedSimpArgs false
theorem spF_range (s : ByteArray) (B : Int) : ∀ (n : Nat) (cs : List S61),cs.length = n → (∀ c ∈ cs,0 ≤ c.f0 ∧ c.f0 ≤ B) → ∀ sp ∈ (spF s cs).2,0 ≤ sp.f0 ∧ sp.f0 ≤ B
 | 0,cs,hn,_,sp,hsp => by
  obtain rfl := List.length_eq_zero_iff.1 hn
  cases hsp
 | n + 1,cs,hn,hc,sp,hsp => by
  rcases List.eq_nil_or_concat cs with rfl | ⟨l,c,rfl⟩
  ·cases hn
  rw [List.concat_eq_append] at hn hsp hc
  rw [spF_snoc] at hsp
  have ih := spF_range s B n l (by simpa using hn) (fun c hm => hc c (by simp [hm]))
  obtain ⟨_,h2⟩ := spF_shape s l
  have hcc := hc c (by simp)
  obtain ⟨⟨i,L⟩,hL⟩ : ∃ st,spF s l = st := ⟨_,rfl⟩
  rw [hL] at hsp ih h2
  cases hw : wAt s c.f0.toNat with
  | false => rw [spStep_off s i L c hw] at hsp;exact ih sp hsp
  | true =>
   cases i with
   | false =>
    rw [spStep_new s L c hw] at hsp
    rcases List.mem_append.1 hsp with h | h
    ·exact ih sp h
    ·rw [List.mem_singleton] at h;subst h;exact hcc
   | true =>
    obtain ⟨p,a,b,rfl⟩ := h2 rfl
    rw [spStep_on s p a b c hw] at hsp
    rcases List.mem_append.1 hsp with h | h
    ·exact ih sp (List.mem_append.2 (.inl h))
    ·rw [List.mem_singleton] at h;subst h;exact ih ⟨a,b⟩ (by simp)
theorem spans_range (s : ByteArray) : ∀ sp ∈ spansL s,0 ≤ sp.f0 ∧ sp.f0 ≤ s.size :=
 spF_range s s.size _ (clusL s) rfl (fun c hc => by
  obtain ⟨i,_,hi,rfl⟩ := clus_mem' s s.size 0 (cb_zero s) c hc
  exact ⟨Int.natCast_nonneg i,Int.ofNat_le.2 (by omega)⟩)
theorem spans_len (s : ByteArray) : (spansL s).length ≤ s.size := Nat.le_trans (spF_shape s (clusL s)).1 (clusL_length s)
/-- What the map says of the words so far. -/
structure MapI (D : DataW Unit) (l : List S32) : Prop where
 map : IsMap D
 at_ : ∀ k : Int,∃ c : Int,D.atKey (.int .i64 k) (.lit (.int .i64 0)) = .lit (.int .i64 c) ∧ (0 < c ↔ ∃ sp ∈ l,sp.f0 = k)
theorem MapI.nil : MapI (.map []) [] := ⟨isMap_empty,fun k => ⟨0,rfl,by simp⟩⟩
theorem MapI.step {D : DataW Unit} {l : List S32} (h : MapI D l) (sp : S32) (j : Int) (hj : 0 < j) : MapI (D.put (.int .i64 sp.f0) (.lit (.int .i64 j))) (l ++ [sp]) := by
 refine ⟨h.map.put _ _,fun k => ?_⟩
 by_cases e : k = sp.f0
 ·subst e
  exact ⟨j,atKey_put_same h.map (by trivial) _ _,⟨fun _ => ⟨sp,by simp,rfl⟩,fun _ => hj⟩⟩
 ·obtain ⟨c,h1,h2⟩ := h.at_ k
  refine ⟨c,(atKey_put_other (fun h => e (by injection h)) _ _).trans h1,h2.trans ⟨fun ⟨x,hx,hk⟩ => ⟨x,by simp [hx],hk⟩,fun ⟨x,hx,hk⟩ => ?_⟩⟩
  rcases List.mem_append.1 hx with h3 | h3
  ·exact ⟨x,h3,hk⟩
  ·rw [List.mem_singleton] at h3;subst h3;exact absurd hk.symm e
/-- What a character at an offset becomes. -/
def capF (s : ByteArray) (at_ c : Int) : Int := if (spansL s).any (fun sp => decide (sp.f0 = at_)) = true then upC c else lowC c
theorem zero_int (w : World) : (zeroValue 3).run Tryd.prog w = .ok (.int .i64 0) w := by kernel_rfl
set_option maxRecDepth 100000 in
set_option maxHeartbeats 4000000 in
theorem capital1_calls (s : ByteArray) (W : World) (bm Bb n : Nat) (D : DataW Unit) (hbox : Boxed W Bb 71 (.map (some bm))) (hown : W.ownsMap Tryd.prog 3 (plainElem Tryd.prog 3) bm n D) (hD : MapI D (spansL s)) (at_ : Nat) (c : Int) (hat : at_ < 1099511627776) :
  Calls Tryd.prog 58 (#[.int .i64 (at_ : Int),.int .i32 c] ++ #[.pointer (some ⟨Bb,0,none⟩)]) W fun e w' => e = .returned (.int .i32 (capF s at_ c)) ∧ Below W.heap.size W w' := by
 show Calls Tryd.prog 58 #[.int .i64 (at_ : Int),.int .i32 c,.pointer (some ⟨Bb,0,none⟩)] W _
 have hF : Hid (∀ cap : Int,D.atKey (.int .i64 (at_ : Int)) (.lit (.int .i64 0)) = .lit (.int .i64 cap) → capF s at_ c = if 0 < cap then upC c else lowC c) := Lib.hid (fun cap h => by
  obtain ⟨cap',h1,h2⟩ := hD.at_ at_
  have e : cap' = cap := by rw [h1] at h;injection h with h;injection h
  subst e
  unfold capF
  by_cases h3 : 0 < cap'
  ·rw [if_pos h3,if_pos]
   obtain ⟨sp,hm,he⟩ := h2.1 h3
   exact List.any_eq_true.2 ⟨sp,hm,decide_eq_true he⟩
  ·rw [if_neg h3,if_neg]
   intro h4
   obtain ⟨sp,hm,he⟩ := List.any_eq_true.1 h4
   exact h3 (h2.2 ⟨sp,hm,of_decide_eq_true he⟩))
 obtain ⟨G,hG⟩ : ∃ G,capF s at_ c = G := ⟨_,rfl⟩
 rw [hG] at hF
 rw [hG]
 clear hG hD
 have hc := hbox.cell
 go_enter Tryd.func58,Tryd.ntmps58
 go_wp2_with (first | (at_lookup;refine wpList_lookup_own_int _ rfl _ _ 71 rfl 3 3 .i64 (int_keyed Tryd.underlying3) Tryd.underlying71 Tryd.underlying3 (zero_int _) bm n _ rfl hown _ _ rfl (keyOf_int_mk Tryd.underlying3 (WalkArith.wf_i64 (by omega))) ?_;intro cap hcap hwc) | (go_at_call 15;refine (word_UpperOf.calls 7 c (upC c) _ (upper7 c)).mono ?_;rintro e w1 ⟨rfl,q,rfl⟩) | (go_at_call 17;refine (word_LowerOf.calls c (lowC c) _ rfl).mono ?_;rintro e w1 ⟨rfl,hb1⟩))
 all_goals (
  go_ret
  refine ⟨?_,by first | exact hb1 | exact pw_below_drewN (Below.refl _ _) _⟩
  rw [hF.out cap hcap]
  first
  | (rw [if_pos (by omega)];rfl)
  | (rw [if_neg (by omega)];rfl))
set_option maxRecDepth 100000 in
set_option maxHeartbeats 4000000 in
theorem capital_any (s : ByteArray) (w : World) (hs : s.size ≤ 1099511627775) (hT : Lib.Utf8Tabs 0 1 w) :
  Calls Tryd.prog 34 #[.string s] w fun e w' => e = .returned (.string (strOfNums (eachT s (capF s)))) ∧ Below w.heap.size w w' := by
 have hu : word_Spans.f s = some (spansL s) := by unfold word_Spans.f;rw [if_pos (by omega)]
 have hrg := spans_range s
 have hnl := spans_len s
 have hmm := @run_makeMap Tryd.prog
 have hM0 : (w.alloc (.map #[] 0)).ownsMap Tryd.prog 3 (plainElem (H := Unit) Tryd.prog 3) w.heap.size 0 (.map []) := World.ownsMap_made _ _ _ _
 have hM1 := hM0.alloc (.cells #[.map (some w.heap.size)] 71)
 have hB1 := Boxed.new (w.alloc (.map #[] 0)) 71 (.map (some w.heap.size))
 rw [World.size_alloc] at hB1
 have hb1 : Below w.heap.size w ((w.alloc (.map #[] 0)).alloc (.cells #[.map (some w.heap.size)] 71)) := ((Below.refl _ w).alloc (Nat.le_refl _) _).alloc (by simp) _
 have hsz1 : ((w.alloc (.map #[] 0)).alloc (.cells #[.map (some w.heap.size)] 71)).heap.size = w.heap.size + 2 := by simp
 have hT1 := tabs_below hT hb1
 go_enter Tryd.func34,Tryd.ntmps34
 go_wp2_with (go_at_call 20;refine (word_Spans.calls s (spansL s) _ hT1 hu).mono ?_;rintro e w2 ⟨v0,rfl,hR,hb2⟩;obtain ⟨A,c,rfl,hcl,hC⟩ := Kd.R_reads hR)
 rw [hsz1] at hR
 have hg2 : ((w.alloc (.map #[] 0)).alloc (.cells #[.map (some w.heap.size)] 71)).grownBy w2 none := ⟨hb2.os,hb2.tape,hb2.output,hb2.size,fun i hi _ => hb2.block i hi⟩
 have hM2 := hM1.kept hg2 (by simp)
 have hB2 := boxed_below hB1 hb2
 have hbw2 : Below w.heap.size w w2 := hb1.trans (hb2.mono hb1.size)
 clear hM0 hM1 hB1 hb1 hT1 hb2 hg2 hC hsz1
 go_loopw [10] (fun v wr => ∃ (j : Nat) (D : DataW Unit),v = .int .i64 j ∧ j ≤ (spansL s).length ∧ wr.ownsMap Tryd.prog 3 (plainElem (H := Unit) Tryd.prog 3) w.heap.size j D ∧ Hid (MapI D ((spansL s).take j)) ∧ Boxed wr (w.heap.size + 1) 71 (.map (some w.heap.size)) ∧
   Kd.R k32 32 wr (w.heap.size + 2) (fun _ => True) (.slice A (spansL s).length c) (spansL s) ∧ Below w.heap.size w wr)
  (fun v _ => (spansL s).length - (intOf v).toNat)
 case atStart => exact ⟨0,_,rfl,Nat.zero_le _,hM2,Lib.hid (by rw [List.take_zero];exact MapI.nil),hB2,hR,hbw2⟩
 case round =>
  obtain ⟨j,D,rfl,hj,hM,hI,hB,hR,hb⟩ := hrel
  clear hM2 hB2 hbw2
  by_cases hlt : j < (spansL s).length
  ·obtain ⟨A',c',e',_,hC⟩ := Kd.R_reads hR
   obtain ⟨rfl,_,rfl⟩ : A = A' ∧ (spansL s).length = (spansL s).length ∧ c = c' := by injection e' with e1 e2 e3;exact ⟨e1,e2,e3⟩
   obtain ⟨ad,rfl,ca0,ca1⟩ := at_T32 hC (j : Int) (by omega) (by omega)
   have hrd : rd_T32 (spansL s) (j : Int) = (spansL s)[j] := by unfold rd_T32;rw [Int.toNat_natCast,List.getD_eq_getElem?_getD,List.getElem?_eq_getElem hlt];rfl
   rw [hrd] at ca0 ca1
   have hin := hrg _ (List.getElem_mem hlt)
   have htk : (spansL s).take (j + 1) = (spansL s).take j ++ [(spansL s)[j]] := (List.take_append_getElem hlt).symm
   have hstep : Hid (∀ v : Int,0 < v → MapI (D.put (.int .i64 (spansL s)[j].f0) (.lit (.int .i64 v))) ((spansL s).take (j + 1))) := Lib.hid (fun v hv => by rw [htk];exact hI.out.step _ v hv)
   obtain ⟨⟨x0,x1⟩,hx⟩ : ∃ x,(spansL s)[j] = x := ⟨_,rfl⟩
   rw [hx] at ca0 ca1 hin hstep
   simp only [Int.toNat_natCast] at ca0 ca1
   clear hx hrd htk hI hC
   have hjlt : (j : Int) < ((spansL s).length : Int) := by omega
   have hu32 := Tryd.underlying32
   have hw2 : IntKind.i64.wrap ((j : Int) + 1) = ((j + 1 : Nat) : Int) := (i64_w _).trans (by unfold wrap64;omega)
   have hin' : 0 ≤ x0 ∧ x0 ≤ s.size := hin
   have hM' := hM.alloc (.cells #[.int .i64 x0,.int .i64 x1] 32)
   have hB' := hB.alloc (.cells #[.int .i64 x0,.int .i64 x1] 32)
   have hcB := hB'.cell
   have hR' := Kd.R_alloc hR (.cells #[.int .i64 x0,.int .i64 x1] 32)
   have hb' : Below w.heap.size w (wr.alloc (.cells #[.int .i64 x0,.int .i64 x1] 32)) := hb.alloc hb.size _
   have hwf0 : (Lit.int .i64 x0).wf = true := WalkArith.wf_i64 (by omega)
   have hwf1 : (Lit.int .i64 ((j + 1 : Nat) : Int)).wf = true := WalkArith.wf_i64 (by omega)
   go_wp2_with (at_mapUpdate;refine wpList_mapUpdate_own _ rfl _ _ _ 71 rfl 3 3 (int_keyed Tryd.underlying3) Tryd.underlying71 _ w.heap.size j _ rfl hM' (by unfold maxLen;omega) _ _ _ rfl rfl (keyOf_int_mk Tryd.underlying3 hwf0) _ [] (plainElem_int Tryd.underlying3 (a := ((j + 1 : Nat) : Int)) hwf1) ?_;intro w3 hown3 hg3)
   go_roundw
   case rel =>
    refine ⟨j + 1,_,by go_num,by omega,hown3,Lib.hid (hstep.out _ (by omega)),?_,?_,hb'.grown hg3 hb'.size (fun k e => by cases e;exact Nat.le_refl _)⟩
    ·exact hB'.kept hg3 (by simp)
    ·refine Kd.R_grown2 hR' rfl hg3 (fun k e => ?_)
     cases e
     obtain ⟨inner,ho⟩ := Kd.R_own hR'
     intro h
     have := own_base ho _ h.symm
     omega
   case measure => clear hw2;simp [intOf];omega
  ·have hge : ¬ ((j : Int) < ((spansL s).length : Int)) := by omega
   have hIa : MapI D (spansL s) := by have := hI.out;rwa [List.take_of_length_le (by omega)] at this
   have he := each_any s 58 #[.pointer (some ⟨w.heap.size + 1,0,none⟩)] (capF s) wr (by omega) (tabs_below hT hb) (enters_of Tryd.func58 (by kernel_rfl) rfl) (fun W at_ c hat hbW =>
    capital1_calls s W w.heap.size (w.heap.size + 1) j D (boxed_below hB hbW) (hM.kept (row := none) ⟨hbW.os,hbW.tape,hbW.output,hbW.size,fun i hi _ => hbW.block i hi⟩ (by simp)) hIa at_ c (by omega))
   clear hIa hI hrg
   go_wp2_with (go_at_call 54;refine he.mono ?_;rintro e w4 ⟨rfl,hb4⟩)
   go_ret
   exact ⟨rfl,hb.trans (hb4.mono hb.size)⟩
def word_Capital.f (a0 : ByteArray) : Option ByteArray := if a0.size ≤ 1099511627775 then some (strOfNums (eachT a0 (capF a0))) else none
theorem word_Capital.calls (a0 : ByteArray) (r : ByteArray) (w : World) (hT : Lib.Utf8Tabs 0 1 w) (h : word_Capital.f a0 = some r) :
  Calls Tryd.prog 34 #[.string a0] w fun e w' => e = .returned (.string r) ∧ Below w.heap.size w w' := by
 unfold word_Capital.f at h
 split at h
 ·obtain rfl := Option.some.inj h
  rename_i hs
  exact capital_any a0 w hs hT
 ·cases h
end Go.Proofs.YtkficbgnjpekaaaDoor.U
end
