/- What the law ChangeCases reaches of this seat's own texts, merged; what nothing uses is left out. -/
import Derived.Test.YtfmnmjoofnbnfaaDoorZChangeCases0
import Derived.Test.YtfmnmjoofnbnfaaDoorZChangeCases1
import Derived.Test.YtfmnmjoofnbnfaaDoorZChangeCases3
import Derived.Test.YtfmnmjoofnbnfaaDoorZChangeCases6
import Derived.Test.YtfmnmjoofnbnfaaDoorZChangeCases7
import Derived.Test.YtfmnmjoofnbnfaaDoorZChangeCases8
import Derived.Test.YtfmnmjoofnbnfaaDoorZChangeCases10
section
namespace Go.Proofs.YtfmnmjoofnbnfaaDoor.Pu
open Go Go.RowKit Go.Proofs.YtfmnmjoofnbnfaaDoor.Mu Go.Proofs.YtfmnmjoofnbnfaaDoor.U Go.Proofs.YtfmnmjoofnbnfaaDoorW.PrintWords Go.Proofs.YtfmnmjoofnbnfaaDoorW.PrintLast Go.Proofs.YtfmnmjoofnbnfaaDoorW.PrintMore
set_option linter.unusedVariables false
set_option linter.unusedSimpArgs false
theorem again_up (F : Int → Int) (m : Int) (hF : ∀ x,0 ≤ x → x ≤ m → x ≤ F x ∧ F x ≤ m) : ∀ (n : Nat) (x : Int),0 ≤ x → x ≤ m → x ≤ againN F n x ∧ againN F n x ≤ m
 | 0,x,h0,h1 => ⟨Int.le_refl _,h1⟩
 | n + 1,x,h0,h1 => by
  have h := hF x h0 h1
  rw [againN]
  split
  ·exact ⟨Int.le_refl _,h1⟩
  ·have := again_up F m hF n (F x) (by omega) h.2
   omega
theorem again_down (F : Int → Int) (m : Int) (hF : ∀ x,0 ≤ x → x ≤ m → 0 ≤ F x ∧ F x ≤ x) : ∀ (n : Nat) (x : Int),0 ≤ x → x ≤ m → 0 ≤ againN F n x ∧ againN F n x ≤ x
 | 0,x,h0,h1 => ⟨h0,Int.le_refl _⟩
 | n + 1,x,h0,h1 => by
  have h := hF x h0 h1
  rw [againN]
  split
  ·exact ⟨h0,Int.le_refl _⟩
  ·have := again_down F m hF n (F x) h.1 (by omega)
   omega
theorem nxZ_range (s : ByteArray) (hs : s.size ≤ 1099511627776) (x : Int) (h0 : 0 ≤ x) (h1 : x ≤ s.size) : x ≤ nxZ s x ∧ nxZ s x ≤ s.size := by
 obtain ⟨h2,h3,_⟩ := nxZ_spec s hs x
 have := cbi_range h2
 omega
theorem pvZ_range (s : ByteArray) (hs : s.size ≤ 1099511627776) (x : Int) (h0 : 0 ≤ x) (h1 : x ≤ s.size) : 0 ≤ pvZ s x ∧ pvZ s x ≤ x := by
 obtain ⟨h2,h3,_⟩ := pvZ_spec s hs x
 have := cbi_range h2
 omega
theorem snZ_range (s : ByteArray) (hs : s.size ≤ 1099511627776) (x : Int) : 0 ≤ snZ s x ∧ snZ s x ≤ s.size := cbi_range (snZ_spec s hs x).1
theorem beL_range (a : Int) : ∀ (l : List S63) (x : Int),0 ≤ x → x ≤ a → (∀ p ∈ l,0 ≤ p.f0) → 0 ≤ beL a x l ∧ beL a x l ≤ a
 | [],x,h0,h1,_ => ⟨h0,h1⟩
 | p :: l,x,h0,h1,h => by
  have hp := h p (List.mem_cons_self ..)
  rw [beL]
  split
  ·exact beL_range a l _ hp (by omega) (fun q hq => h q (List.mem_cons_of_mem _ hq))
  ·exact beL_range a l _ h0 h1 (fun q hq => h q (List.mem_cons_of_mem _ hq))
theorem held_id (s : ByteArray) (x : Int) (h0 : 0 ≤ x) (h1 : x ≤ s.size) : heldB s x = x := by
 unfold heldB mn mx
 split <;> split <;> omega
theorem be_range (s : ByteArray) (x : Int) (h0 : 0 ≤ x) (h1 : x ≤ s.size) : 0 ≤ beA s x ∧ beA s x ≤ x := by
 unfold beA
 rw [held_id s x h0 h1]
 exact beL_range x _ 0 (Int.le_refl _) h0 (fun p hp => (spans_range s p hp).1)
theorem ahL_range (n a : Int) (h : a ≤ n) : ∀ (l : List S63),(∀ p ∈ l,p.f1 ≤ n) → a ≤ ahL n a l ∧ ahL n a l ≤ n
 | [],_ => ⟨h,Int.le_refl _⟩
 | p :: l,hl => by
  have hp := hl p (List.mem_cons_self ..)
  rw [ahL]
  split
  ·omega
  ·exact ahL_range n a h l (fun q hq => hl q (List.mem_cons_of_mem _ hq))
theorem spF_ends (s : ByteArray) (B : Int) : ∀ (n : Nat) (cs : List S74),cs.length = n → (∀ c ∈ cs,c.f1 ≤ B) → ∀ sp ∈ (spF s cs).2,sp.f1 ≤ B
 | 0,cs,hn,_,sp,hsp => by
  obtain rfl := List.length_eq_zero_iff.1 hn
  cases hsp
 | n + 1,cs,hn,hc,sp,hsp => by
  rcases List.eq_nil_or_concat cs with rfl | ⟨l,c,rfl⟩
  ·cases hn
  rw [List.concat_eq_append] at hn hsp hc
  rw [spF_snoc] at hsp
  have ih := spF_ends s B n l (by simpa using hn) (fun c hm => hc c (by simp [hm]))
  obtain ⟨_,h2⟩ := spF_shape s l
  have hcc := hc c (by simp)
  obtain ⟨⟨i,L⟩,hL⟩ : ∃ st,spF s l = st := ⟨_,rfl⟩
  rw [hL] at hsp ih h2
  cases hw : wAt s c.f0.toNat with
  | false => rw [spStep_off s i L c hw] at hsp;exact ih sp hsp
  | true =>
   cases i with
   | false =>
    rw [spStep_new s L c hw] at hsp
    rcases List.mem_append.1 hsp with h | h
    ·exact ih sp h
    ·rw [List.mem_singleton] at h;subst h;exact hcc
   | true =>
    obtain ⟨p,a,b,rfl⟩ := h2 rfl
    rw [spStep_on s p a b c hw] at hsp
    rcases List.mem_append.1 hsp with h | h
    ·exact ih sp (List.mem_append.2 (.inl h))
    ·rw [List.mem_singleton] at h;subst h;exact hcc
theorem spans_ends (s : ByteArray) : ∀ sp ∈ spansL s,sp.f1 ≤ s.size :=
 spF_ends s s.size _ (clusL s) rfl (fun c hc => by
  obtain ⟨i,hb,hi,rfl⟩ := clus_mem' s s.size 0 (cb_zero s) c hc
  exact Int.ofNat_le.2 (nxt_le s i hb.1 (by omega)))
theorem ah_range (s : ByteArray) (x : Int) (h0 : 0 ≤ x) (h1 : x ≤ s.size) : x ≤ ahA s x ∧ ahA s x ≤ s.size := by
 unfold ahA
 rw [held_id s x h0 h1]
 exact ahL_range s.size x h1 _ (fun p hp => spans_ends s p hp)
def killZ (q : Wk) : Res := if q.region < 0 then (0,0,⟨#[]⟩,0,⟨#[]⟩,false,7) else if q.region = q.at0 then (0,0,⟨#[]⟩,0,⟨#[]⟩,false,8) else
 (mn q.at0 q.region,mx q.at0 q.region - mn q.at0 q.region,⟨#[]⟩,mn q.at0 q.region,q.text.extract (mn q.at0 q.region).toNat (mx q.at0 q.region).toNat,q.region == mn q.at0 q.region,0)
def copyZ (q : Wk) : Res := if q.region < 0 then (0,0,⟨#[]⟩,0,⟨#[]⟩,false,7) else if q.region = q.at0 then (0,0,⟨#[]⟩,0,⟨#[]⟩,false,8) else
 (0,0,⟨#[]⟩,q.at0,q.text.extract (mn q.at0 q.region).toNat (mx q.at0 q.region).toNat,false,0)
theorem mn_mx (a b : Int) : mn a b ≤ mx a b ∧ (mn a b = a ∨ mn a b = b) ∧ (mx a b = a ∨ mx a b = b) := by
 unfold mn mx
 split <;> split <;> omega
theorem kill_ev (q : Wk) (hs : q.text.size ≤ 1099511627776) (h0 : 0 ≤ q.at0 ∧ q.at0 ≤ q.text.size) (h1 : q.region ≤ q.text.size) : change_work_killRegion.f q.text q.at0 q.region q.n = some (killZ q) := by
 unfold change_work_killRegion.f change_work_between.f killZ
 by_cases hr : q.region < 0
 ·rw [if_pos hr,if_pos hr];rfl
 ·rw [if_neg hr,if_neg hr]
  by_cases he : q.region = q.at0
  ·rw [if_pos he,if_pos he];rfl
  ·have := mn_mx q.at0 q.region
   rw [if_neg he,if_neg he,Option.bind_some]
   dsimp only
   rw [if_pos rfl,if_pos (by omega),if_pos (by omega),if_pos (by omega),w64 (by omega) (by omega)]
theorem copy_ev (q : Wk) (hs : q.text.size ≤ 1099511627776) (h0 : 0 ≤ q.at0 ∧ q.at0 ≤ q.text.size) (h1 : q.region ≤ q.text.size) : change_work_copyRegion.f q.text q.at0 q.region q.n = some (copyZ q) := by
 unfold change_work_copyRegion.f change_work_between.f copyZ
 by_cases hr : q.region < 0
 ·rw [if_pos hr,if_pos hr];rfl
 ·rw [if_neg hr,if_neg hr]
  by_cases he : q.region = q.at0
  ·rw [if_pos he,if_pos he];rfl
  ·have := mn_mx q.at0 q.region
   rw [if_neg he,if_neg he,Option.bind_some]
   dsimp only
   rw [if_pos rfl,if_pos (by omega),if_pos (by omega),if_pos (by omega)]
def edgeR : Res := (0,0,⟨#[]⟩,0,⟨#[]⟩,false,8)
def swapZ (s : ByteArray) (a b c d : Int) : Res := (a,d - a,(s.extract c.toNat d.toNat ++ s.extract b.toNat c.toNat) ++ s.extract a.toNat b.toNat,d,⟨#[]⟩,false,0)
theorem swap_ev (s : ByteArray) (hs : s.size ≤ 1099511627776) (x y z a b c d : Int) (h0 : 0 ≤ a) (h1 : a ≤ b) (h2 : b ≤ c) (h3 : c ≤ d) (h4 : d ≤ s.size) : change_work_swap.f s x y z a b c d = some (swapZ s a b c d) := by
 have e1 : (s.extract c.toNat d.toNat).size = d.toNat - c.toNat := size_extract _ _ _ (by omega)
 have e2 : (s.extract b.toNat c.toNat).size = c.toNat - b.toNat := size_extract _ _ _ (by omega)
 have e3 : (s.extract a.toNat b.toNat).size = b.toNat - a.toNat := size_extract _ _ _ (by omega)
 have e4 : (s.extract c.toNat d.toNat ++ s.extract b.toNat c.toNat).size = (d.toNat - c.toNat) + (c.toNat - b.toNat) := by rw [ByteArray.size_append,e1,e2]
 unfold change_work_swap.f swapZ
 rw [if_pos (by omega),if_pos h3,if_pos h4,if_pos (by omega),if_pos h2,if_pos (by omega),if_pos (by omega),if_pos h0,if_pos h1,if_pos (by omega),if_pos (by omega),w64 (by omega) (by omega)]
noncomputable def trcM (s : ByteArray) (st e mid : Int) : Res := if mid ≤ st then edgeR else if mid ≥ e then edgeR else swapZ s (pvZ s mid) mid mid (nxZ s mid)
noncomputable def trcZ (q : Wk) : Res := trcM q.text (lstZ q.text q.at0) (lendZ q.text q.at0).1 (if q.at0 = (lendZ q.text q.at0).1 then pvZ q.text (lendZ q.text q.at0).1 else q.at0)
theorem trc_tail (s : ByteArray) (hs : s.size ≤ 1099511627776) (x y z st e mid : Int) (h0 : 0 ≤ mid) (h1 : mid ≤ s.size) : Ev (fun k => change_work_transposeChars.j0 k st e mid s x y z) (trcM s st e mid) := by
 have hp := pvZ_range s hs mid h0 h1
 have hn := nxZ_range s hs mid h0 h1
 unfold trcM
 refine Ev.step (fun k => change_work_transposeChars.j0.eq_2 ..) ?_
 by_cases c1 : mid ≤ st
 ·rw [if_pos c1]
  exact ev_pos c1 (Ev.step (fun k => change_work_transposeChars.j1.eq_2 ..) (ev_pos rfl (Ev.now _)))
 ·rw [if_neg c1]
  refine ev_neg c1 (Ev.step (fun k => change_work_transposeChars.j1.eq_2 ..) ?_)
  by_cases c2 : mid ≥ e
  ·rw [if_pos c2]
   exact ev_pos (decide_eq_true c2) (Ev.now _)
  ·rw [if_neg c2]
   refine ev_neg (by simp [c2]) (Ev.bind (pvZ_ans s hs mid) (Ev.bind (nxZ_ans s hs mid) (ev_some (swap_ev s hs x y z _ _ _ _ hp.1 hp.2 (Int.le_refl _) hn.1 hn.2) (Ev.now _))))
theorem trc_ans (q : Wk) (hs : q.text.size ≤ 1099511627776) (h0 : 0 ≤ q.at0 ∧ q.at0 ≤ q.text.size) : Ev (fun k => change_work_transposeChars.f k q.text q.at0 q.region q.n) (trcZ q) := by
 have hl := lend_range q.text q.at0 h0.1 h0.2
 unfold trcZ
 refine ev_some (lst_ev q.text hs q.at0 h0.1 h0.2) (ev_some (lend_ev q.text hs q.at0 h0.1 h0.2) ?_)
 by_cases c : q.at0 = (lendZ q.text q.at0).1
 ·rw [if_pos c]
  have hp := pvZ_range q.text hs (lendZ q.text q.at0).1 (by omega) (by omega)
  exact ev_pos c (Ev.bind (pvZ_ans q.text hs _) (trc_tail q.text hs _ _ _ _ _ _ hp.1 (by omega)))
 ·rw [if_neg c]
  exact ev_neg c (trc_tail q.text hs _ _ _ _ _ _ h0.1 h0.2)
end Go.Proofs.YtfmnmjoofnbnfaaDoor.Pu
end
section
namespace Go.Proofs.YtfmnmjoofnbnfaaDoor.Pu
open Go Go.RowKit Go.Proofs.YtfmnmjoofnbnfaaDoor.Mu Go.Proofs.YtfmnmjoofnbnfaaDoor.U Go.Proofs.YtfmnmjoofnbnfaaDoor.Rg Go.Proofs.YtfmnmjoofnbnfaaDoorW.PrintWords Go.Proofs.YtfmnmjoofnbnfaaDoorW.PrintLast Go.Proofs.YtfmnmjoofnbnfaaDoorW.PrintMore
set_option linter.unusedVariables false
set_option linter.unusedSimpArgs false
/-- Rule number i answers r. -/
def Runs (q : Wk) (i : Nat) (r : Res) : Prop := ∀ (W : World) (N ba : Nat) (n : Nat → Nat),RulesAt W N ba n → Lib.Utf8Tabs 1 2 W →
 Calls Tryd.prog (rg ba n i).1 (#[.agg #[.string q.text,.int .i64 q.at0,.int .i64 q.region,.int .i64 q.n]] ++ (rg ba n i).2) W fun e w' => e = .returned (resV r) ∧ Below W.heap.size W w'
theorem runs0 (q : Wk) (hs : q.text.size ≤ 1099511627776) (hn : q.n ≤ 1000) (h0 : 0 ≤ q.at0 ∧ q.at0 ≤ q.text.size) : Runs q 0 (cutZ q.text false false q.at0 (againN (nxZ q.text) q.n q.at0)) := by
 intro W N ba n hR hT
 have h := hR.2.2.1
 have hr := again_up _ _ (nxZ_range q.text hs) q.n q.at0 h0.1 h0.2
 exact cut_calls q false false 47 48 (n 0) (n 0 + 1) (n 0 + 2) (n 0 + 3) _ _ W hT (h _ (.head _)) (h _ (.tail _ (.head _))) (h _ (.tail _ (.tail _ (.head _)))) (h _ (.tail _ (.tail _ (.tail _ (.head _))))) (enters_of Tryd.func47 (by kernel_rfl) rfl) (enters_of Tryd.func48 (by kernel_rfl) rfl) (here_leads q) (right_leads q hs hn) (by omega) hs
theorem runs1 (q : Wk) (hs : q.text.size ≤ 1099511627776) (hn : q.n ≤ 1000) (h0 : 0 ≤ q.at0 ∧ q.at0 ≤ q.text.size) : Runs q 1 (cutZ q.text false false (againN (pvZ q.text) q.n q.at0) q.at0) := by
 intro W N ba n hR hT
 have h := hR.2.2.2.1
 have hr := again_down _ _ (pvZ_range q.text hs) q.n q.at0 h0.1 h0.2
 exact cut_calls q false false 49 47 (n 1) (n 1 + 1) (n 1 + 2) (n 1 + 3) _ _ W hT (h _ (.head _)) (h _ (.tail _ (.head _))) (h _ (.tail _ (.tail _ (.head _)))) (h _ (.tail _ (.tail _ (.tail _ (.head _))))) (enters_of Tryd.func49 (by kernel_rfl) rfl) (enters_of Tryd.func47 (by kernel_rfl) rfl) (left_leads q hs hn) (here_leads q) (by omega) hs
theorem runs2 (q : Wk) (hs : q.text.size ≤ 1099511627776) (hn : q.n ≤ 1000) (h0 : 0 ≤ q.at0 ∧ q.at0 ≤ q.text.size) : Runs q 2 (cutZ q.text true false q.at0 (againN (ahA q.text) q.n q.at0)) := by
 intro W N ba n hR hT
 have h := hR.2.2.2.2.1
 have hr := again_up _ _ (ah_range q.text) q.n q.at0 h0.1 h0.2
 exact cut_calls q true false 47 38 (n 2) (n 2 + 1) (n 2 + 2) (n 2 + 3) _ _ W hT (h _ (.head _)) (h _ (.tail _ (.head _))) (h _ (.tail _ (.tail _ (.head _)))) (h _ (.tail _ (.tail _ (.tail _ (.head _))))) (enters_of Tryd.func47 (by kernel_rfl) rfl) (enters_of Tryd.func38 (by kernel_rfl) rfl) (here_leads q) (ahead_leads q hs hn) (by omega) hs
theorem runs3 (q : Wk) (hs : q.text.size ≤ 1099511627776) (hn : q.n ≤ 1000) (h0 : 0 ≤ q.at0 ∧ q.at0 ≤ q.text.size) : Runs q 3 (cutZ q.text true true (againN (beA q.text) q.n q.at0) q.at0) := by
 intro W N ba n hR hT
 have h := hR.2.2.2.2.2.1
 have hr := again_down _ _ (be_range q.text) q.n q.at0 h0.1 h0.2
 exact cut_calls q true true 41 47 (n 3) (n 3 + 1) (n 3 + 2) (n 3 + 3) _ _ W hT (h _ (.head _)) (h _ (.tail _ (.head _))) (h _ (.tail _ (.tail _ (.head _)))) (h _ (.tail _ (.tail _ (.tail _ (.head _))))) (enters_of Tryd.func41 (by kernel_rfl) rfl) (enters_of Tryd.func47 (by kernel_rfl) rfl) (behind_leads q hs hn) (here_leads q) (by omega) hs
theorem runs4 (q : Wk) (hs : q.text.size ≤ 1099511627776) (hn : q.n ≤ 1000) (h0 : 0 ≤ q.at0 ∧ q.at0 ≤ q.text.size) : Runs q 4 (cutZ q.text true false q.at0 (againN (onwZ q.text) q.n q.at0)) := by
 intro W N ba n hR hT
 have h := hR.2.2.2.2.2.2.1
 have hr := again_up _ _ (onw_range q.text) q.n q.at0 h0.1 h0.2
 exact cut_calls q true false 47 51 (n 4) (n 4 + 1) (n 4 + 2) (n 4 + 3) _ _ W hT (h _ (.head _)) (h _ (.tail _ (.head _))) (h _ (.tail _ (.tail _ (.head _)))) (h _ (.tail _ (.tail _ (.tail _ (.head _))))) (enters_of Tryd.func47 (by kernel_rfl) rfl) (enters_of Tryd.func51 (by kernel_rfl) rfl) (here_leads q) (onward_leads q hs hn h0) (by omega) hs
theorem runs5 (q : Wk) (hs : q.text.size ≤ 1099511627776) (hn : q.n ≤ 1000) (h0 : 0 ≤ q.at0 ∧ q.at0 ≤ q.text.size) : Runs q 5 (cutZ q.text true true (lstZ q.text q.at0) q.at0) := by
 intro W N ba n hR hT
 have h := hR.2.2.2.2.2.2.2.1
 have hr := lst_range q.text q.at0 h0.1 h0.2
 exact cut_calls q true true 53 47 (n 5) (n 5 + 1) (n 5 + 2) (n 5 + 3) _ _ W hT (h _ (.head _)) (h _ (.tail _ (.head _))) (h _ (.tail _ (.tail _ (.head _)))) (h _ (.tail _ (.tail _ (.tail _ (.head _))))) (enters_of Tryd.func53 (by kernel_rfl) rfl) (enters_of Tryd.func47 (by kernel_rfl) rfl) (start_leads q hs h0) (here_leads q) (by omega) hs
theorem runs6 (q : Wk) (hs : q.text.size ≤ 1099511627776) (h0 : 0 ≤ q.at0 ∧ q.at0 ≤ q.text.size) (h1 : q.region ≤ q.text.size) : Runs q 6 (killZ q) := by
 intro W N ba n hR hT
 have hk := kill_ev q hs h0 h1
 obtain ⟨⟨r1,r2,r3,r4,r5,r6,r7⟩,hr⟩ : ∃ r,killZ q = r := ⟨_,rfl⟩
 rw [hr] at hk ⊢
 exact change_work_killRegion.calls q.text q.at0 q.region q.n r1 r2 r3 r4 r5 r6 r7 W hk
theorem runs7 (q : Wk) (hs : q.text.size ≤ 1099511627776) (h0 : 0 ≤ q.at0 ∧ q.at0 ≤ q.text.size) (h1 : q.region ≤ q.text.size) : Runs q 7 (copyZ q) := by
 intro W N ba n hR hT
 have hk := copy_ev q hs h0 h1
 obtain ⟨⟨r1,r2,r3,r4,r5,r6,r7⟩,hr⟩ : ∃ r,copyZ q = r := ⟨_,rfl⟩
 rw [hr] at hk ⊢
 exact change_work_copyRegion.calls q.text q.at0 q.region q.n r1 r2 r3 r4 r5 r6 r7 W hk
theorem runs8 (q : Wk) (hs : q.text.size ≤ 1099511627776) (h0 : 0 ≤ q.at0 ∧ q.at0 ≤ q.text.size) : Runs q 8 (trcZ q) := by
 intro W N ba n hR hT
 obtain ⟨k,hk⟩ := Ev.rounds (trc_ans q hs h0)
 obtain ⟨⟨r1,r2,r3,r4,r5,r6,r7⟩,hr⟩ : ∃ r,trcZ q = r := ⟨_,rfl⟩
 rw [hr] at hk ⊢
 exact change_work_transposeChars.calls k q.text q.at0 q.region q.n r1 r2 r3 r4 r5 r6 r7 W hT hk
theorem runs10 (q : Wk) (hs : q.text.size ≤ 1099511627775) (hn : q.n ≤ 1000) (h0 : 0 ≤ q.at0 ∧ q.at0 ≤ q.text.size) (put : ByteArray) (hput : word_Upper.f (q.text.extract q.at0.toNat (againN (ahA q.text) q.n q.at0).toNat) = some put) (hp : put.size ≤ 4398046511104) :
  Runs q 10 (caseZ q.text q.at0 (againN (ahA q.text) q.n q.at0) put) := by
 intro W N ba n hR hT
 have hs' : q.text.size ≤ 1099511627776 := by omega
 have hr := again_up _ _ (ah_range q.text) q.n q.at0 h0.1 h0.2
 exact case_calls q 38 10 ba (n 6) _ put W hT (hR.2.1 _ (.head _)) (hR.2.2.2.2.2.2.2.2.1 _ (.head _)) (enters_of Tryd.func38 (by kernel_rfl) rfl) (enters_of Tryd.func10 (by kernel_rfl) rfl) (ahead_leads q hs' hn) (by omega) hs' hp (fun W' hT' => word_Upper.calls _ put W' hT' hput)
theorem runs11 (q : Wk) (hs : q.text.size ≤ 1099511627775) (hn : q.n ≤ 1000) (h0 : 0 ≤ q.at0 ∧ q.at0 ≤ q.text.size) (put : ByteArray) (hput : word_Lower.f (q.text.extract q.at0.toNat (againN (ahA q.text) q.n q.at0).toNat) = some put) (hp : put.size ≤ 4398046511104) :
  Runs q 11 (caseZ q.text q.at0 (againN (ahA q.text) q.n q.at0) put) := by
 intro W N ba n hR hT
 have hs' : q.text.size ≤ 1099511627776 := by omega
 have hr := again_up _ _ (ah_range q.text) q.n q.at0 h0.1 h0.2
 exact case_calls q 38 11 ba (n 7) _ put W hT (hR.2.1 _ (.head _)) (hR.2.2.2.2.2.2.2.2.2.1 _ (.head _)) (enters_of Tryd.func38 (by kernel_rfl) rfl) (enters_of Tryd.func11 (by kernel_rfl) rfl) (ahead_leads q hs' hn) (by omega) hs' hp (fun W' hT' => word_Lower.calls _ put W' hT' hput)
theorem runs12 (q : Wk) (hs : q.text.size ≤ 1099511627775) (hn : q.n ≤ 1000) (h0 : 0 ≤ q.at0 ∧ q.at0 ≤ q.text.size) (put : ByteArray) (hput : word_Capital.f (q.text.extract q.at0.toNat (againN (ahA q.text) q.n q.at0).toNat) = some put) (hp : put.size ≤ 4398046511104) :
  Runs q 12 (caseZ q.text q.at0 (againN (ahA q.text) q.n q.at0) put) := by
 intro W N ba n hR hT
 have hs' : q.text.size ≤ 1099511627776 := by omega
 have hr := again_up _ _ (ah_range q.text) q.n q.at0 h0.1 h0.2
 exact case_calls q 38 12 ba (n 8) _ put W hT (hR.2.1 _ (.head _)) (hR.2.2.2.2.2.2.2.2.2.2 _ (.head _)) (enters_of Tryd.func38 (by kernel_rfl) rfl) (enters_of Tryd.func12 (by kernel_rfl) rfl) (ahead_leads q hs' hn) (by omega) hs' hp (fun W' hT' => word_Capital.calls _ put W' hT' hput)
end Go.Proofs.YtfmnmjoofnbnfaaDoor.Pu
end
section
namespace Go.Proofs.YtfmnmjoofnbnfaaDoor.Pu
open Go Go.RowKit Go.Proofs.YtfmnmjoofnbnfaaDoor.Mu Go.Proofs.YtfmnmjoofnbnfaaDoor.U Go.Proofs.YtfmnmjoofnbnfaaDoor.Rg Go.Proofs.YtfmnmjoofnbnfaaDoorW.PrintWords Go.Proofs.YtfmnmjoofnbnfaaDoorW.PrintLast Go.Proofs.YtfmnmjoofnbnfaaDoorW.PrintMore
set_option linter.unusedVariables false
set_option linter.unusedSimpArgs false
def trwK (L : List S63) (y : Int) : Nat → Nat → Nat
 | k,0 => k
 | k,i + 1 => if (rd_T63 L (i : Int)).f0 ≥ y then trwK L y i i else k
def trwW (s : ByteArray) (L : List S63) (k : Nat) : Res :=
 swapZ s (rd_T63 L (mx k 1 - 1)).f0 (rd_T63 L (mx k 1 - 1)).f1 (rd_T63 L (mx k 1)).f0 (rd_T63 L (mx k 1)).f1
theorem two_ord {s : ByteArray} {L : List S63} (h : InOrd s 0 L) (j : Nat) (hj : j + 1 < L.length) :
  0 ≤ (rd_T63 L (j : Int)).f0 ∧ (rd_T63 L (j : Int)).f0 ≤ (rd_T63 L (j : Int)).f1 ∧ (rd_T63 L (j : Int)).f1 ≤ (rd_T63 L ((j + 1 : Nat) : Int)).f0 ∧
   (rd_T63 L ((j + 1 : Nat) : Int)).f0 ≤ (rd_T63 L ((j + 1 : Nat) : Int)).f1 ∧ (rd_T63 L ((j + 1 : Nat) : Int)).f1 ≤ s.size := by
 have e : ∀ i : Nat,(hi : i < L.length) → rd_T63 L (i : Int) = L[i] := fun i hi => by unfold rd_T63;rw [Int.toNat_natCast,List.getD_eq_getElem?_getD,List.getElem?_eq_getElem hi];rfl
 rw [e j (by omega),e (j + 1) hj]
 have h1 := h.one _ (List.getElem_mem (show j < L.length by omega))
 have h2 := h.one _ (List.getElem_mem hj)
 have h3 := List.pairwise_iff_getElem.1 h.ord j (j + 1) (by omega) hj (by omega)
 have h4 := cbi_range h2.2.2.2
 omega
theorem mx_one (k : Nat) : ∃ w : Nat,mx (k : Int) 1 = (w + 1 : Nat) ∧ (w + 1 = k ∨ (k = 0 ∧ w = 0)) := by
 unfold mx
 rcases Nat.eq_zero_or_pos k with h | h
 ·exact ⟨0,by split <;> omega,.inr ⟨h,rfl⟩⟩
 ·exact ⟨k - 1,by split <;> omega,.inl (by omega)⟩
theorem trw_loop (s : ByteArray) (hs : s.size ≤ 1099511627776) (L : List S63) (hO : InOrd s 0 L) (hL : 2 ≤ L.length) (hL2 : L.length ≤ 1099511627776) (y z c : Int) : ∀ (i k : Nat),k < L.length → i ≤ k + 1 →
  Ev (fun g => change_work_transposeWords.l0 g L (k : Int) ((i : Int) - 1) s y z c) (trwW s L (trwK L y k i)) := by
 have tail : ∀ k : Nat,k < L.length → ∃ w : Nat,mx (k : Int) 1 = ((w + 1 : Nat) : Int) ∧ w + 1 < L.length ∧ change_work_swap.f s y z c (rd_T63 L (w : Int)).f0 (rd_T63 L (w : Int)).f1 (rd_T63 L ((w + 1 : Nat) : Int)).f0 (rd_T63 L ((w + 1 : Nat) : Int)).f1 = some (trwW s L k) := by
  intro k hk
  obtain ⟨w,hw,hc⟩ := mx_one k
  have h2 := two_ord hO w (by omega)
  refine ⟨w,hw,by omega,?_⟩
  rw [swap_ev s hs y z c _ _ _ _ h2.1 h2.2.1 h2.2.2.1 h2.2.2.2.1 h2.2.2.2.2]
  unfold trwW
  rw [hw,show ((w + 1 : Nat) : Int) - 1 = (w : Int) by omega]
 intro i
 induction i with
 | zero =>
  intro k hk hi
  obtain ⟨w,hw,hlt,he⟩ := tail k hk
  refine Ev.step (fun g => change_work_transposeWords.l0.eq_2 ..) (ev_neg (by omega) ?_)
  rw [hw,w64 (by omega) (by omega),show ((w + 1 : Nat) : Int) - 1 = (w : Int) by omega]
  exact ev_pos (by omega) (ev_pos (by omega) (ev_pos (by omega) (ev_pos (by omega) (ev_some he (Ev.now _)))))
 | succ i ih =>
  intro k hk hi
  obtain ⟨w,hw,hlt,he⟩ := tail k hk
  rw [show ((i + 1 : Nat) : Int) - 1 = (i : Int) by omega,trwK]
  refine Ev.step (fun g => change_work_transposeWords.l0.eq_2 ..) (ev_pos (by omega) (ev_pos (by omega) (ev_pos (by omega) ?_)))
  by_cases h : (rd_T63 L (i : Int)).f0 ≥ y
  ·rw [if_pos h]
   rw [w64 (by omega) (by omega)]
   exact ev_pos h (ih i (by omega) (by omega))
  ·rw [if_neg h]
   refine ev_neg h ?_
   rw [hw,w64 (by omega) (by omega),show ((w + 1 : Nat) : Int) - 1 = (w : Int) by omega]
   exact ev_pos (by omega) (ev_pos (by omega) (ev_pos (by omega) (ev_pos (by omega) (ev_some he (Ev.now _)))))
def trwZ (q : Wk) : Res := if ((spansL q.text).length : Int) < 2 then edgeR else trwW q.text (spansL q.text) (trwK (spansL q.text) q.at0 ((spansL q.text).length - 1) (spansL q.text).length)
theorem trw_ans (q : Wk) (hs : q.text.size ≤ 1099511627776) : Ev (fun k => change_work_transposeWords.f k q.text q.at0 q.region q.n) (trwZ q) := by
 have hl := spans_len q.text
 unfold trwZ
 refine ev_some (spans_ev q.text hs) ?_
 by_cases h : ((spansL q.text).length : Int) < 2
 ·rw [if_pos h];exact ev_pos h (Ev.now _)
 ·rw [if_neg h]
  have := trw_loop q.text hs (spansL q.text) (spans_ord q.text) (by omega) (by omega) q.at0 q.region q.n (spansL q.text).length ((spansL q.text).length - 1) (by omega) (by omega)
  refine ev_neg h ?_
  rw [w64 (by omega) (by omega)]
  rw [show (((spansL q.text).length - 1 : Nat) : Int) = ((spansL q.text).length : Int) - 1 by omega] at this
  exact this
theorem runs9 (q : Wk) (hs : q.text.size ≤ 1099511627776) : Runs q 9 (trwZ q) := by
 intro W N ba n hR hT
 obtain ⟨k,hk⟩ := Ev.rounds (trw_ans q hs)
 obtain ⟨⟨r1,r2,r3,r4,r5,r6,r7⟩,hr⟩ : ∃ r,trwZ q = r := ⟨_,rfl⟩
 rw [hr] at hk ⊢
 exact change_work_transposeWords.calls k q.text q.at0 q.region q.n r1 r2 r3 r4 r5 r6 r7 W hT hk
end Go.Proofs.YtfmnmjoofnbnfaaDoor.Pu
end
section
namespace Go.Proofs.YtfmnmjoofnbnfaaDoor.Pu
open Go Go.RowKit Go.Proofs.YtfmnmjoofnbnfaaDoor.Mu Go.Proofs.YtfmnmjoofnbnfaaDoor.U Go.Proofs.YtfmnmjoofnbnfaaDoor.Rg Go.Proofs.YtfmnmjoofnbnfaaDoorW.PrintWords Go.Proofs.YtfmnmjoofnbnfaaDoorW.PrintLast Go.Proofs.YtfmnmjoofnbnfaaDoorW.PrintMore
set_option linter.unusedVariables false
set_option linter.unusedSimpArgs false
theorem eachL_len (s : ByteArray) (F : Int → Int → Int) : ∀ k i : Nat,i ≤ s.size → (eachL s F k i).length ≤ 4 * (s.size - i)
 | 0,i,h => by simp [eachL]
 | k + 1,i,h => by
  rw [eachL]
  split
  ·rename_i hi
   have h1 := eachU_len s F i hi
   have h2 := uN_le s i hi
   have h3 := eachL_len s F k (i + uN s i) h2
   rw [List.length_append]
   omega
  ·simp
theorem each_size (s : ByteArray) (F : Int → Int → Int) : (strOfNums (eachT s F)).size ≤ 4 * s.size := by
 have h := eachL_len s F s.size 0 (Nat.zero_le _)
 have e : (strOfNums (eachT s F)).size = (eachT s F).length := by
  rw [← bytesOf_length]
  simp [strOfNums,bytesOf]
 rw [e]
 unfold eachT
 omega
end Go.Proofs.YtfmnmjoofnbnfaaDoor.Pu
end
section
namespace Go.Proofs.YtfmnmjoofnbnfaaDoor.U
open Go Go.RowKit Go.Proofs.YtfmnmjoofnbnfaaDoor.Mu Go.Proofs.YtfmnmjoofnbnfaaDoor.Pu Go.Proofs.YtfmnmjoofnbnfaaDoor.Rg Go.Proofs.YtfmnmjoofnbnfaaDoorW.PrintWords Go.Proofs.YtfmnmjoofnbnfaaDoorW.PrintLast Go.Proofs.YtfmnmjoofnbnfaaDoorW.PrintMore
set_option linter.unusedVariables false
set_option linter.unusedSimpArgs false
def upperP (t : ByteArray) : ByteArray := (word_Upper.f t).getD ⟨#[]⟩
def lowerP (t : ByteArray) : ByteArray := (word_Lower.f t).getD ⟨#[]⟩
def capitalP (t : ByteArray) : ByteArray := (word_Capital.f t).getD ⟨#[]⟩
/-- What rule number i makes. -/
noncomputable def ruleZ (q : Wk) : Nat → Res
 | 0 => cutZ q.text false false q.at0 (againN (nxZ q.text) q.n q.at0)
 | 1 => cutZ q.text false false (againN (pvZ q.text) q.n q.at0) q.at0
 | 2 => cutZ q.text true false q.at0 (againN (ahA q.text) q.n q.at0)
 | 3 => cutZ q.text true true (againN (beA q.text) q.n q.at0) q.at0
 | 4 => cutZ q.text true false q.at0 (againN (onwZ q.text) q.n q.at0)
 | 5 => cutZ q.text true true (lstZ q.text q.at0) q.at0
 | 6 => killZ q
 | 7 => copyZ q
 | 8 => trcZ q
 | 9 => trwZ q
 | 10 => caseZ q.text q.at0 (againN (ahA q.text) q.n q.at0) (upperP (q.text.extract q.at0.toNat (againN (ahA q.text) q.n q.at0).toNat))
 | 11 => caseZ q.text q.at0 (againN (ahA q.text) q.n q.at0) (lowerP (q.text.extract q.at0.toNat (againN (ahA q.text) q.n q.at0).toNat))
 | _ => caseZ q.text q.at0 (againN (ahA q.text) q.n q.at0) (capitalP (q.text.extract q.at0.toNat (againN (ahA q.text) q.n q.at0).toNat))
theorem cap_count (c : Int) : 0 ≤ (if 1000 < (if c < 1 then 1 else c) then (1000 : Int) else (if c < 1 then 1 else c)) ∧ (if 1000 < (if c < 1 then 1 else c) then (1000 : Int) else (if c < 1 then 1 else c)) ≤ 1000 := by
 split <;> split <;> omega
noncomputable def wkOf (text : ByteArray) (count at_ region : Int) : Wk := ⟨text,snZ text at_,if region ≥ 0 then snZ text region else -1,(if 1000 < (if count < 1 then 1 else count) then (1000 : Int) else (if count < 1 then 1 else count)).toNat⟩
noncomputable def change_Of.f (kind count : Int) (tx : ByteArray) (mark : Int) (text : ByteArray) (at_ region : Int) : Option (Int × Int × ByteArray × Int × ByteArray × Bool × Int) :=
 if text.size ≤ 549755813888 then some (ofB kind (ruleZ (wkOf text count at_ region)) 13 0) else none
theorem rules_enter : ∀ (i ba : Nat) (n : Nat → Nat),i < 13 → ∀ args w,(callFunc (rg ba n i).1 args).run Tryd.prog w = .ok (.enter (rg ba n i).1 args) w := by
 intro i ba n hi
 match i,hi with
 | 0,_ => exact enters_of Tryd.func46 (by kernel_rfl) rfl
 | 1,_ => exact enters_of Tryd.func46 (by kernel_rfl) rfl
 | 2,_ => exact enters_of Tryd.func46 (by kernel_rfl) rfl
 | 3,_ => exact enters_of Tryd.func46 (by kernel_rfl) rfl
 | 4,_ => exact enters_of Tryd.func46 (by kernel_rfl) rfl
 | 5,_ => exact enters_of Tryd.func46 (by kernel_rfl) rfl
 | 6,_ => exact enters_of Tryd.func55 (by kernel_rfl) rfl
 | 7,_ => exact enters_of Tryd.func56 (by kernel_rfl) rfl
 | 8,_ => exact enters_of Tryd.func57 (by kernel_rfl) rfl
 | 9,_ => exact enters_of Tryd.func58 (by kernel_rfl) rfl
 | 10,_ => exact enters_of Tryd.func44 (by kernel_rfl) rfl
 | 11,_ => exact enters_of Tryd.func44 (by kernel_rfl) rfl
 | 12,_ => exact enters_of Tryd.func44 (by kernel_rfl) rfl
theorem rules_run (q : Wk) (hs : q.text.size ≤ 549755813888) (hn : q.n ≤ 1000) (h0 : 0 ≤ q.at0 ∧ q.at0 ≤ q.text.size) (h1 : q.region ≤ q.text.size) : ∀ i : Nat,i < 13 → Runs q i (ruleZ q i) := by
 intro i hi
 have hs' : q.text.size ≤ 1099511627776 := by omega
 have hr := again_up _ _ (ah_range q.text) q.n q.at0 h0.1 h0.2
 have hx : (q.text.extract q.at0.toNat (againN (ahA q.text) q.n q.at0).toNat).size ≤ 549755813888 := by rw [size_extract _ _ _ (by omega)];omega
 match i,hi with
 | 0,_ => exact runs0 q hs' hn h0
 | 1,_ => exact runs1 q hs' hn h0
 | 2,_ => exact runs2 q hs' hn h0
 | 3,_ => exact runs3 q hs' hn h0
 | 4,_ => exact runs4 q hs' hn h0
 | 5,_ => exact runs5 q hs' hn h0
 | 6,_ => exact runs6 q hs' h0 h1
 | 7,_ => exact runs7 q hs' h0 h1
 | 8,_ => exact runs8 q hs' h0
 | 9,_ => exact runs9 q hs'
 | 10,_ =>
  have e : word_Upper.f (q.text.extract q.at0.toNat (againN (ahA q.text) q.n q.at0).toNat) = some (strOfNums (eachT (q.text.extract q.at0.toNat (againN (ahA q.text) q.n q.at0).toNat) upF)) := by unfold word_Upper.f;rw [if_pos (by omega)]
  have ep : upperP (q.text.extract q.at0.toNat (againN (ahA q.text) q.n q.at0).toNat) = strOfNums (eachT (q.text.extract q.at0.toNat (againN (ahA q.text) q.n q.at0).toNat) upF) := by unfold upperP;rw [e];rfl
  show Runs q 10 (caseZ _ _ _ (upperP _))
  rw [ep]
  exact runs10 q (by omega) hn h0 _ e (Nat.le_trans (each_size _ _) (by omega))
 | 11,_ =>
  have e : word_Lower.f (q.text.extract q.at0.toNat (againN (ahA q.text) q.n q.at0).toNat) = some (strOfNums (eachT (q.text.extract q.at0.toNat (againN (ahA q.text) q.n q.at0).toNat) lowF)) := by unfold word_Lower.f;rw [if_pos (by omega)]
  have ep : lowerP (q.text.extract q.at0.toNat (againN (ahA q.text) q.n q.at0).toNat) = strOfNums (eachT (q.text.extract q.at0.toNat (againN (ahA q.text) q.n q.at0).toNat) lowF) := by unfold lowerP;rw [e];rfl
  show Runs q 11 (caseZ _ _ _ (lowerP _))
  rw [ep]
  exact runs11 q (by omega) hn h0 _ e (Nat.le_trans (each_size _ _) (by omega))
 | 12,_ =>
  have e : word_Capital.f (q.text.extract q.at0.toNat (againN (ahA q.text) q.n q.at0).toNat) = some (strOfNums (eachT (q.text.extract q.at0.toNat (againN (ahA q.text) q.n q.at0).toNat) (capF (q.text.extract q.at0.toNat (againN (ahA q.text) q.n q.at0).toNat)))) := by unfold word_Capital.f;rw [if_pos (by omega)]
  have ep : capitalP (q.text.extract q.at0.toNat (againN (ahA q.text) q.n q.at0).toNat) = strOfNums (eachT (q.text.extract q.at0.toNat (againN (ahA q.text) q.n q.at0).toNat) (capF (q.text.extract q.at0.toNat (againN (ahA q.text) q.n q.at0).toNat))) := by unfold capitalP;rw [e];rfl
  show Runs q 12 (caseZ _ _ _ (capitalP _))
  rw [ep]
  exact runs12 q (by omega) hn h0 _ e (Nat.le_trans (each_size _ _) (by omega))
theorem change_Of.calls (kind count : Int) (tx : ByteArray) (mark : Int) (text : ByteArray) (at_ region : Int) (r0 r1 : Int) (r2 : ByteArray) (r3 : Int) (r4 : ByteArray) (r5 : Bool) (r6 : Int) (w : World) (hT : Lib.Utf8Tabs 1 2 w) (h : change_Of.f kind count tx mark text at_ region = some (r0,r1,r2,r3,r4,r5,r6)) :
  Calls Tryd.prog 9 #[.agg #[.int .i64 kind,.int .i64 count,.string tx,.int .u8 mark],.string text,.int .i64 at_,.int .i64 region] w fun e w' => e = .returned (.tuple #[.agg #[.int .i64 r0,.int .i64 r1,.string r2,.int .i64 r3,.string r4,.bool r5],.int .i64 r6]) ∧ Below w.heap.size w w' := by
 unfold change_Of.f at h
 split at h
 ·rename_i hs
  have hs' : text.size ≤ 1099511627776 := by omega
  have hc := cap_count count
  have hg := snZ_range text hs' region
  have h1 : (wkOf text count at_ region).region ≤ text.size := by unfold wkOf;dsimp only;split <;> omega
  have hw := of_walk kind count mark tx text at_ region hs' (wkOf text count at_ region) rfl rfl rfl (Int.toNat_of_nonneg hc.1) (ruleZ (wkOf text count at_ region)) w hT rules_enter
   (rules_run (wkOf text count at_ region) hs (by have := hc.2;unfold wkOf;dsimp only;omega) (snZ_range text hs' at_) h1)
  rw [Option.some.inj h] at hw
  exact hw
 ·cases h
end Go.Proofs.YtfmnmjoofnbnfaaDoor.U
end
section
namespace Go.Proofs.YtfmnmjoofnbnfaaDoor.U
open Go.RowKit Go.Proofs.YtfmnmjoofnbnfaaDoorW.PrintWords Go.Proofs.YtfmnmjoofnbnfaaDoorW.PrintLast Go.Proofs.YtfmnmjoofnbnfaaDoorW.PrintMore
attribute [local go_sem] max2_int min2_int max_two min_two max_three min_three max_four min_four   -- for this text's walks alone
set_option linter.unusedVariables false
set_option linter.unusedSimpArgs false
attribute [local go_sem high] eqA28
noncomputable def bodkinlaw17_awake.f (k : Nat)  : Option (Bool) := (cluster_Next.f k (⟨#[97]⟩ : ByteArray) 0).bind fun t149 => (if t149 = 1 then ((change_Of.f 17 2 (⟨#[]⟩ : ByteArray) 0 (⟨#[97,98,32,99,45,100,10,101,102]⟩ : ByteArray) 6 (-1)).bind fun bt150 => ((change_Of.f 25 0 (⟨#[]⟩ : ByteArray) 0 (⟨#[97,98,32,99,45,100,10,101,102]⟩ : ByteArray) 4 (-1)).bind fun bt158 => ((change_Of.f 14 0 (⟨#[]⟩ : ByteArray) 0 (⟨#[97,98,32,99,45,100,10,101,102]⟩ : ByteArray) 9 (-1)).bind fun bt166 => (if bt150.2.2.2.2.1.toList = ([99,45,100] : List UInt8) then (if bt150.2.2.2.1 = 3 then (if bt150.2.2.2.2.2.1 = true then (if bt150.2.2.2.2.2.2 = 0 then (if (bt158.1 == 3 && (bt158.2.1 == 3 && (bt158.2.2.1.toList == ([100,45,99] : List UInt8)))) = true then (if bt158.2.2.2.2.2.2 = 0 then (if bt166.2.2.2.2.2.2 = 8 then ((change_Does.f 21).bind fun t174 => (some t174)) else (some false)) else (some false)) else (some false)) else (some false)) else (some false)) else (some false)) else (some false))))) else (some false))
set_option maxHeartbeats 8000000 in
set_option maxRecDepth 100000 in
theorem bodkinlaw17_awake.calls (k : Nat)  (r : Bool) (hr_ : r = true) (w : World) (hT : Lib.Utf8Tabs 1 2 w) (h : bodkinlaw17_awake.f k  = some r) :
  Calls Tryd.prog 8 #[] w fun e w' => e = .returned (.bool r) ∧ Below w.heap.size w w' := by
 have hu35 := Tryd.underlying35
 have hu30 := Tryd.underlying30
 have hu28 := Tryd.underlying28
 have HT := Aside0.mk hT
 clear hT
 have HB := Aside0.mk (Below.refl w.heap.size w)
 have H : ((cluster_Next.f k (⟨#[97]⟩ : ByteArray) 0).bind fun t149 => (if t149 = 1 then ((change_Of.f 17 2 (⟨#[]⟩ : ByteArray) 0 (⟨#[97,98,32,99,45,100,10,101,102]⟩ : ByteArray) 6 (-1)).bind fun bt150 => ((change_Of.f 25 0 (⟨#[]⟩ : ByteArray) 0 (⟨#[97,98,32,99,45,100,10,101,102]⟩ : ByteArray) 4 (-1)).bind fun bt158 => ((change_Of.f 14 0 (⟨#[]⟩ : ByteArray) 0 (⟨#[97,98,32,99,45,100,10,101,102]⟩ : ByteArray) 9 (-1)).bind fun bt166 => (if bt150.2.2.2.2.1.toList = ([99,45,100] : List UInt8) then (if bt150.2.2.2.1 = 3 then (if bt150.2.2.2.2.2.1 = true then (if bt150.2.2.2.2.2.2 = 0 then (if (bt158.1 == 3 && (bt158.2.1 == 3 && (bt158.2.2.1.toList == ([100,45,99] : List UInt8)))) = true then (if bt158.2.2.2.2.2.2 = 0 then (if bt166.2.2.2.2.2.2 = 8 then ((change_Does.f 21).bind fun t174 => (some t174)) else (some false)) else (some false)) else (some false)) else (some false)) else (some false)) else (some false)) else (some false))))) else (some false))) = some r := h
 clear h
 replace H := Option.bind_eq_some_iff.mp H
 obtain ⟨t149,A10,H⟩ := H
 replace H : (if t149 = 1 then ((change_Of.f 17 2 (⟨#[]⟩ : ByteArray) 0 (⟨#[97,98,32,99,45,100,10,101,102]⟩ : ByteArray) 6 (-1)).bind fun bt150 => ((change_Of.f 25 0 (⟨#[]⟩ : ByteArray) 0 (⟨#[97,98,32,99,45,100,10,101,102]⟩ : ByteArray) 4 (-1)).bind fun bt158 => ((change_Of.f 14 0 (⟨#[]⟩ : ByteArray) 0 (⟨#[97,98,32,99,45,100,10,101,102]⟩ : ByteArray) 9 (-1)).bind fun bt166 => (if bt150.2.2.2.2.1.toList = ([99,45,100] : List UInt8) then (if bt150.2.2.2.1 = 3 then (if bt150.2.2.2.2.2.1 = true then (if bt150.2.2.2.2.2.2 = 0 then (if (bt158.1 == 3 && (bt158.2.1 == 3 && (bt158.2.2.1.toList == ([100,45,99] : List UInt8)))) = true then (if bt158.2.2.2.2.2.2 = 0 then (if bt166.2.2.2.2.2.2 = 8 then ((change_Does.f 21).bind fun t174 => (some t174)) else (some false)) else (some false)) else (some false)) else (some false)) else (some false)) else (some false)) else (some false))))) else (some false)) = some r := H
 have A1 := Aside0.mk A10
 clear A10
 by_cases c2 : t149 = 1
 ·rw [if_pos c2] at H
  have c2b0 : (t149 == 1) = true := beq_iff_eq.mpr c2
  have c2b1 : (t149 != 1) = false := bne_eq_false_iff_eq.mpr c2
  clear c2
  replace H := Option.bind_eq_some_iff.mp H
  obtain ⟨⟨t150,t151,t152,t153,t154,t155,t156⟩,A30,H⟩ := H
  replace H : ((change_Of.f 25 0 (⟨#[]⟩ : ByteArray) 0 (⟨#[97,98,32,99,45,100,10,101,102]⟩ : ByteArray) 4 (-1)).bind fun bt158 => ((change_Of.f 14 0 (⟨#[]⟩ : ByteArray) 0 (⟨#[97,98,32,99,45,100,10,101,102]⟩ : ByteArray) 9 (-1)).bind fun bt166 => (if t154.toList = ([99,45,100] : List UInt8) then (if t153 = 3 then (if t155 = true then (if t156 = 0 then (if (bt158.1 == 3 && (bt158.2.1 == 3 && (bt158.2.2.1.toList == ([100,45,99] : List UInt8)))) = true then (if bt158.2.2.2.2.2.2 = 0 then (if bt166.2.2.2.2.2.2 = 8 then ((change_Does.f 21).bind fun t174 => (some t174)) else (some false)) else (some false)) else (some false)) else (some false)) else (some false)) else (some false)) else (some false)))) = some r := H
  have A3 := Aside0.mk A30
  clear A30
  replace H := Option.bind_eq_some_iff.mp H
  obtain ⟨⟨t158,t159,t160,t161,t162,t163,t164⟩,A40,H⟩ := H
  replace H : ((change_Of.f 14 0 (⟨#[]⟩ : ByteArray) 0 (⟨#[97,98,32,99,45,100,10,101,102]⟩ : ByteArray) 9 (-1)).bind fun bt166 => (if t154.toList = ([99,45,100] : List UInt8) then (if t153 = 3 then (if t155 = true then (if t156 = 0 then (if (t158 == 3 && (t159 == 3 && (t160.toList == ([100,45,99] : List UInt8)))) = true then (if t164 = 0 then (if bt166.2.2.2.2.2.2 = 8 then ((change_Does.f 21).bind fun t174 => (some t174)) else (some false)) else (some false)) else (some false)) else (some false)) else (some false)) else (some false)) else (some false))) = some r := H
  have A4 := Aside0.mk A40
  clear A40
  replace H := Option.bind_eq_some_iff.mp H
  obtain ⟨⟨t166,t167,t168,t169,t170,t171,t172⟩,A50,H⟩ := H
  replace H : (if t154.toList = ([99,45,100] : List UInt8) then (if t153 = 3 then (if t155 = true then (if t156 = 0 then (if (t158 == 3 && (t159 == 3 && (t160.toList == ([100,45,99] : List UInt8)))) = true then (if t164 = 0 then (if t172 = 8 then ((change_Does.f 21).bind fun t174 => (some t174)) else (some false)) else (some false)) else (some false)) else (some false)) else (some false)) else (some false)) else (some false)) = some r := H
  have A5 := Aside0.mk A50
  clear A50
  by_cases c6 : t154.toList = ([99,45,100] : List UInt8)
  ·rw [if_pos c6] at H
   have c6b0 : (t154.toList == ([99,45,100] : List UInt8)) = true := beq_iff_eq.mpr c6
   have c6b1 : (t154.toList != ([99,45,100] : List UInt8)) = false := bne_eq_false_iff_eq.mpr c6
   clear c6
   by_cases c7 : t153 = 3
   ·rw [if_pos c7] at H
    have c7b0 : (t153 == 3) = true := beq_iff_eq.mpr c7
    have c7b1 : (t153 != 3) = false := bne_eq_false_iff_eq.mpr c7
    clear c7
    by_cases c8 : t155 = true
    ·subst c8
     have H1 : (if t156 = 0 then (if (t158 == 3 && (t159 == 3 && (t160.toList == ([100,45,99] : List UInt8)))) = true then (if t164 = 0 then (if t172 = 8 then ((change_Does.f 21).bind fun t174 => (some t174)) else (some false)) else (some false)) else (some false)) else (some false)) = some r := by rw [if_pos rfl] at H;exact H
     clear H
     have H := H1
     clear H1
     by_cases c9 : t156 = 0
     ·rw [if_pos c9] at H
      have c9b0 : (t156 == 0) = true := beq_iff_eq.mpr c9
      have c9b1 : (t156 != 0) = false := bne_eq_false_iff_eq.mpr c9
      clear c9
      by_cases c10 : (t158 == 3 && (t159 == 3 && (t160.toList == ([100,45,99] : List UInt8)))) = true
      ·rw [if_pos c10] at H
       have c10b0 : (t158 == 3 && (t159 == 3 && (t160.toList == ([100,45,99] : List UInt8)))) = true := c10
       (try (have c10b1 : decide (t158 = 3 && (t159 == 3 && (t160.toList == ([100,45,99] : List UInt8)))) = true := by simpa using c10))
       (try (have c10b2 : (t158 == 3 && (t159 == 3 && (t160.toList == ([100,45,99] : List UInt8)))) = true := by simpa using c10))
       clear c10
       by_cases c11 : t164 = 0
       ·rw [if_pos c11] at H
        have c11b0 : (t164 == 0) = true := beq_iff_eq.mpr c11
        have c11b1 : (t164 != 0) = false := bne_eq_false_iff_eq.mpr c11
        clear c11
        by_cases c12 : t172 = 8
        ·rw [if_pos c12] at H
         have c12b0 : (t172 == 8) = true := beq_iff_eq.mpr c12
         have c12b1 : (t172 != 8) = false := bne_eq_false_iff_eq.mpr c12
         clear c12
         replace H := Option.bind_eq_some_iff.mp H
         obtain ⟨t174,A130,H⟩ := H
         replace H : (some t174) = some r := H
         have A13 := Aside0.mk A130
         clear A130
         obtain rfl := Option.some.inj H
         go_enter Tryd.func8,Tryd.ntmps8
         go_wp2_with (first | ((with_reducible refine gate_callee (f := 22) rfl ?_);refine goesL_ (some 7) rfl rfl Tryd.func22 (by kernel_rfl) rfl #[.string (⟨#[97]⟩ : ByteArray),.int .i64 0] rfl au1 ?_;(with_reducible refine (cluster_Next.calls k (⟨#[97]⟩ : ByteArray) 0 t149 _ ?side1 A1.out).mono ?_);(case side1 => exact tabs_below HT.out au0);rintro e w14 ⟨rfl,hb⟩;refine ⟨_,rfl,?_⟩;have n0_ := Aside0.mk (below_step au0 hb);clear HB;have HB := n0_;clear n0_;(try clear hb);(try clear hb2);(try clear hk);(try clear hi)) | ((with_reducible refine gate_callee (f := 9) rfl ?_);refine goesL_ (some 11) rfl rfl Tryd.func9 (by kernel_rfl) rfl #[.agg #[.int .i64 17,.int .i64 2,.string (⟨#[]⟩ : ByteArray),.int .u8 0],.string (⟨#[97,98,32,99,45,100,10,101,102]⟩ : ByteArray),.int .i64 6,.int .i64 (-1)] rfl au1 ?_;(with_reducible refine (change_Of.calls 17 2 (⟨#[]⟩ : ByteArray) 0 (⟨#[97,98,32,99,45,100,10,101,102]⟩ : ByteArray) 6 (-1) t150 t151 t152 t153 t154 true t156 _ ?side1 A3.out).mono ?_);(case side1 => exact tabs_below HT.out au0);rintro e w15 ⟨rfl,hb⟩;refine ⟨_,rfl,?_⟩;have n0_ := Aside0.mk (below_step au0 hb);clear HB;have HB := n0_;clear n0_;(try clear hb);(try clear hb2);(try clear hk);(try clear hi)) | ((with_reducible refine gate_dst (N := 1) rfl ?_);refine box_event ?hg (N := 1) ?hd (cs := #[.int .i64 0,.int .i64 0,.string (⟨#[]⟩ : ByteArray),.int .i64 0,.string (⟨#[]⟩ : ByteArray),.bool false]) (t := 30) ?hr ?_;(case hd => rfl);(case hg => rfl);(case hr => first | (go_simp;done) | (go_simp;rfl));intro gb157 hg w16 hbox hb;have n0_ := Aside0.mk (below_step au0 hb);have n1_ := Aside0.mk (hbox);have n2_ := Aside0.mk ((by rw [hg];exact (below_size au0) : w.heap.size ≤ gb157));have n3_ := Aside0.mk ((by rw [hg];exact (below_size au0) : w.heap.size ≤ gb157));clear HB;have HB := n0_;have BK157 := n1_;have GW157 := n2_;have GE157 := n3_;clear n0_ n1_ n2_ n3_;clear hb hbox hg;have hcz17_0 : w16.cell? ⟨gb157,0,none⟩ = some (.int .i64 0) := (blk_cell BK157.out 0).trans rfl;have hcz17_1 : w16.cell? ⟨gb157,1,none⟩ = some (.int .i64 0) := (blk_cell BK157.out 1).trans rfl;have hcz17_2 : w16.cell? ⟨gb157,2,none⟩ = some (.string (⟨#[]⟩ : ByteArray)) := (blk_cell BK157.out 2).trans rfl;have hcz17_3 : w16.cell? ⟨gb157,3,none⟩ = some (.int .i64 0) := (blk_cell BK157.out 3).trans rfl;have hcz17_4 : w16.cell? ⟨gb157,4,none⟩ = some (.string (⟨#[]⟩ : ByteArray)) := (blk_cell BK157.out 4).trans rfl;have hcz17_5 : w16.cell? ⟨gb157,5,none⟩ = some (.bool false) := (blk_cell BK157.out 5).trans rfl;have hfz17_0 := blk_frozen BK157.out 0;have hfz17_1 := blk_frozen BK157.out 1;have hfz17_2 := blk_frozen BK157.out 2;have hfz17_3 := blk_frozen BK157.out 3;have hfz17_4 := blk_frozen BK157.out 4;have hfz17_5 := blk_frozen BK157.out 5) | ((with_reducible refine gate_callee (f := 9) rfl ?_);refine goesL_ (some 16) rfl rfl Tryd.func9 (by kernel_rfl) rfl #[.agg #[.int .i64 25,.int .i64 0,.string (⟨#[]⟩ : ByteArray),.int .u8 0],.string (⟨#[97,98,32,99,45,100,10,101,102]⟩ : ByteArray),.int .i64 4,.int .i64 (-1)] rfl au1 ?_;(with_reducible refine (change_Of.calls 25 0 (⟨#[]⟩ : ByteArray) 0 (⟨#[97,98,32,99,45,100,10,101,102]⟩ : ByteArray) 4 (-1) t158 t159 t160 t161 t162 t163 t164 _ ?side1 A4.out).mono ?_);(case side1 => exact tabs_below HT.out (by repeat (first | (with_reducible first | exact HB.out | apply below_alloc | apply pw_below_drewN | apply below_drew1 | refine below_set ?_ GE157.out) | exact HB.out)));rintro e w18 ⟨rfl,hb⟩;refine ⟨_,rfl,?_⟩;have n0_ := Aside0.mk (blk_below (g := gb157) (o := .cells #[.int .i64 t150,.int .i64 t151,.string t152,.int .i64 t153,.string t154,.bool true] 30 (0,0)) (by (with_reducible repeat (first | refine blk_drewN ?_ _ | refine blk_drew ?_ | refine blk_alloc ?_ _));refine blk_put (cs := #[.int .i64 t150,.int .i64 t151,.string t152,.int .i64 t153,.string t154,.bool false]) ?_ 5 _ rfl;(with_reducible repeat (first | refine blk_drewN ?_ _ | refine blk_drew ?_ | refine blk_alloc ?_ _));refine blk_put (cs := #[.int .i64 t150,.int .i64 t151,.string t152,.int .i64 t153,.string (⟨#[]⟩ : ByteArray),.bool false]) ?_ 4 _ rfl;(with_reducible repeat (first | refine blk_drewN ?_ _ | refine blk_drew ?_ | refine blk_alloc ?_ _));refine blk_put (cs := #[.int .i64 t150,.int .i64 t151,.string t152,.int .i64 0,.string (⟨#[]⟩ : ByteArray),.bool false]) ?_ 3 _ rfl;(with_reducible repeat (first | refine blk_drewN ?_ _ | refine blk_drew ?_ | refine blk_alloc ?_ _));refine blk_put (cs := #[.int .i64 t150,.int .i64 t151,.string (⟨#[]⟩ : ByteArray),.int .i64 0,.string (⟨#[]⟩ : ByteArray),.bool false]) ?_ 2 _ rfl;(with_reducible repeat (first | refine blk_drewN ?_ _ | refine blk_drew ?_ | refine blk_alloc ?_ _));refine blk_put (cs := #[.int .i64 t150,.int .i64 0,.string (⟨#[]⟩ : ByteArray),.int .i64 0,.string (⟨#[]⟩ : ByteArray),.bool false]) ?_ 1 _ rfl;(with_reducible repeat (first | refine blk_drewN ?_ _ | refine blk_drew ?_ | refine blk_alloc ?_ _));refine blk_put (cs := #[.int .i64 0,.int .i64 0,.string (⟨#[]⟩ : ByteArray),.int .i64 0,.string (⟨#[]⟩ : ByteArray),.bool false]) ?_ 0 _ rfl;(with_reducible repeat (first | refine blk_drewN ?_ _ | refine blk_drew ?_ | refine blk_alloc ?_ _));exact BK157.out) hb);have n1_ := Aside0.mk (below_step (by repeat (first | (with_reducible first | exact HB.out | apply below_alloc | apply pw_below_drewN | apply below_drew1 | refine below_set ?_ GE157.out) | exact HB.out)) hb);clear BK157;clear HB;have BK157 := n0_;have HB := n1_;clear n0_ n1_;(try clear hb);(try clear hb2);(try clear hk);(try clear hi)) | ((with_reducible refine gate_dst (N := 3) rfl ?_);refine box_event ?hg (N := 3) ?hd (cs := #[.int .i64 0,.int .i64 0,.string (⟨#[]⟩ : ByteArray),.int .i64 0,.string (⟨#[]⟩ : ByteArray),.bool false]) (t := 30) ?hr ?_;(case hd => rfl);(case hg => rfl);(case hr => first | (go_simp;done) | (go_simp;rfl));intro gb165 hg w19 hbox hb;have n0_ := Aside0.mk (blk_below (g := gb157) (o := .cells #[.int .i64 t150,.int .i64 t151,.string t152,.int .i64 t153,.string t154,.bool true] 30 (0,0)) (by (with_reducible repeat (first | refine blk_drewN ?_ _ | refine blk_drew ?_ | refine blk_alloc ?_ _));exact BK157.out) hb);have n1_ := Aside0.mk (below_step (by repeat (first | (with_reducible first | exact HB.out | apply below_alloc | apply pw_below_drewN | apply below_drew1 | refine below_set ?_ GE157.out) | exact HB.out)) hb);have n2_ := Aside0.mk (hbox);have n3_ := Aside0.mk ((by rw [hg];exact (below_size (by repeat (first | (with_reducible first | exact HB.out | apply below_alloc | apply pw_below_drewN | apply below_drew1 | refine below_set ?_ GE157.out) | exact HB.out))) : w.heap.size ≤ gb165));have n4_ := Aside0.mk ((by rw [hg];exact (below_size (by repeat (first | (with_reducible first | exact HB.out | apply below_alloc | apply pw_below_drewN | apply below_drew1 | refine below_set ?_ GE157.out) | exact HB.out))) : w.heap.size ≤ gb165));have n5_ := Aside0.mk ((by rw [hg];exact Nat.ne_of_lt (blk_lt (g := gb157) (o := .cells #[.int .i64 t150,.int .i64 t151,.string t152,.int .i64 t153,.string t154,.bool true] 30 (0,0)) (by (with_reducible repeat (first | refine blk_drewN ?_ _ | refine blk_drew ?_ | refine blk_alloc ?_ _));exact BK157.out)) : gb157 ≠ gb165));have n6_ := Aside0.mk ((by rw [hg];exact Nat.ne_of_gt (blk_lt (g := gb157) (o := .cells #[.int .i64 t150,.int .i64 t151,.string t152,.int .i64 t153,.string t154,.bool true] 30 (0,0)) (by (with_reducible repeat (first | refine blk_drewN ?_ _ | refine blk_drew ?_ | refine blk_alloc ?_ _));exact BK157.out)) : gb165 ≠ gb157));clear BK157;clear HB;have BK157 := n0_;have HB := n1_;have BK165 := n2_;have GW165 := n3_;have GE165 := n4_;have NB157_165 := n5_;have NB165_157 := n6_;clear n0_ n1_ n2_ n3_ n4_ n5_ n6_;clear hb hbox hg;have hnb20 := NB165_157.out;have hnc20 := NB157_165.out;have hcz21_0 : w19.cell? ⟨gb165,0,none⟩ = some (.int .i64 0) := (blk_cell BK165.out 0).trans rfl;have hcz21_1 : w19.cell? ⟨gb165,1,none⟩ = some (.int .i64 0) := (blk_cell BK165.out 1).trans rfl;have hcz21_2 : w19.cell? ⟨gb165,2,none⟩ = some (.string (⟨#[]⟩ : ByteArray)) := (blk_cell BK165.out 2).trans rfl;have hcz21_3 : w19.cell? ⟨gb165,3,none⟩ = some (.int .i64 0) := (blk_cell BK165.out 3).trans rfl;have hcz21_4 : w19.cell? ⟨gb165,4,none⟩ = some (.string (⟨#[]⟩ : ByteArray)) := (blk_cell BK165.out 4).trans rfl;have hcz21_5 : w19.cell? ⟨gb165,5,none⟩ = some (.bool false) := (blk_cell BK165.out 5).trans rfl;have hfz21_0 := blk_frozen BK165.out 0;have hfz21_1 := blk_frozen BK165.out 1;have hfz21_2 := blk_frozen BK165.out 2;have hfz21_3 := blk_frozen BK165.out 3;have hfz21_4 := blk_frozen BK165.out 4;have hfz21_5 := blk_frozen BK165.out 5) | ((with_reducible refine gate_callee (f := 9) rfl ?_);refine goesL_ (some 21) rfl rfl Tryd.func9 (by kernel_rfl) rfl #[.agg #[.int .i64 14,.int .i64 0,.string (⟨#[]⟩ : ByteArray),.int .u8 0],.string (⟨#[97,98,32,99,45,100,10,101,102]⟩ : ByteArray),.int .i64 9,.int .i64 (-1)] rfl au1 ?_;(with_reducible refine (change_Of.calls 14 0 (⟨#[]⟩ : ByteArray) 0 (⟨#[97,98,32,99,45,100,10,101,102]⟩ : ByteArray) 9 (-1) t166 t167 t168 t169 t170 t171 t172 _ ?side1 A5.out).mono ?_);(case side1 => exact tabs_below HT.out au37);rintro e w22 ⟨rfl,hb⟩;refine ⟨_,rfl,?_⟩;have n0_ := Aside0.mk (blk_below (g := gb157) (o := .cells #[.int .i64 t150,.int .i64 t151,.string t152,.int .i64 t153,.string t154,.bool true] 30 (0,0)) (by (with_reducible repeat (first | refine blk_drewN ?_ _ | refine blk_drew ?_ | refine blk_alloc ?_ _));refine blk_far ?_ NB157_165.out _;(with_reducible repeat (first | refine blk_drewN ?_ _ | refine blk_drew ?_ | refine blk_alloc ?_ _));refine blk_far ?_ NB157_165.out _;(with_reducible repeat (first | refine blk_drewN ?_ _ | refine blk_drew ?_ | refine blk_alloc ?_ _));refine blk_far ?_ NB157_165.out _;(with_reducible repeat (first | refine blk_drewN ?_ _ | refine blk_drew ?_ | refine blk_alloc ?_ _));refine blk_far ?_ NB157_165.out _;(with_reducible repeat (first | refine blk_drewN ?_ _ | refine blk_drew ?_ | refine blk_alloc ?_ _));refine blk_far ?_ NB157_165.out _;(with_reducible repeat (first | refine blk_drewN ?_ _ | refine blk_drew ?_ | refine blk_alloc ?_ _));refine blk_far ?_ NB157_165.out _;(with_reducible repeat (first | refine blk_drewN ?_ _ | refine blk_drew ?_ | refine blk_alloc ?_ _));exact BK157.out) hb);have n1_ := Aside0.mk (blk_below (g := gb165) (o := .cells #[.int .i64 t158,.int .i64 t159,.string t160,.int .i64 t161,.string t162,.bool t163] 30 (0,0)) (by (with_reducible repeat (first | refine blk_drewN ?_ _ | refine blk_drew ?_ | refine blk_alloc ?_ _));refine blk_put (cs := #[.int .i64 t158,.int .i64 t159,.string t160,.int .i64 t161,.string t162,.bool false]) ?_ 5 _ rfl;(with_reducible repeat (first | refine blk_drewN ?_ _ | refine blk_drew ?_ | refine blk_alloc ?_ _));refine blk_put (cs := #[.int .i64 t158,.int .i64 t159,.string t160,.int .i64 t161,.string (⟨#[]⟩ : ByteArray),.bool false]) ?_ 4 _ rfl;(with_reducible repeat (first | refine blk_drewN ?_ _ | refine blk_drew ?_ | refine blk_alloc ?_ _));refine blk_put (cs := #[.int .i64 t158,.int .i64 t159,.string t160,.int .i64 0,.string (⟨#[]⟩ : ByteArray),.bool false]) ?_ 3 _ rfl;(with_reducible repeat (first | refine blk_drewN ?_ _ | refine blk_drew ?_ | refine blk_alloc ?_ _));refine blk_put (cs := #[.int .i64 t158,.int .i64 t159,.string (⟨#[]⟩ : ByteArray),.int .i64 0,.string (⟨#[]⟩ : ByteArray),.bool false]) ?_ 2 _ rfl;(with_reducible repeat (first | refine blk_drewN ?_ _ | refine blk_drew ?_ | refine blk_alloc ?_ _));refine blk_put (cs := #[.int .i64 t158,.int .i64 0,.string (⟨#[]⟩ : ByteArray),.int .i64 0,.string (⟨#[]⟩ : ByteArray),.bool false]) ?_ 1 _ rfl;(with_reducible repeat (first | refine blk_drewN ?_ _ | refine blk_drew ?_ | refine blk_alloc ?_ _));refine blk_put (cs := #[.int .i64 0,.int .i64 0,.string (⟨#[]⟩ : ByteArray),.int .i64 0,.string (⟨#[]⟩ : ByteArray),.bool false]) ?_ 0 _ rfl;(with_reducible repeat (first | refine blk_drewN ?_ _ | refine blk_drew ?_ | refine blk_alloc ?_ _));exact BK165.out) hb);have n2_ := Aside0.mk (below_step au37 hb);clear BK157;clear BK165;clear HB;have BK157 := n0_;have BK165 := n1_;have HB := n2_;clear n0_ n1_ n2_;(try clear hb);(try clear hb2);(try clear hk);(try clear hi)) | ((with_reducible refine gate_dst (N := 5) rfl ?_);refine box_event ?hg (N := 5) ?hd (cs := #[.int .i64 0,.int .i64 0,.string (⟨#[]⟩ : ByteArray),.int .i64 0,.string (⟨#[]⟩ : ByteArray),.bool false]) (t := 30) ?hr ?_;(case hd => rfl);(case hg => rfl);(case hr => first | (go_simp;done) | (go_simp;rfl));intro gb173 hg w23 hbox hb;have n0_ := Aside0.mk (blk_below (g := gb157) (o := .cells #[.int .i64 t150,.int .i64 t151,.string t152,.int .i64 t153,.string t154,.bool true] 30 (0,0)) (by (with_reducible repeat (first | refine blk_drewN ?_ _ | refine blk_drew ?_ | refine blk_alloc ?_ _));exact BK157.out) hb);have n1_ := Aside0.mk (blk_below (g := gb165) (o := .cells #[.int .i64 t158,.int .i64 t159,.string t160,.int .i64 t161,.string t162,.bool t163] 30 (0,0)) (by (with_reducible repeat (first | refine blk_drewN ?_ _ | refine blk_drew ?_ | refine blk_alloc ?_ _));exact BK165.out) hb);have n2_ := Aside0.mk (below_step au37 hb);have n3_ := Aside0.mk (hbox);have n4_ := Aside0.mk ((by rw [hg];exact (below_size au37) : w.heap.size ≤ gb173));have n5_ := Aside0.mk ((by rw [hg];exact (below_size au37) : w.heap.size ≤ gb173));have n6_ := Aside0.mk ((by rw [hg];exact Nat.ne_of_lt (blk_lt (g := gb157) (o := .cells #[.int .i64 t150,.int .i64 t151,.string t152,.int .i64 t153,.string t154,.bool true] 30 (0,0)) (by (with_reducible repeat (first | refine blk_drewN ?_ _ | refine blk_drew ?_ | refine blk_alloc ?_ _));exact BK157.out)) : gb157 ≠ gb173));have n7_ := Aside0.mk ((by rw [hg];exact Nat.ne_of_gt (blk_lt (g := gb157) (o := .cells #[.int .i64 t150,.int .i64 t151,.string t152,.int .i64 t153,.string t154,.bool true] 30 (0,0)) (by (with_reducible repeat (first | refine blk_drewN ?_ _ | refine blk_drew ?_ | refine blk_alloc ?_ _));exact BK157.out)) : gb173 ≠ gb157));have n8_ := Aside0.mk ((by rw [hg];exact Nat.ne_of_lt (blk_lt (g := gb165) (o := .cells #[.int .i64 t158,.int .i64 t159,.string t160,.int .i64 t161,.string t162,.bool t163] 30 (0,0)) (by (with_reducible repeat (first | refine blk_drewN ?_ _ | refine blk_drew ?_ | refine blk_alloc ?_ _));exact BK165.out)) : gb165 ≠ gb173));have n9_ := Aside0.mk ((by rw [hg];exact Nat.ne_of_gt (blk_lt (g := gb165) (o := .cells #[.int .i64 t158,.int .i64 t159,.string t160,.int .i64 t161,.string t162,.bool t163] 30 (0,0)) (by (with_reducible repeat (first | refine blk_drewN ?_ _ | refine blk_drew ?_ | refine blk_alloc ?_ _));exact BK165.out)) : gb173 ≠ gb165));clear BK157;clear BK165;clear HB;have BK157 := n0_;have BK165 := n1_;have HB := n2_;have BK173 := n3_;have GW173 := n4_;have GE173 := n5_;have NB157_173 := n6_;have NB173_157 := n7_;have NB165_173 := n8_;have NB173_165 := n9_;clear n0_ n1_ n2_ n3_ n4_ n5_ n6_ n7_ n8_ n9_;clear hb hbox hg;have hnb24 := NB173_157.out;have hnc24 := NB157_173.out;have hnb25 := NB173_165.out;have hnc25 := NB165_173.out;have hcz26_0 : w23.cell? ⟨gb173,0,none⟩ = some (.int .i64 0) := (blk_cell BK173.out 0).trans rfl;have hcz26_1 : w23.cell? ⟨gb173,1,none⟩ = some (.int .i64 0) := (blk_cell BK173.out 1).trans rfl;have hcz26_2 : w23.cell? ⟨gb173,2,none⟩ = some (.string (⟨#[]⟩ : ByteArray)) := (blk_cell BK173.out 2).trans rfl;have hcz26_3 : w23.cell? ⟨gb173,3,none⟩ = some (.int .i64 0) := (blk_cell BK173.out 3).trans rfl;have hcz26_4 : w23.cell? ⟨gb173,4,none⟩ = some (.string (⟨#[]⟩ : ByteArray)) := (blk_cell BK173.out 4).trans rfl;have hcz26_5 : w23.cell? ⟨gb173,5,none⟩ = some (.bool false) := (blk_cell BK173.out 5).trans rfl;have hfz26_0 := blk_frozen BK173.out 0;have hfz26_1 := blk_frozen BK173.out 1;have hfz26_2 := blk_frozen BK173.out 2;have hfz26_3 := blk_frozen BK173.out 3;have hfz26_4 := blk_frozen BK173.out 4;have hfz26_5 := blk_frozen BK173.out 5;have hcz27_0 : w23.cell? ⟨gb157,0,none⟩ = some (.int .i64 t150) := (blk_cell BK157.out 0).trans rfl;have hcz27_1 : w23.cell? ⟨gb157,1,none⟩ = some (.int .i64 t151) := (blk_cell BK157.out 1).trans rfl;have hcz27_2 : w23.cell? ⟨gb157,2,none⟩ = some (.string t152) := (blk_cell BK157.out 2).trans rfl;have hcz27_3 : w23.cell? ⟨gb157,3,none⟩ = some (.int .i64 t153) := (blk_cell BK157.out 3).trans rfl;have hcz27_4 : w23.cell? ⟨gb157,4,none⟩ = some (.string t154) := (blk_cell BK157.out 4).trans rfl;have hcz27_5 : w23.cell? ⟨gb157,5,none⟩ = some (.bool true) := (blk_cell BK157.out 5).trans rfl;have hfz27_0 := blk_frozen BK157.out 0;have hfz27_1 := blk_frozen BK157.out 1;have hfz27_2 := blk_frozen BK157.out 2;have hfz27_3 := blk_frozen BK157.out 3;have hfz27_4 := blk_frozen BK157.out 4;have hfz27_5 := blk_frozen BK157.out 5;have hcz28_0 : w23.cell? ⟨gb165,0,none⟩ = some (.int .i64 t158) := (blk_cell BK165.out 0).trans rfl;have hcz28_1 : w23.cell? ⟨gb165,1,none⟩ = some (.int .i64 t159) := (blk_cell BK165.out 1).trans rfl;have hcz28_2 : w23.cell? ⟨gb165,2,none⟩ = some (.string t160) := (blk_cell BK165.out 2).trans rfl;have hcz28_3 : w23.cell? ⟨gb165,3,none⟩ = some (.int .i64 t161) := (blk_cell BK165.out 3).trans rfl;have hcz28_4 : w23.cell? ⟨gb165,4,none⟩ = some (.string t162) := (blk_cell BK165.out 4).trans rfl;have hcz28_5 : w23.cell? ⟨gb165,5,none⟩ = some (.bool t163) := (blk_cell BK165.out 5).trans rfl;have hfz28_0 := blk_frozen BK165.out 0;have hfz28_1 := blk_frozen BK165.out 1;have hfz28_2 := blk_frozen BK165.out 2;have hfz28_3 := blk_frozen BK165.out 3;have hfz28_4 := blk_frozen BK165.out 4;have hfz28_5 := blk_frozen BK165.out 5) | (go_at_call 16;(with_reducible refine (change_Does.calls 21 t174 _ A13.out).mono ?_);rintro e w29 ⟨rfl,hb⟩;have n0_ := Aside0.mk (blk_below (g := gb157) (o := .cells #[.int .i64 t150,.int .i64 t151,.string t152,.int .i64 t153,.string t154,.bool true] 30 (0,0)) (by (with_reducible repeat (first | refine blk_drewN ?_ _ | refine blk_drew ?_ | refine blk_alloc ?_ _));refine blk_far ?_ NB157_173.out _;(with_reducible repeat (first | refine blk_drewN ?_ _ | refine blk_drew ?_ | refine blk_alloc ?_ _));refine blk_far ?_ NB157_173.out _;(with_reducible repeat (first | refine blk_drewN ?_ _ | refine blk_drew ?_ | refine blk_alloc ?_ _));refine blk_far ?_ NB157_173.out _;(with_reducible repeat (first | refine blk_drewN ?_ _ | refine blk_drew ?_ | refine blk_alloc ?_ _));refine blk_far ?_ NB157_173.out _;(with_reducible repeat (first | refine blk_drewN ?_ _ | refine blk_drew ?_ | refine blk_alloc ?_ _));refine blk_far ?_ NB157_173.out _;(with_reducible repeat (first | refine blk_drewN ?_ _ | refine blk_drew ?_ | refine blk_alloc ?_ _));refine blk_far ?_ NB157_173.out _;(with_reducible repeat (first | refine blk_drewN ?_ _ | refine blk_drew ?_ | refine blk_alloc ?_ _));exact BK157.out) hb);have n1_ := Aside0.mk (blk_below (g := gb165) (o := .cells #[.int .i64 t158,.int .i64 t159,.string t160,.int .i64 t161,.string t162,.bool t163] 30 (0,0)) (by (with_reducible repeat (first | refine blk_drewN ?_ _ | refine blk_drew ?_ | refine blk_alloc ?_ _));refine blk_far ?_ NB165_173.out _;(with_reducible repeat (first | refine blk_drewN ?_ _ | refine blk_drew ?_ | refine blk_alloc ?_ _));refine blk_far ?_ NB165_173.out _;(with_reducible repeat (first | refine blk_drewN ?_ _ | refine blk_drew ?_ | refine blk_alloc ?_ _));refine blk_far ?_ NB165_173.out _;(with_reducible repeat (first | refine blk_drewN ?_ _ | refine blk_drew ?_ | refine blk_alloc ?_ _));refine blk_far ?_ NB165_173.out _;(with_reducible repeat (first | refine blk_drewN ?_ _ | refine blk_drew ?_ | refine blk_alloc ?_ _));refine blk_far ?_ NB165_173.out _;(with_reducible repeat (first | refine blk_drewN ?_ _ | refine blk_drew ?_ | refine blk_alloc ?_ _));refine blk_far ?_ NB165_173.out _;(with_reducible repeat (first | refine blk_drewN ?_ _ | refine blk_drew ?_ | refine blk_alloc ?_ _));exact BK165.out) hb);have n2_ := Aside0.mk (blk_below (g := gb173) (o := .cells #[.int .i64 t166,.int .i64 t167,.string t168,.int .i64 t169,.string t170,.bool t171] 30 (0,0)) (by (with_reducible repeat (first | refine blk_drewN ?_ _ | refine blk_drew ?_ | refine blk_alloc ?_ _));refine blk_put (cs := #[.int .i64 t166,.int .i64 t167,.string t168,.int .i64 t169,.string t170,.bool false]) ?_ 5 _ rfl;(with_reducible repeat (first | refine blk_drewN ?_ _ | refine blk_drew ?_ | refine blk_alloc ?_ _));refine blk_put (cs := #[.int .i64 t166,.int .i64 t167,.string t168,.int .i64 t169,.string (⟨#[]⟩ : ByteArray),.bool false]) ?_ 4 _ rfl;(with_reducible repeat (first | refine blk_drewN ?_ _ | refine blk_drew ?_ | refine blk_alloc ?_ _));refine blk_put (cs := #[.int .i64 t166,.int .i64 t167,.string t168,.int .i64 0,.string (⟨#[]⟩ : ByteArray),.bool false]) ?_ 3 _ rfl;(with_reducible repeat (first | refine blk_drewN ?_ _ | refine blk_drew ?_ | refine blk_alloc ?_ _));refine blk_put (cs := #[.int .i64 t166,.int .i64 t167,.string (⟨#[]⟩ : ByteArray),.int .i64 0,.string (⟨#[]⟩ : ByteArray),.bool false]) ?_ 2 _ rfl;(with_reducible repeat (first | refine blk_drewN ?_ _ | refine blk_drew ?_ | refine blk_alloc ?_ _));refine blk_put (cs := #[.int .i64 t166,.int .i64 0,.string (⟨#[]⟩ : ByteArray),.int .i64 0,.string (⟨#[]⟩ : ByteArray),.bool false]) ?_ 1 _ rfl;(with_reducible repeat (first | refine blk_drewN ?_ _ | refine blk_drew ?_ | refine blk_alloc ?_ _));refine blk_put (cs := #[.int .i64 0,.int .i64 0,.string (⟨#[]⟩ : ByteArray),.int .i64 0,.string (⟨#[]⟩ : ByteArray),.bool false]) ?_ 0 _ rfl;(with_reducible repeat (first | refine blk_drewN ?_ _ | refine blk_drew ?_ | refine blk_alloc ?_ _));exact BK173.out) hb);have n3_ := Aside0.mk (below_step (by repeat (first | (with_reducible first | exact HB.out | apply below_alloc | apply pw_below_drewN | apply below_drew1 | refine below_set ?_ GE157.out | refine below_set ?_ GE165.out | refine below_set ?_ GE173.out) | exact HB.out)) hb);clear BK157;clear BK165;clear BK173;clear HB;have BK157 := n0_;have BK165 := n1_;have BK173 := n2_;have HB := n3_;clear n0_ n1_ n2_ n3_;(try clear hb);(try clear hb2);(try clear hk);(try clear hi)))
         go_ret
         exact ⟨au2,by repeat (first | (with_reducible first | exact HB.out | apply below_alloc | apply pw_below_drewN | apply below_drew1 | refine below_set ?_ GE157.out | refine below_set ?_ GE165.out | refine below_set ?_ GE173.out) | exact HB.out)⟩
        ·rw [if_neg c12] at H
         have c12b0 : (t172 == 8) = false := beq_eq_false_iff_ne.mpr c12
         have c12b1 : (t172 != 8) = true := bne_iff_ne.mpr c12
         obtain rfl := Option.some.inj H
         cases hr_
       ·rw [if_neg c11] at H
        have c11b0 : (t164 == 0) = false := beq_eq_false_iff_ne.mpr c11
        have c11b1 : (t164 != 0) = true := bne_iff_ne.mpr c11
        obtain rfl := Option.some.inj H
        cases hr_
      ·rw [if_neg c10] at H
       have c10b0 : (t158 == 3 && (t159 == 3 && (t160.toList == ([100,45,99] : List UInt8)))) = false := by simpa using c10
       (try (have c10b1 : decide (t158 = 3 && (t159 == 3 && (t160.toList == ([100,45,99] : List UInt8)))) = false := by simpa using c10))
       (try (have c10b2 : (t158 == 3 && (t159 == 3 && (t160.toList == ([100,45,99] : List UInt8)))) = false := by simpa using c10))
       (try (have c10b3 : ¬ (t158 = 3 && (t159 == 3 && (t160.toList == ([100,45,99] : List UInt8)))) := by simpa using c10))
       clear c10
       obtain rfl := Option.some.inj H
       cases hr_
     ·rw [if_neg c9] at H
      have c9b0 : (t156 == 0) = false := beq_eq_false_iff_ne.mpr c9
      have c9b1 : (t156 != 0) = true := bne_iff_ne.mpr c9
      obtain rfl := Option.some.inj H
      cases hr_
    ·replace c8 := Bool.eq_false_iff.mpr c8
     subst c8
     have H1 : (some false) = some r := by rw [if_neg (show ¬ (false = true) by decide)] at H;exact H
     clear H
     have H := H1
     clear H1
     obtain rfl := Option.some.inj H
     cases hr_
   ·rw [if_neg c7] at H
    have c7b0 : (t153 == 3) = false := beq_eq_false_iff_ne.mpr c7
    have c7b1 : (t153 != 3) = true := bne_iff_ne.mpr c7
    obtain rfl := Option.some.inj H
    cases hr_
  ·rw [if_neg c6] at H
   have c6b0 : (t154.toList == ([99,45,100] : List UInt8)) = false := beq_eq_false_iff_ne.mpr c6
   have c6b1 : (t154.toList != ([99,45,100] : List UInt8)) = true := bne_iff_ne.mpr c6
   obtain rfl := Option.some.inj H
   cases hr_
 ·rw [if_neg c2] at H
  have c2b0 : (t149 == 1) = false := beq_eq_false_iff_ne.mpr c2
  have c2b1 : (t149 != 1) = true := bne_iff_ne.mpr c2
  obtain rfl := Option.some.inj H
  cases hr_
end Go.Proofs.YtfmnmjoofnbnfaaDoor.U
end
