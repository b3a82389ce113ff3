/- What the law WordCases reaches of this seat's own texts, merged; what nothing uses is left out. -/
import Derived.Test.YtkficbgnjpekaaaDoorZWordCases0
import Derived.Test.YtkficbgnjpekaaaDoorZWordCases2
import Derived.Test.YtkficbgnjpekaaaDoorZWordCases4
import Derived.Test.YtkficbgnjpekaaaDoorZWordCases5
import Derived.Test.YtkficbgnjpekaaaDoorZWordCases6
import Derived.Test.YtkficbgnjpekaaaDoorZWordCases8
import Derived.Test.YtkficbgnjpekaaaDoorZWordCases9
section
namespace Go.Proofs.YtkficbgnjpekaaaDoor.U
open Go.RowKit Go.Shelf Go.Proofs.YtkficbgnjpekaaaDoor.Mu Go.Proofs.YtkficbgnjpekaaaDoor.Pu Go.Proofs.YtkficbgnjpekaaaDoor.Rg Go.Proofs.YtkficbgnjpekaaaDoorW.PrintWords Go.Proofs.YtkficbgnjpekaaaDoorW.PrintLast Go.Proofs.YtkficbgnjpekaaaDoorW.PrintMore
attribute [local go_sem] Oper.semAt_some
set_option linter.unusedVariables false
set_option linter.unusedSimpArgs false
abbrev encC (c : S61) : Array Value := #[.agg #[.int .i64 c.f0,.int .i64 c.f1,.int .i64 c.f2,.int .i64 c.f3]]
set_option maxRecDepth 100000 in
set_option maxHeartbeats 2000000 in
/-- cluster.Walk's inner function: its contract. -/
theorem cwalk1_seq (n : Nat) (hn : 1 ≤ n) (w₀ w : World) (s : ByteArray) (Bs : Nat) (hs : s.size ≤ 1099511627776) (hT : Lib.Utf8Tabs 0 1 w₀) (hb : Below w₀.heap.size w₀ w) (hc : Boxed w Bs 9 (.string s)) :
  SeqB Fence.wide n Tryd.prog 69 #[.pointer (some ⟨Bs,0,none⟩)] encC w₀.heap.size (fun k => k = Bs) (fun xs => Hid (xs = clusL s)) (fun pre => pre <+: clusL s) (clusL s).length w := by
 intro l J Jx W hW hJ hJx hY h0
 refine callsIn_of_wp Tryd.func69 rfl trivial ?_ rfl
 simp only [Tryd.ntmps69,List.size_toArray,List.length_cons,List.length_nil,Nat.reduceAdd,Nat.reduceSub,Array.replicate_succ,Array.replicate_zero,List.push_toArray,List.append_toArray,List.nil_append,List.cons_append]
 gi_wp2
 gi_loopw [3] (fun v wr => ∃ (i : Nat) (pre : List S61),v = .int .i64 i ∧ i ≤ s.size ∧ Hid (CB s i) ∧ Hid (clusL s = pre ++ ctl s i) ∧ J pre wr ∧ Boxed wr Bs 9 (.string s) ∧ Below w₀.heap.size w₀ wr)
  (fun v _ => s.size - (intOf v).toNat)
 case atStart =>
  exact ⟨0,[],rfl,Nat.zero_le _,Lib.hid (cb_zero s),Lib.hid rfl,h0,(hW.block Bs hc.lt).trans hc,hb.trans (hW.mono hb.size)⟩
 case round =>
  obtain ⟨i,pre,rfl,hi,hcb0,hx,hJs,hbx,hbl⟩ := hrel
  have hcb := hbx.cell
  by_cases hlt : i < s.size
  ·have hlt' : (i : Int) < (s.size : Int) := by omega
   obtain ⟨t,ht⟩ : ∃ t,nxt s i = t := ⟨_,rfl⟩
   have ht1 : i < t := ht ▸ nxt_pos s i hlt
   have ht2 : t ≤ s.size := ht ▸ nxt_le s i hcb0.out.1 hlt
   obtain ⟨k1,hk1⟩ := Ev.rounds (cnext_ev hs (nxtS s i hcb0.out.1 hlt i (Int.le_refl _) (by rw [ht];omega)))
   rw [ht] at hk1
   have hk1 := Lib.hid hk1
   obtain ⟨k2,hk2⟩ := Ev.rounds (made_ans s hs i hcb0.out.1 hlt (t : Int))
   have hcl : Hid (clAt s i = ⟨(i : Int),(t : Int),clsAt s i,celAt s i⟩) := Lib.hid (by unfold clAt;rw [ht])
   obtain ⟨q2,hq2⟩ : ∃ q2,clsAt s i = q2 := ⟨_,rfl⟩
   obtain ⟨q3,hq3⟩ : ∃ q3,celAt s i = q3 := ⟨_,rfl⟩
   rw [hq2,hq3] at hk2 hcl
   have hk2 := Lib.hid hk2
   have hcbt : Hid (CB s t) := Lib.hid (ht ▸ nxt_cb s i hcb0.out.1 hlt)
   have hx2 : Hid (clusL s = pre ++ (⟨(i : Int),(t : Int),q2,q3⟩ : S61) :: ctl s t) := Lib.hid (by
    have := hx.out;rw [ctl_go s i hlt,hcl.out,ht] at this;exact this)
   clear hx hcl hq2 hq3 ht hcb0
   have hTw := tabs_below hT hbl
   gi_wp2_with (refine ⟨trivial,?_⟩;gi_at_call 27;refine (callsIn_wide.2 (cluster_Next.calls k1 s i t wr hTw hk1.out)).mono ?_;rintro e w1 ⟨rfl,hb1⟩;have hbx1 : Boxed w1 Bs 9 (.string s) := (hb1.block Bs hbx.lt).trans hbx;have hcb1 := hbx1.cell;have hT1 := tabs_below hTw hb1)
   gi_wp2_with (refine ⟨trivial,?_⟩;gi_at_call 70;refine (callsIn_wide.2 (cluster_made.calls k2 s i t i t q2 q3 w1 hT1 hk2.out)).mono ?_;rintro e w2 ⟨rfl,hb2⟩;have hb12 : Below wr.heap.size wr w2 := hb1.trans (hb2.mono hb1.size);obtain ⟨fn,tmps,assign,body,hy,hR⟩ := hY pre (⟨(i : Int),(t : Int),q2,q3⟩ : S61) wr w2 hJs hb12 (by rw [hx2.out];simp) ⟨ctl s t,by rw [hx2.out];simp⟩)
   refine hR.mono ?_
   rintro e W3 (⟨rfl,hJ3,hk3⟩ | ⟨rfl,hJx3⟩)
   ·have hbx3 : Boxed W3 Bs 9 (.string s) := hk3.2 Bs _ (.inl rfl) ((hb12.block Bs hbx.lt).trans hbx) rfl
    have hbl3 : Below w₀.heap.size w₀ W3 := (hbl.trans (hb12.mono hbl.size)).trans hk3.1
    gi_wp2
    go_roundw
    case rel => exact ⟨t,pre ++ [(⟨(i : Int),(t : Int),q2,q3⟩ : S61)],rfl,ht2,hcbt,Lib.hid (by rw [hx2.out];simp),hJ3,hbx3,hbl3⟩
    case measure => simp [intOf];omega
   ·gi_wp2
    refine bodyPost_ret (results_none rfl _ _ _) rfl ?_
    exact ⟨⟨_,rfl⟩,.inr ⟨_,⟨ctl s t,by rw [hx2.out];simp⟩,hJx3⟩⟩
  ·have hge : ¬ ((i : Int) < (s.size : Int)) := by omega
   gi_wp2
   go_end0
   have hz : ctl s i = [] := ctl_end s i (by omega)
   exact ⟨⟨_,rfl⟩,.inl ⟨pre,Lib.hid (by rw [hx.out,hz,List.append_nil]),hJs⟩⟩
theorem cwalk_calls (s : ByteArray) (w : World) :
  Calls Tryd.prog 46 #[.string s] w fun e w' => e = .returned (.func (.func 69) #[] #[.pointer (some ⟨w.heap.size,0,none⟩)]) ∧ w' = w.alloc (.cells #[.string s] 9) := by
 go_enter Tryd.func46,Tryd.ntmps46
 go_wp2
 go_ret
 exact ⟨rfl,rfl⟩
end Go.Proofs.YtkficbgnjpekaaaDoor.U
end
section
namespace Go.Proofs.YtkficbgnjpekaaaDoor.Pu
open Go Go.RowKit Go.Proofs.YtkficbgnjpekaaaDoor.Mu Go.Proofs.YtkficbgnjpekaaaDoor.U Go.Proofs.YtkficbgnjpekaaaDoorW.PrintWords Go.Proofs.YtkficbgnjpekaaaDoorW.PrintLast Go.Proofs.YtkficbgnjpekaaaDoorW.PrintMore
set_option linter.unusedVariables false
set_option linter.unusedSimpArgs false
theorem clus_mem' (s : ByteArray) : ∀ k x,CB s x → ∀ c ∈ cluL s k x,∃ i,CB s i ∧ i < s.size ∧ c = clAt s i
 | 0,_,_,c,h => by simp [cluL] at h
 | k + 1,x,hc,c,h => by
  rw [cluL] at h
  split at h
  ·rename_i hx
   rcases List.mem_cons.1 h with rfl | h
   ·exact ⟨x,hc,hx,rfl⟩
   ·exact clus_mem' s k _ (nxt_cb s x hc.1 hx) c h
  ·simp at h
/-- Is it 0 to 9,A to Z,a to z,_? -/
def wLow (c : Int) : Bool := decide ((48 ≤ c ∧ c ≤ 57) ∨ (65 ≤ c ∧ c ≤ 90) ∨ (97 ≤ c ∧ c ≤ 122) ∨ c = 95)
def wHigh (c : Int) : Bool := decide (170 ≤ c) && (decide (cls c = 3 ∨ cls c = 4 ∨ cls c = 0) && !outB c)
/-- Does a character stand in words? -/
def wordB (c : Int) : Bool := wLow c || wHigh c
/-- Does the unit at x? -/
def wAt (s : ByteArray) (x : Nat) : Bool := wordB (uC s x)
/-- One more cluster: whether it stands in a word,and the words so far. -/
def spStep (s : ByteArray) (st : Bool × List S32) (c : S61) : Bool × List S32 :=
 (wAt s c.f0.toNat,if wAt s c.f0.toNat = true then (if st.1 = true then st.2.dropLast ++ [⟨(st.2.getLastD ⟨0,0⟩).f0,c.f1⟩] else st.2 ++ [⟨c.f0,c.f1⟩]) else st.2)
def spF (s : ByteArray) (cs : List S61) : Bool × List S32 := cs.foldl (spStep s) (false,[])
theorem spF_snoc (s : ByteArray) (cs : List S61) (c : S61) : spF s (cs ++ [c]) = spStep s (spF s cs) c := by
 unfold spF;rw [List.foldl_append];rfl
/-- The words of a text. -/
def spansL (s : ByteArray) : List S32 := (spF s (clusL s)).2
theorem spF_shapeN (s : ByteArray) : ∀ (n : Nat) (cs : List S61),cs.length = n → (spF s cs).2.length ≤ cs.length ∧ ((spF s cs).1 = true → ∃ p a b,(spF s cs).2 = p ++ [(⟨a,b⟩ : S32)])
 | 0,cs,hn => by
  obtain rfl := List.length_eq_zero_iff.1 hn
  exact ⟨Nat.le_refl _,fun h => by cases h⟩
 | n + 1,cs,hn => by
  rcases List.eq_nil_or_concat cs with rfl | ⟨l,c,rfl⟩
  ·cases hn
  rw [List.concat_eq_append] at hn ⊢
  rw [spF_snoc]
  obtain ⟨h1,h2⟩ := spF_shapeN s n l (by simpa using hn)
  unfold spStep
  by_cases hw : wAt s c.f0.toNat = true
  ·rw [if_pos hw]
   by_cases hi : (spF s l).1 = true
   ·obtain ⟨p,a,b,e⟩ := h2 hi
    rw [if_pos hi,e]
    rw [e] at h1
    simp only [List.length_append,List.length_cons,List.length_nil] at h1
    refine ⟨by simp only [List.dropLast_concat,List.length_append,List.length_cons,List.length_nil];omega,fun _ => ⟨p,a,c.f1,by simp⟩⟩
   ·rw [if_neg hi]
    exact ⟨by simp only [List.length_append,List.length_cons,List.length_nil];omega,fun _ => ⟨_,_,_,rfl⟩⟩
  ·rw [if_neg hw]
   exact ⟨by simp only [List.length_append,List.length_cons,List.length_nil];omega,fun h => absurd h hw⟩
theorem spF_shape (s : ByteArray) (cs : List S61) : (spF s cs).2.length ≤ cs.length ∧ ((spF s cs).1 = true → ∃ p a b,(spF s cs).2 = p ++ [(⟨a,b⟩ : S32)]) := spF_shapeN s _ cs rfl
theorem spStep_on (s : ByteArray) (p : List S32) (a b : Int) (c : S61) (h : wAt s c.f0.toNat = true) : spStep s (true,p ++ [⟨a,b⟩]) c = (true,p ++ [⟨a,c.f1⟩]) := by
 unfold spStep;rw [h,if_pos rfl,if_pos rfl];simp
theorem spStep_new (s : ByteArray) (p : List S32) (c : S61) (h : wAt s c.f0.toNat = true) : spStep s (false,p) c = (true,p ++ [⟨c.f0,c.f1⟩]) := by
 unfold spStep;rw [h,if_pos rfl,if_neg (by simp)]
theorem spStep_off (s : ByteArray) (i : Bool) (p : List S32) (c : S61) (h : wAt s c.f0.toNat = false) : spStep s (i,p) c = (false,p) := by
 unfold spStep;rw [h,if_neg (by simp)]
theorem isw_j2 (c : Int) (b : Bool) : Ev (fun k => word_IsWord.j2 k c b) (if b = true then true else if c < 170 then false else if cls c = 3 then !outB c else if cls c = 4 then !outB c else if cls c = 0 then !outB c else false) :=
 Ev.step (fun k => word_IsWord.j2.eq_2 ..) (ev_val (fun hb => ev_pos hb (Ev.now _)) (fun hb => ev_neg hb (ev_val (fun h => ev_pos h (Ev.now _)) (fun h => ev_neg h
  (Ev.bind (a := cls c) (class_ans c) (ev_val (fun h3 => ev_pos h3 (ev_some (a := outB c) rfl (Ev.now _))) (fun h3 => ev_neg h3 (ev_val (fun h4 => ev_pos h4 (ev_some (a := outB c) rfl (Ev.now _))) (fun h4 => ev_neg h4
   (ev_val (fun h0 => ev_pos h0 (ev_some (a := outB c) rfl (Ev.now _))) (fun h0 => ev_neg h0 (Ev.now _))))))))))))
theorem wHigh_eq (c : Int) : (if c < 170 then false else if cls c = 3 then !outB c else if cls c = 4 then !outB c else if cls c = 0 then !outB c else false) = wHigh c := by
 unfold wHigh
 by_cases h : c < 170
 ·rw [if_pos h,decide_eq_false (by omega),Bool.false_and]
 ·rw [if_neg h,decide_eq_true (by omega),Bool.true_and]
  by_cases h3 : cls c = 3
  ·rw [if_pos h3,decide_eq_true (.inl h3),Bool.true_and]
  ·rw [if_neg h3]
   by_cases h4 : cls c = 4
   ·rw [if_pos h4,decide_eq_true (.inr (.inl h4)),Bool.true_and]
   ·rw [if_neg h4]
    by_cases h0 : cls c = 0
    ·rw [if_pos h0,decide_eq_true (.inr (.inr h0)),Bool.true_and]
    ·rw [if_neg h0,decide_eq_false (by omega),Bool.false_and]
theorem isw_at (c : Int) (b : Bool) (h : b = wLow c) : Ev (fun k => word_IsWord.j2 k c b) (wordB c) := by
 have := isw_j2 c b
 rw [wHigh_eq] at this
 unfold wordB
 rw [← h]
 cases b with
 | true => rw [if_pos rfl] at this;rw [Bool.true_or];exact this
 | false => rw [if_neg (by simp)] at this;rw [Bool.false_or];exact this
theorem isw_j1 (c : Int) (b : Bool) (hb : b = true → wLow c = true) (hn : b = false → ¬ (48 ≤ c ∧ c ≤ 57) ∧ ¬ (65 ≤ c ∧ c ≤ 90)) : Ev (fun k => word_IsWord.j1 k c b) (wordB c) := by
 refine Ev.step (fun k => word_IsWord.j1.eq_2 ..) ?_
 have hl : b = false → ∀ d : Bool,(d = true ↔ (97 ≤ c ∧ c ≤ 122) ∨ c = 95) → d = wLow c := fun h d hd => by
  have := hn h
  rw [Bool.eq_iff_iff,hd];unfold wLow;rw [decide_eq_true_iff];omega
 by_cases h : b = true
 ·exact ev_pos h (isw_at c b (by rw [h,hb h]))
 ·have hf := eq_false_of_ne_true h
  refine ev_neg h ?_
  by_cases h1 : c ≥ 97
  ·refine ev_pos h1 ?_
   by_cases h2 : c ≤ 122
   ·exact ev_pos h2 (isw_at c _ (hl hf _ (by simp;omega)))
   ·exact ev_neg h2 (isw_at c _ (hl hf _ (by simp;omega)))
  ·exact ev_neg h1 (isw_at c _ (hl hf _ (by simp;omega)))
theorem isw_j0 (c : Int) (b : Bool) (hb : b = true → wLow c = true) (hn : b = false → ¬ (48 ≤ c ∧ c ≤ 57)) : Ev (fun k => word_IsWord.j0 k c b) (wordB c) := by
 refine Ev.step (fun k => word_IsWord.j0.eq_2 ..) ?_
 by_cases h : b = true
 ·exact ev_pos h (isw_at c b (by rw [h,hb h]))
 ·have hf := hn (eq_false_of_ne_true h)
  refine ev_neg h ?_
  by_cases h1 : c ≥ 65
  ·exact ev_pos h1 (isw_j1 c _ (fun h2 => by have := of_decide_eq_true h2;unfold wLow;rw [decide_eq_true_iff];omega) (fun h2 => by have := of_decide_eq_false h2;omega))
  ·exact ev_neg h1 (isw_j1 c _ (by simp) (fun _ => by omega))
/-- What word.IsWord answers. -/
theorem isword_ans (c : Int) : Ev (fun k => word_IsWord.f k c) (wordB c) := by
 unfold word_IsWord.f
 by_cases h1 : c ≥ 48
 ·exact ev_pos h1 (isw_j0 c _ (fun h2 => by have := of_decide_eq_true h2;unfold wLow;rw [decide_eq_true_iff];omega) (fun h2 => by have := of_decide_eq_false h2;omega))
 ·exact ev_neg h1 (isw_j0 c _ (by simp) (fun _ => by omega))
end Go.Proofs.YtkficbgnjpekaaaDoor.Pu
end
section
namespace Go.Proofs.YtkficbgnjpekaaaDoor.U
open Go.RowKit Go.Shelf Go.Proofs.YtkficbgnjpekaaaDoor.Mu Go.Proofs.YtkficbgnjpekaaaDoor.Pu Go.Proofs.YtkficbgnjpekaaaDoor.Rg Go.Proofs.YtkficbgnjpekaaaDoorW.PrintWords Go.Proofs.YtkficbgnjpekaaaDoorW.PrintLast Go.Proofs.YtkficbgnjpekaaaDoorW.PrintMore
attribute [local go_sem] Oper.semAt_some
set_option linter.unusedVariables false
set_option linter.unusedSimpArgs false
def cellsP : List S32 → List Value
 | [] => []
 | c :: cs => .int .i64 c.f0 :: .int .i64 c.f1 :: cellsP cs
theorem cellsP_snoc (cs : List S32) (a b : Int) : cellsP (cs ++ [⟨a,b⟩]) = cellsP cs ++ [.int .i64 a,.int .i64 b] := by
 induction cs with
 | nil => rfl
 | cons x xs ih => simp [cellsP,ih]
theorem cellsP_len (cs : List S32) : (cellsP cs).length = cs.length * 2 := by
 induction cs with
 | nil => rfl
 | cons x xs ih => simp [cellsP,ih];omega
theorem reps_cellsP (w : World) (base : Nat) (ok : Nat → Prop) : ∀ cs : List S32,Reps (k32.M w base ok) 2 cs (cellsP cs)
 | [] => Reps.none _ _
 | c :: cs => Reps.c2 (k32_mkM w base ok c) (reps_cellsP w base ok cs)
theorem cellsP_set (p : List S32) (a b t : Int) : (cellsP (p ++ [⟨a,b⟩])).set (p.length * 2 + 1) (.int .i64 t) = cellsP (p ++ [⟨a,t⟩]) := by
 rw [cellsP_snoc,cellsP_snoc,List.set_append_right _ _ (by rw [cellsP_len];omega),cellsP_len,show p.length * 2 + 1 - p.length * 2 = 1 by omega]
 rfl
/-- What a call (or a new block) keeps. -/
theorem keep_below {X Y : World} {n₀ B C : Nat} {Pr : Nat → Prop} (hb : Below X.heap.size X Y) (hn : n₀ ≤ X.heap.size) : KeepsFrom C X Y ∧ KeepB n₀ Pr B X Y :=
 ⟨KeepsFrom.of_grownBy (row := none) ⟨hb.os,hb.tape,hb.output,hb.size,fun i hi _ => hb.block i hi⟩ (fun _ e => by cases e),KeepB.of_below hn hb⟩
/-- What a store into one block keeps. -/
theorem keep_set {X : World} {n₀ B C b j : Nat} {Pr : Nat → Prop} (hn : n₀ ≤ X.heap.size) (hb0 : n₀ ≤ b) (hB : b < B) (hPr : ∀ k,Pr k → k ≠ b) (v : Value) :
  KeepsFrom C X (X.setCell ⟨b,j,none⟩ v) ∧ KeepB n₀ Pr B X (X.setCell ⟨b,j,none⟩ v) := by
 refine ⟨(KeepsOthers.setCell X _ v).from C,?_,?_⟩
 ·exact (Below.refl n₀ X).setCell (p := ⟨b,j,none⟩) hb0 v
 ·intro k o hk ho _
  have h5 : k ≠ b := by
   rcases hk with hk | hk
   ·exact hPr k hk
   ·omega
  exact (Below.heap_setCell X ⟨b,j,none⟩ v k h5).trans ho
/-- What the variables of Spans hold behind the clusters pre. -/
structure SpInv (w : World) (s : ByteArray) (st : Bool × List S32) (B : Nat) (W : World) : Prop where
 all : ∃ v,Boxed W (w.heap.size + 1) 28 v ∧ W.ownsRow w.heap.size 32 2 v st.2.length (cellsP st.2) ∧ (∀ g,v.ownBlock = some g → g < B)
 txt : Boxed W w.heap.size 9 (.string s)
 inn : Boxed W (w.heap.size + 2) 4 (.bool st.1)
 cls : Boxed W (w.heap.size + 3) 9 (.string s)
 bel : Below w.heap.size w W
 low : w.heap.size + 3 < B
theorem SpInv.grow {w : World} {s : ByteArray} {st : Bool × List S32} {B C : Nat} {X Y : World} {row : Option Nat} (h : SpInv w s st B X) (hC : w.heap.size ≤ C) (hg : X.grownBy Y row) (hr : ∀ r,row = some r → C ≤ r ∧ ∃ o : Obj,X.heap[r]? = some o ∧ o.isCells = false) : SpInv w s st B Y := by
 have hr' : ∀ r,row = some r → ∃ o : Obj,X.heap[r]? = some o ∧ o.isCells = false := fun r e => (hr r e).2
 refine ⟨?_,boxed_grow h.txt hg hr',boxed_grow h.inn hg hr',boxed_grow h.cls hg hr',h.bel.grown hg h.bel.size (fun k e => Nat.le_trans hC (hr k e).1),h.low⟩
 have := holdsRow_own w.heap.size (w.heap.size + 1) 28 32 2 (fun (q : Bool × List S32) => q.2.length) (fun q => cellsP q.2) (fun _ v => ∀ g,v.ownBlock = some g → g < B) st X Y row h.all hg hr'
 exact this
theorem SpInv.below {w : World} {s : ByteArray} {st : Bool × List S32} {B : Nat} {X Y : World} (h : SpInv w s st B X) (hb : Below X.heap.size X Y) : SpInv w s st B Y := by
 obtain ⟨v,h1,h2,h3⟩ := h.all
 exact ⟨⟨v,boxed_below h1 hb,pw_own_below h2 hb,h3⟩,boxed_below h.txt hb,boxed_below h.inn hb,boxed_below h.cls hb,h.bel.trans (hb.mono h.bel.size),h.low⟩
theorem SpInv.mono {w : World} {s : ByteArray} {st : Bool × List S32} {B B' : Nat} {W : World} (h : SpInv w s st B W) (hB : B ≤ B') : SpInv w s st B' W := by
 obtain ⟨v,h1,h2,h3⟩ := h.all
 have := h.low
 exact ⟨⟨v,h1,h2,fun g hg => Nat.lt_of_lt_of_le (h3 g hg) hB⟩,h.txt,h.inn,h.cls,h.bel,by omega⟩
/-- 'in' is told anew. -/
theorem SpInv.setIn {w : World} {s : ByteArray} {st : Bool × List S32} {B : Nat} {X : World} (h : SpInv w s st B X) (i : Bool) : SpInv w s (i,st.2) B (X.setCell ⟨w.heap.size + 2,0,none⟩ (.bool i)) := by
 obtain ⟨v,h1,h2,h3⟩ := h.all
 have hsz := h.bel.size
 have hne := h.inn.not_row (by decide) h2
 exact ⟨⟨v,h1.other (by omega) _,h2.kept (grownBy_setCell' X _ _) (.inr (fun e => hne e.symm)),h3⟩,h.txt.other (by omega) _,h.inn.set _,h.cls.other (by omega) _,h.bel.trans (belowAt w.heap.size (w.heap.size + 2) _ hsz (by omega)),h.low⟩
/-- The last word's end is told anew. -/
theorem SpInv.last {w : World} {s : ByteArray} {i : Bool} {p : List S32} {a b : Int} {B : Nat} {X : World} (h : SpInv w s (i,p ++ [⟨a,b⟩]) B X) :
  ∃ g cap,Boxed X (w.heap.size + 1) 28 (.slice (some ⟨g,0,none⟩) (p.length + 1) cap) ∧ X.cell? ⟨g,p.length * 2 + 1,none⟩ = some (.int .i64 b) ∧ X.frozen? ⟨g,p.length * 2 + 1,none⟩ = false ∧
   ∀ (t : Int),SpInv w s (i,p ++ [⟨a,t⟩]) B (X.setCell ⟨g,p.length * 2 + 1,none⟩ (.int .i64 t)) ∧ ∀ C,KeepsFrom C X (X.setCell ⟨g,p.length * 2 + 1,none⟩ (.int .i64 t)) ∧ KeepB w.heap.size (fun k => k = w.heap.size + 3) B X (X.setCell ⟨g,p.length * 2 + 1,none⟩ (.int .i64 t)) := by
 obtain ⟨v,h1,h2,h3⟩ := h.all
 have hl : (p ++ [(⟨a,b⟩ : S32)]).length = p.length + 1 := by simp
 have hl2 : (p ++ [(⟨a,b⟩ : S32)]).length = (p ++ [(⟨a,b⟩ : S32)]).length := rfl
 simp only [hl] at h2
 obtain ⟨g,cap,rfl⟩ := ownsRow_succ h2
 have hgB : g < B := h3 g rfl
 have hg0 : w.heap.size ≤ g := own_base h2 g rfl
 have hsz := h.bel.size
 have hb1 := h1.not_row (by decide) h2
 have hb2 := h.txt.not_row (by decide) h2
 have hb3 := h.inn.not_row (by decide) h2
 have hb4 := h.cls.not_row (by decide) h2
 refine ⟨g,cap,h1,?_,h2.frozenAt _,fun t => ⟨?_,fun C => ?_⟩⟩
 ·rw [h2.cellAt _ (by omega),cellsP_snoc,List.getElem?_append_right (by rw [cellsP_len];omega),cellsP_len,show p.length * 2 + 1 - p.length * 2 = 1 by omega];rfl
 ·obtain ⟨ho,hg⟩ := h2.stored (p.length * 2 + 1) (.int .i64 t)
  rw [cellsP_set] at ho
  refine ⟨⟨_,h1.kept hg hb1,by simpa using ho,h3⟩,h.txt.kept hg hb2,h.inn.kept hg hb3,h.cls.kept hg hb4,h.bel.grown hg hsz (fun k e => by cases e;exact hg0),h.low⟩
 ·exact keep_set hsz hg0 hgB (fun k hk e => hb4 (by rw [← hk,e];rfl)) _
theorem SpInv.appended {w : World} {s : ByteArray} {i : Bool} {L : List S32} {v v' : Value} {t' : S32} {B : Nat} {W w1 : World} {tmp : Obj} (h : SpInv w s (i,L) B W)
  (hv : Boxed W (w.heap.size + 1) 28 v) (hrow : W.ownsRow w.heap.size 32 2 v L.length (cellsP L)) (hvB : ∀ g,v.ownBlock = some g → g < B)
  (hown' : w1.ownsRow w.heap.size 32 2 v' (L.length + 1) (cellsP L ++ [.int .i64 t'.f0,.int .i64 t'.f1])) (hgrow : (W.alloc tmp).grownBy w1 v.ownBlock) :
  Boxed w1 (w.heap.size + 1) 28 v ∧ SpInv w s (i,L ++ [t']) (w1.setCell ⟨w.heap.size + 1,0,none⟩ v').heap.size (w1.setCell ⟨w.heap.size + 1,0,none⟩ v') ∧
   ∀ C,KeepsFrom C W (w1.setCell ⟨w.heap.size + 1,0,none⟩ v') ∧ KeepB w.heap.size (fun k => k = w.heap.size + 3) B W (w1.setCell ⟨w.heap.size + 1,0,none⟩ v') := by
 have hsz := h.bel.size
 have hlow := h.low
 obtain ⟨hv1,hv2,hr2,hk2,hb2⟩ := hv.appended (by decide) hrow hsz (by omega) hown' hgrow
 have hkb := appended_keepB (v' := v') (Pr := fun k => k = w.heap.size ∨ k = w.heap.size + 2 ∨ k = w.heap.size + 3) (B := B) (outB := w.heap.size + 1) hgrow (by omega) (fun k hk => ⟨by rcases hk with rfl | rfl | rfl <;> omega,by
  rcases hk with rfl | rfl | rfl
  ·exact h.txt.not_row (by decide) hrow
  ·exact h.inn.not_row (by decide) hrow
  ·exact h.cls.not_row (by decide) hrow⟩) hvB
 have e : cellsP L ++ [.int .i64 t'.f0,.int .i64 t'.f1] = cellsP (L ++ [t']) := (cellsP_snoc L t'.f0 t'.f1).symm
 rw [e] at hr2
 have hcl : Boxed (w1.setCell ⟨w.heap.size + 1,0,none⟩ v') (w.heap.size + 3) 9 (.string s) := hkb _ _ (.inl (.inr (.inr rfl))) h.cls rfl
 refine ⟨hv1,⟨⟨v',hv2,by rw [List.length_append];exact hr2,fun g hg => own_lt hr2 g hg⟩,hkb _ _ (.inl (.inl rfl)) h.txt rfl,hkb _ _ (.inl (.inr (.inl rfl))) h.inn rfl,hcl,h.bel.trans hb2,hcl.lt⟩,fun C => ⟨hk2.from C,hb2,fun k o hk ho hc => hkb k o ?_ ho hc⟩⟩
 rcases hk with hk | hk
 ·exact .inl (.inr (.inr hk))
 ·exact .inr hk
set_option maxRecDepth 100000 in
set_option maxHeartbeats 4000000 in
theorem spans_any (s : ByteArray) (w : World) (hs : s.size ≤ 1099511627776) (hT : Lib.Utf8Tabs 0 1 w) :
  Calls Tryd.prog 20 #[.string s] w fun e w' => ∃ v0_ : Value,e = .returned v0_ ∧ Kd.R k32 32 w' w.heap.size (fun _ => True) v0_ (spansL s) ∧ Below w.heap.size w w' := by
 have hlen : (clusL s).length ≤ s.size := clusL_length s
 obtain ⟨i0,hi,hz0,hz1,hz2⟩ := info_parts info32
 refine (callsIn_wide (n := 6)).1 ?_
 refine callsIn_of_wp_marks Tryd.func20 rfl trivial ?_ rfl
 simp only [Tryd.ntmps20,List.size_toArray,List.length_cons,List.length_nil,Nat.reduceAdd,Nat.reduceSub,Array.replicate_succ,Array.replicate_zero,List.push_toArray,List.append_toArray,List.nil_append,List.cons_append]
 gi_wp2_with (refine ⟨trivial,?_⟩;gi_at_call 46;refine (callsIn_wide.2 (cwalk_calls s _)).mono ?_;rintro e w' ⟨rfl,rfl⟩)
 simp only [Nat.add_assoc,Nat.reduceAdd]
 obtain ⟨W0,hW0⟩ : ∃ W0,(((w.alloc (.cells #[.string s] 9)).alloc (.cells #[.slice none 0 0] 28)).alloc (.cells #[.bool false] 4)).alloc (.cells #[.string s] 9) = W0 := ⟨_,rfl⟩
 rw [hW0]
 have hsz : W0.heap.size = w.heap.size + 4 := by rw [← hW0];simp
 have hI0 : SpInv w s (false,[]) (w.heap.size + 4) W0 := by
  rw [← hW0]
  refine ⟨⟨_,?_,World.ownsRow_nil _ _ _ _,by simp [Value.ownBlock]⟩,(((Boxed.new w _ _).alloc _).alloc _).alloc _,?_,?_,?_,by omega⟩
  ·have := Boxed.new (w.alloc (.cells #[.string s] 9)) 28 (.slice none 0 0)
   rw [World.size_alloc] at this
   exact (this.alloc _).alloc _
  ·have := Boxed.new ((w.alloc (.cells #[.string s] 9)).alloc (.cells #[.slice none 0 0] 28)) 4 (.bool false)
   rw [World.size_alloc,World.size_alloc] at this
   exact this.alloc _
  ·have := Boxed.new (((w.alloc (.cells #[.string s] 9)).alloc (.cells #[.slice none 0 0] 28)).alloc (.cells #[.bool false] 4)) 9 (.string s)
   rw [World.size_alloc,World.size_alloc,World.size_alloc] at this
   exact this
  ·exact ((((Below.refl _ w).alloc (Nat.le_refl _) _).alloc (by simp) _).alloc (by simp;omega) _).alloc (by simp;omega) _
 clear hW0
 refine range_outer (α := S61) rfl (by omega) (gf := 69) (lb := #[.pointer (some ⟨w.heap.size + 3,0,none⟩)]) rfl trivial (enters_of Tryd.func69 (by kernel_rfl) rfl)
  (cwalk1_seq 5 (by omega) w W0 s (w.heap.size + 3) hs hT hI0.bel hI0.cls) (Below.refl _ _) (fun _ => rfl) (by omega)
  (fun (B : Nat) (pre : List S61) (W : World) => SpInv w s (spF s pre) B W)
  (fun _ _ _ => False)
  (fun B pre X Y row h hg hr => h.grow (by omega) hg hr)
  (fun B B' pre W hBB h => h.mono hBB)
  (fun _ _ _ _ _ hs _ _ => hs)
  (by rw [hsz];exact hI0)
  (fun (x : S61) (a' : Act) (W : World) => ∃ Bx,Hid (W.heap[Bx]? = some (.cells #[.int .i64 x.f0,.int .i64 x.f1,.int .i64 x.f2,.int .i64 x.f3] 61 (0,0))) ∧ a' = { tmps := #[.string s,.pointer (some ⟨w.heap.size,0,none⟩),.slice none 0 0,.pointer (some ⟨w.heap.size + 1,0,none⟩),.pointer (some ⟨w.heap.size + 2,0,none⟩),.pointer (some ⟨Bx,0,none⟩),undef,undef,undef,.string s,.func (.func 69) #[] #[.pointer (some ⟨w.heap.size + 3,0,none⟩)],.agg #[.int .i64 x.f0,.int .i64 x.f1,.int .i64 x.f2,.int .i64 x.f3],undef,undef,undef,undef,undef,undef,undef,undef,undef,undef,undef,undef,undef,undef,undef,undef,undef,undef,undef,undef,undef,undef,undef,undef,undef,undef,undef,undef,undef,undef,undef,undef,undef,undef,undef],defers := [] })
  (fun x a' _ X Y row hs hg hr => by
   obtain ⟨Bx,h1,h2⟩ := hs
   refine ⟨Bx,?_,h2⟩
   refine (hg.block Bx (Array.getElem?_eq_some_iff.1 h1).1 (fun e => ?_)).trans h1
   obtain ⟨_,o,ho,hc⟩ := hr Bx e.symm
   rw [show X.heap[Bx]? = _ from h1] at ho;cases ho;cases hc)
  ?assign ?body ?done ?stop
 case assign =>
  rintro l B pre x W K hCW hBW hI hK
  have hsz1 := hI.bel.size
  gi_wp2
  exact hK _ _ ((KeepsOthers.alloc _ _).from _) (KeepB.of_below hsz1 ((Below.refl _ W).alloc (Nat.le_refl _) _)) (hI.below ((Below.refl _ W).alloc (Nat.le_refl _) _)) ⟨W.heap.size,Lib.hid (World.alloc_heap_new W _),rfl⟩
 case body =>
  rintro l B pre x a' W hl hCW hr hBW hI ⟨Bx,hBx,rfl⟩ hlt hpx
  obtain ⟨i,hci,hiS,rfl⟩ : ∃ i : Nat,CB s i ∧ i < s.size ∧ x = clAt s i := clus_mem' s s.size 0 (cb_zero s) x (hpx.subset (by simp))
  obtain ⟨q1,q2,q3,hq⟩ : ∃ q1 q2 q3,clAt s i = ⟨(i : Int),q1,q2,q3⟩ := ⟨_,_,_,rfl⟩
  rw [hq] at hBx hpx ⊢
  clear hq
  have hst : Hid (spF s (pre ++ [(⟨(i : Int),q1,q2,q3⟩ : S61)]) = spStep s (spF s pre) ⟨(i : Int),q1,q2,q3⟩) := Lib.hid (spF_snoc _ _ _)
  obtain ⟨hlen2,hshape⟩ := spF_shape s pre
  obtain ⟨⟨inn,L⟩,hL⟩ : ∃ st,spF s pre = st := ⟨_,rfl⟩
  rw [hL] at hI hst hlen2 hshape
  have hlt2 : pre.length < s.size := Nat.lt_of_lt_of_le hlt hlen
  have hLn : L.length < s.size := Nat.lt_of_le_of_lt hlen2 hlt2
  clear hL hlt hlen2 hpx
  have hsz1 := hI.bel.size
  have hkA : Hid (∃ k,unit_At.f k s (i : Int) = some (uC s i,(uN s i : Int),true)) := Lib.hid (by
   obtain ⟨k,hk⟩ := Ev.rounds (at_ans s hs (i : Int))
   refine ⟨k,hk.trans ?_⟩
   unfold atA
   rw [if_pos ⟨(bdB_iff s _).2 ((bdI_nat s i).2 hci.1),by omega⟩,Int.toNat_natCast])
  have hkW : Hid (∃ k,word_IsWord.f k (uC s i) = some (wAt s i)) := Lib.hid (Ev.rounds (isword_ans (uC s i)))
  obtain ⟨r,hr2⟩ : ∃ r,wAt s i = r := ⟨_,rfl⟩
  obtain ⟨c,hc2⟩ : ∃ c,uC s i = c := ⟨_,rfl⟩
  obtain ⟨n,hn2⟩ : ∃ n,uN s i = n := ⟨_,rfl⟩
  rw [hc2,hn2] at hkA
  rw [hc2,hr2] at hkW
  have hr2 := Lib.hid hr2
  clear hc2 hn2
  obtain ⟨kA,hkA⟩ := hkA.out
  obtain ⟨kW,hkW⟩ := hkW.out
  have hkA := Lib.hid hkA
  have hkW := Lib.hid hkW
  have hTw := tabs_below hT hI.bel
  have ct := hI.txt.cell
  have hcx0 : W.cell? ⟨Bx,0,none⟩ = some (.int .i64 i) := by simp [World.cell?,show W.heap[Bx]? = _ from hBx.out]
  have hu61 := Tryd.underlying61
  have hu42 := Tryd.underlying42
  have hu32 := Tryd.underlying32
  dsimp only
  gi_wp2_with (refine ⟨trivial,?_⟩;gi_at_call 36;refine (callsIn_wide.2 (unit_At.calls kA s i c n true W hTw hkA.out)).mono ?_;rintro e w1 ⟨rfl,hb1⟩)
  have hcy : ∀ (w2 : World),Below W.heap.size W w2 → ∀ (j : Nat) (u : Value),#[Value.int .i64 i,.int .i64 q1,.int .i64 q2,.int .i64 q3][j]? = some u → w2.cell? ⟨Bx,j,none⟩ = some u := fun w2 hb j u hj => by
   have e : w2.heap[Bx]? = _ := (hb.block Bx (Array.getElem?_eq_some_iff.1 hBx.out).1).trans hBx.out
   simp [World.cell?,e]
   simpa using hj
  cases r
  ·have hst2 : Hid (spF s (pre ++ [(⟨(i : Int),q1,q2,q3⟩ : S61)]) = (false,L)) := Lib.hid (hst.out.trans (spStep_off s inn L _ (by rw [Int.toNat_natCast];exact hr2.out)))
   gi_wp2_with (refine ⟨trivial,?_⟩;gi_at_call 13;refine (callsIn_wide.2 (word_IsWord.calls kW c false _ hkW.out)).mono ?_;rintro e w2 ⟨rfl,hb2⟩;have hb12 : Below W.heap.size W w2 := (hb1.alloc hb1.size _).trans (hb2.mono (Nat.le_trans hb1.size (by simp)));have hI2 := hI.below hb12;have cIn := hI2.inn.cell;have fIn := hI2.inn.frozen)
   have hk1 := fun C => keep_below (C := C) (B := B) (Pr := fun k => k = w.heap.size + 3) hb12 hsz1
   have hk2 := fun C => keep_set (C := C) (B := B) (b := w.heap.size + 2) (j := 0) (Pr := fun k => k = w.heap.size + 3) hI2.bel.size (by omega) (by have := hI.low;omega) (fun k hk => by omega) (.bool false)
   exact ⟨(hk1 _).1.trans (hk2 _).1,(hk1 0).2.trans (hk2 0).2,by show SpInv w s (spF s _) _ _;rw [hst2.out];exact (hI2.setIn false).mono (by have := hb12.size;have := (hk2 0).1.size;omega)⟩
  ·cases inn
   ·have hst2 : Hid (spF s (pre ++ [(⟨(i : Int),q1,q2,q3⟩ : S61)]) = (true,L ++ [⟨(i : Int),q1⟩])) := Lib.hid (hst.out.trans (spStep_new s L _ (by rw [Int.toNat_natCast];exact hr2.out)))
    gi_wp2_with (first | (refine ⟨trivial,?_⟩;gi_at_call 13;refine (callsIn_wide.2 (word_IsWord.calls kW c true _ hkW.out)).mono ?_;rintro e w2 ⟨rfl,hb2⟩;have hb12 : Below W.heap.size W w2 := (hb1.alloc hb1.size _).trans (hb2.mono (Nat.le_trans hb1.size (by simp)));have hI2 := hI.below hb12;have hcy0 := hcy w2 hb12 0 _ rfl;have hcy1 := hcy w2 hb12 1 _ rfl;have cIn := hI2.inn.cell;have fIn := hI2.inn.frozen;have hsz2 := hI2.bel.size;obtain ⟨v,hv,hrow,hvB⟩ := hI2.all;have cAll := hv.cell) | (gi_at_builtin;refine wpListIn_append_own _ rfl _ _ 28 rfl w.heap.size 32 i0 _ 2 16 Tryd.underlying28 hi hz0 hz1 hz2 rfl (by decide) _ _ _ rfl (hrow.alloc _) ⟨w2.heap.size,0,none⟩ 1 1 [.int .i64 i,.int .i64 q1] rfl rfl (cells_two_new _ _ _ _) (by simp [Value.oneCell']) (by unfold maxLen;omega) (by omega) (by simp;omega) ?_;intro v' w3 hown' hgrow _;obtain ⟨g',cap',rfl⟩ := ownsRow_succ hown';obtain ⟨hv1,hI3,hk3⟩ := hI2.appended (t' := ⟨(i : Int),q1⟩) hv hrow hvB hown' hgrow;have hc1 := hv1.cell;have hf1 := hv1.frozen;have cIn3 := hI3.inn.cell;have fIn3 := hI3.inn.frozen))
    have hk1 := fun C => keep_below (C := C) (B := B) (Pr := fun k => k = w.heap.size + 3) hb12 hsz1
    have hk4 := fun C => keep_set (C := C) (B := B) (b := w.heap.size + 2) (j := 0) (Pr := fun k => k = w.heap.size + 3) hI3.bel.size (by omega) (by have := hI.low;omega) (fun k hk => by omega) (.bool true)
    exact ⟨((hk1 _).1.trans (hk3 _).1).trans (hk4 _).1,((hk1 0).2.trans (hk3 0).2).trans (hk4 0).2,by show SpInv w s (spF s _) _ _;rw [hst2.out];exact (hI3.setIn true).mono (hk4 0).1.size⟩
   ·obtain ⟨p,a,b,rfl⟩ := hshape rfl
    have hwp : wrap64 (p.length : Int) = (p.length : Int) := by rw [List.length_append] at hLn;unfold wrap64;omega
    have hst2 : Hid (spF s (pre ++ [(⟨(i : Int),q1,q2,q3⟩ : S61)]) = (true,p ++ [⟨a,q1⟩])) := Lib.hid (hst.out.trans (spStep_on s p a b _ (by rw [Int.toNat_natCast];exact hr2.out)))
    gi_wp2_with (refine ⟨trivial,?_⟩;gi_at_call 13;refine (callsIn_wide.2 (word_IsWord.calls kW c true _ hkW.out)).mono ?_;rintro e w2 ⟨rfl,hb2⟩;have hb12 : Below W.heap.size W w2 := (hb1.alloc hb1.size _).trans (hb2.mono (Nat.le_trans hb1.size (by simp)));have hI2 := hI.below hb12;have hcy0 := hcy w2 hb12 0 _ rfl;have hcy1 := hcy w2 hb12 1 _ rfl;have cIn := hI2.inn.cell;have fIn := hI2.inn.frozen;obtain ⟨g,cap,hbx,hcg,hfg,hset⟩ := hI2.last;have cAll := hbx.cell;have hI3 := (hset q1).1;have cIn3 := hI3.inn.cell;have fIn3 := hI3.inn.frozen)
    clear hwp
    have hk1 := fun C => keep_below (C := C) (B := B) (Pr := fun k => k = w.heap.size + 3) hb12 hsz1
    have hk4 := fun C => keep_set (C := C) (B := B) (b := w.heap.size + 2) (j := 0) (Pr := fun k => k = w.heap.size + 3) hI3.bel.size (by omega) (by have := hI.low;omega) (fun k hk => by omega) (.bool true)
    exact ⟨((hk1 _).1.trans ((hset q1).2 _).1).trans (hk4 _).1,((hk1 0).2.trans ((hset q1).2 0).2).trans (hk4 0).2,by show SpInv w s (spF s _) _ _;rw [hst2.out];exact (hI3.setIn true).mono (Nat.le_trans hBW (Nat.le_trans hb12.size (Nat.le_trans ((hset q1).2 0).1.size (hk4 0).1.size)))⟩
 case done =>
  rintro D ys W hD hys hI hK
  obtain ⟨v,hv,hrow,_⟩ := hI.all
  have hc := hv.cell
  gi_wp2
  refine ⟨by simp,.inl ⟨_,_,rfl,run_takeDeferred hK,?_⟩⟩
  refine ⟨_,results_tmp rfl _ _ _,v,rfl,⟨fun _ _ => trivial,cellsP (spansL s),?_,reps_cellsP _ _ _ _⟩,hI.bel.trans (belowK_b (w := w) (Nat.le_refl _) W D _ _ (by omega) hK rfl rfl)⟩
  have e : ys = clusL s := hys
  have h2 := ownsRow_putObj hrow (.deferred none) hK rfl
  rw [e] at h2
  exact h2
 case stop =>
  rintro D c pre W _ _ h _
  exact h.elim
def word_Spans.f (a0 : ByteArray) : Option (List (S32)) := if a0.size ≤ 1099511627776 then some (spansL a0) else none
theorem word_Spans.calls (a0 : ByteArray) (r : List (S32)) (w : World) (hT : Lib.Utf8Tabs 0 1 w) (h : word_Spans.f a0 = some r) :
  Calls Tryd.prog 20 #[.string a0] w fun e w' => ∃ v0_ : Value,e = .returned (v0_) ∧ Kd.R k32 32 w' w.heap.size (fun _ => True) v0_ r ∧ Below w.heap.size w w' := by
 unfold word_Spans.f at h
 split at h
 ·obtain rfl := Option.some.inj h
  rename_i hs
  exact spans_any a0 w hs hT
 ·cases h
end Go.Proofs.YtkficbgnjpekaaaDoor.U
end
section
namespace Go.Proofs.YtkficbgnjpekaaaDoor.U
open Go.RowKit Go.Proofs.YtkficbgnjpekaaaDoorW.PrintWords Go.Proofs.YtkficbgnjpekaaaDoorW.PrintLast Go.Proofs.YtkficbgnjpekaaaDoorW.PrintMore
attribute [local go_sem] max2_int min2_int max_two min_two max_three min_three max_four min_four   -- for this text's walks alone
set_option linter.unusedVariables false
set_option linter.unusedSimpArgs false
mutual
def word_UpperOf.j0 : Nat → Int → Bool → Option (Int)
 | 0,_,_ => none
 | k + 1,x0,x3 => if x3 = true then (word_UpperOf.j4 k x0 x3) else (if x0 ≥ 224 then (word_UpperOf.j1 k x0 (decide (x0 ≤ 246))) else (word_UpperOf.j1 k x0 false))
def word_UpperOf.j4 : Nat → Int → Bool → Option (Int)
 | 0,_,_ => none
 | k + 1,x0,x3 => if x3 = true then (some (wrap32 (x0 - 32))) else (if x0 ≥ 1104 then (word_UpperOf.j5 k x0 (decide (x0 ≤ 1119))) else (word_UpperOf.j5 k x0 false))
def word_UpperOf.j5 : Nat → Int → Bool → Option (Int)
 | 0,_,_ => none
 | k + 1,x0,x42 => if x42 = true then (some (wrap32 (x0 - 80))) else (if x0 = 255 then (some 376) else (if x0 = 305 then (word_UpperOf.j6 k x0 false) else ((word_odd.f x0 257 311).bind fun t195 => (word_UpperOf.j6 k x0 t195))))
def word_UpperOf.j6 : Nat → Int → Bool → Option (Int)
 | 0,_,_ => none
 | k + 1,x0,x54 => if x54 = true then (some (wrap32 (x0 - 1))) else ((word_odd.f x0 331 375).bind fun t196 => (if t196 = true then (some (wrap32 (x0 - 1))) else ((word_odd.f x0 1121 1153).bind fun t197 => (if t197 = true then (some (wrap32 (x0 - 1))) else (some x0)))))
def word_UpperOf.j1 : Nat → Int → Bool → Option (Int)
 | 0,_,_ => none
 | k + 1,x0,x3 => if x3 = true then (word_UpperOf.j4 k x0 x3) else (if x0 ≥ 248 then (word_UpperOf.j2 k x0 (decide (x0 ≤ 254))) else (word_UpperOf.j2 k x0 false))
def word_UpperOf.j2 : Nat → Int → Bool → Option (Int)
 | 0,_,_ => none
 | k + 1,x0,x3 => if x3 = true then (word_UpperOf.j4 k x0 x3) else (if x0 ≥ 945 then (word_UpperOf.j3 k x0 (decide (x0 ≤ 961))) else (word_UpperOf.j3 k x0 false))
def word_UpperOf.j3 : Nat → Int → Bool → Option (Int)
 | 0,_,_ => none
 | k + 1,x0,x3 => if x3 = true then (word_UpperOf.j4 k x0 x3) else (if x0 ≥ 963 then (if x0 ≤ 969 then (word_UpperOf.j4 k x0 (decide (x0 ≤ 969))) else (if x0 ≥ 1072 then (word_UpperOf.j4 k x0 (decide (x0 ≤ 1103))) else (word_UpperOf.j4 k x0 false))) else (if x0 ≥ 1072 then (word_UpperOf.j4 k x0 (decide (x0 ≤ 1103))) else (word_UpperOf.j4 k x0 false)))
end
def word_UpperOf.f (k : Nat) (a0 : Int) : Option (Int) := if a0 ≥ 97 then (word_UpperOf.j0 k a0 (decide (a0 ≤ 122))) else (word_UpperOf.j0 k a0 false)
set_option maxHeartbeats 8000000 in
set_option maxRecDepth 100000 in
theorem word_UpperOf.calls (k : Nat) (a0 : Int) (r : Int) (w : World) (h : word_UpperOf.f k a0 = some r) :
  Calls Tryd.prog 15 #[.int .i32 a0] w fun e w' => e = .returned (.int .i32 r) ∧ Drawn0 w w' := by
 have H : (if a0 ≥ 97 then (word_UpperOf.j0 k a0 (decide (a0 ≤ 122))) else (word_UpperOf.j0 k a0 false)) = some r := h
 clear h
 have HC2 := Aside0.mk H
 clear H
 go_enter Tryd.func15,Tryd.ntmps15
 go_upto_region 1 with (fail)
 go_cut [3] (fun v3 wc => ∃ (kq : Nat) (x3_1 : Bool),v3 = .bool x3_1 ∧ Aside0 (word_UpperOf.j0 kq a0 x3_1 = some r) ∧ Aside0 (kq ≤ k) ∧ Drawn0 w wc)
 case first =>
  have H := HC2.out
  clear HC2
  by_cases c3 : a0 ≥ 97
  ·rw [if_pos c3] at H
   have c3b0 : decide (97 ≤ a0) = true := decide_eq_true c3
   clear c3
   (first | rw [c3b0] | (simp only [i64_w,i32_w];rw [c3b0]) | skip)
   have H' := Aside0.mk H
   clear H
   go_wp2
   go_meet
   case rel => exact ⟨_,(decide (a0 ≤ 122)),au3,H',⟨by first | omega | exact Nat.le_refl _⟩,by repeat (first | exact Drawn0.refl _ | apply Drawn0.step)⟩
  ·rw [if_neg c3] at H
   have c3b0 : decide (97 ≤ a0) = false := decide_eq_false c3
   clear c3
   (first | rw [c3b0] | (simp only [i64_w,i32_w];rw [c3b0]) | skip)
   have H' := Aside0.mk H
   clear H
   go_wp2
   go_meet
   case rel => exact ⟨_,(false),au3,H',⟨by first | omega | exact Nat.le_refl _⟩,by repeat (first | exact Drawn0.refl _ | apply Drawn0.step)⟩
 case rest =>
  clear HC2
  try clear c1
  try clear p2
  try clear c3
  try clear c3b0
  obtain ⟨kq,x3_1,rfl,HA,HJ1,⟨mc1,rfl⟩⟩ := hcut
  cases kq with
  | zero => exact absurd HA.out (by simp [word_UpperOf.j0])
  | succ kj1 =>
   have H := HA.out
   clear HA
   simp only [word_UpperOf.j0] at H
   have HC4 := Aside0.mk H
   clear H
   go_upto_if 3 with (fail)
   go_cut [3] (fun v3 wc => ∃ (kq : Nat) (x3_3 : Bool),v3 = .bool x3_3 ∧ Aside0 (word_UpperOf.j4 kq a0 x3_3 = some r) ∧ Aside0 (kq ≤ kj1) ∧ Drawn0 w wc)
   case first =>
    have H := HC4.out
    clear HC4
    by_cases c5 : x3_1 = true
    ·subst c5
     have H1 : (word_UpperOf.j4 kj1 a0 true) = some r := by rw [if_pos rfl] at H;exact H
     clear H
     have H := H1
     clear H1
     have H' := Aside0.mk H
     clear H
     go_wp2
     go_meet
     case rel => exact ⟨_,(true),au3,H',⟨by have := HJ1.out;first | omega | exact Nat.le_refl _⟩,by repeat (first | exact Drawn0.refl _ | apply Drawn0.step)⟩
    ·replace c5 := Bool.eq_false_iff.mpr c5
     subst c5
     have H1 : (if a0 ≥ 224 then (word_UpperOf.j1 kj1 a0 (decide (a0 ≤ 246))) else (word_UpperOf.j1 kj1 a0 false)) = some r := by rw [if_neg (show ¬ (false = true) by decide)] at H;exact H
     clear H
     have H := H1
     clear H1
     have HC6 := Aside0.mk H
     clear H
     go_upto_region 2 with (fail)
     go_cut [3] (fun v3 wc => ∃ (kq : Nat) (x3_5 : Bool),v3 = .bool x3_5 ∧ Aside0 (word_UpperOf.j1 kq a0 x3_5 = some r) ∧ Aside0 (kq ≤ kj1) ∧ Drawn0 w wc)
     case first =>
      have H := HC6.out
      clear HC6
      by_cases c7 : a0 ≥ 224
      ·rw [if_pos c7] at H
       have c7b0 : decide (224 ≤ a0) = true := decide_eq_true c7
       clear c7
       (first | rw [c7b0] | (simp only [i64_w,i32_w];rw [c7b0]) | skip)
       have H' := Aside0.mk H
       clear H
       go_wp2
       go_meet
       case rel => exact ⟨_,(decide (a0 ≤ 246)),au3,H',⟨by have := HJ1.out;first | omega | exact Nat.le_refl _⟩,by repeat (first | exact Drawn0.refl _ | apply Drawn0.step)⟩
      ·rw [if_neg c7] at H
       have c7b0 : decide (224 ≤ a0) = false := decide_eq_false c7
       clear c7
       (first | rw [c7b0] | (simp only [i64_w,i32_w];rw [c7b0]) | skip)
       have H' := Aside0.mk H
       clear H
       go_wp2
       go_meet
       case rel => exact ⟨_,(false),au3,H',⟨by have := HJ1.out;first | omega | exact Nat.le_refl _⟩,by repeat (first | exact Drawn0.refl _ | apply Drawn0.step)⟩
     case rest =>
      clear HC6
      try clear c1
      try clear p2
      try clear c3
      try clear c3b0
      try clear c5
      try clear c7
      try clear c7b0
      try clear p2
      obtain ⟨kq,x3_5,rfl,HA,HJ5,⟨mc5,rfl⟩⟩ := hcut
      cases kq with
      | zero => exact absurd HA.out (by simp [word_UpperOf.j1])
      | succ kj5 =>
       have H := HA.out
       clear HA
       simp only [word_UpperOf.j1] at H
       by_cases c8 : x3_5 = true
       ·subst c8
        have H1 : (word_UpperOf.j4 kj5 a0 true) = some r := by rw [if_pos rfl] at H;exact H
        clear H
        have H := H1
        clear H1
        have H' := Aside0.mk H
        clear H
        go_wp2
        go_meet
        case rel => exact ⟨_,(true),au3,H',⟨by have := HJ1.out;have := HJ5.out;first | omega | exact Nat.le_refl _⟩,by repeat (first | exact Drawn0.refl _ | apply Drawn0.step)⟩
       ·replace c8 := Bool.eq_false_iff.mpr c8
        subst c8
        have H1 : (if a0 ≥ 248 then (word_UpperOf.j2 kj5 a0 (decide (a0 ≤ 254))) else (word_UpperOf.j2 kj5 a0 false)) = some r := by rw [if_neg (show ¬ (false = true) by decide)] at H;exact H
        clear H
        have H := H1
        clear H1
        have HC9 := Aside0.mk H
        clear H
        go_upto_region 3 with (fail)
        go_cut [3] (fun v3 wc => ∃ (kq : Nat) (x3_8 : Bool),v3 = .bool x3_8 ∧ Aside0 (word_UpperOf.j2 kq a0 x3_8 = some r) ∧ Aside0 (kq ≤ kj5) ∧ Drawn0 w wc)
        case first =>
         have H := HC9.out
         clear HC9
         by_cases c10 : a0 ≥ 248
         ·rw [if_pos c10] at H
          have c10b0 : decide (248 ≤ a0) = true := decide_eq_true c10
          clear c10
          (first | rw [c10b0] | (simp only [i64_w,i32_w];rw [c10b0]) | skip)
          have H' := Aside0.mk H
          clear H
          go_wp2
          go_meet
          case rel => exact ⟨_,(decide (a0 ≤ 254)),au3,H',⟨by have := HJ1.out;have := HJ5.out;first | omega | exact Nat.le_refl _⟩,by repeat (first | exact Drawn0.refl _ | apply Drawn0.step)⟩
         ·rw [if_neg c10] at H
          have c10b0 : decide (248 ≤ a0) = false := decide_eq_false c10
          clear c10
          (first | rw [c10b0] | (simp only [i64_w,i32_w];rw [c10b0]) | skip)
          have H' := Aside0.mk H
          clear H
          go_wp2
          go_meet
          case rel => exact ⟨_,(false),au3,H',⟨by have := HJ1.out;have := HJ5.out;first | omega | exact Nat.le_refl _⟩,by repeat (first | exact Drawn0.refl _ | apply Drawn0.step)⟩
        case rest =>
         clear HC9
         try clear c1
         try clear p2
         try clear c3
         try clear c3b0
         try clear c5
         try clear c7
         try clear c7b0
         try clear c8
         try clear c10
         try clear c10b0
         try clear p2
         obtain ⟨kq,x3_8,rfl,HA,HJ8,⟨mc8,rfl⟩⟩ := hcut
         cases kq with
         | zero => exact absurd HA.out (by simp [word_UpperOf.j2])
         | succ kj8 =>
          have H := HA.out
          clear HA
          simp only [word_UpperOf.j2] at H
          by_cases c11 : x3_8 = true
          ·subst c11
           have H1 : (word_UpperOf.j4 kj8 a0 true) = some r := by rw [if_pos rfl] at H;exact H
           clear H
           have H := H1
           clear H1
           have H' := Aside0.mk H
           clear H
           go_wp2
           go_meet
           case rel => exact ⟨_,(true),au3,H',⟨by have := HJ1.out;have := HJ5.out;have := HJ8.out;first | omega | exact Nat.le_refl _⟩,by repeat (first | exact Drawn0.refl _ | apply Drawn0.step)⟩
          ·replace c11 := Bool.eq_false_iff.mpr c11
           subst c11
           have H1 : (if a0 ≥ 945 then (word_UpperOf.j3 kj8 a0 (decide (a0 ≤ 961))) else (word_UpperOf.j3 kj8 a0 false)) = some r := by rw [if_neg (show ¬ (false = true) by decide)] at H;exact H
           clear H
           have H := H1
           clear H1
           have HC12 := Aside0.mk H
           clear H
           go_upto_region 4 with (fail)
           go_cut [3] (fun v3 wc => ∃ (kq : Nat) (x3_11 : Bool),v3 = .bool x3_11 ∧ Aside0 (word_UpperOf.j3 kq a0 x3_11 = some r) ∧ Aside0 (kq ≤ kj8) ∧ Drawn0 w wc)
           case first =>
            have H := HC12.out
            clear HC12
            by_cases c13 : a0 ≥ 945
            ·rw [if_pos c13] at H
             have c13b0 : decide (945 ≤ a0) = true := decide_eq_true c13
             clear c13
             (first | rw [c13b0] | (simp only [i64_w,i32_w];rw [c13b0]) | skip)
             have H' := Aside0.mk H
             clear H
             go_wp2
             go_meet
             case rel => exact ⟨_,(decide (a0 ≤ 961)),au3,H',⟨by have := HJ1.out;have := HJ5.out;have := HJ8.out;first | omega | exact Nat.le_refl _⟩,by repeat (first | exact Drawn0.refl _ | apply Drawn0.step)⟩
            ·rw [if_neg c13] at H
             have c13b0 : decide (945 ≤ a0) = false := decide_eq_false c13
             clear c13
             (first | rw [c13b0] | (simp only [i64_w,i32_w];rw [c13b0]) | skip)
             have H' := Aside0.mk H
             clear H
             go_wp2
             go_meet
             case rel => exact ⟨_,(false),au3,H',⟨by have := HJ1.out;have := HJ5.out;have := HJ8.out;first | omega | exact Nat.le_refl _⟩,by repeat (first | exact Drawn0.refl _ | apply Drawn0.step)⟩
           case rest =>
            clear HC12
            try clear c1
            try clear p2
            try clear c3
            try clear c3b0
            try clear c5
            try clear c7
            try clear c7b0
            try clear c8
            try clear c10
            try clear c10b0
            try clear c11
            try clear c13
            try clear c13b0
            try clear p2
            obtain ⟨kq,x3_11,rfl,HA,HJ11,⟨mc11,rfl⟩⟩ := hcut
            cases kq with
            | zero => exact absurd HA.out (by simp [word_UpperOf.j3])
            | succ kj11 =>
             have H := HA.out
             clear HA
             simp only [word_UpperOf.j3] at H
             by_cases c14 : x3_11 = true
             ·subst c14
              have H1 : (word_UpperOf.j4 kj11 a0 true) = some r := by rw [if_pos rfl] at H;exact H
              clear H
              have H := H1
              clear H1
              have H' := Aside0.mk H
              clear H
              go_wp2
              go_meet
              case rel => exact ⟨_,(true),au3,H',⟨by have := HJ1.out;have := HJ5.out;have := HJ8.out;have := HJ11.out;first | omega | exact Nat.le_refl _⟩,by repeat (first | exact Drawn0.refl _ | apply Drawn0.step)⟩
             ·replace c14 := Bool.eq_false_iff.mpr c14
              subst c14
              have H1 : (if a0 ≥ 963 then (if a0 ≤ 969 then (word_UpperOf.j4 kj11 a0 (decide (a0 ≤ 969))) else (if a0 ≥ 1072 then (word_UpperOf.j4 kj11 a0 (decide (a0 ≤ 1103))) else (word_UpperOf.j4 kj11 a0 false))) else (if a0 ≥ 1072 then (word_UpperOf.j4 kj11 a0 (decide (a0 ≤ 1103))) else (word_UpperOf.j4 kj11 a0 false))) = some r := by rw [if_neg (show ¬ (false = true) by decide)] at H;exact H
              clear H
              have H := H1
              clear H1
              by_cases c15 : a0 ≥ 963
              ·rw [if_pos c15] at H
               have c15b0 : decide (963 ≤ a0) = true := decide_eq_true c15
               clear c15
               by_cases c16 : a0 ≤ 969
               ·rw [if_pos c16] at H
                have c16b0 : decide (a0 ≤ 969) = true := decide_eq_true c16
                clear c16
                have H' := Aside0.mk H
                clear H
                go_wp2
                go_meet
                case rel => exact ⟨_,(decide (a0 ≤ 969)),au3,H',⟨by have := HJ1.out;have := HJ5.out;have := HJ8.out;have := HJ11.out;first | omega | exact Nat.le_refl _⟩,by repeat (first | exact Drawn0.refl _ | apply Drawn0.step)⟩
               ·rw [if_neg c16] at H
                have c16b0 : decide (a0 ≤ 969) = false := decide_eq_false c16
                clear c16
                by_cases c17 : a0 ≥ 1072
                ·rw [if_pos c17] at H
                 have c17b0 : decide (1072 ≤ a0) = true := decide_eq_true c17
                 clear c17
                 have H' := Aside0.mk H
                 clear H
                 go_wp2
                 go_meet
                 case rel => exact ⟨_,(decide (a0 ≤ 1103)),au3,H',⟨by have := HJ1.out;have := HJ5.out;have := HJ8.out;have := HJ11.out;first | omega | exact Nat.le_refl _⟩,by repeat (first | exact Drawn0.refl _ | apply Drawn0.step)⟩
                ·rw [if_neg c17] at H
                 have c17b0 : decide (1072 ≤ a0) = false := decide_eq_false c17
                 clear c17
                 have H' := Aside0.mk H
                 clear H
                 go_wp2
                 go_meet
                 case rel => exact ⟨_,(false),au3,H',⟨by have := HJ1.out;have := HJ5.out;have := HJ8.out;have := HJ11.out;first | omega | exact Nat.le_refl _⟩,by repeat (first | exact Drawn0.refl _ | apply Drawn0.step)⟩
              ·rw [if_neg c15] at H
               have c15b0 : decide (963 ≤ a0) = false := decide_eq_false c15
               clear c15
               by_cases c18 : a0 ≥ 1072
               ·rw [if_pos c18] at H
                have c18b0 : decide (1072 ≤ a0) = true := decide_eq_true c18
                clear c18
                have H' := Aside0.mk H
                clear H
                go_wp2
                go_meet
                case rel => exact ⟨_,(decide (a0 ≤ 1103)),au3,H',⟨by have := HJ1.out;have := HJ5.out;have := HJ8.out;have := HJ11.out;first | omega | exact Nat.le_refl _⟩,by repeat (first | exact Drawn0.refl _ | apply Drawn0.step)⟩
               ·rw [if_neg c18] at H
                have c18b0 : decide (1072 ≤ a0) = false := decide_eq_false c18
                clear c18
                have H' := Aside0.mk H
                clear H
                go_wp2
                go_meet
                case rel => exact ⟨_,(false),au3,H',⟨by have := HJ1.out;have := HJ5.out;have := HJ8.out;have := HJ11.out;first | omega | exact Nat.le_refl _⟩,by repeat (first | exact Drawn0.refl _ | apply Drawn0.step)⟩
   case rest =>
    clear HC4
    try clear c1
    try clear p2
    try clear c3
    try clear c3b0
    try clear c5
    try clear c7
    try clear c7b0
    try clear c8
    try clear c10
    try clear c10b0
    try clear c11
    try clear c13
    try clear c13b0
    try clear c14
    try clear c15
    try clear c15b0
    try clear c16
    try clear c16b0
    try clear c17
    try clear c17b0
    try clear c18
    try clear c18b0
    try clear p2
    obtain ⟨kq,x3_3,rfl,HA,HJ3,⟨mc3,rfl⟩⟩ := hcut
    cases kq with
    | zero => exact absurd HA.out (by simp [word_UpperOf.j4])
    | succ kj3 =>
     have H := HA.out
     clear HA
     simp only [word_UpperOf.j4] at H
     by_cases c19 : x3_3 = true
     ·subst c19
      have H1 : (some (wrap32 (a0 - 32))) = some r := by rw [if_pos rfl] at H;exact H
      clear H
      have H := H1
      clear H1
      obtain rfl := Option.some.inj H
      go_wp2
      go_ret
      exact ⟨by first | rfl | (simp;done) | (simp [*];done),by repeat (first | exact Drawn0.refl _ | apply Drawn0.step)⟩
     ·replace c19 := Bool.eq_false_iff.mpr c19
      subst c19
      have H1 : (if a0 ≥ 1104 then (word_UpperOf.j5 kj3 a0 (decide (a0 ≤ 1119))) else (word_UpperOf.j5 kj3 a0 false)) = some r := by rw [if_neg (show ¬ (false = true) by decide)] at H;exact H
      clear H
      have H := H1
      clear H1
      have HC20 := Aside0.mk H
      clear H
      go_upto_region 8 with (fail)
      go_cut [42] (fun v42 wc => ∃ (kq : Nat) (x42_19 : Bool),v42 = .bool x42_19 ∧ Aside0 (word_UpperOf.j5 kq a0 x42_19 = some r) ∧ Aside0 (kq ≤ kj3) ∧ Drawn0 w wc)
      case first =>
       have H := HC20.out
       clear HC20
       by_cases c21 : a0 ≥ 1104
       ·rw [if_pos c21] at H
        have c21b0 : decide (1104 ≤ a0) = true := decide_eq_true c21
        clear c21
        (first | rw [c21b0] | (simp only [i64_w,i32_w];rw [c21b0]) | skip)
        have H' := Aside0.mk H
        clear H
        go_wp2
        go_meet
        case rel => exact ⟨_,(decide (a0 ≤ 1119)),au3,H',⟨by have := HJ1.out;have := HJ3.out;first | omega | exact Nat.le_refl _⟩,by repeat (first | exact Drawn0.refl _ | apply Drawn0.step)⟩
       ·rw [if_neg c21] at H
        have c21b0 : decide (1104 ≤ a0) = false := decide_eq_false c21
        clear c21
        (first | rw [c21b0] | (simp only [i64_w,i32_w];rw [c21b0]) | skip)
        have H' := Aside0.mk H
        clear H
        go_wp2
        go_meet
        case rel => exact ⟨_,(false),au3,H',⟨by have := HJ1.out;have := HJ3.out;first | omega | exact Nat.le_refl _⟩,by repeat (first | exact Drawn0.refl _ | apply Drawn0.step)⟩
      case rest =>
       clear HC20
       try clear c1
       try clear c2
       try clear p2
       try clear c3
       try clear c3b0
       try clear p3
       try clear c5
       try clear c7
       try clear c7b0
       try clear c8
       try clear c10
       try clear c10b0
       try clear c11
       try clear c13
       try clear c13b0
       try clear c14
       try clear c15
       try clear c15b0
       try clear c16
       try clear c16b0
       try clear c17
       try clear c17b0
       try clear c18
       try clear c18b0
       try clear c19
       try clear c21
       try clear c21b0
       try clear p2
       obtain ⟨kq,x42_19,rfl,HA,HJ19,⟨mc19,rfl⟩⟩ := hcut
       cases kq with
       | zero => exact absurd HA.out (by simp [word_UpperOf.j5])
       | succ kj19 =>
        have H := HA.out
        clear HA
        simp only [word_UpperOf.j5] at H
        by_cases c22 : x42_19 = true
        ·subst c22
         have H1 : (some (wrap32 (a0 - 80))) = some r := by rw [if_pos rfl] at H;exact H
         clear H
         have H := H1
         clear H1
         obtain rfl := Option.some.inj H
         go_wp2
         go_ret
         exact ⟨by first | rfl | (simp;done) | (simp [*];done),by repeat (first | exact Drawn0.refl _ | apply Drawn0.step)⟩
        ·replace c22 := Bool.eq_false_iff.mpr c22
         subst c22
         have H1 : (if a0 = 255 then (some 376) else (if a0 = 305 then (word_UpperOf.j6 kj19 a0 false) else ((word_odd.f a0 257 311).bind fun t195 => (word_UpperOf.j6 kj19 a0 t195)))) = some r := by rw [if_neg (show ¬ (false = true) by decide)] at H;exact H
         clear H
         have H := H1
         clear H1
         by_cases c23 : a0 = 255
         ·rw [if_pos c23] at H
          have c23b0 : (a0 == 255) = true := beq_iff_eq.mpr c23
          have c23b1 : (a0 != 255) = false := bne_eq_false_iff_eq.mpr c23
          clear c23
          obtain rfl := Option.some.inj H
          go_wp2
          go_ret
          exact ⟨by first | rfl | (simp;done) | (simp [*];done),by repeat (first | exact Drawn0.refl _ | apply Drawn0.step)⟩
         ·rw [if_neg c23] at H
          have c23b0 : (a0 == 255) = false := beq_eq_false_iff_ne.mpr c23
          have c23b1 : (a0 != 255) = true := bne_iff_ne.mpr c23
          have HC24 := Aside0.mk H
          clear H
          go_upto_region 12 with (fail)
          go_cut [54] (fun v54 wc => ∃ (kq : Nat) (x54_23 : Bool),v54 = .bool x54_23 ∧ Aside0 (word_UpperOf.j6 kq a0 x54_23 = some r) ∧ Aside0 (kq ≤ kj19) ∧ Drawn0 w wc)
          case first =>
           have H := HC24.out
           clear HC24
           by_cases c25 : a0 = 305
           ·rw [if_pos c25] at H
            have c25b0 : (a0 == 305) = true := beq_iff_eq.mpr c25
            have c25b1 : (a0 != 305) = false := bne_eq_false_iff_eq.mpr c25
            clear c25
            (first | rw [c25b0] | (simp only [i64_w,i32_w];rw [c25b0]) | skip)
            have H' := Aside0.mk H
            clear H
            go_wp2
            go_meet
            case rel => exact ⟨_,(false),au3,H',⟨by have := HJ1.out;have := HJ3.out;have := HJ19.out;first | omega | exact Nat.le_refl _⟩,by repeat (first | exact Drawn0.refl _ | apply Drawn0.step)⟩
           ·rw [if_neg c25] at H
            have c25b0 : (a0 == 305) = false := beq_eq_false_iff_ne.mpr c25
            have c25b1 : (a0 != 305) = true := bne_iff_ne.mpr c25
            (first | rw [c25b0] | (simp only [i64_w,i32_w];rw [c25b0]) | skip)
            replace H := Option.bind_eq_some_iff.mp H
            obtain ⟨t195,A260,H⟩ := H
            replace H : (word_UpperOf.j6 kj19 a0 t195) = some r := H
            have A26 := Aside0.mk A260
            clear A260
            have H' := Aside0.mk H
            clear H
            go_wp2_with (first | (go_at_call 42;(with_reducible refine (word_odd.calls a0 257 311 t195 _ A26.out).mono ?_);rintro e w' ⟨rfl,⟨nd,rfl⟩⟩))
            go_meet
            case rel => exact ⟨_,(t195),au3,H',⟨by have := HJ1.out;have := HJ3.out;have := HJ19.out;first | omega | exact Nat.le_refl _⟩,by repeat (first | exact Drawn0.refl _ | apply Drawn0.step)⟩
          case rest =>
           clear HC24
           try clear c1
           try clear c2
           try clear p2
           try clear c3
           try clear c3b0
           try clear p3
           try clear c5
           try clear c7
           try clear c7b0
           try clear c8
           try clear c10
           try clear c10b0
           try clear c11
           try clear c13
           try clear c13b0
           try clear c14
           try clear c15
           try clear c15b0
           try clear c16
           try clear c16b0
           try clear c17
           try clear c17b0
           try clear c18
           try clear c18b0
           try clear c19
           try clear c21
           try clear c21b0
           try clear c22
           try clear c23
           try clear c23b0
           try clear c23b1
           try clear c25
           try clear c25b0
           try clear c25b1
           try clear p2
           try clear p3
           obtain ⟨kq,x54_23,rfl,HA,HJ23,⟨mc23,rfl⟩⟩ := hcut
           cases kq with
           | zero => exact absurd HA.out (by simp [word_UpperOf.j6])
           | succ kj23 =>
            have H := HA.out
            clear HA
            simp only [word_UpperOf.j6] at H
            by_cases c27 : x54_23 = true
            ·subst c27
             have H1 : (some (wrap32 (a0 - 1))) = some r := by rw [if_pos rfl] at H;exact H
             clear H
             have H := H1
             clear H1
             obtain rfl := Option.some.inj H
             go_wp2
             go_ret
             exact ⟨by first | rfl | (simp;done) | (simp [*];done),by repeat (first | exact Drawn0.refl _ | apply Drawn0.step)⟩
            ·replace c27 := Bool.eq_false_iff.mpr c27
             subst c27
             have H1 : ((word_odd.f a0 331 375).bind fun t196 => (if t196 = true then (some (wrap32 (a0 - 1))) else ((word_odd.f a0 1121 1153).bind fun t197 => (if t197 = true then (some (wrap32 (a0 - 1))) else (some a0))))) = some r := by rw [if_neg (show ¬ (false = true) by decide)] at H;exact H
             clear H
             have H := H1
             clear H1
             replace H := Option.bind_eq_some_iff.mp H
             obtain ⟨t196,A280,H⟩ := H
             replace H : (if t196 = true then (some (wrap32 (a0 - 1))) else ((word_odd.f a0 1121 1153).bind fun t197 => (if t197 = true then (some (wrap32 (a0 - 1))) else (some a0)))) = some r := H
             have A28 := Aside0.mk A280
             clear A280
             by_cases c29 : t196 = true
             ·subst c29
              have H1 : (some (wrap32 (a0 - 1))) = some r := by rw [if_pos rfl] at H;exact H
              clear H
              have H := H1
              clear H1
              obtain rfl := Option.some.inj H
              go_wp2_with (first | ((with_reducible refine gate_callee (f := 42) rfl ?_);refine goesL_ (some 62) rfl rfl Tryd.func42 (by kernel_rfl) rfl #[.int .i32 a0,.int .i32 331,.int .i32 375] rfl au1 ?_;(with_reducible refine (word_odd.calls a0 331 375 true _ A28.out).mono ?_);rintro e w' ⟨rfl,⟨nd,rfl⟩⟩;refine ⟨_,rfl,?_⟩))
              go_ret
              exact ⟨by first | rfl | (simp;done) | (simp [*];done),by repeat (first | exact Drawn0.refl _ | apply Drawn0.step)⟩
             ·replace c29 := Bool.eq_false_iff.mpr c29
              subst c29
              have H1 : ((word_odd.f a0 1121 1153).bind fun t197 => (if t197 = true then (some (wrap32 (a0 - 1))) else (some a0))) = some r := by rw [if_neg (show ¬ (false = true) by decide)] at H;exact H
              clear H
              have H := H1
              clear H1
              replace H := Option.bind_eq_some_iff.mp H
              obtain ⟨t197,A300,H⟩ := H
              replace H : (if t197 = true then (some (wrap32 (a0 - 1))) else (some a0)) = some r := H
              have A30 := Aside0.mk A300
              clear A300
              by_cases c31 : t197 = true
              ·subst c31
               have H1 : (some (wrap32 (a0 - 1))) = some r := by rw [if_pos rfl] at H;exact H
               clear H
               have H := H1
               clear H1
               obtain rfl := Option.some.inj H
               go_wp2_with (first | ((with_reducible refine gate_callee (f := 42) rfl ?_);refine goesL_ (some 62) rfl rfl Tryd.func42 (by kernel_rfl) rfl #[.int .i32 a0,.int .i32 331,.int .i32 375] rfl au1 ?_;(with_reducible refine (word_odd.calls a0 331 375 false _ A28.out).mono ?_);rintro e w' ⟨rfl,⟨nd,rfl⟩⟩;refine ⟨_,rfl,?_⟩) | ((with_reducible refine gate_callee (f := 42) rfl ?_);refine goesL_ (some 64) rfl rfl Tryd.func42 (by kernel_rfl) rfl #[.int .i32 a0,.int .i32 1121,.int .i32 1153] rfl au1 ?_;(with_reducible refine (word_odd.calls a0 1121 1153 true _ A30.out).mono ?_);rintro e w' ⟨rfl,⟨nd,rfl⟩⟩;refine ⟨_,rfl,?_⟩))
               go_ret
               exact ⟨by first | rfl | (simp;done) | (simp [*];done),by repeat (first | exact Drawn0.refl _ | apply Drawn0.step)⟩
              ·replace c31 := Bool.eq_false_iff.mpr c31
               subst c31
               have H1 : (some a0) = some r := by rw [if_neg (show ¬ (false = true) by decide)] at H;exact H
               clear H
               have H := H1
               clear H1
               obtain rfl := Option.some.inj H
               go_wp2_with (first | ((with_reducible refine gate_callee (f := 42) rfl ?_);refine goesL_ (some 62) rfl rfl Tryd.func42 (by kernel_rfl) rfl #[.int .i32 a0,.int .i32 331,.int .i32 375] rfl au1 ?_;(with_reducible refine (word_odd.calls a0 331 375 false _ A28.out).mono ?_);rintro e w' ⟨rfl,⟨nd,rfl⟩⟩;refine ⟨_,rfl,?_⟩) | ((with_reducible refine gate_callee (f := 42) rfl ?_);refine goesL_ (some 64) rfl rfl Tryd.func42 (by kernel_rfl) rfl #[.int .i32 a0,.int .i32 1121,.int .i32 1153] rfl au1 ?_;(with_reducible refine (word_odd.calls a0 1121 1153 false _ A30.out).mono ?_);rintro e w' ⟨rfl,⟨nd,rfl⟩⟩;refine ⟨_,rfl,?_⟩))
               go_ret
               exact ⟨by first | rfl | (simp;done) | (simp [*];done),by repeat (first | exact Drawn0.refl _ | apply Drawn0.step)⟩
end Go.Proofs.YtkficbgnjpekaaaDoor.U
end
section
namespace Go.Proofs.YtkficbgnjpekaaaDoor.U
open Go.RowKit Go.Shelf Go.Proofs.YtkficbgnjpekaaaDoor.Mu Go.Proofs.YtkficbgnjpekaaaDoor.Pu Go.Proofs.YtkficbgnjpekaaaDoorW.PrintWords Go.Proofs.YtkficbgnjpekaaaDoorW.PrintLast Go.Proofs.YtkficbgnjpekaaaDoorW.PrintMore
set_option linter.unusedVariables false
set_option linter.unusedSimpArgs false
def oddB (c a b : Int) : Bool := decide (a ≤ c ∧ c ≤ b ∧ c % 2 = 1)
theorem odd_ans (c a b : Int) (h : 0 ≤ a) : word_odd.f c a b = some (oddB c a b) := by
 unfold word_odd.f oddB
 by_cases h1 : a ≤ c
 ·rw [if_pos h1]
  by_cases h2 : c ≤ b
  ·rw [if_pos h2,Int.tmod_eq_emod_of_nonneg (by omega)]
   congr 1
   rw [Bool.eq_iff_iff]
   simp [h1,h2]
  ·rw [if_neg h2];simp [h2]
 ·rw [if_neg h1];simp [h1]
/-- one below,two alphabets of odd small letters -/
def low1 (c : Int) (b : Bool) : Int := if b = true then c - 1 else if oddB c 331 375 = true then c - 1 else if oddB c 1121 1153 = true then c - 1 else c
def low2 (c : Int) (b : Bool) : Int := if b = true then c - 80 else if c = 255 then 376 else low1 c (decide (c ≠ 305) && oddB c 257 311)
def low3 (c : Int) (b : Bool) : Int := if b = true then c - 32 else low2 c (decide (1104 ≤ c ∧ c ≤ 1119))
def runB (c : Int) : Bool := decide ((97 ≤ c ∧ c ≤ 122) ∨ (224 ≤ c ∧ c ≤ 246) ∨ (248 ≤ c ∧ c ≤ 254) ∨ (945 ≤ c ∧ c ≤ 961) ∨ (963 ≤ c ∧ c ≤ 969) ∨ (1072 ≤ c ∧ c ≤ 1103))
/-- The large letter of a small one. -/
def upC (c : Int) : Int := low3 c (runB c)
theorem up_j6 (k : Nat) (c : Int) (b : Bool) (hb : b = true → 0 ≤ c ∧ c ≤ 2000) : word_UpperOf.j6 (k + 1) c b = some (low1 c b) := by
 rw [word_UpperOf.j6.eq_2]
 unfold low1
 split
 ·rename_i h;have := hb h;rw [w32 (by omega) (by omega)]
 ·rw [odd_ans _ _ _ (by omega),Option.bind_some]
  split
  ·rename_i h;unfold oddB at h;have := of_decide_eq_true h;rw [w32 (by omega) (by omega)]
  ·rw [odd_ans _ _ _ (by omega),Option.bind_some]
   split
   ·rename_i h;unfold oddB at h;have := of_decide_eq_true h;rw [w32 (by omega) (by omega)]
   ·rfl
theorem up_j5 (k : Nat) (c : Int) (b : Bool) (hb : b = true → 0 ≤ c ∧ c ≤ 2000) : word_UpperOf.j5 (k + 2) c b = some (low2 c b) := by
 rw [word_UpperOf.j5.eq_2]
 unfold low2
 split
 ·rename_i h;have := hb h;rw [w32 (by omega) (by omega)]
 ·split
  ·rfl
  ·split
   ·rename_i h
    rw [up_j6 k c false (by simp),show (decide (c ≠ 305) && oddB c 257 311) = false by simp [h]]
   ·rename_i h
    rw [odd_ans _ _ _ (by omega),Option.bind_some,up_j6 k c _ (fun h2 => by unfold oddB at h2;have := of_decide_eq_true h2;omega),show (decide (c ≠ 305) && oddB c 257 311) = oddB c 257 311 by simp [h]]
theorem up_j4 (k : Nat) (c : Int) (b : Bool) (hb : b = true → 0 ≤ c ∧ c ≤ 2000) : word_UpperOf.j4 (k + 3) c b = some (low3 c b) := by
 rw [word_UpperOf.j4.eq_2]
 unfold low3
 split
 ·rename_i h;have := hb h;rw [w32 (by omega) (by omega)]
 ·split
  ·rename_i h
   rw [up_j5 (k + 0) c _ (fun h2 => by have := of_decide_eq_true h2;omega)]
   congr 2
   rw [Bool.eq_iff_iff];simp;omega
  ·rename_i h
   rw [up_j5 (k + 0) c false (by simp)]
   congr 2
   symm;rw [decide_eq_false_iff_not];omega
theorem up_at (k : Nat) (c : Int) (b : Bool) (h : b = runB c) : word_UpperOf.j4 (k + 3) c b = some (upC c) := by
 rw [up_j4 k c b (fun h2 => by rw [h] at h2;unfold runB at h2;have := of_decide_eq_true h2;omega),h];rfl
theorem run_of {c : Int} {b : Bool} (h : b = true ↔ ((97 ≤ c ∧ c ≤ 122) ∨ (224 ≤ c ∧ c ≤ 246) ∨ (248 ≤ c ∧ c ≤ 254) ∨ (945 ≤ c ∧ c ≤ 961) ∨ (963 ≤ c ∧ c ≤ 969) ∨ (1072 ≤ c ∧ c ≤ 1103))) : b = runB c := by
 rw [Bool.eq_iff_iff,h];unfold runB;rw [decide_eq_true_iff]
theorem upper_ans (k : Nat) (c : Int) : word_UpperOf.f (k + 7) c = some (upC c) := by
 have e3 : ∀ b : Bool,(b = true → runB c = true) → (b = false → c < 945 ∨ 961 < c) → (b = false → ¬ (97 ≤ c ∧ c ≤ 122) ∧ ¬ (224 ≤ c ∧ c ≤ 246) ∧ ¬ (248 ≤ c ∧ c ≤ 254)) → word_UpperOf.j3 (k + 4) c b = some (upC c) := by
  intro b h1 h2 h3
  rw [word_UpperOf.j3.eq_2]
  split
  ·rename_i h;exact up_at k c b (by rw [h,h1 h])
  ·rename_i h
   have h := eq_false_of_ne_true h
   have h2 := h2 h;have h3 := h3 h
   repeat' split
   all_goals exact up_at k c _ (run_of (by simp;omega))
 have e2 : ∀ b : Bool,(b = true → runB c = true) → (b = false → ¬ (97 ≤ c ∧ c ≤ 122) ∧ ¬ (224 ≤ c ∧ c ≤ 246) ∧ ¬ (248 ≤ c ∧ c ≤ 254)) → word_UpperOf.j2 (k + 5) c b = some (upC c) := by
  intro b h1 h3
  rw [word_UpperOf.j2.eq_2]
  split
  ·rename_i h;exact up_at (k + 1) c b (by rw [h,h1 h])
  ·rename_i h
   have h3 := h3 (eq_false_of_ne_true h)
   split
   ·exact e3 _ (fun h => by have := of_decide_eq_true h;unfold runB;rw [decide_eq_true_iff];omega) (fun h => by have := of_decide_eq_false h;omega) (fun _ => h3)
   ·exact e3 _ (by simp) (fun _ => by omega) (fun _ => h3)
 have e1 : ∀ b : Bool,(b = true → runB c = true) → (b = false → ¬ (97 ≤ c ∧ c ≤ 122) ∧ ¬ (224 ≤ c ∧ c ≤ 246)) → word_UpperOf.j1 (k + 6) c b = some (upC c) := by
  intro b h1 h3
  rw [word_UpperOf.j1.eq_2]
  split
  ·rename_i h;exact up_at (k + 2) c b (by rw [h,h1 h])
  ·rename_i h
   have h3 := h3 (eq_false_of_ne_true h)
   split
   ·exact e2 _ (fun h => by have := of_decide_eq_true h;unfold runB;rw [decide_eq_true_iff];omega) (fun h => by have := of_decide_eq_false h;omega)
   ·exact e2 _ (by simp) (fun _ => by omega)
 have e0 : ∀ b : Bool,(b = true → runB c = true) → (b = false → ¬ (97 ≤ c ∧ c ≤ 122)) → word_UpperOf.j0 (k + 7) c b = some (upC c) := by
  intro b h1 h3
  rw [word_UpperOf.j0.eq_2]
  split
  ·rename_i h;exact up_at (k + 3) c b (by rw [h,h1 h])
  ·rename_i h
   have h3 := h3 (eq_false_of_ne_true h)
   split
   ·exact e1 _ (fun h => by have := of_decide_eq_true h;unfold runB;rw [decide_eq_true_iff];omega) (fun h => by have := of_decide_eq_false h;omega)
   ·exact e1 _ (by simp) (fun _ => by omega)
 unfold word_UpperOf.f
 split
 ·exact e0 _ (fun h => by have := of_decide_eq_true h;unfold runB;rw [decide_eq_true_iff];omega) (fun h => by have := of_decide_eq_false h;omega)
 ·exact e0 _ (by simp) (fun _ => by omega)
theorem upper7 (c : Int) : word_UpperOf.f 7 c = some (upC c) := upper_ans 0 c
attribute [local irreducible] upC
/-- The small letter of a large one. -/
def lowTry (c f : Int) (r : Int) : Int := if 0 < c ∧ c < 1280 ∧ upC (c + f) = c then c + f else r
def lowC (c : Int) : Int := if c = 376 then 255 else lowTry c 1 (lowTry c 32 (lowTry c 80 c))
def word_LowerOf.f (a0 : Int) : Option Int := some (lowC a0)
set_option maxRecDepth 100000 in
set_option maxHeartbeats 4000000 in
theorem word_LowerOf.calls (a0 : Int) (r : Int) (w : World) (h : word_LowerOf.f a0 = some r) :
  Calls Tryd.prog 17 #[.int .i32 a0] w fun e w' => e = .returned (.int .i32 r) ∧ Below w.heap.size w w' := by
 obtain rfl := Option.some.inj h
 by_cases h0 : a0 = 376
 ·have e : lowC a0 = 255 := by unfold lowC;rw [if_pos h0]
  rw [e,h0]
  go_enter Tryd.func17,Tryd.ntmps17
  go_wp2
  go_ret
  exact ⟨rfl,Below.refl _ _⟩
 ·have e : lowC a0 = lowTry a0 1 (lowTry a0 32 (lowTry a0 80 a0)) := by unfold lowC;rw [if_neg h0]
  rw [e]
  obtain ⟨G,hG⟩ : ∃ G,lowTry a0 1 (lowTry a0 32 (lowTry a0 80 a0)) = G := ⟨_,rfl⟩
  rw [hG]
  have hx0 : ∀ (x y z : Value) (W : World),(Instr.index 56 (.agg #[x,y,z]) (.int .i64 0)).run Tryd.prog W = .ok x W := fun x y z W => by kernel_rfl
  have hx1 : ∀ (x y z : Value) (W : World),(Instr.index 56 (.agg #[x,y,z]) (.int .i64 1)).run Tryd.prog W = .ok y W := fun x y z W => by kernel_rfl
  have hx2 : ∀ (x y z : Value) (W : World),(Instr.index 56 (.agg #[x,y,z]) (.int .i64 2)).run Tryd.prog W = .ok z W := fun x y z W => by kernel_rfl
  go_enter Tryd.func17,Tryd.ntmps17
  go_wp2
  rw [show (a0 == 376) = false by simp [h0]]
  go_loopw [9] (fun v wr => ∃ i : Int,v = .int .i64 i ∧ Hid ((i = 0 ∧ lowTry a0 1 (lowTry a0 32 (lowTry a0 80 a0)) = G) ∨ (i = 1 ∧ lowTry a0 32 (lowTry a0 80 a0) = G) ∨ (i = 2 ∧ lowTry a0 80 a0 = G) ∨ (i = 3 ∧ a0 = G)) ∧ Below w.heap.size w wr)
   (fun v _ => (3 - intOf v).toNat)
  case atStart => exact ⟨0,rfl,Lib.hid (.inl ⟨rfl,hG⟩),Below.refl _ _⟩
  case round =>
   obtain ⟨i,rfl,hI,hb⟩ := hrel
   rcases hI.out with ⟨rfl,hi⟩ | ⟨rfl,hi⟩ | ⟨rfl,hi⟩ | ⟨rfl,hi⟩
   ·clear hI
    by_cases c1 : 0 < a0
    ·by_cases c2 : a0 < 1280
     ·have hw : IntKind.i32.wrap (a0 + 1) = a0 + 1 := (i32_w _).trans (by unfold wrap32;omega)
      by_cases c3 : upC (a0 + 1) = a0
      ·have hn : a0 + 1 = G := by rw [← hi];unfold lowTry;rw [if_pos ⟨c1,c2,c3⟩]
       subst hn
       clear hi hG
       go_wp2_with (go_at_call 15;refine (word_UpperOf.calls 7 (a0 + 1) (upC (a0 + 1)) _ (upper7 (a0 + 1))).mono ?_;rintro e w1 ⟨rfl,q,rfl⟩)
       go_ret
       exact ⟨rfl,pw_below_drewN hb _⟩
      ·have hn : Hid ((lowTry a0 32 (lowTry a0 80 a0)) = G) := Lib.hid (by rw [← hi];conv => rhs;rw [lowTry.eq_def];rw [if_neg (fun h => c3 h.2.2)])
       clear hi hG
       go_wp2_with (go_at_call 15;refine (word_UpperOf.calls 7 (a0 + 1) (upC (a0 + 1)) _ (upper7 (a0 + 1))).mono ?_;rintro e w1 ⟨rfl,q,rfl⟩)
       go_roundw
       case rel => exact ⟨1,rfl,Lib.hid ((.inr (.inl ⟨rfl,hn.out⟩))),pw_below_drewN hb _⟩
       case measure => simp [intOf]
     ·have hn : Hid ((lowTry a0 32 (lowTry a0 80 a0)) = G) := Lib.hid (by rw [← hi];conv => rhs;rw [lowTry.eq_def];rw [if_neg (fun h => c2 h.2.1)])
      clear hi hG
      go_wp2_with (fail)
      go_roundw
      case rel => exact ⟨1,rfl,Lib.hid ((.inr (.inl ⟨rfl,hn.out⟩))),hb⟩
      case measure => simp [intOf]
    ·have hn : Hid ((lowTry a0 32 (lowTry a0 80 a0)) = G) := Lib.hid (by rw [← hi];conv => rhs;rw [lowTry.eq_def];rw [if_neg (fun h => c1 h.1)])
     clear hi hG
     go_wp2_with (fail)
     go_roundw
     case rel => exact ⟨1,rfl,Lib.hid ((.inr (.inl ⟨rfl,hn.out⟩))),hb⟩
     case measure => simp [intOf]
   ·clear hI
    by_cases c1 : 0 < a0
    ·by_cases c2 : a0 < 1280
     ·have hw : IntKind.i32.wrap (a0 + 32) = a0 + 32 := (i32_w _).trans (by unfold wrap32;omega)
      by_cases c3 : upC (a0 + 32) = a0
      ·have hn : a0 + 32 = G := by rw [← hi];unfold lowTry;rw [if_pos ⟨c1,c2,c3⟩]
       subst hn
       clear hi hG
       go_wp2_with (go_at_call 15;refine (word_UpperOf.calls 7 (a0 + 32) (upC (a0 + 32)) _ (upper7 (a0 + 32))).mono ?_;rintro e w1 ⟨rfl,q,rfl⟩)
       go_ret
       exact ⟨rfl,pw_below_drewN hb _⟩
      ·have hn : Hid ((lowTry a0 80 a0) = G) := Lib.hid (by rw [← hi];conv => rhs;rw [lowTry.eq_def];rw [if_neg (fun h => c3 h.2.2)])
       clear hi hG
       go_wp2_with (go_at_call 15;refine (word_UpperOf.calls 7 (a0 + 32) (upC (a0 + 32)) _ (upper7 (a0 + 32))).mono ?_;rintro e w1 ⟨rfl,q,rfl⟩)
       go_roundw
       case rel => exact ⟨2,rfl,Lib.hid ((.inr (.inr (.inl ⟨rfl,hn.out⟩)))),pw_below_drewN hb _⟩
       case measure => simp [intOf]
     ·have hn : Hid ((lowTry a0 80 a0) = G) := Lib.hid (by rw [← hi];conv => rhs;rw [lowTry.eq_def];rw [if_neg (fun h => c2 h.2.1)])
      clear hi hG
      go_wp2_with (fail)
      go_roundw
      case rel => exact ⟨2,rfl,Lib.hid ((.inr (.inr (.inl ⟨rfl,hn.out⟩)))),hb⟩
      case measure => simp [intOf]
    ·have hn : Hid ((lowTry a0 80 a0) = G) := Lib.hid (by rw [← hi];conv => rhs;rw [lowTry.eq_def];rw [if_neg (fun h => c1 h.1)])
     clear hi hG
     go_wp2_with (fail)
     go_roundw
     case rel => exact ⟨2,rfl,Lib.hid ((.inr (.inr (.inl ⟨rfl,hn.out⟩)))),hb⟩
     case measure => simp [intOf]
   ·clear hI
    by_cases c1 : 0 < a0
    ·by_cases c2 : a0 < 1280
     ·have hw : IntKind.i32.wrap (a0 + 80) = a0 + 80 := (i32_w _).trans (by unfold wrap32;omega)
      by_cases c3 : upC (a0 + 80) = a0
      ·have hn : a0 + 80 = G := by rw [← hi];unfold lowTry;rw [if_pos ⟨c1,c2,c3⟩]
       subst hn
       clear hi hG
       go_wp2_with (go_at_call 15;refine (word_UpperOf.calls 7 (a0 + 80) (upC (a0 + 80)) _ (upper7 (a0 + 80))).mono ?_;rintro e w1 ⟨rfl,q,rfl⟩)
       go_ret
       exact ⟨rfl,pw_below_drewN hb _⟩
      ·have hn : Hid (a0 = G) := Lib.hid (by rw [← hi];conv => rhs;rw [lowTry.eq_def];rw [if_neg (fun h => c3 h.2.2)])
       clear hi hG
       go_wp2_with (go_at_call 15;refine (word_UpperOf.calls 7 (a0 + 80) (upC (a0 + 80)) _ (upper7 (a0 + 80))).mono ?_;rintro e w1 ⟨rfl,q,rfl⟩)
       go_roundw
       case rel => exact ⟨3,rfl,Lib.hid ((.inr (.inr (.inr ⟨rfl,hn.out⟩)))),pw_below_drewN hb _⟩
       case measure => simp [intOf]
     ·have hn : Hid (a0 = G) := Lib.hid (by rw [← hi];conv => rhs;rw [lowTry.eq_def];rw [if_neg (fun h => c2 h.2.1)])
      clear hi hG
      go_wp2_with (fail)
      go_roundw
      case rel => exact ⟨3,rfl,Lib.hid ((.inr (.inr (.inr ⟨rfl,hn.out⟩)))),hb⟩
      case measure => simp [intOf]
    ·have hn : Hid (a0 = G) := Lib.hid (by rw [← hi];conv => rhs;rw [lowTry.eq_def];rw [if_neg (fun h => c1 h.1)])
     clear hi hG
     go_wp2_with (fail)
     go_roundw
     case rel => exact ⟨3,rfl,Lib.hid ((.inr (.inr (.inr ⟨rfl,hn.out⟩)))),hb⟩
     case measure => simp [intOf]
   ·subst hi
    clear hI hG
    go_wp2
    go_ret
    exact ⟨rfl,hb⟩
end Go.Proofs.YtkficbgnjpekaaaDoor.U
end
section
namespace Go.Proofs.YtkficbgnjpekaaaDoor.Pu
open Go Go.RowKit Go.Proofs.YtkficbgnjpekaaaDoor.Mu Go.Proofs.YtkficbgnjpekaaaDoor.U Go.Proofs.YtkficbgnjpekaaaDoorW.PrintWords Go.Proofs.YtkficbgnjpekaaaDoorW.PrintLast Go.Proofs.YtkficbgnjpekaaaDoorW.PrintMore
theorem bt_byt (t : ByteArray) (i : Nat) (h : i < t.size) : bt t i = (byt t i : Int) := by
 unfold bt byt
 rw [dif_pos (by simpa using h)]
 simp only [Int.toNat_natCast]
 rw [get!_eq,List.getD_eq_getElem?_getD,List.getElem?_eq_getElem (by rw [← Lib.size_eq];exact h)]
 rfl
theorem lead_ans (b : Nat) : Ev (fun k => bodkinref01_lead.f k (b : Int)) (if b < 128 then ((b : Int),0) else if b < 192 then (0,-1) else if b < 224 then ((b : Int) - 192,1) else if b < 240 then ((b : Int) - 224,2) else if b < 248 then ((b : Int) - 240,3) else (0,-1)) := by
 unfold bodkinref01_lead.f
 by_cases h1 : b < 128
 ·rw [if_pos h1];exact ev_pos (by omega) (ev_now (by rw [w32 (by omega) (by omega)]))
 rw [if_neg h1]
 refine ev_neg (by omega) ?_
 have hj1 : ∀ c,Ev (fun k => bodkinref01_lead.j0 k (b : Int) c) (if c = true then (wrap32 (wrap32 (b : Int) - 192),1) else if 224 ≤ b then (if b < 240 then (wrap32 (wrap32 (b : Int) - 224),2) else if b < 248 then (wrap32 (wrap32 (b : Int) - 240),3) else (0,-1)) else (0,-1)) := by
  intro c
  refine Ev.step (fun k => bodkinref01_lead.j0.eq_2 ..) ?_
  cases c
  ·refine ev_neg (by simp) ?_
   rw [if_neg (by simp)]
   by_cases h3 : 224 ≤ b
   ·rw [if_pos h3]
    refine ev_pos (by omega) (Ev.step (fun k => bodkinref01_lead.j1.eq_2 ..) ?_)
    by_cases h4 : b < 240
    ·rw [if_pos h4];exact ev_pos (by rw [decide_eq_true_eq];omega) (Ev.now _)
    ·rw [if_neg h4];refine ev_neg (by rw [decide_eq_true_eq];omega) (ev_pos (by omega) ?_)
     by_cases h5 : b < 248
     ·rw [if_pos h5];exact ev_pos (by omega) (Ev.now _)
     ·rw [if_neg h5];exact ev_neg (by omega) (Ev.now _)
   ·rw [if_neg h3]
    exact ev_neg (by omega) (Ev.step (fun k => bodkinref01_lead.j1.eq_2 ..) (ev_neg (by simp) (ev_neg (by omega) (Ev.now _))))
  ·exact ev_pos rfl (Ev.now _)
 by_cases h2 : b < 192
 ·rw [if_pos h2]
  refine ev_neg (by omega) ?_
  have := hj1 false
  rwa [if_neg (by simp),if_neg (by omega)] at this
 ·rw [if_neg h2]
  refine ev_pos (by omega) ?_
  have := hj1 (decide ((b : Int) < 224))
  by_cases h3 : b < 224
  ·rw [if_pos (by simp;omega),w32 (x := (b : Int)) (by omega) (by omega),w32 (by omega) (by omega)] at this
   rwa [if_pos h3]
  ·rw [if_neg (by simp;omega),if_pos (by omega)] at this
   rw [if_neg h3]
   by_cases h4 : b < 240
   ·rw [if_pos h4,w32 (x := (b : Int)) (by omega) (by omega),w32 (by omega) (by omega)] at this;rwa [if_pos h4]
   ·rw [if_neg h4] at this;rw [if_neg h4]
    by_cases h5 : b < 248
    ·rw [if_pos h5,w32 (x := (b : Int)) (by omega) (by omega),w32 (by omega) (by omega)] at this;rwa [if_pos h5]
    ·rw [if_neg h5] at this;rwa [if_neg h5]
section
variable (t : ByteArray) (ht : t.size ≤ 1099511627776)
include ht
theorem begins_go (c : Nat) (n i : Nat) (hi : i ≤ n) (hs : i < t.size) (hb : 128 ≤ byt t i) (hb2 : byt t i ≤ 191) (hc : c < 100000) {v : Int} (h : Ev (fun k => bodkinref01_begins.l0 k t ((c * 64 + byt t i % 64 : Nat) : Int) n ((i + 1 : Nat) : Int)) v) : Ev (fun k => bodkinref01_begins.l0 k t c n i) v := by
 refine Ev.step (fun k => bodkinref01_begins.l0.eq_2 ..) (ev_pos (by omega) (ev_pos (by omega) (ev_pos (by omega) (ev_neg ?_ (ev_neg ?_ ?_)))))
 ·rw [bt_byt t i hs];omega
 ·rw [bt_byt t i hs];omega
 ·rw [bt_byt t i hs,w64 (by omega) (by omega)]
  have e : wrap32 (wrap32 (wrap32 ((c : Int) * 64) + wrap32 (byt t i : Int)) - 128) = ((c * 64 + byt t i % 64 : Nat) : Int) := by
   rw [w32 (x := (c : Int) * 64) (by omega) (by omega),w32 (x := (byt t i : Int)) (by omega) (by omega),w32 (x := (c : Int) * 64 + (byt t i : Int)) (by omega) (by omega),w32 (by omega) (by omega)]
   omega
  rw [e];exact h
omit ht in
theorem begins_bad (c : Int) (n i : Nat) (hi : i ≤ n) (hs : i < t.size) (hb : byt t i < 128 ∨ 191 < byt t i) : Ev (fun k => bodkinref01_begins.l0 k t c n i) (-1) := by
 refine Ev.step (fun k => bodkinref01_begins.l0.eq_2 ..) (ev_pos (by omega) (ev_pos (by omega) (ev_pos (by omega) ?_)))
 rw [bt_byt t i hs]
 by_cases h : byt t i < 128
 ·exact ev_pos (by omega) (Ev.now _)
 ·exact ev_neg (by omega) (ev_pos (by omega) (Ev.now _))
omit ht
theorem scalar_ans (c : Int) : bodkinref01_scalar.f c = some (decide (0 ≤ c ∧ c ≤ 1114111 ∧ (c < 55296 ∨ 57343 < c))) := by
 unfold bodkinref01_scalar.f
 split
 ·split
  ·split
   ·rw [decide_eq_true (by omega)]
   ·congr 1;rw [decide_eq_decide];omega
  ·rw [decide_eq_false (by omega)]
 ·rw [decide_eq_false (by omega)]
theorem size_ans (c : Int) : bodkinref01_size.f c = some (if c < 128 then 1 else if c < 2048 then 2 else if c < 65536 then 3 else 4) := by
 unfold bodkinref01_size.f;split
 ·rfl
 ·split
  ·rfl
  ·split <;> rfl
theorem begins_end (c : Int) (n : Nat) (hn : n ≤ 3) : Ev (fun k => bodkinref01_begins.l0 k t c n ((n + 1 : Nat) : Int)) (if (0 ≤ c ∧ c ≤ 1114111 ∧ (c < 55296 ∨ 57343 < c)) ∧ (if c < 128 then (1 : Int) else if c < 2048 then 2 else if c < 65536 then 3 else 4) = n + 1 then c else -1) := by
 refine Ev.step (fun k => bodkinref01_begins.l0.eq_2 ..) (ev_neg (by omega) (ev_some (scalar_ans c) ?_))
 by_cases hsc : 0 ≤ c ∧ c ≤ 1114111 ∧ (c < 55296 ∨ 57343 < c)
 ·refine ev_pos (by rw [decide_eq_true_eq];exact hsc) (ev_some (size_ans c) ?_)
  rw [w64 (by omega) (by omega)]
  by_cases hz : (if c < 128 then (1 : Int) else if c < 2048 then 2 else if c < 65536 then 3 else 4) = n + 1
  ·exact ev_pos hz (ev_now (if_pos ⟨hsc,hz⟩).symm)
  ·exact ev_neg hz (ev_now (if_neg (fun h => hz h.2)).symm)
 ·exact ev_neg (by rw [decide_eq_true_eq];exact hsc) (ev_now (if_neg (fun h => hsc h.1)).symm)
theorem begins_end_good (c n : Nat) (hn : n ≤ 3) (h : c ≤ 1114111 ∧ (c < 55296 ∨ 57343 < c)) (hz : n = 0 ∧ c < 128 ∨ n = 1 ∧ 128 ≤ c ∧ c < 2048 ∨ n = 2 ∧ 2048 ≤ c ∧ c < 65536 ∨ n = 3 ∧ 65536 ≤ c) : Ev (fun k => bodkinref01_begins.l0 k t c n ((n + 1 : Nat) : Int)) (c : Int) := by
 have := begins_end t c n hn
 rwa [if_pos] at this
 refine ⟨by omega,?_⟩
 split
 ·omega
 ·split
  ·omega
  ·split <;> omega
theorem begins_end_bad (c n : Nat) (hn : n ≤ 3) (h : ¬ (c ≤ 1114111 ∧ (c < 55296 ∨ 57343 < c) ∧ (n = 0 ∧ c < 128 ∨ n = 1 ∧ 128 ≤ c ∧ c < 2048 ∨ n = 2 ∧ 2048 ≤ c ∧ c < 65536 ∨ n = 3 ∧ 65536 ≤ c))) : Ev (fun k => bodkinref01_begins.l0 k t c n ((n + 1 : Nat) : Int)) (-1) := by
 have := begins_end t c n hn
 rwa [if_neg] at this
 rintro ⟨h1,h2⟩
 apply h
 refine ⟨by omega,by omega,?_⟩
 split at h2
 ·omega
 ·split at h2
  ·omega
  ·split at h2 <;> omega
include ht
theorem begins_ans (h0 : 0 < t.size) : Ev (fun k => bodkinref01_begins.f k t) (uC t 0) := by
 have hlt := byt_lt t 0
 have hl := lead_ans (byt t 0)
 have hcs := uC_cases t 0
 simp only [Nat.zero_add,Nat.sub_zero] at hcs
 unfold bodkinref01_begins.f
 refine ev_pos (by omega) ?_
 have hb0 : bt t 0 = (byt t 0 : Int) := bt_byt t 0 h0
 rw [hb0]
 refine Ev.bind hl ?_
 by_cases h1 : byt t 0 < 128
 ·rw [if_pos h1]
  refine ev_neg (by simp) (Ev.step (fun k => bodkinref01_begins.j0.eq_2 ..) (ev_neg (by simp only [decide_eq_true_eq];omega) ?_))
  have hu : uC t 0 = (byt t 0 : Int) := by rcases hcs with h | h | h | h | h <;> omega
  rw [hu]
  exact begins_end_good t (byt t 0) 0 (by omega) (by omega) (by omega)
 rw [if_neg h1]
 have hneg : (¬ (192 ≤ byt t 0 ∧ byt t 0 < 224 ∧ 1 < t.size ∧ byt t 1 / 64 = 2 ∧ 128 ≤ byt t 0 % 32 * 64 + byt t 1 % 64)) →
  (¬ (224 ≤ byt t 0 ∧ byt t 0 < 240 ∧ 2 < t.size ∧ byt t 1 / 64 = 2 ∧ byt t 2 / 64 = 2 ∧ 2048 ≤ byt t 0 % 16 * 4096 + byt t 1 % 64 * 64 + byt t 2 % 64 ∧ (byt t 0 % 16 * 4096 + byt t 1 % 64 * 64 + byt t 2 % 64 < 55296 ∨ 57344 ≤ byt t 0 % 16 * 4096 + byt t 1 % 64 * 64 + byt t 2 % 64))) →
  (¬ (240 ≤ byt t 0 ∧ byt t 0 < 248 ∧ 3 < t.size ∧ byt t 1 / 64 = 2 ∧ byt t 2 / 64 = 2 ∧ byt t 3 / 64 = 2 ∧ 65536 ≤ byt t 0 % 8 * 262144 + byt t 1 % 64 * 4096 + byt t 2 % 64 * 64 + byt t 3 % 64 ∧ byt t 0 % 8 * 262144 + byt t 1 % 64 * 4096 + byt t 2 % 64 * 64 + byt t 3 % 64 ≤ 1114111)) → uC t 0 = -1 := by
  intro g2 g3 g4
  rcases hcs with h | h | h | h | h
  ·omega
  ·exact h.2.1
  ·exact absurd ⟨h.1,h.2.1,h.2.2.1,h.2.2.2.1,h.2.2.2.2.1⟩ g2
  ·exact absurd ⟨h.1,h.2.1,h.2.2.1,h.2.2.2.1,h.2.2.2.2.1,h.2.2.2.2.2.1,h.2.2.2.2.2.2.1⟩ g3
  ·exact absurd ⟨h.1,h.2.1,h.2.2.1,h.2.2.2.1,h.2.2.2.2.1,h.2.2.2.2.2.1,h.2.2.2.2.2.2.1,h.2.2.2.2.2.2.2.1⟩ g4
 by_cases h2 : byt t 0 < 192
 ·rw [if_pos h2,hneg (by omega) (by omega) (by omega)]
  exact ev_pos (by simp) (Ev.step (fun k => bodkinref01_begins.j0.eq_2 ..) (ev_pos rfl (Ev.now _)))
 rw [if_neg h2]
 by_cases h3 : byt t 0 < 224
 ·rw [if_pos h3]
  refine ev_neg (by simp) (Ev.step (fun k => bodkinref01_begins.j0.eq_2 ..) ?_)
  by_cases hs : t.size ≤ 1
  ·rw [hneg (by omega) (by omega) (by omega)];exact ev_pos (by simp;omega) (Ev.now _)
  refine ev_neg (by simp;omega) ?_
  rw [show (byt t 0 : Int) - 192 = ((byt t 0 - 192 : Nat) : Int) by omega]
  have k1 := byt_lt t 1
  by_cases hb : byt t 1 < 128 ∨ 191 < byt t 1
  ·rw [hneg (by omega) (by omega) (by omega)];exact begins_bad t _ 1 1 (by omega) (by omega) hb
  refine begins_go t ht _ 1 1 (by omega) (by omega) (by omega) (by omega) (by omega) ?_
  by_cases hg : 128 ≤ byt t 0 % 32 * 64 + byt t 1 % 64
  ·have hu : uC t 0 = (((byt t 0 - 192) * 64 + byt t 1 % 64 : Nat) : Int) := by
    have hd := dec_eq t 0
    rw [dec_two _ _ _ _ _ (by omega) (by omega) (by omega) (show byt t (0 + 1) / 64 = 2 by rw [Nat.zero_add];omega) (by rw [Nat.zero_add];omega)] at hd
    have := (uC_of t 0 _ _ hd (by omega)).1
    rw [this,Nat.zero_add];omega
   rw [hu]
   exact begins_end_good t _ 1 (by omega) (by omega) (by omega)
  ·rw [hneg (by omega) (by omega) (by omega)]
   exact begins_end_bad t _ 1 (by omega) (by omega)
 rw [if_neg h3]
 by_cases h4 : byt t 0 < 240
 ·rw [if_pos h4]
  refine ev_neg (by simp) (Ev.step (fun k => bodkinref01_begins.j0.eq_2 ..) ?_)
  by_cases hs : t.size ≤ 2
  ·rw [hneg (by omega) (by omega) (by omega)];exact ev_pos (by simp;omega) (Ev.now _)
  refine ev_neg (by simp;omega) ?_
  rw [show (byt t 0 : Int) - 224 = ((byt t 0 - 224 : Nat) : Int) by omega]
  have k1 := byt_lt t 1
  have k2 := byt_lt t 2
  by_cases hb : byt t 1 < 128 ∨ 191 < byt t 1
  ·rw [hneg (by omega) (by omega) (by omega)];exact begins_bad t _ 2 1 (by omega) (by omega) hb
  refine begins_go t ht _ 2 1 (by omega) (by omega) (by omega) (by omega) (by omega) ?_
  by_cases hb' : byt t 2 < 128 ∨ 191 < byt t 2
  ·rw [hneg (by omega) (by omega) (by omega)];exact begins_bad t _ 2 2 (by omega) (by omega) hb'
  refine begins_go t ht _ 2 2 (by omega) (by omega) (by omega) (by omega) (by omega) ?_
  by_cases hg : 2048 ≤ byt t 0 % 16 * 4096 + byt t 1 % 64 * 64 + byt t 2 % 64 ∧ (byt t 0 % 16 * 4096 + byt t 1 % 64 * 64 + byt t 2 % 64 < 55296 ∨ 57344 ≤ byt t 0 % 16 * 4096 + byt t 1 % 64 * 64 + byt t 2 % 64)
  ·have hu : uC t 0 = ((((byt t 0 - 224) * 64 + byt t 1 % 64) * 64 + byt t 2 % 64 : Nat) : Int) := by
    have hd := dec_eq t 0
    simp only [Nat.zero_add] at hd
    rw [dec_three _ _ _ _ _ (by omega) (by omega) (by omega) (by omega) (by omega) (by omega) (by omega)] at hd
    have := (uC_of t 0 _ _ hd (by omega)).1
    rw [this];omega
   rw [hu]
   exact begins_end_good t _ 2 (by omega) (by omega) (by omega)
  ·rw [hneg (by omega) (by omega) (by omega)]
   exact begins_end_bad t _ 2 (by omega) (by omega)
 rw [if_neg h4]
 by_cases h5 : byt t 0 < 248
 ·rw [if_pos h5]
  refine ev_neg (by simp) (Ev.step (fun k => bodkinref01_begins.j0.eq_2 ..) ?_)
  by_cases hs : t.size ≤ 3
  ·rw [hneg (by omega) (by omega) (by omega)];exact ev_pos (by simp;omega) (Ev.now _)
  refine ev_neg (by simp;omega) ?_
  rw [show (byt t 0 : Int) - 240 = ((byt t 0 - 240 : Nat) : Int) by omega]
  have k1 := byt_lt t 1
  have k2 := byt_lt t 2
  have k3 := byt_lt t 3
  by_cases hb : byt t 1 < 128 ∨ 191 < byt t 1
  ·rw [hneg (by omega) (by omega) (by omega)];exact begins_bad t _ 3 1 (by omega) (by omega) hb
  refine begins_go t ht _ 3 1 (by omega) (by omega) (by omega) (by omega) (by omega) ?_
  by_cases hb' : byt t 2 < 128 ∨ 191 < byt t 2
  ·rw [hneg (by omega) (by omega) (by omega)];exact begins_bad t _ 3 2 (by omega) (by omega) hb'
  refine begins_go t ht _ 3 2 (by omega) (by omega) (by omega) (by omega) (by omega) ?_
  by_cases hb'' : byt t 3 < 128 ∨ 191 < byt t 3
  ·rw [hneg (by omega) (by omega) (by omega)];exact begins_bad t _ 3 3 (by omega) (by omega) hb''
  refine begins_go t ht _ 3 3 (by omega) (by omega) (by omega) (by omega) (by omega) ?_
  by_cases hg : 65536 ≤ byt t 0 % 8 * 262144 + byt t 1 % 64 * 4096 + byt t 2 % 64 * 64 + byt t 3 % 64 ∧ byt t 0 % 8 * 262144 + byt t 1 % 64 * 4096 + byt t 2 % 64 * 64 + byt t 3 % 64 ≤ 1114111
  ·have hu : uC t 0 = (((((byt t 0 - 240) * 64 + byt t 1 % 64) * 64 + byt t 2 % 64) * 64 + byt t 3 % 64 : Nat) : Int) := by
    have hd := dec_eq t 0
    simp only [Nat.zero_add] at hd
    rw [dec_four _ _ _ _ _ (by omega) (by omega) (by omega) (by omega) (by omega) (by omega) (by omega) (by omega)] at hd
    have := (uC_of t 0 _ _ hd (by omega)).1
    rw [this];omega
   rw [hu]
   exact begins_end_good t _ 3 (by omega) (by omega) (by omega)
  ·rw [hneg (by omega) (by omega) (by omega)]
   exact begins_end_bad t _ 3 (by omega) (by omega)
 ·rw [if_neg h5,hneg (by omega) (by omega) (by omega)]
  exact ev_pos (by simp) (Ev.step (fun k => bodkinref01_begins.j0.eq_2 ..) (ev_pos rfl (Ev.now _)))
end
theorem size_unit (s : ByteArray) (i : Nat) (h : 0 ≤ uC s i) : bodkinref01_size.f (uC s i) = some (uN s i : Int) := by
 rw [size_ans]
 have := byt_lt s i;have := byt_lt s (i + 1);have := byt_lt s (i + 2);have := byt_lt s (i + 3)
 rcases uC_cases s i with h1 | h1 | h1 | h1 | h1
 ·rw [if_pos (by omega)];simp [h1.2.2]
 ·omega
 ·rw [if_neg (by omega),if_pos (by omega)];simp [h1.2.2.2.2.2.2]
 ·rw [if_neg (by omega),if_neg (by omega),if_pos (by omega)];simp [h1.2.2.2.2.2.2.2.2]
 ·rw [if_neg (by omega),if_neg (by omega),if_neg (by omega)];simp [h1.2.2.2.2.2.2.2.2.2]
theorem ref_units_loop (s : ByteArray) (hs : s.size ≤ 1099511627776) : ∀ n x : Nat,∀ us : List S42,s.size - x ≤ n → us.length + n ≤ 2199023255552 → Ev (fun k => bodkinref01_Units.l0 k s us x) (us ++ (walkL s n x).map (·.2)) := by
 intro n
 induction n with
 | zero => intro x us hn hl;exact Ev.step (fun k => bodkinref01_Units.l0.eq_2 ..) (ev_neg (by omega) (ev_now (by simp [walkL])))
 | succ n ih =>
  intro x us hn hl
  by_cases hx : x < s.size
  ·have h1 := uN_pos s x
   have h4 := uN_le4 s x
   have hb := begins_ans (s.extract x s.size) (by rw [size_extract _ _ _ (Nat.le_refl _)];omega) (by rw [size_extract _ _ _ (Nat.le_refl _)];omega)
   rw [uC_extract s x hx] at hb
   have hgo := ih (x + uN s x) (us ++ [uAt s x]) (by omega) (by simp;omega)
   have e : us ++ (walkL s (n + 1) x).map (·.2) = (us ++ [uAt s x]) ++ (walkL s n (x + uN s x)).map (·.2) := by
    rw [walkL,if_pos hx];simp
   rw [e]
   refine Ev.step (fun k => bodkinref01_Units.l0.eq_2 ..) (ev_pos (by omega) (ev_pos (by omega) (ev_pos (by omega) (Ev.bind hb ?_))))
   by_cases hc : 0 ≤ uC s x
   ·refine ev_pos hc (ev_some (size_unit s x hc) (ev_pos (by omega) ?_))
    rw [w64 (by omega) (by omega)];exact hgo
   ·have hr : uC s x = -1 ∧ uN s x = 1 := by have := uC_range s x;omega
    refine ev_neg hc (ev_pos (by omega) ?_)
    rw [w64 (by omega) (by omega)]
    have e3 : uAt s x = ⟨uC s x,1⟩ := by unfold uAt;rw [hr.2];rfl
    rw [hr.2,e3] at hgo
    rw [hr.2,e3]
    exact hgo
  ·refine Ev.step (fun k => bodkinref01_Units.l0.eq_2 ..) (ev_neg (by omega) (ev_now ?_))
   rw [walkL,if_neg hx];simp
theorem ref_units_ans (s : ByteArray) (hs : s.size ≤ 1099511627776) : Ev (fun k => bodkinref01_Units.f k s) (unitsL s) := by
 have := ref_units_loop s hs s.size 0 [] (by omega) (by simp;omega)
 exact this
theorem drop_cons {α : Type} {l t : List α} {b d : α} {i : Nat} (h : l.drop i = b :: t) : i < l.length ∧ l.getD i d = b ∧ l.drop (i + 1) = t := by
 have h1 : i < l.length := by
  rcases Nat.lt_or_ge i l.length with h2 | h2
  ·exact h2
  ·rw [List.drop_eq_nil_of_le h2] at h;cases h
 rw [List.drop_eq_getElem_cons h1] at h
 injection h with h2 h3
 exact ⟨h1,by rw [List.getD_eq_getElem?_getD,List.getElem?_eq_getElem h1];exact h2,h3⟩
theorem drop_nil_le {α : Type} {l : List α} {i : Nat} (h : l.drop i = []) : l.length ≤ i := List.drop_eq_nil_iff.1 h
theorem ref_at_loop (s : ByteArray) (hs : s.size ≤ 1099511627776) (a : Int) : ∀ (n x i : Nat),s.size - x ≤ n → Bd s x → (unitsL s).drop i = (walkL s n x).map (·.2) → (unitsL s).length ≤ 1099511627776 → Ev (fun k => bodkinref01_At.l0 k a (unitsL s) x i) (if (x : Int) ≤ a then atA s a else (0,0,false)) := by
 have hfar : ∀ {x : Nat},s.size ≤ x → (if (x : Int) ≤ a then atA s a else (0,0,false)) = (0,0,false) := by
  intro x hx
  split
  ·unfold atA;rw [if_neg (fun h => by omega)]
  ·rfl
 intro n
 induction n with
 | zero =>
  intro x i hn hb hd hl
  have := drop_nil_le (hd.trans (by simp [walkL]))
  exact Ev.step (fun k => bodkinref01_At.l0.eq_2 ..) (ev_neg (by omega) (ev_now (hfar (by omega)).symm))
 | succ n ih =>
  intro x i hn hb hd hl
  by_cases hx : x < s.size
  ·have h1 := uN_pos s x
   have h4 := uN_le4 s x
   have hnb := bd_next s x hb hx
   rw [walkL,if_pos hx] at hd
   obtain ⟨hi,hg,hd'⟩ := drop_cons (d := z42) hd
   have e : rd_T42 (unitsL s) i = uAt s x := by unfold rd_T42;rw [Int.toNat_natCast];exact hg
   have hgo := ih (x + uN s x) (i + 1) (by omega) hnb hd' hl
   refine Ev.step (fun k => bodkinref01_At.l0.eq_2 ..) (ev_pos (by omega) ?_)
   rw [e]
   by_cases hxa : (x : Int) = a
   ·refine ev_pos hxa (ev_pos (by omega) (ev_now ?_))
    rw [if_pos (by omega)]
    unfold atA
    have hbI : bdB s a = true := (bdB_iff s a).2 (hxa ▸ (bdI_nat s x).2 hb)
    rw [if_pos ⟨hbI,by omega⟩,← hxa,Int.toNat_natCast]
    rfl
   ·refine ev_neg hxa (ev_pos (by omega) ?_)
    have e2 : wrap64 ((x : Int) + (uAt s x).f1) = (x : Int) + (uN s x : Int) := w64 (by show _ ≤ (x : Int) + (uN s x : Int);omega) (by show (x : Int) + (uN s x : Int) < _;omega)
    rw [e2,w64 (by omega) (by omega)]
    have e3 : (if (x : Int) ≤ a then atA s a else (0,0,false)) = (if ((x + uN s x : Nat) : Int) ≤ a then atA s a else (0,0,false)) := by
     by_cases h5 : (x : Int) ≤ a
     ·rw [if_pos h5]
      split
      ·rfl
      ·unfold atA;rw [if_neg]
       rintro ⟨h6,_⟩
       exact not_in (x := x) (by omega) (by omega) ((bdB_iff s a).1 h6)
     ·rw [if_neg h5,if_neg (by omega)]
    rw [e3];exact hgo
  ·rw [walkL,if_neg hx] at hd
   have := drop_nil_le hd
   exact Ev.step (fun k => bodkinref01_At.l0.eq_2 ..) (ev_neg (by omega) (ev_now (hfar (by omega)).symm))
theorem ref_at_ans (s : ByteArray) (hs : s.size ≤ 1099511627776) (a : Int) : Ev (fun k => bodkinref01_At.f k s a) (atA s a) := by
 have hl := unitsL_length s
 have := Ev.bind (f := fun k t => bodkinref01_At.l0 k a t 0 0) (ref_units_ans s hs) (ref_at_loop s hs a s.size 0 0 (by omega) (bd_zero s) rfl (by omega))
 have e : (if ((0 : Nat) : Int) ≤ a then atA s a else (0,0,false)) = atA s a := by
  split
  ·rfl
  ·unfold atA;rw [if_neg]
   rintro ⟨h6,_⟩
   have := bdI_le ((bdB_iff s a).1 h6);omega
 rw [e] at this
 exact this
theorem rd_nat (B : List Int) (i : Nat) : rd B i = B.getD i 0 := by unfold rd;rw [Int.toNat_natCast]
end Go.Proofs.YtkficbgnjpekaaaDoor.Pu
end
section
namespace Go.Proofs.YtkficbgnjpekaaaDoor.Pu
open Go Go.RowKit Go.Proofs.YtkficbgnjpekaaaDoor.Mu Go.Proofs.YtkficbgnjpekaaaDoor.U Go.Proofs.YtkficbgnjpekaaaDoorW.PrintWords Go.Proofs.YtkficbgnjpekaaaDoorW.PrintLast Go.Proofs.YtkficbgnjpekaaaDoorW.PrintMore
theorem bits192 : ∀ m : Fin 32,Go.bits .or .u8 192 ((m.val : Nat) : Int) = 192 + (m.val : Int) := by decide
theorem bits224 : ∀ m : Fin 16,Go.bits .or .u8 224 ((m.val : Nat) : Int) = 224 + (m.val : Int) := by decide
theorem bits240 : ∀ m : Fin 8,Go.bits .or .u8 240 ((m.val : Nat) : Int) = 240 + (m.val : Int) := by decide
theorem or192 {x : Int} (h : 0 ≤ x) (h2 : x < 32) : Go.bits .or .u8 192 x = 192 + x := by
 have := bits192 ⟨x.toNat,by omega⟩
 rwa [show ((x.toNat : Nat) : Int) = x by omega] at this
theorem or224 {x : Int} (h : 0 ≤ x) (h2 : x < 16) : Go.bits .or .u8 224 x = 224 + x := by
 have := bits224 ⟨x.toNat,by omega⟩
 rwa [show ((x.toNat : Nat) : Int) = x by omega] at this
theorem or240 {x : Int} (h : 0 ≤ x) (h2 : x < 8) : Go.bits .or .u8 240 x = 240 + x := by
 have := bits240 ⟨x.toNat,by omega⟩
 rwa [show ((x.toNat : Nat) : Int) = x by omega] at this
def okC (c : Int) : Prop := 0 ≤ c ∧ c ≤ 1114111 ∧ (c < 55296 ∨ 57343 < c)
instance (c : Int) : Decidable (okC c) := by unfold okC;infer_instance
/-- The bytes of a character. -/
def encI (c : Int) : List Int :=
 if c < 128 then [c] else if c < 2048 then [192 + c / 64,128 + c % 64] else if c < 65536 then [224 + c / 4096,128 + c / 64 % 64,128 + c % 64]
 else [240 + c / 262144,128 + c / 4096 % 64,128 + c / 64 % 64,128 + c % 64]
def encO (c : Int) : List Int := if okC c then encI c else []
theorem encI_len (c : Int) : (encI c).length ≤ 4 := by unfold encI;split <;> (try split) <;> (try split) <;> simp
theorem encO_len (c : Int) : (encO c).length ≤ 4 := by unfold encO;split;exact encI_len c;simp
theorem encI_byte (c : Int) (h : okC c) : ∀ x ∈ encI c,0 ≤ x ∧ x < 256 := by
 unfold okC at h
 intro x hx
 unfold encI at hx
 split at hx
 ·simp at hx;omega
 ·split at hx
  ·simp at hx;omega
  ·split at hx
   ·simp at hx;omega
   ·simp at hx;omega
theorem valid_ans (c : Int) : Ev (fun k => utf8_ValidRune.f k c) (decide (okC c)) := by
 unfold utf8_ValidRune.f
 by_cases h0 : 0 ≤ c
 ·refine ev_pos h0 (Ev.step (fun k => utf8_ValidRune.j0.eq_2 ..) ?_)
  by_cases h1 : c < 55296
  ·exact ev_pos (by simpa using h1) (ev_now (by rw [decide_eq_true (show okC c by unfold okC;omega)]))
  ·refine ev_neg (by simpa using h1) ?_
   by_cases h2 : 57343 < c
   ·refine ev_pos h2 ?_
    by_cases h3 : c ≤ 1114111
    ·exact ev_pos h3 (ev_now (by rw [decide_eq_true (show okC c by unfold okC;omega)]))
    ·exact ev_neg h3 (ev_now (by rw [decide_eq_false (show ¬ okC c by unfold okC;omega)]))
   ·exact ev_neg h2 (ev_now (by rw [decide_eq_false (show ¬ okC c by unfold okC;omega)]))
 ·exact ev_neg h0 (Ev.step (fun k => utf8_ValidRune.j0.eq_2 ..) (ev_neg (by simp) (ev_neg (by omega) (ev_now (by rw [decide_eq_false (show ¬ okC c by unfold okC;omega)])))))
theorem append_ans (l : List Int) (hl : l.length ≤ 17592186044416) (c : Int) (h : okC c) : Ev (fun k => utf8_AppendRune.f k l c) (l ++ encI c) := by
 unfold okC at h
 have e : c % 4294967296 = c := by omega
 unfold utf8_AppendRune.f
 by_cases h1 : c < 128
 ·refine ev_pos (by omega) (ev_pos (by omega) (ev_now ?_))
  unfold encI;rw [if_pos h1,show c % 256 = c by omega]
 refine ev_neg (by omega) (Ev.bind (f := fun _ t => some t) (a := l ++ encI c) ?_ (Ev.now _))
 unfold utf8_appendRuneNonASCII.f
 rw [e]
 by_cases h2 : c < 2048
 ·refine ev_pos (by omega) (ev_some rfl (ev_pos (by simp;omega) (ev_now ?_)))
  unfold encI;rw [if_neg h1,if_pos h2,or192 (by omega) (by omega),show c / 64 % 256 = c / 64 by omega]
 refine ev_neg (by omega) ?_
 have hj3 : c < 65536 → ∀ b,b = true → Ev (fun k => utf8_appendRuneNonASCII.j0 k l c c b) (l ++ encI c) := by
  intro h3 b hb
  refine Ev.step (fun k => utf8_appendRuneNonASCII.j0.eq_2 ..) (ev_pos hb (ev_some rfl (ev_pos (by simp;omega) (ev_now ?_))))
  unfold encI;rw [if_neg h1,if_neg h2,if_pos h3,or224 (by omega) (by omega),show c / 4096 % 256 = c / 4096 by omega]
 by_cases h3 : c < 55296
 ·exact ev_pos h3 (hj3 (by omega) _ (by simpa using h3))
 refine ev_neg h3 (ev_pos (by omega) ?_)
 by_cases h4 : c < 65536
 ·exact hj3 h4 _ (by rw [decide_eq_true_eq];omega)
 ·refine Ev.step (fun k => utf8_appendRuneNonASCII.j0.eq_2 ..) (ev_neg (by rw [decide_eq_true_eq];omega) (ev_pos (by omega) (ev_pos (by omega) (ev_some rfl (ev_pos (by simp;omega) (ev_now ?_))))))
  unfold encI;rw [if_neg h1,if_neg h2,if_neg h4,or240 (by omega) (by omega),show c / 262144 % 256 = c / 262144 by omega]
theorem encode_loop (L : List Int) (hL : L.length ≤ 1099511627776) : ∀ (l : List Int) (i : Nat) (o : List Int),L.drop i = l → o.length + 4 * l.length ≤ 8796093022208 → Ev (fun k => unit_Encode.l0 k o L (L.length : Int) i) (strOfNums (o ++ l.flatMap encO)) := by
 intro l
 induction l with
 | nil => intro i o h _;have := drop_nil_le h;exact Ev.step (fun k => unit_Encode.l0.eq_2 ..) (ev_neg (by omega) (ev_now (by simp)))
 | cons c l ih =>
  intro i o h ho
  rw [List.length_cons] at ho
  obtain ⟨hi,hg,hd⟩ := drop_cons (d := 0) h
  have hv := valid_ans c
  have := encO_len c
  have hgo := ih (i + 1) (o ++ encO c) hd (by rw [List.length_append];omega)
  rw [List.append_assoc] at hgo
  rw [List.flatMap_cons]
  refine Ev.step (fun k => unit_Encode.l0.eq_2 ..) (ev_pos (by omega) (ev_pos (by omega) (ev_pos (by omega) ?_)))
  rw [rd_nat,hg,w64 (by omega) (by omega)]
  refine Ev.bind hv ?_
  by_cases hc : okC c
  ·refine ev_pos (by simpa using hc) (Ev.bind (append_ans o (by omega) c hc) ?_)
   rw [show encO c = encI c by unfold encO;rw [if_pos hc]] at hgo ⊢
   exact hgo
  ·refine ev_neg (by simpa using hc) ?_
   rw [show encO c = [] by unfold encO;rw [if_neg hc]] at hgo ⊢
   rw [List.nil_append] at hgo ⊢
   rw [List.append_nil] at hgo
   exact hgo
theorem encode_ans (l : List Int) (hl : l.length ≤ 1099511627776) : Ev (fun k => unit_Encode.f k l) (strOfNums (l.flatMap encO)) := encode_loop l hl l 0 [] rfl (by simp;omega)
theorem bytesOf_str (l : List Int) (h : ∀ x ∈ l,0 ≤ x ∧ x < 256) : bytesOf (strOfNums l) = l := by
 unfold bytesOf
 rw [strOfNums_data,List.map_map]
 conv => rhs;rw [← List.map_id l]
 apply List.map_congr_left
 intro x hx
 obtain ⟨h0,h1⟩ := h x hx
 show (((UInt8.ofNat x.toNat).toNat : Nat) : Int) = x
 rw [UInt8.toNat_ofNat']
 omega
theorem encoding_ans (c : Int) (h : okC c) : Ev (fun k => bodkinref01_encoding.f k c) (strOfNums (encI c)) := by
 unfold okC at h
 unfold bodkinref01_encoding.f
 refine ev_some (size_ans c) ?_
 by_cases h1 : c < 128
 ·rw [if_pos h1]
  refine ev_pos rfl (ev_now ?_)
  unfold encI;rw [if_pos h1,show c % 256 = c by omega]
 rw [if_neg h1]
 have hw : ∀ m : Int,0 ≤ m → m ≤ 1114111 → wrap32 (128 + Int.tmod m 64) % 256 = 128 + m % 64 := by
  intro m h0 h2
  rw [Int.tmod_eq_emod_of_nonneg h0,w32 (by omega) (by omega)];omega
 have hq : ∀ m : Int,0 ≤ m → m ≤ 1114111 → wrap32 (Int.tdiv m 64) = m / 64 := by
  intro m h0 h2
  rw [Int.tdiv_eq_ediv_of_nonneg h0,w32 (by omega) (by omega)]
 by_cases h2 : c < 2048
 ·rw [if_pos h2]
  refine ev_neg (by omega) (ev_pos (by omega) (ev_pos (by simp) ?_))
  rw [show wrap64 ((2 : Int) - 1) = 1 from (w64 (by omega) (by omega)).trans (by omega)]
  refine Ev.step (fun k => bodkinref01_encoding.l0.eq_2 ..) (ev_pos (by omega) (ev_pos (by omega) (ev_pos (by simp) ?_)))
  rw [hw c (by omega) (by omega),hq c (by omega) (by omega),show wrap64 ((1 : Int) - 1) = 0 from (w64 (by omega) (by omega)).trans (by omega)]
  refine Ev.step (fun k => bodkinref01_encoding.l0.eq_2 ..) (ev_neg (by omega) (ev_some rfl (ev_pos (by omega) (ev_pos (by decide) (ev_pos (by simp) (ev_now ?_))))))
  unfold encI;rw [if_neg h1,if_pos h2]
  have : wrap64 (rd [0,0,192,224,240] 2 + wrap64 (c / 64)) % 256 = 192 + c / 64 := by
   rw [w64 (x := c / 64) (by omega) (by omega)]
   show wrap64 (192 + c / 64) % 256 = _
   rw [w64 (by omega) (by omega)];omega
  rw [this];rfl
 rw [if_neg h2]
 by_cases h3 : c < 65536
 ·rw [if_pos h3]
  refine ev_neg (by omega) (ev_pos (by omega) (ev_pos (by simp) ?_))
  rw [show wrap64 ((3 : Int) - 1) = 2 from (w64 (by omega) (by omega)).trans (by omega)]
  refine Ev.step (fun k => bodkinref01_encoding.l0.eq_2 ..) (ev_pos (by omega) (ev_pos (by omega) (ev_pos (by simp) ?_)))
  rw [hw c (by omega) (by omega),hq c (by omega) (by omega),show wrap64 ((2 : Int) - 1) = 1 from (w64 (by omega) (by omega)).trans (by omega)]
  refine Ev.step (fun k => bodkinref01_encoding.l0.eq_2 ..) (ev_pos (by omega) (ev_pos (by omega) (ev_pos (by simp) ?_)))
  rw [hw (c / 64) (by omega) (by omega),hq (c / 64) (by omega) (by omega),show wrap64 ((1 : Int) - 1) = 0 from (w64 (by omega) (by omega)).trans (by omega)]
  refine Ev.step (fun k => bodkinref01_encoding.l0.eq_2 ..) (ev_neg (by omega) (ev_some rfl (ev_pos (by omega) (ev_pos (by decide) (ev_pos (by simp) (ev_now ?_))))))
  unfold encI;rw [if_neg h1,if_neg h2,if_pos h3]
  have : wrap64 (rd [0,0,192,224,240] 3 + wrap64 (c / 64 / 64)) % 256 = 224 + c / 4096 := by
   rw [w64 (x := c / 64 / 64) (by omega) (by omega)]
   show wrap64 (224 + c / 64 / 64) % 256 = _
   rw [w64 (by omega) (by omega)];omega
  rw [this];rfl
 rw [if_neg h3]
 refine ev_neg (by omega) (ev_pos (by omega) (ev_pos (by simp) ?_))
 rw [show wrap64 ((4 : Int) - 1) = 3 from (w64 (by omega) (by omega)).trans (by omega)]
 refine Ev.step (fun k => bodkinref01_encoding.l0.eq_2 ..) (ev_pos (by omega) (ev_pos (by omega) (ev_pos (by simp) ?_)))
 rw [hw c (by omega) (by omega),hq c (by omega) (by omega),show wrap64 ((3 : Int) - 1) = 2 from (w64 (by omega) (by omega)).trans (by omega)]
 refine Ev.step (fun k => bodkinref01_encoding.l0.eq_2 ..) (ev_pos (by omega) (ev_pos (by omega) (ev_pos (by simp) ?_)))
 rw [hw (c / 64) (by omega) (by omega),hq (c / 64) (by omega) (by omega),show wrap64 ((2 : Int) - 1) = 1 from (w64 (by omega) (by omega)).trans (by omega)]
 refine Ev.step (fun k => bodkinref01_encoding.l0.eq_2 ..) (ev_pos (by omega) (ev_pos (by omega) (ev_pos (by simp) ?_)))
 rw [hw (c / 64 / 64) (by omega) (by omega),hq (c / 64 / 64) (by omega) (by omega),show wrap64 ((1 : Int) - 1) = 0 from (w64 (by omega) (by omega)).trans (by omega)]
 refine Ev.step (fun k => bodkinref01_encoding.l0.eq_2 ..) (ev_neg (by omega) (ev_some rfl (ev_pos (by omega) (ev_pos (by decide) (ev_pos (by simp) (ev_now ?_))))))
 unfold encI;rw [if_neg h1,if_neg h2,if_neg h3]
 have : wrap64 (rd [0,0,192,224,240] 4 + wrap64 (c / 64 / 64 / 64)) % 256 = 240 + c / 262144 := by
  rw [w64 (x := c / 64 / 64 / 64) (by omega) (by omega)]
  show wrap64 (240 + c / 64 / 64 / 64) % 256 = _
  rw [w64 (by omega) (by omega)];omega
 rw [this,show c / 64 / 64 % 64 = c / 4096 % 64 by omega];rfl
theorem ref_encode_loop (L : List Int) (hL : L.length ≤ 1099511627776) : ∀ (l : List Int) (i : Nat) (o : List Int),L.drop i = l → o.length + 4 * l.length ≤ 8796093022208 → Ev (fun k => bodkinref01_Encode.l0 k L o i) (strOfNums (o ++ l.flatMap encO)) := by
 intro l
 induction l with
 | nil => intro i o h _;have := drop_nil_le h;exact Ev.step (fun k => bodkinref01_Encode.l0.eq_2 ..) (ev_neg (by omega) (ev_now (by simp)))
 | cons c l ih =>
  intro i o h ho
  rw [List.length_cons] at ho
  obtain ⟨hi,hg,hd⟩ := drop_cons (d := 0) h
  have := encO_len c
  have hgo := ih (i + 1) (o ++ encO c) hd (by rw [List.length_append];omega)
  rw [List.append_assoc] at hgo
  rw [List.flatMap_cons]
  refine Ev.step (fun k => bodkinref01_Encode.l0.eq_2 ..) (ev_pos (by omega) (ev_pos (by omega) ?_))
  rw [rd_nat,hg,w64 (by omega) (by omega)]
  refine ev_some (scalar_ans c) ?_
  by_cases hc : okC c
  ·have h4 := encI_len c
   refine ev_pos (by rw [decide_eq_true_eq];exact hc) (Ev.bind (encoding_ans c hc) (ev_pos (by rw [strOfNums_size];omega) ?_))
   rw [bytesOf_str _ (encI_byte c hc)]
   rw [show encO c = encI c by unfold encO;rw [if_pos hc]] at hgo ⊢
   exact hgo
  ·refine ev_neg (by rw [decide_eq_true_eq];exact hc) ?_
   rw [show encO c = [] by unfold encO;rw [if_neg hc]] at hgo ⊢
   rw [List.nil_append] at hgo ⊢
   rw [List.append_nil] at hgo
   exact hgo
theorem ref_encode_ans (l : List Int) (hl : l.length ≤ 1099511627776) : Ev (fun k => bodkinref01_Encode.f k l) (strOfNums (l.flatMap encO)) := ref_encode_loop l hl l 0 [] rfl (by simp;omega)
end Go.Proofs.YtkficbgnjpekaaaDoor.Pu
end
