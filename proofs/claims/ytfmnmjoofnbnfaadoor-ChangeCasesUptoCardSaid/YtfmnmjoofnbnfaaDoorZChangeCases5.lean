/- What the law ChangeCases reaches of this seat's own texts, merged; what nothing uses is left out. -/
import Derived.Test.YtfmnmjoofnbnfaaDoorZChangeCases0
import Derived.Test.YtfmnmjoofnbnfaaDoorZChangeCases1
import Derived.Test.YtfmnmjoofnbnfaaDoorZChangeCases3
import Derived.Test.YtfmnmjoofnbnfaaDoorZChangeCases4
section
namespace Go.Proofs.YtfmnmjoofnbnfaaDoor.Pu
open Go Go.RowKit Go.Proofs.YtfmnmjoofnbnfaaDoor.Mu Go.Proofs.YtfmnmjoofnbnfaaDoor.U Go.Proofs.YtfmnmjoofnbnfaaDoorW.PrintWords Go.Proofs.YtfmnmjoofnbnfaaDoorW.PrintLast Go.Proofs.YtfmnmjoofnbnfaaDoorW.PrintMore
set_option linter.unusedVariables false
theorem glued_j0 (u v : Int) (b : Bool) : Ev (fun k => cluster_glued.j0 k u v b) (if b = true then true else (decide (cls v = 3) && (!decide (cls u = 1) && !decide (cls u = 2)))) := by
 refine Ev.step (fun k => cluster_glued.j0.eq_2 ..) (ev_val (fun hb => ev_pos hb (Ev.now _)) (fun hb => ev_neg hb ?_))
 refine Ev.bind (class_ans u) (Ev.bind (class_ans v) ?_)
 by_cases h3 : cls v = 3
 ·refine ev_pos h3 ?_
  by_cases h1 : cls u = 1
  ·exact ev_pos h1 (ev_now (by simp [h1]))
  ·exact ev_neg h1 (ev_now (by by_cases h2 : cls u = 2 <;> simp [h1,h2,h3]))
 ·exact ev_neg h3 (ev_now (by simp [h3]))
theorem glued_ans (u v : Int) : Ev (fun k => cluster_glued.f k u v) (glueB u v) := by
 unfold cluster_glued.f
 by_cases h : u = 13
 ·refine ev_pos h ?_
  have := glued_j0 u v (v == 10)
  have e : glueB u v = (if (v == 10) = true then true else (decide (cls v = 3) && (!decide (cls u = 1) && !decide (cls u = 2)))) := by
   unfold glueB
   by_cases hv : v = 10 <;> simp [h,hv]
  rw [e];exact this
 ·refine ev_neg h ?_
  have := glued_j0 u v false
  have e : glueB u v = (if false = true then true else (decide (cls v = 3) && (!decide (cls u = 1) && !decide (cls u = 2)))) := by
   unfold glueB
   simp [h]
  rw [e];exact this
theorem atA_nat {s : ByteArray} {x : Nat} (hb : Bd s x) (hx : x < s.size) : atA s x = (uC s x,(uN s x : Int),true) := by
 unfold atA
 rw [if_pos ⟨(bdB_iff s x).2 ((bdI_nat s x).2 hb),by omega⟩,Int.toNat_natCast]
theorem prevS_of {s : ByteArray} {x y : Nat} (hy : Bd s y) (h : y + uN s y = x) : PrevS s x y := by
 have := uN_pos s y
 exact prevS_in hy (by omega) (by omega)
theorem cboundary_j0 (s : ByteArray) (hs : s.size ≤ 1099511627776) (a : Int) (b : Bool) (hb : b = true ↔ (a ≤ 0 ∨ (s.size : Int) ≤ a)) : Ev (fun k => cluster_Boundary.j0 k s a b) (cbB s a) := by
 have hc := cbB_iff s a
 refine Ev.step (fun k => cluster_Boundary.j0.eq_2 ..) ?_
 by_cases h : b = true
 ·refine ev_pos h ?_
  have h1 := hb.1 h
  by_cases h0 : a = 0
  ·refine ev_pos h0 (ev_now ?_)
   subst h0
   exact (hc.2 (cbI_zero s)).symm
  ·refine ev_neg h0 (ev_now ?_)
   rw [Bool.eq_iff_iff,hc,beq_iff_eq]
   constructor
   ·intro e;rw [e];exact cbI_size s
   ·intro hC;have := cbI_le hC;omega
 ·have h1 : ¬ (a ≤ 0 ∨ (s.size : Int) ≤ a) := fun h2 => h (hb.2 h2)
  refine ev_neg h (Ev.bind (boundary_ans s hs a) ?_)
  by_cases hB : bdB s a = true
  ·refine ev_pos hB ?_
   obtain ⟨x,rfl⟩ : ∃ x : Nat,a = x := ⟨a.toNat,by omega⟩
   have hbx : Bd s x := (bdI_nat s x).1 ((bdB_iff s x).1 hB)
   obtain ⟨y,hy,hyx⟩ := bd_prev s x hbx (by omega)
   have hp := uN_pos s y
   refine Ev.bind (prev_ev hs (by omega) (prevS_of hy hyx)) (Ev.bind (at_ans s hs y) (Ev.bind (at_ans s hs x) ?_))
   rw [atA_nat hy (by omega),atA_nat hbx (by omega)]
   refine Ev.bind (glued_ans (uC s y) (uC s x)) (ev_now ?_)
   rw [Bool.eq_iff_iff,hc,cbI_nat,cb_iff s x y hy hyx (by omega)]
   cases glueB (uC s y) (uC s x) <;> simp
  ·refine ev_neg hB (ev_now ?_)
   symm
   rw [← Bool.not_eq_true,hc]
   exact fun h2 => hB ((bdB_iff s a).2 h2.bd)
theorem cboundary_ans (s : ByteArray) (hs : s.size ≤ 1099511627776) (a : Int) : Ev (fun k => cluster_Boundary.f k s a) (cbB s a) := by
 unfold cluster_Boundary.f
 by_cases h : a ≤ 0
 ·exact ev_pos h (cboundary_j0 s hs a _ ⟨fun _ => .inl h,fun _ => rfl⟩)
 ·exact ev_neg h (cboundary_j0 s hs a _ (by rw [decide_eq_true_eq];omega))
theorem cboundary_yes {s : ByteArray} (hs : s.size ≤ 1099511627776) {a : Int} (h : CBI s a) : Ev (fun k => cluster_Boundary.f k s a) true := (cbB_iff s a).2 h ▸ cboundary_ans s hs a
theorem cboundary_no {s : ByteArray} (hs : s.size ≤ 1099511627776) {a : Int} (h : ¬ CBI s a) : Ev (fun k => cluster_Boundary.f k s a) false := by
 have : cbB s a = false := by rw [← Bool.not_eq_true,cbB_iff];exact h
 exact this ▸ cboundary_ans s hs a
theorem cnext_loop (s : ByteArray) (hs : s.size ≤ 1099511627776) : ∀ (n : Nat) (a : Int),(s.size : Int) - a ≤ n → 0 ≤ a → ∃ d,Ev (fun k => cluster_Next.l0 k s a) d ∧ CNextS s a d := by
 have hend : ∀ a : Int,(s.size : Int) ≤ a → ∃ d,Ev (fun k => cluster_Next.l0 k s a) d ∧ CNextS s a d := fun a h =>
  ⟨s.size,Ev.step (fun k => cluster_Next.l0.eq_2 ..) (ev_neg (by omega) (Ev.now _)),cbI_size s,.inr rfl,fun e he hae => by have := cbI_le he;omega⟩
 intro n
 induction n with
 | zero => intro a hn h0;exact hend a (by omega)
 | succ n ih =>
  intro a hn h0
  by_cases ha : a < (s.size : Int)
  ·obtain ⟨d,hE,hD⟩ := next_ans s hs a
   have hd := bdI_le hD.1
   have hda : a < d := by rcases hD.2.1 with h | h <;> omega
   by_cases hc : CBI s d
   ·refine ⟨d,Ev.step (fun k => cluster_Next.l0.eq_2 ..) (ev_pos ha (Ev.bind hE (Ev.bind (cboundary_yes hs hc) (ev_pos rfl (Ev.now _))))),hc,.inl hda,fun e he hae => hD.2.2 e he.bd hae⟩
   ·obtain ⟨d',hE',hD'⟩ := ih d (by omega) (by omega)
    refine ⟨d',Ev.step (fun k => cluster_Next.l0.eq_2 ..) (ev_pos ha (Ev.bind hE (Ev.bind (cboundary_no hs hc) (ev_neg (by simp) hE')))),hD'.1,?_,fun e he hae => ?_⟩
    ·rcases hD'.2.1 with h | h
     ·exact .inl (by omega)
     ·exact .inr h
    ·have h1 := hD.2.2 e he.bd hae
     refine hD'.2.2 e he ?_
     by_cases h2 : e = d
     ·subst h2;exact absurd he hc
     ·omega
  ·exact hend a (by omega)
theorem cnext_ans (s : ByteArray) (hs : s.size ≤ 1099511627776) (a : Int) : ∃ d,Ev (fun k => cluster_Next.f k s a) d ∧ CNextS s a d := by
 unfold cluster_Next.f
 by_cases h : a < 0
 ·exact ⟨0,ev_pos h (Ev.now _),cbI_zero s,.inl h,fun e he _ => (cbI_le he).1⟩
 ·obtain ⟨d,hE,hD⟩ := cnext_loop s hs s.size a (by omega) (by omega)
  exact ⟨d,ev_neg h hE,hD⟩
theorem cprev_loop (s : ByteArray) (hs : s.size ≤ 1099511627776) : ∀ (n : Nat) (a : Int),a ≤ n → a ≤ 1099511627776 → ∃ d,Ev (fun k => cluster_Prev.l0 k s a) d ∧ CPrevS s a d := by
 have hend : ∀ a : Int,a ≤ 0 → ∃ d,Ev (fun k => cluster_Prev.l0 k s a) d ∧ CPrevS s a d := fun a h =>
  ⟨0,Ev.step (fun k => cluster_Prev.l0.eq_2 ..) (ev_neg (by omega) (Ev.now _)),cbI_zero s,.inr rfl,fun e he hae => by have := cbI_le he;omega⟩
 intro n
 induction n with
 | zero => intro a hn h0;exact hend a (by omega)
 | succ n ih =>
  intro a hn h0
  by_cases ha : a > 0
  ·obtain ⟨d,hE,hD⟩ := prev_ans s hs a (by omega)
   have hd := bdI_le hD.1
   have hda : d < a := by rcases hD.2.1 with h | h <;> omega
   by_cases hc : CBI s d
   ·refine ⟨d,Ev.step (fun k => cluster_Prev.l0.eq_2 ..) (ev_pos ha (Ev.bind hE (Ev.bind (cboundary_yes hs hc) (ev_pos rfl (Ev.now _))))),hc,.inl hda,fun e he hae => hD.2.2 e he.bd hae⟩
   ·obtain ⟨d',hE',hD'⟩ := ih d (by omega) (by omega)
    refine ⟨d',Ev.step (fun k => cluster_Prev.l0.eq_2 ..) (ev_pos ha (Ev.bind hE (Ev.bind (cboundary_no hs hc) (ev_neg (by simp) hE')))),hD'.1,?_,fun e he hae => ?_⟩
    ·rcases hD'.2.1 with h | h
     ·exact .inl (by omega)
     ·exact .inr h
    ·have h1 := hD.2.2 e he.bd hae
     refine hD'.2.2 e he ?_
     by_cases h2 : e = d
     ·subst h2;exact absurd he hc
     ·omega
  ·exact hend a (by omega)
theorem cprev_ans (s : ByteArray) (hs : s.size ≤ 1099511627776) (a : Int) : ∃ d,Ev (fun k => cluster_Prev.f k s a) d ∧ CPrevS s a d := by
 unfold cluster_Prev.f
 by_cases h : a > (s.size : Int)
 ·exact ⟨s.size,ev_pos h (Ev.now _),cbI_size s,.inl h,fun e he _ => (cbI_le he).2⟩
 ·obtain ⟨d,hE,hD⟩ := cprev_loop s hs s.size a (by omega) (by omega)
  exact ⟨d,ev_neg h hE,hD⟩
theorem csnap_ans (s : ByteArray) (hs : s.size ≤ 1099511627776) (a : Int) : ∃ d,Ev (fun k => cluster_Snap.f k s a) d ∧ CSnapS s a d := by
 unfold cluster_Snap.f
 by_cases h : a < 0
 ·exact ⟨0,ev_pos h (Ev.now _),cbI_zero s,.inl (by omega),fun e he _ => (cbI_le he).1⟩
 ·by_cases hc : CBI s a
  ·exact ⟨a,ev_neg h (Ev.bind (cboundary_yes hs hc) (ev_pos rfl (Ev.now _))),csnapS_at hc⟩
  ·obtain ⟨d,hE,hD⟩ := cnext_ans s hs a
   refine ⟨d,ev_neg h (Ev.bind (cboundary_no hs hc) (ev_neg (by simp) (Ev.bind hE (Ev.now _)))),hD.1,?_,fun e he hae => ?_⟩
   ·rcases hD.2.1 with h | h
    ·exact .inl (by omega)
    ·exact .inr h
   ·refine hD.2.2 e he ?_
    by_cases h2 : e = a
    ·subst h2;exact absurd he hc
    ·omega
theorem cnext_ev {s : ByteArray} (hs : s.size ≤ 1099511627776) {a d : Int} (h : CNextS s a d) : Ev (fun k => cluster_Next.f k s a) d := by
 obtain ⟨d',hE,h'⟩ := cnext_ans s hs a;exact h.one h' ▸ hE
theorem cprev_ev {s : ByteArray} (hs : s.size ≤ 1099511627776) {a d : Int} (h : CPrevS s a d) : Ev (fun k => cluster_Prev.f k s a) d := by
 obtain ⟨d',hE,h'⟩ := cprev_ans s hs a;exact h.one h' ▸ hE
theorem csnap_ev {s : ByteArray} (hs : s.size ≤ 1099511627776) {a d : Int} (h : CSnapS s a d) : Ev (fun k => cluster_Snap.f k s a) d := by
 obtain ⟨d',hE,h'⟩ := csnap_ans s hs a;exact h.one h' ▸ hE
theorem cells_ans (c : Int) : Ev (fun k => width_Cells.f k c) (celB c) := by
 have hC : celB c = if cls c = 1 then 0 else if cls c = 4 ∨ (cls c = 2 ∧ c ≤ 127) then 2 else 1 := rfl
 unfold width_Cells.f
 refine Ev.bind (class_ans c) ?_
 by_cases h1 : cls c = 1
 ·exact ev_pos h1 (ev_now (by rw [hC,if_pos h1]))
 ·refine ev_neg h1 ?_
  by_cases h4 : cls c = 4
  ·exact ev_pos h4 (ev_now (by rw [hC,if_neg h1,if_pos (.inl h4)]))
  ·refine ev_neg h4 ?_
   by_cases h2 : cls c = 2
   ·refine ev_pos h2 ?_
    by_cases h5 : c ≤ 127
    ·exact ev_pos h5 (ev_now (by rw [hC,if_neg h1,if_pos (.inr ⟨h2,h5⟩)]))
    ·exact ev_neg h5 (ev_now (by rw [hC,if_neg h1,if_neg (by omega)]))
   ·exact ev_neg h2 (ev_now (by rw [hC,if_neg h1,if_neg (by omega)]))
theorem toList_bytes (s : ByteArray) : s.toList = s.data.toList := Lib.toList_data s
theorem uC_low (s : ByteArray) (x : Nat) (c : Nat) (hc : c < 128) : uC s x = c ↔ byt s x = c := by
 rcases uC_cases s x with h | h | h | h | h <;> omega
theorem uN_low (s : ByteArray) (x : Nat) (c : Nat) (hc : c < 128) (h : uC s x = c) : uN s x = 1 := by
 rcases uC_cases s x with h | h | h | h | h <;> omega
theorem prefix_nl (s : ByteArray) (x : Nat) (hx : x < s.size) : strings_HasPrefix.f (s.extract (x + 1) s.size) (⟨#[10]⟩ : ByteArray) = some (decide (x + 1 < s.size ∧ byt s (x + 1) = 10)) := by
 have hsz : (s.extract (x + 1) s.size).size = s.size - (x + 1) := size_extract _ _ _ (Nat.le_refl _)
 unfold strings_HasPrefix.f stringslite_HasPrefix.f
 rw [hsz]
 by_cases h : x + 1 < s.size
 ·rw [if_pos (by show ((s.size - (x + 1) : Nat) : Int) ≥ ((1 : Nat) : Int);omega),if_pos (by omega),if_pos (by show ((1 : Nat) : Int) ≤ _;omega)]
  show some _ = some _
  congr 1
  rw [Bool.eq_iff_iff,beq_iff_eq,decide_eq_true_eq,toList_bytes,toList_bytes,Lib.extract_data]
  have e : (s.extract (x + 1) s.size).data.toList = s.data.toList.drop (x + 1) := by
   rw [Lib.extract_data,List.take_of_length_le (by rw [List.length_drop,← Lib.size_eq];omega)]
  rw [e,List.drop_zero]
  have hl : x + 1 < s.data.toList.length := by rw [← Lib.size_eq];exact h
  rw [List.drop_eq_getElem_cons hl]
  show [s.data.toList[x + 1]] = [10] ↔ _
  have hb : byt s (x + 1) = (s.data.toList[x + 1]).toNat := by
   unfold byt
   rw [get!_eq,List.getD_eq_getElem?_getD,List.getElem?_eq_getElem hl];rfl
  rw [hb,List.cons.injEq]
  constructor
  ·rintro ⟨h1,_⟩;exact ⟨h,by rw [h1];rfl⟩
  ·rintro ⟨_,h1⟩;exact ⟨UInt8.toNat_inj.1 (by rw [h1];rfl),rfl⟩
 ·rw [if_neg (by show ¬ ((s.size - (x + 1) : Nat) : Int) ≥ ((1 : Nat) : Int);omega)]
  show some _ = some _
  congr 1
  symm
  rw [decide_eq_false_iff_not]
  omega
theorem made_ans (s : ByteArray) (hs : s.size ≤ 1099511627776) (x : Nat) (hb : Bd s x) (hx : x < s.size) (t : Int) : Ev (fun k => cluster_made.f k s x t) ((x : Int),t,clsAt s x,celAt s x) := by
 unfold cluster_made.f
 refine Ev.bind (at_ans s hs x) ?_
 rw [atA_nat hb hx]
 refine Ev.bind (class_ans (uC s x)) (Ev.bind (cells_ans (uC s x)) ?_)
 by_cases h : uC s x = 13
 ·have h1 := uN_low s x 13 (by omega) h
  have hw : wrap64 ((x : Int) + 1) = ((x + 1 : Nat) : Int) := by rw [w64 (by omega) (by omega)];omega
  refine ev_pos h ?_
  rw [hw]
  refine ev_pos (by omega) (ev_pos (by omega) (ev_some (prefix_nl s x hx) ?_))
  have hc : crlf s x ↔ (x + 1 < s.size ∧ byt s (x + 1) = 10) := by
   unfold crlf
   rw [h1,← uC_low s (x + 1) 10 (by omega)]
   exact ⟨fun h => h.2,fun h2 => ⟨h,h2⟩⟩
  unfold clsAt celAt
  by_cases hq : crlf s x
  ·rw [if_pos hq,if_pos hq]
   exact ev_pos (by rw [decide_eq_true_eq];exact hc.1 hq) (Ev.now _)
  ·rw [if_neg hq,if_neg hq]
   exact ev_neg (by rw [decide_eq_true_eq];exact fun h => hq (hc.2 h)) (Ev.now _)
 ·refine ev_neg h (ev_now ?_)
  unfold clsAt celAt
  rw [if_neg (fun hq => h hq.1),if_neg (fun hq => h hq.1)]
end Go.Proofs.YtfmnmjoofnbnfaaDoor.Pu
end
section
namespace Go.Proofs.YtfmnmjoofnbnfaaDoor.U
open Go.RowKit Go.Shelf Go.Proofs.YtfmnmjoofnbnfaaDoor.Mu Go.Proofs.YtfmnmjoofnbnfaaDoor.Pu Go.Proofs.YtfmnmjoofnbnfaaDoor.Rg Go.Proofs.YtfmnmjoofnbnfaaDoorW.PrintWords Go.Proofs.YtfmnmjoofnbnfaaDoorW.PrintLast Go.Proofs.YtfmnmjoofnbnfaaDoorW.PrintMore
attribute [local go_sem] Oper.semAt_some
set_option linter.unusedVariables false
set_option linter.unusedSimpArgs false
abbrev encC (c : S74) : Array Value := #[.agg #[.int .i64 c.f0,.int .i64 c.f1,.int .i64 c.f2,.int .i64 c.f3]]
set_option maxRecDepth 100000 in
set_option maxHeartbeats 2000000 in
/-- cluster.Walk's inner function: its contract. -/
theorem cwalk1_seq (n : Nat) (hn : 1 ≤ n) (w₀ w : World) (s : ByteArray) (Bs : Nat) (hs : s.size ≤ 1099511627776) (hT : Lib.Utf8Tabs 1 2 w₀) (hb : Below w₀.heap.size w₀ w) (hc : Boxed w Bs 9 (.string s)) :
  SeqB Fence.wide n Tryd.prog 66 #[.pointer (some ⟨Bs,0,none⟩)] encC w₀.heap.size (fun k => k = Bs) (fun xs => Hid (xs = clusL s)) (fun pre => pre <+: clusL s) (clusL s).length w := by
 intro l J Jx W hW hJ hJx hY h0
 refine callsIn_of_wp Tryd.func66 rfl trivial ?_ rfl
 simp only [Tryd.ntmps66,List.size_toArray,List.length_cons,List.length_nil,Nat.reduceAdd,Nat.reduceSub,Array.replicate_succ,Array.replicate_zero,List.push_toArray,List.append_toArray,List.nil_append,List.cons_append]
 gi_wp2
 gi_loopw [3] (fun v wr => ∃ (i : Nat) (pre : List S74),v = .int .i64 i ∧ i ≤ s.size ∧ Hid (CB s i) ∧ Hid (clusL s = pre ++ ctl s i) ∧ J pre wr ∧ Boxed wr Bs 9 (.string s) ∧ Below w₀.heap.size w₀ wr)
  (fun v _ => s.size - (intOf v).toNat)
 case atStart =>
  exact ⟨0,[],rfl,Nat.zero_le _,Lib.hid (cb_zero s),Lib.hid rfl,h0,(hW.block Bs hc.lt).trans hc,hb.trans (hW.mono hb.size)⟩
 case round =>
  obtain ⟨i,pre,rfl,hi,hcb0,hx,hJs,hbx,hbl⟩ := hrel
  have hcb := hbx.cell
  by_cases hlt : i < s.size
  ·have hlt' : (i : Int) < (s.size : Int) := by omega
   obtain ⟨t,ht⟩ : ∃ t,nxt s i = t := ⟨_,rfl⟩
   have ht1 : i < t := ht ▸ nxt_pos s i hlt
   have ht2 : t ≤ s.size := ht ▸ nxt_le s i hcb0.out.1 hlt
   obtain ⟨k1,hk1⟩ := Ev.rounds (cnext_ev hs (nxtS s i hcb0.out.1 hlt i (Int.le_refl _) (by rw [ht];omega)))
   rw [ht] at hk1
   have hk1 := Lib.hid hk1
   obtain ⟨k2,hk2⟩ := Ev.rounds (made_ans s hs i hcb0.out.1 hlt (t : Int))
   have hcl : Hid (clAt s i = ⟨(i : Int),(t : Int),clsAt s i,celAt s i⟩) := Lib.hid (by unfold clAt;rw [ht])
   obtain ⟨q2,hq2⟩ : ∃ q2,clsAt s i = q2 := ⟨_,rfl⟩
   obtain ⟨q3,hq3⟩ : ∃ q3,celAt s i = q3 := ⟨_,rfl⟩
   rw [hq2,hq3] at hk2 hcl
   have hk2 := Lib.hid hk2
   have hcbt : Hid (CB s t) := Lib.hid (ht ▸ nxt_cb s i hcb0.out.1 hlt)
   have hx2 : Hid (clusL s = pre ++ (⟨(i : Int),(t : Int),q2,q3⟩ : S74) :: ctl s t) := Lib.hid (by
    have := hx.out;rw [ctl_go s i hlt,hcl.out,ht] at this;exact this)
   clear hx hcl hq2 hq3 ht hcb0
   have hTw := tabs_below hT hbl
   gi_wp2_with (refine ⟨trivial,?_⟩;gi_at_call 22;refine (callsIn_wide.2 (cluster_Next.calls k1 s i t wr hTw hk1.out)).mono ?_;rintro e w1 ⟨rfl,hb1⟩;have hbx1 : Boxed w1 Bs 9 (.string s) := (hb1.block Bs hbx.lt).trans hbx;have hcb1 := hbx1.cell;have hT1 := tabs_below hTw hb1)
   gi_wp2_with (refine ⟨trivial,?_⟩;gi_at_call 67;refine (callsIn_wide.2 (cluster_made.calls k2 s i t i t q2 q3 w1 hT1 hk2.out)).mono ?_;rintro e w2 ⟨rfl,hb2⟩;have hb12 : Below wr.heap.size wr w2 := hb1.trans (hb2.mono hb1.size);obtain ⟨fn,tmps,assign,body,hy,hR⟩ := hY pre (⟨(i : Int),(t : Int),q2,q3⟩ : S74) wr w2 hJs hb12 (by rw [hx2.out];simp) ⟨ctl s t,by rw [hx2.out];simp⟩)
   refine hR.mono ?_
   rintro e W3 (⟨rfl,hJ3,hk3⟩ | ⟨rfl,hJx3⟩)
   ·have hbx3 : Boxed W3 Bs 9 (.string s) := hk3.2 Bs _ (.inl rfl) ((hb12.block Bs hbx.lt).trans hbx) rfl
    have hbl3 : Below w₀.heap.size w₀ W3 := (hbl.trans (hb12.mono hbl.size)).trans hk3.1
    gi_wp2
    go_roundw
    case rel => exact ⟨t,pre ++ [(⟨(i : Int),(t : Int),q2,q3⟩ : S74)],rfl,ht2,hcbt,Lib.hid (by rw [hx2.out];simp),hJ3,hbx3,hbl3⟩
    case measure => simp [intOf];omega
   ·gi_wp2
    refine bodyPost_ret (results_none rfl _ _ _) rfl ?_
    exact ⟨⟨_,rfl⟩,.inr ⟨_,⟨ctl s t,by rw [hx2.out];simp⟩,hJx3⟩⟩
  ·have hge : ¬ ((i : Int) < (s.size : Int)) := by omega
   gi_wp2
   go_end0
   have hz : ctl s i = [] := ctl_end s i (by omega)
   exact ⟨⟨_,rfl⟩,.inl ⟨pre,Lib.hid (by rw [hx.out,hz,List.append_nil]),hJs⟩⟩
theorem cwalk_calls (s : ByteArray) (w : World) :
  Calls Tryd.prog 35 #[.string s] w fun e w' => e = .returned (.func (.func 66) #[] #[.pointer (some ⟨w.heap.size,0,none⟩)]) ∧ w' = w.alloc (.cells #[.string s] 9) := by
 go_enter Tryd.func35,Tryd.ntmps35
 go_wp2
 go_ret
 exact ⟨rfl,rfl⟩
end Go.Proofs.YtfmnmjoofnbnfaaDoor.U
end
section
namespace Go.Proofs.YtfmnmjoofnbnfaaDoor.Pu
open Go Go.RowKit Go.Proofs.YtfmnmjoofnbnfaaDoor.Mu Go.Proofs.YtfmnmjoofnbnfaaDoor.U Go.Proofs.YtfmnmjoofnbnfaaDoorW.PrintWords Go.Proofs.YtfmnmjoofnbnfaaDoorW.PrintLast Go.Proofs.YtfmnmjoofnbnfaaDoorW.PrintMore
set_option linter.unusedVariables false
set_option linter.unusedSimpArgs false
theorem clus_mem' (s : ByteArray) : ∀ k x,CB s x → ∀ c ∈ cluL s k x,∃ i,CB s i ∧ i < s.size ∧ c = clAt s i
 | 0,_,_,c,h => by simp [cluL] at h
 | k + 1,x,hc,c,h => by
  rw [cluL] at h
  split at h
  ·rename_i hx
   rcases List.mem_cons.1 h with rfl | h
   ·exact ⟨x,hc,hx,rfl⟩
   ·exact clus_mem' s k _ (nxt_cb s x hc.1 hx) c h
  ·simp at h
/-- Is it 0 to 9,A to Z,a to z,_? -/
def wLow (c : Int) : Bool := decide ((48 ≤ c ∧ c ≤ 57) ∨ (65 ≤ c ∧ c ≤ 90) ∨ (97 ≤ c ∧ c ≤ 122) ∨ c = 95)
def wHigh (c : Int) : Bool := decide (170 ≤ c) && (decide (cls c = 3 ∨ cls c = 4 ∨ cls c = 0) && !outB c)
/-- Does a character stand in words? -/
def wordB (c : Int) : Bool := wLow c || wHigh c
/-- Does the unit at x? -/
def wAt (s : ByteArray) (x : Nat) : Bool := wordB (uC s x)
/-- One more cluster: whether it stands in a word,and the words so far. -/
def spStep (s : ByteArray) (st : Bool × List S63) (c : S74) : Bool × List S63 :=
 (wAt s c.f0.toNat,if wAt s c.f0.toNat = true then (if st.1 = true then st.2.dropLast ++ [⟨(st.2.getLastD ⟨0,0⟩).f0,c.f1⟩] else st.2 ++ [⟨c.f0,c.f1⟩]) else st.2)
def spF (s : ByteArray) (cs : List S74) : Bool × List S63 := cs.foldl (spStep s) (false,[])
theorem spF_snoc (s : ByteArray) (cs : List S74) (c : S74) : spF s (cs ++ [c]) = spStep s (spF s cs) c := by
 unfold spF;rw [List.foldl_append];rfl
/-- The words of a text. -/
def spansL (s : ByteArray) : List S63 := (spF s (clusL s)).2
theorem spF_shapeN (s : ByteArray) : ∀ (n : Nat) (cs : List S74),cs.length = n → (spF s cs).2.length ≤ cs.length ∧ ((spF s cs).1 = true → ∃ p a b,(spF s cs).2 = p ++ [(⟨a,b⟩ : S63)])
 | 0,cs,hn => by
  obtain rfl := List.length_eq_zero_iff.1 hn
  exact ⟨Nat.le_refl _,fun h => by cases h⟩
 | n + 1,cs,hn => by
  rcases List.eq_nil_or_concat cs with rfl | ⟨l,c,rfl⟩
  ·cases hn
  rw [List.concat_eq_append] at hn ⊢
  rw [spF_snoc]
  obtain ⟨h1,h2⟩ := spF_shapeN s n l (by simpa using hn)
  unfold spStep
  by_cases hw : wAt s c.f0.toNat = true
  ·rw [if_pos hw]
   by_cases hi : (spF s l).1 = true
   ·obtain ⟨p,a,b,e⟩ := h2 hi
    rw [if_pos hi,e]
    rw [e] at h1
    simp only [List.length_append,List.length_cons,List.length_nil] at h1
    refine ⟨by simp only [List.dropLast_concat,List.length_append,List.length_cons,List.length_nil];omega,fun _ => ⟨p,a,c.f1,by simp⟩⟩
   ·rw [if_neg hi]
    exact ⟨by simp only [List.length_append,List.length_cons,List.length_nil];omega,fun _ => ⟨_,_,_,rfl⟩⟩
  ·rw [if_neg hw]
   exact ⟨by simp only [List.length_append,List.length_cons,List.length_nil];omega,fun h => absurd h hw⟩
theorem spF_shape (s : ByteArray) (cs : List S74) : (spF s cs).2.length ≤ cs.length ∧ ((spF s cs).1 = true → ∃ p a b,(spF s cs).2 = p ++ [(⟨a,b⟩ : S63)]) := spF_shapeN s _ cs rfl
theorem spStep_on (s : ByteArray) (p : List S63) (a b : Int) (c : S74) (h : wAt s c.f0.toNat = true) : spStep s (true,p ++ [⟨a,b⟩]) c = (true,p ++ [⟨a,c.f1⟩]) := by
 unfold spStep;rw [h,if_pos rfl,if_pos rfl];simp
theorem spStep_new (s : ByteArray) (p : List S63) (c : S74) (h : wAt s c.f0.toNat = true) : spStep s (false,p) c = (true,p ++ [⟨c.f0,c.f1⟩]) := by
 unfold spStep;rw [h,if_pos rfl,if_neg (by simp)]
theorem spStep_off (s : ByteArray) (i : Bool) (p : List S63) (c : S74) (h : wAt s c.f0.toNat = false) : spStep s (i,p) c = (false,p) := by
 unfold spStep;rw [h,if_neg (by simp)]
theorem isw_j2 (c : Int) (b : Bool) : Ev (fun k => word_IsWord.j2 k c b) (if b = true then true else if c < 170 then false else if cls c = 3 then !outB c else if cls c = 4 then !outB c else if cls c = 0 then !outB c else false) :=
 Ev.step (fun k => word_IsWord.j2.eq_2 ..) (ev_val (fun hb => ev_pos hb (Ev.now _)) (fun hb => ev_neg hb (ev_val (fun h => ev_pos h (Ev.now _)) (fun h => ev_neg h
  (Ev.bind (a := cls c) (class_ans c) (ev_val (fun h3 => ev_pos h3 (ev_some (a := outB c) rfl (Ev.now _))) (fun h3 => ev_neg h3 (ev_val (fun h4 => ev_pos h4 (ev_some (a := outB c) rfl (Ev.now _))) (fun h4 => ev_neg h4
   (ev_val (fun h0 => ev_pos h0 (ev_some (a := outB c) rfl (Ev.now _))) (fun h0 => ev_neg h0 (Ev.now _))))))))))))
theorem wHigh_eq (c : Int) : (if c < 170 then false else if cls c = 3 then !outB c else if cls c = 4 then !outB c else if cls c = 0 then !outB c else false) = wHigh c := by
 unfold wHigh
 by_cases h : c < 170
 ·rw [if_pos h,decide_eq_false (by omega),Bool.false_and]
 ·rw [if_neg h,decide_eq_true (by omega),Bool.true_and]
  by_cases h3 : cls c = 3
  ·rw [if_pos h3,decide_eq_true (.inl h3),Bool.true_and]
  ·rw [if_neg h3]
   by_cases h4 : cls c = 4
   ·rw [if_pos h4,decide_eq_true (.inr (.inl h4)),Bool.true_and]
   ·rw [if_neg h4]
    by_cases h0 : cls c = 0
    ·rw [if_pos h0,decide_eq_true (.inr (.inr h0)),Bool.true_and]
    ·rw [if_neg h0,decide_eq_false (by omega),Bool.false_and]
theorem isw_at (c : Int) (b : Bool) (h : b = wLow c) : Ev (fun k => word_IsWord.j2 k c b) (wordB c) := by
 have := isw_j2 c b
 rw [wHigh_eq] at this
 unfold wordB
 rw [← h]
 cases b with
 | true => rw [if_pos rfl] at this;rw [Bool.true_or];exact this
 | false => rw [if_neg (by simp)] at this;rw [Bool.false_or];exact this
theorem isw_j1 (c : Int) (b : Bool) (hb : b = true → wLow c = true) (hn : b = false → ¬ (48 ≤ c ∧ c ≤ 57) ∧ ¬ (65 ≤ c ∧ c ≤ 90)) : Ev (fun k => word_IsWord.j1 k c b) (wordB c) := by
 refine Ev.step (fun k => word_IsWord.j1.eq_2 ..) ?_
 have hl : b = false → ∀ d : Bool,(d = true ↔ (97 ≤ c ∧ c ≤ 122) ∨ c = 95) → d = wLow c := fun h d hd => by
  have := hn h
  rw [Bool.eq_iff_iff,hd];unfold wLow;rw [decide_eq_true_iff];omega
 by_cases h : b = true
 ·exact ev_pos h (isw_at c b (by rw [h,hb h]))
 ·have hf := eq_false_of_ne_true h
  refine ev_neg h ?_
  by_cases h1 : c ≥ 97
  ·refine ev_pos h1 ?_
   by_cases h2 : c ≤ 122
   ·exact ev_pos h2 (isw_at c _ (hl hf _ (by simp;omega)))
   ·exact ev_neg h2 (isw_at c _ (hl hf _ (by simp;omega)))
  ·exact ev_neg h1 (isw_at c _ (hl hf _ (by simp;omega)))
theorem isw_j0 (c : Int) (b : Bool) (hb : b = true → wLow c = true) (hn : b = false → ¬ (48 ≤ c ∧ c ≤ 57)) : Ev (fun k => word_IsWord.j0 k c b) (wordB c) := by
 refine Ev.step (fun k => word_IsWord.j0.eq_2 ..) ?_
 by_cases h : b = true
 ·exact ev_pos h (isw_at c b (by rw [h,hb h]))
 ·have hf := hn (eq_false_of_ne_true h)
  refine ev_neg h ?_
  by_cases h1 : c ≥ 65
  ·exact ev_pos h1 (isw_j1 c _ (fun h2 => by have := of_decide_eq_true h2;unfold wLow;rw [decide_eq_true_iff];omega) (fun h2 => by have := of_decide_eq_false h2;omega))
  ·exact ev_neg h1 (isw_j1 c _ (by simp) (fun _ => by omega))
/-- What word.IsWord answers. -/
theorem isword_ans (c : Int) : Ev (fun k => word_IsWord.f k c) (wordB c) := by
 unfold word_IsWord.f
 by_cases h1 : c ≥ 48
 ·exact ev_pos h1 (isw_j0 c _ (fun h2 => by have := of_decide_eq_true h2;unfold wLow;rw [decide_eq_true_iff];omega) (fun h2 => by have := of_decide_eq_false h2;omega))
 ·exact ev_neg h1 (isw_j0 c _ (by simp) (fun _ => by omega))
end Go.Proofs.YtfmnmjoofnbnfaaDoor.Pu
end
section
namespace Go.Proofs.YtfmnmjoofnbnfaaDoor.U
open Go.RowKit Go.Shelf Go.Proofs.YtfmnmjoofnbnfaaDoor.Mu Go.Proofs.YtfmnmjoofnbnfaaDoor.Pu Go.Proofs.YtfmnmjoofnbnfaaDoor.Rg Go.Proofs.YtfmnmjoofnbnfaaDoorW.PrintWords Go.Proofs.YtfmnmjoofnbnfaaDoorW.PrintLast Go.Proofs.YtfmnmjoofnbnfaaDoorW.PrintMore
attribute [local go_sem] Oper.semAt_some
set_option linter.unusedVariables false
set_option linter.unusedSimpArgs false
def cellsP : List S63 → List Value
 | [] => []
 | c :: cs => .int .i64 c.f0 :: .int .i64 c.f1 :: cellsP cs
theorem cellsP_snoc (cs : List S63) (a b : Int) : cellsP (cs ++ [⟨a,b⟩]) = cellsP cs ++ [.int .i64 a,.int .i64 b] := by
 induction cs with
 | nil => rfl
 | cons x xs ih => simp [cellsP,ih]
theorem cellsP_len (cs : List S63) : (cellsP cs).length = cs.length * 2 := by
 induction cs with
 | nil => rfl
 | cons x xs ih => simp [cellsP,ih];omega
theorem reps_cellsP (w : World) (base : Nat) (ok : Nat → Prop) : ∀ cs : List S63,Reps (k63.M w base ok) 2 cs (cellsP cs)
 | [] => Reps.none _ _
 | c :: cs => Reps.c2 (k63_mkM w base ok c) (reps_cellsP w base ok cs)
theorem cellsP_set (p : List S63) (a b t : Int) : (cellsP (p ++ [⟨a,b⟩])).set (p.length * 2 + 1) (.int .i64 t) = cellsP (p ++ [⟨a,t⟩]) := by
 rw [cellsP_snoc,cellsP_snoc,List.set_append_right _ _ (by rw [cellsP_len];omega),cellsP_len,show p.length * 2 + 1 - p.length * 2 = 1 by omega]
 rfl
/-- What a call (or a new block) keeps. -/
theorem keep_below {X Y : World} {n₀ B C : Nat} {Pr : Nat → Prop} (hb : Below X.heap.size X Y) (hn : n₀ ≤ X.heap.size) : KeepsFrom C X Y ∧ KeepB n₀ Pr B X Y :=
 ⟨KeepsFrom.of_grownBy (row := none) ⟨hb.os,hb.tape,hb.output,hb.size,fun i hi _ => hb.block i hi⟩ (fun _ e => by cases e),KeepB.of_below hn hb⟩
/-- What a store into one block keeps. -/
theorem keep_set {X : World} {n₀ B C b j : Nat} {Pr : Nat → Prop} (hn : n₀ ≤ X.heap.size) (hb0 : n₀ ≤ b) (hB : b < B) (hPr : ∀ k,Pr k → k ≠ b) (v : Value) :
  KeepsFrom C X (X.setCell ⟨b,j,none⟩ v) ∧ KeepB n₀ Pr B X (X.setCell ⟨b,j,none⟩ v) := by
 refine ⟨(KeepsOthers.setCell X _ v).from C,?_,?_⟩
 ·exact (Below.refl n₀ X).setCell (p := ⟨b,j,none⟩) hb0 v
 ·intro k o hk ho _
  have h5 : k ≠ b := by
   rcases hk with hk | hk
   ·exact hPr k hk
   ·omega
  exact (Below.heap_setCell X ⟨b,j,none⟩ v k h5).trans ho
/-- What the variables of Spans hold behind the clusters pre. -/
structure SpInv (w : World) (s : ByteArray) (st : Bool × List S63) (B : Nat) (W : World) : Prop where
 all : ∃ v,Boxed W (w.heap.size + 1) 46 v ∧ W.ownsRow w.heap.size 63 2 v st.2.length (cellsP st.2) ∧ (∀ g,v.ownBlock = some g → g < B)
 txt : Boxed W w.heap.size 9 (.string s)
 inn : Boxed W (w.heap.size + 2) 4 (.bool st.1)
 cls : Boxed W (w.heap.size + 3) 9 (.string s)
 bel : Below w.heap.size w W
 low : w.heap.size + 3 < B
theorem SpInv.grow {w : World} {s : ByteArray} {st : Bool × List S63} {B C : Nat} {X Y : World} {row : Option Nat} (h : SpInv w s st B X) (hC : w.heap.size ≤ C) (hg : X.grownBy Y row) (hr : ∀ r,row = some r → C ≤ r ∧ ∃ o : Obj,X.heap[r]? = some o ∧ o.isCells = false) : SpInv w s st B Y := by
 have hr' : ∀ r,row = some r → ∃ o : Obj,X.heap[r]? = some o ∧ o.isCells = false := fun r e => (hr r e).2
 refine ⟨?_,boxed_grow h.txt hg hr',boxed_grow h.inn hg hr',boxed_grow h.cls hg hr',h.bel.grown hg h.bel.size (fun k e => Nat.le_trans hC (hr k e).1),h.low⟩
 have := holdsRow_own w.heap.size (w.heap.size + 1) 46 63 2 (fun (q : Bool × List S63) => q.2.length) (fun q => cellsP q.2) (fun _ v => ∀ g,v.ownBlock = some g → g < B) st X Y row h.all hg hr'
 exact this
theorem SpInv.below {w : World} {s : ByteArray} {st : Bool × List S63} {B : Nat} {X Y : World} (h : SpInv w s st B X) (hb : Below X.heap.size X Y) : SpInv w s st B Y := by
 obtain ⟨v,h1,h2,h3⟩ := h.all
 exact ⟨⟨v,boxed_below h1 hb,pw_own_below h2 hb,h3⟩,boxed_below h.txt hb,boxed_below h.inn hb,boxed_below h.cls hb,h.bel.trans (hb.mono h.bel.size),h.low⟩
theorem SpInv.mono {w : World} {s : ByteArray} {st : Bool × List S63} {B B' : Nat} {W : World} (h : SpInv w s st B W) (hB : B ≤ B') : SpInv w s st B' W := by
 obtain ⟨v,h1,h2,h3⟩ := h.all
 have := h.low
 exact ⟨⟨v,h1,h2,fun g hg => Nat.lt_of_lt_of_le (h3 g hg) hB⟩,h.txt,h.inn,h.cls,h.bel,by omega⟩
/-- 'in' is told anew. -/
theorem SpInv.setIn {w : World} {s : ByteArray} {st : Bool × List S63} {B : Nat} {X : World} (h : SpInv w s st B X) (i : Bool) : SpInv w s (i,st.2) B (X.setCell ⟨w.heap.size + 2,0,none⟩ (.bool i)) := by
 obtain ⟨v,h1,h2,h3⟩ := h.all
 have hsz := h.bel.size
 have hne := h.inn.not_row (by decide) h2
 exact ⟨⟨v,h1.other (by omega) _,h2.kept (grownBy_setCell' X _ _) (.inr (fun e => hne e.symm)),h3⟩,h.txt.other (by omega) _,h.inn.set _,h.cls.other (by omega) _,h.bel.trans (belowAt w.heap.size (w.heap.size + 2) _ hsz (by omega)),h.low⟩
/-- The last word's end is told anew. -/
theorem SpInv.last {w : World} {s : ByteArray} {i : Bool} {p : List S63} {a b : Int} {B : Nat} {X : World} (h : SpInv w s (i,p ++ [⟨a,b⟩]) B X) :
  ∃ g cap,Boxed X (w.heap.size + 1) 46 (.slice (some ⟨g,0,none⟩) (p.length + 1) cap) ∧ X.cell? ⟨g,p.length * 2 + 1,none⟩ = some (.int .i64 b) ∧ X.frozen? ⟨g,p.length * 2 + 1,none⟩ = false ∧
   ∀ (t : Int),SpInv w s (i,p ++ [⟨a,t⟩]) B (X.setCell ⟨g,p.length * 2 + 1,none⟩ (.int .i64 t)) ∧ ∀ C,KeepsFrom C X (X.setCell ⟨g,p.length * 2 + 1,none⟩ (.int .i64 t)) ∧ KeepB w.heap.size (fun k => k = w.heap.size + 3) B X (X.setCell ⟨g,p.length * 2 + 1,none⟩ (.int .i64 t)) := by
 obtain ⟨v,h1,h2,h3⟩ := h.all
 have hl : (p ++ [(⟨a,b⟩ : S63)]).length = p.length + 1 := by simp
 have hl2 : (p ++ [(⟨a,b⟩ : S63)]).length = (p ++ [(⟨a,b⟩ : S63)]).length := rfl
 simp only [hl] at h2
 obtain ⟨g,cap,rfl⟩ := ownsRow_succ h2
 have hgB : g < B := h3 g rfl
 have hg0 : w.heap.size ≤ g := own_base h2 g rfl
 have hsz := h.bel.size
 have hb1 := h1.not_row (by decide) h2
 have hb2 := h.txt.not_row (by decide) h2
 have hb3 := h.inn.not_row (by decide) h2
 have hb4 := h.cls.not_row (by decide) h2
 refine ⟨g,cap,h1,?_,h2.frozenAt _,fun t => ⟨?_,fun C => ?_⟩⟩
 ·rw [h2.cellAt _ (by omega),cellsP_snoc,List.getElem?_append_right (by rw [cellsP_len];omega),cellsP_len,show p.length * 2 + 1 - p.length * 2 = 1 by omega];rfl
 ·obtain ⟨ho,hg⟩ := h2.stored (p.length * 2 + 1) (.int .i64 t)
  rw [cellsP_set] at ho
  refine ⟨⟨_,h1.kept hg hb1,by simpa using ho,h3⟩,h.txt.kept hg hb2,h.inn.kept hg hb3,h.cls.kept hg hb4,h.bel.grown hg hsz (fun k e => by cases e;exact hg0),h.low⟩
 ·exact keep_set hsz hg0 hgB (fun k hk e => hb4 (by rw [← hk,e];rfl)) _
theorem SpInv.appended {w : World} {s : ByteArray} {i : Bool} {L : List S63} {v v' : Value} {t' : S63} {B : Nat} {W w1 : World} {tmp : Obj} (h : SpInv w s (i,L) B W)
  (hv : Boxed W (w.heap.size + 1) 46 v) (hrow : W.ownsRow w.heap.size 63 2 v L.length (cellsP L)) (hvB : ∀ g,v.ownBlock = some g → g < B)
  (hown' : w1.ownsRow w.heap.size 63 2 v' (L.length + 1) (cellsP L ++ [.int .i64 t'.f0,.int .i64 t'.f1])) (hgrow : (W.alloc tmp).grownBy w1 v.ownBlock) :
  Boxed w1 (w.heap.size + 1) 46 v ∧ SpInv w s (i,L ++ [t']) (w1.setCell ⟨w.heap.size + 1,0,none⟩ v').heap.size (w1.setCell ⟨w.heap.size + 1,0,none⟩ v') ∧
   ∀ C,KeepsFrom C W (w1.setCell ⟨w.heap.size + 1,0,none⟩ v') ∧ KeepB w.heap.size (fun k => k = w.heap.size + 3) B W (w1.setCell ⟨w.heap.size + 1,0,none⟩ v') := by
 have hsz := h.bel.size
 have hlow := h.low
 obtain ⟨hv1,hv2,hr2,hk2,hb2⟩ := hv.appended (by decide) hrow hsz (by omega) hown' hgrow
 have hkb := appended_keepB (v' := v') (Pr := fun k => k = w.heap.size ∨ k = w.heap.size + 2 ∨ k = w.heap.size + 3) (B := B) (outB := w.heap.size + 1) hgrow (by omega) (fun k hk => ⟨by rcases hk with rfl | rfl | rfl <;> omega,by
  rcases hk with rfl | rfl | rfl
  ·exact h.txt.not_row (by decide) hrow
  ·exact h.inn.not_row (by decide) hrow
  ·exact h.cls.not_row (by decide) hrow⟩) hvB
 have e : cellsP L ++ [.int .i64 t'.f0,.int .i64 t'.f1] = cellsP (L ++ [t']) := (cellsP_snoc L t'.f0 t'.f1).symm
 rw [e] at hr2
 have hcl : Boxed (w1.setCell ⟨w.heap.size + 1,0,none⟩ v') (w.heap.size + 3) 9 (.string s) := hkb _ _ (.inl (.inr (.inr rfl))) h.cls rfl
 refine ⟨hv1,⟨⟨v',hv2,by rw [List.length_append];exact hr2,fun g hg => own_lt hr2 g hg⟩,hkb _ _ (.inl (.inl rfl)) h.txt rfl,hkb _ _ (.inl (.inr (.inl rfl))) h.inn rfl,hcl,h.bel.trans hb2,hcl.lt⟩,fun C => ⟨hk2.from C,hb2,fun k o hk ho hc => hkb k o ?_ ho hc⟩⟩
 rcases hk with hk | hk
 ·exact .inl (.inr (.inr hk))
 ·exact .inr hk
set_option maxRecDepth 100000 in
set_option maxHeartbeats 4000000 in
theorem spans_any (s : ByteArray) (w : World) (hs : s.size ≤ 1099511627776) (hT : Lib.Utf8Tabs 1 2 w) :
  Calls Tryd.prog 19 #[.string s] w fun e w' => ∃ v0_ : Value,e = .returned v0_ ∧ Kd.R k63 63 w' w.heap.size (fun _ => True) v0_ (spansL s) ∧ Below w.heap.size w w' := by
 have hlen : (clusL s).length ≤ s.size := clusL_length s
 obtain ⟨i0,hi,hz0,hz1,hz2⟩ := info_parts info63
 refine (callsIn_wide (n := 6)).1 ?_
 refine callsIn_of_wp_marks Tryd.func19 rfl trivial ?_ rfl
 simp only [Tryd.ntmps19,List.size_toArray,List.length_cons,List.length_nil,Nat.reduceAdd,Nat.reduceSub,Array.replicate_succ,Array.replicate_zero,List.push_toArray,List.append_toArray,List.nil_append,List.cons_append]
 gi_wp2_with (refine ⟨trivial,?_⟩;gi_at_call 35;refine (callsIn_wide.2 (cwalk_calls s _)).mono ?_;rintro e w' ⟨rfl,rfl⟩)
 simp only [Nat.add_assoc,Nat.reduceAdd]
 obtain ⟨W0,hW0⟩ : ∃ W0,(((w.alloc (.cells #[.string s] 9)).alloc (.cells #[.slice none 0 0] 46)).alloc (.cells #[.bool false] 4)).alloc (.cells #[.string s] 9) = W0 := ⟨_,rfl⟩
 rw [hW0]
 have hsz : W0.heap.size = w.heap.size + 4 := by rw [← hW0];simp
 have hI0 : SpInv w s (false,[]) (w.heap.size + 4) W0 := by
  rw [← hW0]
  refine ⟨⟨_,?_,World.ownsRow_nil _ _ _ _,by simp [Value.ownBlock]⟩,(((Boxed.new w _ _).alloc _).alloc _).alloc _,?_,?_,?_,by omega⟩
  ·have := Boxed.new (w.alloc (.cells #[.string s] 9)) 46 (.slice none 0 0)
   rw [World.size_alloc] at this
   exact (this.alloc _).alloc _
  ·have := Boxed.new ((w.alloc (.cells #[.string s] 9)).alloc (.cells #[.slice none 0 0] 46)) 4 (.bool false)
   rw [World.size_alloc,World.size_alloc] at this
   exact this.alloc _
  ·have := Boxed.new (((w.alloc (.cells #[.string s] 9)).alloc (.cells #[.slice none 0 0] 46)).alloc (.cells #[.bool false] 4)) 9 (.string s)
   rw [World.size_alloc,World.size_alloc,World.size_alloc] at this
   exact this
  ·exact ((((Below.refl _ w).alloc (Nat.le_refl _) _).alloc (by simp) _).alloc (by simp;omega) _).alloc (by simp;omega) _
 clear hW0
 refine range_outer (α := S74) rfl (by omega) (gf := 66) (lb := #[.pointer (some ⟨w.heap.size + 3,0,none⟩)]) rfl trivial (enters_of Tryd.func66 (by kernel_rfl) rfl)
  (cwalk1_seq 5 (by omega) w W0 s (w.heap.size + 3) hs hT hI0.bel hI0.cls) (Below.refl _ _) (fun _ => rfl) (by omega)
  (fun (B : Nat) (pre : List S74) (W : World) => SpInv w s (spF s pre) B W)
  (fun _ _ _ => False)
  (fun B pre X Y row h hg hr => h.grow (by omega) hg hr)
  (fun B B' pre W hBB h => h.mono hBB)
  (fun _ _ _ _ _ hs _ _ => hs)
  (by rw [hsz];exact hI0)
  (fun (x : S74) (a' : Act) (W : World) => ∃ Bx,Hid (W.heap[Bx]? = some (.cells #[.int .i64 x.f0,.int .i64 x.f1,.int .i64 x.f2,.int .i64 x.f3] 74 (0,0))) ∧ a' = { tmps := #[.string s,.pointer (some ⟨w.heap.size,0,none⟩),.slice none 0 0,.pointer (some ⟨w.heap.size + 1,0,none⟩),.pointer (some ⟨w.heap.size + 2,0,none⟩),.pointer (some ⟨Bx,0,none⟩),undef,undef,undef,.string s,.func (.func 66) #[] #[.pointer (some ⟨w.heap.size + 3,0,none⟩)],.agg #[.int .i64 x.f0,.int .i64 x.f1,.int .i64 x.f2,.int .i64 x.f3],undef,undef,undef,undef,undef,undef,undef,undef,undef,undef,undef,undef,undef,undef,undef,undef,undef,undef,undef,undef,undef,undef,undef,undef,undef,undef,undef,undef,undef,undef,undef,undef,undef,undef,undef],defers := [] })
  (fun x a' _ X Y row hs hg hr => by
   obtain ⟨Bx,h1,h2⟩ := hs
   refine ⟨Bx,?_,h2⟩
   refine (hg.block Bx (Array.getElem?_eq_some_iff.1 h1).1 (fun e => ?_)).trans h1
   obtain ⟨_,o,ho,hc⟩ := hr Bx e.symm
   rw [show X.heap[Bx]? = _ from h1] at ho;cases ho;cases hc)
  ?assign ?body ?done ?stop
 case assign =>
  rintro l B pre x W K hCW hBW hI hK
  have hsz1 := hI.bel.size
  gi_wp2
  exact hK _ _ ((KeepsOthers.alloc _ _).from _) (KeepB.of_below hsz1 ((Below.refl _ W).alloc (Nat.le_refl _) _)) (hI.below ((Below.refl _ W).alloc (Nat.le_refl _) _)) ⟨W.heap.size,Lib.hid (World.alloc_heap_new W _),rfl⟩
 case body =>
  rintro l B pre x a' W hl hCW hr hBW hI ⟨Bx,hBx,rfl⟩ hlt hpx
  obtain ⟨i,hci,hiS,rfl⟩ : ∃ i : Nat,CB s i ∧ i < s.size ∧ x = clAt s i := clus_mem' s s.size 0 (cb_zero s) x (hpx.subset (by simp))
  obtain ⟨q1,q2,q3,hq⟩ : ∃ q1 q2 q3,clAt s i = ⟨(i : Int),q1,q2,q3⟩ := ⟨_,_,_,rfl⟩
  rw [hq] at hBx hpx ⊢
  clear hq
  have hst : Hid (spF s (pre ++ [(⟨(i : Int),q1,q2,q3⟩ : S74)]) = spStep s (spF s pre) ⟨(i : Int),q1,q2,q3⟩) := Lib.hid (spF_snoc _ _ _)
  obtain ⟨hlen2,hshape⟩ := spF_shape s pre
  obtain ⟨⟨inn,L⟩,hL⟩ : ∃ st,spF s pre = st := ⟨_,rfl⟩
  rw [hL] at hI hst hlen2 hshape
  have hlt2 : pre.length < s.size := Nat.lt_of_lt_of_le hlt hlen
  have hLn : L.length < s.size := Nat.lt_of_le_of_lt hlen2 hlt2
  clear hL hlt hlen2 hpx
  have hsz1 := hI.bel.size
  have hkA : Hid (∃ k,unit_At.f k s (i : Int) = some (uC s i,(uN s i : Int),true)) := Lib.hid (by
   obtain ⟨k,hk⟩ := Ev.rounds (at_ans s hs (i : Int))
   refine ⟨k,hk.trans ?_⟩
   unfold atA
   rw [if_pos ⟨(bdB_iff s _).2 ((bdI_nat s i).2 hci.1),by omega⟩,Int.toNat_natCast])
  have hkW : Hid (∃ k,word_IsWord.f k (uC s i) = some (wAt s i)) := Lib.hid (Ev.rounds (isword_ans (uC s i)))
  obtain ⟨r,hr2⟩ : ∃ r,wAt s i = r := ⟨_,rfl⟩
  obtain ⟨c,hc2⟩ : ∃ c,uC s i = c := ⟨_,rfl⟩
  obtain ⟨n,hn2⟩ : ∃ n,uN s i = n := ⟨_,rfl⟩
  rw [hc2,hn2] at hkA
  rw [hc2,hr2] at hkW
  have hr2 := Lib.hid hr2
  clear hc2 hn2
  obtain ⟨kA,hkA⟩ := hkA.out
  obtain ⟨kW,hkW⟩ := hkW.out
  have hkA := Lib.hid hkA
  have hkW := Lib.hid hkW
  have hTw := tabs_below hT hI.bel
  have ct := hI.txt.cell
  have hcx0 : W.cell? ⟨Bx,0,none⟩ = some (.int .i64 i) := by simp [World.cell?,show W.heap[Bx]? = _ from hBx.out]
  have hu61 := Tryd.underlying74
  have hu42 := Tryd.underlying65
  have hu32 := Tryd.underlying63
  dsimp only
  gi_wp2_with (refine ⟨trivial,?_⟩;gi_at_call 32;refine (callsIn_wide.2 (unit_At.calls kA s i c n true W hTw hkA.out)).mono ?_;rintro e w1 ⟨rfl,hb1⟩)
  have hcy : ∀ (w2 : World),Below W.heap.size W w2 → ∀ (j : Nat) (u : Value),#[Value.int .i64 i,.int .i64 q1,.int .i64 q2,.int .i64 q3][j]? = some u → w2.cell? ⟨Bx,j,none⟩ = some u := fun w2 hb j u hj => by
   have e : w2.heap[Bx]? = _ := (hb.block Bx (Array.getElem?_eq_some_iff.1 hBx.out).1).trans hBx.out
   simp [World.cell?,e]
   simpa using hj
  cases r
  ·have hst2 : Hid (spF s (pre ++ [(⟨(i : Int),q1,q2,q3⟩ : S74)]) = (false,L)) := Lib.hid (hst.out.trans (spStep_off s inn L _ (by rw [Int.toNat_natCast];exact hr2.out)))
   gi_wp2_with (refine ⟨trivial,?_⟩;gi_at_call 36;refine (callsIn_wide.2 (word_IsWord.calls kW c false _ hkW.out)).mono ?_;rintro e w2 ⟨rfl,hb2⟩;have hb12 : Below W.heap.size W w2 := (hb1.alloc hb1.size _).trans (hb2.mono (Nat.le_trans hb1.size (by simp)));have hI2 := hI.below hb12;have cIn := hI2.inn.cell;have fIn := hI2.inn.frozen)
   have hk1 := fun C => keep_below (C := C) (B := B) (Pr := fun k => k = w.heap.size + 3) hb12 hsz1
   have hk2 := fun C => keep_set (C := C) (B := B) (b := w.heap.size + 2) (j := 0) (Pr := fun k => k = w.heap.size + 3) hI2.bel.size (by omega) (by have := hI.low;omega) (fun k hk => by omega) (.bool false)
   exact ⟨(hk1 _).1.trans (hk2 _).1,(hk1 0).2.trans (hk2 0).2,by show SpInv w s (spF s _) _ _;rw [hst2.out];exact (hI2.setIn false).mono (by have := hb12.size;have := (hk2 0).1.size;omega)⟩
  ·cases inn
   ·have hst2 : Hid (spF s (pre ++ [(⟨(i : Int),q1,q2,q3⟩ : S74)]) = (true,L ++ [⟨(i : Int),q1⟩])) := Lib.hid (hst.out.trans (spStep_new s L _ (by rw [Int.toNat_natCast];exact hr2.out)))
    gi_wp2_with (first | (refine ⟨trivial,?_⟩;gi_at_call 36;refine (callsIn_wide.2 (word_IsWord.calls kW c true _ hkW.out)).mono ?_;rintro e w2 ⟨rfl,hb2⟩;have hb12 : Below W.heap.size W w2 := (hb1.alloc hb1.size _).trans (hb2.mono (Nat.le_trans hb1.size (by simp)));have hI2 := hI.below hb12;have hcy0 := hcy w2 hb12 0 _ rfl;have hcy1 := hcy w2 hb12 1 _ rfl;have cIn := hI2.inn.cell;have fIn := hI2.inn.frozen;have hsz2 := hI2.bel.size;obtain ⟨v,hv,hrow,hvB⟩ := hI2.all;have cAll := hv.cell) | (gi_at_builtin;refine wpListIn_append_own _ rfl _ _ 46 rfl w.heap.size 63 i0 _ 2 16 Tryd.underlying46 hi hz0 hz1 hz2 rfl (by decide) _ _ _ rfl (hrow.alloc _) ⟨w2.heap.size,0,none⟩ 1 1 [.int .i64 i,.int .i64 q1] rfl rfl (cells_two_new _ _ _ _) (by simp [Value.oneCell']) (by unfold maxLen;omega) (by omega) (by simp;omega) ?_;intro v' w3 hown' hgrow _;obtain ⟨g',cap',rfl⟩ := ownsRow_succ hown';obtain ⟨hv1,hI3,hk3⟩ := hI2.appended (t' := ⟨(i : Int),q1⟩) hv hrow hvB hown' hgrow;have hc1 := hv1.cell;have hf1 := hv1.frozen;have cIn3 := hI3.inn.cell;have fIn3 := hI3.inn.frozen))
    have hk1 := fun C => keep_below (C := C) (B := B) (Pr := fun k => k = w.heap.size + 3) hb12 hsz1
    have hk4 := fun C => keep_set (C := C) (B := B) (b := w.heap.size + 2) (j := 0) (Pr := fun k => k = w.heap.size + 3) hI3.bel.size (by omega) (by have := hI.low;omega) (fun k hk => by omega) (.bool true)
    exact ⟨((hk1 _).1.trans (hk3 _).1).trans (hk4 _).1,((hk1 0).2.trans (hk3 0).2).trans (hk4 0).2,by show SpInv w s (spF s _) _ _;rw [hst2.out];exact (hI3.setIn true).mono (hk4 0).1.size⟩
   ·obtain ⟨p,a,b,rfl⟩ := hshape rfl
    have hwp : wrap64 (p.length : Int) = (p.length : Int) := by rw [List.length_append] at hLn;unfold wrap64;omega
    have hst2 : Hid (spF s (pre ++ [(⟨(i : Int),q1,q2,q3⟩ : S74)]) = (true,p ++ [⟨a,q1⟩])) := Lib.hid (hst.out.trans (spStep_on s p a b _ (by rw [Int.toNat_natCast];exact hr2.out)))
    gi_wp2_with (refine ⟨trivial,?_⟩;gi_at_call 36;refine (callsIn_wide.2 (word_IsWord.calls kW c true _ hkW.out)).mono ?_;rintro e w2 ⟨rfl,hb2⟩;have hb12 : Below W.heap.size W w2 := (hb1.alloc hb1.size _).trans (hb2.mono (Nat.le_trans hb1.size (by simp)));have hI2 := hI.below hb12;have hcy0 := hcy w2 hb12 0 _ rfl;have hcy1 := hcy w2 hb12 1 _ rfl;have cIn := hI2.inn.cell;have fIn := hI2.inn.frozen;obtain ⟨g,cap,hbx,hcg,hfg,hset⟩ := hI2.last;have cAll := hbx.cell;have hI3 := (hset q1).1;have cIn3 := hI3.inn.cell;have fIn3 := hI3.inn.frozen)
    clear hwp
    have hk1 := fun C => keep_below (C := C) (B := B) (Pr := fun k => k = w.heap.size + 3) hb12 hsz1
    have hk4 := fun C => keep_set (C := C) (B := B) (b := w.heap.size + 2) (j := 0) (Pr := fun k => k = w.heap.size + 3) hI3.bel.size (by omega) (by have := hI.low;omega) (fun k hk => by omega) (.bool true)
    exact ⟨((hk1 _).1.trans ((hset q1).2 _).1).trans (hk4 _).1,((hk1 0).2.trans ((hset q1).2 0).2).trans (hk4 0).2,by show SpInv w s (spF s _) _ _;rw [hst2.out];exact (hI3.setIn true).mono (Nat.le_trans hBW (Nat.le_trans hb12.size (Nat.le_trans ((hset q1).2 0).1.size (hk4 0).1.size)))⟩
 case done =>
  rintro D ys W hD hys hI hK
  obtain ⟨v,hv,hrow,_⟩ := hI.all
  have hc := hv.cell
  gi_wp2
  refine ⟨by simp,.inl ⟨_,_,rfl,run_takeDeferred hK,?_⟩⟩
  refine ⟨_,results_tmp rfl _ _ _,v,rfl,⟨fun _ _ => trivial,cellsP (spansL s),?_,reps_cellsP _ _ _ _⟩,hI.bel.trans (belowK_b (w := w) (Nat.le_refl _) W D _ _ (by omega) hK rfl rfl)⟩
  have e : ys = clusL s := hys
  have h2 := ownsRow_putObj hrow (.deferred none) hK rfl
  rw [e] at h2
  exact h2
 case stop =>
  rintro D c pre W _ _ h _
  exact h.elim
def word_Spans.f (a0 : ByteArray) : Option (List (S63)) := if a0.size ≤ 1099511627776 then some (spansL a0) else none
theorem word_Spans.calls (a0 : ByteArray) (r : List (S63)) (w : World) (hT : Lib.Utf8Tabs 1 2 w) (h : word_Spans.f a0 = some r) :
  Calls Tryd.prog 19 #[.string a0] w fun e w' => ∃ v0_ : Value,e = .returned (v0_) ∧ Kd.R k63 63 w' w.heap.size (fun _ => True) v0_ r ∧ Below w.heap.size w w' := by
 unfold word_Spans.f at h
 split at h
 ·obtain rfl := Option.some.inj h
  rename_i hs
  exact spans_any a0 w hs hT
 ·cases h
end Go.Proofs.YtfmnmjoofnbnfaaDoor.U
end
