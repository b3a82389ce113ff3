/- What the law LayoutLays reaches of this seat's own texts, merged; what nothing uses is left out. -/
import Derived.Test.YtnpjaaldppemlaaDoorZLayoutLays0
import Derived.Test.YtnpjaaldppemlaaDoorZLayoutLays1
import Derived.Test.YtnpjaaldppemlaaDoorZLayoutLays2
import Derived.Test.YtnpjaaldppemlaaDoorZLayoutLays3
import Derived.Test.YtnpjaaldppemlaaDoorZLayoutLays4
import Derived.Test.YtnpjaaldppemlaaDoorZLayoutLays5
import Derived.Test.YtnpjaaldppemlaaDoorZLayoutLays6
section
namespace Go.Proofs.YtnpjaaldppemlaaDoor.Pu
open Go Go.RowKit Go.Proofs.YtnpjaaldppemlaaDoor.Mu Go.Proofs.YtnpjaaldppemlaaDoor.U Go.Proofs.YtnpjaaldppemlaaDoorW.PrintWords Go.Proofs.YtnpjaaldppemlaaDoorW.PrintLast Go.Proofs.YtnpjaaldppemlaaDoorW.PrintMore
set_option linter.unusedVariables false
theorem glued_j0 (u v : Int) (b : Bool) : Ev (fun k => cluster_glued.j0 k u v b) (if b = true then true else (decide (cls v = 3) && (!decide (cls u = 1) && !decide (cls u = 2)))) := by
 refine Ev.step (fun k => cluster_glued.j0.eq_2 ..) (ev_val (fun hb => ev_pos hb (Ev.now _)) (fun hb => ev_neg hb ?_))
 refine Ev.bind (class_ans u) (Ev.bind (class_ans v) ?_)
 by_cases h3 : cls v = 3
 ·refine ev_pos h3 ?_
  by_cases h1 : cls u = 1
  ·exact ev_pos h1 (ev_now (by simp [h1]))
  ·exact ev_neg h1 (ev_now (by by_cases h2 : cls u = 2 <;> simp [h1,h2,h3]))
 ·exact ev_neg h3 (ev_now (by simp [h3]))
theorem glued_ans (u v : Int) : Ev (fun k => cluster_glued.f k u v) (glueB u v) := by
 unfold cluster_glued.f
 by_cases h : u = 13
 ·refine ev_pos h ?_
  have := glued_j0 u v (v == 10)
  have e : glueB u v = (if (v == 10) = true then true else (decide (cls v = 3) && (!decide (cls u = 1) && !decide (cls u = 2)))) := by
   unfold glueB
   by_cases hv : v = 10 <;> simp [h,hv]
  rw [e];exact this
 ·refine ev_neg h ?_
  have := glued_j0 u v false
  have e : glueB u v = (if false = true then true else (decide (cls v = 3) && (!decide (cls u = 1) && !decide (cls u = 2)))) := by
   unfold glueB
   simp [h]
  rw [e];exact this
theorem atA_nat {s : ByteArray} {x : Nat} (hb : Bd s x) (hx : x < s.size) : atA s x = (uC s x,(uN s x : Int),true) := by
 unfold atA
 rw [if_pos ⟨(bdB_iff s x).2 ((bdI_nat s x).2 hb),by omega⟩,Int.toNat_natCast]
theorem prevS_of {s : ByteArray} {x y : Nat} (hy : Bd s y) (h : y + uN s y = x) : PrevS s x y := by
 have := uN_pos s y
 exact prevS_in hy (by omega) (by omega)
theorem cboundary_j0 (s : ByteArray) (hs : s.size ≤ 1099511627776) (a : Int) (b : Bool) (hb : b = true ↔ (a ≤ 0 ∨ (s.size : Int) ≤ a)) : Ev (fun k => cluster_Boundary.j0 k s a b) (cbB s a) := by
 have hc := cbB_iff s a
 refine Ev.step (fun k => cluster_Boundary.j0.eq_2 ..) ?_
 by_cases h : b = true
 ·refine ev_pos h ?_
  have h1 := hb.1 h
  by_cases h0 : a = 0
  ·refine ev_pos h0 (ev_now ?_)
   subst h0
   exact (hc.2 (cbI_zero s)).symm
  ·refine ev_neg h0 (ev_now ?_)
   rw [Bool.eq_iff_iff,hc,beq_iff_eq]
   constructor
   ·intro e;rw [e];exact cbI_size s
   ·intro hC;have := cbI_le hC;omega
 ·have h1 : ¬ (a ≤ 0 ∨ (s.size : Int) ≤ a) := fun h2 => h (hb.2 h2)
  refine ev_neg h (Ev.bind (boundary_ans s hs a) ?_)
  by_cases hB : bdB s a = true
  ·refine ev_pos hB ?_
   obtain ⟨x,rfl⟩ : ∃ x : Nat,a = x := ⟨a.toNat,by omega⟩
   have hbx : Bd s x := (bdI_nat s x).1 ((bdB_iff s x).1 hB)
   obtain ⟨y,hy,hyx⟩ := bd_prev s x hbx (by omega)
   have hp := uN_pos s y
   refine Ev.bind (prev_ev hs (by omega) (prevS_of hy hyx)) (Ev.bind (at_ans s hs y) (Ev.bind (at_ans s hs x) ?_))
   rw [atA_nat hy (by omega),atA_nat hbx (by omega)]
   refine Ev.bind (glued_ans (uC s y) (uC s x)) (ev_now ?_)
   rw [Bool.eq_iff_iff,hc,cbI_nat,cb_iff s x y hy hyx (by omega)]
   cases glueB (uC s y) (uC s x) <;> simp
  ·refine ev_neg hB (ev_now ?_)
   symm
   rw [← Bool.not_eq_true,hc]
   exact fun h2 => hB ((bdB_iff s a).2 h2.bd)
theorem cboundary_ans (s : ByteArray) (hs : s.size ≤ 1099511627776) (a : Int) : Ev (fun k => cluster_Boundary.f k s a) (cbB s a) := by
 unfold cluster_Boundary.f
 by_cases h : a ≤ 0
 ·exact ev_pos h (cboundary_j0 s hs a _ ⟨fun _ => .inl h,fun _ => rfl⟩)
 ·exact ev_neg h (cboundary_j0 s hs a _ (by rw [decide_eq_true_eq];omega))
theorem cboundary_yes {s : ByteArray} (hs : s.size ≤ 1099511627776) {a : Int} (h : CBI s a) : Ev (fun k => cluster_Boundary.f k s a) true := (cbB_iff s a).2 h ▸ cboundary_ans s hs a
theorem cboundary_no {s : ByteArray} (hs : s.size ≤ 1099511627776) {a : Int} (h : ¬ CBI s a) : Ev (fun k => cluster_Boundary.f k s a) false := by
 have : cbB s a = false := by rw [← Bool.not_eq_true,cbB_iff];exact h
 exact this ▸ cboundary_ans s hs a
theorem cnext_loop (s : ByteArray) (hs : s.size ≤ 1099511627776) : ∀ (n : Nat) (a : Int),(s.size : Int) - a ≤ n → 0 ≤ a → ∃ d,Ev (fun k => cluster_Next.l0 k s a) d ∧ CNextS s a d := by
 have hend : ∀ a : Int,(s.size : Int) ≤ a → ∃ d,Ev (fun k => cluster_Next.l0 k s a) d ∧ CNextS s a d := fun a h =>
  ⟨s.size,Ev.step (fun k => cluster_Next.l0.eq_2 ..) (ev_neg (by omega) (Ev.now _)),cbI_size s,.inr rfl,fun e he hae => by have := cbI_le he;omega⟩
 intro n
 induction n with
 | zero => intro a hn h0;exact hend a (by omega)
 | succ n ih =>
  intro a hn h0
  by_cases ha : a < (s.size : Int)
  ·obtain ⟨d,hE,hD⟩ := next_ans s hs a
   have hd := bdI_le hD.1
   have hda : a < d := by rcases hD.2.1 with h | h <;> omega
   by_cases hc : CBI s d
   ·refine ⟨d,Ev.step (fun k => cluster_Next.l0.eq_2 ..) (ev_pos ha (Ev.bind hE (Ev.bind (cboundary_yes hs hc) (ev_pos rfl (Ev.now _))))),hc,.inl hda,fun e he hae => hD.2.2 e he.bd hae⟩
   ·obtain ⟨d',hE',hD'⟩ := ih d (by omega) (by omega)
    refine ⟨d',Ev.step (fun k => cluster_Next.l0.eq_2 ..) (ev_pos ha (Ev.bind hE (Ev.bind (cboundary_no hs hc) (ev_neg (by simp) hE')))),hD'.1,?_,fun e he hae => ?_⟩
    ·rcases hD'.2.1 with h | h
     ·exact .inl (by omega)
     ·exact .inr h
    ·have h1 := hD.2.2 e he.bd hae
     refine hD'.2.2 e he ?_
     by_cases h2 : e = d
     ·subst h2;exact absurd he hc
     ·omega
  ·exact hend a (by omega)
theorem cnext_ans (s : ByteArray) (hs : s.size ≤ 1099511627776) (a : Int) : ∃ d,Ev (fun k => cluster_Next.f k s a) d ∧ CNextS s a d := by
 unfold cluster_Next.f
 by_cases h : a < 0
 ·exact ⟨0,ev_pos h (Ev.now _),cbI_zero s,.inl h,fun e he _ => (cbI_le he).1⟩
 ·obtain ⟨d,hE,hD⟩ := cnext_loop s hs s.size a (by omega) (by omega)
  exact ⟨d,ev_neg h hE,hD⟩
theorem cnext_ev {s : ByteArray} (hs : s.size ≤ 1099511627776) {a d : Int} (h : CNextS s a d) : Ev (fun k => cluster_Next.f k s a) d := by
 obtain ⟨d',hE,h'⟩ := cnext_ans s hs a;exact h.one h' ▸ hE
theorem cells_ans (c : Int) : Ev (fun k => width_Cells.f k c) (celB c) := by
 have hC : celB c = if cls c = 1 then 0 else if cls c = 4 ∨ (cls c = 2 ∧ c ≤ 127) then 2 else 1 := rfl
 unfold width_Cells.f
 refine Ev.bind (class_ans c) ?_
 by_cases h1 : cls c = 1
 ·exact ev_pos h1 (ev_now (by rw [hC,if_pos h1]))
 ·refine ev_neg h1 ?_
  by_cases h4 : cls c = 4
  ·exact ev_pos h4 (ev_now (by rw [hC,if_neg h1,if_pos (.inl h4)]))
  ·refine ev_neg h4 ?_
   by_cases h2 : cls c = 2
   ·refine ev_pos h2 ?_
    by_cases h5 : c ≤ 127
    ·exact ev_pos h5 (ev_now (by rw [hC,if_neg h1,if_pos (.inr ⟨h2,h5⟩)]))
    ·exact ev_neg h5 (ev_now (by rw [hC,if_neg h1,if_neg (by omega)]))
   ·exact ev_neg h2 (ev_now (by rw [hC,if_neg h1,if_neg (by omega)]))
theorem toList_bytes (s : ByteArray) : s.toList = s.data.toList := Lib.toList_data s
theorem uC_low (s : ByteArray) (x : Nat) (c : Nat) (hc : c < 128) : uC s x = c ↔ byt s x = c := by
 rcases uC_cases s x with h | h | h | h | h <;> omega
theorem uN_low (s : ByteArray) (x : Nat) (c : Nat) (hc : c < 128) (h : uC s x = c) : uN s x = 1 := by
 rcases uC_cases s x with h | h | h | h | h <;> omega
theorem prefix_nl (s : ByteArray) (x : Nat) (hx : x < s.size) : strings_HasPrefix.f (s.extract (x + 1) s.size) (⟨#[10]⟩ : ByteArray) = some (decide (x + 1 < s.size ∧ byt s (x + 1) = 10)) := by
 have hsz : (s.extract (x + 1) s.size).size = s.size - (x + 1) := size_extract _ _ _ (Nat.le_refl _)
 unfold strings_HasPrefix.f stringslite_HasPrefix.f
 rw [hsz]
 by_cases h : x + 1 < s.size
 ·rw [if_pos (by show ((s.size - (x + 1) : Nat) : Int) ≥ ((1 : Nat) : Int);omega),if_pos (by omega),if_pos (by show ((1 : Nat) : Int) ≤ _;omega)]
  show some _ = some _
  congr 1
  rw [Bool.eq_iff_iff,beq_iff_eq,decide_eq_true_eq,toList_bytes,toList_bytes,Lib.extract_data]
  have e : (s.extract (x + 1) s.size).data.toList = s.data.toList.drop (x + 1) := by
   rw [Lib.extract_data,List.take_of_length_le (by rw [List.length_drop,← Lib.size_eq];omega)]
  rw [e,List.drop_zero]
  have hl : x + 1 < s.data.toList.length := by rw [← Lib.size_eq];exact h
  rw [List.drop_eq_getElem_cons hl]
  show [s.data.toList[x + 1]] = [10] ↔ _
  have hb : byt s (x + 1) = (s.data.toList[x + 1]).toNat := by
   unfold byt
   rw [get!_eq,List.getD_eq_getElem?_getD,List.getElem?_eq_getElem hl];rfl
  rw [hb,List.cons.injEq]
  constructor
  ·rintro ⟨h1,_⟩;exact ⟨h,by rw [h1];rfl⟩
  ·rintro ⟨_,h1⟩;exact ⟨UInt8.toNat_inj.1 (by rw [h1];rfl),rfl⟩
 ·rw [if_neg (by show ¬ ((s.size - (x + 1) : Nat) : Int) ≥ ((1 : Nat) : Int);omega)]
  show some _ = some _
  congr 1
  symm
  rw [decide_eq_false_iff_not]
  omega
theorem made_ans (s : ByteArray) (hs : s.size ≤ 1099511627776) (x : Nat) (hb : Bd s x) (hx : x < s.size) (t : Int) : Ev (fun k => cluster_made.f k s x t) ((x : Int),t,clsAt s x,celAt s x) := by
 unfold cluster_made.f
 refine Ev.bind (at_ans s hs x) ?_
 rw [atA_nat hb hx]
 refine Ev.bind (class_ans (uC s x)) (Ev.bind (cells_ans (uC s x)) ?_)
 by_cases h : uC s x = 13
 ·have h1 := uN_low s x 13 (by omega) h
  have hw : wrap64 ((x : Int) + 1) = ((x + 1 : Nat) : Int) := by rw [w64 (by omega) (by omega)];omega
  refine ev_pos h ?_
  rw [hw]
  refine ev_pos (by omega) (ev_pos (by omega) (ev_some (prefix_nl s x hx) ?_))
  have hc : crlf s x ↔ (x + 1 < s.size ∧ byt s (x + 1) = 10) := by
   unfold crlf
   rw [h1,← uC_low s (x + 1) 10 (by omega)]
   exact ⟨fun h => h.2,fun h2 => ⟨h,h2⟩⟩
  unfold clsAt celAt
  by_cases hq : crlf s x
  ·rw [if_pos hq,if_pos hq]
   exact ev_pos (by rw [decide_eq_true_eq];exact hc.1 hq) (Ev.now _)
  ·rw [if_neg hq,if_neg hq]
   exact ev_neg (by rw [decide_eq_true_eq];exact fun h => hq (hc.2 h)) (Ev.now _)
 ·refine ev_neg h (ev_now ?_)
  unfold clsAt celAt
  rw [if_neg (fun hq => h hq.1),if_neg (fun hq => h hq.1)]
end Go.Proofs.YtnpjaaldppemlaaDoor.Pu
end
section
namespace Go.Proofs.YtnpjaaldppemlaaDoor.U
open Go.RowKit Go.Shelf Go.Proofs.YtnpjaaldppemlaaDoor.Mu Go.Proofs.YtnpjaaldppemlaaDoor.Pu Go.Proofs.YtnpjaaldppemlaaDoor.Rg Go.Proofs.YtnpjaaldppemlaaDoorW.PrintWords Go.Proofs.YtnpjaaldppemlaaDoorW.PrintLast Go.Proofs.YtnpjaaldppemlaaDoorW.PrintMore
attribute [local go_sem] Oper.semAt_some
set_option linter.unusedVariables false
set_option linter.unusedSimpArgs false
abbrev encC (c : S60) : Array Value := #[.agg #[.int .i64 c.f0,.int .i64 c.f1,.int .i64 c.f2,.int .i64 c.f3]]
set_option maxRecDepth 100000 in
set_option maxHeartbeats 2000000 in
/-- cluster.Walk's inner function: its contract. -/
theorem cwalk1_seq (n : Nat) (hn : 1 ≤ n) (w₀ w : World) (s : ByteArray) (Bs : Nat) (hs : s.size ≤ 1099511627776) (hT : Lib.Utf8Tabs 0 1 w₀) (hb : Below w₀.heap.size w₀ w) (hc : Boxed w Bs 9 (.string s)) :
  SeqB Fence.wide n Tryd.prog 52 #[.pointer (some ⟨Bs,0,none⟩)] encC w₀.heap.size (fun k => k = Bs) (fun xs => Hid (xs = clusL s)) (fun pre => pre <+: clusL s) (clusL s).length w := by
 intro l J Jx W hW hJ hJx hY h0
 refine callsIn_of_wp Tryd.func52 rfl trivial ?_ rfl
 simp only [Tryd.ntmps52,List.size_toArray,List.length_cons,List.length_nil,Nat.reduceAdd,Nat.reduceSub,Array.replicate_succ,Array.replicate_zero,List.push_toArray,List.append_toArray,List.nil_append,List.cons_append]
 gi_wp2
 gi_loopw [3] (fun v wr => ∃ (i : Nat) (pre : List S60),v = .int .i64 i ∧ i ≤ s.size ∧ Hid (CB s i) ∧ Hid (clusL s = pre ++ ctl s i) ∧ J pre wr ∧ Boxed wr Bs 9 (.string s) ∧ Below w₀.heap.size w₀ wr)
  (fun v _ => s.size - (intOf v).toNat)
 case atStart =>
  exact ⟨0,[],rfl,Nat.zero_le _,Lib.hid (cb_zero s),Lib.hid rfl,h0,(hW.block Bs hc.lt).trans hc,hb.trans (hW.mono hb.size)⟩
 case round =>
  obtain ⟨i,pre,rfl,hi,hcb0,hx,hJs,hbx,hbl⟩ := hrel
  have hcb := hbx.cell
  by_cases hlt : i < s.size
  ·have hlt' : (i : Int) < (s.size : Int) := by omega
   obtain ⟨t,ht⟩ : ∃ t,nxt s i = t := ⟨_,rfl⟩
   have ht1 : i < t := ht ▸ nxt_pos s i hlt
   have ht2 : t ≤ s.size := ht ▸ nxt_le s i hcb0.out.1 hlt
   obtain ⟨k1,hk1⟩ := Ev.rounds (cnext_ev hs (nxtS s i hcb0.out.1 hlt i (Int.le_refl _) (by rw [ht];omega)))
   rw [ht] at hk1
   have hk1 := Lib.hid hk1
   obtain ⟨k2,hk2⟩ := Ev.rounds (made_ans s hs i hcb0.out.1 hlt (t : Int))
   have hcl : Hid (clAt s i = ⟨(i : Int),(t : Int),clsAt s i,celAt s i⟩) := Lib.hid (by unfold clAt;rw [ht])
   obtain ⟨q2,hq2⟩ : ∃ q2,clsAt s i = q2 := ⟨_,rfl⟩
   obtain ⟨q3,hq3⟩ : ∃ q3,celAt s i = q3 := ⟨_,rfl⟩
   rw [hq2,hq3] at hk2 hcl
   have hk2 := Lib.hid hk2
   have hcbt : Hid (CB s t) := Lib.hid (ht ▸ nxt_cb s i hcb0.out.1 hlt)
   have hx2 : Hid (clusL s = pre ++ (⟨(i : Int),(t : Int),q2,q3⟩ : S60) :: ctl s t) := Lib.hid (by
    have := hx.out;rw [ctl_go s i hlt,hcl.out,ht] at this;exact this)
   clear hx hcl hq2 hq3 ht hcb0
   have hTw := tabs_below hT hbl
   gi_wp2_with (refine ⟨trivial,?_⟩;gi_at_call 18;refine (callsIn_wide.2 (cluster_Next.calls k1 s i t wr hTw hk1.out)).mono ?_;rintro e w1 ⟨rfl,hb1⟩;have hbx1 : Boxed w1 Bs 9 (.string s) := (hb1.block Bs hbx.lt).trans hbx;have hcb1 := hbx1.cell;have hT1 := tabs_below hTw hb1)
   gi_wp2_with (refine ⟨trivial,?_⟩;gi_at_call 53;refine (callsIn_wide.2 (cluster_made.calls k2 s i t i t q2 q3 w1 hT1 hk2.out)).mono ?_;rintro e w2 ⟨rfl,hb2⟩;have hb12 : Below wr.heap.size wr w2 := hb1.trans (hb2.mono hb1.size);obtain ⟨fn,tmps,assign,body,hy,hR⟩ := hY pre (⟨(i : Int),(t : Int),q2,q3⟩ : S60) wr w2 hJs hb12 (by rw [hx2.out];simp) ⟨ctl s t,by rw [hx2.out];simp⟩)
   refine hR.mono ?_
   rintro e W3 (⟨rfl,hJ3,hk3⟩ | ⟨rfl,hJx3⟩)
   ·have hbx3 : Boxed W3 Bs 9 (.string s) := hk3.2 Bs _ (.inl rfl) ((hb12.block Bs hbx.lt).trans hbx) rfl
    have hbl3 : Below w₀.heap.size w₀ W3 := (hbl.trans (hb12.mono hbl.size)).trans hk3.1
    gi_wp2
    go_roundw
    case rel => exact ⟨t,pre ++ [(⟨(i : Int),(t : Int),q2,q3⟩ : S60)],rfl,ht2,hcbt,Lib.hid (by rw [hx2.out];simp),hJ3,hbx3,hbl3⟩
    case measure => simp [intOf];omega
   ·gi_wp2
    refine bodyPost_ret (results_none rfl _ _ _) rfl ?_
    exact ⟨⟨_,rfl⟩,.inr ⟨_,⟨ctl s t,by rw [hx2.out];simp⟩,hJx3⟩⟩
  ·have hge : ¬ ((i : Int) < (s.size : Int)) := by omega
   gi_wp2
   go_end0
   have hz : ctl s i = [] := ctl_end s i (by omega)
   exact ⟨⟨_,rfl⟩,.inl ⟨pre,Lib.hid (by rw [hx.out,hz,List.append_nil]),hJs⟩⟩
theorem cwalk_calls (s : ByteArray) (w : World) :
  Calls Tryd.prog 35 #[.string s] w fun e w' => e = .returned (.func (.func 52) #[] #[.pointer (some ⟨w.heap.size,0,none⟩)]) ∧ w' = w.alloc (.cells #[.string s] 9) := by
 go_enter Tryd.func35,Tryd.ntmps35
 go_wp2
 go_ret
 exact ⟨rfl,rfl⟩
end Go.Proofs.YtnpjaaldppemlaaDoor.U
end
section
namespace Go.Proofs.YtnpjaaldppemlaaDoor.U
open Go.RowKit Go.Shelf Go.Proofs.YtnpjaaldppemlaaDoor.Mu Go.Proofs.YtnpjaaldppemlaaDoor.Pu Go.Proofs.YtnpjaaldppemlaaDoor.Rg Go.Proofs.YtnpjaaldppemlaaDoorW.PrintWords Go.Proofs.YtnpjaaldppemlaaDoorW.PrintLast Go.Proofs.YtnpjaaldppemlaaDoorW.PrintMore
set_option linter.unusedVariables false
set_option linter.unusedSimpArgs false
theorem bld_size : (Tryd.prog.info? 76).map (·.size) = some 2 := by kernel_rfl
theorem bld_lies : liesAt Tryd.prog Tryd.prog.depth 76 (2 / Tryd.prog.cellsOf 76) 0 76 1 = true := by kernel_rfl
theorem byte_info : (Tryd.prog.info? 5).map (fun i => (i.zero,i.size,i.bytes)) = some (some (.int .u8 0),1,1) := by kernel_rfl
set_option maxHeartbeats 1000000 in
set_option maxRecDepth 100000 in
theorem copyCheck_used (b : Nat) (w : World) (h0 : w.cell? ⟨b,0,none⟩ = some (.pointer (some ⟨b,0,none⟩))) :
  Calls Tryd.prog 64 #[.pointer (some ⟨b,0,none⟩)] w fun e w' => e = .returned (.tuple #[]) ∧ w' = w := by
 obtain ⟨j,hj,_⟩ := Option.map_eq_some_iff.1 bld_size
 have hu := Tryd.underlying76
 go_enter Tryd.func64,Tryd.ntmps64
 go_wp2
 rw [Lib.run_neq_ptr_same w _ Tryd.underlying73 hj]
 go_wp2
 go_end0
 exact ⟨rfl,rfl⟩
set_option maxHeartbeats 1000000 in
set_option maxRecDepth 100000 in
theorem copyCheck_fresh (b : Nat) (w : World) (h0 : w.cell? ⟨b,0,none⟩ = some (.pointer none)) (hsh : w.shape? b = some (76,2)) (hfz : w.frozen? ⟨b,0,none⟩ = false) :
  Calls Tryd.prog 64 #[.pointer (some ⟨b,0,none⟩)] w fun e w' => e = .returned (.tuple #[]) ∧ w' = w.setCell ⟨b,0,none⟩ (.pointer (some ⟨b,0,none⟩)) := by
 obtain ⟨j,hj,hjs⟩ := Option.map_eq_some_iff.1 bld_size
 have hu := Tryd.underlying76
 go_enter Tryd.func64,Tryd.ntmps64
 go_wp2
 rw [Lib.run_to_unsafe w ⟨b,0,none⟩ Tryd.underlying73 Tryd.underlying110 hj (by rw [hjs];decide) hsh (Nat.zero_lt_succ 1)]
 simp only [Result.andThen]
 rw [Oper.upon_value]
 go_wp2
 rw [run_callFunc_extern Tryd.func77 (by kernel_rfl) (by kernel_rfl) (by kernel_rfl) (e := Extern.AbiNoEscape.same) (by kernel_rfl)]
 rw [Lib.run_noEscape]
 simp only [Result.andThen]
 rw [Oper.upon_value]
 go_wp2
 rw [Lib.run_from_unsafe w ⟨b,0,none⟩ Tryd.underlying110 Tryd.underlying73 hj hsh bld_lies]
 simp only [Result.andThen]
 rw [Oper.upon_value]
 go_wp2
 go_end0
 exact ⟨rfl,rfl⟩
/-- The builder in block b holds bs;v is its buffer. -/
def BldAt (n₀ b : Nat) (bs : List Value) (v : Value) (W : World) : Prop :=
 ∃ p,(p = .pointer none ∨ p = .pointer (some ⟨b,0,none⟩)) ∧ W.heap[b]? = some (.cells #[p,v] 76 (0,0)) ∧ W.ownsRowF n₀ 5 1 v bs.length bs ∧ v.ownBlock ≠ some b
/-- What a write turns. -/
structure Wrote (n₀ b : Nat) (v : Value) (W W' : World) : Prop where
 below : Below n₀ W W'
 others : KeepsOthers W W'
 keep : ∀ (k : Nat),k < W.heap.size → k ≠ b → some k ≠ v.ownBlock → W'.heap[k]? = W.heap[k]?
theorem ownsRowF_cells {w : World} {B : Nat} {e : TypeId} {v : Value} {n : Nat} {xs : List Value} (h : w.ownsRowF B e 1 v n xs) : ∀ g,v.ownBlock = some g → ∃ o,w.heap[g]? = some o ∧ o.isCells = true := by
 intro g hg
 obtain ⟨c,fz,hc⟩ := Lib.ownsRowF_kind h g hg
 exact ⟨_,hc,rfl⟩
theorem BldAt.kept {n₀ b : Nat} {bs : List Value} {v : Value} {X Y : World} {row : Option Nat} (h : BldAt n₀ b bs v X) (hg : X.grownBy Y row) (hb : row ≠ some b) (hv : v.ownBlock = none ∨ v.ownBlock ≠ row) : BldAt n₀ b bs v Y := by
 obtain ⟨p,hp,hk,hr,hne⟩ := h
 exact ⟨p,hp,(hg.block b (Array.getElem?_eq_some_iff.1 hk).1 (fun e => hb e.symm)).trans hk,hr.kept hg hv,hne⟩
theorem BldAt.grow {n₀ b : Nat} {bs : List Value} {v : Value} {X Y : World} {row : Option Nat} (h : BldAt n₀ b bs v X) (hg : X.grownBy Y row) (hr : ∀ r,row = some r → ∃ o : Obj,X.heap[r]? = some o ∧ o.isCells = false) : BldAt n₀ b bs v Y := by
 refine h.kept hg (fun e => ?_) ?_
 ·obtain ⟨p,_,hk,_⟩ := h
  obtain ⟨o,ho,hc⟩ := hr b e
  rw [hk] at ho;cases ho;cases hc
 ·cases hv : v.ownBlock with
  | none => exact .inl rfl
  | some g =>
   refine .inr (fun e => ?_)
   obtain ⟨p,_,_,hrow,_⟩ := h
   obtain ⟨o,ho,hc⟩ := ownsRowF_cells hrow g hv
   obtain ⟨o',ho',hc'⟩ := hr g e.symm
   rw [ho] at ho';cases ho';rw [hc] at hc';cases hc'
theorem BldAt.is {n₀ b : Nat} {bs : List Value} {v : Value} {W : World} (h : BldAt n₀ b bs v W) (hb : n₀ ≤ b) : Lib.IsBuilderF 76 5 n₀ b bs W := by
 obtain ⟨p,hp | hp,hk,hr,hne⟩ := h
 ·exact .inl ⟨hb,v,hp ▸ hk,hr,hne⟩
 ·exact .inr ⟨hb,v,hp ▸ hk,hr,hne⟩
theorem BldAt.lt {n₀ b : Nat} {bs : List Value} {v : Value} {W : World} (h : BldAt n₀ b bs v W) : b < W.heap.size := by
 obtain ⟨p,_,hk,_⟩ := h;exact (Array.getElem?_eq_some_iff.1 hk).1
theorem Wrote.setCell {n₀ b j : Nat} {v : Value} {W W' : World} (h : Wrote n₀ b v W W') (hb : n₀ ≤ b) (u : Value) : Wrote n₀ b v W (W'.setCell ⟨b,j,none⟩ u) :=
 ⟨h.below.setCell (p := ⟨b,j,none⟩) hb u,h.others.trans (KeepsOthers.setCell W' _ u),fun k hk hb hv => (Below.heap_setCell W' ⟨b,j,none⟩ u k hb).trans (h.keep k hk hb hv)⟩
theorem Wrote.refl (n₀ b : Nat) (v : Value) (W : World) : Wrote n₀ b v W W := ⟨Below.refl _ _,KeepsOthers.refl _,fun _ _ _ _ => rfl⟩
set_option maxHeartbeats 2000000 in
set_option maxRecDepth 100000 in
theorem writeString_calls (n₀ b : Nat) (bs : List Value) (v : Value) (s : ByteArray) (w : World) (h : BldAt n₀ b bs v w) (hn : n₀ ≤ w.heap.size) (hb : n₀ ≤ b) (hlen : bs.length + s.size ≤ 140737488355328) :
  Calls Tryd.prog 41 #[.pointer (some ⟨b,0,none⟩),.string s] w fun e w' => e = .returned (.tuple #[.int .i64 s.size,.nilIface]) ∧ ∃ v',BldAt n₀ b (bs ++ Lib.strCells s) v' w' ∧ Wrote n₀ b v w w' := by
 obtain ⟨i0,hi,hz0,hz1,hz2⟩ := info_parts byte_info
 have hu := Tryd.underlying76
 obtain ⟨p,hp,hk,hr,hne⟩ := h
 have hcc : Calls Tryd.prog 64 #[.pointer (some ⟨b,0,none⟩)] w fun e w' => e = .returned (.tuple #[]) ∧ (w'.heap[b]? = some (.cells #[.pointer (some ⟨b,0,none⟩),v] 76 (0,0)) ∧ w'.ownsRowF n₀ 5 1 v bs.length bs ∧ Wrote n₀ b v w w') := by
  rcases hp with rfl | rfl
  ·have h0 : w.cell? ⟨b,0,none⟩ = some (.pointer none) := (blk_cell hk 0).trans rfl
   refine (copyCheck_fresh b w h0 (by simp [World.shape?,hk]) (blk_frozen hk 0)).mono ?_
   rintro e w' ⟨rfl,rfl⟩
   exact ⟨rfl,blk_put hk 0 _ rfl,hr.kept (grownBy_setCell' w b _) (.inr hne),(Wrote.refl _ _ _ _).setCell hb _⟩
  ·have h0 : w.cell? ⟨b,0,none⟩ = some (.pointer (some ⟨b,0,none⟩)) := (blk_cell hk 0).trans rfl
   refine (copyCheck_used b w h0).mono ?_
   rintro e w' ⟨rfl,rfl⟩
   exact ⟨rfl,hk,hr,Wrote.refl _ _ _ _⟩
 clear hk hr hp
 go_enter Tryd.func41,Tryd.ntmps41
 go_wp2_with (go_at_call 64;refine hcc.mono ?_)
 rintro e w1 ⟨rfl,hbk,hown,hW⟩
 have c0 : w1.cell? ⟨b,0,none⟩ = some (.pointer (some ⟨b,0,none⟩)) := (blk_cell hbk 0).trans rfl
 have c1 : w1.cell? ⟨b,1,none⟩ = some v := (blk_cell hbk 1).trans rfl
 go_wp2_with (at_builtin;go_must (refine Lib.wpList_append_own_stringF _ rfl _ _ 74 9 rfl n₀ 5 i0 Tryd.underlying74 Tryd.underlying9 hi hz0 hz1 hz2 _ _ _ rfl hown s rfl ?c3 ?c4 ?c5 ?_))
 case c3 => unfold maxLen;omega
 case c4 => omega
 case c5 => have := hW.below.size;omega
 intro v' w2 hown' hgrow _
 have hlt : b < w1.heap.size := (Array.getElem?_eq_some_iff.1 hbk).1
 have hb2 : w2.heap[b]? = some (.cells #[.pointer (some ⟨b,0,none⟩),v] 76 (0,0)) := by
  rw [hgrow.block b hlt (fun e => hne e.symm)]
  exact hbk
 have d0 : w2.cell? ⟨b,0,none⟩ = some (.pointer (some ⟨b,0,none⟩)) := (blk_cell hb2 0).trans rfl
 have d1 : w2.cell? ⟨b,1,none⟩ = some v := (blk_cell hb2 1).trans rfl
 have f1 : w2.frozen? ⟨b,1,none⟩ = false := blk_frozen hb2 1
 have hne' : v'.ownBlock ≠ some b := Lib.ownBlock_neF hown' hb2 (by decide)
 have hW2 : Wrote n₀ b v w w2 := by
  refine ⟨hW.below.trans (((Below.refl n₀ w1).grown hgrow (by have := hW.below.size;omega) (fun k hk => (hown.lt k hk).1))),hW.others.trans (KeepsOthers.of_grownBy hgrow fun j o ej hj => ?_),fun k hk h1 h2 => ?_⟩
  ·obtain ⟨o',ho',hc'⟩ := ownsRowF_cells hown j ej
   rw [hj] at ho';cases ho';exact hc'
  ·exact (hgrow.block k (Nat.lt_of_lt_of_le hk hW.below.size) h2).trans (hW.keep k hk h1 h2)
 obtain ⟨ao,n',cap,rfl⟩ : ∃ ao n' cap,v' = .slice ao n' cap := by
  rcases hown'.2 with ⟨hv,_⟩ | ⟨g,cap,cur,fz,hv,_⟩
  ·exact ⟨_,_,_,hv⟩
  ·exact ⟨_,_,_,hv⟩
 go_wp2
 go_ret2
 refine ⟨rfl,_,⟨_,.inr rfl,blk_put hb2 1 _ rfl,?_,hne'⟩,hW2.setCell hb _⟩
 have hg1 : w2.grownBy (w2.setCell ⟨b,1,none⟩ (.slice ao n' cap)) (some b) := ⟨rfl,rfl,rfl,by simp [World.setCell],fun k _ hk => Below.heap_setCell _ _ _ _ (fun e => hk (by simp [e]))⟩
 have := hown'.kept hg1 (.inr hne')
 rw [List.length_append,Lib.strCells_length]
 exact this
end Go.Proofs.YtnpjaaldppemlaaDoor.U
end
section
namespace Go.Proofs.YtnpjaaldppemlaaDoor.U
open Go.RowKit Go.Proofs.YtnpjaaldppemlaaDoorW.PrintWords Go.Proofs.YtnpjaaldppemlaaDoorW.PrintLast Go.Proofs.YtnpjaaldppemlaaDoorW.PrintMore
attribute [local go_sem] max2_int min2_int max_two min_two max_three min_three max_four min_four   -- for this text's walks alone
set_option linter.unusedVariables false
set_option linter.unusedSimpArgs false
def bodkinref01_Units.l0 : Nat → ByteArray → List (S87) → Int → Option ((List (S87)))
 | 0,_,_,_ => none
 | k + 1,x0,x3,x4 => if x4 < (x0.size : Int) then (if 0 ≤ x4 then (if x4 ≤ (x0.size : Int) then ((bodkinref01_begins.f k (x0.extract (x4 : Int).toNat x0.size)).bind fun t443 => (if t443 ≥ 0 then ((bodkinref01_size.f t443).bind fun t445 => (if x3.length < 8796093022208 then (bodkinref01_Units.l0 k x0 (x3 ++ [(⟨t443,t445⟩ : S87)]) (wrap64 (x4 + t445))) else (none))) else (if x3.length < 8796093022208 then (bodkinref01_Units.l0 k x0 (x3 ++ [(⟨t443,1⟩ : S87)]) (wrap64 (x4 + 1))) else (none)))) else (none)) else (none)) else (some x3)
def bodkinref01_Units.f (k : Nat) (a0 : ByteArray) : Option ((List (S87))) := bodkinref01_Units.l0 k a0 ([] : List (S87)) 0
set_option maxHeartbeats 8000000 in
set_option maxRecDepth 100000 in
theorem bodkinref01_Units.calls (k : Nat) (a0 : ByteArray) (r : List (S87)) (w : World) (h : bodkinref01_Units.f k a0 = some r) :
  Calls Tryd.prog 46 #[.string a0] w fun e w' => ∃ v0_ : Value,e = .returned (v0_) ∧ Kd.R k87 87 w' w.heap.size (fun _ => True) v0_ r ∧ Below w.heap.size w w' := by
 have hu87 := Tryd.underlying87
 have HB := Aside0.mk (Below.refl w.heap.size w)
 have H : (bodkinref01_Units.l0 k a0 ([] : List (S87)) 0) = some r := h
 clear h
 have H' := Aside0.mk H
 clear H
 go_enter Tryd.func46,Tryd.ntmps46
 go_wp2
 go_loopg [3,4] k (fun kq v3 v4 w' => ∃ (x3_1 : List (S87)) (x4_1 : Int),v4 = .int .i64 x4_1 ∧ Aside0 (bodkinref01_Units.l0 kq a0 x3_1 x4_1 = some r) ∧ Aside0 (kq ≤ k) ∧ Aside0 (Kd.R k87 87 w' w.heap.size (fun _ => True) v3 x3_1) ∧ Aside0 (Below w.heap.size w w'))
 case atStart => exact ⟨(([] : List (S87))),(0),au4,H',⟨Nat.le_refl _⟩,⟨by first | exact Kd.R_nil _ _ _ _ _ | exact Kd.N_nil _ _ _ _ _ | exact Kd.V_nil _ _ _ _ _ | exact Kd.Q_nil _ _ _ _ _ | exact Kd.S_nil _ _ _ _ _⟩,⟨au0⟩⟩
 case round =>
  clear H'
  obtain ⟨x3_1,x4_1,rfl,HA,HK1,HO_3,HB⟩ := hrel
  cases gk with
  | zero => exact absurd HA.out (by simp [bodkinref01_Units.l0])
  | succ k1 =>
   have H := HA.out
   clear HA
   simp only [bodkinref01_Units.l0] at H
   by_cases c2 : x4_1 < (a0.size : Int)
   ·rw [if_pos c2] at H
    have c2b0 : decide (x4_1 < (a0.size : Int)) = true := decide_eq_true c2
    clear c2
    by_cases c3 : 0 ≤ x4_1
    ·rw [if_pos c3] at H
     have c3b0 := eq_true c3
     have c3b1 : decide (0 ≤ x4_1) = true := decide_eq_true c3
     clear c3
     by_cases c4 : x4_1 ≤ (a0.size : Int)
     ·rw [if_pos c4] at H
      have c4b0 := eq_true c4
      have c4b1 : decide (x4_1 ≤ (a0.size : Int)) = true := decide_eq_true c4
      clear c4
      replace H := Option.bind_eq_some_iff.mp H
      obtain ⟨t443,A50,H⟩ := H
      replace H : (if t443 ≥ 0 then ((bodkinref01_size.f t443).bind fun t445 => (if x3_1.length < 8796093022208 then (bodkinref01_Units.l0 k1 a0 (x3_1 ++ [(⟨t443,t445⟩ : S87)]) (wrap64 (x4_1 + t445))) else (none))) else (if x3_1.length < 8796093022208 then (bodkinref01_Units.l0 k1 a0 (x3_1 ++ [(⟨t443,1⟩ : S87)]) (wrap64 (x4_1 + 1))) else (none))) = some r := H
      have A5 := Aside0.mk A50
      clear A50
      by_cases c6 : t443 ≥ 0
      ·rw [if_pos c6] at H
       have c6b0 : decide (0 ≤ t443) = true := decide_eq_true c6
       clear c6
       replace H := Option.bind_eq_some_iff.mp H
       obtain ⟨t445,A70,H⟩ := H
       replace H : (if x3_1.length < 8796093022208 then (bodkinref01_Units.l0 k1 a0 (x3_1 ++ [(⟨t443,t445⟩ : S87)]) (wrap64 (x4_1 + t445))) else (none)) = some r := H
       have A7 := Aside0.mk A70
       clear A70
       by_cases c8 : x3_1.length < 8796093022208
       ·rw [if_pos c8] at H
        have LMc8 := Aside0.mk c8
        clear c8
        obtain ⟨y446,hy446⟩ : ∃ y_ : List (S87),y_ = (x3_1 ++ [(⟨t443,t445⟩ : S87)]) := ⟨_,rfl⟩
        replace H : (bodkinref01_Units.l0 k1 a0 y446 (wrap64 (x4_1 + t445))) = some r := by first | (rw [hy446];with_reducible exact H) | (have H2_ := (Option.bind_some _ _).symm.trans H;rw [hy446];with_reducible exact H2_) | (have H2_ := (Option.bind_some _ _).symm.trans H;with_reducible exact H2_) | with_reducible exact H | (rw [hy446];exact H) | exact H
        have Ny446 := Aside0.mk hy446
        clear hy446
        have H' := Aside0.mk H
        clear H
        go_wp2_with (first | ((with_reducible refine gate_callee (f := 67) rfl ?_);refine goesL_ (some 13) rfl rfl Tryd.func67 (by kernel_rfl) rfl #[.string (a0.extract (x4_1 : Int).toNat a0.size)] rfl au1 ?_;(with_reducible refine (bodkinref01_begins.calls k1 (a0.extract (x4_1 : Int).toNat a0.size) t443 _ A5.out).mono ?_);rintro e w9 ⟨rfl,hb⟩;refine ⟨_,rfl,?_⟩;have n0_ := Aside0.mk (Kd.R_below au8 hb);have n1_ := Aside0.mk (below_step au0 hb);clear HO_3;clear HB;have HO_3 := n0_;have HB := n1_;clear n0_ n1_;(try clear hb);(try clear hb2);(try clear hk);(try clear hi)) | ((with_reducible refine gate_dst (N := 5) rfl ?_);refine box_event ?hg (N := 5) ?hd (cs := #[.int .i32 0,.int .i64 0]) (t := 87) ?hr ?_;(case hd => rfl);(case hg => rfl);(case hr => first | (go_simp;done) | (go_simp;rfl));intro gb444 hg w10 hbox hb;have n0_ := Aside0.mk (Kd.R_below (Kd.R_elderB au8 gb444 (Nat.le_of_eq hg.symm)) hb);have n1_ := Aside0.mk (below_step au0 hb);have n2_ := Aside0.mk (hbox);have n3_ := Aside0.mk ((by rw [hg];exact (below_size au0) : w.heap.size ≤ gb444));have n4_ := Aside0.mk ((by rw [hg];exact (below_size au0) : w.heap.size ≤ gb444));clear HO_3;clear HB;have HO_3 := n0_;have HB := n1_;have BK444 := n2_;have GW444 := n3_;have GE444 := n4_;clear n0_ n1_ n2_ n3_ n4_;clear hb hbox hg;have hcz11_0 : w10.cell? ⟨gb444,0,none⟩ = some (.int .i32 0) := (blk_cell BK444.out 0).trans rfl;have hcz11_1 : w10.cell? ⟨gb444,1,none⟩ = some (.int .i64 0) := (blk_cell BK444.out 1).trans rfl;have hfz11_0 := blk_frozen BK444.out 0;have hfz11_1 := blk_frozen BK444.out 1) | ((with_reducible refine gate_callee (f := 68) rfl ?_);refine goesL_ (some 20) rfl rfl Tryd.func68 (by kernel_rfl) rfl #[.int .i32 t443] rfl au1 ?_;(with_reducible refine (bodkinref01_size.calls t443 t445 _ A7.out).mono ?_);rintro e w12 ⟨rfl,hb⟩;refine ⟨_,rfl,?_⟩;have n0_ := Aside0.mk (Kd.R_below (by (with_reducible repeat (first | apply Kd.R_alloc | apply Kd.R_drewN | apply Kd.R_drew));exact (Kd.R_mono (Kd.R_far (p := ⟨gb444,1,none⟩) (Kd.R_far (p := ⟨gb444,0,none⟩) (Kd.R_mono HO_3.out (fun k_ hk => (⟨hk,hk.2⟩ : _ ∧ k_ ≠ gb444))) (fun _ hk => hk.2) (.int .i32 t443)) (fun _ hk => hk.2) (.int .i64 1)) (fun _ h_ => h_.1))) hb);have n1_ := Aside0.mk (blk_below (g := gb444) (o := .cells #[.int .i32 t443,.int .i64 1] 87 (0,0)) au18 hb);have n2_ := Aside0.mk (below_step au26 hb);clear HO_3;clear BK444;clear HB;have HO_3 := n0_;have BK444 := n1_;have HB := n2_;clear n0_ n1_ n2_;(try clear hb);(try clear hb2);(try clear hk);(try clear hi);have hcz13_0 : w12.cell? ⟨gb444,0,none⟩ = some (.int .i32 t443) := (blk_cell BK444.out 0).trans rfl;have hcz13_1 : w12.cell? ⟨gb444,1,none⟩ = some (.int .i64 1) := (blk_cell BK444.out 1).trans rfl;have hfz13_0 := blk_frozen BK444.out 0;have hfz13_1 := blk_frozen BK444.out 1) | ((with_reducible refine gate_builtin (b := .append) (xs := #[.tmp 22,.tmp 24]) rfl ?_);at_builtin;refine Kd.R_append k87 (w0 := w) w.heap.size rfl (.tmp 22) (.tmp 24) 83 87 (.agg #[(.int .i32 0),(.int .i64 0)]) 16 rfl Tryd.underlying83 info87 rfl (by decide) (by omega) u3 x3_1 (⟨t443,t445⟩ : S87) [.int .i32 t443,.int .i64 t445] (fun k_ => k_ ≠ gb444) (fun _ => False) rfl (by first | (go_simp;done) | (go_simp;rfl)) ?aP (fun _ hk => hk.elim) ?aF ?aO ?aB ?aS ?aL ?_;(case aP => exact k87_mkM _ _ _ (⟨t443,t445⟩ : S87));(case aB => exact au26);(case aF => exact (fun k_ hk => Kd.freshB (g := gb444) (o := .cells #[.int .i32 t443,.int .i64 t445] 87 (0,0)) (by (with_reducible repeat (first | refine blk_drewN ?_ _ | refine blk_drew ?_ | refine blk_alloc ?_ _));refine blk_put (cs := #[.int .i32 t443,.int .i64 1]) ?_ 1 _ rfl;(with_reducible repeat (first | refine blk_drewN ?_ _ | refine blk_drew ?_ | refine blk_alloc ?_ _));exact BK444.out) k_ hk));(case aO => exact (by (with_reducible repeat (first | apply Kd.R_alloc | apply Kd.R_drewN | apply Kd.R_drew));exact Kd.R_mono (Kd.R_far (p := ⟨gb444,1,none⟩) (Kd.R_mono HO_3.out (fun k_ hk => (⟨hk,hk.2⟩ : _ ∧ k_ ≠ gb444))) (fun _ hk => hk.2) (.int .i64 t445)) (fun _ hk => hk.1.2)));(case aS => exact (below_size au26));(case aL => have := LMc8.out;omega);intro v447 w14 ho hb hg hat;rw [← Ny446.out] at ho;have n0_ := Aside0.mk (blk_grown (g := gb444) (o := .cells #[.int .i32 t443,.int .i64 t445] 87 (0,0)) (by (with_reducible repeat (first | refine blk_drewN ?_ _ | refine blk_drew ?_ | refine blk_alloc ?_ _));refine blk_put (cs := #[.int .i32 t443,.int .i64 1]) ?_ 1 _ rfl;(with_reducible repeat (first | refine blk_drewN ?_ _ | refine blk_drew ?_ | refine blk_alloc ?_ _));exact BK444.out) hg (Kd.R_away HO_3.out (fun _ hk => hk.2)));have n1_ := Aside0.mk (hb);have n2_ := Aside0.mk (ho);clear BK444;clear HB;clear HO_3;have BK444 := n0_;have HB := n1_;have HO448 := n2_;clear n0_ n1_ n2_;clear ho hb hg hat;have hcz15_0 : w14.cell? ⟨gb444,0,none⟩ = some (.int .i32 t443) := (blk_cell BK444.out 0).trans rfl;have hcz15_1 : w14.cell? ⟨gb444,1,none⟩ = some (.int .i64 t445) := (blk_cell BK444.out 1).trans rfl;have hfz15_0 := blk_frozen BK444.out 0;have hfz15_1 := blk_frozen BK444.out 1))
        go_roundg k1
        case measure => have := HK1.out;omega
        case rel => exact ⟨(y446),(wrap64 (x4_1 + t445)),au4,H',⟨by have := HK1.out;omega⟩,⟨by (with_reducible repeat (first | apply Kd.R_alloc | apply Kd.R_drewN | apply Kd.R_drew));exact Kd.R_mono HO448.out (fun _ hk => trivial)⟩,⟨by repeat (first | (with_reducible first | exact HB.out | apply below_alloc | apply pw_below_drewN | apply below_drew1 | refine below_set ?_ GE444.out) | exact HB.out)⟩⟩
       ·rw [if_neg c8] at H
        exact absurd H (by simp)
      ·rw [if_neg c6] at H
       have c6b0 : decide (0 ≤ t443) = false := decide_eq_false c6
       clear c6
       by_cases c16 : x3_1.length < 8796093022208
       ·rw [if_pos c16] at H
        have LMc16 := Aside0.mk c16
        clear c16
        obtain ⟨y449,hy449⟩ : ∃ y_ : List (S87),y_ = (x3_1 ++ [(⟨t443,1⟩ : S87)]) := ⟨_,rfl⟩
        replace H : (bodkinref01_Units.l0 k1 a0 y449 (wrap64 (x4_1 + 1))) = some r := by first | (rw [hy449];with_reducible exact H) | (have H2_ := (Option.bind_some _ _).symm.trans H;rw [hy449];with_reducible exact H2_) | (have H2_ := (Option.bind_some _ _).symm.trans H;with_reducible exact H2_) | with_reducible exact H | (rw [hy449];exact H) | exact H
        have Ny449 := Aside0.mk hy449
        clear hy449
        have H' := Aside0.mk H
        clear H
        go_wp2_with (first | ((with_reducible refine gate_callee (f := 67) rfl ?_);refine goesL_ (some 13) rfl rfl Tryd.func67 (by kernel_rfl) rfl #[.string (a0.extract (x4_1 : Int).toNat a0.size)] rfl au1 ?_;(with_reducible refine (bodkinref01_begins.calls k1 (a0.extract (x4_1 : Int).toNat a0.size) t443 _ A5.out).mono ?_);rintro e w17 ⟨rfl,hb⟩;refine ⟨_,rfl,?_⟩;have n0_ := Aside0.mk (Kd.R_below au8 hb);have n1_ := Aside0.mk (below_step au0 hb);clear HO_3;clear HB;have HO_3 := n0_;have HB := n1_;clear n0_ n1_;(try clear hb);(try clear hb2);(try clear hk);(try clear hi)) | ((with_reducible refine gate_dst (N := 5) rfl ?_);refine box_event ?hg (N := 5) ?hd (cs := #[.int .i32 0,.int .i64 0]) (t := 87) ?hr ?_;(case hd => rfl);(case hg => rfl);(case hr => first | (go_simp;done) | (go_simp;rfl));intro gb444 hg w18 hbox hb;have n0_ := Aside0.mk (Kd.R_below (Kd.R_elderB au8 gb444 (Nat.le_of_eq hg.symm)) hb);have n1_ := Aside0.mk (below_step au0 hb);have n2_ := Aside0.mk (hbox);have n3_ := Aside0.mk ((by rw [hg];exact (below_size au0) : w.heap.size ≤ gb444));have n4_ := Aside0.mk ((by rw [hg];exact (below_size au0) : w.heap.size ≤ gb444));clear HO_3;clear HB;have HO_3 := n0_;have HB := n1_;have BK444 := n2_;have GW444 := n3_;have GE444 := n4_;clear n0_ n1_ n2_ n3_ n4_;clear hb hbox hg;have hcz19_0 : w18.cell? ⟨gb444,0,none⟩ = some (.int .i32 0) := (blk_cell BK444.out 0).trans rfl;have hcz19_1 : w18.cell? ⟨gb444,1,none⟩ = some (.int .i64 0) := (blk_cell BK444.out 1).trans rfl;have hfz19_0 := blk_frozen BK444.out 0;have hfz19_1 := blk_frozen BK444.out 1) | ((with_reducible refine gate_builtin (b := .append) (xs := #[.tmp 22,.tmp 24]) rfl ?_);at_builtin;refine Kd.R_append k87 (w0 := w) w.heap.size rfl (.tmp 22) (.tmp 24) 83 87 (.agg #[(.int .i32 0),(.int .i64 0)]) 16 rfl Tryd.underlying83 info87 rfl (by decide) (by omega) u3 x3_1 (⟨t443,1⟩ : S87) [.int .i32 t443,.int .i64 1] (fun k_ => k_ ≠ gb444) (fun _ => False) rfl (by first | (go_simp;done) | (go_simp;rfl)) ?aP (fun _ hk => hk.elim) ?aF ?aO ?aB ?aS ?aL ?_;(case aP => exact k87_mkM _ _ _ (⟨t443,1⟩ : S87));(case aB => exact au26);(case aF => exact (fun k_ hk => Kd.freshB (g := gb444) (o := .cells #[.int .i32 t443,.int .i64 1] 87 (0,0)) au18 k_ hk));(case aO => exact (by (with_reducible repeat (first | apply Kd.R_alloc | apply Kd.R_drewN | apply Kd.R_drew));exact Kd.R_mono (Kd.R_far (p := ⟨gb444,1,none⟩) (Kd.R_far (p := ⟨gb444,0,none⟩) (Kd.R_mono HO_3.out (fun k_ hk => (⟨hk,hk.2⟩ : _ ∧ k_ ≠ gb444))) (fun _ hk => hk.2) (.int .i32 t443)) (fun _ hk => hk.2) (.int .i64 1)) (fun _ hk => hk.1.2)));(case aS => exact (below_size au26));(case aL => have := LMc16.out;omega);intro v450 w20 ho hb hg hat;rw [← Ny449.out] at ho;have n0_ := Aside0.mk (blk_grown (g := gb444) (o := .cells #[.int .i32 t443,.int .i64 1] 87 (0,0)) au18 hg (Kd.R_away HO_3.out (fun _ hk => hk.2)));have n1_ := Aside0.mk (hb);have n2_ := Aside0.mk (ho);clear BK444;clear HB;clear HO_3;have BK444 := n0_;have HB := n1_;have HO451 := n2_;clear n0_ n1_ n2_;clear ho hb hg hat;have hcz21_0 : w20.cell? ⟨gb444,0,none⟩ = some (.int .i32 t443) := (blk_cell BK444.out 0).trans rfl;have hcz21_1 : w20.cell? ⟨gb444,1,none⟩ = some (.int .i64 1) := (blk_cell BK444.out 1).trans rfl;have hfz21_0 := blk_frozen BK444.out 0;have hfz21_1 := blk_frozen BK444.out 1))
        go_roundg k1
        case measure => have := HK1.out;omega
        case rel => exact ⟨(y449),(wrap64 (x4_1 + 1)),au4,H',⟨by have := HK1.out;omega⟩,⟨by (with_reducible repeat (first | apply Kd.R_alloc | apply Kd.R_drewN | apply Kd.R_drew));exact Kd.R_mono HO451.out (fun _ hk => trivial)⟩,⟨by repeat (first | (with_reducible first | exact HB.out | apply below_alloc | apply pw_below_drewN | apply below_drew1 | refine below_set ?_ GE444.out) | exact HB.out)⟩⟩
       ·rw [if_neg c16] at H
        exact absurd H (by simp)
     ·rw [if_neg c4] at H
      exact absurd H (by simp)
    ·rw [if_neg c3] at H
     exact absurd H (by simp)
   ·rw [if_neg c2] at H
    have c2b0 : decide (x4_1 < (a0.size : Int)) = false := decide_eq_false c2
    clear c2
    obtain rfl := Option.some.inj H
    go_wp2
    go_ret
    exact ⟨_,by first | rfl | (simp [errW_none,errW_some] <;> rfl) | (simp [*,errW_none,errW_some] <;> rfl),by (with_reducible repeat (first | apply Kd.R_alloc | apply Kd.R_drewN | apply Kd.R_drew));exact HO_3.out,au0⟩
end Go.Proofs.YtnpjaaldppemlaaDoor.U
end
section
namespace Go.Proofs.YtnpjaaldppemlaaDoor.Pu
open Go Go.RowKit Go.Proofs.YtnpjaaldppemlaaDoor.Mu Go.Proofs.YtnpjaaldppemlaaDoor.U Go.Proofs.YtnpjaaldppemlaaDoorW.PrintWords Go.Proofs.YtnpjaaldppemlaaDoorW.PrintLast Go.Proofs.YtnpjaaldppemlaaDoorW.PrintMore
theorem bt_byt (t : ByteArray) (i : Nat) (h : i < t.size) : bt t i = (byt t i : Int) := by
 unfold bt byt
 rw [dif_pos (by simpa using h)]
 simp only [Int.toNat_natCast]
 rw [get!_eq,List.getD_eq_getElem?_getD,List.getElem?_eq_getElem (by rw [← Lib.size_eq];exact h)]
 rfl
theorem lead_ans (b : Nat) : Ev (fun k => bodkinref01_lead.f k (b : Int)) (if b < 128 then ((b : Int),0) else if b < 192 then (0,-1) else if b < 224 then ((b : Int) - 192,1) else if b < 240 then ((b : Int) - 224,2) else if b < 248 then ((b : Int) - 240,3) else (0,-1)) := by
 unfold bodkinref01_lead.f
 by_cases h1 : b < 128
 ·rw [if_pos h1];exact ev_pos (by omega) (ev_now (by rw [w32 (by omega) (by omega)]))
 rw [if_neg h1]
 refine ev_neg (by omega) ?_
 have hj1 : ∀ c,Ev (fun k => bodkinref01_lead.j0 k (b : Int) c) (if c = true then (wrap32 (wrap32 (b : Int) - 192),1) else if 224 ≤ b then (if b < 240 then (wrap32 (wrap32 (b : Int) - 224),2) else if b < 248 then (wrap32 (wrap32 (b : Int) - 240),3) else (0,-1)) else (0,-1)) := by
  intro c
  refine Ev.step (fun k => bodkinref01_lead.j0.eq_2 ..) ?_
  cases c
  ·refine ev_neg (by simp) ?_
   rw [if_neg (by simp)]
   by_cases h3 : 224 ≤ b
   ·rw [if_pos h3]
    refine ev_pos (by omega) (Ev.step (fun k => bodkinref01_lead.j1.eq_2 ..) ?_)
    by_cases h4 : b < 240
    ·rw [if_pos h4];exact ev_pos (by rw [decide_eq_true_eq];omega) (Ev.now _)
    ·rw [if_neg h4];refine ev_neg (by rw [decide_eq_true_eq];omega) (ev_pos (by omega) ?_)
     by_cases h5 : b < 248
     ·rw [if_pos h5];exact ev_pos (by omega) (Ev.now _)
     ·rw [if_neg h5];exact ev_neg (by omega) (Ev.now _)
   ·rw [if_neg h3]
    exact ev_neg (by omega) (Ev.step (fun k => bodkinref01_lead.j1.eq_2 ..) (ev_neg (by simp) (ev_neg (by omega) (Ev.now _))))
  ·exact ev_pos rfl (Ev.now _)
 by_cases h2 : b < 192
 ·rw [if_pos h2]
  refine ev_neg (by omega) ?_
  have := hj1 false
  rwa [if_neg (by simp),if_neg (by omega)] at this
 ·rw [if_neg h2]
  refine ev_pos (by omega) ?_
  have := hj1 (decide ((b : Int) < 224))
  by_cases h3 : b < 224
  ·rw [if_pos (by simp;omega),w32 (x := (b : Int)) (by omega) (by omega),w32 (by omega) (by omega)] at this
   rwa [if_pos h3]
  ·rw [if_neg (by simp;omega),if_pos (by omega)] at this
   rw [if_neg h3]
   by_cases h4 : b < 240
   ·rw [if_pos h4,w32 (x := (b : Int)) (by omega) (by omega),w32 (by omega) (by omega)] at this;rwa [if_pos h4]
   ·rw [if_neg h4] at this;rw [if_neg h4]
    by_cases h5 : b < 248
    ·rw [if_pos h5,w32 (x := (b : Int)) (by omega) (by omega),w32 (by omega) (by omega)] at this;rwa [if_pos h5]
    ·rw [if_neg h5] at this;rwa [if_neg h5]
section
variable (t : ByteArray) (ht : t.size ≤ 1099511627776)
include ht
theorem begins_go (c : Nat) (n i : Nat) (hi : i ≤ n) (hs : i < t.size) (hb : 128 ≤ byt t i) (hb2 : byt t i ≤ 191) (hc : c < 100000) {v : Int} (h : Ev (fun k => bodkinref01_begins.l0 k t ((c * 64 + byt t i % 64 : Nat) : Int) n ((i + 1 : Nat) : Int)) v) : Ev (fun k => bodkinref01_begins.l0 k t c n i) v := by
 refine Ev.step (fun k => bodkinref01_begins.l0.eq_2 ..) (ev_pos (by omega) (ev_pos (by omega) (ev_pos (by omega) (ev_neg ?_ (ev_neg ?_ ?_)))))
 ·rw [bt_byt t i hs];omega
 ·rw [bt_byt t i hs];omega
 ·rw [bt_byt t i hs,w64 (by omega) (by omega)]
  have e : wrap32 (wrap32 (wrap32 ((c : Int) * 64) + wrap32 (byt t i : Int)) - 128) = ((c * 64 + byt t i % 64 : Nat) : Int) := by
   rw [w32 (x := (c : Int) * 64) (by omega) (by omega),w32 (x := (byt t i : Int)) (by omega) (by omega),w32 (x := (c : Int) * 64 + (byt t i : Int)) (by omega) (by omega),w32 (by omega) (by omega)]
   omega
  rw [e];exact h
omit ht in
theorem begins_bad (c : Int) (n i : Nat) (hi : i ≤ n) (hs : i < t.size) (hb : byt t i < 128 ∨ 191 < byt t i) : Ev (fun k => bodkinref01_begins.l0 k t c n i) (-1) := by
 refine Ev.step (fun k => bodkinref01_begins.l0.eq_2 ..) (ev_pos (by omega) (ev_pos (by omega) (ev_pos (by omega) ?_)))
 rw [bt_byt t i hs]
 by_cases h : byt t i < 128
 ·exact ev_pos (by omega) (Ev.now _)
 ·exact ev_neg (by omega) (ev_pos (by omega) (Ev.now _))
omit ht
theorem scalar_ans (c : Int) : bodkinref01_scalar.f c = some (decide (0 ≤ c ∧ c ≤ 1114111 ∧ (c < 55296 ∨ 57343 < c))) := by
 unfold bodkinref01_scalar.f
 split
 ·split
  ·split
   ·rw [decide_eq_true (by omega)]
   ·congr 1;rw [decide_eq_decide];omega
  ·rw [decide_eq_false (by omega)]
 ·rw [decide_eq_false (by omega)]
theorem size_ans (c : Int) : bodkinref01_size.f c = some (if c < 128 then 1 else if c < 2048 then 2 else if c < 65536 then 3 else 4) := by
 unfold bodkinref01_size.f;split
 ·rfl
 ·split
  ·rfl
  ·split <;> rfl
theorem begins_end (c : Int) (n : Nat) (hn : n ≤ 3) : Ev (fun k => bodkinref01_begins.l0 k t c n ((n + 1 : Nat) : Int)) (if (0 ≤ c ∧ c ≤ 1114111 ∧ (c < 55296 ∨ 57343 < c)) ∧ (if c < 128 then (1 : Int) else if c < 2048 then 2 else if c < 65536 then 3 else 4) = n + 1 then c else -1) := by
 refine Ev.step (fun k => bodkinref01_begins.l0.eq_2 ..) (ev_neg (by omega) (ev_some (scalar_ans c) ?_))
 by_cases hsc : 0 ≤ c ∧ c ≤ 1114111 ∧ (c < 55296 ∨ 57343 < c)
 ·refine ev_pos (by rw [decide_eq_true_eq];exact hsc) (ev_some (size_ans c) ?_)
  rw [w64 (by omega) (by omega)]
  by_cases hz : (if c < 128 then (1 : Int) else if c < 2048 then 2 else if c < 65536 then 3 else 4) = n + 1
  ·exact ev_pos hz (ev_now (if_pos ⟨hsc,hz⟩).symm)
  ·exact ev_neg hz (ev_now (if_neg (fun h => hz h.2)).symm)
 ·exact ev_neg (by rw [decide_eq_true_eq];exact hsc) (ev_now (if_neg (fun h => hsc h.1)).symm)
theorem begins_end_good (c n : Nat) (hn : n ≤ 3) (h : c ≤ 1114111 ∧ (c < 55296 ∨ 57343 < c)) (hz : n = 0 ∧ c < 128 ∨ n = 1 ∧ 128 ≤ c ∧ c < 2048 ∨ n = 2 ∧ 2048 ≤ c ∧ c < 65536 ∨ n = 3 ∧ 65536 ≤ c) : Ev (fun k => bodkinref01_begins.l0 k t c n ((n + 1 : Nat) : Int)) (c : Int) := by
 have := begins_end t c n hn
 rwa [if_pos] at this
 refine ⟨by omega,?_⟩
 split
 ·omega
 ·split
  ·omega
  ·split <;> omega
theorem begins_end_bad (c n : Nat) (hn : n ≤ 3) (h : ¬ (c ≤ 1114111 ∧ (c < 55296 ∨ 57343 < c) ∧ (n = 0 ∧ c < 128 ∨ n = 1 ∧ 128 ≤ c ∧ c < 2048 ∨ n = 2 ∧ 2048 ≤ c ∧ c < 65536 ∨ n = 3 ∧ 65536 ≤ c))) : Ev (fun k => bodkinref01_begins.l0 k t c n ((n + 1 : Nat) : Int)) (-1) := by
 have := begins_end t c n hn
 rwa [if_neg] at this
 rintro ⟨h1,h2⟩
 apply h
 refine ⟨by omega,by omega,?_⟩
 split at h2
 ·omega
 ·split at h2
  ·omega
  ·split at h2 <;> omega
include ht
theorem begins_ans (h0 : 0 < t.size) : Ev (fun k => bodkinref01_begins.f k t) (uC t 0) := by
 have hlt := byt_lt t 0
 have hl := lead_ans (byt t 0)
 have hcs := uC_cases t 0
 simp only [Nat.zero_add,Nat.sub_zero] at hcs
 unfold bodkinref01_begins.f
 refine ev_pos (by omega) ?_
 have hb0 : bt t 0 = (byt t 0 : Int) := bt_byt t 0 h0
 rw [hb0]
 refine Ev.bind hl ?_
 by_cases h1 : byt t 0 < 128
 ·rw [if_pos h1]
  refine ev_neg (by simp) (Ev.step (fun k => bodkinref01_begins.j0.eq_2 ..) (ev_neg (by simp only [decide_eq_true_eq];omega) ?_))
  have hu : uC t 0 = (byt t 0 : Int) := by rcases hcs with h | h | h | h | h <;> omega
  rw [hu]
  exact begins_end_good t (byt t 0) 0 (by omega) (by omega) (by omega)
 rw [if_neg h1]
 have hneg : (¬ (192 ≤ byt t 0 ∧ byt t 0 < 224 ∧ 1 < t.size ∧ byt t 1 / 64 = 2 ∧ 128 ≤ byt t 0 % 32 * 64 + byt t 1 % 64)) →
  (¬ (224 ≤ byt t 0 ∧ byt t 0 < 240 ∧ 2 < t.size ∧ byt t 1 / 64 = 2 ∧ byt t 2 / 64 = 2 ∧ 2048 ≤ byt t 0 % 16 * 4096 + byt t 1 % 64 * 64 + byt t 2 % 64 ∧ (byt t 0 % 16 * 4096 + byt t 1 % 64 * 64 + byt t 2 % 64 < 55296 ∨ 57344 ≤ byt t 0 % 16 * 4096 + byt t 1 % 64 * 64 + byt t 2 % 64))) →
  (¬ (240 ≤ byt t 0 ∧ byt t 0 < 248 ∧ 3 < t.size ∧ byt t 1 / 64 = 2 ∧ byt t 2 / 64 = 2 ∧ byt t 3 / 64 = 2 ∧ 65536 ≤ byt t 0 % 8 * 262144 + byt t 1 % 64 * 4096 + byt t 2 % 64 * 64 + byt t 3 % 64 ∧ byt t 0 % 8 * 262144 + byt t 1 % 64 * 4096 + byt t 2 % 64 * 64 + byt t 3 % 64 ≤ 1114111)) → uC t 0 = -1 := by
  intro g2 g3 g4
  rcases hcs with h | h | h | h | h
  ·omega
  ·exact h.2.1
  ·exact absurd ⟨h.1,h.2.1,h.2.2.1,h.2.2.2.1,h.2.2.2.2.1⟩ g2
  ·exact absurd ⟨h.1,h.2.1,h.2.2.1,h.2.2.2.1,h.2.2.2.2.1,h.2.2.2.2.2.1,h.2.2.2.2.2.2.1⟩ g3
  ·exact absurd ⟨h.1,h.2.1,h.2.2.1,h.2.2.2.1,h.2.2.2.2.1,h.2.2.2.2.2.1,h.2.2.2.2.2.2.1,h.2.2.2.2.2.2.2.1⟩ g4
 by_cases h2 : byt t 0 < 192
 ·rw [if_pos h2,hneg (by omega) (by omega) (by omega)]
  exact ev_pos (by simp) (Ev.step (fun k => bodkinref01_begins.j0.eq_2 ..) (ev_pos rfl (Ev.now _)))
 rw [if_neg h2]
 by_cases h3 : byt t 0 < 224
 ·rw [if_pos h3]
  refine ev_neg (by simp) (Ev.step (fun k => bodkinref01_begins.j0.eq_2 ..) ?_)
  by_cases hs : t.size ≤ 1
  ·rw [hneg (by omega) (by omega) (by omega)];exact ev_pos (by simp;omega) (Ev.now _)
  refine ev_neg (by simp;omega) ?_
  rw [show (byt t 0 : Int) - 192 = ((byt t 0 - 192 : Nat) : Int) by omega]
  have k1 := byt_lt t 1
  by_cases hb : byt t 1 < 128 ∨ 191 < byt t 1
  ·rw [hneg (by omega) (by omega) (by omega)];exact begins_bad t _ 1 1 (by omega) (by omega) hb
  refine begins_go t ht _ 1 1 (by omega) (by omega) (by omega) (by omega) (by omega) ?_
  by_cases hg : 128 ≤ byt t 0 % 32 * 64 + byt t 1 % 64
  ·have hu : uC t 0 = (((byt t 0 - 192) * 64 + byt t 1 % 64 : Nat) : Int) := by
    have hd := dec_eq t 0
    rw [dec_two _ _ _ _ _ (by omega) (by omega) (by omega) (show byt t (0 + 1) / 64 = 2 by rw [Nat.zero_add];omega) (by rw [Nat.zero_add];omega)] at hd
    have := (uC_of t 0 _ _ hd (by omega)).1
    rw [this,Nat.zero_add];omega
   rw [hu]
   exact begins_end_good t _ 1 (by omega) (by omega) (by omega)
  ·rw [hneg (by omega) (by omega) (by omega)]
   exact begins_end_bad t _ 1 (by omega) (by omega)
 rw [if_neg h3]
 by_cases h4 : byt t 0 < 240
 ·rw [if_pos h4]
  refine ev_neg (by simp) (Ev.step (fun k => bodkinref01_begins.j0.eq_2 ..) ?_)
  by_cases hs : t.size ≤ 2
  ·rw [hneg (by omega) (by omega) (by omega)];exact ev_pos (by simp;omega) (Ev.now _)
  refine ev_neg (by simp;omega) ?_
  rw [show (byt t 0 : Int) - 224 = ((byt t 0 - 224 : Nat) : Int) by omega]
  have k1 := byt_lt t 1
  have k2 := byt_lt t 2
  by_cases hb : byt t 1 < 128 ∨ 191 < byt t 1
  ·rw [hneg (by omega) (by omega) (by omega)];exact begins_bad t _ 2 1 (by omega) (by omega) hb
  refine begins_go t ht _ 2 1 (by omega) (by omega) (by omega) (by omega) (by omega) ?_
  by_cases hb' : byt t 2 < 128 ∨ 191 < byt t 2
  ·rw [hneg (by omega) (by omega) (by omega)];exact begins_bad t _ 2 2 (by omega) (by omega) hb'
  refine begins_go t ht _ 2 2 (by omega) (by omega) (by omega) (by omega) (by omega) ?_
  by_cases hg : 2048 ≤ byt t 0 % 16 * 4096 + byt t 1 % 64 * 64 + byt t 2 % 64 ∧ (byt t 0 % 16 * 4096 + byt t 1 % 64 * 64 + byt t 2 % 64 < 55296 ∨ 57344 ≤ byt t 0 % 16 * 4096 + byt t 1 % 64 * 64 + byt t 2 % 64)
  ·have hu : uC t 0 = ((((byt t 0 - 224) * 64 + byt t 1 % 64) * 64 + byt t 2 % 64 : Nat) : Int) := by
    have hd := dec_eq t 0
    simp only [Nat.zero_add] at hd
    rw [dec_three _ _ _ _ _ (by omega) (by omega) (by omega) (by omega) (by omega) (by omega) (by omega)] at hd
    have := (uC_of t 0 _ _ hd (by omega)).1
    rw [this];omega
   rw [hu]
   exact begins_end_good t _ 2 (by omega) (by omega) (by omega)
  ·rw [hneg (by omega) (by omega) (by omega)]
   exact begins_end_bad t _ 2 (by omega) (by omega)
 rw [if_neg h4]
 by_cases h5 : byt t 0 < 248
 ·rw [if_pos h5]
  refine ev_neg (by simp) (Ev.step (fun k => bodkinref01_begins.j0.eq_2 ..) ?_)
  by_cases hs : t.size ≤ 3
  ·rw [hneg (by omega) (by omega) (by omega)];exact ev_pos (by simp;omega) (Ev.now _)
  refine ev_neg (by simp;omega) ?_
  rw [show (byt t 0 : Int) - 240 = ((byt t 0 - 240 : Nat) : Int) by omega]
  have k1 := byt_lt t 1
  have k2 := byt_lt t 2
  have k3 := byt_lt t 3
  by_cases hb : byt t 1 < 128 ∨ 191 < byt t 1
  ·rw [hneg (by omega) (by omega) (by omega)];exact begins_bad t _ 3 1 (by omega) (by omega) hb
  refine begins_go t ht _ 3 1 (by omega) (by omega) (by omega) (by omega) (by omega) ?_
  by_cases hb' : byt t 2 < 128 ∨ 191 < byt t 2
  ·rw [hneg (by omega) (by omega) (by omega)];exact begins_bad t _ 3 2 (by omega) (by omega) hb'
  refine begins_go t ht _ 3 2 (by omega) (by omega) (by omega) (by omega) (by omega) ?_
  by_cases hb'' : byt t 3 < 128 ∨ 191 < byt t 3
  ·rw [hneg (by omega) (by omega) (by omega)];exact begins_bad t _ 3 3 (by omega) (by omega) hb''
  refine begins_go t ht _ 3 3 (by omega) (by omega) (by omega) (by omega) (by omega) ?_
  by_cases hg : 65536 ≤ byt t 0 % 8 * 262144 + byt t 1 % 64 * 4096 + byt t 2 % 64 * 64 + byt t 3 % 64 ∧ byt t 0 % 8 * 262144 + byt t 1 % 64 * 4096 + byt t 2 % 64 * 64 + byt t 3 % 64 ≤ 1114111
  ·have hu : uC t 0 = (((((byt t 0 - 240) * 64 + byt t 1 % 64) * 64 + byt t 2 % 64) * 64 + byt t 3 % 64 : Nat) : Int) := by
    have hd := dec_eq t 0
    simp only [Nat.zero_add] at hd
    rw [dec_four _ _ _ _ _ (by omega) (by omega) (by omega) (by omega) (by omega) (by omega) (by omega) (by omega)] at hd
    have := (uC_of t 0 _ _ hd (by omega)).1
    rw [this];omega
   rw [hu]
   exact begins_end_good t _ 3 (by omega) (by omega) (by omega)
  ·rw [hneg (by omega) (by omega) (by omega)]
   exact begins_end_bad t _ 3 (by omega) (by omega)
 ·rw [if_neg h5,hneg (by omega) (by omega) (by omega)]
  exact ev_pos (by simp) (Ev.step (fun k => bodkinref01_begins.j0.eq_2 ..) (ev_pos rfl (Ev.now _)))
end
theorem size_unit (s : ByteArray) (i : Nat) (h : 0 ≤ uC s i) : bodkinref01_size.f (uC s i) = some (uN s i : Int) := by
 rw [size_ans]
 have := byt_lt s i;have := byt_lt s (i + 1);have := byt_lt s (i + 2);have := byt_lt s (i + 3)
 rcases uC_cases s i with h1 | h1 | h1 | h1 | h1
 ·rw [if_pos (by omega)];simp [h1.2.2]
 ·omega
 ·rw [if_neg (by omega),if_pos (by omega)];simp [h1.2.2.2.2.2.2]
 ·rw [if_neg (by omega),if_neg (by omega),if_pos (by omega)];simp [h1.2.2.2.2.2.2.2.2]
 ·rw [if_neg (by omega),if_neg (by omega),if_neg (by omega)];simp [h1.2.2.2.2.2.2.2.2.2]
theorem ref_units_loop (s : ByteArray) (hs : s.size ≤ 1099511627776) : ∀ n x : Nat,∀ us : List S87,s.size - x ≤ n → us.length + n ≤ 2199023255552 → Ev (fun k => bodkinref01_Units.l0 k s us x) (us ++ (walkL s n x).map (·.2)) := by
 intro n
 induction n with
 | zero => intro x us hn hl;exact Ev.step (fun k => bodkinref01_Units.l0.eq_2 ..) (ev_neg (by omega) (ev_now (by simp [walkL])))
 | succ n ih =>
  intro x us hn hl
  by_cases hx : x < s.size
  ·have h1 := uN_pos s x
   have h4 := uN_le4 s x
   have hb := begins_ans (s.extract x s.size) (by rw [size_extract _ _ _ (Nat.le_refl _)];omega) (by rw [size_extract _ _ _ (Nat.le_refl _)];omega)
   rw [uC_extract s x hx] at hb
   have hgo := ih (x + uN s x) (us ++ [uAt s x]) (by omega) (by simp;omega)
   have e : us ++ (walkL s (n + 1) x).map (·.2) = (us ++ [uAt s x]) ++ (walkL s n (x + uN s x)).map (·.2) := by
    rw [walkL,if_pos hx];simp
   rw [e]
   refine Ev.step (fun k => bodkinref01_Units.l0.eq_2 ..) (ev_pos (by omega) (ev_pos (by omega) (ev_pos (by omega) (Ev.bind hb ?_))))
   by_cases hc : 0 ≤ uC s x
   ·refine ev_pos hc (ev_some (size_unit s x hc) (ev_pos (by omega) ?_))
    rw [w64 (by omega) (by omega)];exact hgo
   ·have hr : uC s x = -1 ∧ uN s x = 1 := by have := uC_range s x;omega
    refine ev_neg hc (ev_pos (by omega) ?_)
    rw [w64 (by omega) (by omega)]
    have e3 : uAt s x = ⟨uC s x,1⟩ := by unfold uAt;rw [hr.2];rfl
    rw [hr.2,e3] at hgo
    rw [hr.2,e3]
    exact hgo
  ·refine Ev.step (fun k => bodkinref01_Units.l0.eq_2 ..) (ev_neg (by omega) (ev_now ?_))
   rw [walkL,if_neg hx];simp
theorem ref_units_ans (s : ByteArray) (hs : s.size ≤ 1099511627776) : Ev (fun k => bodkinref01_Units.f k s) (unitsL s) := by
 have := ref_units_loop s hs s.size 0 [] (by omega) (by simp;omega)
 exact this
theorem drop_cons {α : Type} {l t : List α} {b d : α} {i : Nat} (h : l.drop i = b :: t) : i < l.length ∧ l.getD i d = b ∧ l.drop (i + 1) = t := by
 have h1 : i < l.length := by
  rcases Nat.lt_or_ge i l.length with h2 | h2
  ·exact h2
  ·rw [List.drop_eq_nil_of_le h2] at h;cases h
 rw [List.drop_eq_getElem_cons h1] at h
 injection h with h2 h3
 exact ⟨h1,by rw [List.getD_eq_getElem?_getD,List.getElem?_eq_getElem h1];exact h2,h3⟩
theorem drop_nil_le {α : Type} {l : List α} {i : Nat} (h : l.drop i = []) : l.length ≤ i := List.drop_eq_nil_iff.1 h
end Go.Proofs.YtnpjaaldppemlaaDoor.Pu
end
section
namespace Go.Proofs.YtnpjaaldppemlaaDoor.U
open Go.RowKit Go.Shelf Go.Proofs.YtnpjaaldppemlaaDoor.Mu Go.Proofs.YtnpjaaldppemlaaDoor.Pu Go.Proofs.YtnpjaaldppemlaaDoor.Rg Go.Proofs.YtnpjaaldppemlaaDoorW.PrintWords Go.Proofs.YtnpjaaldppemlaaDoorW.PrintLast Go.Proofs.YtnpjaaldppemlaaDoorW.PrintMore
attribute [local go_sem] Oper.semAt_some
set_option linter.unusedVariables false
set_option linter.unusedSimpArgs false
/-- What is drawn of a cluster. -/
def drawB (s : ByteArray) (c : S60) : ByteArray :=
 if c.f2 = 1 then ⟨#[]⟩ else if c.f2 = 2 then (if byt s c.f0.toNat = 127 then ⟨#[94,63]⟩ else if byt s c.f0.toNat < 128 then (⟨#[94]⟩ : ByteArray) ++ Utf8.encode ((byt s c.f0.toNat : Int) + 64) else ⟨#[239,191,189]⟩)
 else if c.f2 = 3 then (⟨#[32]⟩ : ByteArray) ++ s.extract c.f0.toNat c.f1.toNat else if c.f2 = 5 then (⟨#[239,191,189]⟩ : ByteArray) ++ (s.extract c.f0.toNat c.f1.toNat).extract 1 (s.extract c.f0.toNat c.f1.toNat).size
 else s.extract c.f0.toNat c.f1.toNat
def drawU (s : ByteArray) (cs : List S60) : List UInt8 := cs.flatMap fun c => (drawB s c).data.toList
def drawnS (s : ByteArray) : ByteArray := ⟨(drawU s (clusL s)).toArray⟩
theorem drawU_snoc (s : ByteArray) (cs : List S60) (c : S60) : drawU s (cs ++ [c]) = drawU s cs ++ (drawB s c).data.toList := by simp [drawU]
theorem clus_mem (s : ByteArray) : ∀ k x,CB s x → ∀ c ∈ cluL s k x,∃ i,CB s i ∧ i < s.size ∧ c = clAt s i
 | 0,_,_,c,h => by simp [cluL] at h
 | k + 1,x,hx,c,h => by
  rw [cluL] at h
  split at h
  ·rename_i hlt
   rcases List.mem_cons.1 h with rfl | h
   ·exact ⟨x,hx,hlt,rfl⟩
   ·exact clus_mem s k _ (nxt_cb s x hx.1 hlt) c h
  ·simp at h
theorem encode_low (k : Nat) (h : k < 128) : (Utf8.encode ((k : Int) + 64)).size ≤ 2 := by
 have hv : Utf8.valid ((k : Int) + 64) = true := by unfold Utf8.valid;simp;omega
 unfold Utf8.encode
 simp only [hv,if_true]
 have : ((k : Int) + 64).toNat = k + 64 := by omega
 rw [this]
 split
 ·exact Nat.le_succ 1
 ·rw [if_pos (by omega)];exact Nat.le_refl 2
theorem drawB_size (s : ByteArray) (i : Nat) (hc : CB s i) (hi : i < s.size) : (drawB s (clAt s i)).size + 3 * i ≤ 3 * nxt s i := by
 have h1 := nxt_pos s i hi
 have h2 := nxt_le s i hc.1 hi
 have h3 : (s.extract i (nxt s i)).size = nxt s i - i := size_extract _ _ _ h2
 have e0 : (clAt s i).f0.toNat = i := by unfold clAt;exact Int.toNat_natCast i
 have e1 : (clAt s i).f1.toNat = nxt s i := by unfold clAt;exact Int.toNat_natCast _
 have hl := encode_low (byt s i)
 unfold drawB
 rw [e0,e1]
 split
 ·show 0 + _ ≤ _;omega
 split
 ·split
  ·show 2 + _ ≤ _;omega
  split
  ·rw [ByteArray.size_append];have := hl (by assumption);show 1 + _ + _ ≤ _;omega
  ·show 3 + _ ≤ _;omega
 split
 ·rw [ByteArray.size_append,h3];show 1 + _ + _ ≤ _;omega
 split
 ·rw [ByteArray.size_append,size_extract _ _ _ (Nat.le_refl _),h3];show 3 + _ + _ ≤ _;omega
 ·omega
theorem draw_size (s : ByteArray) : ∀ (pre : List S60) (i : Nat),CB s i → i ≤ s.size → pre <+: ctl s i → (drawU s pre).length + 3 * i ≤ 3 * s.size
 | [],i,_,hi,_ => by simp [drawU];omega
 | c :: pre,i,hc,hi,h => by
  by_cases hlt : i < s.size
  ·rw [ctl_go s i hlt,List.cons_prefix_cons] at h
   obtain ⟨rfl,h⟩ := h
   have h1 := draw_size s pre (nxt s i) (nxt_cb s i hc.1 hlt) (nxt_le s i hc.1 hlt) h
   have h2 := drawB_size s i hc hlt
   have e : (drawU s (clAt s i :: pre)).length = (drawB s (clAt s i)).size + (drawU s pre).length := by
    simp only [drawU,List.flatMap_cons,List.length_append];rfl
   omega
  ·rw [ctl_end s i (by omega)] at h
   have := h.length_le
   simp at this
theorem cells_app (l : List UInt8) (t : ByteArray) : Lib.byteCells l ++ Lib.strCells t = Lib.byteCells (l ++ t.data.toList) := by
 rw [Lib.strCells_eq];unfold Lib.byteCells;rw [List.map_append]
theorem ctl_low (s : ByteArray) (i : Nat) (h : clsAt s i = 2) : byt s i < 32 ∨ 127 ≤ byt s i := by
 unfold clsAt at h
 split at h
 ·omega
 ·have hr := uC_cases s i
  unfold cls at h
  split at h
  ·omega
  split at h
  ·omega
  split at h
  ·have := byt_lt s i
   omega
  split at h
  ·omega
  split at h <;> omega
set_option maxRecDepth 100000 in
set_option maxHeartbeats 2000000 in
theorem cdrawn_any (s : ByteArray) (w : World) (hs : s.size ≤ 1099511627776) (hT : Lib.Utf8Tabs 0 1 w) :
  Calls Tryd.prog 20 #[.string s] w fun e w' => e = .returned (.string (drawnS s)) ∧ Below w.heap.size w w' := by
 have hlen : (clusL s).length ≤ s.size := clusL_length s
 have hu := Tryd.underlying60
 have hub := Tryd.underlying76
 refine (callsIn_wide (n := 6)).1 ?_
 refine callsIn_of_wp_marks Tryd.func20 rfl trivial ?_ rfl
 simp only [Tryd.ntmps20,List.size_toArray,List.length_cons,List.length_nil,Nat.reduceAdd,Nat.reduceSub,Array.replicate_succ,Array.replicate_zero,List.push_toArray,List.append_toArray,List.nil_append,List.cons_append]
 gi_wp2_with (refine ⟨trivial,?_⟩;gi_at_call 35;refine (callsIn_wide.2 (cwalk_calls s _)).mono ?_;rintro e w' ⟨rfl,rfl⟩)
 simp only [Nat.add_assoc,Nat.reduceAdd]
 have bS0 := ((Boxed.new w 9 (.string s)).alloc (.cells #[.pointer none,.slice none 0 0] 76)).alloc (.cells #[.string s] 9)
 have bS := Boxed.new ((w.alloc (.cells #[.string s] 9)).alloc (.cells #[.pointer none,.slice none 0 0] 76)) 9 (.string s)
 rw [World.size_alloc,World.size_alloc] at bS
 have bB : (((w.alloc (.cells #[.string s] 9)).alloc (.cells #[.pointer none,.slice none 0 0] 76)).alloc (.cells #[.string s] 9)).heap[w.heap.size + 1]? = some (.cells #[.pointer none,.slice none 0 0] 76 (0,0)) := by
  have := World.alloc_heap_new (w.alloc (.cells #[.string s] 9)) (.cells #[.pointer none,.slice none 0 0] 76)
  rw [World.size_alloc] at this
  exact (Below.heap_alloc _ _ _ (by simp)).trans this
 have hB0 : Below w.heap.size w (((w.alloc (.cells #[.string s] 9)).alloc (.cells #[.pointer none,.slice none 0 0] 76)).alloc (.cells #[.string s] 9)) := (((Below.refl _ w).alloc (Nat.le_refl _) _).alloc (by simp) _).alloc (by simp;omega) _
 have hsz : (((w.alloc (.cells #[.string s] 9)).alloc (.cells #[.pointer none,.slice none 0 0] 76)).alloc (.cells #[.string s] 9)).heap.size = w.heap.size + 3 := by simp
 obtain ⟨W0,hW0⟩ : ∃ W0,((w.alloc (.cells #[.string s] 9)).alloc (.cells #[.pointer none,.slice none 0 0] 76)).alloc (.cells #[.string s] 9) = W0 := ⟨_,rfl⟩
 rw [hW0] at bS0 bS bB hB0 hsz ⊢
 clear hW0
 refine range_outer (α := S60) rfl (by omega) (gf := 52) (lb := #[.pointer (some ⟨w.heap.size + 2,0,none⟩)]) rfl trivial (enters_of Tryd.func52 (by kernel_rfl) rfl)
  (cwalk1_seq 5 (by omega) w W0 s (w.heap.size + 2) hs hT hB0 bS) (Below.refl _ _) (fun _ => rfl) (by omega)
  (fun (B : Nat) (pre : List S60) (W : World) => (((∃ v,BldAt w.heap.size (w.heap.size + 1) (Lib.byteCells (drawU s pre)) v W ∧ (∀ g,v.ownBlock = some g → g < B)) ∧ Boxed W w.heap.size 9 (.string s)) ∧ Boxed W (w.heap.size + 2) 9 (.string s)) ∧ Below w.heap.size w W ∧ (w.heap.size + 2 < B ∧ pre <+: clusL s))
  (fun _ _ _ => False)
  (fun B pre X Y row h hg hr => ⟨⟨⟨by obtain ⟨v,h1,h2⟩ := h.1.1.1;exact ⟨v,h1.grow hg (fun r e => (hr r e).2),h2⟩,boxed_grow h.1.1.2 hg (fun r e => (hr r e).2)⟩,boxed_grow h.1.2 hg (fun r e => (hr r e).2)⟩,h.2.1.grown hg h.2.1.size (fun k e => by have := (hr k e).1;omega),h.2.2⟩)
  (fun B B' pre W hBB h => ⟨⟨⟨by obtain ⟨v,h1,h2⟩ := h.1.1.1;exact ⟨v,h1,fun g hg => Nat.lt_of_lt_of_le (h2 g hg) hBB⟩,h.1.1.2⟩,h.1.2⟩,h.2.1,by omega,h.2.2.2⟩)
  (fun _ _ _ _ _ hs _ _ => hs)
  ⟨⟨⟨⟨_,⟨_,.inl rfl,bB,World.ownsRowF_of (World.ownsRow_nil _ _ _ _),by simp [Value.ownBlock]⟩,by simp [Value.ownBlock]⟩,bS0⟩,bS⟩,hB0,by omega,List.nil_prefix⟩
  (fun (x : S60) (a' : Act) (W : World) => ∃ Bx,Hid (W.heap[Bx]? = some (.cells #[.int .i64 x.f0,.int .i64 x.f1,.int .i64 x.f2,.int .i64 x.f3] 60 (0,0))) ∧ a' = { tmps := #[.string s,.pointer (some ⟨w.heap.size,0,none⟩),.string ⟨#[]⟩,.pointer (some ⟨w.heap.size + 1,0,none⟩),.pointer (some ⟨Bx,0,none⟩),undef,undef,.string s,.func (.func 52) #[] #[.pointer (some ⟨w.heap.size + 2,0,none⟩)],.agg #[.int .i64 x.f0,.int .i64 x.f1,.int .i64 x.f2,.int .i64 x.f3],undef,undef,undef,undef,undef,undef,undef,undef,undef,undef,undef,undef,undef,undef,undef,undef,undef,undef,undef,undef,undef,undef,undef,undef,undef,undef,undef,undef,undef,undef,undef,undef,undef,undef,undef,undef,undef,undef,undef,undef,undef,undef],defers := [] })
  (fun x a' _ X Y row hs hg hr => by
   obtain ⟨Bx,h1,h2⟩ := hs
   refine ⟨Bx,?_,h2⟩
   refine (hg.block Bx (Array.getElem?_eq_some_iff.1 h1).1 (fun e => ?_)).trans h1
   obtain ⟨_,o,ho,hc⟩ := hr Bx e.symm
   rw [show X.heap[Bx]? = _ from h1] at ho;cases ho;cases hc)
  ?assign ?body ?done ?stop
 case assign =>
  rintro l B pre x W K hCW hBW hI hK
  have hsz1 := hI.2.1.size
  gi_wp2
  exact hK _ _ ((KeepsOthers.alloc _ _).from _) (KeepB.of_below hsz1 ((Below.refl _ W).alloc (Nat.le_refl _) _)) ⟨⟨⟨by obtain ⟨v,h1,h2⟩ := hI.1.1.1;exact ⟨v,h1.grow (World.grownBy_alloc W _ none) (fun r e => by cases e),h2⟩,hI.1.1.2.alloc _⟩,hI.1.2.alloc _⟩,hI.2.1.alloc hsz1 _,hI.2.2⟩ ⟨W.heap.size,Lib.hid (World.alloc_heap_new W _),rfl⟩
 case body =>
  rintro l B pre x a' W hl hCW hr hBW ⟨⟨⟨⟨v,hv,hvB⟩,hb0⟩,hb2⟩,hB,hoB,hpp⟩ ⟨Bx,hBx,rfl⟩ hlt hpx
  have hsz1 := hB.size
  have hrun : (drawU s (pre ++ [x])).length ≤ 3 * s.size := by have := draw_size s (pre ++ [x]) 0 (cb_zero s) (Nat.zero_le _) hpx;omega
  rw [drawU_snoc,List.length_append] at hrun
  have hfin : ∀ (C : Nat) (t : ByteArray) (v' : Value) (W' : World),drawB s x = t → BldAt w.heap.size (w.heap.size + 1) (Lib.byteCells (drawU s pre) ++ Lib.strCells t) v' W' → Wrote w.heap.size (w.heap.size + 1) v W W' →
    KeepsFrom C W W' ∧ KeepB w.heap.size (fun k => k = w.heap.size + 2) B W W' ∧ (((∃ v,BldAt w.heap.size (w.heap.size + 1) (Lib.byteCells (drawU s (pre ++ [x]))) v W' ∧ (∀ g,v.ownBlock = some g → g < W'.heap.size)) ∧ Boxed W' w.heap.size 9 (.string s)) ∧ Boxed W' (w.heap.size + 2) 9 (.string s)) ∧ Below w.heap.size w W' ∧ (w.heap.size + 2 < W'.heap.size ∧ (pre ++ [x]) <+: clusL s) := by
   rintro C t v' W' rfl hb' hw
   obtain ⟨_,_,_,hrow,_⟩ := hv
   have hkeep : ∀ (k : Nat) (o : Obj),(k = w.heap.size + 2 ∨ k = w.heap.size ∨ B ≤ k) → W.heap[k]? = some o → (∀ g,v.ownBlock = some g → k ≠ g) → W'.heap[k]? = some o := fun k o hk ho hne =>
    (hw.keep k (Array.getElem?_eq_some_iff.1 ho).1 (by omega) (fun e => hne k e.symm rfl)).trans ho
   have hnot : ∀ k,Boxed W k 9 (.string s) → ∀ g,v.ownBlock = some g → k ≠ g := by
    rintro k hk g hg rfl
    obtain ⟨c,fz,hc⟩ := Lib.ownsRowF_kind hrow k hg
    rw [show W.heap[k]? = _ from hk] at hc
    injection hc with hc;injection hc with _ h2 _
    exact absurd h2 (by decide)
   refine ⟨hw.others.from _,⟨hw.below,fun k o hk ho _ => ?_⟩,⟨⟨⟨v',?_,?_⟩,?_⟩,?_⟩,hB.trans hw.below,?_,hpx⟩
   ·rcases hk with hk | hk
    ·have hk : k = w.heap.size + 2 := hk
     exact hkeep k o (.inl hk) ho (by rw [hk];exact hnot _ hb2)
    ·exact hkeep k o (.inr (.inr hk)) ho (fun g hg => by have := hvB g hg;omega)
   ·rw [drawU_snoc,← cells_app];exact hb'
   ·intro g hg;obtain ⟨_,_,_,hrow',_⟩ := hb';exact (hrow'.lt g hg).2
   ·exact hkeep _ _ (.inr (.inl rfl)) hb0 (hnot _ hb0)
   ·exact hkeep _ _ (.inl rfl) hb2 (hnot _ hb2)
   ·have := hw.below.size;have := hw.others.size;omega
  have hwr : ∀ t : ByteArray,drawB s x = t → Calls Tryd.prog 41 #[.pointer (some ⟨w.heap.size + 1,0,none⟩),.string t] W fun e w' => e = .returned (.tuple #[.int .i64 t.size,.nilIface]) ∧ ∃ v',BldAt w.heap.size (w.heap.size + 1) (Lib.byteCells (drawU s pre) ++ Lib.strCells t) v' w' ∧ Wrote w.heap.size (w.heap.size + 1) v W w' := by
   rintro t rfl
   refine writeString_calls w.heap.size (w.heap.size + 1) _ v _ W hv hsz1 (by omega) ?_
   rw [Lib.byteCells_length]
   have e : (drawB s x).data.toList.length = (drawB s x).size := rfl
   omega
  obtain ⟨i,hci,hilt,hxi⟩ := clus_mem s s.size 0 (cb_zero s) x (hpx.subset (by simp))
  have hcl : x.f2 = 2 → byt s i < 32 ∨ 127 ≤ byt s i := by rw [hxi];exact ctl_low s i
  obtain ⟨t,ht⟩ : ∃ t,nxt s i = t := ⟨_,rfl⟩
  have ht1 : i < t := ht ▸ nxt_pos s i hilt
  have ht2 : t ≤ s.size := ht ▸ nxt_le s i hci.1 hilt
  obtain ⟨x0,x1,x2,x3⟩ := x
  injection hxi with e0 e1 e2 e3
  subst e0
  rw [ht] at e1
  subst e1
  clear e2 e3 ht
  have hd : drawB s ⟨(i : Int),(t : Int),x2,x3⟩ = (if x2 = 1 then ⟨#[]⟩ else if x2 = 2 then (if byt s i = 127 then ⟨#[94,63]⟩ else if byt s i < 128 then (⟨#[94]⟩ : ByteArray) ++ Utf8.encode ((byt s i : Int) + 64) else ⟨#[239,191,189]⟩)
   else if x2 = 3 then (⟨#[32]⟩ : ByteArray) ++ s.extract i t else if x2 = 5 then (⟨#[239,191,189]⟩ : ByteArray) ++ (s.extract i t).extract 1 (s.extract i t).size else s.extract i t) := by unfold drawB;rw [Int.toNat_natCast,Int.toNat_natCast]
  have c0 := hb0.cell
  have hcx0 : W.cell? ⟨Bx,0,none⟩ = some (.int .i64 (i : Int)) := by simp [World.cell?,show W.heap[Bx]? = _ from hBx]
  have hcx1 : W.cell? ⟨Bx,1,none⟩ = some (.int .i64 (t : Int)) := by simp [World.cell?,show W.heap[Bx]? = _ from hBx]
  have hcx2 : W.cell? ⟨Bx,2,none⟩ = some (.int .i64 x2) := by simp [World.cell?,show W.heap[Bx]? = _ from hBx]
  have hv' := Lib.hid hv
  have hl0 : (i : Int) ≤ (t : Int) := by omega
  have hl1 : (t : Int) ≤ (s.size : Int) := by omega
  have hl2 : (0 : Int) ≤ (i : Int) := by omega
  obtain ⟨c,hc⟩ : ∃ c,s.extract i t = c := ⟨_,rfl⟩
  have hcs : c.size = t - i := by rw [← hc];exact size_extract _ _ _ ht2
  have hkb : byt c 0 = byt s i := by rw [← hc];exact byt_extract s i t 0 (by omega) ht2
  obtain ⟨kk,hkk⟩ : ∃ kk : Int,(byt s i : Int) = kk := ⟨_,rfl⟩
  have hk0 : 0 ≤ kk ∧ kk ≤ 255 := by have := byt_lt s i;omega
  have hx6 : ∀ h : 0 < c.size,((c[0]'h).toNat : Int) = kk := fun h => by rw [← hkk,← hkb,← bt_byt c 0 h];exact bt_at c 0 h
  have hq0 : (0 < (c.size : Int)) = True := eq_true (by omega)
  have hq1 : (0 < c.size) = True := eq_true (by omega)
  have hq2 : (1 ≤ (c.size : Int)) = True := eq_true (by omega)
  rw [hc] at hd
  have hdk : Hid (byt s i = 127 ↔ kk = 127) := Lib.hid (by omega)
  have hdl : Hid (byt s i < 128 ↔ kk < 128) := Lib.hid (by omega)
  have hde : Hid ((byt s i : Int) = kk) := Lib.hid hkk
  have hs1 : decide (1 + c.size ≤ 9223372036854775807) = true := decide_eq_true (by omega)
  have hs1b : (9223372036854775807 < 1 + c.size) = False := eq_false (by omega)
  obtain ⟨c1,hc1⟩ : ∃ c1,c.extract 1 c.size = c1 := ⟨_,rfl⟩
  have hcs1 : c1.size = c.size - 1 := by rw [← hc1];exact size_extract _ _ _ (Nat.le_refl _)
  rw [hc1] at hd
  have hs3 : decide (3 + c1.size ≤ 9223372036854775807) = true := decide_eq_true (by omega)
  have hs3b : (9223372036854775807 < 3 + c1.size) = False := eq_false (by omega)
  have hd := Lib.hid hd
  have hfin := Lib.hid hfin
  have hwr := Lib.hid hwr
  clear hrun hBx hv hvB hb0 hb2 hB hpp hpx hlt hr hci hkk hkb hilt ht1 ht2 hcs hcs1
  by_cases h1 : x2 = 1
  ·have h1b : (x2 == 1) = true := by simpa using h1
   have hq := Lib.hid (hd.out.trans (if_pos h1))
   clear h1
   gi_wp2
   exact hfin.out _ ⟨#[]⟩ v W hq.out (by rw [show Lib.strCells ⟨#[]⟩ = [] from rfl,List.append_nil];exact hv'.out) (Wrote.refl _ _ _ _)
  ·have h1b : (x2 == 1) = false := by simpa using h1
   have hd1 := Lib.hid (hd.out.trans (if_neg h1))
   clear h1
   by_cases h2 : x2 = 2
   ·have h2b : (x2 == 2) = true := by simpa using h2
    have hd2 := Lib.hid (hd1.out.trans (if_pos h2))
    clear h2 hcl
    by_cases h7 : kk = 127
    ·have h7b : (kk == 127) = true := by simpa using h7
     have hq := Lib.hid (hd2.out.trans (if_pos (hdk.out.2 h7)))
     clear h7 hk0
     gi_wp2_with (refine ⟨trivial,?_⟩;gi_at_call 41;refine (callsIn_wide.2 (hwr.out (⟨#[94,63]⟩) hq.out)).mono ?_;rintro e W' ⟨rfl,v',hb',hw'⟩)
     exact hfin.out _ (⟨#[94,63]⟩) v' W' hq.out hb' hw'
    ·have h7b : (kk == 127) = false := by simpa using h7
     have hd3 := Lib.hid (hd2.out.trans (if_neg (fun h => h7 (hdk.out.1 h))))
     clear h7
     by_cases h8 : kk < 128
     ·have h8b : decide (kk < 128) = true := decide_eq_true h8
      have hq := Lib.hid (hd3.out.trans (if_pos (hdl.out.2 h8)))
      rw [hde.out] at hq
      have hw1 : IntKind.i32.wrap kk = kk := (i32_w _).trans (w32 (by omega) (by omega))
      have hw2 : IntKind.i32.wrap (kk + 64) = kk + 64 := (i32_w _).trans (w32 (by omega) (by omega))
      have hes2 : (Utf8.encode (kk + 64)).size ≤ 2 := by have := encode_low (byt s i) (hdl.out.2 h8);rwa [hde.out] at this
      obtain ⟨es,hes⟩ : ∃ es,Utf8.encode (kk + 64) = es := ⟨_,rfl⟩
      rw [hes] at hq hes2
      have he1 : decide (1 + es.size ≤ 9223372036854775807) = true := decide_eq_true (by omega)
      have he2 : (9223372036854775807 < 1 + es.size) = False := eq_false (by omega)
      have hq := Lib.hid hq
      clear h8 hk0 hes2
      gi_wp2_with (refine ⟨trivial,?_⟩;gi_at_call 41;refine (callsIn_wide.2 (hwr.out ((⟨#[94]⟩ : ByteArray) ++ es) hq.out)).mono ?_;rintro e W' ⟨rfl,v',hb',hw'⟩)
      exact hfin.out _ ((⟨#[94]⟩ : ByteArray) ++ es) v' W' hq.out hb' hw'
     ·have h8b : decide (kk < 128) = false := decide_eq_false h8
      have hq := Lib.hid (hd3.out.trans (if_neg (fun h => h8 (hdl.out.1 h))))
      clear h8 hk0
      gi_wp2_with (refine ⟨trivial,?_⟩;gi_at_call 41;refine (callsIn_wide.2 (hwr.out (⟨#[239,191,189]⟩) hq.out)).mono ?_;rintro e W' ⟨rfl,v',hb',hw'⟩)
      exact hfin.out _ (⟨#[239,191,189]⟩) v' W' hq.out hb' hw'
   ·have h2b : (x2 == 2) = false := by simpa using h2
    have hd2 := Lib.hid (hd1.out.trans (if_neg h2))
    clear h2 hcl hk0
    by_cases h3 : x2 = 3
    ·have h3b : (x2 == 3) = true := by simpa using h3
     have hq := Lib.hid (hd2.out.trans (if_pos h3))
     clear h3
     gi_wp2_with (refine ⟨trivial,?_⟩;gi_at_call 41;refine (callsIn_wide.2 (hwr.out ((⟨#[32]⟩ : ByteArray) ++ c) hq.out)).mono ?_;rintro e W' ⟨rfl,v',hb',hw'⟩)
     exact hfin.out _ ((⟨#[32]⟩ : ByteArray) ++ c) v' W' hq.out hb' hw'
    ·have h3b : (x2 == 3) = false := by simpa using h3
     have hd3 := Lib.hid (hd2.out.trans (if_neg h3))
     clear h3
     by_cases h5 : x2 = 5
     ·have h5b : (x2 == 5) = true := by simpa using h5
      have hq := Lib.hid (hd3.out.trans (if_pos h5))
      clear h5
      gi_wp2_with (refine ⟨trivial,?_⟩;gi_at_call 41;refine (callsIn_wide.2 (hwr.out ((⟨#[239,191,189]⟩ : ByteArray) ++ c1) hq.out)).mono ?_;rintro e W' ⟨rfl,v',hb',hw'⟩)
      exact hfin.out _ ((⟨#[239,191,189]⟩ : ByteArray) ++ c1) v' W' hq.out hb' hw'
     ·have h5b : (x2 == 5) = false := by simpa using h5
      have hq := Lib.hid (hd3.out.trans (if_neg h5))
      clear h5
      gi_wp2_with (refine ⟨trivial,?_⟩;gi_at_call 41;refine (callsIn_wide.2 (hwr.out (c) hq.out)).mono ?_;rintro e W' ⟨rfl,v',hb',hw'⟩)
      exact hfin.out _ (c) v' W' hq.out hb' hw'
 case done =>
  rintro D ys W hD hys ⟨⟨⟨⟨v,hv,_⟩,_⟩,_⟩,hB,_⟩ hK
  obtain rfl : ys = clusL s := hys
  have hsz1 := hB.size
  gi_wp2_with (refine ⟨trivial,?_⟩;gi_at_call 42;refine (callsIn_wide.2 (Tryd.Builder_String_any_k w.heap.size (w.heap.size + 1) (drawU s (clusL s)) W (hv.is (by omega)) hsz1)).mono ?_;rintro e W' ⟨rfl,_,hbw,hok⟩)
  have hK' : W'.heap[D]? = some (.deferred (some [])) := hok D _ hK (fun e => by injection e with e;omega) (fun c fz e => by cases e)
  refine ⟨by simp,.inl ⟨_,_,rfl,run_takeDeferred hK',?_⟩⟩
  exact ⟨_,results_tmp rfl _ _ _,rfl,(hB.trans hbw).trans (belowK_b (w := w) (Nat.le_refl _) W' D _ _ (by omega) hK' rfl rfl)⟩
 case stop =>
  rintro D c pre W _ _ h _
  exact h.elim
def cluster_Drawn.f (a0 : ByteArray) : Option ByteArray := if a0.size ≤ 1099511627776 then some (drawnS a0) else none
theorem cluster_Drawn.calls (a0 : ByteArray) (r : ByteArray) (w : World) (hT : Lib.Utf8Tabs 0 1 w) (h : cluster_Drawn.f a0 = some r) :
  Calls Tryd.prog 20 #[.string a0] w fun e w' => e = .returned (.string r) ∧ Below w.heap.size w w' := by
 unfold cluster_Drawn.f at h
 split at h
 ·obtain rfl := Option.some.inj h
  rename_i hs
  exact cdrawn_any a0 w hs hT
 ·cases h
end Go.Proofs.YtnpjaaldppemlaaDoor.U
end
section
namespace Go.Proofs.YtnpjaaldppemlaaDoor.U
open Go.RowKit Go.Proofs.YtnpjaaldppemlaaDoorW.PrintWords Go.Proofs.YtnpjaaldppemlaaDoorW.PrintLast Go.Proofs.YtnpjaaldppemlaaDoorW.PrintMore
set_option linter.unusedVariables false
set_option linter.unusedSimpArgs false
/-- The tables lie below base. -/
theorem tabs_base {base : Nat} {w0 w : World} (h : Lib.Utf8Tabs 0 1 w0) (hb : Below base w0 w) (h2 : 2 ≤ base) : Lib.Utf8Tabs 0 1 w :=
 ⟨fun c hc => (hb.cell (p := ⟨0,c,none⟩) (by show 0 < base;omega)).trans (h.1 c hc),fun i hi => ⟨(hb.cell (p := ⟨1,2 * i,none⟩) (by show 1 < base;omega)).trans (h.2 i hi).1,(hb.cell (p := ⟨1,2 * i + 1,none⟩) (by show 1 < base;omega)).trans (h.2 i hi).2⟩⟩
theorem kept_cell {w w1 : World} {S : Nat → Prop} (hk : Kept w w1 S) {a : Addr} {v : Value} (h : w.cell? a = some v) (hn : ¬ S a.block) : w1.cell? a = some v := by
 have := hk.2 a.block (World.block_lt_of_cell? w a h) hn
 simpa [World.cell?,this] using h
theorem LyAt.cellAt {T base p : Nat} {ok : Nat → Prop} {W : World} {wd : Int} {s : Ly} (h : LyAt T base p ok W wd s) : W.cell? ⟨p,0,none⟩ = some (.int .i64 wd) ∧ W.cell? ⟨p,2,none⟩ = some (.int .i64 s.1.length) ∧ W.cell? ⟨p,3,none⟩ = some (.int .i64 s.2.length) := by
 obtain ⟨⟨rv,h1,_⟩,_,_⟩ := h
 exact ⟨blk_cell h1 0,blk_cell h1 2,blk_cell h1 3⟩
theorem LyAt.wd {T base p : Nat} {ok : Nat → Prop} {W : World} {wd : Int} {s : Ly} (h : LyAt T base p ok W wd s) : W.cell? ⟨p,0,none⟩ = some (.int .i64 wd) := h.cellAt.1
theorem LyAt.row {T base p : Nat} {ok : Nat → Prop} {W : World} {wd : Int} {s : Ly} (h : LyAt T base p ok W wd s) : W.cell? ⟨p,2,none⟩ = some (.int .i64 s.1.length) := h.cellAt.2.1
theorem LyAt.col {T base p : Nat} {ok : Nat → Prop} {W : World} {wd : Int} {s : Ly} (h : LyAt T base p ok W wd s) : W.cell? ⟨p,3,none⟩ = some (.int .i64 s.2.length) := h.cellAt.2.2
theorem lay_fin {T base p bx : Nat} {ok : Nat → Prop} {W w2 : World} {wd : Int} {s2 s' : Ly} (hG : LyAt T base p (fun k => ok k ∧ k ≠ bx) w2 wd s2) (hB : Below base W w2) (hK : Kept W w2 (fun k => ok k ∨ k = p)) (he : s' = s2) (hne : ¬ ok p) : Ending.returned (.tuple #[]) = Ending.returned (.tuple #[]) ∧ LyAt T base p ok w2 wd s' ∧ Below base W w2 ∧ Kept W w2 (fun k => ok k ∨ k = p) := by
 subst he
 exact ⟨rfl,hG.mono (fun k hk => hk.1) hne,hB,hK⟩
set_option maxRecDepth 100000 in
set_option maxHeartbeats 8000000 in
theorem gr_lay {base p : Nat} {ok : Nat → Prop} {W : World} {wd : Int} {s : Ly} (h : LyAt 65 base p ok W wd s) (hf : ∀ k,W.heap.size ≤ k → ok k) (hb : base ≤ W.heap.size) (h2 : 2 ≤ base) (hT : Lib.Utf8Tabs 0 1 W) (hF : s.Fit wd) (hl : s.1.length ≤ 549755813888)
  (text : ByteArray) (c : S60) (h0 : 0 ≤ c.f0) (h01 : c.f0 ≤ c.f1) (h1 : c.f1 ≤ text.size) (d : ByteArray) (hd : cluster_Drawn.f (text.extract c.f0.toNat c.f1.toNat) = some d) (n : Nat) (hn : (Lib.decodeGo d).2 = n) (hns : n ≤ d.size) :
  Calls Tryd.prog 36 #[.pointer (some ⟨p,0,none⟩),.string text,.agg #[.int .i64 c.f0,.int .i64 c.f1,.int .i64 c.f2,.int .i64 c.f3]] W fun e w' => e = .returned (.tuple #[]) ∧ LyAt 65 base p ok w' wd (s.lay wd c.f2 c.f3 d n) ∧ Below base W w' ∧ Kept W w' (fun k => ok k ∨ k = p) := by
 obtain ⟨f0,f1,f2,f3⟩ := c
 dsimp only at h0 h01 h1 hd ⊢
 have q0 := eq_true (show (0 : Int) ≤ (n : Int) by omega)
 have q1 := eq_true (show (n : Int) ≤ (d.size : Int) by omega)
 have q2 := eq_true h0
 have q3 := eq_true h01
 have q4 := eq_true h1
 go_enter Tryd.func36,Tryd.ntmps36
 have hbl : Below W.heap.size W (W.alloc (.cells #[.int .i64 f0,.int .i64 f1,.int .i64 f2,.int .i64 f3] 60 (0,0))) := below_alloc (Below.refl _ _) _
 have hx := World.alloc_heap_new W (.cells #[.int .i64 f0,.int .i64 f1,.int .i64 f2,.int .i64 f3] 60 (0,0))
 go_upto_region 10 with (go_at_call 20;refine (cluster_Drawn.calls _ d _ (tabs_below hT hbl) hd).mono ?_;rintro e w1 ⟨rfl,hb1⟩)
 have hb2 := hbl.trans (hb1.mono hbl.size)
 have hx1 := (hb1.block _ (blk_lt hx)).trans hx
 clear hb1 hx hbl
 have hB1 := hb2.mono hb
 have hK1 := Kept.of_below hb2 (fun k => ok k ∨ k = p)
 have hG1 : LyAt 65 base p (fun k => ok k ∧ k ≠ W.heap.size) w1 wd s := (h.bound.mono (ok' := fun k => ok k ∧ k ≠ W.heap.size) (fun k hk => ⟨hk.1,by have := hk.2;omega⟩) (fun hk => h.ne hk.1)).below hb2
 have hf1 : ∀ k,w1.heap.size ≤ k → ok k ∧ k ≠ W.heap.size := fun k hk => ⟨hf k (Nat.le_trans hb2.size hk),by have := blk_lt hx1;omega⟩
 have hb1 := Nat.le_trans hb hb2.size
 have hpb : p ≠ W.heap.size := by have := h.lt;omega
 have x1_2 := blk_cell hx1 2
 have x1_3 := blk_cell hx1 3
 have hxl1 := blk_lt hx1
 have e0 := hG1.wd
 have hpl1 := hG1.lt
 clear hb2
 by_cases z0 : f3 = 0
 ·have z0' := eq_true z0
  go_wp2_with (go_at_call 54;refine (gr_downL hG1 hf1 hb1 (by omega)).mono ?_;rintro e w2 ⟨rfl,hG2,hBa,hKa⟩;have hB2 := hB1.trans hBa;have hK2 := hK1.then_ hKa (fun k hk => .inl (hk.imp And.left id));have hx2 := (hKa.2 _ (blk_lt hx1) (fun h => h.elim (fun h => h.2 rfl) (fun h => hpb h.symm))).trans hx1;have hf2 := (fun k (hk : w2.heap.size ≤ k) => hf1 k (Nat.le_trans hKa.1 hk));have hb2 := Nat.le_trans hb1 hKa.1;have x2_2 := blk_cell hx2 2;have x2_3 := blk_cell hx2 3;have hxl2 := blk_lt hx2;clear hBa hKa)
  first | refine bodyPost_end (results_none rfl _ _ _) rfl ?_ | ((try simp only [Exit.inBlock,Exit.then]);refine bodyPost_ret (results_none rfl _ _ _) rfl ?_)
  exact lay_fin hG2 hB2 hK2 (by unfold Ly.lay;rw [if_pos z0]) h.ne
 have z0' := eq_false z0
 by_cases z1 : f3 = 1
 ·have z1' := eq_true z1
  go_wp2_with (go_at_call 55;refine (gr_putL hG1 hf1 hb1 hF (by omega) (⟨d,1⟩ : Cl)).mono ?_;rintro e w2 ⟨rfl,hG2,hBa,hKa⟩;have hB2 := hB1.trans hBa;have hK2 := hK1.then_ hKa (fun k hk => .inl (hk.imp And.left id));have hx2 := (hKa.2 _ (blk_lt hx1) (fun h => h.elim (fun h => h.2 rfl) (fun h => hpb h.symm))).trans hx1;have hf2 := (fun k (hk : w2.heap.size ≤ k) => hf1 k (Nat.le_trans hKa.1 hk));have hb2 := Nat.le_trans hb1 hKa.1;have x2_2 := blk_cell hx2 2;have x2_3 := blk_cell hx2 3;have hxl2 := blk_lt hx2;clear hBa hKa)
  first | refine bodyPost_end (results_none rfl _ _ _) rfl ?_ | ((try simp only [Exit.inBlock,Exit.then]);refine bodyPost_ret (results_none rfl _ _ _) rfl ?_)
  exact lay_fin hG2 hB2 hK2 (by unfold Ly.lay;rw [if_neg z0,if_pos z1]) h.ne
 have z1' := eq_false z1
 by_cases z2 : wd = 1
 ·have z2' := eq_true z2
  go_wp2_with (go_at_call 55;refine (gr_putL hG1 hf1 hb1 hF (by omega) (⟨badB,1⟩ : Cl)).mono ?_;rintro e w2 ⟨rfl,hG2,hBa,hKa⟩;have hB2 := hB1.trans hBa;have hK2 := hK1.then_ hKa (fun k hk => .inl (hk.imp And.left id));have hx2 := (hKa.2 _ (blk_lt hx1) (fun h => h.elim (fun h => h.2 rfl) (fun h => hpb h.symm))).trans hx1;have hf2 := (fun k (hk : w2.heap.size ≤ k) => hf1 k (Nat.le_trans hKa.1 hk));have hb2 := Nat.le_trans hb1 hKa.1;have x2_2 := blk_cell hx2 2;have x2_3 := blk_cell hx2 3;have hxl2 := blk_lt hx2;clear hBa hKa)
  first | refine bodyPost_end (results_none rfl _ _ _) rfl ?_ | ((try simp only [Exit.inBlock,Exit.then]);refine bodyPost_ret (results_none rfl _ _ _) rfl ?_)
  exact lay_fin hG2 hB2 hK2 (by unfold Ly.lay;rw [if_neg z0,if_neg z1,if_pos z2]) h.ne
 have z2' := eq_false z2
 have hwd := hF.1
 have hwd2 := hF.2.1
 have hwr : IntKind.i64.wrap (wd - 1) = wd - 1 := (i64_w _).trans (by unfold wrap64;omega)
 go_upto_region 2 with (fail)
 have e3 := hG1.col
 go_quiet (fail)
 have hG2 := hG1.below (pw_below_drewN (Below.refl _ _) nq)
 have hB2 := pw_below_drewN hB1 nq
 have hK2 := Kept.drewN hK1 nq
 have hx2 : (w1.drewN nq).heap[W.heap.size]? = _ := hx1
 have hf2 : ∀ k,(w1.drewN nq).heap.size ≤ k → ok k ∧ k ≠ W.heap.size := hf1
 have hb2 : base ≤ (w1.drewN nq).heap.size := hb1
 generalize w1.drewN nq = w2 at hG2 hB2 hK2 hx2 hf2 hb2 ⊢
 clear hG1 hB1 hK1 hx1 hf1 hb1 x1_2 x1_3 hxl1 e0 e3 hpl1
 have x2_2 := blk_cell hx2 2
 have x2_3 := blk_cell hx2 3
 have hxl2 := blk_lt hx2
 by_cases z3 : (s.2.length : Int) = wd - 1
 ·have z3' := eq_true z3
  go_upto_region 4 with (go_at_call 54;refine (gr_downL hG2 hf2 hb2 (by omega)).mono ?_;rintro e w3 ⟨rfl,hG3,hBa,hKa⟩;have hB3 := hB2.trans hBa;have hK3 := hK2.then_ hKa (fun k hk => .inl (hk.imp And.left id));have hx3 := (hKa.2 _ (blk_lt hx2) (fun h => h.elim (fun h => h.2 rfl) (fun h => hpb h.symm))).trans hx2;have hf3 := (fun k (hk : w3.heap.size ≤ k) => hf2 k (Nat.le_trans hKa.1 hk));have hb3 := Nat.le_trans hb2 hKa.1;have x3_2 := blk_cell hx3 2;have x3_3 := blk_cell hx3 3;have hxl3 := blk_lt hx3;clear hBa hKa)
  by_cases z4 : f2 = 4
  ·have z4' := eq_true z4
   go_wp2_with (first | (go_at_call 55;refine (gr_putL hG4 hf4 hb4 (hF.down.cell _) (by have h_ := Ly.len_cell wd ((s).down) (⟨d,2⟩ : Cl);have h_ := Ly.len_down (s);omega) (⟨⟨#[]⟩,0⟩ : Cl)).mono ?_;rintro e w5 ⟨rfl,hG5,hBa,hKa⟩;have hB5 := hB4.trans hBa;have hK5 := hK4.then_ hKa (fun k hk => .inl (hk.imp And.left id));have hx5 := (hKa.2 _ (blk_lt hx4) (fun h => h.elim (fun h => h.2 rfl) (fun h => hpb h.symm))).trans hx4;have hf5 := (fun k (hk : w5.heap.size ≤ k) => hf4 k (Nat.le_trans hKa.1 hk));have hb5 := Nat.le_trans hb4 hKa.1;have x5_2 := blk_cell hx5 2;have x5_3 := blk_cell hx5 3;have hxl5 := blk_lt hx5;clear hBa hKa) | (go_at_call 55;refine (gr_putL hG3 hf3 hb3 hF.down (by have h_ := Ly.len_down (s);omega) (⟨d,2⟩ : Cl)).mono ?_;rintro e w4 ⟨rfl,hG4,hBa,hKa⟩;have hB4 := hB3.trans hBa;have hK4 := hK3.then_ hKa (fun k hk => .inl (hk.imp And.left id));have hx4 := (hKa.2 _ (blk_lt hx3) (fun h => h.elim (fun h => h.2 rfl) (fun h => hpb h.symm))).trans hx3;have hf4 := (fun k (hk : w4.heap.size ≤ k) => hf3 k (Nat.le_trans hKa.1 hk));have hb4 := Nat.le_trans hb3 hKa.1;have x4_2 := blk_cell hx4 2;have x4_3 := blk_cell hx4 3;have hxl4 := blk_lt hx4;clear hBa hKa))
   first | refine bodyPost_end (results_none rfl _ _ _) rfl ?_ | ((try simp only [Exit.inBlock,Exit.then]);refine bodyPost_ret (results_none rfl _ _ _) rfl ?_)
   exact lay_fin hG5 hB5 hK5 (by unfold Ly.lay;rw [if_neg z0,if_neg z1,if_neg z2,if_pos z4,if_pos z3]) h.ne
  ·have z4' := eq_false z4
   go_upto_region 8 with (go_at_call 56;refine (utf8_DecodeRuneInString.calls d ((Lib.decodeGo d).1 : Int) (n : Int) _ (tabs_base hT hB3 h2) (by unfold utf8_DecodeRuneInString.f;rw [hn])).mono ?_;rintro e w8 ⟨rfl,hb8⟩)
   have hG8 := hG3.below hb8
   have hB8 := hB3.trans (hb8.mono (Nat.le_trans hb3 (Nat.le_refl _)))
   have hK8 := hK3.below hb8
   have hx8 := (hb8.block _ (blk_lt hx3)).trans hx3
   have hf8 := (fun k (hk : w8.heap.size ≤ k) => hf3 k (Nat.le_trans hb8.size hk))
   have hb9 := Nat.le_trans hb3 hb8.size
   have hb10 := hb8
   clear hb8
   have hb8 := hb9
   go_wp2_with (first | (go_at_call 55;refine (gr_putL hG9 hf9 hb9 (hF.down.cell _) (by have h_ := Ly.len_cell wd ((s).down) (⟨d.extract 0 n,1⟩ : Cl);have h_ := Ly.len_down (s);omega) (⟨d.extract n d.size,1⟩ : Cl)).mono ?_;rintro e w10 ⟨rfl,hG10,hBa,hKa⟩;have hB10 := hB9.trans hBa;have hK10 := hK9.then_ hKa (fun k hk => .inl (hk.imp And.left id));have hx10 := (hKa.2 _ (blk_lt hx9) (fun h => h.elim (fun h => h.2 rfl) (fun h => hpb h.symm))).trans hx9;have hf10 := (fun k (hk : w10.heap.size ≤ k) => hf9 k (Nat.le_trans hKa.1 hk));have hb10 := Nat.le_trans hb9 hKa.1;have x10_2 := blk_cell hx10 2;have x10_3 := blk_cell hx10 3;have hxl10 := blk_lt hx10;clear hBa hKa) | (go_at_call 55;refine (gr_putL hG8 hf8 hb8 hF.down (by have h_ := Ly.len_down (s);omega) (⟨d.extract 0 n,1⟩ : Cl)).mono ?_;rintro e w9 ⟨rfl,hG9,hBa,hKa⟩;have hB9 := hB8.trans hBa;have hK9 := hK8.then_ hKa (fun k hk => .inl (hk.imp And.left id));have hx9 := (hKa.2 _ (blk_lt hx8) (fun h => h.elim (fun h => h.2 rfl) (fun h => hpb h.symm))).trans hx8;have hf9 := (fun k (hk : w9.heap.size ≤ k) => hf8 k (Nat.le_trans hKa.1 hk));have hb9 := Nat.le_trans hb8 hKa.1;have x9_2 := blk_cell hx9 2;have x9_3 := blk_cell hx9 3;have hxl9 := blk_lt hx9;clear hBa hKa))
   first | refine bodyPost_end (results_none rfl _ _ _) rfl ?_ | ((try simp only [Exit.inBlock,Exit.then]);refine bodyPost_ret (results_none rfl _ _ _) rfl ?_)
   exact lay_fin hG10 hB10 hK10 (by unfold Ly.lay;rw [if_neg z0,if_neg z1,if_neg z2,if_neg z4,if_pos z3]) h.ne
 ·have z3' := eq_false z3
  go_upto_region 4 with (fail)
  by_cases z4 : f2 = 4
  ·have z4' := eq_true z4
   go_wp2_with (first | (go_at_call 55;refine (gr_putL hG3 hf3 hb3 (hF.cell _) (by have h_ := Ly.len_cell wd (s) (⟨d,2⟩ : Cl);omega) (⟨⟨#[]⟩,0⟩ : Cl)).mono ?_;rintro e w4 ⟨rfl,hG4,hBa,hKa⟩;have hB4 := hB3.trans hBa;have hK4 := hK3.then_ hKa (fun k hk => .inl (hk.imp And.left id));have hx4 := (hKa.2 _ (blk_lt hx3) (fun h => h.elim (fun h => h.2 rfl) (fun h => hpb h.symm))).trans hx3;have hf4 := (fun k (hk : w4.heap.size ≤ k) => hf3 k (Nat.le_trans hKa.1 hk));have hb4 := Nat.le_trans hb3 hKa.1;have x4_2 := blk_cell hx4 2;have x4_3 := blk_cell hx4 3;have hxl4 := blk_lt hx4;clear hBa hKa) | (go_at_call 55;refine (gr_putL hG2 hf2 hb2 hF (by omega) (⟨d,2⟩ : Cl)).mono ?_;rintro e w3 ⟨rfl,hG3,hBa,hKa⟩;have hB3 := hB2.trans hBa;have hK3 := hK2.then_ hKa (fun k hk => .inl (hk.imp And.left id));have hx3 := (hKa.2 _ (blk_lt hx2) (fun h => h.elim (fun h => h.2 rfl) (fun h => hpb h.symm))).trans hx2;have hf3 := (fun k (hk : w3.heap.size ≤ k) => hf2 k (Nat.le_trans hKa.1 hk));have hb3 := Nat.le_trans hb2 hKa.1;have x3_2 := blk_cell hx3 2;have x3_3 := blk_cell hx3 3;have hxl3 := blk_lt hx3;clear hBa hKa))
   first | refine bodyPost_end (results_none rfl _ _ _) rfl ?_ | ((try simp only [Exit.inBlock,Exit.then]);refine bodyPost_ret (results_none rfl _ _ _) rfl ?_)
   exact lay_fin hG4 hB4 hK4 (by unfold Ly.lay;rw [if_neg z0,if_neg z1,if_neg z2,if_pos z4,if_neg z3]) h.ne
  ·have z4' := eq_false z4
   go_upto_region 8 with (go_at_call 56;refine (utf8_DecodeRuneInString.calls d ((Lib.decodeGo d).1 : Int) (n : Int) _ (tabs_base hT hB2 h2) (by unfold utf8_DecodeRuneInString.f;rw [hn])).mono ?_;rintro e w8 ⟨rfl,hb8⟩)
   have hG8 := hG2.below hb8
   have hB8 := hB2.trans (hb8.mono (Nat.le_trans hb2 (Nat.le_refl _)))
   have hK8 := hK2.below hb8
   have hx8 := (hb8.block _ (blk_lt hx2)).trans hx2
   have hf8 := (fun k (hk : w8.heap.size ≤ k) => hf2 k (Nat.le_trans hb8.size hk))
   have hb9 := Nat.le_trans hb2 hb8.size
   have hb10 := hb8
   clear hb8
   have hb8 := hb9
   go_wp2_with (first | (go_at_call 55;refine (gr_putL hG9 hf9 hb9 (hF.cell _) (by have h_ := Ly.len_cell wd (s) (⟨d.extract 0 n,1⟩ : Cl);omega) (⟨d.extract n d.size,1⟩ : Cl)).mono ?_;rintro e w10 ⟨rfl,hG10,hBa,hKa⟩;have hB10 := hB9.trans hBa;have hK10 := hK9.then_ hKa (fun k hk => .inl (hk.imp And.left id));have hx10 := (hKa.2 _ (blk_lt hx9) (fun h => h.elim (fun h => h.2 rfl) (fun h => hpb h.symm))).trans hx9;have hf10 := (fun k (hk : w10.heap.size ≤ k) => hf9 k (Nat.le_trans hKa.1 hk));have hb10 := Nat.le_trans hb9 hKa.1;have x10_2 := blk_cell hx10 2;have x10_3 := blk_cell hx10 3;have hxl10 := blk_lt hx10;clear hBa hKa) | (go_at_call 55;refine (gr_putL hG8 hf8 hb8 hF (by omega) (⟨d.extract 0 n,1⟩ : Cl)).mono ?_;rintro e w9 ⟨rfl,hG9,hBa,hKa⟩;have hB9 := hB8.trans hBa;have hK9 := hK8.then_ hKa (fun k hk => .inl (hk.imp And.left id));have hx9 := (hKa.2 _ (blk_lt hx8) (fun h => h.elim (fun h => h.2 rfl) (fun h => hpb h.symm))).trans hx8;have hf9 := (fun k (hk : w9.heap.size ≤ k) => hf8 k (Nat.le_trans hKa.1 hk));have hb9 := Nat.le_trans hb8 hKa.1;have x9_2 := blk_cell hx9 2;have x9_3 := blk_cell hx9 3;have hxl9 := blk_lt hx9;clear hBa hKa))
   first | refine bodyPost_end (results_none rfl _ _ _) rfl ?_ | ((try simp only [Exit.inBlock,Exit.then]);refine bodyPost_ret (results_none rfl _ _ _) rfl ?_)
   exact lay_fin hG10 hB10 hK10 (by unfold Ly.lay;rw [if_neg z0,if_neg z1,if_neg z2,if_neg z4,if_neg z3]) h.ne
end Go.Proofs.YtnpjaaldppemlaaDoor.U
end
section
namespace Go.Proofs.YtnpjaaldppemlaaDoor.U
open Go.RowKit Go.Proofs.YtnpjaaldppemlaaDoorW.PrintWords Go.Proofs.YtnpjaaldppemlaaDoorW.PrintLast Go.Proofs.YtnpjaaldppemlaaDoorW.PrintMore
set_option linter.unusedVariables false
set_option linter.unusedSimpArgs false
set_option maxRecDepth 100000 in
set_option maxHeartbeats 8000000 in
theorem pn_lay {base p : Nat} {ok : Nat → Prop} {W : World} {wd : Int} {s : Ly} (h : LyAt 55 base p ok W wd s) (hf : ∀ k,W.heap.size ≤ k → ok k) (hb : base ≤ W.heap.size) (hF : s.Fit wd) (hl : s.1.length ≤ 549755813888)
  (c : S60) (d : ByteArray) (k : Nat) (us : List S87) (n : Nat) (hd : c.f3 = 0 ∨ (bodkinref01_Units.f k d = some us ∧ 0 < us.length ∧ (rd_T87 us 0).f1 = (n : Int))) (hns : n ≤ d.size) :
  Calls Tryd.prog 65 #[.pointer (some ⟨p,0,none⟩),.agg #[.int .i64 c.f0,.int .i64 c.f1,.int .i64 c.f2,.int .i64 c.f3],.string d] W fun e w' => e = .returned (.tuple #[]) ∧ LyAt 55 base p ok w' wd (s.lay wd c.f2 c.f3 d n) ∧ Below base W w' ∧ Kept W w' (fun k => ok k ∨ k = p) := by
 obtain ⟨f0,f1,f2,f3⟩ := c
 dsimp only at hd ⊢
 have q0 := eq_true (show (0 : Int) ≤ (n : Int) by omega)
 have q1 := eq_true (show (n : Int) ≤ (d.size : Int) by omega)
 go_enter Tryd.func65,Tryd.ntmps65
 have hbl : Below W.heap.size W (W.alloc (.cells #[.int .i64 f0,.int .i64 f1,.int .i64 f2,.int .i64 f3] 60 (0,0))) := below_alloc (Below.refl _ _) _
 have hx := World.alloc_heap_new W (.cells #[.int .i64 f0,.int .i64 f1,.int .i64 f2,.int .i64 f3] 60 (0,0))
 go_upto_region 1 with (fail)
 have hb2 := hbl
 have hx1 := hx
 generalize (W.alloc (.cells #[.int .i64 f0,.int .i64 f1,.int .i64 f2,.int .i64 f3] 60 (0,0))) = w1 at hb2 hx1 ⊢
 clear hx hbl
 have hB1 := hb2.mono hb
 have hK1 := Kept.of_below hb2 (fun k => ok k ∨ k = p)
 have hG1 : LyAt 55 base p (fun k => ok k ∧ k ≠ W.heap.size) w1 wd s := (h.bound.mono (ok' := fun k => ok k ∧ k ≠ W.heap.size) (fun k hk => ⟨hk.1,by have := hk.2;omega⟩) (fun hk => h.ne hk.1)).below hb2
 have hf1 : ∀ k,w1.heap.size ≤ k → ok k ∧ k ≠ W.heap.size := fun k hk => ⟨hf k (Nat.le_trans hb2.size hk),by have := blk_lt hx1;omega⟩
 have hb1 := Nat.le_trans hb hb2.size
 have hpb : p ≠ W.heap.size := by have := h.lt;omega
 have x1_2 := blk_cell hx1 2
 have x1_3 := blk_cell hx1 3
 have hxl1 := blk_lt hx1
 have e0 := hG1.wd
 have hpl1 := hG1.lt
 clear hb2
 by_cases z0 : f3 = 0
 ·have z0' := eq_true z0
  go_wp2_with (go_at_call 78;refine (pn_downL hG1 hf1 hb1 (by omega)).mono ?_;rintro e w2 ⟨rfl,hG2,hBa,hKa⟩;have hB2 := hB1.trans hBa;have hK2 := hK1.then_ hKa (fun k hk => .inl (hk.imp And.left id));have hx2 := (hKa.2 _ (blk_lt hx1) (fun h => h.elim (fun h => h.2 rfl) (fun h => hpb h.symm))).trans hx1;have hf2 := (fun k (hk : w2.heap.size ≤ k) => hf1 k (Nat.le_trans hKa.1 hk));have hb2 := Nat.le_trans hb1 hKa.1;have x2_2 := blk_cell hx2 2;have x2_3 := blk_cell hx2 3;have hxl2 := blk_lt hx2;clear hBa hKa)
  first | refine bodyPost_end (results_none rfl _ _ _) rfl ?_ | ((try simp only [Exit.inBlock,Exit.then]);refine bodyPost_ret (results_none rfl _ _ _) rfl ?_)
  exact lay_fin hG2 hB2 hK2 (by unfold Ly.lay;rw [if_pos z0]) h.ne
 have z0' := eq_false z0
 by_cases z1 : f3 = 1
 ·have z1' := eq_true z1
  go_wp2_with (go_at_call 79;refine (pn_putL hG1 hf1 hb1 hF (by omega) (⟨d,1⟩ : Cl)).mono ?_;rintro e w2 ⟨rfl,hG2,hBa,hKa⟩;have hB2 := hB1.trans hBa;have hK2 := hK1.then_ hKa (fun k hk => .inl (hk.imp And.left id));have hx2 := (hKa.2 _ (blk_lt hx1) (fun h => h.elim (fun h => h.2 rfl) (fun h => hpb h.symm))).trans hx1;have hf2 := (fun k (hk : w2.heap.size ≤ k) => hf1 k (Nat.le_trans hKa.1 hk));have hb2 := Nat.le_trans hb1 hKa.1;have x2_2 := blk_cell hx2 2;have x2_3 := blk_cell hx2 3;have hxl2 := blk_lt hx2;clear hBa hKa)
  first | refine bodyPost_end (results_none rfl _ _ _) rfl ?_ | ((try simp only [Exit.inBlock,Exit.then]);refine bodyPost_ret (results_none rfl _ _ _) rfl ?_)
  exact lay_fin hG2 hB2 hK2 (by unfold Ly.lay;rw [if_neg z0,if_pos z1]) h.ne
 have z1' := eq_false z1
 by_cases z2 : wd = 1
 ·have z2' := eq_true z2
  go_wp2_with (go_at_call 79;refine (pn_putL hG1 hf1 hb1 hF (by omega) (⟨badB,1⟩ : Cl)).mono ?_;rintro e w2 ⟨rfl,hG2,hBa,hKa⟩;have hB2 := hB1.trans hBa;have hK2 := hK1.then_ hKa (fun k hk => .inl (hk.imp And.left id));have hx2 := (hKa.2 _ (blk_lt hx1) (fun h => h.elim (fun h => h.2 rfl) (fun h => hpb h.symm))).trans hx1;have hf2 := (fun k (hk : w2.heap.size ≤ k) => hf1 k (Nat.le_trans hKa.1 hk));have hb2 := Nat.le_trans hb1 hKa.1;have x2_2 := blk_cell hx2 2;have x2_3 := blk_cell hx2 3;have hxl2 := blk_lt hx2;clear hBa hKa)
  first | refine bodyPost_end (results_none rfl _ _ _) rfl ?_ | ((try simp only [Exit.inBlock,Exit.then]);refine bodyPost_ret (results_none rfl _ _ _) rfl ?_)
  exact lay_fin hG2 hB2 hK2 (by unfold Ly.lay;rw [if_neg z0,if_neg z1,if_pos z2]) h.ne
 have z2' := eq_false z2
 have hwd := hF.1
 have hwd2 := hF.2.1
 have hwr : IntKind.i64.wrap (wd - 1) = wd - 1 := (i64_w _).trans (by unfold wrap64;omega)
 go_upto_region 7 with (fail)
 have e3 := hG1.col
 go_quiet (fail)
 have hG2 := hG1.below (pw_below_drewN (Below.refl _ _) nq)
 have hB2 := pw_below_drewN hB1 nq
 have hK2 := Kept.drewN hK1 nq
 have hx2 : (w1.drewN nq).heap[W.heap.size]? = _ := hx1
 have hf2 : ∀ k,(w1.drewN nq).heap.size ≤ k → ok k ∧ k ≠ W.heap.size := hf1
 have hb2 : base ≤ (w1.drewN nq).heap.size := hb1
 generalize w1.drewN nq = w2 at hG2 hB2 hK2 hx2 hf2 hb2 ⊢
 clear hG1 hB1 hK1 hx1 hf1 hb1 x1_2 x1_3 hxl1 e0 e3 hpl1
 have x2_2 := blk_cell hx2 2
 have x2_3 := blk_cell hx2 3
 have hxl2 := blk_lt hx2
 by_cases z3 : (s.2.length : Int) = wd - 1
 ·have z3' := eq_true z3
  go_upto_region 9 with (go_at_call 78;refine (pn_downL hG2 hf2 hb2 (by omega)).mono ?_;rintro e w3 ⟨rfl,hG3,hBa,hKa⟩;have hB3 := hB2.trans hBa;have hK3 := hK2.then_ hKa (fun k hk => .inl (hk.imp And.left id));have hx3 := (hKa.2 _ (blk_lt hx2) (fun h => h.elim (fun h => h.2 rfl) (fun h => hpb h.symm))).trans hx2;have hf3 := (fun k (hk : w3.heap.size ≤ k) => hf2 k (Nat.le_trans hKa.1 hk));have hb3 := Nat.le_trans hb2 hKa.1;have x3_2 := blk_cell hx3 2;have x3_3 := blk_cell hx3 3;have hxl3 := blk_lt hx3;clear hBa hKa)
  by_cases z4 : f2 = 4
  ·have z4' := eq_true z4
   go_wp2_with (first | (go_at_call 79;refine (pn_putL hG4 hf4 hb4 (hF.down.cell _) (by have h_ := Ly.len_cell wd ((s).down) (⟨d,2⟩ : Cl);have h_ := Ly.len_down (s);omega) (⟨⟨#[]⟩,0⟩ : Cl)).mono ?_;rintro e w5 ⟨rfl,hG5,hBa,hKa⟩;have hB5 := hB4.trans hBa;have hK5 := hK4.then_ hKa (fun k hk => .inl (hk.imp And.left id));have hx5 := (hKa.2 _ (blk_lt hx4) (fun h => h.elim (fun h => h.2 rfl) (fun h => hpb h.symm))).trans hx4;have hf5 := (fun k (hk : w5.heap.size ≤ k) => hf4 k (Nat.le_trans hKa.1 hk));have hb5 := Nat.le_trans hb4 hKa.1;have x5_2 := blk_cell hx5 2;have x5_3 := blk_cell hx5 3;have hxl5 := blk_lt hx5;clear hBa hKa) | (go_at_call 79;refine (pn_putL hG3 hf3 hb3 hF.down (by have h_ := Ly.len_down (s);omega) (⟨d,2⟩ : Cl)).mono ?_;rintro e w4 ⟨rfl,hG4,hBa,hKa⟩;have hB4 := hB3.trans hBa;have hK4 := hK3.then_ hKa (fun k hk => .inl (hk.imp And.left id));have hx4 := (hKa.2 _ (blk_lt hx3) (fun h => h.elim (fun h => h.2 rfl) (fun h => hpb h.symm))).trans hx3;have hf4 := (fun k (hk : w4.heap.size ≤ k) => hf3 k (Nat.le_trans hKa.1 hk));have hb4 := Nat.le_trans hb3 hKa.1;have x4_2 := blk_cell hx4 2;have x4_3 := blk_cell hx4 3;have hxl4 := blk_lt hx4;clear hBa hKa))
   first | refine bodyPost_end (results_none rfl _ _ _) rfl ?_ | ((try simp only [Exit.inBlock,Exit.then]);refine bodyPost_ret (results_none rfl _ _ _) rfl ?_)
   exact lay_fin hG5 hB5 hK5 (by unfold Ly.lay;rw [if_neg z0,if_neg z1,if_neg z2,if_pos z4,if_pos z3]) h.ne
  ·have z4' := eq_false z4
   obtain ⟨hu,hu0,hu1⟩ := hd.resolve_left z0
   go_upto_region 13 with (go_at_call 46;refine (bodkinref01_Units.calls k d us _ hu).mono ?_;rintro e w8 ⟨v8,rfl,hR8,hb8⟩)
   obtain ⟨g8,cap8,rfl,hg8,hg8l,cells8,hc8⟩ := Kd.R_form hR8 hu0
   have x8 : w8.cell? ⟨g8,1,none⟩ = some (.int .i64 (n : Int)) := by
    obtain ⟨ad8,e8,_,h8⟩ := at_T87 (Kd.R_reads' hR8).2.2 0 (by omega) (by omega)
    cases e8
    rw [hu1] at h8
    simpa [Addr.add] using h8
   have hu0' := eq_true (show (0 : Int) < (us.length : Int) by omega)
   have hps : p < w3.heap.size := hG3.lt
   have hG8 : LyAt 55 base p (fun k => (ok k ∧ k ≠ W.heap.size) ∧ k ≠ g8) w8 wd ((s).down) := (hG3.bound.mono (ok' := fun k => (ok k ∧ k ≠ W.heap.size) ∧ k ≠ g8) (fun k hk => ⟨hk.1,by have := hk.2;omega⟩) (fun hk => h.ne hk.1.1)).below hb8
   have hB8 := hB3.trans (hb8.mono hb3)
   have hK8 := hK3.below hb8
   have hf8 : ∀ k,w8.heap.size ≤ k → (ok k ∧ k ≠ W.heap.size) ∧ k ≠ g8 := fun k hk => ⟨hf3 k (Nat.le_trans hb8.size hk),by omega⟩
   have hb9 := Nat.le_trans hb3 hb8.size
   go_wp2_with (first | (go_at_call 79;refine (pn_putL hG9 hf9 hb9' (hF.down.cell _) (by have h_ := Ly.len_cell wd ((s).down) (⟨d.extract 0 n,1⟩ : Cl);have h_ := Ly.len_down (s);omega) (⟨d.extract n d.size,1⟩ : Cl)).mono ?_;rintro e w10 ⟨rfl,hG10,hBa,hKa⟩;have hB10 := hB9.trans hBa;have hK10 := hK9.then_ hKa (fun k hk => .inl (hk.imp (fun h => h.1.1) id));clear hBa hKa) | (go_at_call 79;refine (pn_putL hG8 hf8 hb9 hF.down (by have h_ := Ly.len_down (s);omega) (⟨d.extract 0 n,1⟩ : Cl)).mono ?_;rintro e w9 ⟨rfl,hG9,hBa,hKa⟩;have hB9 := hB8.trans hBa;have hK9 := hK8.then_ hKa (fun k hk => .inl (hk.imp (fun h => h.1.1) id));have x9 := kept_cell hKa x8 (fun h => h.elim (fun h => h.2 rfl) (fun (h : g8 = p) => by omega));have hf9 := (fun k (hk : w9.heap.size ≤ k) => hf8 k (Nat.le_trans hKa.1 hk));have hb9' := Nat.le_trans hb9 hKa.1;clear hBa hKa))
   have hG11 := hG10.mono (ok' := fun k => ok k ∧ k ≠ W.heap.size) (fun k hk => hk.1) (fun hk => h.ne hk.1)
   clear hG10
   have hG10 := hG11
   first | refine bodyPost_end (results_none rfl _ _ _) rfl ?_ | ((try simp only [Exit.inBlock,Exit.then]);refine bodyPost_ret (results_none rfl _ _ _) rfl ?_)
   exact lay_fin hG10 hB10 hK10 (by unfold Ly.lay;rw [if_neg z0,if_neg z1,if_neg z2,if_neg z4,if_pos z3]) h.ne
 ·have z3' := eq_false z3
  go_upto_region 9 with (fail)
  by_cases z4 : f2 = 4
  ·have z4' := eq_true z4
   go_wp2_with (first | (go_at_call 79;refine (pn_putL hG3 hf3 hb3 (hF.cell _) (by have h_ := Ly.len_cell wd (s) (⟨d,2⟩ : Cl);omega) (⟨⟨#[]⟩,0⟩ : Cl)).mono ?_;rintro e w4 ⟨rfl,hG4,hBa,hKa⟩;have hB4 := hB3.trans hBa;have hK4 := hK3.then_ hKa (fun k hk => .inl (hk.imp And.left id));have hx4 := (hKa.2 _ (blk_lt hx3) (fun h => h.elim (fun h => h.2 rfl) (fun h => hpb h.symm))).trans hx3;have hf4 := (fun k (hk : w4.heap.size ≤ k) => hf3 k (Nat.le_trans hKa.1 hk));have hb4 := Nat.le_trans hb3 hKa.1;have x4_2 := blk_cell hx4 2;have x4_3 := blk_cell hx4 3;have hxl4 := blk_lt hx4;clear hBa hKa) | (go_at_call 79;refine (pn_putL hG2 hf2 hb2 hF (by omega) (⟨d,2⟩ : Cl)).mono ?_;rintro e w3 ⟨rfl,hG3,hBa,hKa⟩;have hB3 := hB2.trans hBa;have hK3 := hK2.then_ hKa (fun k hk => .inl (hk.imp And.left id));have hx3 := (hKa.2 _ (blk_lt hx2) (fun h => h.elim (fun h => h.2 rfl) (fun h => hpb h.symm))).trans hx2;have hf3 := (fun k (hk : w3.heap.size ≤ k) => hf2 k (Nat.le_trans hKa.1 hk));have hb3 := Nat.le_trans hb2 hKa.1;have x3_2 := blk_cell hx3 2;have x3_3 := blk_cell hx3 3;have hxl3 := blk_lt hx3;clear hBa hKa))
   first | refine bodyPost_end (results_none rfl _ _ _) rfl ?_ | ((try simp only [Exit.inBlock,Exit.then]);refine bodyPost_ret (results_none rfl _ _ _) rfl ?_)
   exact lay_fin hG4 hB4 hK4 (by unfold Ly.lay;rw [if_neg z0,if_neg z1,if_neg z2,if_pos z4,if_neg z3]) h.ne
  ·have z4' := eq_false z4
   obtain ⟨hu,hu0,hu1⟩ := hd.resolve_left z0
   go_upto_region 13 with (go_at_call 46;refine (bodkinref01_Units.calls k d us _ hu).mono ?_;rintro e w8 ⟨v8,rfl,hR8,hb8⟩)
   obtain ⟨g8,cap8,rfl,hg8,hg8l,cells8,hc8⟩ := Kd.R_form hR8 hu0
   have x8 : w8.cell? ⟨g8,1,none⟩ = some (.int .i64 (n : Int)) := by
    obtain ⟨ad8,e8,_,h8⟩ := at_T87 (Kd.R_reads' hR8).2.2 0 (by omega) (by omega)
    cases e8
    rw [hu1] at h8
    simpa [Addr.add] using h8
   have hu0' := eq_true (show (0 : Int) < (us.length : Int) by omega)
   have hps : p < w2.heap.size := hG2.lt
   have hG8 : LyAt 55 base p (fun k => (ok k ∧ k ≠ W.heap.size) ∧ k ≠ g8) w8 wd (s) := (hG2.bound.mono (ok' := fun k => (ok k ∧ k ≠ W.heap.size) ∧ k ≠ g8) (fun k hk => ⟨hk.1,by have := hk.2;omega⟩) (fun hk => h.ne hk.1.1)).below hb8
   have hB8 := hB2.trans (hb8.mono hb2)
   have hK8 := hK2.below hb8
   have hf8 : ∀ k,w8.heap.size ≤ k → (ok k ∧ k ≠ W.heap.size) ∧ k ≠ g8 := fun k hk => ⟨hf2 k (Nat.le_trans hb8.size hk),by omega⟩
   have hb9 := Nat.le_trans hb2 hb8.size
   go_wp2_with (first | (go_at_call 79;refine (pn_putL hG9 hf9 hb9' (hF.cell _) (by have h_ := Ly.len_cell wd (s) (⟨d.extract 0 n,1⟩ : Cl);omega) (⟨d.extract n d.size,1⟩ : Cl)).mono ?_;rintro e w10 ⟨rfl,hG10,hBa,hKa⟩;have hB10 := hB9.trans hBa;have hK10 := hK9.then_ hKa (fun k hk => .inl (hk.imp (fun h => h.1.1) id));clear hBa hKa) | (go_at_call 79;refine (pn_putL hG8 hf8 hb9 hF (by omega) (⟨d.extract 0 n,1⟩ : Cl)).mono ?_;rintro e w9 ⟨rfl,hG9,hBa,hKa⟩;have hB9 := hB8.trans hBa;have hK9 := hK8.then_ hKa (fun k hk => .inl (hk.imp (fun h => h.1.1) id));have x9 := kept_cell hKa x8 (fun h => h.elim (fun h => h.2 rfl) (fun (h : g8 = p) => by omega));have hf9 := (fun k (hk : w9.heap.size ≤ k) => hf8 k (Nat.le_trans hKa.1 hk));have hb9' := Nat.le_trans hb9 hKa.1;clear hBa hKa))
   have hG11 := hG10.mono (ok' := fun k => ok k ∧ k ≠ W.heap.size) (fun k hk => hk.1) (fun hk => h.ne hk.1)
   clear hG10
   have hG10 := hG11
   first | refine bodyPost_end (results_none rfl _ _ _) rfl ?_ | ((try simp only [Exit.inBlock,Exit.then]);refine bodyPost_ret (results_none rfl _ _ _) rfl ?_)
   exact lay_fin hG10 hB10 hK10 (by unfold Ly.lay;rw [if_neg z0,if_neg z1,if_neg z2,if_neg z4,if_neg z3]) h.ne
end Go.Proofs.YtnpjaaldppemlaaDoor.U
end
section
namespace Go.Proofs.YtnpjaaldppemlaaDoor.U
open Go.RowKit Go.Proofs.YtnpjaaldppemlaaDoorW.PrintWords Go.Proofs.YtnpjaaldppemlaaDoorW.PrintLast Go.Proofs.YtnpjaaldppemlaaDoorW.PrintMore
attribute [local go_sem] max2_int min2_int max_two min_two max_three min_three max_four min_four   -- for this text's walks alone
set_option linter.unusedVariables false
set_option linter.unusedSimpArgs false
def layout_held.f (a0 : Int) : Option (Int) := some (mn (mx a0 1) 65535)
set_option maxHeartbeats 8000000 in
set_option maxRecDepth 100000 in
theorem layout_held.calls (a0 : Int) (r : Int) (w : World) (h : layout_held.f a0 = some r) :
  Calls Tryd.prog 43 #[.int .i64 a0] w fun e w' => e = .returned (.int .i64 r) ∧ Below w.heap.size w w' := by
 have HB := Aside0.mk (Below.refl w.heap.size w)
 have H : (some (mn (mx a0 1) 65535)) = some r := h
 clear h
 obtain ⟨ji2,hji2⟩ : ∃ j_ : Int,(mx a0 1) = j_ := ⟨_,rfl⟩
 replace H : (some (mn (ji2) 65535)) = some r := by first | (rw [hji2] at H;exact H) | (simp only [hji2] at H ⊢;exact H)
 (try (have hji2l : 1 ≤ ji2 := by (rw [← hji2];unfold mx;(repeat' split) <;> omega)))
 (try (have hji2m : 0 ≤ ji2 := by omega))
 have hji2_ : (if a0 < 1 then 1 else a0) = ji2 := hji2
 obtain ⟨ji3,hji3⟩ : ∃ j_ : Int,(mn (ji2) 65535) = j_ := ⟨_,rfl⟩
 replace H : (some ji3) = some r := by first | (rw [hji3] at H;exact H) | (simp only [hji3] at H ⊢;exact H)
 have hji3_ : (if 65535 < (ji2) then 65535 else (ji2)) = ji3 := hji3
 obtain rfl := Option.some.inj H
 go_enter Tryd.func43,Tryd.ntmps43
 go_wp2
 go_ret
 exact ⟨by first | rfl | (simp [errW_none,errW_some] <;> rfl) | (simp only [← hji2,← hji3];first | rfl | (simp [errW_none,errW_some] <;> rfl)) | (simp [*,errW_none,errW_some] <;> rfl),au0⟩
end Go.Proofs.YtnpjaaldppemlaaDoor.U
end
