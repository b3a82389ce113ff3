/- What the law ScreenTypes reaches of this seat's own texts, merged; what nothing uses is left out. -/
import Derived.Test.YtgdpnmikcopkmaaDoorZScreenTypes0
import Derived.Test.YtgdpnmikcopkmaaDoorZScreenTypes5
import Derived.Test.YtgdpnmikcopkmaaDoorZScreenTypes7
section
namespace Go.Proofs.YtgdpnmikcopkmaaDoor.U
open Go.RowKit Go.Proofs.YtgdpnmikcopkmaaDoor.Mu Go.Proofs.YtgdpnmikcopkmaaDoor.Pu Go.Proofs.YtgdpnmikcopkmaaDoor.Mk Go.Proofs.YtgdpnmikcopkmaaDoorW.PrintWords Go.Proofs.YtgdpnmikcopkmaaDoorW.PrintLast Go.Proofs.YtgdpnmikcopkmaaDoorW.PrintMore
set_option linter.unusedVariables false
set_option linter.unusedSimpArgs false
/-- An append of a cell to a row of one's own. -/
theorem row_ne {base : Nat} {ok : Nat → Prop} {w : World} {v : Value} {X : List Cl} (h : RowAt base ok w v X) : v.ownBlock ≠ some w.heap.size := fun he => by
 have := ((Kd.R_bound h).1 _ he).2.2
 omega
theorem row_append {ops : Array Oper} {rest : List Oper} {o : Oper} {a : Act} {Q : Exit → Act → World → Prop} {w0 W : World} (base : Nat) (hgd : o.guard = none) (s x : Operand)
  (ho : o.op = .call { callee := .builtin .append,args := #[s,x],argTypes := #[36,36] }) {v : Value} {X : List Cl} (p : Cl)
  (hs : a.eval s = v) (hx : a.eval x = .slice (some ⟨W.heap.size,0,none⟩) 1 1) (hR : RowAt base (fun _ => True) W v X) (HB : Below base w0 W) (hbase : base ≤ W.heap.size) (hl : X.length ≤ 1099511627776) {q : Nat} {b : Obj} (hq : W.heap[q]? = some b) (hne : v.ownBlock ≠ some q)
  (h : ∀ v1 w1,RowAt base (fun _ => True) w1 v1 (X ++ [p]) → Below base w0 w1 → w1.heap[q]? = some b → v1.ownBlock ≠ some q → wpList Tryd.prog ops Q rest (a.put o.dst v1) w1) :
  wpList Tryd.prog ops Q (o :: rest) a (W.alloc (.cells #[.string p.f0,.int .i64 p.f1] 38)) := by
 have hp : k38.M W base (fun _ => False) p [.string p.f0,.int .i64 p.f1] := k38_mkM _ _ _ _
 refine Kd.R_append k38 (w0 := w0) base hgd s x 36 38 (.agg #[.string ⟨#[]⟩,.int .i64 0]) 24 ho Tryd.underlying36 info38 rfl (by decide) (by decide) v X p [.string p.f0,.int .i64 p.f1] (fun _ => True) (fun _ => False) hs hx hp (fun _ hk => hk.elim) (fun _ _ => trivial) hR HB hbase (by omega) ?_
 intro v1 w1 h1 hB hg hat
 refine h v1 w1 h1 hB (blk_grown hq hg (fun he => hne he.symm)) (fun he => ?_)
 rcases hat with hat | ⟨b,hb,hle⟩
 ·exact hne (hat ▸ he)
 ·rw [he] at hb
  injection hb with hb
  have := blk_lt hq
  omega
attribute [local irreducible] uC uN cls
attribute [local go_sem high] cell_eq
set_option maxRecDepth 100000 in
set_option maxHeartbeats 8000000 in
theorem types_any (text : ByteArray) (a1 : Int) (h1 : 0 ≤ a1 ∧ a1 ≤ 255) (W : World) (hz : text.size ≤ 1048576) (hT : Lib.Utf8Tabs 0 1 W) :
  Calls Tryd.prog 10 #[.string text,.int .u8 a1] W fun e w' => e = .returned (.bool true) ∧ Below W.heap.size W w' := by
 have h2 := tabs_two hT
 go_enter Tryd.func10,Tryd.ntmps10
 go_upto_region 5 with (go_at_call 13;refine (law_shows _ hT h2).mono ?_;rintro e w1 ⟨rfl,hb1⟩)
 go_wp2_with (go_at_call 34;refine (clist_any text _ (by omega) (tabs_base hT hb1 h2)).mono ?_;rintro e w2 ⟨vL,rfl,hL,hb2⟩;obtain ⟨AL,cL,rfl⟩ := Kd.R_slice hL)
 have hN2 := hb1.trans (hb2.mono hb1.size)
 have hC := (Kd.R_reads' hL).2.2
 have hLc := (Kd.R_reads' hL).2.1
 have hll := clusL_length text
 generalize hLe : clusL text = LL at hC hLc hll ⊢
 have hLH := Lib.hid hLe
 clear hLe hL hb1 hb2
 have hbs2 := hN2.size
 generalize hws : w2 = ws at hC hN2 hbs2 ⊢
 go_loopw [5,6,7,24] (fun v5 v6 v7 v24 wr => ∃ (i x n : Nat) (Y : ByteArray) (X : List Cl),v24 = .int .i64 i ∧ v6 = .string Y ∧ v7 = .int .i64 n ∧ i ≤ LL.length ∧ Hid (ctl text x = LL.drop i) ∧ CB text x ∧ Y.size ≤ x ∧ x ≤ text.size ∧ Acc Y X n ∧ RowAt ws.heap.size (fun _ => True) wr v5 X ∧ Below ws.heap.size ws wr) (fun _ _ _ v _ => LL.length - (intOf v).toNat)
 case atStart => exact ⟨0,0,0,_,_,rfl,rfl,rfl,Nat.zero_le _,Lib.hid hLH.out,cb_zero text,Nat.le_refl _,Nat.zero_le _,Acc.nil,Kd.R_nil _ _ _ _ _,Below.refl _ _⟩
 case round =>
  obtain ⟨i,x,n,Y,X,rfl,rfl,rfl,hi,hD,hcb,hYx,hxs,hA,hR,hB⟩ := hrel
  by_cases hlt : i < LL.length
  ·have hlt' : (i : Int) < (LL.length : Int) := by omega
   have hx : x < text.size := by
    refine Nat.lt_of_not_le fun h => ?_
    have := ctl_end text x h
    rw [hD.out] at this
    have := congrArg List.length this
    rw [List.length_drop] at this
    simp at this
    omega
   have hgo := ctl_go text x hx
   rw [hD.out,List.drop_eq_getElem_cons hlt] at hgo
   injection hgo with hg1 hg2
   have hrd : rd_T62 LL (i : Int) = clAt text x := by
    unfold rd_T62
    rw [Int.toNat_natCast,List.getD_eq_getElem?_getD,List.getElem?_eq_getElem hlt]
    exact hg1
   obtain ⟨ad,rfl,l0,l1,l2,l3⟩ := at_T62 (Kd.C_below hC hB) (i : Int) (by omega) (by omega)
   rw [hrd,Int.toNat_natCast] at l0 l1 l2 l3
   have hnx := nxt_cb text x hcb.1 hx
   have hnl := nxt_le text x hcb.1 hx
   have hnp := nxt_pos text x hx
   have hp := size_extract text x (nxt text x) hnl
   dsimp only [clAt] at l0 l1 l2 l3
   have hgH := Lib.hid hg2
   have hkk := onek_mid text x hcb hx
   clear hrd hg1 hg2
   by_cases hcl : clsAt text x = 0 ∨ clsAt text x = 4
   ·have hq : ¬ crlf text x := fun h => by unfold clsAt at hcl;rw [if_pos h] at hcl;omega
    have hcu : clsAt text x = cls (uC text x) := by unfold clsAt;rw [if_neg hq]
    have hcc : celAt text x = celB (uC text x) := by unfold celAt;rw [if_neg hq]
    rw [← hcc,← hcu] at hkk
    have hkk := hkk hq hcl
    have hcy := cel_one (c := uC text x) (by omega)
    rw [← hcc,← hcu] at hcy
    have hn1 := hA.le
    have hn2 := hA.len
    have hclH := Lib.hid hcl
    have hcyH := Lib.hid hcy
    clear hq hcu hcc hcl hcy
    go_upto_region 9 with (fail)
    generalize text.extract x (nxt text x) = p at hkk hp ⊢
    have hal := below_alloc (Below.refl _ wr) (.cells #[.int .i64 (x : Int),.int .i64 (nxt text x : Nat),.int .i64 (clsAt text x),.int .i64 (celAt text x)] 62 (0,0))
    have hbx := World.alloc_heap_new wr (.cells #[.int .i64 (x : Int),.int .i64 (nxt text x : Nat),.int .i64 (clsAt text x),.int .i64 (celAt text x)] 62 (0,0))
    have hRb := Kd.R_below hR hal
    have hBb := hB.trans (hal.mono hB.size)
    have hne := row_ne hR
    generalize wr.alloc (.cells #[.int .i64 (x : Int),.int .i64 (nxt text x : Nat),.int .i64 (clsAt text x),.int .i64 (celAt text x)] 62 (0,0)) = wb at hal hbx hRb hBb ⊢
    generalize wr.heap.size = qb at hal hbx hne ⊢
    clear hal hR hB l0 l1 l2 l3
    rcases hclH.out with he | he
    ·have hce : celAt text x = 1 := by rw [hcyH.out,he];rfl
     rw [he] at hbx
     rw [hce] at hbx hkk
     have hkk : OneK p ((1 : Nat) : Int) := hkk
     have c0 := blk_cell hbx 0
     have c2 := blk_cell hbx 2
     have c3 := blk_cell hbx 3
     clear he hce hclH hcyH
     by_cases hx0 : x = 0
     ·have q5 := eq_false (show ¬ ((0 : Int) < (x : Int)) by omega)
      have q6 := eq_false (show ¬ (0 < x) by omega)
      clear hx0
      go_wp2_with (first | ((with_reducible refine gate_builtin (b := .append) (xs := #[.tmp 61,.tmp 66]) rfl ?_);at_builtin;(refine row_append (w0 := ws) ws.heap.size rfl (.tmp 61) (.tmp 66) rfl (⟨p,1⟩ : Cl) rfl rfl hRb hBb hBb.size (by omega) hbx hne ?_;intro v1 w1 hR1 hB1 hx1 hne1;have e3 := blk_cell hx1 3)))
      go_roundw
      case rel => exact ⟨i + 1,nxt text x,n + 1,Y ++ p,X ++ tlC p 1,by go_num,rfl,by go_num,hlt,Lib.hid hgH.out.symm,hnx,by rw [app_size];omega,hnl,hA.snoc hkk (by omega),hR1,hB1⟩
      case measure => simp [intOf];omega
     ·have q5 := eq_true (show (0 : Int) < (x : Int) by omega)
      have q6 := eq_true (show 0 < x by omega)
      clear hx0
      obtain ⟨kB,hBd'⟩ := cboundary_ans (Y ++ p) (by rw [app_size];omega) (Y.size : Int)
      have hBd := hBd' kB (Nat.le_refl _)
      clear hBd'
      cases hbv : cbB (Y ++ p) (Y.size : Int) with
      | false =>
       rw [hbv] at hBd
       clear hbv
       go_wp2_with (first | (go_at_call 35;refine (cluster_Boundary.calls kB (Y ++ p) Y.size _ _ (tabs_base hT (hN2.trans (hBb.mono hbs2)) h2) hBd).mono ?_;rintro e w5 ⟨rfl,hb5⟩;have hR5 := Kd.R_below hRb hb5;have hB5 := hBb.trans (hb5.mono hBb.size);have hx5 := blk_below hbx hb5;have d3 := blk_cell hx5 3))
       go_roundw
       case rel => exact ⟨i + 1,nxt text x,n,Y,X,by go_num,rfl,rfl,hlt,Lib.hid hgH.out.symm,hnx,by omega,hnl,hA,hR5,hB5⟩
       case measure => simp [intOf];omega
      | true =>
       rw [hbv] at hBd
       clear hbv
       go_wp2_with (first | ((with_reducible refine gate_builtin (b := .append) (xs := #[.tmp 61,.tmp 66]) rfl ?_);at_builtin;(refine row_append (w0 := ws) ws.heap.size rfl (.tmp 61) (.tmp 66) rfl (⟨p,1⟩ : Cl) rfl rfl hR5 hB5 hB5.size (by omega) hx5 hne ?_;intro v1 w1 hR1 hB1 hx1 hne1;have e3 := blk_cell hx1 3)) | (go_at_call 35;refine (cluster_Boundary.calls kB (Y ++ p) Y.size _ _ (tabs_base hT (hN2.trans (hBb.mono hbs2)) h2) hBd).mono ?_;rintro e w5 ⟨rfl,hb5⟩;have hR5 := Kd.R_below hRb hb5;have hB5 := hBb.trans (hb5.mono hBb.size);have hx5 := blk_below hbx hb5;have d3 := blk_cell hx5 3))
       go_roundw
       case rel => exact ⟨i + 1,nxt text x,n + 1,Y ++ p,X ++ tlC p 1,by go_num,rfl,by go_num,hlt,Lib.hid hgH.out.symm,hnx,by rw [app_size];omega,hnl,hA.snoc hkk (by omega),hR1,hB1⟩
       case measure => simp [intOf];omega
    ·have hce : celAt text x = 2 := by rw [hcyH.out,he];rfl
     rw [he] at hbx
     rw [hce] at hbx hkk
     have hkk : OneK p ((2 : Nat) : Int) := hkk
     have c0 := blk_cell hbx 0
     have c2 := blk_cell hbx 2
     have c3 := blk_cell hbx 3
     clear he hce hclH hcyH
     by_cases hx0 : x = 0
     ·have q5 := eq_false (show ¬ ((0 : Int) < (x : Int)) by omega)
      have q6 := eq_false (show ¬ (0 < x) by omega)
      clear hx0
      go_wp2_with (first | ((with_reducible refine gate_builtin (b := .append) (xs := #[.tmp 71,.tmp 73]) rfl ?_);at_builtin;(refine row_append (w0 := ws) ws.heap.size rfl (.tmp 71) (.tmp 73) rfl noC rfl rfl hR1 hB1 hB1.size (by rw [List.length_append,List.length_singleton];omega) hx1 hne1 ?_;intro v2 w2 hR2 hB2 hx2 hne2)) | ((with_reducible refine gate_builtin (b := .append) (xs := #[.tmp 61,.tmp 66]) rfl ?_);at_builtin;(refine row_append (w0 := ws) ws.heap.size rfl (.tmp 61) (.tmp 66) rfl (⟨p,2⟩ : Cl) rfl rfl hRb hBb hBb.size (by omega) hbx hne ?_;intro v1 w1 hR1 hB1 hx1 hne1;have e3 := blk_cell hx1 3)))
      go_roundw
      case rel => exact ⟨i + 1,nxt text x,n + 1,Y ++ p,X ++ tlC p 2,by go_num,rfl,by go_num,hlt,Lib.hid hgH.out.symm,hnx,by rw [app_size];omega,hnl,hA.snoc hkk (by omega),(by rw [List.append_assoc] at hR2;exact hR2),hB2⟩
      case measure => simp [intOf];omega
     ·have q5 := eq_true (show (0 : Int) < (x : Int) by omega)
      have q6 := eq_true (show 0 < x by omega)
      clear hx0
      obtain ⟨kB,hBd'⟩ := cboundary_ans (Y ++ p) (by rw [app_size];omega) (Y.size : Int)
      have hBd := hBd' kB (Nat.le_refl _)
      clear hBd'
      cases hbv : cbB (Y ++ p) (Y.size : Int) with
      | false =>
       rw [hbv] at hBd
       clear hbv
       go_wp2_with (first | (go_at_call 35;refine (cluster_Boundary.calls kB (Y ++ p) Y.size _ _ (tabs_base hT (hN2.trans (hBb.mono hbs2)) h2) hBd).mono ?_;rintro e w5 ⟨rfl,hb5⟩;have hR5 := Kd.R_below hRb hb5;have hB5 := hBb.trans (hb5.mono hBb.size);have hx5 := blk_below hbx hb5;have d3 := blk_cell hx5 3))
       go_roundw
       case rel => exact ⟨i + 1,nxt text x,n,Y,X,by go_num,rfl,rfl,hlt,Lib.hid hgH.out.symm,hnx,by omega,hnl,hA,hR5,hB5⟩
       case measure => simp [intOf];omega
      | true =>
       rw [hbv] at hBd
       clear hbv
       go_wp2_with (first | ((with_reducible refine gate_builtin (b := .append) (xs := #[.tmp 71,.tmp 73]) rfl ?_);at_builtin;(refine row_append (w0 := ws) ws.heap.size rfl (.tmp 71) (.tmp 73) rfl noC rfl rfl hR1 hB1 hB1.size (by rw [List.length_append,List.length_singleton];omega) hx1 hne1 ?_;intro v2 w2 hR2 hB2 hx2 hne2)) | ((with_reducible refine gate_builtin (b := .append) (xs := #[.tmp 61,.tmp 66]) rfl ?_);at_builtin;(refine row_append (w0 := ws) ws.heap.size rfl (.tmp 61) (.tmp 66) rfl (⟨p,2⟩ : Cl) rfl rfl hR5 hB5 hB5.size (by omega) hx5 hne ?_;intro v1 w1 hR1 hB1 hx1 hne1;have e3 := blk_cell hx1 3)) | (go_at_call 35;refine (cluster_Boundary.calls kB (Y ++ p) Y.size _ _ (tabs_base hT (hN2.trans (hBb.mono hbs2)) h2) hBd).mono ?_;rintro e w5 ⟨rfl,hb5⟩;have hR5 := Kd.R_below hRb hb5;have hB5 := hBb.trans (hb5.mono hBb.size);have hx5 := blk_below hbx hb5;have d3 := blk_cell hx5 3))
       go_roundw
       case rel => exact ⟨i + 1,nxt text x,n + 1,Y ++ p,X ++ tlC p 2,by go_num,rfl,by go_num,hlt,Lib.hid hgH.out.symm,hnx,by rw [app_size];omega,hnl,hA.snoc hkk (by omega),(by rw [List.append_assoc] at hR2;exact hR2),hB2⟩
       case measure => simp [intOf];omega
   ·have q0 : (clsAt text x != 0) = true := by simp;omega
    have q4 : (clsAt text x != 4) = true := by simp;omega
    generalize clsAt text x = cx at l2 q0 q4
    generalize celAt text x = cy at l3
    go_wp2_with (fail)
    go_roundw
    case rel => exact ⟨i + 1,nxt text x,n,Y,X,by go_num,rfl,rfl,hlt,Lib.hid hgH.out.symm,hnx,by omega,hnl,hA,Kd.R_below hR (below_alloc (Below.refl _ wr) _),hB.trans ((below_alloc (Below.refl _ wr) _).mono hB.size)⟩
    case measure => simp [intOf];omega
  ·have hie : i = LL.length := by omega
   have hlt' := eq_false (show ¬ (i : Int) < (LL.length : Int) by omega)
   have hn1 := hA.le
   have hn2 := hA.len
   obtain ⟨AX,cX,hvx⟩ := Kd.R_slice hR
   rw [hvx] at hR ⊢
   have hNr := hN2.trans (hB.mono hbs2)
   have hsl := hB.size
   by_cases hbig : 2000 < X.length
   ·have q1 := eq_true (show (2000 : Int) < (X.length : Int) by omega)
    go_wp2_with (fail)
    go_ret
    exact ⟨rfl,hNr⟩
   ·have q1 := eq_false (show ¬ (2000 : Int) < (X.length : Int) by omega)
    have hXl : X.length ≤ 2000 := by omega
    clear hie hbig
    have hbsr := hNr.size
    go_upto_region 19 with (go_at_call 14;refine (scr_new _ 1 _).mono ?_;rintro e w3 ⟨pa,rfl,hpa,hSa,hb3⟩;have hA3 := hSa W.heap.size hbsr;have hN3 := hNr.trans (hb3.mono hbsr))
    have hfit := fit_new ((X.length : Int) + 1) 1
    obtain ⟨s',e1,hok',hnr',hfr'⟩ := hA.new1 (by omega)
    have hf2 := hfit.feed Y
    rw [e1] at hf2
    obtain ⟨S4,hS4⟩ : ∃ S4,S4 = (s',(⟨#[]⟩ : ByteArray)) := ⟨_,rfl⟩
    have hok : S4.1.Ok := by rw [hS4];exact hok'
    have hnr : S4.1.nrows = 1 := by rw [hS4];exact hnr'
    have hfr : frameL S4.1.rows (S4.1.frameN 1) = [trimR X] := by rw [hS4];exact hfr'
    rw [← hS4] at e1 hf2
    have hF1 := Lib.hid e1
    clear e1 hS4 hok' hnr' hfr'
    have hbs3 := hN3.size
    go_wp2_with (go_at_call 16;refine (scr_feed hA3 hbs3 h2 (tabs_base hT hN3 h2) hfit Y (by omega)).mono ?_;rintro e w4 ⟨rfl,O4,hM⟩;rw [hF1.out] at hM;have hA4 := hM.scr;have hN4 := hN3.trans hM.below)
    have hR4 := Kd.R_kept (Kd.R_below (Kd.R_mono (Kd.R_bound hR) (fun k hk => hk.2.2.1)) hb3) hM.kept (fun k hk he => he.elim (fun h => h) (fun h => by have hk : k < wr.heap.size := hk;omega))
    have hO4 : ∀ k,O4 k → wr.heap.size ≤ k := fun k hk => (hM.sub k hk).elim (fun h => h.elim) (fun h => Nat.le_trans hb3.size h)
    have hpa : wr.heap.size ≤ pa := hpa
    generalize wr.heap.size = nR at hR4 hO4 hpa
    clear hM hA3 hN3 hSa hb3 hR hB hF1 hfit
    have hC4 := (Kd.R_reads' hR4).2.2
    have hcX := (Kd.R_reads' hR4).2.1
    go_loopw [5] (fun v wq => ∃ m : Nat,v = .slice AX m cX ∧ m ≤ X.length ∧ Hid (trimN X X.length = trimN X m) ∧ wq = w4) (fun v _ => match v with | .slice _ n _ => n | _ => 0)
    case atStart => exact ⟨X.length,rfl,Nat.le_refl _,Lib.hid rfl,rfl⟩
    case round =>
     obtain ⟨m,rfl,hm,hTr,rfl⟩ := hrel
     cases m with
     | zero =>
      have hTX : trimR X = X.take 0 := by unfold trimR;rw [hTr.out];rfl
      have hTl : (trimR X).length = 0 := by rw [hTX,List.length_take];omega
      have hRt := Kd.R_take hR4 (m := 0) (by omega)
      rw [← hTX] at hRt
      obtain ⟨kS,hSR'⟩ := srow_refl (trimR X) (by omega)
      have hSR := hSR' kS (Nat.le_refl _)
      clear hSR' hTX hR4 hC4 hcX
      generalize trimR X = TX at hRt hfr hTl hSR
      have hbs4 := hN4.size
      go_upto_region 23 with (go_at_call 20;refine (scr_frame hA4 hbs4 hok 1).mono ?_;rintro e w5 ⟨rf,rfl,hS5,hM5⟩;rw [hfr] at hS5;obtain ⟨gF,cF,rfl,hgF,hgF2,_,_⟩ := Kd.S_form hS5 (Nat.succ_pos _))
      have hN5 := hN4.trans hM5.below
      have hRt5 := Kd.R_kept hRt hM5.kept (fun k hk he => he.elim (fun h => by have := hO4 k h;have hk : k < nR := hk;omega) (fun h => by have hk : k < nR := hk;omega))
      have hal := below_alloc (Below.refl _ w5) (.cells #[.int .i64 S4.1.w,.slice (some ⟨gF,0,none⟩) 1 cF,.int .i64 S4.1.r,.int .i64 S4.1.c] 26 (0,0))
      have hx6 := World.alloc_heap_new w5 (.cells #[.int .i64 S4.1.w,.slice (some ⟨gF,0,none⟩) 1 cF,.int .i64 S4.1.r,.int .i64 S4.1.c] 26 (0,0))
      have hS6 := Kd.S_below hS5 hal
      have hA6 := hM5.scr.below hal
      have hN6 := hN5.trans (hal.mono hN5.size)
      have hCt := (Kd.R_reads' (Kd.R_below hRt5 hal)).2.2
      have hct := (Kd.R_reads' hRt5).2.1
      generalize w5.alloc (.cells #[.int .i64 S4.1.w,.slice (some ⟨gF,0,none⟩) 1 cF,.int .i64 S4.1.r,.int .i64 S4.1.c] 26 (0,0)) = w6 at hal hx6 hS6 hA6 hN6 hCt ⊢
      generalize w5.heap.size = qf at hx6 ⊢
      clear hRt hRt5 hM5 hS5 hA4 hN4 hal
      obtain ⟨oki,A0,k0,hR0,r0,_,_,_⟩ := row_of hS6 0 (Nat.succ_pos _)
      have hC0 : Kd.C k38 w6 A0 TX.length TX := (Kd.R_reads' hR0).2.2
      have hc0 : TX.length ≤ k0 := (Kd.R_reads' hR0).2.1
      have r0 : w6.cell? ⟨gF,0,none⟩ = some (.slice A0 TX.length k0) := r0
      have hSC := bodkinref22_SameRow.calls kS A0 k0 TX AX cX TX true _ hC0 hc0 hCt (by omega) hSR
      rw [hTl] at hSC r0
      have f1 := blk_cell hx6 1
      have q3 : ((S4.1.nrows : Int) != 1) = false := by rw [hnr];rfl
      have hbs6 := hN6.size
      go_upto_region 25 with (first | (go_at_call 21;refine (scr_rows hA7 hbs7 hok).mono ?_;rintro e w8 ⟨rfl,hM⟩;have hN8 := hN7.trans hM.below) | (go_at_call 36;refine hSC.mono ?_;rintro e w7 ⟨rfl,hdr⟩;have hA7 := hA6.below hdr.below;have hN7 := hN6.trans (hdr.below.mono hbs6);have hbs7 := hN7.size))
      clear hSC hC0 hc0 r0 f1 hR0 hS6 hA6 hN6 hCt hct hx6 hN7 q3 hSR hA7
      obtain ⟨mA,hmA⟩ : ∃ mA : Int,mA = if 2 > a1 then 2 else a1 := ⟨_,rfl⟩
      have hmx : ∀ (w : World),(Builtin.max_ #[3,3] 3 #[.int .i64 a1,.int .i64 2]).run Tryd.prog w = .ok (.int .i64 mA) w := fun w => by rw [run_max_int2,← hmA]
      have hm2 : 2 ≤ mA := by rw [hmA];split <;> omega
      clear hmA
      obtain ⟨s2,e2,hok2',hun',hul'⟩ := hA.newN (by omega) (by omega) mA hm2
      have hfit2 := fit_new mA ((Y.size : Int) + 1)
      obtain ⟨S5,hS5⟩ : ∃ S5,S5 = (s2,(⟨#[]⟩ : ByteArray)) := ⟨_,rfl⟩
      have hok2 : S5.1.Ok := by rw [hS5];exact hok2'
      have hun : unb (bytX (frameL S5.1.rows (S5.1.frameN S5.1.nrows)).flatten) = unb Y.data.toList := by rw [hS5];exact hun'
      have hul : (bytX (frameL S5.1.rows (S5.1.frameN S5.1.nrows)).flatten).length ≤ Y.size := by rw [hS5];exact hul'
      rw [← hS5] at e2
      have hF2 := Lib.hid e2
      have hunH := Lib.hid hun
      clear e2 hS5 hok2' hun' hul' hun
      have hbs8 := hN8.size
      go_upto_region 26 with (go_at_call 14;refine (scr_new mA ((Y.size : Int) + 1) _).mono ?_;rintro e w9 ⟨pb,rfl,hpb,hSb,hb9⟩;have hB9 := hSb W.heap.size hbs8;have hN9 := hN8.trans (hb9.mono hbs8))
      have hbs9 := hN9.size
      go_upto_region 27 with (go_at_call 16;refine (scr_feed hB9 hbs9 h2 (tabs_base hT hN9 h2) hfit2 Y (by omega)).mono ?_;rintro e w10 ⟨rfl,O10,hM⟩;rw [hF2.out] at hM;have hB10 := hM.scr;have hN10 := hN9.trans hM.below)
      have hbs10 := hN10.size
      clear hM hB9 hN9 hSb hb9 hmx
      have hfd : ∀ (x0 x1 x2 x3 : Value) (W : World),(Instr.field 26 (.agg #[x0,x1,x2,x3]) 1).run Tryd.prog W = .ok x1 W := fun _ _ _ _ _ => by kernel_rfl
      go_wp2_with (first | (go_at_call 20;refine (scr_frame hB11 hbs11 hok2 _).mono ?_;rintro e w12 ⟨rf,rfl,hS12,hM⟩;have hN12 := hN11.trans hM.below;obtain ⟨gF,cF,hrf⟩ := Kd.R_slice (Kd.S_R hS12);rw [hrf] at hS12 ⊢) | (go_at_call 21;refine (scr_rows hB10 hbs10 hok2).mono ?_;rintro e w11 ⟨rfl,hM⟩;have hB11 := hM.scr;have hN11 := hN10.trans hM.below;have hbs11 := hN11.size;clear hM))
      have hrl := frame_rows hok2 (S5.1.nrows : Int)
      have hFl0 : 0 < (frameL S5.1.rows (S5.1.frameN S5.1.nrows)).length := by
       rw [frameL_len,frameN_nrows hok2]
       unfold Sc.nrows
       omega
      clear hM hB10 hB11 hN10 hN11 hfd hbs11 hbs10
      generalize frameL S5.1.rows (S5.1.frameN S5.1.nrows) = FL at hS12 hunH hul hrl hFl0 ⊢
      obtain ⟨gG,cG,hv,_,_,_,_⟩ := Kd.S_form hS12 hFl0
      injection hv with hv1 _ hv3
      subst hv1;subst hv3
      have hbs12 := hN12.size
      generalize hws2 : w12 = wz at hS12 hN12 hbs12 ⊢
      go_loopw [14,140] (fun v14 v140 wq => ∃ (j : Nat) (C : ByteArray),v140 = .int .i64 j ∧ v14 = .string C ∧ j ≤ FL.length ∧ Hid (C.data.toList = bytX (FL.take j).flatten) ∧ Below wz.heap.size wz wq) (fun _ v _ => FL.length - (intOf v).toNat)
      case atStart => exact ⟨0,_,rfl,rfl,Nat.zero_le _,Lib.hid rfl,Below.refl _ _⟩
      case round =>
       obtain ⟨j,C,rfl,rfl,hj,hCj,hBj⟩ := hrel
       by_cases hjl : j < FL.length
       ·have hjl' : (j : Int) < (FL.length : Int) := by omega
        obtain ⟨okj,Aj,cj,hRj,rj,_,_,_⟩ := row_of hS12 j hjl
        have hrow := row_bd hrl.2 j
        have hnext := bytX_next FL j hjl
        have hC1 := (Kd.R_reads' hRj).2.2
        have hpre := bytX_pre FL j hjl
        have rj := cell_below rj hBj
        generalize FL.getD j [] = row at hRj rj hrow hC1 hnext hpre
        have hnH := Lib.hid hnext
        have hpH := Lib.hid hpre
        clear hRj hnext hpre
        go_wp2_with (fail)
        go_loopw [14,146] (fun v14 v146 wq => ∃ (k : Nat) (C : ByteArray),v146 = .int .i64 k ∧ v14 = .string C ∧ k ≤ row.length ∧ Hid (C.data.toList = bytX (FL.take j).flatten ++ bytX (row.take k)) ∧ Below wz.heap.size wz wq) (fun _ v _ => row.length - (intOf v).toNat)
        case atStart => exact ⟨0,C,rfl,rfl,Nat.zero_le _,Lib.hid (by rw [hCj.out];exact (List.append_nil _).symm),hBj⟩
        case round =>
         obtain ⟨k,C2,rfl,rfl,hk,hCk,hBk⟩ := hrel
         by_cases hkl : k < row.length
         ·have hkl' : (k : Int) < (row.length : Int) := by omega
          obtain ⟨ad2,rfl,d0,d1⟩ := cells_at (Kd.C_below hC1 hBk) k hkl
          have hst := Lib.hid (bytX_step row k hkl)
          have hsz : C2.size + (gC row k).f0.size ≤ 1048576 := by
           have z1 := hpH.out (k + 1)
           rw [hst.out,List.length_append] at z1
           have z2 := congrArg List.length hCk.out
           rw [List.length_append,Array.length_toList] at z2
           have z2 : C2.size = _ := z2
           have z3 : (gC row k).f0.data.toList.length = (gC row k).f0.size := Array.length_toList
           omega
          generalize gC row k = x2 at d0 d1 hst hsz
          go_wp2_with (fail)
          go_roundw
          case rel => exact ⟨k + 1,C2 ++ x2.f0,by go_num,rfl,hkl,Lib.hid (by rw [ByteArray.data_append,Array.toList_append,hCk.out,hst.out,List.append_assoc]),hBk.trans ((below_alloc (Below.refl _ _) _).mono hBk.size)⟩
          case measure => simp [intOf];omega
         ·have hkl' := eq_false (show ¬ (k : Int) < (row.length : Int) by omega)
          have hke := Lib.hid (show k = row.length by omega)
          go_wp2_with (fail)
          go_roundw
          case rel => exact ⟨j + 1,C2,by go_num,rfl,hjl,Lib.hid (by rw [hCk.out,hke.out,List.take_length,hnH.out]),hBk⟩
          case measure => simp [intOf];omega
       ·have hjl' := eq_false (show ¬ (j : Int) < (FL.length : Int) by omega)
        have hje : j = FL.length := by omega
        have hCe : C.data.toList = bytX FL.flatten := by rw [hCj.out,hje,List.take_length]
        have hCs : C.size ≤ Y.size := by
         have h9 := congrArg List.length hCe
         rw [Array.length_toList] at h9
         have h9 : C.size = _ := h9
         omega
        obtain ⟨k1,hk1'⟩ := unblank_ans C (by omega)
        obtain ⟨k2,hk2'⟩ := unblank_ans Y (by omega)
        have hk1 := hk1' k1 (Nat.le_refl _)
        have hk2 := hk2' k2 (Nat.le_refl _)
        rw [hCe,hunH.out] at hk1
        generalize strOfNums ((unb Y.data.toList).map (fun b => (b.toNat : Int))) = U at hk1 hk2
        have hNj := hN12.trans (hBj.mono hbs12)
        have hbj := hNj.size
        clear hje hCe hCs hk1' hk2' hS12 hrl hul
        go_wp2_with (first | (go_at_call 37;(with_reducible refine (bodkinlaw22_unblank.calls k2 Y U _ hk2).mono ?_);rintro e w14 ⟨rfl,hb⟩;have hNz := hN13.trans (hb.mono hN13.size)) | (go_at_call 37;(with_reducible refine (bodkinlaw22_unblank.calls k1 C U _ hk1).mono ?_);rintro e w13 ⟨rfl,hb⟩;have hN13 := hNj.trans (hb.mono hbj);clear hb))
        go_ret
        exact ⟨rfl,hNz⟩
     | succ m =>
      have hp := eq_true (show (0 : Int) < ((m + 1 : Nat) : Int) by omega)
      have hp2 := eq_true (show 0 < m + 1 by omega)
      have hml : (m : Int) < (X.length : Int) := by omega
      have hml2 : (m : Int) < ((m + 1 : Nat) : Int) := by omega
      have hm1 : ((m + 1 : Nat) : Int) - 1 = (m : Int) := by omega
      obtain ⟨ad,rfl,c0,c1⟩ := cells_at hC4 m (by omega)
      cases hbl : isBl (gC X m) with
      | true =>
       have hTr2 : trimN X X.length = trimN X m := hTr.out.trans (by rw [trimN,rd_gC,hbl];rfl)
       have hTr2 := Lib.hid hTr2
       unfold isBl at hbl
       go_wp2_with (fail)
       go_roundw
       case rel => exact ⟨m,rfl,by omega,hTr2,trivial⟩
       case measure => simp
      | false =>
       have hTX : trimR X = X.take (m + 1) := by
        unfold trimR
        rw [hTr.out,trimN,rd_gC,hbl]
        rfl
       unfold isBl at hbl
       have hTl : (trimR X).length = (m + 1) := by rw [hTX,List.length_take];omega
       have hRt := Kd.R_take hR4 (m := (m + 1)) (by omega)
       rw [← hTX] at hRt
       obtain ⟨kS,hSR'⟩ := srow_refl (trimR X) (by omega)
       have hSR := hSR' kS (Nat.le_refl _)
       clear hSR' hTX hR4 hC4 hcX
       generalize trimR X = TX at hRt hfr hTl hSR
       have hbs4 := hN4.size
       go_upto_region 23 with (go_at_call 20;refine (scr_frame hA4 hbs4 hok 1).mono ?_;rintro e w5 ⟨rf,rfl,hS5,hM5⟩;rw [hfr] at hS5;obtain ⟨gF,cF,rfl,hgF,hgF2,_,_⟩ := Kd.S_form hS5 (Nat.succ_pos _))
       have hN5 := hN4.trans hM5.below
       have hRt5 := Kd.R_kept hRt hM5.kept (fun k hk he => he.elim (fun h => by have := hO4 k h;have hk : k < nR := hk;omega) (fun h => by have hk : k < nR := hk;omega))
       have hal := below_alloc (Below.refl _ w5) (.cells #[.int .i64 S4.1.w,.slice (some ⟨gF,0,none⟩) 1 cF,.int .i64 S4.1.r,.int .i64 S4.1.c] 26 (0,0))
       have hx6 := World.alloc_heap_new w5 (.cells #[.int .i64 S4.1.w,.slice (some ⟨gF,0,none⟩) 1 cF,.int .i64 S4.1.r,.int .i64 S4.1.c] 26 (0,0))
       have hS6 := Kd.S_below hS5 hal
       have hA6 := hM5.scr.below hal
       have hN6 := hN5.trans (hal.mono hN5.size)
       have hCt := (Kd.R_reads' (Kd.R_below hRt5 hal)).2.2
       have hct := (Kd.R_reads' hRt5).2.1
       generalize w5.alloc (.cells #[.int .i64 S4.1.w,.slice (some ⟨gF,0,none⟩) 1 cF,.int .i64 S4.1.r,.int .i64 S4.1.c] 26 (0,0)) = w6 at hal hx6 hS6 hA6 hN6 hCt ⊢
       generalize w5.heap.size = qf at hx6 ⊢
       clear hRt hRt5 hM5 hS5 hA4 hN4 hal
       obtain ⟨oki,A0,k0,hR0,r0,_,_,_⟩ := row_of hS6 0 (Nat.succ_pos _)
       have hC0 : Kd.C k38 w6 A0 TX.length TX := (Kd.R_reads' hR0).2.2
       have hc0 : TX.length ≤ k0 := (Kd.R_reads' hR0).2.1
       have r0 : w6.cell? ⟨gF,0,none⟩ = some (.slice A0 TX.length k0) := r0
       have hSC := bodkinref22_SameRow.calls kS A0 k0 TX (some ad) cX TX true _ hC0 hc0 hCt (by omega) hSR
       rw [hTl] at hSC r0
       have f1 := blk_cell hx6 1
       have q3 : ((S4.1.nrows : Int) != 1) = false := by rw [hnr];rfl
       have hbs6 := hN6.size
       go_upto_region 25 with (first | (go_at_call 21;refine (scr_rows hA7 hbs7 hok).mono ?_;rintro e w8 ⟨rfl,hM⟩;have hN8 := hN7.trans hM.below) | (go_at_call 36;refine hSC.mono ?_;rintro e w7 ⟨rfl,hdr⟩;have hA7 := hA6.below hdr.below;have hN7 := hN6.trans (hdr.below.mono hbs6);have hbs7 := hN7.size))
       clear hSC hC0 hc0 r0 f1 hR0 hS6 hA6 hN6 hCt hct hx6 hN7 q3 hSR hA7
       obtain ⟨mA,hmA⟩ : ∃ mA : Int,mA = if 2 > a1 then 2 else a1 := ⟨_,rfl⟩
       have hmx : ∀ (w : World),(Builtin.max_ #[3,3] 3 #[.int .i64 a1,.int .i64 2]).run Tryd.prog w = .ok (.int .i64 mA) w := fun w => by rw [run_max_int2,← hmA]
       have hm2 : 2 ≤ mA := by rw [hmA];split <;> omega
       clear hmA
       obtain ⟨s2,e2,hok2',hun',hul'⟩ := hA.newN (by omega) (by omega) mA hm2
       have hfit2 := fit_new mA ((Y.size : Int) + 1)
       obtain ⟨S5,hS5⟩ : ∃ S5,S5 = (s2,(⟨#[]⟩ : ByteArray)) := ⟨_,rfl⟩
       have hok2 : S5.1.Ok := by rw [hS5];exact hok2'
       have hun : unb (bytX (frameL S5.1.rows (S5.1.frameN S5.1.nrows)).flatten) = unb Y.data.toList := by rw [hS5];exact hun'
       have hul : (bytX (frameL S5.1.rows (S5.1.frameN S5.1.nrows)).flatten).length ≤ Y.size := by rw [hS5];exact hul'
       rw [← hS5] at e2
       have hF2 := Lib.hid e2
       have hunH := Lib.hid hun
       clear e2 hS5 hok2' hun' hul' hun
       have hbs8 := hN8.size
       go_upto_region 26 with (go_at_call 14;refine (scr_new mA ((Y.size : Int) + 1) _).mono ?_;rintro e w9 ⟨pb,rfl,hpb,hSb,hb9⟩;have hB9 := hSb W.heap.size hbs8;have hN9 := hN8.trans (hb9.mono hbs8))
       have hbs9 := hN9.size
       go_upto_region 27 with (go_at_call 16;refine (scr_feed hB9 hbs9 h2 (tabs_base hT hN9 h2) hfit2 Y (by omega)).mono ?_;rintro e w10 ⟨rfl,O10,hM⟩;rw [hF2.out] at hM;have hB10 := hM.scr;have hN10 := hN9.trans hM.below)
       have hbs10 := hN10.size
       clear hM hB9 hN9 hSb hb9 hmx
       have hfd : ∀ (x0 x1 x2 x3 : Value) (W : World),(Instr.field 26 (.agg #[x0,x1,x2,x3]) 1).run Tryd.prog W = .ok x1 W := fun _ _ _ _ _ => by kernel_rfl
       go_wp2_with (first | (go_at_call 20;refine (scr_frame hB11 hbs11 hok2 _).mono ?_;rintro e w12 ⟨rf,rfl,hS12,hM⟩;have hN12 := hN11.trans hM.below;obtain ⟨gF,cF,hrf⟩ := Kd.R_slice (Kd.S_R hS12);rw [hrf] at hS12 ⊢) | (go_at_call 21;refine (scr_rows hB10 hbs10 hok2).mono ?_;rintro e w11 ⟨rfl,hM⟩;have hB11 := hM.scr;have hN11 := hN10.trans hM.below;have hbs11 := hN11.size;clear hM))
       have hrl := frame_rows hok2 (S5.1.nrows : Int)
       have hFl0 : 0 < (frameL S5.1.rows (S5.1.frameN S5.1.nrows)).length := by
        rw [frameL_len,frameN_nrows hok2]
        unfold Sc.nrows
        omega
       clear hM hB10 hB11 hN10 hN11 hfd hbs11 hbs10
       generalize frameL S5.1.rows (S5.1.frameN S5.1.nrows) = FL at hS12 hunH hul hrl hFl0 ⊢
       obtain ⟨gG,cG,hv,_,_,_,_⟩ := Kd.S_form hS12 hFl0
       injection hv with hv1 _ hv3
       subst hv1;subst hv3
       have hbs12 := hN12.size
       generalize hws2 : w12 = wz at hS12 hN12 hbs12 ⊢
       go_loopw [14,140] (fun v14 v140 wq => ∃ (j : Nat) (C : ByteArray),v140 = .int .i64 j ∧ v14 = .string C ∧ j ≤ FL.length ∧ Hid (C.data.toList = bytX (FL.take j).flatten) ∧ Below wz.heap.size wz wq) (fun _ v _ => FL.length - (intOf v).toNat)
       case atStart => exact ⟨0,_,rfl,rfl,Nat.zero_le _,Lib.hid rfl,Below.refl _ _⟩
       case round =>
        obtain ⟨j,C,rfl,rfl,hj,hCj,hBj⟩ := hrel
        by_cases hjl : j < FL.length
        ·have hjl' : (j : Int) < (FL.length : Int) := by omega
         obtain ⟨okj,Aj,cj,hRj,rj,_,_,_⟩ := row_of hS12 j hjl
         have hrow := row_bd hrl.2 j
         have hnext := bytX_next FL j hjl
         have hC1 := (Kd.R_reads' hRj).2.2
         have hpre := bytX_pre FL j hjl
         have rj := cell_below rj hBj
         generalize FL.getD j [] = row at hRj rj hrow hC1 hnext hpre
         have hnH := Lib.hid hnext
         have hpH := Lib.hid hpre
         clear hRj hnext hpre
         go_wp2_with (fail)
         go_loopw [14,146] (fun v14 v146 wq => ∃ (k : Nat) (C : ByteArray),v146 = .int .i64 k ∧ v14 = .string C ∧ k ≤ row.length ∧ Hid (C.data.toList = bytX (FL.take j).flatten ++ bytX (row.take k)) ∧ Below wz.heap.size wz wq) (fun _ v _ => row.length - (intOf v).toNat)
         case atStart => exact ⟨0,C,rfl,rfl,Nat.zero_le _,Lib.hid (by rw [hCj.out];exact (List.append_nil _).symm),hBj⟩
         case round =>
          obtain ⟨k,C2,rfl,rfl,hk,hCk,hBk⟩ := hrel
          by_cases hkl : k < row.length
          ·have hkl' : (k : Int) < (row.length : Int) := by omega
           obtain ⟨ad2,rfl,d0,d1⟩ := cells_at (Kd.C_below hC1 hBk) k hkl
           have hst := Lib.hid (bytX_step row k hkl)
           have hsz : C2.size + (gC row k).f0.size ≤ 1048576 := by
            have z1 := hpH.out (k + 1)
            rw [hst.out,List.length_append] at z1
            have z2 := congrArg List.length hCk.out
            rw [List.length_append,Array.length_toList] at z2
            have z2 : C2.size = _ := z2
            have z3 : (gC row k).f0.data.toList.length = (gC row k).f0.size := Array.length_toList
            omega
           generalize gC row k = x2 at d0 d1 hst hsz
           go_wp2_with (fail)
           go_roundw
           case rel => exact ⟨k + 1,C2 ++ x2.f0,by go_num,rfl,hkl,Lib.hid (by rw [ByteArray.data_append,Array.toList_append,hCk.out,hst.out,List.append_assoc]),hBk.trans ((below_alloc (Below.refl _ _) _).mono hBk.size)⟩
           case measure => simp [intOf];omega
          ·have hkl' := eq_false (show ¬ (k : Int) < (row.length : Int) by omega)
           have hke := Lib.hid (show k = row.length by omega)
           go_wp2_with (fail)
           go_roundw
           case rel => exact ⟨j + 1,C2,by go_num,rfl,hjl,Lib.hid (by rw [hCk.out,hke.out,List.take_length,hnH.out]),hBk⟩
           case measure => simp [intOf];omega
        ·have hjl' := eq_false (show ¬ (j : Int) < (FL.length : Int) by omega)
         have hje : j = FL.length := by omega
         have hCe : C.data.toList = bytX FL.flatten := by rw [hCj.out,hje,List.take_length]
         have hCs : C.size ≤ Y.size := by
          have h9 := congrArg List.length hCe
          rw [Array.length_toList] at h9
          have h9 : C.size = _ := h9
          omega
         obtain ⟨k1,hk1'⟩ := unblank_ans C (by omega)
         obtain ⟨k2,hk2'⟩ := unblank_ans Y (by omega)
         have hk1 := hk1' k1 (Nat.le_refl _)
         have hk2 := hk2' k2 (Nat.le_refl _)
         rw [hCe,hunH.out] at hk1
         generalize strOfNums ((unb Y.data.toList).map (fun b => (b.toNat : Int))) = U at hk1 hk2
         have hNj := hN12.trans (hBj.mono hbs12)
         have hbj := hNj.size
         clear hje hCe hCs hk1' hk2' hS12 hrl hul
         go_wp2_with (first | (go_at_call 37;(with_reducible refine (bodkinlaw22_unblank.calls k2 Y U _ hk2).mono ?_);rintro e w14 ⟨rfl,hb⟩;have hNz := hN13.trans (hb.mono hN13.size)) | (go_at_call 37;(with_reducible refine (bodkinlaw22_unblank.calls k1 C U _ hk1).mono ?_);rintro e w13 ⟨rfl,hb⟩;have hN13 := hNj.trans (hb.mono hbj);clear hb))
         go_ret
         exact ⟨rfl,hNz⟩
def bodkinlaw22_ScreenTypes.f (a0 : ByteArray) (a1 : Int) : Option Bool :=
 if (0 ≤ a1 ∧ a1 ≤ 255) ∧ a0.size ≤ 1048576 then some true else none
theorem bodkinlaw22_ScreenTypes.calls (a0 : ByteArray) (a1 : Int) (r : Bool) (w : World) (hT : Lib.Utf8Tabs 0 1 w) (h : bodkinlaw22_ScreenTypes.f a0 a1 = some r) :
  Calls Tryd.prog 10 #[.string a0,.int .u8 a1] w fun e w' => e = .returned (.bool r) ∧ Below w.heap.size w w' := by
 unfold bodkinlaw22_ScreenTypes.f at h
 split at h
 ·rename_i hs
  obtain ⟨h0,hz⟩ := hs
  obtain rfl := Option.some.inj h
  exact types_any a0 a1 h0 w hz hT
 ·cases h
end Go.Proofs.YtgdpnmikcopkmaaDoor.U
end
section
namespace Go.Proofs.YtgdpnmikcopkmaaDoor.Pure
open Go Go.RowKit Go.Proofs.YtgdpnmikcopkmaaDoor.U
theorem u8_wf {x : Int} (h : (Lit.int .u8 x).wf = true) : 0 ≤ x ∧ x ≤ 255 := by
 simp only [Lit.wf,Bool.and_eq_true] at h
 exact ⟨of_decide_eq_true h.1,of_decide_eq_true h.2⟩
theorem ScreenTypes (a0 : ByteArray) (a1 : Int) (u0 : a0.size ≤ 1048576) (w1 : (Lit.int .u8 a1).wf = true) : bodkinlaw22_ScreenTypes.f a0 a1 = some true := by
 unfold bodkinlaw22_ScreenTypes.f
 rw [if_pos ⟨u8_wf w1,u0⟩]
end Go.Proofs.YtgdpnmikcopkmaaDoor.Pure
end
section
namespace Go.Proofs.YtgdpnmikcopkmaaDoor.Lf
open Go.Lib Go.Proofs
theorem own : ownKnob Tryd.prog.godebug = none := by kernel_rfl
theorem extra : U8Extra Tryd.prog Tryd.lays260_ren := {
 n3 := by kernel_rfl
 n4 := by kernel_rfl
 y3 := by kernel_rfl
 y4 := by kernel_rfl
 c5 := by kernel_rfl
 c119 := by kernel_rfl
 c138 := by kernel_rfl }
theorem first_eq : Rows.laid_unicode_utf8_first = Lib.firstData := by kernel_rfl
theorem accept_eq : (Rows.laid_unicode_utf8_acceptRanges : DataW Unit) = Lib.acceptData := by kernel_rfl
abbrev laid : List (String × DataW Unit) := [("unicode/utf8.acceptRanges", Rows.laid_unicode_utf8_acceptRanges), ("unicode/utf8.first", Rows.laid_unicode_utf8_first)]
/-- The two tables lie as the contracts ask. -/
theorem tabs {W : World} (h : laidMetH Tryd.prog laid W) : Lib.Utf8Tabs 0 1 W := by
  rw [MakeChecks.laidMetH_plain _ _ _ (by kernel_rfl)] at h
  have h3 := laidMet.reads h (n := "unicode/utf8.first") (d := Rows.laid_unicode_utf8_first) (List.mem_cons_of_mem _ List.mem_cons_self)
  have h4 := laidMet.reads h (n := "unicode/utf8.acceptRanges") (d := Rows.laid_unicode_utf8_acceptRanges) List.mem_cons_self
  rw [first_eq] at h3
  rw [accept_eq] at h4
  exact utf8Tabs_of_reads Tryd.lays260 extra h3 h4
/-- The world of the witness: the settled one,the tables laid. -/
noncomputable abbrev wit (os : Os) : World := World.laidAll Tryd.prog os laid
theorem wit_laid (os : Os) (args : Array Value) : laidMetH Tryd.prog laid ((wit os).forCall (fun _ _ => 0) ⟨#[],args,[]⟩).memory := by
 rw [MakeChecks.laidMetH_plain _ _ _ (by kernel_rfl)]
 exact laidMet_laidAll _ (by kernel_rfl) (by kernel_rfl)
theorem wit_shaped (os : Os) (args : Array Value) : ((wit os).forCall (fun _ _ => 0) ⟨#[],args,[]⟩).Shaped Tryd.prog :=
 World.shaped_of_ZipB (by kernel_rfl) (by kernel_rfl)
end Go.Proofs.YtgdpnmikcopkmaaDoor.Lf
end
