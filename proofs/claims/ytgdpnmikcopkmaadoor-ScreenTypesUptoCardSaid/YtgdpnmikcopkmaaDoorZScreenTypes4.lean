/- What the law ScreenTypes reaches of this seat's own texts, merged; what nothing uses is left out. -/
import Derived.Test.YtgdpnmikcopkmaaDoorZScreenTypes0
import Derived.Test.YtgdpnmikcopkmaaDoorZScreenTypes1
import Derived.Test.YtgdpnmikcopkmaaDoorZScreenTypes2
import Derived.Test.YtgdpnmikcopkmaaDoorZScreenTypes3
section
namespace Go.Proofs.YtgdpnmikcopkmaaDoor.Pu
open Go Go.RowKit Go.Proofs.YtgdpnmikcopkmaaDoor.Mu Go.Proofs.YtgdpnmikcopkmaaDoor.U
set_option linter.unusedVariables false
def RB (row : List Cl) (n : Nat) : Prop := ∀ x ∈ row,x.f0.size ≤ n
/-- How long the cells' texts may be. -/
def Sc.TB (s : Sc) (n : Nat) : Prop := ∀ row ∈ s.rows,RB row n
theorem RB.mono {row : List Cl} {n m : Nat} (h : RB row n) (hm : n ≤ m) : RB row m := fun x hx => Nat.le_trans (h x hx) hm
theorem RB.set {row : List Cl} {n : Nat} (h : RB row n) (i : Nat) {x : Cl} (hx : x.f0.size ≤ n) : RB (row.set i x) n := fun y hy => by
 rcases List.mem_or_eq_of_mem_set hy with hy | rfl
 ·exact h y hy
 ·exact hx
theorem fffd_size : fffdS.size = 3 := rfl
theorem RB.clrH {row : List Cl} {n : Nat} (h : RB row n) (h1 : 1 ≤ n) (col : Nat) : RB (clrH row col) n := by
 have hb : blC.f0.size ≤ n := h1
 unfold Pu.clrH
 split
 ·exact h
 ·dsimp only
  split <;> split
  ·exact (h.set _ hb).set _ hb
  ·exact h.set _ hb
  ·exact h.set _ hb
  ·exact h
theorem RB.take {row : List Cl} {n : Nat} (h : RB row n) (k : Nat) : RB (row.take k) n := fun x hx => h x (List.mem_of_mem_take hx)
theorem RB.pad {row : List Cl} {n : Nat} (h : RB row n) (h1 : 1 ≤ n) (k : Nat) : RB (padC row k) n := fun x hx => by
 unfold padC at hx
 rcases List.mem_append.1 hx with hx | hx
 ·exact h x hx
 ·rw [(List.mem_replicate.1 hx).2];exact h1
theorem RB.nil (n : Nat) : RB [] n := fun x hx => absurd hx List.not_mem_nil
theorem RB.put {row : List Cl} {n : Nat} (h : RB row n) (h1 : 1 ≤ n) (col span : Nat) {t : ByteArray} (ht : t.size ≤ n) : RB (putC row col span t) n := by
 have hp := h.pad h1 (col + span)
 unfold putC
 dsimp only
 by_cases hs : span = 2
 ·rw [if_pos hs,if_pos hs]
  exact (((hp.clrH h1 _).clrH h1 _).set _ ht).set _ (Nat.zero_le _)
 ·rw [if_neg hs,if_neg hs]
  exact (hp.clrH h1 _).set _ ht
theorem RB.getD {rows : List (List Cl)} {n : Nat} (h : ∀ row ∈ rows,RB row n) (i : Nat) : RB (rows.getD i []) n := by
 rw [List.getD_eq_getElem?_getD]
 cases hq : rows[i]? with
 | none => exact RB.nil n
 | some r => exact h r (List.mem_of_getElem? hq)
theorem tb_set {rows : List (List Cl)} {n : Nat} (h : ∀ row ∈ rows,RB row n) (i : Nat) {r : List Cl} (hr : RB r n) : ∀ row ∈ rows.set i r,RB row n := fun row hq => by
 rcases List.mem_or_eq_of_mem_set hq with hq | rfl
 ·exact h row hq
 ·exact hr
theorem Sc.TB.mono {s : Sc} {n m : Nat} (h : s.TB n) (hm : n ≤ m) : s.TB m := fun row hr => (h row hr).mono hm
theorem Sc.TB.down {s : Sc} {n : Nat} (h : s.TB n) : s.down.TB n := by
 unfold Sc.down
 split
 ·exact h
 split
 ·intro row hr
  rcases List.mem_append.1 hr with hr | hr
  ·exact h row (List.mem_of_mem_drop hr)
  ·obtain rfl := List.mem_singleton.1 hr;exact RB.nil n
 ·exact fun row hr => h row (List.mem_of_mem_drop hr)
theorem Sc.TB.clrR {s : Sc} {n : Nat} (h : s.TB n) (h1 : 1 ≤ n) (i col : Nat) : (s.clrR i col).TB n := by
 unfold Sc.clrR
 split
 ·exact h
 ·exact tb_set h i (((RB.getD h i).clrH h1 col).take col)
theorem Sc.TB.write {s : Sc} {n : Nat} (h : s.TB n) (h1 : 1 ≤ n) {t : ByteArray} (ht : t.size ≤ n) (span : Nat) : (s.write t span).TB n := by
 have hp : ∀ (u : Sc),u.TB n → ∀ row ∈ padR u.rows (u.r + 1),RB row n := fun u hu row hq => by
  unfold padR at hq
  rcases List.mem_append.1 hq with hq | hq
  ·exact hu row hq
  ·rw [(List.mem_replicate.1 hq).2];exact RB.nil n
 unfold Sc.write
 dsimp only
 have hs1 : (if s.full = true ∨ (span = 2 ∧ s.c + 1 = s.w) then ({ s.down with c := 0,full := false } : Sc) else s).TB n := by
  split
  ·exact h.down
  ·exact h
 generalize (if s.full = true ∨ (span = 2 ∧ s.c + 1 = s.w) then ({ s.down with c := 0,full := false } : Sc) else s) = u at hs1
 split <;> exact tb_set (hp u hs1) _ ((RB.getD (hp u hs1) _).put h1 _ _ ht)
theorem Sc.TB.mark {s : Sc} {n : Nat} (h : s.TB n) (t : ByteArray) : (s.mark t).TB (n + t.size) := by
 unfold Sc.mark
 split
 ·have h' := h.mono (Nat.le_add_right n t.size)
  refine tb_set h' _ ((RB.getD h' _).set _ ?_)
  show ((gC (s.rows.getD s.lr []) s.lc).f0 ++ t).size ≤ n + t.size
  rw [ByteArray.size_append]
  have : (gC (s.rows.getD s.lr []) s.lc).f0.size ≤ n := by
   unfold gC
   rw [List.getD_eq_getElem?_getD]
   cases hq : (s.rows.getD s.lr [])[s.lc]? with
   | none => exact Nat.zero_le _
   | some x => exact RB.getD h _ x (List.mem_of_getElem? hq)
  omega
 ·exact h.mono (Nat.le_add_right _ _)
theorem Sc.TB.control {s : Sc} {n : Nat} (h : s.TB n) (b : Nat) : (s.control b).TB n := by
 have h1 : ({ s with full := false,marks := false } : Sc).TB n := h
 unfold Sc.control
 dsimp only
 split
 ·exact h1
 split
 ·exact h1.down
 split <;> exact h1
theorem Sc.TB.carry {s : Sc} {n : Nat} (h : s.TB n) (h1 : 1 ≤ n) (e : Nat) (l : List Int) (ok : Bool) : (s.carry e l ok).TB n := by
 unfold Sc.carry
 dsimp only
 split
 ·split
  ·exact fun row hr => (h.clrR h1 _ _) row (List.mem_of_mem_take hr)
  ·exact h
 split
 ·split
  ·exact h.clrR h1 _ _
  ·exact h
 split
 ·exact h
 split <;> exact h
theorem Sc.TB.step {s : Sc} {n : Nat} (h : s.TB n) (h4 : 4 ≤ n) (all : ByteArray) (h0 : 0 < all.size) : (s.step all).1.TB (n + (s.step all).2) := by
 have hn := uN_le4 all 0
 have hn2 := uN_le all 0 h0
 unfold Sc.step
 split
 ·refine Sc.TB.mono ?_ (Nat.le_add_right _ _)
  unfold Sc.escape
  split
  ·exact h
  split
  ·exact h
  split
  ·exact h
  split
  ·exact h
  split
  ·exact h
  ·exact Sc.TB.carry (s := { s with marks := false }) h (by omega) _ _ _
 split
 ·exact (h.control _).mono (Nat.le_add_right _ _)
 split
 ·exact h
 ·have ht : (all.extract 0 (uN all 0)).size = uN all 0 := by rw [size_extract _ _ _ (by omega)];omega
  unfold Sc.unit
  split
  ·have := h.mark (all.extract 0 (uN all 0))
   rwa [ht] at this
  split
  ·exact (h.write (by omega) (by omega) 1).mono (Nat.le_add_right _ _)
  split
  ·exact (h.write (by omega) (by rw [fffd_size];omega) 1).mono (Nat.le_add_right _ _)
  split
  ·split
   ·exact (h.write (by omega) (by rw [fffd_size];omega) 1).mono (Nat.le_add_right _ _)
   ·exact (h.write (by omega) (by omega) 2).mono (Nat.le_add_right _ _)
  ·exact Sc.TB.mono (s := { s with full := false,marks := false }) h (Nat.le_add_right _ _)
theorem Sc.TB.feedN : ∀ (k : Nat) {s : Sc} {n : Nat} (h : s.TB n) (h4 : 4 ≤ n) (all : ByteArray),(Sc.feedN k s all).1.TB (n + all.size)
 | 0,s,n,h,h4,all => h.mono (Nat.le_add_right _ _)
 | k + 1,s,n,h,h4,all => by
  unfold Sc.feedN
  split
  ·exact h.mono (Nat.le_add_right _ _)
  ·rename_i h0
   have hs := h.step h4 all (by omega)
   have hl := step_le s all (by omega)
   split
   ·rename_i h2
    rw [h2] at hs
    exact hs.mono (by omega)
   ·have := Sc.TB.feedN k hs (by omega) (all.extract (s.step all).2 all.size)
    rw [size_extract _ _ _ (Nat.le_refl _)] at this
    exact this.mono (by omega)
theorem feedS_tb {p : Sc × ByteArray} {n : Nat} (h : p.1.TB n) (h4 : 4 ≤ n) (b : ByteArray) : (feedS p b).1.TB (n + (p.2.size + b.size)) := by
 have := h.feedN (p.2 ++ b).size h4 (p.2 ++ b)
 rw [← ByteArray.size_append]
 exact this
end Go.Proofs.YtgdpnmikcopkmaaDoor.Pu
end
section
namespace Go.Proofs.YtgdpnmikcopkmaaDoor.U
open Go.RowKit Go.Proofs.YtgdpnmikcopkmaaDoorW.PrintWords Go.Proofs.YtgdpnmikcopkmaaDoorW.PrintLast Go.Proofs.YtgdpnmikcopkmaaDoorW.PrintMore
attribute [local go_sem] max2_int min2_int max_two min_two max_three min_three max_four min_four   -- for this text's walks alone
set_option linter.unusedVariables false
set_option linter.unusedSimpArgs false
def unit_Begun.f (a0 : ByteArray) : Option (Bool) := if a0.toList = ([] : List UInt8) then (some false) else ((utf8_FullRuneInString.f a0).bind fun t137 => (some (!t137)))
set_option maxHeartbeats 8000000 in
set_option maxRecDepth 100000 in
theorem unit_Begun.calls (a0 : ByteArray) (r : Bool) (w : World) (hT : Lib.Utf8Tabs 0 1 w) (h : unit_Begun.f a0 = some r) :
  Calls Tryd.prog 65 #[.string a0] w fun e w' => e = .returned (.bool r) ∧ Below w.heap.size w w' := by
 have HT := Aside0.mk hT
 clear hT
 have HB := Aside0.mk (Below.refl w.heap.size w)
 have H : (if a0.toList = ([] : List UInt8) then (some false) else ((utf8_FullRuneInString.f a0).bind fun t137 => (some (!t137)))) = some r := h
 clear h
 by_cases c2 : a0.toList = ([] : List UInt8)
 ·rw [if_pos c2] at H
  have c2b0 : (a0.toList == ([] : List UInt8)) = true := beq_iff_eq.mpr c2
  have c2b1 : (a0.toList != ([] : List UInt8)) = false := bne_eq_false_iff_eq.mpr c2
  clear c2
  obtain rfl := Option.some.inj H
  go_enter Tryd.func65,Tryd.ntmps65
  go_wp2
  go_ret
  exact ⟨au2,au0⟩
 ·rw [if_neg c2] at H
  have c2b0 : (a0.toList == ([] : List UInt8)) = false := beq_eq_false_iff_ne.mpr c2
  have c2b1 : (a0.toList != ([] : List UInt8)) = true := bne_iff_ne.mpr c2
  replace H := Option.bind_eq_some_iff.mp H
  obtain ⟨t137,A30,H⟩ := H
  replace H : (some (!t137)) = some r := H
  have A3 := Aside0.mk A30
  clear A30
  obtain rfl := Option.some.inj H
  go_enter Tryd.func65,Tryd.ntmps65
  go_wp2_with (first | (go_at_call 82;(with_reducible refine (utf8_FullRuneInString.calls a0 t137 _ ?side1 A3.out).mono ?_);(case side1 => exact tabs_below HT.out au0);rintro e w4 ⟨rfl,hb⟩;have n0_ := Aside0.mk (below_step au0 hb);clear HB;have HB := n0_;clear n0_;(try clear hb);(try clear hb2);(try clear hk);(try clear hi)))
  go_ret
  exact ⟨au2,au0⟩
end Go.Proofs.YtgdpnmikcopkmaaDoor.U
end
section
namespace Go.Proofs.YtgdpnmikcopkmaaDoor.U
open Go.RowKit Go.Proofs.YtgdpnmikcopkmaaDoor.Mu Go.Proofs.YtgdpnmikcopkmaaDoor.Pu Go.Proofs.YtgdpnmikcopkmaaDoorW.PrintWords Go.Proofs.YtgdpnmikcopkmaaDoorW.PrintLast Go.Proofs.YtgdpnmikcopkmaaDoorW.PrintMore
set_option linter.unusedVariables false
set_option linter.unusedSimpArgs false
theorem tabs_base {base : Nat} {w0 w : World} (h : Lib.Utf8Tabs 0 1 w0) (hb : Below base w0 w) (h2 : 2 ≤ base) : Lib.Utf8Tabs 0 1 w :=
 ⟨fun c hc => (hb.cell (p := ⟨0,c,none⟩) (by show 0 < base;omega)).trans (h.1 c hc),fun i hi => ⟨(hb.cell (p := ⟨1,2 * i,none⟩) (by show 1 < base;omega)).trans (h.2 i hi).1,(hb.cell (p := ⟨1,2 * i + 1,none⟩) (by show 1 < base;omega)).trans (h.2 i hi).2⟩⟩
theorem begun_f (s : ByteArray) (h : s.size ≠ 0) : unit_Begun.f s = some (!fullB s) := by
 unfold unit_Begun.f
 rw [if_neg]
 ·rfl
 ·intro h2
  rw [Lib.toList_data] at h2
  exact h (by rw [Lib.size_eq,h2];rfl)
theorem at_zero (s : ByteArray) (hs : s.size ≤ 1099511627776) (h : 0 < s.size) : ∃ k,unit_At.f k s 0 = some (uC s 0,(uN s 0 : Int),true) := by
 obtain ⟨k,hk⟩ := at_ans s hs 0
 refine ⟨k,(hk k (Nat.le_refl _)).trans ?_⟩
 unfold atA
 rw [if_pos ⟨(bdB_iff s 0).2 ((bdI_nat s 0).2 (bd_zero s)),by omega⟩]
 rfl
/-- A cell's text alone is written. -/
theorem row_put0 {base g n cap : Nat} {ok : Nat → Prop} {W : World} {row : List Cl} (h : RowAt base ok W (.slice (some ⟨g,0,none⟩) n cap) row) (i : Nat) (hi : i < row.length) (t : ByteArray) : RowAt base ok (W.setCell ⟨g,i * 2,none⟩ (.string t)) (.slice (some ⟨g,0,none⟩) n cap) (row.set i ⟨t,(gC row i).f1⟩) := by
 have hn := (Kd.R_reads' h).1
 obtain ⟨c,hcl,hM,hcc,hf⟩ := Kd.R_elem h noC (i : Int) (by omega) (by omega)
 rw [Int.toNat_natCast] at hM
 have hM' : k38.M W base (fun k => ok k ∧ k ≠ g) (gC row i) c := hM
 obtain rfl := k38_openM hM'
 have hh := (Kd.R_seg h (i : Int) (by omega) (by omega) (seg := [.string t]) (j := 0) (okp := fun _ => False) hcl hcc (Nat.le_succ 1) (x' := ⟨t,(gC row i).f1⟩) (by
  show k38.M W base (fun _ => False) ⟨t,(gC row i).f1⟩ [.string t,.int .i64 (gC row i).f1]
  exact k38_mkM _ _ _ (⟨t,(gC row i).f1⟩ : Cl)) (fun _ hk => hk.elim)).1
 rw [Int.toNat_natCast] at hh
 exact hh
/-- A row written where it lies: its slot still says it. -/
theorem RowIn.stay {base p g cap i : Nat} {ok okT : Nat → Prop} {W w : World} {s : Sc} {hd : ByteArray} {v : Value} {L : List Cl} (h : RowIn base p g cap i ok okT W w s hd v v L) : Stp base p ok W w { s with rows := s.rows.set i L } hd := by
 have hS := Kd.H_back h.hole (Kd.M_row h.row) (fun k hk => hk)
 rw [Int.toNat_natCast] at hS
 obtain ⟨⟨rv,h1⟩,h3,h4,h5,h6⟩ := h.hdr
 have h2 : w.cell? ⟨p,2,none⟩ = some rv := (sc_cells h1).2.2.1
 rw [h.c2] at h2
 injection h2 with h2
 subst h2
 exact ⟨⟨⟨_,h1,hS⟩,h3,h4⟩,h5,h6⟩
theorem below_alloc' {W w : World} (h : Below W.heap.size W w) (o : Obj) : Below W.heap.size W (w.alloc o) := h.trans ((below_alloc (Below.refl _ w) o).mono h.size)
theorem Room.more {base : Nat} {ok : Nat → Prop} {W w : World} (h : Room base ok W) (hb : Below W.heap.size W w) : Room base ok w := ⟨fun k hk => h.fr k (Nat.le_trans hb.size hk),Nat.le_trans h.bs hb.size⟩
theorem Stp.keeps {base p : Nat} {ok : Nat → Prop} {W w : World} {s : Sc} {hd : ByteArray} (h : Stp base p ok W w s hd) {b : Nat} {o : Obj} (hb : W.heap[b]? = some o) (hn : ¬ ok b) (hp : b ≠ p) : w.heap[b]? = some o := (h.kept.2 b (blk_lt hb) (fun hk => hk.elim hn hp)).trans hb
theorem stp_ok {base p : Nat} {ok : Nat → Prop} {W w : World} {s : Sc} {hd : ByteArray} {b : Nat} (h : ScrAt base p ok W s hd) (hb : W.heap.size ≤ b) (hB : Below W.heap.size W w) (hbs : base ≤ W.heap.size) : Stp base p (fun k => ok k ∧ k ≠ b) W w s hd :=
 ((Stp.start h.bound).more hB hbs).wide (fun k hk => ⟨hk.1,by have := hk.2;omega⟩) (fun hk => h.ne hk.1)
def st15.T : Bool × List (List Nat × List Nat) := (true,[([],[]),([0],[0]),([1],[1]),([2],[2]),([],[]),([4],[4]),([5],[5]),([6],[6]),([7],[7]),([3,8],[3,8]),([9],[9]),([],[]),([11],[11]),([12],[12]),([13],[13]),([14],[14]),([10,15],[10,15]),([16],[16]),([17],[17]),([],[]),([18,19],[18,19]),([10,15,0,1,2,3,4,5,6,7,8,9,10,11,12,13,14,15,16,17,18,19,20],[10,15]),([21,0,1,2,3,4,5,6,7,8,9,10,11,12,13,14,15,16,17,18,19,20],[21]),([22,20,0,1,2,3,4,5,6,7,8,9,10,11,12,13,14,15,16,17,18,19,20],[20,22])])
def st15.B : List Nat := [0,1,3,7,0,16,48,112,240,511,1023,0,2048,6144,14336,30720,65535,131071,262143,0,1048575,2097151,4194303,8388607]
theorem st15.tab : rtab .any (opsOf Tryd.f43 15) = st15.T := by kernel_rfl
theorem st15.bits : waitsOk st15.T.2 st15.B = true := by kernel_rfl
set_option maxRecDepth 100000 in
set_option maxHeartbeats 8000000 in
theorem sc_step {base p : Nat} {ok : Nat → Prop} {W : World} {s : Sc} {hd : ByteArray} (h : ScrAt base p ok W s hd) (hr : Room base ok W) (hO : s.Ok) (hT : Lib.Utf8Tabs 0 1 W) (h2 : 2 ≤ base) (all : ByteArray) (h0 : 0 < all.size) (hz : all.size ≤ 1099511627776) (N : Nat) (hTB : s.TB N) (hN : N ≤ 1099511627776) :
  Calls Tryd.prog 43 #[.pointer (some ⟨p,0,none⟩),.string all] W fun e w' => e = .returned (.int .i64 ((s.step all).2 : Nat)) ∧ Stp base p ok W w' (s.step all).1 hd := by
 have hs := Stp.start h
 have hlt0 : (0 : Int) < (all.size : Int) := by omega
 have hb0 := byt_get all 0 h0
 obtain ⟨x0,hx0⟩ : ∃ x,all[0]'h0 = x := ⟨_,rfl⟩
 rw [hx0] at hb0
 have hx0l := x0.toNat_lt
 by_cases h27 : byt all 0 = 27
 ·have hD : s.step all = s.escape all := by unfold Sc.step;rw [if_pos h27]
  have hDH := Lib.hid hD
  have q1 : ((x0.toNat : Int) == 27) = true := by simp;omega
  clear hD h27 hb0
  go_enter Tryd.func43,Tryd.ntmps43
  go_wp2_with (go_at_call 63;refine (sc_escape h hr hO all h0 hz).mono ?_;rintro e w1 ⟨rfl,hs1⟩)
  first | refine bodyPost_ret (results_tmp rfl _ _ _) rfl ?_ | ((try simp only [Exit.inBlock,Exit.then]);refine bodyPost_ret (results_tmp rfl _ _ _) rfl ?_) | (go_wp2;refine bodyPost_ret (results_tmp rfl _ _ _) rfl ?_)
  exact ⟨by rw [hDH.out];rfl,by rw [hDH.out];exact hs1⟩
 have q1 : ((x0.toNat : Int) == 27) = false := by simp;omega
 by_cases hct : byt all 0 < 32 ∨ byt all 0 = 127
 ·have hD : s.step all = (s.control (byt all 0),1) := by unfold Sc.step;rw [if_neg h27,if_pos hct]
  rw [hb0] at hD
  have hDH := Lib.hid hD
  by_cases h32 : byt all 0 < 32
  ·have q2 := eq_true (show (x0.toNat : Int) < 32 by omega)
   clear hD h27 hb0 hct h32
   go_enter Tryd.func43,Tryd.ntmps43
   go_wp2_with (go_at_call 64;refine (sc_control h hr hO x0.toNat hx0l).mono ?_;rintro e w1 ⟨rfl,hs1⟩)
   first | refine bodyPost_ret (results_tmp rfl _ _ _) rfl ?_ | ((try simp only [Exit.inBlock,Exit.then]);refine bodyPost_ret (results_tmp rfl _ _ _) rfl ?_) | (go_wp2;refine bodyPost_ret (results_tmp rfl _ _ _) rfl ?_)
   exact ⟨by rw [hDH.out];rfl,by rw [hDH.out];exact hs1⟩
  ·have q2 := eq_false (show ¬ (x0.toNat : Int) < 32 by omega)
   have q3 : ((x0.toNat : Int) == 127) = true := by simp;omega
   clear hD h27 hb0 hct h32
   go_enter Tryd.func43,Tryd.ntmps43
   go_wp2_with (go_at_call 64;refine (sc_control h hr hO x0.toNat hx0l).mono ?_;rintro e w1 ⟨rfl,hs1⟩)
   first | refine bodyPost_ret (results_tmp rfl _ _ _) rfl ?_ | ((try simp only [Exit.inBlock,Exit.then]);refine bodyPost_ret (results_tmp rfl _ _ _) rfl ?_) | (go_wp2;refine bodyPost_ret (results_tmp rfl _ _ _) rfl ?_)
   exact ⟨by rw [hDH.out];rfl,by rw [hDH.out];exact hs1⟩
 have q2 := eq_false (show ¬ (x0.toNat : Int) < 32 by omega)
 have q3 : ((x0.toNat : Int) == 127) = false := by simp;omega
 have hBf := begun_f all (by omega)
 by_cases hfu : fullB all = false
 ·have hD : s.step all = (s,0) := by unfold Sc.step;rw [if_neg h27,if_neg hct,if_pos hfu]
  have hDH := Lib.hid hD
  rw [hfu] at hBf
  clear hD h27 hb0 hct
  go_enter Tryd.func43,Tryd.ntmps43
  go_wp2_with (go_at_call 65;refine (unit_Begun.calls _ _ _ hT hBf).mono ?_;rintro e w1 ⟨rfl,hb1⟩;have hs1 := hs.more hb1 hr.bs)
  first | refine bodyPost_ret (results_tmp rfl _ _ _) rfl ?_ | ((try simp only [Exit.inBlock,Exit.then]);refine bodyPost_ret (results_tmp rfl _ _ _) rfl ?_) | (go_wp2;refine bodyPost_ret (results_tmp rfl _ _ _) rfl ?_)
  exact ⟨by rw [hDH.out];rfl,by rw [hDH.out];exact hs1⟩
 have hfu' : fullB all = true := by simpa using hfu
 rw [hfu'] at hBf
 have hD : s.step all = (s.unit (cls (uC all 0)) (all.extract 0 (uN all 0)),uN all 0) := by unfold Sc.step;rw [if_neg h27,if_neg hct,if_neg hfu]
 obtain ⟨ka,hAt⟩ := at_zero all hz h0
 obtain ⟨kc,hCl⟩ : ∃ k,width_Class.f k (uC all 0) = some (cls (uC all 0)) := by
  obtain ⟨k,hk⟩ := class_ans (uC all 0)
  exact ⟨k,hk k (Nat.le_refl _)⟩
 have hn1 := uN_pos all 0
 have hn2 := uN_le all 0 h0
 rw [Nat.zero_add] at hn2
 generalize uN all 0 = n at hAt hD hn1 hn2
 generalize uC all 0 = uc at hAt hCl hD
 generalize cls uc = K at hCl hD
 have hDH := Lib.hid hD
 have o1 := hO.w1
 have q4 := eq_true (show (0 : Int) ≤ (n : Int) by omega)
 have q5 := eq_true (show (n : Int) ≤ (all.size : Int) by omega)
 clear hD h27 hb0 hct hfu hfu'
 go_enter Tryd.func43,Tryd.ntmps43
 go_upto_region 10 with (first | (go_at_call 65;refine (unit_Begun.calls _ _ _ hT hBf).mono ?_;rintro e w1 ⟨rfl,hb1⟩;have hT1 := tabs_below hT hb1) | (go_at_call 58;refine (unit_At.calls ka _ _ _ _ _ _ hT1 hAt).mono ?_;rintro e w2 ⟨rfl,hb2⟩))
 have hbw : Below W.heap.size W w2 := hb1.trans (hb2.mono hb1.size)
 have hbn : W.heap.size ≤ w2.heap.size := hbw.size
 have hs3 := stp_ok (b := w2.heap.size) h hbn (below_alloc' hbw (.cells #[.int .i32 uc,.int .i64 n] 83 (0,0))) hr.bs
 have hu3 := World.alloc_heap_new w2 (.cells #[.int .i32 uc,.int .i64 n] 83 (0,0))
 have hr3 : Room base (fun k => ok k ∧ k ≠ w2.heap.size) (w2.alloc (.cells #[.int .i32 uc,.int .i64 n] 83 (0,0))) := ⟨fun k hk => by rw [World.size_alloc] at hk;exact ⟨hr.fr k (by omega),by omega⟩,by rw [World.size_alloc];have := hr.bs;omega⟩
 have hbp : w2.heap.size ≠ p := by have := h.lt;omega
 generalize hbe : w2.heap.size = b at hs3 hu3 hr3 hbp ⊢
 generalize w2.alloc (.cells #[.int .i32 uc,.int .i64 n] 83 (0,0)) = w3 at hs3 hu3 hr3 ⊢
 clear hb1 hb2 hbw hbn hbe hT1 hs hAt hBf
 have u3_0 := blk_cell hu3 0
 have u3_1 := blk_cell hu3 1
 go_upto_region 13 with (go_at_call 66;refine (width_Class.calls kc _ _ _ hCl).mono ?_;rintro e w4 ⟨rfl,hb4⟩;have hs4 := hs3.more hb4 hr.bs;have hu4 := (hb4.block b (blk_lt hu3)).trans hu3;have hr4 := (Room.more hr3 hb4))
 clear hs3 hu3 u3_0 u3_1 hr3 hCl hT
 have u4_0 := blk_cell hu4 0
 have u4_1 := blk_cell hu4 1
 generalize htx : all.extract 0 n = tx at hDH ⊢
 have htl : tx.size ≤ 4 + all.size := by rw [← htx,size_extract _ _ _ hn2];omega
 clear htx
 by_cases k3 : K = 3
 ·subst k3
  have hU : s.unit 3 tx = s.mark tx := by unfold Sc.unit;rw [if_pos rfl]
  obtain ⟨rv,⟨_,_,_,_,_,_,_,_,z8,_⟩,_⟩ := hs4.at_.cells
  cases hmk : s.marks with
  | false =>
   rw [hmk] at z8
   have hm : s.mark tx = s := by unfold Sc.mark;rw [if_neg (by rw [hmk];decide)]
   have hs6 := hs4.wide (fun k hk => hk.1) h.ne
   go_upto_region 24 with (fail)
   clear hs4 hu4
   go_wp2
   first | refine bodyPost_ret (results_tmp rfl _ _ _) rfl ?_ | ((try simp only [Exit.inBlock,Exit.then]);refine bodyPost_ret (results_tmp rfl _ _ _) rfl ?_) | (go_wp2;refine bodyPost_ret (results_tmp rfl _ _ _) rfl ?_)
   exact ⟨by rw [hDH.out];first | rfl | (dsimp only;rfl),by rw [hDH.out,hU,hm];exact hs6⟩
  | true =>
   rw [hmk] at z8
   obtain ⟨m1,m2⟩ := hO.ma hmk
   have hm : s.mark tx = { s with rows := s.rows.set s.lr ((s.rows.getD s.lr []).set s.lc ⟨(gC (s.rows.getD s.lr []) s.lc).f0 ++ tx,(gC (s.rows.getD s.lr []) s.lc).f1⟩) } := by unfold Sc.mark;rw [if_pos hmk]
   have hmH := Lib.hid hm
   have hLm : s.rows.getD s.lr [] ∈ s.rows := by
    rw [List.getD_eq_getElem?_getD,List.getElem?_eq_getElem m1]
    exact List.getElem_mem _
   have hcl := hO.cl _ hLm
   have hTL := hTB _ hLm
   clear hm
   obtain ⟨g,cap,okT,A,c,hI,hfT,hgk,hc1,hcap⟩ := hs4.take_out' hr4.fr s.lr m1
   generalize s.rows.getD s.lr [] = L at hI hc1 m2 hmH hcl hTL hLm
   obtain ⟨gr,c',hv,hgr0,_,_,_⟩ := Kd.R_form hI.row (by omega)
   injection hv with hv1 _ hv3
   subst hv1
   obtain rfl := hv3
   have hgT : gC L s.lc ∈ L := by
    unfold gC
    rw [List.getD_eq_getElem?_getD,List.getElem?_eq_getElem m2]
    exact List.getElem_mem _
   have hts := hTL _ hgT
   generalize hX : gC L s.lc = X at hmH hts
   obtain ⟨x0_,x1_,y0_,y1_⟩ := row_cells hI.row s.lc m2
   rw [hX] at x0_ x1_
   have hI0 := hI.slot.1
   obtain ⟨rv',⟨_,_,_,_,_,_,z6,z7,_⟩,_⟩ := hs4.at_.cells
   have z2 := hI.c2
   have e1 : (s.lr : Int) < (s.rows.length : Int) := by omega
   have e2 : (s.lc : Int) < (L.length : Int) := by omega
   have hw := hO.w2
   have qa := eq_false (show ¬ 9223372036854775807 < X.f0.size + tx.size by omega)
   go_upto_region 15 with (fail)
   refine start_ (n := 24) (S := fun w' => w'.cell? ⟨p,2,none⟩ = some (.slice (some ⟨g,0,none⟩) s.rows.length cap) ∧ w'.cell? ⟨p,6,none⟩ = some (.int .i64 s.lr) ∧ w'.cell? ⟨p,7,none⟩ = some (.int .i64 s.lc) ∧ w'.cell? ⟨g,s.lr,none⟩ = some (.slice (some ⟨gr,0,none⟩) L.length c) ∧ w'.cell? ⟨gr,s.lc * 2,none⟩ = some (.string X.f0)) (ds := [23]) #[false,false,false,false,false,false,false,false,false,false,false,false,false,false,false,false,false,false,false,false,false,false,false,false] (by kernel_rfl) rfl rfl ⟨z2,z6,z7,hI0,x0_⟩ (fun hHeld => ?_);refine with_tabW st15.tab st15.bits (fun HT_ HW_ => ?_)
   have hI1 := hI.more (below_drew (Below.refl _ _)) hr.bs
   have hu5 : w4.drew.heap[b]? = _ := hu4
   generalize w4.drew = w5 at hI1 hu5 hHeld ⊢
   clear hI z2 z6 z7 hI0 x0_ x1_ y0_ y1_ hs4 hu4 z8
   refine pure_ (i := 0) (N := (some 54)) (v := ?_) (a' := ?_) #[true,false,false,false,false,false,false,false,false,false,false,false,false,false,false,false,false,false,false,false,false,false,false,false] rfl rfl (any_of HT_.out (by kernel_rfl)) (fun _ _ _ h => h) (Or.inl ⟨by rfl,?_⟩) ?_ ?_
   rotate_left
   ·intro w'
    go_simp
    with_reducible rfl
   rotate_left
   ·simp only [Act.put,List.setIfInBounds_toArray,List.set_cons_zero,List.set_cons_succ,i64_w,i32_w]
    rfl
   refine pure_ (i := 1) (N := (some 55)) (v := ?_) (a' := ?_) #[true,true,false,false,false,false,false,false,false,false,false,false,false,false,false,false,false,false,false,false,false,false,false,false] rfl rfl (any_of HT_.out (by kernel_rfl)) (fun _ _ _ h => h) (Or.inl ⟨by rfl,?_⟩) ?_ ?_
   rotate_left
   ·intro w'
    go_simp
    with_reducible rfl
   rotate_left
   ·simp only [Act.put,List.setIfInBounds_toArray,List.set_cons_zero,List.set_cons_succ,i64_w,i32_w]
    rfl
   refine pure_ (i := 2) (N := (some 56)) (v := ?_) (a' := ?_) #[true,true,true,false,false,false,false,false,false,false,false,false,false,false,false,false,false,false,false,false,false,false,false,false] rfl rfl (any_of HT_.out (by kernel_rfl)) (fun _ _ _ h => h) (Or.inl ⟨by rfl,?_⟩) ?_ ?_
   rotate_left
   ·intro w'
    go_simp
    with_reducible rfl
   rotate_left
   ·simp only [Act.put,List.setIfInBounds_toArray,List.set_cons_zero,List.set_cons_succ,i64_w,i32_w]
    rfl
   refine take_ (i := 3) (N := (some 57)) (v := ?_) (a' := ?_) #[true,true,true,true,false,false,false,false,false,false,false,false,false,false,false,false,false,false,false,false,false,false,false,false] rfl rfl (take_ofW HT_.out HW_.out (by kernel_rfl)) (fun _ _ _ h => h) (Or.inl ⟨by rfl,?_⟩) hHeld ?_ ?_
   rotate_left
   ·rintro w' ⟨s1,s2,s3,s4,s5⟩
    go_simp
    with_reducible rfl
   rotate_left
   ·simp only [Act.put,List.setIfInBounds_toArray,List.set_cons_zero,List.set_cons_succ,i64_w,i32_w]
    rfl
   refine pure_ (i := 4) (N := (some 58)) (v := ?_) (a' := ?_) #[true,true,true,true,true,false,false,false,false,false,false,false,false,false,false,false,false,false,false,false,false,false,false,false] rfl rfl (any_of HT_.out (by kernel_rfl)) (fun _ _ _ h => h) (Or.inl ⟨by rfl,?_⟩) ?_ ?_
   rotate_left
   ·intro w'
    go_simp
    with_reducible rfl
   rotate_left
   ·simp only [Act.put,List.setIfInBounds_toArray,List.set_cons_zero,List.set_cons_succ,i64_w,i32_w]
    rfl
   refine pure_ (i := 5) (N := (some 59)) (v := ?_) (a' := ?_) #[true,true,true,true,true,true,false,false,false,false,false,false,false,false,false,false,false,false,false,false,false,false,false,false] rfl rfl (any_of HT_.out (by kernel_rfl)) (fun _ _ _ h => h) (Or.inl ⟨by rfl,?_⟩) ?_ ?_
   rotate_left
   ·intro w'
    go_simp
    with_reducible rfl
   rotate_left
   ·simp only [Act.put,List.setIfInBounds_toArray,List.set_cons_zero,List.set_cons_succ,i64_w,i32_w]
    rfl
   refine pure_ (i := 6) (N := (some 60)) (v := ?_) (a' := ?_) #[true,true,true,true,true,true,true,false,false,false,false,false,false,false,false,false,false,false,false,false,false,false,false,false] rfl rfl (any_of HT_.out (by kernel_rfl)) (fun _ _ _ h => h) (Or.inl ⟨by rfl,?_⟩) ?_ ?_
   rotate_left
   ·intro w'
    go_simp
    with_reducible rfl
   rotate_left
   ·simp only [Act.put,List.setIfInBounds_toArray,List.set_cons_zero,List.set_cons_succ,i64_w,i32_w]
    rfl
   refine pure_ (i := 7) (N := (some 61)) (v := ?_) (a' := ?_) #[true,true,true,true,true,true,true,true,false,false,false,false,false,false,false,false,false,false,false,false,false,false,false,false] rfl rfl (any_of HT_.out (by kernel_rfl)) (fun _ _ _ h => h) (Or.inl ⟨by rfl,?_⟩) ?_ ?_
   rotate_left
   ·intro w'
    go_simp
    with_reducible rfl
   rotate_left
   ·simp only [Act.put,List.setIfInBounds_toArray,List.set_cons_zero,List.set_cons_succ,i64_w,i32_w]
    rfl
   refine take_ (i := 8) (N := (some 62)) (v := ?_) (a' := ?_) #[true,true,true,true,true,true,true,true,true,false,false,false,false,false,false,false,false,false,false,false,false,false,false,false] rfl rfl (take_ofW HT_.out HW_.out (by kernel_rfl)) (fun _ _ _ h => h) (Or.inl ⟨by rfl,?_⟩) hHeld ?_ ?_
   rotate_left
   ·rintro w' ⟨s1,s2,s3,s4,s5⟩
    go_simp
    with_reducible rfl
   rotate_left
   ·simp only [Act.put,List.setIfInBounds_toArray,List.set_cons_zero,List.set_cons_succ,i64_w,i32_w]
    rfl
   refine pure_ (i := 9) (N := (some 63)) (v := ?_) (a' := ?_) #[true,true,true,true,true,true,true,true,true,true,false,false,false,false,false,false,false,false,false,false,false,false,false,false] rfl rfl (any_of HT_.out (by kernel_rfl)) (fun _ _ _ h => h) (Or.inl ⟨by rfl,?_⟩) ?_ ?_
   rotate_left
   ·intro w'
    go_simp
    with_reducible rfl
   rotate_left
   ·simp only [Act.put,List.setIfInBounds_toArray,List.set_cons_zero,List.set_cons_succ,i64_w,i32_w]
    rfl
   refine take_ (i := 10) (N := (some 64)) (v := ?_) (a' := ?_) #[true,true,true,true,true,true,true,true,true,true,true,false,false,false,false,false,false,false,false,false,false,false,false,false] rfl rfl (take_ofW HT_.out HW_.out (by kernel_rfl)) (fun _ _ _ h => h) (Or.inl ⟨by rfl,?_⟩) hHeld ?_ ?_
   rotate_left
   ·rintro w' ⟨s1,s2,s3,s4,s5⟩
    go_simp
    with_reducible rfl
   rotate_left
   ·simp only [Act.put,List.setIfInBounds_toArray,List.set_cons_zero,List.set_cons_succ,i64_w,i32_w]
    rfl
   refine pure_ (i := 11) (N := (some 65)) (v := ?_) (a' := ?_) #[true,true,true,true,true,true,true,true,true,true,true,true,false,false,false,false,false,false,false,false,false,false,false,false] rfl rfl (any_of HT_.out (by kernel_rfl)) (fun _ _ _ h => h) (Or.inl ⟨by rfl,?_⟩) ?_ ?_
   rotate_left
   ·intro w'
    go_simp
    with_reducible rfl
   rotate_left
   ·simp only [Act.put,List.setIfInBounds_toArray,List.set_cons_zero,List.set_cons_succ,i64_w,i32_w]
    rfl
   refine pure_ (i := 12) (N := (some 66)) (v := ?_) (a' := ?_) #[true,true,true,true,true,true,true,true,true,true,true,true,true,false,false,false,false,false,false,false,false,false,false,false] rfl rfl (any_of HT_.out (by kernel_rfl)) (fun _ _ _ h => h) (Or.inl ⟨by rfl,?_⟩) ?_ ?_
   rotate_left
   ·intro w'
    go_simp
    with_reducible rfl
   rotate_left
   ·simp only [Act.put,List.setIfInBounds_toArray,List.set_cons_zero,List.set_cons_succ,i64_w,i32_w]
    rfl
   refine pure_ (i := 13) (N := (some 67)) (v := ?_) (a' := ?_) #[true,true,true,true,true,true,true,true,true,true,true,true,true,true,false,false,false,false,false,false,false,false,false,false] rfl rfl (any_of HT_.out (by kernel_rfl)) (fun _ _ _ h => h) (Or.inl ⟨by rfl,?_⟩) ?_ ?_
   rotate_left
   ·intro w'
    go_simp
    with_reducible rfl
   rotate_left
   ·simp only [Act.put,List.setIfInBounds_toArray,List.set_cons_zero,List.set_cons_succ,i64_w,i32_w]
    rfl
   refine pure_ (i := 14) (N := (some 68)) (v := ?_) (a' := ?_) #[true,true,true,true,true,true,true,true,true,true,true,true,true,true,true,false,false,false,false,false,false,false,false,false] rfl rfl (any_of HT_.out (by kernel_rfl)) (fun _ _ _ h => h) (Or.inl ⟨by rfl,?_⟩) ?_ ?_
   rotate_left
   ·intro w'
    go_simp
    with_reducible rfl
   rotate_left
   ·simp only [Act.put,List.setIfInBounds_toArray,List.set_cons_zero,List.set_cons_succ,i64_w,i32_w]
    rfl
   refine take_ (i := 15) (N := (some 69)) (v := ?_) (a' := ?_) #[true,true,true,true,true,true,true,true,true,true,true,true,true,true,true,true,false,false,false,false,false,false,false,false] rfl rfl (take_ofW HT_.out HW_.out (by kernel_rfl)) (fun _ _ _ h => h) (Or.inl ⟨by rfl,?_⟩) hHeld ?_ ?_
   rotate_left
   ·rintro w' ⟨s1,s2,s3,s4,s5⟩
    go_simp
    with_reducible rfl
   rotate_left
   ·simp only [Act.put,List.setIfInBounds_toArray,List.set_cons_zero,List.set_cons_succ,i64_w,i32_w]
    rfl
   refine pure_ (i := 16) (N := (some 70)) (v := ?_) (a' := ?_) #[true,true,true,true,true,true,true,true,true,true,true,true,true,true,true,true,true,false,false,false,false,false,false,false] rfl rfl (any_of HT_.out (by kernel_rfl)) (fun _ _ _ h => h) (Or.inl ⟨by rfl,?_⟩) ?_ ?_
   rotate_left
   ·intro w'
    go_simp
    with_reducible rfl
   rotate_left
   ·simp only [Act.put,List.setIfInBounds_toArray,List.set_cons_zero,List.set_cons_succ,i64_w,i32_w]
    rfl
   refine pure_ (i := 17) (N := (some 71)) (v := ?_) (a' := ?_) #[true,true,true,true,true,true,true,true,true,true,true,true,true,true,true,true,true,true,false,false,false,false,false,false] rfl rfl (any_of HT_.out (by kernel_rfl)) (fun _ _ _ h => h) (Or.inl ⟨by rfl,?_⟩) ?_ ?_
   rotate_left
   ·intro w'
    go_simp
    with_reducible rfl
   rotate_left
   ·simp only [Act.put,List.setIfInBounds_toArray,List.set_cons_zero,List.set_cons_succ,i64_w,i32_w]
    rfl
   refine take_ (i := 18) (N := (some 72)) (v := ?_) (a' := ?_) #[true,true,true,true,true,true,true,true,true,true,true,true,true,true,true,true,true,true,true,false,false,false,false,false] rfl rfl (take_ofW HT_.out HW_.out (by kernel_rfl)) (fun _ _ _ h => h) (Or.inl ⟨by rfl,?_⟩) hHeld ?_ ?_
   rotate_left
   ·rintro w' ⟨s1,s2,s3,s4,s5⟩
    go_simp
    with_reducible rfl
   rotate_left
   ·simp only [Act.put,List.setIfInBounds_toArray,List.set_cons_zero,List.set_cons_succ,i64_w,i32_w]
    rfl
   refine pure_ (i := 19) (N := (some 73)) (v := ?_) (a' := ?_) #[true,true,true,true,true,true,true,true,true,true,true,true,true,true,true,true,true,true,true,true,false,false,false,false] rfl rfl (any_of HT_.out (by kernel_rfl)) (fun _ _ _ h => h) (Or.inl ⟨by rfl,?_⟩) ?_ ?_
   rotate_left
   ·intro w'
    go_simp
    with_reducible rfl
   rotate_left
   ·simp only [Act.put,List.setIfInBounds_toArray,List.set_cons_zero,List.set_cons_succ,i64_w,i32_w]
    rfl
   refine pure_ (i := 20) (N := (some 74)) (v := ?_) (a' := ?_) #[true,true,true,true,true,true,true,true,true,true,true,true,true,true,true,true,true,true,true,true,true,false,false,false] rfl rfl (any_of HT_.out (by kernel_rfl)) (fun _ _ _ h => h) (Or.inl ⟨by rfl,?_⟩) ?_ ?_
   rotate_left
   ·intro w'
    go_simp
    with_reducible rfl
   rotate_left
   ·simp only [Act.put,List.setIfInBounds_toArray,List.set_cons_zero,List.set_cons_succ,i64_w,i32_w]
    rfl
   refine pure_ (i := 21) (N := (some 75)) (v := ?_) (a' := ?_) #[true,true,true,true,true,true,true,true,true,true,true,true,true,true,true,true,true,true,true,true,true,true,false,false] rfl rfl (any_of HT_.out (by kernel_rfl)) (fun _ _ _ h => h) (Or.inl ⟨by rfl,?_⟩) ?_ ?_
   rotate_left
   ·intro w'
    go_simp
    with_reducible rfl
   rotate_left
   ·simp only [Act.put,List.setIfInBounds_toArray,List.set_cons_zero,List.set_cons_succ,i64_w,i32_w]
    rfl
   refine pure_ (i := 22) (N := (some 76)) (v := ?_) (a' := ?_) #[true,true,true,true,true,true,true,true,true,true,true,true,true,true,true,true,true,true,true,true,true,true,true,false] rfl rfl (any_of HT_.out (by kernel_rfl)) (fun _ _ _ h => h) (Or.inl ⟨by rfl,?_⟩) ?_ ?_
   rotate_left
   ·intro w'
    go_simp
    with_reducible rfl
   rotate_left
   ·simp only [Act.put,List.setIfInBounds_toArray,List.set_cons_zero,List.set_cons_succ,i64_w,i32_w]
    rfl
   refine last_ (i := 23) (N := none) #[true,true,true,true,true,true,true,true,true,true,true,true,true,true,true,true,true,true,true,true,true,true,true,true] rfl rfl (one_of HT_.out (by kernel_rfl)) (by decide) (fun K hK => ?_)
   obtain ⟨x0_,x1_,y0_,y1_⟩ := row_cells hI1.row s.lc m2
   rw [hX] at x0_ x1_
   refine skip_ (w1 := ?_) (by rfl) rfl ?_ ?_
   rotate_left
   ·go_simp
    rfl
   refine hK.out _ _ ?_
   clear hK K
   have hRp := row_put0 hI1.row s.lc m2 (X.f0 ++ tx)
   rw [hX] at hRp
   have hI2 := hI1.kept (gr := gr) rfl ((Kept.refl w5 (fun k => k = gr)).setCell (p := ⟨gr,s.lc * 2,none⟩) (.inl rfl) (.string (X.f0 ++ tx))) ((Below.refl base w5).setCell (p := ⟨gr,s.lc * 2,none⟩) hgr0 (.string (X.f0 ++ tx))) hRp
   have hgb : gr ≠ b := fun he => (hI1.sub gr (hI1.ownT gr rfl)).1.2 he
   have hu6 := (Below.heap_setCell w5 ⟨gr,s.lc * 2,none⟩ (.string (X.f0 ++ tx)) b (Ne.symm hgb)).trans hu5
   generalize w5.setCell ⟨gr,s.lc * 2,none⟩ (.string (X.f0 ++ tx)) = w6 at hI2 hu6 ⊢
   clear hI1 hu5 hHeld hRp x0_ x1_ y0_ y1_
   have hs6 := hI2.stay.wide (fun k hk => hk.1) h.ne
   have y1 := blk_cell hu6 1
   clear hI2
   refine done_ (done_of HT_.out (by kernel_rfl)) ?_
   clear HT_ HW_
   go_wp2
   first | refine bodyPost_ret (results_tmp rfl _ _ _) rfl ?_ | ((try simp only [Exit.inBlock,Exit.then]);refine bodyPost_ret (results_tmp rfl _ _ _) rfl ?_) | (go_wp2;refine bodyPost_ret (results_tmp rfl _ _ _) rfl ?_)
   exact ⟨by rw [hDH.out];first | rfl | (dsimp only;rfl),by rw [hDH.out,hU,hmH.out];exact hs6⟩
 have r3 : (K == 3) = false := by simp;omega
 by_cases k0 : K = 0
 ·subst k0
  have hU : s.unit 0 tx = s.write tx 1 := by unfold Sc.unit;rw [if_neg (by decide),if_pos rfl]
  go_upto_region 24 with (go_at_call 67;refine (sc_write hs4.at_ hr4 hO tx 1 (by decide) (by decide) o1).mono ?_;rintro e w5 ⟨rfl,hs5⟩)
  have hu6 := hs5.keeps hu4 (fun hk => hk.2 rfl) hbp
  have y1 := blk_cell hu6 1
  have hs6 := (hs4.then_ hs5).wide (fun k hk => hk.1) h.ne
  clear hs4 hs5 hu4 u4_0 u4_1
  go_wp2
  first | refine bodyPost_ret (results_tmp rfl _ _ _) rfl ?_ | ((try simp only [Exit.inBlock,Exit.then]);refine bodyPost_ret (results_tmp rfl _ _ _) rfl ?_) | (go_wp2;refine bodyPost_ret (results_tmp rfl _ _ _) rfl ?_)
  exact ⟨by rw [hDH.out];first | rfl | (dsimp only;rfl),by rw [hDH.out,hU];exact hs6⟩
 have r0 : (K == 0) = false := by simp;omega
 by_cases k5 : K = 5
 ·subst k5
  have hU : s.unit 5 tx = s.write fffdS 1 := by unfold Sc.unit;rw [if_neg (by decide),if_neg (by decide),if_pos rfl]
  go_upto_region 24 with (go_at_call 67;refine (sc_write hs4.at_ hr4 hO fffdS 1 (by decide) (by decide) o1).mono ?_;rintro e w5 ⟨rfl,hs5⟩)
  have hu6 := hs5.keeps hu4 (fun hk => hk.2 rfl) hbp
  have y1 := blk_cell hu6 1
  have hs6 := (hs4.then_ hs5).wide (fun k hk => hk.1) h.ne
  clear hs4 hs5 hu4 u4_0 u4_1
  go_wp2
  first | refine bodyPost_ret (results_tmp rfl _ _ _) rfl ?_ | ((try simp only [Exit.inBlock,Exit.then]);refine bodyPost_ret (results_tmp rfl _ _ _) rfl ?_) | (go_wp2;refine bodyPost_ret (results_tmp rfl _ _ _) rfl ?_)
  exact ⟨by rw [hDH.out];first | rfl | (dsimp only;rfl),by rw [hDH.out,hU];exact hs6⟩
 have r5 : (K == 5) = false := by simp;omega
 by_cases k4 : K = 4
 ·subst k4
  obtain ⟨rv,⟨z0,_⟩,_⟩ := hs4.at_.cells
  by_cases hw1 : s.w = 1
  ·have hU : s.unit 4 tx = s.write fffdS 1 := by unfold Sc.unit;rw [if_neg (by decide),if_neg (by decide),if_neg (by decide),if_pos rfl,if_pos hw1]
   have r6 : ((s.w : Int) == 1) = true := by simp;omega
   clear hw1
   go_upto_region 24 with (go_at_call 67;refine (sc_write hs4.at_ hr4 hO fffdS 1 (by decide) (by decide) o1).mono ?_;rintro e w5 ⟨rfl,hs5⟩)
   have hu6 := hs5.keeps hu4 (fun hk => hk.2 rfl) hbp
   have y1 := blk_cell hu6 1
   have hs6 := (hs4.then_ hs5).wide (fun k hk => hk.1) h.ne
   clear hs4 hs5 hu4 u4_0 u4_1
   go_wp2
   first | refine bodyPost_ret (results_tmp rfl _ _ _) rfl ?_ | ((try simp only [Exit.inBlock,Exit.then]);refine bodyPost_ret (results_tmp rfl _ _ _) rfl ?_) | (go_wp2;refine bodyPost_ret (results_tmp rfl _ _ _) rfl ?_)
   exact ⟨by rw [hDH.out];first | rfl | (dsimp only;rfl),by rw [hDH.out,hU];exact hs6⟩
  ·have hU : s.unit 4 tx = s.write tx 2 := by unfold Sc.unit;rw [if_neg (by decide),if_neg (by decide),if_neg (by decide),if_pos rfl,if_neg hw1]
   have r6 : ((s.w : Int) == 1) = false := by simp;omega
   have hw2 : 2 ≤ s.w := by omega
   clear hw1
   go_upto_region 24 with (go_at_call 67;refine (sc_write hs4.at_ hr4 hO tx 2 (by decide) (by decide) hw2).mono ?_;rintro e w5 ⟨rfl,hs5⟩)
   have hu6 := hs5.keeps hu4 (fun hk => hk.2 rfl) hbp
   have y1 := blk_cell hu6 1
   have hs6 := (hs4.then_ hs5).wide (fun k hk => hk.1) h.ne
   clear hs4 hs5 hu4 u4_0 u4_1
   go_wp2
   first | refine bodyPost_ret (results_tmp rfl _ _ _) rfl ?_ | ((try simp only [Exit.inBlock,Exit.then]);refine bodyPost_ret (results_tmp rfl _ _ _) rfl ?_) | (go_wp2;refine bodyPost_ret (results_tmp rfl _ _ _) rfl ?_)
   exact ⟨by rw [hDH.out];first | rfl | (dsimp only;rfl),by rw [hDH.out,hU];exact hs6⟩
 have r4 : (K == 4) = false := by simp;omega
 have hU : s.unit K tx = { s with full := false,marks := false } := by unfold Sc.unit;rw [if_neg k3,if_neg k0,if_neg k5,if_neg k4]
 have g5 := hs4.at_.frozen 5
 have g8 := hs4.at_.frozen 8
 obtain ⟨rv,⟨_,_,_,_,_,z5,_,_,z8,_⟩,_⟩ := hs4.at_.cells
 have hs5 := (hs4.put (hd' := hd) (s' := { s with full := false }) 5 (.bool false) rfl (fun _ => rfl)).put (hd' := hd) (s' := { s with full := false,marks := false }) 8 (.bool false) rfl (fun _ => rfl)
 go_upto_region 24 with (fail)
 have hu6 := (Below.heap_setCell (w4.setCell ⟨p,5,none⟩ (.bool false)) ⟨p,8,none⟩ (.bool false) b hbp).trans ((Below.heap_setCell w4 ⟨p,5,none⟩ (.bool false) b hbp).trans hu4)
 generalize (w4.setCell ⟨p,5,none⟩ (.bool false)).setCell ⟨p,8,none⟩ (.bool false) = w5 at hs5 hu6 ⊢
 have y1 := blk_cell hu6 1
 have hs6 := hs5.wide (fun k hk => hk.1) h.ne
 clear hs4 hs5 hu4 u4_0 u4_1 z5 z8 g5 g8
 go_wp2
 first | refine bodyPost_ret (results_tmp rfl _ _ _) rfl ?_ | ((try simp only [Exit.inBlock,Exit.then]);refine bodyPost_ret (results_tmp rfl _ _ _) rfl ?_) | (go_wp2;refine bodyPost_ret (results_tmp rfl _ _ _) rfl ?_)
 exact ⟨by rw [hDH.out];first | rfl | (dsimp only;rfl),by rw [hDH.out,hU];exact hs6⟩
end Go.Proofs.YtgdpnmikcopkmaaDoor.U
end
section
namespace Go.Proofs.YtgdpnmikcopkmaaDoor.Pu
open Go Go.RowKit Go.Lib Go.Proofs.YtgdpnmikcopkmaaDoor.Mu Go.Proofs.YtgdpnmikcopkmaaDoor.U
set_option linter.unusedVariables false
theorem first_vals (b0 : Nat) (hb : b0 < 256) : (firstT b0 = 240 ∧ b0 < 128) ∨ (firstT b0 = 241 ∧ 128 ≤ b0 ∧ (b0 < 194 ∨ 245 ≤ b0)) ∨ (firstT b0 = 2 ∧ 194 ≤ b0 ∧ b0 < 224) ∨ (firstT b0 = 19 ∧ b0 = 224) ∨
  (firstT b0 = 3 ∧ 224 < b0 ∧ b0 < 240 ∧ b0 ≠ 237) ∨ (firstT b0 = 35 ∧ b0 = 237) ∨ (firstT b0 = 52 ∧ b0 = 240) ∨ (firstT b0 = 4 ∧ 240 < b0 ∧ b0 < 244) ∨ (firstT b0 = 68 ∧ b0 = 244) := by
 unfold firstT
 repeat' split
 all_goals omega
/-- What a whole beginning is,in numbers. -/
def FullC (n b0 b1 b2 : Nat) : Prop := 1 ≤ n ∧ (b0 < 194 ∨ 245 ≤ b0 ∨ (b0 < 224 ∧ 2 ≤ n) ∨ (b0 < 240 ∧ 3 ≤ n) ∨ 4 ≤ n ∨
 (1 < n ∧ ((b0 = 224 ∧ (b1 < 160 ∨ 191 < b1)) ∨ (b0 = 237 ∧ (b1 < 128 ∨ 159 < b1)) ∨ (224 < b0 ∧ b0 < 240 ∧ (b1 < 128 ∨ 191 < b1)) ∨ (b0 = 240 ∧ (b1 < 144 ∨ 191 < b1)) ∨ (b0 = 244 ∧ (b1 < 128 ∨ 143 < b1)) ∨ (240 < b0 ∧ b0 < 244 ∧ (b1 < 128 ∨ 191 < b1)))) ∨
 (2 < n ∧ 240 ≤ b0 ∧ (b2 < 128 ∨ 191 < b2)))
theorem full_iff (n b0 b1 b2 : Nat) (hb : b0 < 256) : fullN n b0 b1 b2 = true ↔ FullC n b0 b1 b2 := by
 have h := first_vals b0 hb
 unfold fullN FullC
 rcases h with ⟨h,h2⟩ | ⟨h,h2⟩ | ⟨h,h2⟩ | ⟨h,h2⟩ | ⟨h,h2⟩ | ⟨h,h2⟩ | ⟨h,h2⟩ | ⟨h,h2⟩ | ⟨h,h2⟩ <;>
  (rw [h];simp only [accLo,accHi,Nat.reduceDiv,Nat.reduceMod,Nat.reduceEqDiff,if_true,if_false]) <;> (repeat' split) <;> simp <;> omega
theorem full_dec (n m b0 b1 b2 b3 c1 c2 c3 : Nat) (hb : b0 < 256) (hf : fullN n b0 b1 b2 = true) (hnm : n ≤ m) (e1 : 1 < n → c1 = b1) (e2 : 2 < n → c2 = b2) (e3 : 3 < n → c3 = b3) :
  decodeN m b0 c1 c2 c3 = decodeN n b0 b1 b2 b3 ∧ fullN m b0 c1 c2 = true := by
 rw [full_iff _ _ _ _ hb] at hf ⊢
 obtain ⟨h0,hf⟩ := hf
 constructor
 ·rcases dec_cases n b0 b1 b2 b3 hb with A | A | A | A | A
  ·rw [A.2,dec_ascii _ _ _ _ _ A.1]
  ·rw [A.2]
   rcases dec_cases m b0 c1 c2 c3 hb with B | B | B | B | B
   ·omega
   ·exact B.2
   ·exfalso
    by_cases h1 : 1 < n
    ·have := e1 h1
     have D := dec_two n b0 b1 b2 b3 B.1 B.2.1 h1 (by omega) (by omega)
     rw [A.2] at D;injection D with _ D;omega
    ·omega
   ·exfalso
    by_cases h2 : 2 < n
    ·have := e1 (by omega);have := e2 h2
     subst_vars
     have D := dec_three n b0 c1 c2 b3 B.1 B.2.1 h2 B.2.2.2.1 B.2.2.2.2.1 B.2.2.2.2.2.1 B.2.2.2.2.2.2.1
     rw [A.2] at D;injection D with _ D;omega
    ·obtain ⟨B1,B2,B3,B4,B5,B6,B7,_⟩ := B
     by_cases h1 : 1 < n
     ·have := e1 h1;omega
     ·omega
   ·exfalso
    obtain ⟨B1,B2,B3,B4,B5,B6,B7,B8,_⟩ := B
    by_cases h3 : 3 < n
    ·have := e1 (by omega);have := e2 (by omega);have := e3 h3
     subst_vars
     have D := dec_four n b0 c1 c2 c3 B1 B2 h3 B4 B5 B6 B7 B8
     rw [A.2] at D;injection D with _ D;omega
    ·by_cases h2 : 2 < n
     ·have := e1 (by omega);have := e2 h2;omega
     ·by_cases h1 : 1 < n
      ·have := e1 h1;omega
      ·omega
  ·have := e1 A.2.2.1
   subst this
   rw [A.2.2.2.2.2,dec_two m b0 c1 c2 c3 A.1 A.2.1 (by omega) A.2.2.2.1 A.2.2.2.2.1]
  ·have := e1 (by omega);have := e2 A.2.2.1
   subst_vars
   rw [A.2.2.2.2.2.2.2,dec_three m b0 c1 c2 c3 A.1 A.2.1 (by omega) A.2.2.2.1 A.2.2.2.2.1 A.2.2.2.2.2.1 A.2.2.2.2.2.2.1]
  ·have := e1 (by omega);have := e2 (by omega);have := e3 A.2.2.1
   subst_vars
   rw [A.2.2.2.2.2.2.2.2,dec_four m b0 c1 c2 c3 A.1 A.2.1 (by omega) A.2.2.2.1 A.2.2.2.2.1 A.2.2.2.2.2.1 A.2.2.2.2.2.2.1 A.2.2.2.2.2.2.2.1]
 ·refine ⟨by omega,?_⟩
  by_cases h1 : 1 < n
  ·have := e1 h1
   by_cases h2 : 2 < n
   ·have := e2 h2;omega
   ·omega
  ·omega
theorem app_size (x y : ByteArray) : (x ++ y).size = x.size + y.size := ByteArray.size_append
theorem app_byt (x y : ByteArray) (i : Nat) (h : i < x.size) : byt (x ++ y) i = byt x i := byt_append_left x y i h
theorem full_app (x y : ByteArray) (h0 : 0 < x.size) (h : fullB x = true) : fullB (x ++ y) = true ∧ uC (x ++ y) 0 = uC x 0 ∧ uN (x ++ y) 0 = uN x 0 := by
 have hb := app_byt x y
 have h1 : byt (x ++ y) 0 = byt x 0 := hb 0 h0
 have hd := full_dec x.size (x ++ y).size (byt x 0) (byt x 1) (byt x 2) (byt x 3) (byt (x ++ y) 1) (byt (x ++ y) 2) (byt (x ++ y) 3) (byt_lt _ _) h (by rw [app_size];omega) (hb 1) (hb 2) (hb 3)
 have hdec : Utf8.decode (x ++ y) 0 = Utf8.decode x 0 := by
  rw [dec_eq,dec_eq,h1,Nat.sub_zero,Nat.sub_zero,Nat.zero_add,Nat.zero_add,Nat.zero_add]
  exact hd.1
 refine ⟨?_,?_,?_⟩
 ·have h2 := hd.2
  rw [← h1] at h2
  exact h2
 ·unfold uC;rw [hdec]
 ·unfold uN;rw [hdec]
theorem escJ_succ (s : ByteArray) (k j : Nat) : escJ s (k + 1) j = if j < s.size ∧ 32 ≤ byt s j ∧ byt s j ≤ 63 then escJ s k (j + 1) else j := rfl
theorem escJ_app (x y : ByteArray) : ∀ k k' j,escJ x k j < x.size → x.size ≤ j + k → x.size ≤ j + k' → escJ (x ++ y) k' j = escJ x k j
 | 0,k',j,h,hk,hk' => by
  have h : j < x.size := h
  omega
 | k + 1,k',j,h,hk,hk' => by
  rw [escJ_succ] at h ⊢
  split at h
  ·rename_i hc
   rw [if_pos hc]
   obtain ⟨m,rfl⟩ : ∃ m,k' = m + 1 := ⟨k' - 1,by omega⟩
   rw [escJ_succ,if_pos ⟨by rw [app_size];omega,by rw [app_byt x y j hc.1];exact hc.2⟩]
   exact escJ_app x y k m (j + 1) h (by omega) (by omega)
  ·rename_i hc
   rw [if_neg hc]
   cases k' with
   | zero => rfl
   | succ m =>
    rw [escJ_succ,if_neg]
    intro h2
    rw [app_byt x y j h] at h2
    exact hc ⟨h,h2.2⟩
theorem ext_left (x y : ByteArray) (a b : Nat) (h : b ≤ x.size) : (x ++ y).extract a b = x.extract a b := by
 apply ByteArray.ext
 rw [ByteArray.data_extract,ByteArray.data_extract,ByteArray.data_append,Array.extract_append]
 have h2 : x.size = x.data.size := rfl
 rw [show b - x.data.size = 0 by omega]
 simp
theorem ext_cut (x y : ByteArray) (a : Nat) (h : a ≤ x.size) : (x ++ y).extract a (x ++ y).size = x.extract a x.size ++ y := by
 apply ByteArray.ext
 rw [ByteArray.data_extract,ByteArray.data_append,ByteArray.data_append,ByteArray.data_extract,Array.extract_append,app_size]
 have h2 : x.size = x.data.size := rfl
 have h3 : y.size = y.data.size := rfl
 rw [show a - x.data.size = 0 by omega,show x.size + y.size - x.data.size = y.data.size by omega]
 congr 1
 ·apply Array.ext_getElem?
  intro i
  simp [Array.getElem?_extract]
 ·simp
theorem step_app (s : Sc) (x y : ByteArray) (h0 : 0 < x.size) (h : (s.step x).2 ≠ 0) : s.step (x ++ y) = s.step x := by
 have hb := app_byt x y
 have hs := app_size x y
 unfold Sc.step at h ⊢
 rw [hb 0 h0]
 split at h
 ·rename_i h1
  rw [if_pos h1,if_pos h1]
  unfold Sc.escape at h ⊢
  split at h
  ·exact absurd rfl h
  ·rename_i h2
   rw [if_neg (show ¬ (x ++ y).size = 1 by omega),if_neg h2,hb 1 (by omega)]
   split at h
   ·rename_i h3;rw [if_pos h3,if_pos h3]
   ·rename_i h3;rw [if_neg h3,if_neg h3]
    split at h
    ·rename_i h4;rw [if_pos h4,if_pos h4]
    ·rename_i h4;rw [if_neg h4,if_neg h4]
     split at h
     ·exact absurd rfl h
     ·rename_i h5
      have hle := (escJ_bd x x.size 2).2 (by omega)
      have hlt : escE x < x.size := by unfold escE at h5 ⊢;omega
      have he : escE (x ++ y) = escE x := by
       unfold escE
       exact escJ_app x y _ _ _ hlt (by omega) (by omega)
      rw [he,if_neg (show ¬ escE x = (x ++ y).size by omega),if_neg h5,hb _ hlt,ext_left x y _ _ (by omega)]
 ·rename_i h1
  rw [if_neg h1,if_neg h1]
  split at h
  ·rename_i h2;rw [if_pos h2,if_pos h2]
  ·rename_i h2;rw [if_neg h2,if_neg h2]
   split at h
   ·exact absurd rfl h
   ·rename_i h3
    obtain ⟨f1,f2,f3⟩ := full_app x y h0 (by simpa using h3)
    have hn := uN_le x 0 h0
    rw [f1,f2,f3,if_neg (by simp),if_neg h3,ext_left x y _ _ (by omega)]
theorem feedN_fuel : ∀ (k k' : Nat) (s : Sc) (all : ByteArray),all.size ≤ k → all.size ≤ k' → Sc.feedN k s all = Sc.feedN k' s all
 | 0,k',s,all,h,h' => by
  cases k' with
  | zero => rfl
  | succ k' => unfold Sc.feedN;rw [if_pos (by omega)]
 | k + 1,0,s,all,h,h' => by unfold Sc.feedN;rw [if_pos (by omega)]
 | k + 1,k' + 1,s,all,h,h' => by
  unfold Sc.feedN
  split
  ·rfl
  ·rename_i h0
   split
   ·rfl
   ·rename_i h1
    have := step_le s all (by omega)
    exact feedN_fuel k k' _ _ (by rw [size_extract _ _ _ (Nat.le_refl _)];omega) (by rw [size_extract _ _ _ (Nat.le_refl _)];omega)
theorem feedN_app : ∀ (k : Nat) (s : Sc) (x y : ByteArray),x.size ≤ k → Sc.feedN (x ++ y).size s (x ++ y) = Sc.feedN ((Sc.feedN k s x).2 ++ y).size (Sc.feedN k s x).1 ((Sc.feedN k s x).2 ++ y)
 | 0,s,x,y,h => rfl
 | k + 1,s,x,y,h => by
  by_cases h0 : x.size = 0
  ·have e : Sc.feedN (k + 1) s x = (s,x) := by unfold Sc.feedN;rw [if_pos h0]
   rw [e]
  ·by_cases h1 : (s.step x).2 = 0
   ·have e : Sc.feedN (k + 1) s x = (s,x) := by unfold Sc.feedN;rw [if_neg h0,if_pos h1,step_zero (by omega) h1]
    rw [e]
   ·have e : Sc.feedN (k + 1) s x = Sc.feedN k (s.step x).1 (x.extract (s.step x).2 x.size) := by rw [Sc.feedN,if_neg h0,if_neg h1]
    have hle := step_le s x (by omega)
    have hsz := app_size x y
    rw [e]
    obtain ⟨m,hm⟩ : ∃ m,(x ++ y).size = m + 1 := ⟨(x ++ y).size - 1,by omega⟩
    rw [hm]
    rw [show Sc.feedN (m + 1) s (x ++ y) = Sc.feedN m (s.step x).1 ((x ++ y).extract (s.step x).2 (x ++ y).size) by rw [Sc.feedN,if_neg (by omega),step_app s x y (by omega) h1,if_neg h1]]
    rw [ext_cut x y _ hle,← feedN_app k _ _ y (by rw [size_extract _ _ _ (Nat.le_refl _)];omega)]
    refine feedN_fuel _ _ _ _ ?_ (Nat.le_refl _)
    rw [app_size,size_extract _ _ _ (Nat.le_refl _)]
    omega
/-- Bytes that come in two pieces. -/
theorem feed_two (p : Sc × ByteArray) (x y : ByteArray) : feedS (feedS p x) y = feedS p (x ++ y) := by
 unfold feedS
 rw [← ByteArray.append_assoc,feedN_app (p.2 ++ x).size p.1 (p.2 ++ x) y (Nat.le_refl _)]
end Go.Proofs.YtgdpnmikcopkmaaDoor.Pu
end
section
namespace Go.Proofs.YtgdpnmikcopkmaaDoor.U
open Go.RowKit Go.Proofs.YtgdpnmikcopkmaaDoor.Mu Go.Proofs.YtgdpnmikcopkmaaDoor.Pu Go.Proofs.YtgdpnmikcopkmaaDoorW.PrintWords Go.Proofs.YtgdpnmikcopkmaaDoorW.PrintLast Go.Proofs.YtgdpnmikcopkmaaDoorW.PrintMore
set_option linter.unusedVariables false
set_option linter.unusedSimpArgs false
def strLen : Value → Nat
 | .string s => s.size
 | _ => 0
theorem feedN_end (s : Sc) (r : ByteArray) (h : r.size = 0) : Sc.feedN r.size s r = (s,r) := by rw [h];rfl
theorem feedN_hold (s : Sc) (r : ByteArray) (h0 : 0 < r.size) (h : (s.step r).2 = 0) : Sc.feedN r.size s r = ((s.step r).1,r) := by
 obtain ⟨k,hk⟩ : ∃ k,r.size = k + 1 := ⟨r.size - 1,by omega⟩
 rw [hk]
 unfold Sc.feedN
 rw [if_neg (by omega),if_pos h]
theorem feedN_go (s : Sc) (r : ByteArray) (h0 : 0 < r.size) (h : (s.step r).2 ≠ 0) : Sc.feedN r.size s r = Sc.feedN (r.extract (s.step r).2 r.size).size (s.step r).1 (r.extract (s.step r).2 r.size) := by
 obtain ⟨k,hk⟩ : ∃ k,r.size = k + 1 := ⟨r.size - 1,by omega⟩
 have hl := step_le s r h0
 conv => lhs;rw [hk];unfold Sc.feedN
 rw [if_neg (by omega),if_neg h]
 have hz := size_extract r (s.step r).2 r.size (Nat.le_refl _)
 refine feedN_fuel _ _ _ _ (by omega) (Nat.le_refl _)
/-- What a screen keeps while bytes come. -/
structure FeedAt (base p : Nat) (ok : Nat → Prop) (W w : World) (s : Sc) (hd : ByteArray) (N : Nat) : Prop where
 st : Stp base p ok W w s hd
 ok_ : s.Ok
 tb : s.TB N
set_option maxRecDepth 100000 in
set_option maxHeartbeats 8000000 in
theorem sc_feed {base p : Nat} {ok : Nat → Prop} {W : World} {s : Sc} {hd : ByteArray} (h : ScrAt base p ok W s hd) (hr : Room base ok W) (hO : s.Ok) (hT : Lib.Utf8Tabs 0 1 W) (h2 : 2 ≤ base) (b : ByteArray) (hz : hd.size + b.size ≤ 549755813888) (N : Nat) (hTB : s.TB N) (hN4 : 4 ≤ N) (hN : N ≤ 549755813888) :
  Calls Tryd.prog 16 #[.pointer (some ⟨p,0,none⟩),.string b] W fun e w' => e = .returned (.tuple #[]) ∧ Stp base p ok W w' (feedS (s,hd) b).1 (feedS (s,hd) b).2 := by
 have hcat := eq_false (show ¬ 9223372036854775807 < hd.size + b.size by omega)
 have hall : (hd ++ b).size ≤ 549755813888 := by rw [ByteArray.size_append];exact hz
 go_enter Tryd.func16,Tryd.ntmps16
 go_upto_block 0 with (go_at_call 42;refine (sc_ready h hr.bs).mono ?_;rintro e w1 ⟨rfl,hs1⟩;rw [rdy_ok hO] at hs1;obtain ⟨rv,⟨_,_,_,_,_,_,_,_,_,c9⟩,_⟩ := hs1.at_.cells)
 have hF : feedS (s,hd) b = Sc.feedN (hd ++ b).size s (hd ++ b) := rfl
 clear c9
 generalize hA : hd ++ b = A at hall hF ⊢
 clear hA hcat
 have hFH := Lib.hid hF
 clear hF
 go_cut [4] from 5 to 24 (fun v w2 => v = .string (Sc.feedN A.size s A).2 ∧ Stp base p ok W w2 (Sc.feedN A.size s A).1 hd)
 case first =>
  go_wp2_with (fail)
  go_loopw [4] (fun v wr => ∃ (t : Sc) (r : ByteArray) (M : Nat),v = .string r ∧ FeedAt base p ok W wr t hd M ∧ 4 ≤ M ∧ M + r.size ≤ 1099511627776 ∧ Hid (Sc.feedN A.size s A = Sc.feedN r.size t r))
   (fun v _ => strLen v)
  case atStart => exact ⟨s,A,N,rfl,⟨hs1,hO,hTB⟩,hN4,by omega,Lib.hid rfl⟩
  case round =>
   obtain ⟨t,r,M,rfl,hFA,hM4,hMz,hJ⟩ := hrel
   clear hs1
   by_cases he : r.size = 0
   ·have hJ2 := Lib.hid (hJ.out.trans (feedN_end t r he))
    have hle : r.toList = [] := by
     rw [Lib.toList_data]
     exact List.eq_nil_of_length_eq_zero (by rw [← Lib.size_eq];exact he)
    have hst := hFA.st
    clear hJ he
    go_wp2
    go_meet
    case rel => exact ⟨by rw [hJ2.out],by rw [hJ2.out];exact hst⟩
   ·have hpos : 0 < r.size := by omega
    have hne : r.toList ≠ [] := fun hq => he (by rw [Lib.size_eq,← Lib.toList_data,hq];rfl)
    have hnb : r.toList.isEmpty = false := by
     cases hq : r.toList with
     | nil => exact absurd hq hne
     | cons a l => rfl
    have hstep := step_le t r hpos
    have hok2 := hFA.ok_.step r
    have htb2 := hFA.tb.step hM4 r hpos
    have hTr := tabs_base hT hFA.st.below h2
    have hrm := hFA.st.room hr
    by_cases hz0 : (t.step r).2 = 0
    ·have hJ2 := Lib.hid (hJ.out.trans (feedN_hold t r hpos hz0))
     clear hJ
     go_wp2_with (go_at_call 43;refine (sc_step hFA.st.at_ hrm hFA.ok_ hTr h2 r hpos (by omega) M hFA.tb (by omega)).mono ?_;rintro e w3 ⟨rfl,hs3⟩)
     go_meet
     case rel => exact ⟨by rw [hJ2.out],by rw [hJ2.out];exact hFA.st.then_ hs3⟩
    ·have hJ2 := Lib.hid (hJ.out.trans (feedN_go t r hpos hz0))
     have hnz : (((t.step r).2 : Nat) : Int) ≠ 0 := by omega
     have hzb : ((((t.step r).2 : Nat) : Int) == 0) = false := by simp;omega
     have hle1 := eq_true (show 0 ≤ (((t.step r).2 : Nat) : Int) by omega)
     have hle2 := eq_true (show (((t.step r).2 : Nat) : Int) ≤ (r.size : Int) by omega)
     have hsz := size_extract r (t.step r).2 r.size (Nat.le_refl _)
     have hszH := Lib.hid hsz
     clear hJ hsz
     have hgoal : ∀ w3,Stp base p ok wr w3 (t.step r).1 hd → FeedAt base p ok W w3 (t.step r).1 hd (M + (t.step r).2) := fun w3 h3 => ⟨hFA.st.then_ h3,hok2,htb2⟩
     have hcall := sc_step hFA.st.at_ hrm hFA.ok_ hTr h2 r hpos (by omega) M hFA.tb (by omega)
     generalize (t.step r).1 = t2 at *
     generalize (t.step r).2 = n at *
     go_wp2_with (go_at_call 43;refine hcall.mono ?_;rintro e w3 ⟨rfl,hs3⟩)
     go_roundw
     case rel => exact ⟨t2,r.extract n r.size,M + n,rfl,hgoal _ hs3,by omega,by rw [hszH.out];omega,hJ2⟩
     case measure => dsimp only [strLen];rw [hszH.out];omega
 case rest =>
  obtain ⟨rfl,hs2⟩ := hcut
  clear hs1
  obtain ⟨rv,⟨_,_,_,_,_,_,_,_,_,c9⟩,_⟩ := hs2.at_.cells
  have g9 := hs2.at_.frozen 9
  have hs3 := hs2.put (hd' := (Sc.feedN A.size s A).2) (s' := (Sc.feedN A.size s A).1) 9 (.string (Sc.feedN A.size s A).2) rfl (fun _ => rfl)
  rw [← hFH.out] at *
  go_wp2
  refine bodyPost_end (results_none rfl _ _ _) rfl ?_
  exact ⟨rfl,hs3⟩
end Go.Proofs.YtgdpnmikcopkmaaDoor.U
end
section
namespace Go.Proofs.YtgdpnmikcopkmaaDoor.U
open Go.RowKit Go.Proofs.YtgdpnmikcopkmaaDoor.Pu Go.Proofs.YtgdpnmikcopkmaaDoorW.PrintWords Go.Proofs.YtgdpnmikcopkmaaDoorW.PrintLast Go.Proofs.YtgdpnmikcopkmaaDoorW.PrintMore
set_option linter.unusedVariables false
set_option linter.unusedSimpArgs false
theorem put4 {w : World} {b t : Nat} {a0 a1 a2 a3 b0 b1 b2 b3 : Value} (h : w.heap[b]? = some (.cells #[a0,a1,a2,a3] t (0,0))) : ((((w.setCell ⟨b,0,none⟩ b0).setCell ⟨b,1,none⟩ b1).setCell ⟨b,2,none⟩ b2).setCell ⟨b,3,none⟩ b3).heap[b]? = some (.cells #[b0,b1,b2,b3] t (0,0)) :=
 blk_put (cs := #[b0,b1,b2,a3]) (blk_put (cs := #[b0,b1,a2,a3]) (blk_put (cs := #[b0,a1,a2,a3]) (blk_put (cs := #[a0,a1,a2,a3]) h 0 _ rfl) 1 _ rfl) 2 _ rfl) 3 _ rfl
theorem far4 {w : World} {b q : Nat} {o : Obj} (hn : b ≠ q) (h : w.heap[b]? = some o) (b0 b1 b2 b3 : Value) : ((((w.setCell ⟨q,0,none⟩ b0).setCell ⟨q,1,none⟩ b1).setCell ⟨q,2,none⟩ b2).setCell ⟨q,3,none⟩ b3).heap[b]? = some o :=
 (Below.heap_setCell _ ⟨q,3,none⟩ b3 b hn).trans ((Below.heap_setCell _ ⟨q,2,none⟩ b2 b hn).trans ((Below.heap_setCell _ ⟨q,1,none⟩ b1 b hn).trans ((Below.heap_setCell _ ⟨q,0,none⟩ b0 b hn).trans h)))
/-- A cell that is none of the screen's,and new,is written. -/
theorem Stp.far {base p : Nat} {ok : Nat → Prop} {W w : World} {s : Sc} {hd : ByteArray} (h : Stp base p (fun k => ok k ∧ k < W.heap.size) W w s hd) {q : Nat} (hq : W.heap.size ≤ q) (hqp : q ≠ p) (j : Nat) (v : Value) (hb : base ≤ W.heap.size) : Stp base p (fun k => ok k ∧ k < W.heap.size) W (w.setCell ⟨q,j,none⟩ v) s hd := by
 obtain ⟨⟨⟨rv,h1,h2⟩,h3,h4⟩,h5,h6⟩ := h
 exact ⟨⟨⟨rv,(Below.heap_setCell w ⟨q,j,none⟩ v p (Ne.symm hqp)).trans h1,Kd.S_far (p := ⟨q,j,none⟩) h2 (fun k hk (he : k = q) => by have := hk.2;omega) v⟩,h3,h4⟩,h5.setCell (p := ⟨q,j,none⟩) (Nat.le_trans hb hq) v,h6.setCell (p := ⟨q,j,none⟩) (.inr hq) v⟩
theorem Stp.far4 {base p : Nat} {ok : Nat → Prop} {W w : World} {s : Sc} {hd : ByteArray} (h : Stp base p (fun k => ok k ∧ k < W.heap.size) W w s hd) {q : Nat} (hq : W.heap.size ≤ q) (hqp : q ≠ p) (hb : base ≤ W.heap.size) (b0 b1 b2 b3 : Value) : Stp base p (fun k => ok k ∧ k < W.heap.size) W ((((w.setCell ⟨q,0,none⟩ b0).setCell ⟨q,1,none⟩ b1).setCell ⟨q,2,none⟩ b2).setCell ⟨q,3,none⟩ b3) s hd :=
 (((h.far hq hqp 0 b0 hb).far hq hqp 1 b1 hb).far hq hqp 2 b2 hb).far hq hqp 3 b3 hb
/-- The first n rows,trimmed. -/
def frameL (rows : List (List Cl)) (n : Nat) : List (List Cl) := (List.range n).map fun i => trimR (rows.getD i [])
theorem frameL_len (rows : List (List Cl)) (n : Nat) : (frameL rows n).length = n := by unfold frameL;simp
theorem frameL_snoc (rows : List (List Cl)) (n : Nat) : frameL rows n ++ [trimR (rows.getD n [])] = frameL rows (n + 1) := by unfold frameL;rw [List.range_succ,List.map_append];rfl
def _root_.Go.Proofs.YtgdpnmikcopkmaaDoor.Pu.Sc.frameN (s : Sc) (n : Int) : Nat := (min (max n 1) s.h).toNat
def fr3.T : Bool × List (List Nat × List Nat) := (true,[([],[]),([0],[0]),([1],[1]),([2],[2]),([],[]),([4],[4]),([5],[5]),([6],[6]),([3,7],[3,7]),([],[]),([9,8,0,1,2,3,4,5,6,7,8,9],[8,9])])
def fr3.B : List Nat := [0,1,3,7,0,16,48,112,255,0,1023]
theorem fr3.tab : rtab .any (opsOf Tryd.f20 3) = fr3.T := by kernel_rfl
theorem fr3.bits : waitsOk fr3.T.2 fr3.B = true := by kernel_rfl
def fr7.T : Bool × List (List Nat × List Nat) := (true,[([],[]),([0],[0]),([],[]),([],[]),([2,3],[2,3]),([4,4],[4]),([5],[5]),([1,6,5],[1,6]),([0,1,2,3,4,5,6,7],[]),([8,7,7,0,1,2,3,4,5,6,7],[7,8])])
def fr7.B : List Nat := [0,1,0,0,12,28,60,127,255,511]
theorem fr7.tab : rtab .any (opsOf Tryd.f20 7) = fr7.T := by kernel_rfl
theorem fr7.bits : waitsOk fr7.T.2 fr7.B = true := by kernel_rfl
set_option maxRecDepth 100000 in
set_option maxHeartbeats 8000000 in
theorem sc_frame {base p : Nat} {ok : Nat → Prop} {W : World} {s : Sc} {hd : ByteArray} (h : ScrAt base p ok W s hd) (hb : base ≤ W.heap.size) (hO : s.Ok) (n : Int) :
  Calls Tryd.prog 20 #[.pointer (some ⟨p,0,none⟩),.int .i64 n] W fun e w' => ∃ rv,e = .returned (.agg #[.int .i64 s.w,rv,.int .i64 s.r,.int .i64 s.c]) ∧ Kd.S kRow 36 w' W.heap.size (fun k => W.heap.size ≤ k) rv (frameL s.rows (s.frameN n)) ∧ Stp base p (fun k => ok k ∧ k < W.heap.size) W w' s hd := by
 have o1 := hO.h1
 have o2 := hO.w2
 have o4 := hO.h2
 have o5 := hO.rl
 have hcl : ∀ row ∈ s.rows,row.length ≤ 65535 := fun row hq => Nat.le_trans (hO.cl row hq) o2
 have hpl := h.lt
 have h' := h.bound
 go_enter Tryd.func20,Tryd.ntmps20
 have hs0 := (Stp.start h').more (below_alloc (Below.refl _ W) (.cells #[.int .i64 0,.slice none 0 0,.int .i64 0,.int .i64 0] 26 (0,0))) hb
 have hz0 := World.alloc_heap_new W (.cells #[.int .i64 0,.slice none 0 0,.int .i64 0,.int .i64 0] 26 (0,0))
 go_upto_region 1 with (fail)
 generalize W.alloc (.cells #[.int .i64 0,.slice none 0 0,.int .i64 0,.int .i64 0] 26 (0,0)) = w0 at hs0 hz0 ⊢
 have hz0l := blk_lt hz0
 have hb0 : base ≤ w0.heap.size := by omega
 go_upto_region 3 with (go_at_call 42;refine (sc_ready hs0.at_ hb0).mono ?_;rintro e w1 ⟨rfl,hs1⟩;rw [rdy_ok hO] at hs1;have hz1 := hs1.keeps hz0 (fun hk => Nat.lt_irrefl _ hk.2) (by omega);have hs1 := hs0.then_ hs1;obtain ⟨rv,⟨c0,c1,c2,c3,c4,_⟩,_⟩ := hs1.at_.cells)
 clear hs0 hz0
 have hb1 : base ≤ w1.heap.size := hs1.bs hb
 refine start_ (n := 11) (S := fun w' => w'.cell? ⟨p,0,none⟩ = some (.int .i64 s.w) ∧ w'.cell? ⟨p,3,none⟩ = some (.int .i64 s.r) ∧ w'.cell? ⟨p,4,none⟩ = some (.int .i64 s.c)) (ds := [10]) #[false,false,false,false,false,false,false,false,false,false,false] (by kernel_rfl) rfl rfl ⟨c0,c3,c4⟩ (fun hHeld => ?_);refine with_tabW fr3.tab fr3.bits (fun HT_ HW_ => ?_)
 have hs2 := hs1.more (below_drew (Below.refl _ _)) hb
 have hz2 : w1.drew.heap[W.heap.size]? = _ := hz1
 generalize w1.drew = w2 at hs2 hz2 hHeld ⊢
 clear hs1 hz1 c0 c1 c2 c3 c4
 refine pure_ (i := 0) (N := (some 11)) (v := ?_) (a' := ?_) #[true,false,false,false,false,false,false,false,false,false,false] rfl rfl (any_of HT_.out (by kernel_rfl)) (fun _ _ _ h => h) (Or.inl ⟨by rfl,?_⟩) ?_ ?_
 rotate_left
 ·intro w'
  go_simp
  with_reducible rfl
 rotate_left
 ·simp only [Act.put,List.setIfInBounds_toArray,List.set_cons_zero,List.set_cons_succ,i64_w,i32_w]
  rfl
 refine pure_ (i := 1) (N := (some 12)) (v := ?_) (a' := ?_) #[true,true,false,false,false,false,false,false,false,false,false] rfl rfl (any_of HT_.out (by kernel_rfl)) (fun _ _ _ h => h) (Or.inl ⟨by rfl,?_⟩) ?_ ?_
 rotate_left
 ·intro w'
  go_simp
  with_reducible rfl
 rotate_left
 ·simp only [Act.put,List.setIfInBounds_toArray,List.set_cons_zero,List.set_cons_succ,i64_w,i32_w]
  rfl
 refine pure_ (i := 2) (N := (some 13)) (v := ?_) (a' := ?_) #[true,true,true,false,false,false,false,false,false,false,false] rfl rfl (any_of HT_.out (by kernel_rfl)) (fun _ _ _ h => h) (Or.inl ⟨by rfl,?_⟩) ?_ ?_
 rotate_left
 ·intro w'
  go_simp
  with_reducible rfl
 rotate_left
 ·simp only [Act.put,List.setIfInBounds_toArray,List.set_cons_zero,List.set_cons_succ,i64_w,i32_w]
  rfl
 refine take_ (i := 3) (N := (some 14)) (v := ?_) (a' := ?_) #[true,true,true,true,false,false,false,false,false,false,false] rfl rfl (take_ofW HT_.out HW_.out (by kernel_rfl)) (fun _ _ _ h => h) (Or.inl ⟨by rfl,?_⟩) hHeld ?_ ?_
 rotate_left
 ·rintro w' ⟨s1,s2,s3⟩
  go_simp
  with_reducible rfl
 rotate_left
 ·simp only [Act.put,List.setIfInBounds_toArray,List.set_cons_zero,List.set_cons_succ,i64_w,i32_w]
  rfl
 refine pure_ (i := 4) (N := (some 15)) (v := ?_) (a' := ?_) #[true,true,true,true,true,false,false,false,false,false,false] rfl rfl (any_of HT_.out (by kernel_rfl)) (fun _ _ _ h => h) (Or.inl ⟨by rfl,?_⟩) ?_ ?_
 rotate_left
 ·intro w'
  go_simp
  with_reducible rfl
 rotate_left
 ·simp only [Act.put,List.setIfInBounds_toArray,List.set_cons_zero,List.set_cons_succ,i64_w,i32_w]
  rfl
 refine pure_ (i := 5) (N := (some 16)) (v := ?_) (a' := ?_) #[true,true,true,true,true,true,false,false,false,false,false] rfl rfl (any_of HT_.out (by kernel_rfl)) (fun _ _ _ h => h) (Or.inl ⟨by rfl,?_⟩) ?_ ?_
 rotate_left
 ·intro w'
  go_simp
  with_reducible rfl
 rotate_left
 ·simp only [Act.put,List.setIfInBounds_toArray,List.set_cons_zero,List.set_cons_succ,i64_w,i32_w]
  rfl
 refine pure_ (i := 6) (N := (some 17)) (v := ?_) (a' := ?_) #[true,true,true,true,true,true,true,false,false,false,false] rfl rfl (any_of HT_.out (by kernel_rfl)) (fun _ _ _ h => h) (Or.inl ⟨by rfl,?_⟩) ?_ ?_
 rotate_left
 ·intro w'
  go_simp
  with_reducible rfl
 rotate_left
 ·simp only [Act.put,List.setIfInBounds_toArray,List.set_cons_zero,List.set_cons_succ,i64_w,i32_w]
  rfl
 refine take_ (i := 7) (N := (some 18)) (v := ?_) (a' := ?_) #[true,true,true,true,true,true,true,true,false,false,false] rfl rfl (take_ofW HT_.out HW_.out (by kernel_rfl)) (fun _ _ _ h => h) (Or.inl ⟨by rfl,?_⟩) hHeld ?_ ?_
 rotate_left
 ·rintro w' ⟨s1,s2,s3⟩
  go_simp
  with_reducible rfl
 rotate_left
 ·simp only [Act.put,List.setIfInBounds_toArray,List.set_cons_zero,List.set_cons_succ,i64_w,i32_w]
  rfl
 refine pure_ (i := 8) (N := (some 19)) (v := ?_) (a' := ?_) #[true,true,true,true,true,true,true,true,true,false,false] rfl rfl (any_of HT_.out (by kernel_rfl)) (fun _ _ _ h => h) (Or.inl ⟨by rfl,?_⟩) ?_ ?_
 rotate_left
 ·intro w'
  go_simp
  with_reducible rfl
 rotate_left
 ·simp only [Act.put,List.setIfInBounds_toArray,List.set_cons_zero,List.set_cons_succ,i64_w,i32_w]
  rfl
 refine one_ (i := 9) (N := (some 5)) #[true,true,true,true,true,true,true,true,true,true,false] rfl rfl (one_of HT_.out (by kernel_rfl)) (by decide) (fun K hK => ?_)
 refine value_ (w1 := ?_) (v := ?_) (by rfl) rfl ?_ ?_
 rotate_left 2
 ·go_simp
  constructor
  ·rfl
  ·rfl
 have hal := below_alloc (Below.refl _ w2) (.cells #[.int .i64 0,.slice none 0 0,.int .i64 0,.int .i64 0] 26 (0,0))
 refine hK.out _ _ ⟨cell_below hHeld.1 hal,cell_below hHeld.2.1 hal,cell_below hHeld.2.2 hal⟩ (fun hHeld => ?_)
 clear hK K
 have hs3 := hs2.more hal hb
 have hz3 := (hal.block _ (blk_lt hz2)).trans hz2
 have hq3 := World.alloc_heap_new w2 (.cells #[.int .i64 0,.slice none 0 0,.int .i64 0,.int .i64 0] 26 (0,0))
 have hqW : W.heap.size < w2.heap.size := blk_lt hz2
 generalize hqe : w2.heap.size = q at hq3 hqW ⊢
 generalize w2.alloc (.cells #[.int .i64 0,.slice none 0 0,.int .i64 0,.int .i64 0] 26 (0,0)) = w3 at hs3 hz3 hq3 hHeld ⊢
 clear hs2 hz2 hal hqe
 refine norm_ (a' := ?_) ?_ ?_
 rotate_left
 ·show Act.put _ (some 5) _ = _
  simp only [Act.put,List.setIfInBounds_toArray,List.set_cons_zero,List.set_cons_succ,i64_w,i32_w]
  rfl
 refine last_ (i := 10) (N := none) #[true,true,true,true,true,true,true,true,true,true,true] rfl rfl (one_of HT_.out (by kernel_rfl)) (by decide) (fun K hK => ?_)
 have f0 := blk_cell hq3 0
 have f1 := blk_cell hq3 1
 have f2 := blk_cell hq3 2
 have f3 := blk_cell hq3 3
 have ff := fun j => blk_frozen hq3 j
 refine skip_ (w1 := ?_) (by rfl) rfl ?_ ?_
 rotate_left
 ·go_simp
  rfl
 refine hK.out _ _ ?_
 clear hK K
 have hq4 := put4 (b0 := .int .i64 s.w) (b1 := .slice none 0 0) (b2 := .int .i64 s.r) (b3 := .int .i64 s.c) hq3
 have hqp : q ≠ p := by omega
 have hs4 := hs3.far4 (Nat.le_of_lt hqW) hqp hb (.int .i64 s.w) (.slice none 0 0) (.int .i64 s.r) (.int .i64 s.c)
 have hz4 := far4 (b := W.heap.size) (q := q) (by omega) hz3 (.int .i64 s.w) (.slice none 0 0) (.int .i64 s.r) (.int .i64 s.c)
 generalize (((w3.setCell ⟨q,0,none⟩ (.int .i64 s.w)).setCell ⟨q,1,none⟩ (.slice none 0 0)).setCell ⟨q,2,none⟩ (.int .i64 s.r)).setCell ⟨q,3,none⟩ (.int .i64 s.c) = w4 at hs4 hz4 hq4 ⊢
 clear hs3 hz3 hq3 hHeld f0 f1 f2 f3 ff
 refine done_ (done_of HT_.out (by kernel_rfl)) ?_
 clear HT_ HW_
 have hm : min (max n 1) ((s.h : Nat) : Int) = ((s.frameN n : Nat) : Int) := by unfold Sc.frameN;omega
 have hml : s.frameN n ≤ 65535 := by unfold Sc.frameN;omega
 generalize hme : s.frameN n = m at hm hml ⊢
 have hmH := Lib.hid hme
 clear hme
 obtain ⟨rv,⟨_,d1,_⟩,_⟩ := hs4.at_.cells
 go_upto_block 0 with (fail)
 clear d1
 have hmH2 := Lib.hid hm
 clear hm
 go_cut [6] from 10 to 40 (fun v6 w5 => ∃ fv,Stp base p (fun k => ok k ∧ k < W.heap.size) W w5 s hd ∧ w5.heap[W.heap.size]? = some (.cells #[.int .i64 0,.slice none 0 0,.int .i64 0,.int .i64 0] 26 (0,0)) ∧ w5.heap[q]? = some (.cells #[.int .i64 s.w,fv,.int .i64 s.r,.int .i64 s.c] 26 (0,0)) ∧ Kd.S kRow 36 w5 W.heap.size (fun k => q < k) fv (frameL s.rows m))
 case first =>
  go_wp2_with (fail)
  go_loopw [27] (fun v wr => ∃ (i : Nat) (fv : Value),v = .int .i64 i ∧ i ≤ m ∧ Stp base p (fun k => ok k ∧ k < W.heap.size) W wr s hd ∧ wr.heap[W.heap.size]? = some (.cells #[.int .i64 0,.slice none 0 0,.int .i64 0,.int .i64 0] 26 (0,0)) ∧ wr.heap[q]? = some (.cells #[.int .i64 s.w,fv,.int .i64 s.r,.int .i64 s.c] 26 (0,0)) ∧ Kd.S kRow 36 wr W.heap.size (fun k => q < k) fv (frameL s.rows i))
   (fun v _ => m - (intOf v).toNat)
  case atStart => exact ⟨0,_,rfl,Nat.zero_le _,hs4,hz4,hq4,Kd.S_nil _ _ _ _ _⟩
  case round =>
   obtain ⟨i,fv,rfl,hi,hsr,hzr,hqr,hSr⟩ := hrel
   clear hs4 hz4 hq4
   by_cases hlt : i < m
   ·have hlt' : (i : Int) < (m : Int) := by omega
    have e1 := blk_cell hqr 1
    have hcall := sc_row hsr.at_ i (by omega) hcl (ii := (i : Int)) rfl
    have hsn := frameL_snoc s.rows i
    have hTl : (trimR (s.rows.getD i [])).length ≤ 65535 := by
     rw [trimR_len]
     refine Nat.le_trans (trimN_le _ _) ?_
     rw [List.getD_eq_getElem?_getD]
     cases hq : s.rows[i]? with
     | none => exact Nat.zero_le _
     | some r => exact hcl r (List.mem_of_getElem? hq)
    generalize hTR : trimR (s.rows.getD i []) = TR at hcall hsn hTl
    have hTRe := Lib.hid hTR
    clear hTR hcall
    have hfl := frameL_len s.rows i
    generalize frameL s.rows i = FL at hSr hsn hfl
    have hfl2 : FL.length ≤ 65535 := by omega
    clear hfl
    go_upto_region 7 with (fail)
    refine start_ (n := 10) (S := fun w' => w'.cell? ⟨q,1,none⟩ = some fv) (ds := [9]) #[false,false,false,false,false,false,false,false,false,false] (by kernel_rfl) rfl rfl e1 (fun hHeld => ?_);refine with_tabW fr7.tab fr7.bits (fun HT_ HW_ => ?_)
    have hsr2 := hsr.more (below_drew (Below.refl _ _)) hb
    have hzr2 : wr.drew.heap[W.heap.size]? = _ := hzr
    have hqr2 : wr.drew.heap[q]? = _ := hqr
    have hSr2 := Kd.S_drew hSr
    have hcall2 := sc_row hsr2.at_ i (by omega) hcl (ii := (i : Int)) rfl
    rw [hTRe.out] at hcall2
    generalize wr.drew = wq at hsr2 hzr2 hqr2 hSr2 hHeld hcall2 ⊢
    clear hsr hzr hqr hSr e1
    refine pure_ (i := 0) (N := (some 30)) (v := ?_) (a' := ?_) #[true,false,false,false,false,false,false,false,false,false] rfl rfl (any_of HT_.out (by kernel_rfl)) (fun _ _ _ h => h) (Or.inl ⟨by rfl,?_⟩) ?_ ?_
    rotate_left
    ·intro w'
     go_simp
     with_reducible rfl
    rotate_left
    ·simp only [Act.put,List.setIfInBounds_toArray,List.set_cons_zero,List.set_cons_succ,i64_w,i32_w]
     rfl
    refine take_ (i := 1) (N := (some 31)) (v := ?_) (a' := ?_) #[true,true,false,false,false,false,false,false,false,false] rfl rfl (take_ofW HT_.out HW_.out (by kernel_rfl)) (fun _ _ _ h => h) (Or.inl ⟨by rfl,?_⟩) hHeld ?_ ?_
    rotate_left
    ·rintro w' s1
     go_simp
     with_reducible rfl
    rotate_left
    ·simp only [Act.put,List.setIfInBounds_toArray,List.set_cons_zero,List.set_cons_succ,i64_w,i32_w]
     rfl
    refine pure_ (i := 2) (N := (some 32)) (v := ?_) (a' := ?_) #[true,true,true,false,false,false,false,false,false,false] rfl rfl (any_of HT_.out (by kernel_rfl)) (fun _ _ _ h => h) (Or.inl ⟨by rfl,?_⟩) ?_ ?_
    rotate_left
    ·intro w'
     go_simp
     with_reducible rfl
    rotate_left
    ·simp only [Act.put,List.setIfInBounds_toArray,List.set_cons_zero,List.set_cons_succ,i64_w,i32_w]
     rfl
    refine pure_ (i := 3) (N := (some 33)) (v := ?_) (a' := ?_) #[true,true,true,true,false,false,false,false,false,false] rfl rfl (any_of HT_.out (by kernel_rfl)) (fun _ _ _ h => h) (Or.inl ⟨by rfl,?_⟩) ?_ ?_
    rotate_left
    ·intro w'
     go_simp
     with_reducible rfl
    rotate_left
    ·simp only [Act.put,List.setIfInBounds_toArray,List.set_cons_zero,List.set_cons_succ,i64_w,i32_w]
     rfl
    refine one_ (i := 4) (N := (some 34)) #[true,true,true,true,true,false,false,false,false,false] rfl rfl (one_of HT_.out (by kernel_rfl)) (by decide) (fun K hK => ?_)
    refine call_ 46 #[.pointer (some ⟨p,0,none⟩),.int .i64 i] (by rfl) rfl au10 ?_
    refine hcall2.mono ?_
    rintro e w6 ⟨A,c,rfl,hC6,hAc,hb6⟩
    have hsr3 := hsr2.more hb6 hb
    have hzr3 := (hb6.block _ (blk_lt hzr2)).trans hzr2
    have hqr3 := (hb6.block _ (blk_lt hqr2)).trans hqr2
    have hSr3 := Kd.S_below hSr2 hb6
    refine ⟨_,rfl,hK.out _ _ (cell_below hHeld hb6) (fun hHeld => ?_)⟩
    clear hK K hsr2 hzr2 hqr2 hSr2 hb6 hcall2
    refine norm_ (a' := ?_) ?_ ?_
    rotate_left
    ·show Act.put _ (some 34) _ = _
     simp only [Act.put,List.setIfInBounds_toArray,List.set_cons_zero,List.set_cons_succ,i64_w,i32_w]
     rfl
    refine one_ (i := 5) (N := (some 35)) #[true,true,true,true,true,true,false,false,false,false] rfl rfl (one_of HT_.out (by kernel_rfl)) (by decide) (fun K hK => ?_)
    refine call_ 49 #[.slice A TR.length c] (by rfl) rfl au10 ?_
    refine (clone_any A TR.length c TR _ hC6 (by omega)).mono ?_
    rintro e w7 ⟨v7,rfl,hR7,hb7⟩
    have hsr4 := hsr3.more hb7 hb
    have hzr4 := (hb7.block _ (blk_lt hzr3)).trans hzr3
    have hqr4 := (hb7.block _ (blk_lt hqr3)).trans hqr3
    have hSr4 := Kd.S_old hSr3 hb7
    have hq6 := blk_lt hqr3
    have hW7 := hsr4.size
    refine ⟨_,rfl,hK.out _ _ (cell_below hHeld hb7) (fun hHeld => ?_)⟩
    have hSr3x := hSr3
    clear hK K hsr3 hzr3 hqr3 hSr3
    obtain ⟨A7,c7,rfl⟩ := Kd.R_slice hR7
    refine norm_ (a' := ?_) ?_ ?_
    rotate_left
    ·show Act.put _ (some 35) _ = _
     simp only [Act.put,List.setIfInBounds_toArray,List.set_cons_zero,List.set_cons_succ,i64_w,i32_w]
     rfl
    refine one_ (i := 6) (N := (some 36)) #[true,true,true,true,true,true,true,false,false,false] rfl rfl (one_of HT_.out (by kernel_rfl)) (by decide) (fun K hK => ?_)
    refine value_ (w1 := ?_) (v := ?_) (by rfl) rfl ?_ ?_
    rotate_left 2
    ·go_simp
     constructor
     ·rfl
     ·rfl
    refine hK.out _ _ (cell_below hHeld (below_alloc (Below.refl _ _) _)) (fun hHeld => ?_)
    clear hK K
    refine norm_ (a' := ?_) ?_ ?_
    rotate_left
    ·show Act.put _ (some 36) _ = _
     simp only [Act.put,List.setIfInBounds_toArray,List.set_cons_zero,List.set_cons_succ,i64_w,i32_w]
     rfl
    refine one_ (i := 7) (N := (some 37)) #[true,true,true,true,true,true,true,true,false,false] rfl rfl (one_of HT_.out (by kernel_rfl)) (by decide) (fun K hK => ?_)
    refine Kd.S_append_step kRow (w0 := w7) W.heap.size (by rfl) (.tmp 31) (.tmp 36) 22 36 (.slice none 0 0) 24 rfl Tryd.underlying22 info36 rfl (by decide) (by decide) fv FL TR [.slice A7 TR.length c7] (fun k => q < k) (fun k => w6.heap.size ≤ k) rfl rfl (Kd.M_row (Kd.R_lower (Kd.R_mono (Kd.R_bound hR7) (fun k hk => hk.2.1)) (by omega))) (fun k hk => ⟨by omega,fun he => by have := Kd.S_lt hSr3x k he.symm;omega⟩) (fun k hk => by have := blk_lt hqr4;omega) (Kd.S_mono hSr4 (fun k hk => ⟨hk.1,by have := hk.2;omega⟩)) (Below.refl _ _) hW7 (by omega) ?_
    intro v8 w8 hS8 hB8 hg8 hat8
    rw [hsn] at hS8
    obtain ⟨A8,c8,hv8⟩ := Kd.R_slice (Kd.S_R hS8)
    generalize (frameL s.rows (i + 1)).length = N8 at hv8
    subst hv8
    have hown : ∀ k,fv.ownBlock = some k → q < k := fun k hk => (Kd.S.own_ok hSr4 k hk).1
    have hsr5 := hsr4.other hg8 (fun k hk => ⟨by have := hown k hk;omega,fun hq => by have := hown k hk;have := hq.2;omega,fun he => by have := hown k hk;omega⟩) hb
    have hzr5 := blk_grown hzr4 hg8 (fun he => by have := hown _ he.symm;omega)
    have hqr5 := blk_grown hqr4 hg8 (fun he => by have := hown _ he.symm;omega)
    refine hK.out _ _ (blk_cell hqr5 1) (fun hHeld => ?_)
    clear hK K hsr4 hzr4 hqr4 hSr4 hb7 hR7 hC6 hSr3x
    refine norm_ (a' := ?_) ?_ ?_
    rotate_left
    ·show Act.put _ (some 37) _ = _
     simp only [Act.put,List.setIfInBounds_toArray,List.set_cons_zero,List.set_cons_succ,i64_w,i32_w]
     rfl
    refine pure_ (i := 8) (N := (some 38)) (v := ?_) (a' := ?_) #[true,true,true,true,true,true,true,true,true,false] rfl rfl (any_of HT_.out (by kernel_rfl)) (fun _ _ _ h => h) (Or.inl ⟨by rfl,?_⟩) ?_ ?_
    rotate_left
    ·intro w'
     go_simp
     with_reducible rfl
    rotate_left
    ·simp only [Act.put,List.setIfInBounds_toArray,List.set_cons_zero,List.set_cons_succ,i64_w,i32_w]
     rfl
    refine last_ (i := 9) (N := none) #[true,true,true,true,true,true,true,true,true,true] rfl rfl (one_of HT_.out (by kernel_rfl)) (by decide) (fun K hK => ?_)
    have f1 := blk_frozen hqr5 1
    refine skip_ (w1 := ?_) (by rfl) rfl ?_ ?_
    rotate_left
    ·go_simp
     rfl
    refine hK.out _ _ ?_
    clear hK K
    have hsr6 := hsr5.far (Nat.le_of_lt hqW) hqp 1 (.slice A8 N8 c8) hb
    have hzr6 := (Below.heap_setCell w8 ⟨q,1,none⟩ (.slice A8 N8 c8) W.heap.size (by show W.heap.size ≠ q;omega)).trans hzr5
    have hqr6 := blk_put (cs' := #[.int .i64 s.w,.slice A8 N8 c8,.int .i64 s.r,.int .i64 s.c]) hqr5 1 (.slice A8 N8 c8) rfl
    have hSr6 := Kd.S_far (p := ⟨q,1,none⟩) hS8 (fun k hk (he : k = q) => by omega) (.slice A8 N8 c8)
    generalize w8.setCell ⟨q,1,none⟩ (.slice A8 N8 c8) = w9 at hsr6 hzr6 hqr6 hSr6 ⊢
    clear hsr5 hzr5 hqr5 hS8 hHeld f1
    refine done_ (done_of HT_.out (by kernel_rfl)) ?_
    clear HT_ HW_
    go_wp2
    go_roundw
    case rel => exact ⟨i + 1,_,by go_num,by omega,hsr6,hzr6,hqr6,hSr6⟩
    case measure => simp [intOf];omega
   ·have hlt' := eq_false (show ¬ (i : Int) < (m : Int) by omega)
    have hie := Lib.hid (show i = m by omega)
    go_wp2
    go_meet
    case rel => rw [hie.out] at hSr;exact ⟨fv,hsr,hzr,hqr,hSr⟩
 case rest =>
  obtain ⟨fv,hs5,hz5,hq5,hS5⟩ := hcut
  obtain ⟨Af,cf,hfv⟩ := Kd.R_slice (Kd.S_R hS5)
  generalize (frameL s.rows m).length = Nf at hfv
  subst hfv
  clear hs4 hz4 hq4
  have f0 := blk_cell hq5 0
  have f1 := blk_cell hq5 1
  have f2 := blk_cell hq5 2
  have f3 := blk_cell hq5 3
  have z0 := blk_cell hz5 0
  have z1 := blk_cell hz5 1
  have z2 := blk_cell hz5 2
  have z3 := blk_cell hz5 3
  have zf := fun j => blk_frozen hz5 j
  go_wp2
  have hz6 := put4 (b0 := .int .i64 s.w) (b1 := .slice Af Nf cf) (b2 := .int .i64 s.r) (b3 := .int .i64 s.c) hz5
  have hs6 := hs5.far4 (Nat.le_refl _) (by omega) hb (.int .i64 s.w) (.slice Af Nf cf) (.int .i64 s.r) (.int .i64 s.c)
  have hS6 : Kd.S kRow 36 ((((wc.setCell ⟨W.heap.size,0,none⟩ (.int .i64 s.w)).setCell ⟨W.heap.size,1,none⟩ (.slice Af Nf cf)).setCell ⟨W.heap.size,2,none⟩ (.int .i64 s.r)).setCell ⟨W.heap.size,3,none⟩ (.int .i64 s.c)) W.heap.size (fun k => q < k) (.slice Af Nf cf) (frameL s.rows m) :=
   Kd.S_far (p := ⟨W.heap.size,3,none⟩) (Kd.S_far (p := ⟨W.heap.size,2,none⟩) (Kd.S_far (p := ⟨W.heap.size,1,none⟩) (Kd.S_far (p := ⟨W.heap.size,0,none⟩) hS5 (fun k hk (he : k = W.heap.size) => by omega) _) (fun k hk (he : k = W.heap.size) => by omega) _) (fun k hk (he : k = W.heap.size) => by omega) _) (fun k hk (he : k = W.heap.size) => by omega) _
  refine bodyPost_ret (results_cell_row rfl _ _ W.heap.size 26 #[.int .i64 s.w,.slice Af Nf cf,.int .i64 s.r,.int .i64 s.c] (0,0) _ rfl hz6 Tryd.underlying26 rfl (by kernel_rfl)) rfl ?_
  exact ⟨_,rfl,by rw [hmH.out];exact Kd.S_mono hS6 (fun k hk => by omega),hs6⟩
end Go.Proofs.YtgdpnmikcopkmaaDoor.U
end
section
namespace Go.Proofs.YtgdpnmikcopkmaaDoor.U
open Go.RowKit Go.Proofs.YtgdpnmikcopkmaaDoor.Pu Go.Proofs.YtgdpnmikcopkmaaDoorW.PrintWords Go.Proofs.YtgdpnmikcopkmaaDoorW.PrintLast Go.Proofs.YtgdpnmikcopkmaaDoorW.PrintMore
set_option linter.unusedVariables false
set_option linter.unusedSimpArgs false
attribute [local go_sem high] cell_eq
def cellB (x y : Cl) : Bool := x.f0.toList == y.f0.toList && (x.f1 == y.f1)
/-- Are the first n cells the same? -/
def eqN (xs ys : List Cl) : Nat → Bool
 | 0 => true
 | n + 1 => eqN xs ys n && cellB (gC xs n) (gC ys n)
def eqR (xs ys : List Cl) : Bool := decide (xs.length = ys.length) && eqN xs ys xs.length
theorem eqN_false {xs ys : List Cl} {i : Nat} (h : cellB (gC xs i) (gC ys i) = false) : ∀ n,i < n → eqN xs ys n = false
 | 0,hi => by omega
 | n + 1,hi => by
  unfold eqN
  rcases Nat.lt_or_ge i n with h2 | h2
  ·rw [eqN_false h n h2];rfl
  ·have : i = n := by omega
   subst this
   rw [h,Bool.and_false]
theorem gC_rd (xs : List Cl) (i : Nat) (h : i < xs.length) : rd_T38 xs (i : Int) = gC xs i := by
 unfold rd_T38 gC
 rw [Int.toNat_natCast,List.getD_eq_getElem?_getD,List.getD_eq_getElem?_getD,List.getElem?_eq_getElem h]
 rfl
set_option maxRecDepth 100000 in
set_option maxHeartbeats 4000000 in
theorem equal_any (A B : Option Addr) (n m c d : Nat) (xs ys : List Cl) (W : World) (hC : Kd.C k38 W A n xs) (hD : Kd.C k38 W B m ys) (hl : n ≤ 1099511627776) (hc : n ≤ c) (hd : m ≤ d) :
  Calls Tryd.prog 45 #[.slice A n c,.slice B m d] W fun e w' => e = .returned (.bool (eqR xs ys)) ∧ Below W.heap.size W w' := by
 have hn : xs.length = n := hC.1
 have hm : ys.length = m := hD.1
 by_cases hnm : n = m
 ·subst hnm
  have hE : eqR xs ys = eqN xs ys n := by unfold eqR;rw [decide_eq_true (hn.trans hm.symm),hn,Bool.true_and]
  have hEH := Lib.hid hE
  have hnH := Lib.hid hn
  have hmH := Lib.hid hm
  clear hE hn hm
  go_enter Tryd.func45,Tryd.ntmps45
  go_wp2
  go_loopw [13] (fun v wr => ∃ i : Nat,v = .int .i64 i ∧ i ≤ n ∧ Hid (eqN xs ys i = true) ∧ Below W.heap.size W wr) (fun v _ => n - (intOf v).toNat)
  case atStart => exact ⟨0,rfl,Nat.zero_le _,Lib.hid rfl,Below.refl _ _⟩
  case round =>
   obtain ⟨i,rfl,hi,hJ,hB⟩ := hrel
   by_cases hlt : i < n
   ·have hlt' : (i : Int) < (n : Int) := by omega
    obtain ⟨ad,rfl,c0,c1⟩ := at_T38 (Kd.C_below hC hB) (i : Int) (by omega) hlt'
    obtain ⟨bd,rfl,d0,d1⟩ := at_T38 (Kd.C_below hD hB) (i : Int) (by omega) hlt'
    rw [gC_rd xs i (by have := hnH.out;omega)] at c0 c1
    rw [gC_rd ys i (by have := hmH.out;omega)] at d0 d1
    rw [Int.toNat_natCast] at c0 c1 d0 d1
    obtain ⟨b,hb⟩ : ∃ b,cellB (gC xs i) (gC ys i) = b := ⟨_,rfl⟩
    have hbH := Lib.hid hb
    have hb2 : ((gC xs i).f0.toList == (gC ys i).f0.toList && ((gC xs i).f1 == (gC ys i).f1)) = b := hb
    generalize gC xs i = x at c0 c1 hb2
    generalize gC ys i = y at d0 d1 hb2
    clear hb
    go_upto_region 6 with (fail)
    go_quiet (fail)
    have hB2 := hB.trans ((pw_below_drewN (Below.refl _ wr) nq).mono hB.size)
    generalize wr.drewN nq = w2 at hB2 ⊢
    cases b with
    | false =>
     have hF := Lib.hid (hEH.out.trans (eqN_false hbH.out n hlt))
     go_wp2
     first | refine bodyPost_ret (results_tmp rfl _ _ _) rfl ?_ | ((try simp only [Exit.inBlock,Exit.then]);refine bodyPost_ret (results_tmp rfl _ _ _) rfl ?_)
     exact ⟨by rw [hF.out];rfl,hB2⟩
    | true =>
     have hJ2 := Lib.hid (show eqN xs ys (i + 1) = true by unfold eqN;rw [hJ.out,hbH.out];rfl)
     go_wp2
     go_roundw
     case rel => exact ⟨i + 1,by go_num,by omega,hJ2,hB2⟩
     case measure => simp [intOf];omega
   ·have hlt' := eq_false (show ¬ (i : Int) < (n : Int) by omega)
    have hie := Lib.hid (show i = n by omega)
    go_wp2
    go_ret
    exact ⟨by rw [hEH.out,← hie.out,hJ.out];rfl,hB⟩
 ·have hE : eqR xs ys = false := by unfold eqR;rw [decide_eq_false (by omega)];rfl
  have hEH := Lib.hid hE
  have hq : ((n : Int) != (m : Int)) = true := by simp;omega
  clear hE hn hm hnm
  go_enter Tryd.func45,Tryd.ntmps45
  go_wp2
  go_ret
  exact ⟨by rw [hEH.out];rfl,Below.refl _ _⟩
end Go.Proofs.YtgdpnmikcopkmaaDoor.U
end
