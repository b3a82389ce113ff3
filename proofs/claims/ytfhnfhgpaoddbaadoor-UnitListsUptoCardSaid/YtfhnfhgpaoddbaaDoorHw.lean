/- bodkinlaw01.walked, by hand: ranges over unit.Walk, one within the other's first round. -/
import Derived.Test.YtfhnfhgpaoddbaaDoorHu
import Derived.Test.YtfhnfhgpaoddbaaDoorRg
import Derived.Sort.CutIn
namespace Go.Proofs.YtfhnfhgpaoddbaaDoor.U
open Go.RowKit Go.Shelf Go.Proofs.YtfhnfhgpaoddbaaDoor.Mu Go.Proofs.YtfhnfhgpaoddbaaDoor.Rg Go.Proofs.YtfhnfhgpaoddbaaDoorW.PrintWords Go.Proofs.YtfhnfhgpaoddbaaDoorW.PrintLast Go.Proofs.YtfhnfhgpaoddbaaDoorW.PrintMore
attribute [local go_sem] Oper.semAt_some
set_option linter.unusedVariables false
set_option linter.unusedSimpArgs false

set_option maxRecDepth 100000 in
set_option maxHeartbeats 2000000 in
/-- unit.Walk's inner function: its contract. -/
theorem walk1_seqg (n : Nat) (hn : 1 ≤ n) (w₀ w : World) (s : ByteArray) (Bs : Nat) (hs : s.size ≤ 4611686018427387904) (hT : Lib.Utf8Tabs 0 1 w₀) (hb : Below w₀.heap.size w₀ w) (hc : Boxed w Bs 9 (.string s)) :
    SeqB Fence.wide n Tryd.prog 60 #[.pointer (some ⟨Bs, 0, none⟩)] encU w₀.heap.size (fun k => k = Bs) (fun xs => Hid (xs = walkU s)) (fun pre => pre <+: walkU s) (walkU s).length w := by
  intro l J Jx W hW hJ hJx hY h0
  refine callsIn_of_wp Tryd.func60 rfl trivial ?_ rfl
  simp only [Tryd.ntmps60, List.size_toArray, List.length_cons, List.length_nil, Nat.reduceAdd, Nat.reduceSub, Array.replicate_succ, Array.replicate_zero, List.push_toArray, List.append_toArray, List.nil_append, List.cons_append]
  gi_wp2
  gi_loopw [3] (fun v wr => ∃ (i k : Nat) (pre : List (Int × S30)), v = .int .i64 i ∧ i ≤ s.size ∧ s.size ≤ i + k ∧ Hid (walkU s = pre ++ walkL s k i) ∧ J pre wr ∧ Boxed wr Bs 9 (.string s) ∧ Below w₀.heap.size w₀ wr)
    (fun v _ => s.size - (intOf v).toNat)
  case atStart =>
    exact ⟨0, s.size, [], rfl, Nat.zero_le _, by omega, Lib.hid rfl, h0, (hW.block Bs hc.lt).trans hc, hb.trans (hW.mono hb.size)⟩
  case round =>
    obtain ⟨i, k, pre, rfl, hi, hk, hx, hJs, hbx, hbl⟩ := hrel
    have hcb := hbx.cell
    by_cases hlt : i < s.size
    · have hlt' : (i : Int) < (s.size : Int) := by omega
      obtain ⟨k, rfl⟩ : ∃ k', k = k' + 1 := ⟨k - 1, by omega⟩
      obtain ⟨c, hc'⟩ : ∃ c, uC s i = c := ⟨_, rfl⟩
      obtain ⟨m, hm'⟩ : ∃ m, uN s i = m := ⟨_, rfl⟩
      have hf : Hid (unit_first.f (s.extract i s.size) = some (c, (m : Int))) := Lib.hid (by rw [first_at s i hlt, hc', hm'])
      have hx2 : Hid (walkU s = pre ++ ((i : Int), (⟨c, (m : Int)⟩ : S30)) :: walkL s k (i + m)) := Lib.hid (by
        have := hx.out; rw [walkL, if_pos hlt] at this; unfold uAt at this; rw [hc', hm'] at this; exact this)
      have hm1 : 1 ≤ m := hm' ▸ uN_pos s i
      have hm2 : i + m ≤ s.size := hm' ▸ uN_le s i hlt
      clear hx hc' hm'
      have hTw := tabs_below hT hbl
      gi_wp2_with (refine ⟨trivial, ?_⟩; gi_at_call 61; refine (callsIn_wide.2 (unit_first.calls (s.extract i s.size) c m wr hTw hf.out)).mono ?_; rintro e w1 ⟨rfl, hb1⟩; obtain ⟨fn, tmps, assign, body, hy, hR⟩ := hY pre ((i : Int), (⟨c, (m : Int)⟩ : S30)) wr (w1.alloc (.cells #[.int .i32 c, .int .i64 m] 30)) hJs (hb1.alloc hb1.size _) (by rw [hx2.out]; simp) ⟨walkL s k (i + m), by rw [hx2.out]; simp⟩)
      refine hR.mono ?_
      rintro e W3 (⟨rfl, hJ3, hk3⟩ | ⟨rfl, hJx3⟩)
      · have hu3 := hk3.2 w1.heap.size _ (.inr hb1.size) (World.alloc_heap_new w1 _) rfl
        have hbx3 : Boxed W3 Bs 9 (.string s) := hk3.2 Bs _ (.inl rfl) (((hb1.alloc hb1.size _).block Bs hbx.lt).trans hbx) rfl
        have hbl3 : Below w₀.heap.size w₀ W3 := (hbl.trans ((hb1.alloc hb1.size _).mono hbl.size)).trans hk3.1
        have hcu : W3.cell? ⟨w1.heap.size, 1, none⟩ = some (.int .i64 m) := by simp [World.cell?, hu3]
        gi_wp2
        go_roundw
        case rel => exact ⟨i + m, k, pre ++ [((i : Int), (⟨c, (m : Int)⟩ : S30))], by go_num, by omega, by omega, Lib.hid (by rw [hx2.out]; simp), hJ3, hbx3, hbl3⟩
        case measure => simp [intOf]; omega
      · gi_wp2
        refine bodyPost_ret (results_none rfl _ _ _) rfl ?_
        exact ⟨⟨_, rfl⟩, .inr ⟨_, ⟨walkL s k (i + m), by rw [hx2.out]; simp⟩, hJx3⟩⟩
    · have hge : ¬ ((i : Int) < (s.size : Int)) := by omega
      gi_wp2
      go_end0
      have hz : walkL s k i = [] := by cases k with
        | zero => rfl
        | succ k => rw [walkL, if_neg hlt]
      exact ⟨⟨_, rfl⟩, .inl ⟨pre, Lib.hid (by rw [hx.out, hz, List.append_nil]), hJs⟩⟩


/-- How far the units reach. -/
def posOf (pre : List (Int × S30)) : Int := (pre.map (fun x => x.2.f1)).foldr (· + ·) 0
theorem posOf_nil : posOf [] = 0 := rfl
theorem posOf_snoc (pre : List (Int × S30)) (x : Int × S30) : posOf (pre ++ [x]) = posOf pre + x.2.f1 := by
  unfold posOf
  induction pre with
  | nil => simp
  | cons y l ih => simp only [List.cons_append, List.map_cons, List.foldr_cons] at ih ⊢; rw [ih]; omega
theorem walkL_at (s : ByteArray) : ∀ (k i : Nat) (pre : List (Int × S30)) (x : Int × S30), i ≤ s.size → pre ++ [x] <+: walkL s k i → x.1 = i + posOf pre ∧ i + posOf pre + x.2.f1 ≤ s.size ∧ 0 ≤ posOf pre ∧ 0 ≤ x.2.f1
  | 0, i, pre, x, _, h => by rw [walkL] at h; have := h.length_le; simp at this
  | k + 1, i, pre, x, hi, h => by
    rw [walkL] at h
    split at h
    · rename_i hlt
      have hle := uN_le s i hlt
      cases pre with
      | nil =>
        obtain ⟨t, ht⟩ := h
        simp only [List.nil_append, List.cons_append] at ht
        injection ht with h1 h2
        subst h1
        refine ⟨by simp [posOf], ?_, by simp [posOf], ?_⟩
        · show (i : Int) + posOf [] + (uN s i : Int) ≤ s.size; rw [posOf_nil]; omega
        · show 0 ≤ (uN s i : Int); omega
      | cons y l =>
        rw [List.cons_append, List.cons_prefix_cons] at h
        obtain ⟨rfl, h2⟩ := h
        have ih := walkL_at s k (i + uN s i) l x hle h2
        have e : posOf (((i : Int), uAt s i) :: l) = (uN s i : Int) + posOf l := rfl
        rw [e]
        omega
    · have := h.length_le; simp at this
theorem walkU_at (s : ByteArray) (pre : List (Int × S30)) (x : Int × S30) (h : pre ++ [x] <+: walkU s) : x.1 = posOf pre ∧ posOf pre + x.2.f1 ≤ s.size ∧ 0 ≤ posOf pre ∧ 0 ≤ x.2.f1 := by
  have := walkL_at s s.size 0 pre x (Nat.zero_le _) h
  omega
theorem unitsL_at (s : ByteArray) (pre : List (Int × S30)) (x : Int × S30) (h : pre ++ [x] <+: walkU s) : rd_T30 (unitsL s) pre.length = x.2 ∧ pre.length < (unitsL s).length := by
  obtain ⟨t, ht⟩ := h
  unfold unitsL rd_T30
  rw [← ht, Int.toNat_natCast]
  simp [List.getD_eq_getElem?_getD]
theorem unitsL_len (s : ByteArray) : (unitsL s).length = (walkU s).length := by unfold unitsL; simp
/-- What the variables of walked hold. -/
structure WalkInv (w : World) (s : ByteArray) (A : Option Addr) (c n : Nat) (lim k p : Int) (W : World) : Prop where
  b0 : Boxed W w.heap.size 27 (.slice A n c)
  b1 : Boxed W (w.heap.size + 1) 3 (.int .i64 lim)
  b2 : Boxed W (w.heap.size + 2) 4 (.bool false)
  b3 : Boxed W (w.heap.size + 3) 9 (.string s)
  b4 : Boxed W (w.heap.size + 4) 33 (.func (.func 60) #[] #[.pointer (some ⟨w.heap.size + 3, 0, none⟩)])
  b5 : Boxed W (w.heap.size + 5) 3 (.int .i64 k)
  b6 : Boxed W (w.heap.size + 6) 3 (.int .i64 p)
  bel : Below w.heap.size w W
theorem boxed_grow {X Y : World} {row : Option Nat} {B : Nat} {t : TypeId} {v : Value} (h : Boxed X B t v) (hg : X.grownBy Y row) (hr : ∀ r, row = some r → ∃ o : Obj, X.heap[r]? = some o ∧ o.isCells = false) : Boxed Y B t v :=
  boxed_own B t (fun _ : Unit => v) () X Y row h hg hr
theorem boxed_below {X Y : World} {B : Nat} {t : TypeId} {v : Value} (h : Boxed X B t v) (hb : Below X.heap.size X Y) : Boxed Y B t v := (hb.block B h.lt).trans h
theorem WalkInv.grow {w : World} {s : ByteArray} {A : Option Addr} {c n : Nat} {lim k p : Int} {X Y : World} {row : Option Nat} (h : WalkInv w s A c n lim k p X) (hg : X.grownBy Y row) (hr : ∀ r, row = some r → w.heap.size ≤ r ∧ ∃ o : Obj, X.heap[r]? = some o ∧ o.isCells = false) : WalkInv w s A c n lim k p Y :=
  have hr' : ∀ r, row = some r → ∃ o : Obj, X.heap[r]? = some o ∧ o.isCells = false := fun r e => (hr r e).2
  ⟨boxed_grow h.b0 hg hr', boxed_grow h.b1 hg hr', boxed_grow h.b2 hg hr', boxed_grow h.b3 hg hr', boxed_grow h.b4 hg hr', boxed_grow h.b5 hg hr', boxed_grow h.b6 hg hr', h.bel.grown hg h.bel.size (fun k e => (hr k e).1)⟩
theorem WalkInv.below {w : World} {s : ByteArray} {A : Option Addr} {c n : Nat} {lim k p : Int} {X Y : World} (h : WalkInv w s A c n lim k p X) (hb : Below X.heap.size X Y) : WalkInv w s A c n lim k p Y :=
  ⟨boxed_below h.b0 hb, boxed_below h.b1 hb, boxed_below h.b2 hb, boxed_below h.b3 hb, boxed_below h.b4 hb, boxed_below h.b5 hb, boxed_below h.b6 hb, h.bel.trans (hb.mono h.bel.size)⟩
theorem below_set {W : World} (n₀ b : Nat) (v : Value) (h : n₀ ≤ W.heap.size) (hb : n₀ ≤ b) : Below n₀ W (W.setCell ⟨b, 0, none⟩ v) := (Below.refl n₀ W).grown (grownBy_setCell' W b v) h (fun k e => by cases e; exact hb)
theorem WalkInv.step {w : World} {s : ByteArray} {A : Option Addr} {c n : Nat} {lim k p : Int} {X : World} (h : WalkInv w s A c n lim k p X) (k' p' : Int) :
    WalkInv w s A c n lim k' p' ((X.setCell ⟨w.heap.size + 5, 0, none⟩ (.int .i64 k')).setCell ⟨w.heap.size + 6, 0, none⟩ (.int .i64 p')) := by
  have hsz := h.bel.size
  refine ⟨(h.b0.other (by omega) _).other (by omega) _, (h.b1.other (by omega) _).other (by omega) _, (h.b2.other (by omega) _).other (by omega) _, (h.b3.other (by omega) _).other (by omega) _, (h.b4.other (by omega) _).other (by omega) _,
    (h.b5.set _).other (by omega) _, (h.b6.other (by omega) _).set _, ?_⟩
  exact h.bel.trans ((below_set w.heap.size (w.heap.size + 5) _ hsz (by omega)).trans (below_set w.heap.size (w.heap.size + 6) _ (by simpa using hsz) (by omega)))
theorem two_sets {w X Y : World} {B C : Nat} (hb : Below X.heap.size X Y) (hw : w.heap.size ≤ X.heap.size) (hB : w.heap.size + 6 < B) (v v' : Value) :
    KeepsFrom C X ((Y.setCell ⟨w.heap.size + 5, 0, none⟩ v).setCell ⟨w.heap.size + 6, 0, none⟩ v') ∧ KeepB w.heap.size (fun k => k = w.heap.size + 3) B X ((Y.setCell ⟨w.heap.size + 5, 0, none⟩ v).setCell ⟨w.heap.size + 6, 0, none⟩ v') := by
  have hsz := hb.size
  refine ⟨(KeepsFrom.of_grownBy (row := none) ⟨hb.os, hb.tape, hb.output, hb.size, fun i hi _ => hb.block i hi⟩ (fun _ e => by cases e)).trans (((KeepsOthers.setCell Y _ v).trans (KeepsOthers.setCell _ _ v')).from C), ?_, ?_⟩
  · exact (hb.mono hw).trans ((below_set w.heap.size (w.heap.size + 5) _ (by omega) (by omega)).trans (below_set w.heap.size (w.heap.size + 6) _ (by simpa using (by omega : w.heap.size ≤ Y.heap.size)) (by omega)))
  · intro k o hk ho _
    have h5 : k ≠ w.heap.size + 5 := by omega
    have h6 : k ≠ w.heap.size + 6 := by omega
    have hlt := (Array.getElem?_eq_some_iff.1 ho).1
    exact (Below.heap_setCell _ ⟨w.heap.size + 6, 0, none⟩ v' k h6).trans ((Below.heap_setCell Y ⟨w.heap.size + 5, 0, none⟩ v k h5).trans ((hb.block k hlt).trans ho))

theorem results_cell {fn : Func} {t : Tmp} {k : TypeId} (h : fn.results = #[.cell t k]) (tmps : Array Value) (P : Program) (w : World) {a : Addr} {v : Value} (ha : tmps.getD t undef = .pointer (some a)) (hl : (loadVar k a).run P w = .ok v w) :
    (results fn tmps).run P w = .ok v w := by
  rw [Array.getD_eq_getD_getElem?] at ha
  simp [results, h, ha, hl, asAddr]
theorem load_bool {W : World} {b : Nat} {v : Bool} (h : Boxed W b 4 (.bool v)) : (loadVar 4 ⟨b, 0, none⟩).run Tryd.prog W = .ok (.bool v) W := by
  have hc := h.cell
  have hu := Tryd.underlying4
  go_simp
theorem ends_true {w : World} {s : ByteArray} {A : Option Addr} {c n : Nat} {lim k p : Int} {C : Nat} {X Y : World} (h : WalkInv w s A c n lim k p Y) (hk : KeepsFrom C X Y) :
    KeepsFrom C X (Y.setCell ⟨w.heap.size + 2, 0, none⟩ (.bool true)) ∧ (Code.ret = Code.ret ∧ Boxed (Y.setCell ⟨w.heap.size + 2, 0, none⟩ (.bool true)) (w.heap.size + 2) 4 (.bool true) ∧ Below w.heap.size w (Y.setCell ⟨w.heap.size + 2, 0, none⟩ (.bool true))) :=
  ⟨hk.trans ((KeepsOthers.setCell Y _ _).from C), rfl, h.b2.set _, h.bel.trans (below_set w.heap.size (w.heap.size + 2) _ h.bel.size (by omega))⟩
theorem goes_on {w : World} {s : ByteArray} {A : Option Addr} {c n : Nat} {lim k p k' p' : Int} {B C : Nat} {X Y : World} (h : WalkInv w s A c n lim k p Y) (hb : Below X.heap.size X Y) (hw : w.heap.size ≤ X.heap.size) (hB : w.heap.size + 6 < B) :
    KeepsFrom C X ((Y.setCell ⟨w.heap.size + 5, 0, none⟩ (.int .i64 k')).setCell ⟨w.heap.size + 6, 0, none⟩ (.int .i64 p')) ∧ KeepB w.heap.size (fun k => k = w.heap.size + 3) B X ((Y.setCell ⟨w.heap.size + 5, 0, none⟩ (.int .i64 k')).setCell ⟨w.heap.size + 6, 0, none⟩ (.int .i64 p')) ∧
      WalkInv w s A c n lim k' p' ((Y.setCell ⟨w.heap.size + 5, 0, none⟩ (.int .i64 k')).setCell ⟨w.heap.size + 6, 0, none⟩ (.int .i64 p')) ∧ w.heap.size + 6 < ((Y.setCell ⟨w.heap.size + 5, 0, none⟩ (.int .i64 k')).setCell ⟨w.heap.size + 6, 0, none⟩ (.int .i64 p')).heap.size :=
  ⟨(two_sets (C := C) hb hw hB _ _).1, (two_sets (C := C) hb hw hB _ _).2, h.step _ _, (h.step k' p').b6.lt⟩

theorem run_store_func {P : Program} {w : World} {a : Addr} {m : Mode} : ∀ f ts lb, (store a (Value.func f ts lb) m).run P w = stored P w a (Value.func f ts lb) m := fun _ _ _ => run_store P w a _ m rfl
attribute [local go_sem] run_store_func

set_option maxRecDepth 100000 in
set_option maxHeartbeats 4000000 in
theorem walked_any (s : ByteArray) (A : Option Addr) (c : Nat) (lim : Int) (w : World) (hs : s.size ≤ 8796093022207) (hT : Lib.Utf8Tabs 0 1 w) (hr_ : Kd.C k30 w A (unitsL s).length (unitsL s)) (hc : (unitsL s).length ≤ c) :
    Calls Tryd.prog 30 #[.string s, .slice A (unitsL s).length c, .int .i64 lim] w fun e w' => e = .returned (.bool true) ∧ Below w.heap.size w w' := by
  have hlen : (unitsL s).length ≤ s.size := unitsL_length s
  have hnn : ∀ a W, (binOp .eql 33 (.func (.func 60) #[] #[.pointer (some a)]) .nilFunc).run Tryd.prog W = .ok (.bool false) W := fun a W => by kernel_rfl
  refine (callsIn_wide (n := 12)).1 ?_
  refine callsIn_of_wp_marks Tryd.func30 rfl trivial ?_ rfl
  simp only [Tryd.ntmps30, List.size_toArray, List.length_cons, List.length_nil, Nat.reduceAdd, Nat.reduceSub, Array.replicate_succ, Array.replicate_zero, List.push_toArray, List.append_toArray, List.nil_append, List.cons_append]
  gi_wp2_with (refine ⟨trivial, ?_⟩; gi_at_call 25; refine (callsIn_wide.2 (walk_calls s _)).mono ?_; rintro e w' ⟨rfl, rfl⟩)
  simp only [Nat.add_assoc, Nat.reduceAdd]
  obtain ⟨W0, hW0⟩ : ∃ W0, ((((((w.alloc (.cells #[.slice A (unitsL s).length c] 27)).alloc (.cells #[.int .i64 lim] 3)).alloc (.cells #[.bool false] 4)).alloc (.cells #[.string s] 9)).alloc (.cells #[.func (.func 60) #[] #[.pointer (some ⟨w.heap.size + 3, 0, none⟩)]] 33)).alloc (.cells #[.int .i64 0] 3)).alloc (.cells #[.int .i64 0] 3) = W0 := ⟨_, rfl⟩
  rw [hW0]
  have hI0 : WalkInv w s A c (unitsL s).length lim 0 0 W0 := by
    rw [← hW0]
    refine ⟨((((((Boxed.new w _ _).alloc _).alloc _).alloc _).alloc _).alloc _).alloc _, ?_, ?_, ?_, ?_, ?_, ?_, ?_⟩
    · have := Boxed.new (w.alloc (.cells #[.slice A (unitsL s).length c] 27)) 3 (.int .i64 lim)
      rw [World.size_alloc] at this
      exact ((((this.alloc _).alloc _).alloc _).alloc _).alloc _
    · have := Boxed.new ((w.alloc (.cells #[.slice A (unitsL s).length c] 27)).alloc (.cells #[.int .i64 lim] 3)) 4 (.bool false)
      rw [World.size_alloc, World.size_alloc] at this
      exact (((this.alloc _).alloc _).alloc _).alloc _
    · have := Boxed.new (((w.alloc (.cells #[.slice A (unitsL s).length c] 27)).alloc (.cells #[.int .i64 lim] 3)).alloc (.cells #[.bool false] 4)) 9 (.string s)
      rw [World.size_alloc, World.size_alloc, World.size_alloc] at this
      exact ((this.alloc _).alloc _).alloc _
    · have := Boxed.new ((((w.alloc (.cells #[.slice A (unitsL s).length c] 27)).alloc (.cells #[.int .i64 lim] 3)).alloc (.cells #[.bool false] 4)).alloc (.cells #[.string s] 9)) 33 (.func (.func 60) #[] #[.pointer (some ⟨w.heap.size + 3, 0, none⟩)])
      rw [World.size_alloc, World.size_alloc, World.size_alloc, World.size_alloc] at this
      exact (this.alloc _).alloc _
    · have := Boxed.new (((((w.alloc (.cells #[.slice A (unitsL s).length c] 27)).alloc (.cells #[.int .i64 lim] 3)).alloc (.cells #[.bool false] 4)).alloc (.cells #[.string s] 9)).alloc (.cells #[.func (.func 60) #[] #[.pointer (some ⟨w.heap.size + 3, 0, none⟩)]] 33)) 3 (.int .i64 0)
      rw [World.size_alloc, World.size_alloc, World.size_alloc, World.size_alloc, World.size_alloc] at this
      exact this.alloc _
    · have := Boxed.new ((((((w.alloc (.cells #[.slice A (unitsL s).length c] 27)).alloc (.cells #[.int .i64 lim] 3)).alloc (.cells #[.bool false] 4)).alloc (.cells #[.string s] 9)).alloc (.cells #[.func (.func 60) #[] #[.pointer (some ⟨w.heap.size + 3, 0, none⟩)]] 33)).alloc (.cells #[.int .i64 0] 3)) 3 (.int .i64 0)
      rw [World.size_alloc, World.size_alloc, World.size_alloc, World.size_alloc, World.size_alloc, World.size_alloc] at this
      exact this
    · exact (((((((Below.refl _ w).alloc (Nat.le_refl _) _).alloc (by simp) _).alloc (by simp; omega) _).alloc (by simp; omega) _).alloc (by simp; omega) _).alloc (by simp; omega) _).alloc (by simp; omega) _
  have hsz : W0.heap.size = w.heap.size + 7 := by rw [← hW0]; simp
  clear hW0
  refine range_outer (α := Int × S30) (Pr := fun k => k = w.heap.size + 3) rfl (by omega) (gf := 60) (lb := #[.pointer (some ⟨w.heap.size + 3, 0, none⟩)]) rfl trivial (enters_of Tryd.func60 (by kernel_rfl) rfl)
    (walk1_seqg 11 (by omega) w W0 s (w.heap.size + 3) (by omega) hT hI0.bel hI0.b3) (Below.refl _ _) (fun _ => rfl) (by omega)
    (fun (B : Nat) (pre : List (Int × S30)) (W : World) => WalkInv w s A c (unitsL s).length lim (pre.length : Int) (posOf pre) W ∧ (w.heap.size + 6 < B ∧ pre <+: walkU s))
    (fun cd _ W => cd = Code.ret ∧ Boxed W (w.heap.size + 2) 4 (.bool true) ∧ Below w.heap.size w W)
    (fun B pre X Y row h hg hr => ⟨h.1.grow hg (fun r e => ⟨by have := (hr r e).1; omega, (hr r e).2⟩), h.2⟩)
    (fun B B' pre W hBB h => ⟨h.1, by omega, h.2.2⟩)
    (fun _ pre X Y row h hg hr => ⟨h.1, boxed_grow h.2.1 hg (fun r e => (hr r e).2), h.2.2.grown hg h.2.2.size (fun k e => by have := (hr k e).1; omega)⟩)
    ⟨hI0, by omega, List.nil_prefix⟩
    (fun (x : Int × S30) (a' : Act) (W : World) => ∃ Bx, Hid (W.heap[Bx]? = some (.cells #[.int .i32 x.2.f0, .int .i64 x.2.f1] 30 (0, 0))) ∧ a' = { tmps := #[.string s, .slice A (unitsL s).length c, .int .i64 lim, undef, .pointer (some ⟨w.heap.size, 0, none⟩), .pointer (some ⟨w.heap.size + 1, 0, none⟩), .pointer (some ⟨w.heap.size + 2, 0, none⟩), .pointer (some ⟨w.heap.size + 4, 0, none⟩), .pointer (some ⟨w.heap.size + 5, 0, none⟩), .pointer (some ⟨w.heap.size + 6, 0, none⟩), .int .i64 x.1, .pointer (some ⟨Bx, 0, none⟩), undef, .string s, .func (.func 60) #[] #[.pointer (some ⟨w.heap.size + 3, 0, none⟩)], .func (.func 60) #[] #[.pointer (some ⟨w.heap.size + 3, 0, none⟩)], .bool false, .func (.func 60) #[] #[.pointer (some ⟨w.heap.size + 3, 0, none⟩)], .int .i64 x.1, .agg #[.int .i32 x.2.f0, .int .i64 x.2.f1], undef, undef, undef, undef, undef, undef, undef, undef, undef, undef, undef, undef, undef, undef, undef, undef, undef, undef, undef, undef, undef, undef, undef, undef, undef, undef, undef, undef, undef, undef, undef, undef, undef, undef, undef, undef, undef, undef, undef, undef, undef], defers := [] })
    (fun x a' _ X Y row hs hg hr => by
      obtain ⟨Bx, h1, h2⟩ := hs
      refine ⟨Bx, ?_, h2⟩
      refine (hg.block Bx (Array.getElem?_eq_some_iff.1 h1).1 (fun e => ?_)).trans h1
      obtain ⟨_, o, ho, hc⟩ := hr Bx e.symm
      rw [show X.heap[Bx]? = _ from h1] at ho; cases ho; cases hc)
    ?assign ?body ?done ?stop
  case assign =>
    rintro l B pre x W K hCW hBW hI hK
    have hsz1 := hI.1.bel.size
    gi_wp2
    exact hK _ _ ((KeepsOthers.alloc _ _).from _) (KeepB.of_below hsz1 ((Below.refl _ W).alloc (Nat.le_refl _) _)) ⟨hI.1.below ((Below.refl _ W).alloc (Nat.le_refl _) _), hI.2⟩ ⟨W.heap.size, Lib.hid (World.alloc_heap_new W _), rfl⟩
  case body =>
    rintro l B pre x a' W hl hCW hr hBW ⟨hi, hoB, hpp⟩ ⟨Bx, hBx, rfl⟩ hlt hpx
    obtain ⟨hx1, hx2, hx3, hx4⟩ := walkU_at s pre x hpx
    obtain ⟨hu1, hu2⟩ := unitsL_at s pre x hpx
    have hbs := hi.bel.size
    have c0 := hi.b0.cell
    have c1 := hi.b1.cell
    have c4 := hi.b4.cell
    have c5 := hi.b5.cell
    have c6 := hi.b6.cell
    have cx0 : W.cell? ⟨Bx, 0, none⟩ = some (.int .i32 x.2.f0) := by simp [World.cell?, show W.heap[Bx]? = _ from hBx]
    have cx1 : W.cell? ⟨Bx, 1, none⟩ = some (.int .i64 x.2.f1) := by simp [World.cell?, show W.heap[Bx]? = _ from hBx]
    obtain ⟨ad, hA, ca0, ca1⟩ := at_T30 hr_ (pre.length : Int) (by omega) (by omega)
    rw [hu1] at ca0 ca1
    have ca0 : W.cell? (ad.add ((pre.length : Int).toNat * 2)) = some (.int .i32 x.2.f0) := pw_cell_below hi.bel ca0
    have hu := Tryd.underlying30
    have hg1 : decide ((pre.length : Int) ≥ ((unitsL s).length : Int)) = false := decide_eq_false (by omega)
    have hg1n : decide ((unitsL s).length ≤ pre.length) = false := decide_eq_false (by omega)
    have hg2 : (x.1 != posOf pre) = false := by rw [hx1]; simp
    have ca1 := pw_cell_below hi.bel ca1
    simp only [Int.toNat_natCast] at ca0 ca1
    subst hA
    dsimp only
    gi_upto_region 8 with (fail)
    refine region_quiet_lit rfl (by kernel_rfl) (by kernel_rfl) ?_
    repeat (gi_big_quiet_step (fail))
    refine wpQuietIn_nil ?_
    rintro _ ⟨nq, rfl⟩
    have hbW : Below W.heap.size W (W.drewN nq) := pw_below_drewN (Below.refl _ W) nq
    have hi1 := hi.below hbW
    obtain ⟨W1, hW1⟩ : ∃ W1, W.drewN nq = W1 := ⟨_, rfl⟩
    have hBx1 : Hid (W1.heap[Bx]? = some (.cells #[.int .i32 x.2.f0, .int .i64 x.2.f1] 30 (0, 0))) := Lib.hid (by rw [← hW1]; exact (hbW.block Bx (Array.getElem?_eq_some_iff.1 hBx.out).1).trans hBx.out)
    have hr1 : ∃ r, W1.heap[l]? = some (.loop r) := by obtain ⟨r, h⟩ := hr; exact ⟨r, by rw [← hW1]; exact (hbW.block l (Array.getElem?_eq_some_iff.1 h).1).trans h⟩
    rw [hW1] at hbW hi1 ⊢
    clear hW1 c0 c1 c4 c5 c6 cx0 cx1 ca0 ca1
    have c0 := hi1.b0.cell
    have c1 := hi1.b1.cell
    have c2 := hi1.b2.cell
    have f2 := hi1.b2.frozen
    have c4 := hi1.b4.cell
    have c5 := hi1.b5.cell
    have f5 := hi1.b5.frozen
    have c6 := hi1.b6.cell
    have f6 := hi1.b6.frozen
    have cx1 : W1.cell? ⟨Bx, 1, none⟩ = some (.int .i64 x.2.f1) := by simp [World.cell?, show W1.heap[Bx]? = _ from hBx1.out]
    by_cases hp : pre.length = 0
    · have hp1 : ((pre.length : Int) == 0) = true := by rw [hp]; rfl
      have c4a := (hi1.b4.alloc (.cells #[.int .i64 0] 3)).cell
      gi_wp2
      obtain ⟨r1, hr1⟩ := hr1
      have hBI := Boxed.new W1 3 (.int .i64 0)
      refine range_inner (α := Int × S30) (Pr := fun k => k = w.heap.size + 3) (n₀ := W1.heap.size) (l₀ := l) (r₀ := r1) rfl ((Below.heap_alloc W1 _ l (Array.getElem?_eq_some_iff.1 hr1).1).trans hr1) (by omega) (gf := 60) (lb := #[.pointer (some ⟨w.heap.size + 3, 0, none⟩)]) rfl trivial (enters_of Tryd.func60 (by kernel_rfl) rfl)
        ((walk1_seqg 9 (by omega) W1 _ s (w.heap.size + 3) (by omega) (tabs_below hT hi1.bel) ((Below.refl _ W1).alloc (Nat.le_refl _) _) (hi1.b3.alloc _)).inRound l) (Below.refl _ _) (fun _ => rfl) (by simp)
        (fun (B' : Nat) (qs : List (Int × S30)) (W' : World) => (Boxed W' W1.heap.size 3 (.int .i64 (qs.length : Int)) ∧ Below W1.heap.size W1 W') ∧ (W1.heap.size < B' ∧ qs.length ≤ s.size))
        (fun _ _ _ => False)
        (fun B' => OwnFrom.and (OwnFrom.and (Own.from (boxed_own W1.heap.size 3 (fun (qs : List (Int × S30)) => .int .i64 (qs.length : Int))) _) (ownFrom_below (Nat.le_refl _) (by simp))) (ownFrom_pure _ (fun (qs : List (Int × S30)) => W1.heap.size < B' ∧ qs.length ≤ s.size)))
        (fun B' B'' qs W' hBB h => ⟨h.1, by omega, h.2.2⟩)
        (fun _ _ _ _ _ hs _ _ => hs)
        ⟨⟨hBI, (Below.refl _ W1).alloc (Nat.le_refl _) _⟩, by simp, by simp⟩
        (fun (y : Int × S30) (a' : Act) (_ : World) => a' = { tmps := #[.string s, .slice (some ad) (unitsL s).length c, .int .i64 lim, undef, .pointer (some ⟨w.heap.size, 0, none⟩), .pointer (some ⟨w.heap.size + 1, 0, none⟩), .pointer (some ⟨w.heap.size + 2, 0, none⟩), .pointer (some ⟨w.heap.size + 4, 0, none⟩), .pointer (some ⟨w.heap.size + 5, 0, none⟩), .pointer (some ⟨w.heap.size + 6, 0, none⟩), .int .i64 x.1, .pointer (some ⟨Bx, 0, none⟩), .pointer (some ⟨W1.heap.size, 0, none⟩), .string s, .func (.func 60) #[] #[.pointer (some ⟨w.heap.size + 3, 0, none⟩)], .func (.func 60) #[] #[.pointer (some ⟨w.heap.size + 3, 0, none⟩)], .bool false, .func (.func 60) #[] #[.pointer (some ⟨w.heap.size + 3, 0, none⟩)], .int .i64 x.1, .agg #[.int .i32 x.2.f0, .int .i64 x.2.f1], .int .i64 (pre.length : Int), .slice (some ad) (unitsL s).length c, .int .i64 ((unitsL s).length : Int), .bool false, .bool false, .int .i64 x.1, .int .i64 (posOf pre), .bool false, .bool false, .bool false, .agg #[.int .i32 x.2.f0, .int .i64 x.2.f1], .slice (some ad) (unitsL s).length c, .int .i64 (pre.length : Int), .pointer (some (ad.add (pre.length * 2))), .agg #[.int .i32 x.2.f0, .int .i64 x.2.f1], .bool false, .bool false, .int .i64 0, .bool true, .func (.func 60) #[] #[.pointer (some ⟨w.heap.size + 3, 0, none⟩)], .int .i64 y.1, .agg #[.int .i32 y.2.f0, .int .i64 y.2.f1], undef, undef, undef, undef, undef, undef, undef, undef, undef, undef, undef, undef, undef, undef, undef, undef, undef, undef, undef], defers := [] })
        (fun _ _ _ _ _ _ hs _ _ => hs)
        ?iassign ?ibody ?idone ?istop
      case iassign =>
        rintro l' B' qs y W' K' hCW' hBW' hI' hK'
        clear hx1 hp hp1 hu1 hu2 hg1 hg1n hg2
        gi_wp2
        exact hK' _ _ (KeepsFrom.refl _ _) (KeepB.refl _ _ _ _) hI' rfl
      case ibody =>
        rintro l' B' qs y a'' W' hl' hCW' hr' hBW' ⟨⟨hb', hbel'⟩, hB', hq'⟩ rfl hlt' hqy
        have hqs : qs.length < s.size := Nat.lt_of_lt_of_le hlt' (by rw [← unitsL_len]; exact hlen)
        have cI := hb'.cell
        have fI := hb'.frozen
        dsimp only
        gi_wp2
        refine ⟨(KeepsOthers.setCell W' _ _).from _, ⟨below_set W1.heap.size W1.heap.size _ hbel'.size (Nat.le_refl _), fun k o hk ho _ => (Below.heap_setCell W' ⟨W1.heap.size, 0, none⟩ _ k (show k ≠ W1.heap.size by have := hi1.b3.lt; rcases hk with hk | hk; have hk : k = w.heap.size + 3 := hk; omega; omega)).trans ho⟩, ⟨by rw [List.length_append]; exact hb'.set _, hbel'.trans (below_set W1.heap.size W1.heap.size _ hbel'.size (Nat.le_refl _))⟩, by simpa using hb'.lt, by rw [List.length_append]; simp; omega⟩
      case idone =>
        rintro qs W' hCW' hqs ⟨⟨hb', hbel'⟩, hB', hq'⟩
        obtain rfl : qs = walkU s := hqs
        have hne' : (((walkU s).length : Int) != ((unitsL s).length : Int)) = false := by rw [unitsL_len]; simp
        have hi2 := hi1.below hbel'
        have d0 := hi2.b0.cell
        have d1 := hi2.b1.cell
        have d2 := hi2.b2.cell
        have g2 := hi2.b2.frozen
        have d5 := hi2.b5.cell
        have g5 := hi2.b5.frozen
        have d6 := hi2.b6.cell
        have g6 := hi2.b6.frozen
        have dx1 : W'.cell? ⟨Bx, 1, none⟩ = some (.int .i64 x.2.f1) := by
          have := (hbel'.block Bx (Array.getElem?_eq_some_iff.1 hBx1.out).1).trans hBx1.out
          simp [World.cell?, this]
        have dI := hb'.cell
        have hbW2 : Below W.heap.size W W' := hbW.trans (hbel'.mono hbW.size)
        have e1 : (((pre ++ [x]).length : Nat) : Int) = 1 := by simp [hp]
        have hst := goes_on (k' := 1) (p' := posOf pre + x.2.f1) (C := W0.heap.size) hi2 hbW2 hbs hoB
        clear c0 c1 c2 f2 c4 c5 f5 c6 f6 cx1 c4a
        gi_wp2
        · exact ends_true hst.2.2.1 hst.1
        · exact ⟨hst.1, hst.2.1, ⟨by rw [e1, posOf_snoc]; exact hst.2.2.1, hst.2.2.2, hpx⟩⟩
      case istop =>
        rintro c' qs W' _ _ h
        exact h.elim
    · have hp1 : ((pre.length : Int) == 0) = false := by simp; exact fun h => hp (by rw [h]; rfl)
      have e1 : (((pre ++ [x]).length : Nat) : Int) = (pre.length : Int) + 1 := by simp
      have hst := goes_on (k' := (pre.length : Int) + 1) (p' := posOf pre + x.2.f1) (C := W0.heap.size) hi1 hbW hbs hoB
      gi_wp2
      · exact ends_true hst.2.2.1 hst.1
      · exact ⟨hst.1, hst.2.1, ⟨by rw [e1, posOf_snoc]; exact hst.2.2.1, hst.2.2.2, hpx⟩⟩
  case done =>
    rintro D ys W hD hys ⟨hi, _, _⟩ hK
    obtain rfl : ys = walkU s := hys
    have c0 := hi.b0.cell
    have c2 := hi.b2.cell
    have f2 := hi.b2.frozen
    have c5 := hi.b5.cell
    have hn5 : (((walkU s).length : Int) == ((unitsL s).length : Int)) = true := by rw [unitsL_len]; simp
    have hb2 := (hi.b2.set (.bool true))
    have hbel := hi.bel.trans (below_set w.heap.size (w.heap.size + 2) (.bool true) hi.bel.size (by omega))
    have hK2 : (W.setCell ⟨w.heap.size + 2, 0, none⟩ (.bool true)).heap[D]? = some (.deferred (some [])) := (Below.heap_setCell W ⟨w.heap.size + 2, 0, none⟩ (.bool true) D (show D ≠ w.heap.size + 2 by omega)).trans hK
    gi_wp2
    refine ⟨by simp, .inl ⟨_, _, rfl, run_takeDeferred hK2, ?_⟩⟩
    refine ⟨_, results_cell rfl _ _ _ (a := ⟨w.heap.size + 2, 0, none⟩) (v := .bool true) rfl (load_bool ((World.putObj_heap_other (by omega)).trans hb2)), rfl, ?_⟩
    exact hbel.trans (belowK_b (w := w) (Nat.le_refl _) _ D _ _ (by omega) hK2 rfl rfl)
  case stop =>
    rintro D cd pre W hD hpre ⟨rfl, hb2, hbel⟩ hK
    gi_wp2
    refine ⟨by simp, .inl ⟨_, _, rfl, run_takeDeferred hK, ?_⟩⟩
    refine ⟨_, results_cell rfl _ _ _ (a := ⟨w.heap.size + 2, 0, none⟩) (v := .bool true) rfl (load_bool ((World.putObj_heap_other (by omega)).trans hb2)), rfl, ?_⟩
    exact hbel.trans (belowK_b (w := w) (Nat.le_refl _) W D _ _ (by omega) hK rfl rfl)

def sameU : List S30 → List S30 → Bool
  | [], [] => true
  | u :: us, v :: vs => decide (u.f0 = v.f0) && decide (u.f1 = v.f1) && sameU us vs
  | _, _ => false
theorem sameU_eq : ∀ us vs, sameU us vs = true ↔ us = vs
  | [], [] => by simp [sameU]
  | [], v :: vs => by simp [sameU]
  | u :: us, [] => by simp [sameU]
  | ⟨a, b⟩ :: us, ⟨c, d⟩ :: vs => by simp [sameU, sameU_eq us vs]
def bodkinlaw01_walked.f (a0 : ByteArray) (l1 : List S30) (a2 : Int) : Option (Bool) := if a0.size ≤ 8796093022207 ∧ sameU l1 (unitsL a0) = true then some true else none
theorem bodkinlaw01_walked.calls (a0 : ByteArray) (A1 : Option Addr) (c1 : Nat) (l1 : List (S30)) (a2 : Int) (r : Bool) (w : World) (hr1 : Kd.C k30 w A1 l1.length l1) (hc1 : l1.length ≤ c1) (hT : Lib.Utf8Tabs 0 1 w) (h : bodkinlaw01_walked.f a0 l1 a2 = some r) :
    Calls Tryd.prog 30 #[.string a0, .slice A1 l1.length c1, .int .i64 a2] w fun e w' => e = .returned (.bool r) ∧ Below w.heap.size w w' := by
  unfold bodkinlaw01_walked.f at h
  split at h
  · rename_i hs
    obtain rfl := Option.some.inj h
    obtain ⟨hs1, hs2⟩ := hs
    obtain rfl := (sameU_eq _ _).1 hs2
    exact walked_any a0 A1 c1 a2 w hs1 hT hr1 hc1
  · cases h
end Go.Proofs.YtfhnfhgpaoddbaaDoor.U
