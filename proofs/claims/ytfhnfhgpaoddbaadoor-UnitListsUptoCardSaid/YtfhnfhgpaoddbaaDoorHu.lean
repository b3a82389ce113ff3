/- The units of a text: the iterator unit.Walk, and Units, by hand. -/
import Derived.Test.YtfhnfhgpaoddbaaDoorU4
import Derived.Test.YtfhnfhgpaoddbaaDoorRf
import Derived.Test.YtfhnfhgpaoddbaaDoorMu
import Derived.Shelf.Abstract
import Derived.Shelf.RegionOpen
import Derived.OwnWalkIn
import Derived.TacticsInMore
import Derived.LoopNIn
import Derived.LoopIn
import Derived.Lib.Hide
import Derived.Lib.MapLaws
import Derived.Laws.DeepStrings4
import Derived.Shelf.Unicode.DecodeLastEight
namespace Go.Proofs.YtfhnfhgpaoddbaaDoor.U
open Go.RowKit Go.Shelf Go.Proofs.YtfhnfhgpaoddbaaDoor.Mu Go.Proofs.YtfhnfhgpaoddbaaDoor.Rf Go.Proofs.YtfhnfhgpaoddbaaDoorW.PrintWords Go.Proofs.YtfhnfhgpaoddbaaDoorW.PrintLast Go.Proofs.YtfhnfhgpaoddbaaDoorW.PrintMore
attribute [local go_sem] Oper.semAt_some
set_option linter.unusedVariables false
set_option linter.unusedSimpArgs false

/-! ### The units, plainly -/
def uAt (s : ByteArray) (i : Nat) : S30 := ⟨uC s i, (uN s i : Int)⟩
def walkL (s : ByteArray) : Nat → Nat → List (Int × S30)
  | 0, _ => []
  | k + 1, i => if i < s.size then ((i : Int), uAt s i) :: walkL s k (i + uN s i) else []
def walkU (s : ByteArray) : List (Int × S30) := walkL s s.size 0
def unitsL (s : ByteArray) : List S30 := (walkU s).map (·.2)

theorem walkL_length (s : ByteArray) : ∀ k i, (walkL s k i).length ≤ k
  | 0, _ => by simp [walkL]
  | k + 1, i => by
    unfold walkL
    split
    · have := walkL_length s k (i + uN s i); simp; omega
    · simp
theorem unitsL_length (s : ByteArray) : (unitsL s).length ≤ s.size := by
  unfold unitsL walkU; rw [List.length_map]; exact walkL_length s s.size 0

theorem first_at (s : ByteArray) (i : Nat) (h : i < s.size) : unit_first.f (s.extract i s.size) = some (uC s i, (uN s i : Int)) := by
  unfold unit_first.f utf8_DecodeRuneInString.f
  rw [decodeGo_extract s i h]
  unfold uC uN
  simp only [Option.bind_some]
  generalize Utf8.decode s i = d
  obtain ⟨c, m⟩ := d
  by_cases hc : c = 65533
  · by_cases hm : m = 1
    · subst hc; subst hm; simp
    · have : ¬ ((m : Int) = 1) := by omega
      simp [hc, hm, this]
  · have : ¬ ((c : Int) = 65533) := by omega
    simp [hc, this]

abbrev encU (x : Int × S30) : Array Value := #[.int .i64 x.1, .agg #[.int .i32 x.2.f0, .int .i64 x.2.f1]]

set_option maxRecDepth 100000 in
set_option maxHeartbeats 2000000 in
/-- unit.Walk's inner function: its contract. -/
theorem walk1_seq (n : Nat) (hn : 1 ≤ n) (w₀ w : World) (s : ByteArray) (Bs : Nat) (hs : s.size ≤ 4611686018427387904) (hT : Lib.Utf8Tabs 0 1 w₀) (hb : Below w₀.heap.size w₀ w) (hc : Boxed w Bs 9 (.string s)) :
    SeqB Fence.wide n Tryd.prog 60 #[.pointer (some ⟨Bs, 0, none⟩)] encU w₀.heap.size (fun k => k = Bs) (fun xs => Hid (xs = walkU s)) (fun pre => pre <+: walkU s) (walkU s).length w := by
  intro l J Jx W hW hJ hJx hY h0
  refine callsIn_of_wp Tryd.func60 rfl trivial ?_ rfl
  simp only [Tryd.ntmps60, List.size_toArray, List.length_cons, List.length_nil, Nat.reduceAdd, Nat.reduceSub, Array.replicate_succ, Array.replicate_zero, List.push_toArray, List.append_toArray, List.nil_append, List.cons_append]
  gi_wp2
  gi_loopw [3] (fun v wr => ∃ (i k : Nat) (pre : List (Int × S30)), v = .int .i64 i ∧ i ≤ s.size ∧ s.size ≤ i + k ∧ Hid (walkU s = pre ++ walkL s k i) ∧ J pre wr ∧ Boxed wr Bs 9 (.string s) ∧ Below w₀.heap.size w₀ wr)
    (fun v _ => s.size - (intOf v).toNat)
  case atStart =>
    exact ⟨0, s.size, [], rfl, Nat.zero_le _, by omega, Lib.hid rfl, h0, (hW.block Bs hc.lt).trans hc, hb.trans (hW.mono hb.size)⟩
  case round =>
    obtain ⟨i, k, pre, rfl, hi, hk, hx, hJs, hbx, hbl⟩ := hrel
    have hcb := hbx.cell
    by_cases hlt : i < s.size
    · have hlt' : (i : Int) < (s.size : Int) := by omega
      obtain ⟨k, rfl⟩ : ∃ k', k = k' + 1 := ⟨k - 1, by omega⟩
      obtain ⟨c, hc'⟩ : ∃ c, uC s i = c := ⟨_, rfl⟩
      obtain ⟨m, hm'⟩ : ∃ m, uN s i = m := ⟨_, rfl⟩
      have hf : Hid (unit_first.f (s.extract i s.size) = some (c, (m : Int))) := Lib.hid (by rw [first_at s i hlt, hc', hm'])
      have hx2 : Hid (walkU s = pre ++ ((i : Int), (⟨c, (m : Int)⟩ : S30)) :: walkL s k (i + m)) := Lib.hid (by
        have := hx.out; rw [walkL, if_pos hlt] at this; unfold uAt at this; rw [hc', hm'] at this; exact this)
      have hm1 : 1 ≤ m := hm' ▸ uN_pos s i
      have hm2 : i + m ≤ s.size := hm' ▸ uN_le s i hlt
      clear hx hc' hm'
      have hTw := tabs_below hT hbl
      gi_wp2_with (refine ⟨trivial, ?_⟩; gi_at_call 61; refine (callsIn_wide.2 (unit_first.calls (s.extract i s.size) c m wr hTw hf.out)).mono ?_; rintro e w1 ⟨rfl, hb1⟩; obtain ⟨fn, tmps, assign, body, hy, hR⟩ := hY pre ((i : Int), (⟨c, (m : Int)⟩ : S30)) wr (w1.alloc (.cells #[.int .i32 c, .int .i64 m] 30)) hJs (hb1.alloc hb1.size _) (by rw [hx2.out]; simp))
      refine hR.mono ?_
      rintro e W3 (⟨rfl, hJ3, hk3⟩ | ⟨rfl, hJx3⟩)
      · have hu3 := hk3.2 w1.heap.size _ (.inr hb1.size) (World.alloc_heap_new w1 _) rfl
        have hbx3 : Boxed W3 Bs 9 (.string s) := hk3.2 Bs _ (.inl rfl) (((hb1.alloc hb1.size _).block Bs hbx.lt).trans hbx) rfl
        have hbl3 : Below w₀.heap.size w₀ W3 := (hbl.trans ((hb1.alloc hb1.size _).mono hbl.size)).trans hk3.1
        have hcu : W3.cell? ⟨w1.heap.size, 1, none⟩ = some (.int .i64 m) := by simp [World.cell?, hu3]
        gi_wp2
        go_roundw
        case rel => exact ⟨i + m, k, pre ++ [((i : Int), (⟨c, (m : Int)⟩ : S30))], by go_num, by omega, by omega, Lib.hid (by rw [hx2.out]; simp), hJ3, hbx3, hbl3⟩
        case measure => simp [intOf]; omega
      · gi_wp2
        refine bodyPost_ret (results_none rfl _ _ _) rfl ?_
        exact ⟨⟨_, rfl⟩, .inr ⟨_, ⟨walkL s k (i + m), by rw [hx2.out]; simp⟩, hJx3⟩⟩
    · have hge : ¬ ((i : Int) < (s.size : Int)) := by omega
      gi_wp2
      go_end0
      have hz : walkL s k i = [] := by cases k with
        | zero => rfl
        | succ k => rw [walkL, if_neg hlt]
      exact ⟨⟨_, rfl⟩, .inl ⟨pre, Lib.hid (by rw [hx.out, hz, List.append_nil]), hJs⟩⟩

/-! ### Walk, Units -/
theorem walk_calls (s : ByteArray) (w : World) :
    Calls Tryd.prog 25 #[.string s] w fun e w' => e = .returned (.func (.func 60) #[] #[.pointer (some ⟨w.heap.size, 0, none⟩)]) ∧ w' = w.alloc (.cells #[.string s] 9) := by
  go_enter Tryd.func25, Tryd.ntmps25
  go_wp2
  go_ret
  exact ⟨rfl, rfl⟩

def cellsU : List S30 → List Value
  | [] => []
  | u :: us => .int .i32 u.f0 :: .int .i64 u.f1 :: cellsU us
theorem cellsU_snoc (us : List S30) (u : S30) : cellsU (us ++ [u]) = cellsU us ++ [.int .i32 u.f0, .int .i64 u.f1] := by
  induction us with
  | nil => rfl
  | cons x xs ih => simp [cellsU, ih]
theorem reps_cellsU (w : World) (base : Nat) (ok : Nat → Prop) : ∀ us : List S30, Reps (k30.M w base ok) 2 us (cellsU us)
  | [] => Reps.none _ _
  | u :: us => Reps.c2 (k30_mkM w base ok u) (reps_cellsU w base ok us)

theorem cells_two_new (w : World) (x y : Value) (t : TypeId) : ∀ j u, [x, y][j]? = some u → (w.alloc (.cells #[x, y] t)).cell? ((⟨w.heap.size, 0, none⟩ : Addr).add j) = some u := by
  intro j u hj
  match j, hj with
  | 0, hj => simp at hj; subst hj; simp [Addr.add]
  | 1, hj => simp at hj; subst hj; simp [Addr.add]
  | (j + 2), hj => simp at hj

/-- An append to a row that a variable holds turns no cells of the iterator's. -/
theorem appended_keepB {W w1 : World} {B outB : Nat} {v v' : Value} {tmp : Obj} {Pr : Nat → Prop} (hgrow : (W.alloc tmp).grownBy w1 v.ownBlock) (hout : outB < B) (hPr : ∀ k, Pr k → k ≠ outB ∧ some k ≠ v.ownBlock)
    (hv : ∀ g, v.ownBlock = some g → g < B) : ∀ (k : Nat) (o : Obj), (Pr k ∨ B ≤ k) → W.heap[k]? = some o → o.isCells = true → (w1.setCell ⟨outB, 0, none⟩ v').heap[k]? = some o := by
  intro k o hk ho _
  have h1 : k ≠ outB := by rcases hk with hk | hk
                           · exact (hPr k hk).1
                           · omega
  have h2 : some k ≠ v.ownBlock := by
    rcases hk with hk | hk
    · exact (hPr k hk).2
    · intro e; have := hv k e.symm; omega
  have hlt := (Array.getElem?_eq_some_iff.1 ho).1
  exact (Below.heap_setCell w1 ⟨outB, 0, none⟩ v' k h1).trans ((hgrow.block k (by simp; omega) h2).trans ((Below.heap_alloc W tmp k hlt).trans ho))

set_option maxRecDepth 100000 in
set_option maxHeartbeats 4000000 in
theorem units_any (s : ByteArray) (w : World) (hs : s.size ≤ 8796093022207) (hT : Lib.Utf8Tabs 0 1 w) :
    Calls Tryd.prog 23 #[.string s] w fun e w' => ∃ v0_ : Value, e = .returned v0_ ∧ Kd.R k30 30 w' w.heap.size (fun _ => True) v0_ (unitsL s) ∧ Below w.heap.size w w' := by
  have hlen : (walkU s).length ≤ s.size := walkL_length s s.size 0
  obtain ⟨i0, hi, hz0, hz1, hz2⟩ := info_parts info30
  refine (callsIn_wide (n := 6)).1 ?_
  refine callsIn_of_wp_marks Tryd.func23 rfl trivial ?_ rfl
  simp only [Tryd.ntmps23, List.size_toArray, List.length_cons, List.length_nil, Nat.reduceAdd, Nat.reduceSub, Array.replicate_succ, Array.replicate_zero, List.push_toArray, List.append_toArray, List.nil_append, List.cons_append]
  gi_wp2_with (refine ⟨trivial, ?_⟩; gi_at_call 25; refine (callsIn_wide.2 (walk_calls s _)).mono ?_; rintro e w' ⟨rfl, rfl⟩)
  have bO := (Boxed.new w 27 (.slice none 0 0)).alloc (.cells #[.string s] 9)
  have bS := Boxed.new (w.alloc (.cells #[.slice none 0 0] 27)) 9 (.string s)
  rw [World.size_alloc] at bS
  have hB0 : Below w.heap.size w ((w.alloc (.cells #[.slice none 0 0] 27)).alloc (.cells #[.string s] 9)) := ((Below.refl _ w).alloc (Nat.le_refl _) _).alloc (by simp) _
  have hsz : ((w.alloc (.cells #[.slice none 0 0] 27)).alloc (.cells #[.string s] 9)).heap.size = w.heap.size + 2 := by simp
  obtain ⟨W0, hW0⟩ : ∃ W0, (w.alloc (.cells #[.slice none 0 0] 27)).alloc (.cells #[.string s] 9) = W0 := ⟨_, rfl⟩
  rw [hW0] at bO bS hB0 hsz ⊢
  clear hW0
  refine range_outer (α := Int × S30) rfl (by omega) (gf := 60) (lb := #[.pointer (some ⟨w.heap.size + 1, 0, none⟩)]) rfl trivial (enters_of Tryd.func60 (by kernel_rfl) rfl)
    (walk1_seq 5 (by omega) w W0 s (w.heap.size + 1) (by omega) hT hB0 bS) (Below.refl _ _) (fun _ => rfl) (by omega)
    (fun (B : Nat) (pre : List (Int × S30)) (W : World) => (((∃ v, Boxed W w.heap.size 27 v ∧ W.ownsRow w.heap.size 30 2 v pre.length (cellsU (pre.map (·.2))) ∧ (∀ g, v.ownBlock = some g → g < B)) ∧ Boxed W (w.heap.size + 1) 9 (.string s)) ∧ Below w.heap.size w W) ∧ w.heap.size < B)
    (fun _ _ _ => False)
    (fun B => OwnFrom.and (OwnFrom.and (OwnFrom.and (Own.from (holdsRow_own w.heap.size w.heap.size 27 30 2 (fun (pre : List (Int × S30)) => pre.length) (fun pre => cellsU (pre.map (·.2))) (fun _ v => ∀ g, v.ownBlock = some g → g < B)) _) (Own.from (boxed_own _ _ _) _)) (ownFrom_below (Nat.le_refl _) (by omega))) (ownFrom_pure _ (fun _ => w.heap.size < B)))
    (fun B B' pre W hBB h => ⟨⟨⟨by obtain ⟨v, h1, h2, h3⟩ := h.1.1.1; exact ⟨v, h1, h2, fun g hg => Nat.lt_of_lt_of_le (h3 g hg) hBB⟩, h.1.1.2⟩, h.1.2⟩, Nat.lt_of_lt_of_le h.2 hBB⟩)
    (fun _ _ _ _ _ hs _ _ => hs)
    ⟨⟨⟨⟨_, bO, World.ownsRow_nil _ _ _ _, by simp [Value.ownBlock]⟩, bS⟩, hB0⟩, by omega⟩
    (fun (x : Int × S30) (a' : Act) (W : World) => ∃ Bx, Hid (W.heap[Bx]? = some (.cells #[.int .i32 x.2.f0, .int .i64 x.2.f1] 30 (0, 0))) ∧ a' = { tmps := #[.string s, undef, .slice none 0 0, .pointer (some ⟨w.heap.size, 0, none⟩), undef, .pointer (some ⟨Bx, 0, none⟩), .string s, .func (.func 60) #[] #[.pointer (some ⟨w.heap.size + 1, 0, none⟩)], .int .i64 x.1, .agg #[.int .i32 x.2.f0, .int .i64 x.2.f1], undef, undef, undef, undef, undef], defers := [] })
    (fun x a' _ X Y row hs hg hr => by
      obtain ⟨Bx, h1, h2⟩ := hs
      refine ⟨Bx, ?_, h2⟩
      refine (hg.block Bx (Array.getElem?_eq_some_iff.1 h1).1 (fun e => ?_)).trans h1
      obtain ⟨_, o, ho, hc⟩ := hr Bx e.symm
      rw [show X.heap[Bx]? = _ from h1] at ho; cases ho; cases hc)
    ?assign ?body ?done ?stop
  case assign =>
    rintro l B pre x W K hCW hBW hI hK
    have hsz1 := hI.1.2.size
    gi_wp2
    exact hK _ _ ((KeepsOthers.alloc _ _).from _) (KeepB.of_below hsz1 ((Below.refl _ W).alloc (Nat.le_refl _) _)) ⟨⟨⟨by obtain ⟨v, h1, h2, h3⟩ := hI.1.1.1; exact ⟨v, h1.alloc _, h2.alloc _, h3⟩, hI.1.1.2.alloc _⟩, hI.1.2.alloc hsz1 _⟩, hI.2⟩ ⟨W.heap.size, Lib.hid (World.alloc_heap_new W _), rfl⟩
  case body =>
    rintro l B pre x a' W hl hCW hr hBW ⟨⟨⟨⟨v, hv, hrow, hvB⟩, hbs⟩, hB⟩, hoB⟩ ⟨Bx, hBx, rfl⟩ hlt
    have hc := hv.cell
    have hsz1 := hB.size
    have hcx0 : W.cell? ⟨Bx, 0, none⟩ = some (.int .i32 x.2.f0) := by simp [World.cell?, show W.heap[Bx]? = _ from hBx]
    have hcx1 : W.cell? ⟨Bx, 1, none⟩ = some (.int .i64 x.2.f1) := by simp [World.cell?, show W.heap[Bx]? = _ from hBx]
    have hu := Tryd.underlying30
    gi_wp2_with (gi_at_builtin; refine wpListIn_append_own _ rfl _ _ 27 rfl w.heap.size 30 i0 _ 2 16 Tryd.underlying27 hi hz0 hz1 hz2 rfl (by decide) _ _ _ rfl (hrow.alloc _) ⟨W.heap.size, 0, none⟩ 1 1 [.int .i32 x.2.f0, .int .i64 x.2.f1] rfl rfl (cells_two_new _ _ _ _) (by simp [Value.oneCell']) (by unfold maxLen; omega) (by omega) (by simp; omega) ?_; intro v' w1 hown' hgrow _; obtain ⟨g', cap', rfl⟩ := ownsRow_succ hown'; obtain ⟨hv1, hv2, hr2, hk2, hb2⟩ := hv.appended (by decide) hrow hsz1 (Nat.le_refl _) hown' hgrow; have hkb := appended_keepB (v' := .slice (some ⟨g', 0, none⟩) (pre.length + 1) cap') (Pr := fun k => k = w.heap.size + 1) hgrow hoB (fun k hk => ⟨by omega, by rw [hk]; exact hbs.not_row (by decide) hrow⟩) hvB; have hbs2 : Boxed (w1.setCell ⟨w.heap.size, 0, none⟩ (.slice (some ⟨g', 0, none⟩) (pre.length + 1) cap')) (w.heap.size + 1) 9 (.string s) := hkb _ _ (.inl rfl) hbs rfl; have hc1 := hv1.cell; have hf1 := hv1.frozen)
    have hsz2 : w.heap.size < (w1.setCell ⟨w.heap.size, 0, none⟩ (.slice (some ⟨g', 0, none⟩) (pre.length + 1) cap')).heap.size := hv2.lt
    exact ⟨hk2.from _, ⟨hb2, hkb⟩, ⟨⟨⟨_, hv2, by rw [List.map_append, List.map_cons, List.map_nil, cellsU_snoc, List.length_append]; exact hr2, fun g hg => own_lt hr2 g hg⟩, hbs2⟩, hB.trans hb2⟩, hsz2⟩
  case done =>
    rintro D ys W hD hys ⟨⟨⟨⟨v, hv, hrow, _⟩, _⟩, hB⟩, _⟩ hK
    have hc := hv.cell
    gi_wp2
    refine ⟨by simp, .inl ⟨_, _, rfl, run_takeDeferred hK, ?_⟩⟩
    refine ⟨_, results_tmp rfl _ _ _, v, rfl, ⟨fun _ _ => trivial, cellsU (unitsL s), ?_, reps_cellsU _ _ _ _⟩, hB.trans (belowK_b (w := w) (Nat.le_refl _) W D _ _ (by omega) hK rfl rfl)⟩
    have e : ys = walkU s := hys
    have h2 := ownsRow_putObj hrow (.deferred none) hK rfl
    rw [e] at h2
    have e2 : (unitsL s).length = (walkU s).length := by unfold unitsL; simp
    rw [e2]
    exact h2
  case stop =>
    rintro D c pre W _ _ h _
    exact h.elim

def unit_Units.f (a0 : ByteArray) : Option (List (S30)) := if a0.size ≤ 8796093022207 then some (unitsL a0) else none
theorem unit_Units.calls (a0 : ByteArray) (r : List (S30)) (w : World) (hT : Lib.Utf8Tabs 0 1 w) (h : unit_Units.f a0 = some r) :
    Calls Tryd.prog 23 #[.string a0] w fun e w' => ∃ v0_ : Value, e = .returned (v0_) ∧ Kd.R k30 30 w' w.heap.size (fun _ => True) v0_ r ∧ Below w.heap.size w w' := by
  unfold unit_Units.f at h
  split at h
  · obtain rfl := Option.some.inj h
    rename_i hs
    exact units_any a0 w hs hT
  · cases h
end Go.Proofs.YtfhnfhgpaoddbaaDoor.U
