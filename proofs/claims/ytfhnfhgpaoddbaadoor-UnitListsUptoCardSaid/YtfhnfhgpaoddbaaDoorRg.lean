/- A range over a function whose iterator keeps cells of its own between a call of yield and what follows it: the round is told a bound B below which its own rows lie, and keeps the cells from B on. (As Rf's, and each round is told that what it is handed is a beginning of what is listed.) And: a region that draws its order, in a round. -/
import Derived.RangeFuncNested
import Derived.RangeFuncBound
import Derived.RangeFuncCalls
import Derived.RangeFuncLeaves
import Derived.Sort.BigQuietIn
namespace Go.Proofs.YtfhnfhgpaoddbaaDoor.Rg
open Go Go.RowKit

/-- What a round keeps: what lies below n₀; the cells that lie from B on; and the cells of the blocks of Pr (what the iterator has captured). -/
def KeepB (n₀ : Nat) (Pr : Nat → Prop) (B : Nat) (W W' : World) : Prop :=
  Below n₀ W W' ∧ ∀ (k : Nat) (o : Obj), (Pr k ∨ B ≤ k) → W.heap[k]? = some o → o.isCells = true → W'.heap[k]? = some o

theorem KeepB.refl (n₀ : Nat) (Pr : Nat → Prop) (B : Nat) (W : World) : KeepB n₀ Pr B W W := ⟨Below.refl _ _, fun _ _ _ h _ => h⟩
theorem KeepB.trans {n₀ : Nat} {Pr : Nat → Prop} {B : Nat} {X Y Z : World} (h : KeepB n₀ Pr B X Y) (k : KeepB n₀ Pr B Y Z) : KeepB n₀ Pr B X Z :=
  ⟨h.1.trans k.1, fun i o hi ho hc => k.2 i o hi (h.2 i o hi ho hc) hc⟩
theorem KeepB.of_below {n₀ : Nat} {Pr : Nat → Prop} {B : Nat} {X Y : World} (hn : n₀ ≤ X.heap.size) (h : Below X.heap.size X Y) : KeepB n₀ Pr B X Y :=
  ⟨h.mono hn, fun k _o _ ho _ => (h.block k (Array.getElem?_eq_some_iff.1 ho).1).trans ho⟩
theorem KeepB.putObj {n₀ : Nat} {Pr : Nat → Prop} {B : Nat} {W : World} {l : Nat} {o : Obj} (o' : Obj) (hn : n₀ ≤ W.heap.size) (hl : n₀ ≤ l) (h : W.heap[l]? = some o) (ho : o.isCells = false) : KeepB n₀ Pr B W (W.putObj l o') :=
  ⟨(Below.refl n₀ W).grown (grownBy_putObj' W l o') hn (fun k e => by cases e; omega), fun k p _ hk hc => by
    refine (World.putObj_heap_other (fun e => ?_)).trans hk
    subst e; rw [h] at hk; cases hk; rw [ho] at hc; cases hc⟩

/-- The iterator's contract: at each call of yield it tells a world W0 in which the caller's word held, and what it has laid since. -/
def SeqB {α : Type} (F : Fence) (n : Nat) (P : Program) (g : Nat) (lb : Array Value) (encs : α → Array Value) (n₀ : Nat) (Pr : Nat → Prop) (S Sp : List α → Prop) (N : Nat) (w : World) : Prop :=
  ∀ (l : Nat) (J Jx : List α → World → Prop) (W : World), Below w.heap.size w W → AbidesFrom W.heap.size J → AbidesFrom W.heap.size Jx →
    (∀ pre x W0 W1, J pre W0 → Below W0.heap.size W0 W1 → pre.length < N → Sp (pre ++ [x]) → YieldAt F (n - 1) P l (encs x) W1 fun e W' =>
      (e = .returned (.bool true) ∧ J (pre ++ [x]) W' ∧ KeepB n₀ Pr W0.heap.size W1 W') ∨ (e = .returned (.bool false) ∧ Jx (pre ++ [x]) W')) →
    J [] W →
    CallsIn F n P g (#[.func (.yield l) #[] #[]] ++ lb) W fun e W' => (∃ v, e = .returned v) ∧ ((∃ xs, S xs ∧ J xs W') ∨ (∃ pre, Sp pre ∧ Jx pre W'))

theorem SeqB.inRound {α : Type} {F : Fence} {n : Nat} {P : Program} {g : Nat} {lb : Array Value} {encs : α → Array Value} {n₀ : Nat} {Pr : Nat → Prop} {S Sp : List α → Prop} {N : Nat} {w : World} (l : Nat)
    (h : SeqB F n P g lb encs n₀ Pr S Sp N w) : SeqB (F.inRound l) n P g lb encs n₀ Pr S Sp N w := h

/-- How a round may be left. -/
def PostB {α : Type} (C n₀ : Nat) (Pr : Nat → Prop) (B : Nat) (I : Nat → List α → World → Prop) (Ix : Code → List α → World → Prop) (xs : List α) (W : World) : Exit → Act → World → Prop
  | .normal, _, W' => KeepsFrom C W W' ∧ KeepB n₀ Pr B W W' ∧ I W'.heap.size xs W'
  | .ret, _, W' => KeepsFrom C W W' ∧ Ix .ret xs W'
  | .exit id, _, W' => KeepsFrom C W W' ∧ Ix (.exit id) xs W'
  | .goto t, _, W' => KeepsFrom C W W' ∧ Ix (.goto t) xs W'
  | .panic _, _, _ => False
  | .outgrown, _, _ => False

variable {F : Fence} {n : Nat} {P : Program}

/-- What of a loop's own book-keeping lasts through its rounds: its record, and the block for deferred calls, where there is one. -/
structure Book (dz : Option Nat) (L : Nat) (r : Loop) (W : World) : Prop where
  at_ : W.heap[L]? = some (.loop r)
  dz_ : ∀ d, dz = some d → W.heap[d]? = some (.deferred (some []))

theorem Book.walks {dz : Option Nat} {L : Nat} {r : Loop} {A B : World} {row : Option Nat} (h : Book dz L r A) (hg : A.grownBy B row) (hr : ∀ k, row = some k → ∃ o : Obj, A.heap[k]? = some o ∧ o.isWalk = true) : Book dz L r B :=
  ⟨(grownBy_keeps hg hr h.at_ rfl).trans h.at_, fun d e => (grownBy_keeps hg hr (h.dz_ d e) rfl).trans (h.dz_ d e)⟩
theorem Book.from_ {dz : Option Nat} {L C : Nat} {r : Loop} {A B : World} (h : Book dz L r A) (hL : C ≤ L) (hd : ∀ d, dz = some d → C ≤ d ∧ d ≠ L) (hk : KeepsFrom C A B) : Book dz L r B :=
  ⟨hk.same _ _ hL h.at_ rfl, fun d e => hk.same _ _ (hd d e).1 (h.dz_ d e) rfl⟩
theorem Book.put {dz : Option Nat} {L C : Nat} {r : Loop} {A : World} (h : Book dz L r A) (hd : ∀ d, dz = some d → C ≤ d ∧ d ≠ L) (r' : Loop) : Book dz L r' (A.putObj L (.loop r')) :=
  ⟨World.putObj_heap_same (Array.getElem?_eq_some_iff.1 h.at_).1, fun d e => (World.putObj_heap_other (hd d e).2).trans (h.dz_ d e)⟩

/-- The rounds, whichever way the loop was entered. -/
theorem rounds {α : Type} {fid : FuncId} {ps : Array Tmp} {assign body : Code} {tm : Array Value} {C n₀ L D gf : Nat} {Pr : Nat → Prop} {lb : Array Value} {W1 w0 : World} {dz : Option Nat}
    {encs : α → Array Value} {S Sp : List α → Prop} {N : Nat} (hfid : F.fn fid) (hseq : SeqB F (n - 1) P gf lb encs n₀ Pr S Sp N w0) (hb1 : Below w0.heap.size w0 W1) (hps : ∀ x, (encs x).size = ps.size)
    (rec : LoopState → Option Code → Loop) (hrec : rec = fun st pe => { state := st, pending := pe, fn := fid, tmps := tm, params := ps, assign, body, defers := D })
    (hnC : n₀ ≤ C) (hCL : C ≤ L) (hCW : C ≤ W1.heap.size) (hdz : ∀ d, dz = some d → C ≤ d ∧ d ≠ L) (hbk : Book dz L (rec .ready none) W1)
    (I : Nat → List α → World → Prop) (Ix : Code → List α → World → Prop) (hI : ∀ B, OwnFrom C (I B)) (hm : ∀ B B' pre W, B ≤ B' → I B pre W → I B' pre W) (hIx : ∀ c, OwnFrom C (Ix c)) (h0 : I W1.heap.size [] W1)
    (Ax : α → Act → World → Prop) (hAx : ∀ x a', OwnFrom C (fun (_ : Unit) W => Ax x a' W))
    (hassign : ∀ (B : Nat) (pre : List α) (x : α) (W : World) (K : Act → World → Prop), C ≤ W.heap.size → B ≤ W.heap.size → I B pre W → (∀ a' W', KeepsFrom C W W' → KeepB n₀ Pr B W W' → I B pre W' → Ax x a' W' → K a' W') →
      assign.wpIn (F.inRound L) (n - 1 - 1) P (Exit.then K (fun _ _ _ => False)) { tmps := (ps.zip (encs x)).foldl (fun t (p, v) => t.setIfInBounds p v) tm, defers := [] } W)
    (hbody : ∀ (B : Nat) (pre : List α) (x : α) (a' : Act) (W : World), C ≤ W.heap.size → (∃ r, W.heap[L]? = some (.loop r)) → B ≤ W.heap.size → I B pre W → Ax x a' W → pre.length < N → Sp (pre ++ [x]) → body.wpIn (F.inRound L) (n - 1 - 1) P (PostB C n₀ Pr B I Ix (pre ++ [x]) W) a' W) :
    CallsIn F (n - 1) P gf (#[.func (.yield L) #[] #[]] ++ lb) W1 fun e W' => (∃ v, e = .returned v) ∧
      ((∃ xs, S xs ∧ C ≤ W'.heap.size ∧ I W'.heap.size xs W' ∧ Book dz L (rec .ready none) W') ∨ (∃ pre c, Sp pre ∧ C ≤ W'.heap.size ∧ Ix c pre W' ∧ Book dz L (rec .done (some c)) W')) := by
  have hC0 : ∀ {A B : World} {row : Option Nat}, (∀ r, row = some r → W1.heap.size ≤ r ∧ ∃ o : Obj, A.heap[r]? = some o ∧ o.isWalk = true) → (∀ r, row = some r → C ≤ r ∧ ∃ o : Obj, A.heap[r]? = some o ∧ o.isCells = false) :=
    fun hr r e => by obtain ⟨hB, o, ho, hw⟩ := hr r e; exact ⟨Nat.le_trans hCW hB, o, ho, Obj.not_cells_of_walk hw⟩
  refine (hseq L (fun pre W => I W.heap.size pre W ∧ Book dz L (rec .ready none) W ∧ C ≤ W.heap.size) (fun pre W => ∃ c, Ix c pre W ∧ Book dz L (rec .done (some c)) W ∧ C ≤ W.heap.size) W1 hb1 ?_ ?_ ?_ ⟨h0, hbk, hCW⟩).mono ?_
  · rintro s A B row ⟨h1, h2, h3⟩ hg hr
    exact ⟨hm _ _ _ _ hg.size (hI _ s A B row h1 hg (hC0 (B := B) hr)), h2.walks hg (fun r e => (hr r e).2), Nat.le_trans h3 hg.size⟩
  · rintro s A B row ⟨c, h1, h2, h3⟩ hg hr
    exact ⟨c, hIx c s A B row h1 hg (hC0 (B := B) hr), h2.walks hg (fun r e => (hr r e).2), Nat.le_trans h3 hg.size⟩
  · rintro pre x W0 W ⟨hi0, hb0, hC⟩ hbel hlen hsp
    have hg : W0.grownBy W none := ⟨hbel.os, hbel.tape, hbel.output, hbel.size, fun i hi _ => hbel.block i hi⟩
    have hi : I W0.heap.size pre W := hI _ pre W0 W none hi0 hg (fun r e => by cases e)
    have hb : Book dz L (rec .ready none) W := hb0.walks hg (fun r e => by cases e)
    have hCW' : C ≤ W.heap.size := Nat.le_trans hC hbel.size
    have hy := run_yield (P := P) (args := encs x) hb.at_ (by rw [hrec]; exact hps x)
    rw [hrec] at hy
    refine ⟨fid, _, assign, body, hy, roundIn_of_wpIn hfid (hassign W0.heap.size pre x W _ hCW' hbel.size hi ?_)⟩
    intro a' Wa hkf hkb hia hax
    have hba := hb.from_ hCL hdz hkf
    have hCa : C ≤ Wa.heap.size := Nat.le_trans hCW' hkf.size
    refine ⟨_, run_beginRound hba.at_ (by rw [hrec]), ?_⟩
    have hba2 := hba.put (C := C) hdz { rec .ready none with state := .busy }
    have hkb2 : KeepB n₀ Pr W0.heap.size Wa (Wa.putObj L (.loop { rec .ready none with state := .busy })) := KeepB.putObj _ (Nat.le_trans hnC hCa) (Nat.le_trans hnC hCL) hba.at_ rfl
    have hsz2 : (Wa.putObj L (.loop { rec .ready none with state := .busy })).heap.size = Wa.heap.size := by simp
    refine wpIn_mono (hbody W0.heap.size pre x a' _ (by rw [hsz2]; exact hCa) ⟨_, hba2.at_⟩ (by rw [hsz2]; exact Nat.le_trans hbel.size hkf.size) ((hI _).putObj _ hia hCL hba.at_ rfl) ((hAx x a').putObj (s := ()) _ hax hCL hba.at_ rfl) hlen hsp) ?_
    have fin : ∀ (jump : Option Code) (W3 : World), KeepsFrom C (Wa.putObj L (.loop { rec .ready none with state := .busy })) W3 →
        (Instr.endRound L jump).run P W3 = .ok (.bool jump.isNone) (W3.putObj L (.loop (rec (if jump.isNone then .ready else .done) jump))) ∧
        W3.heap[L]? = some (.loop { rec .ready none with state := .busy }) ∧ Book dz L (rec (if jump.isNone then .ready else .done) jump) (W3.putObj L (.loop (rec (if jump.isNone then .ready else .done) jump))) ∧
        C ≤ (W3.putObj L (.loop (rec (if jump.isNone then .ready else .done) jump))).heap.size := fun jump W3 hk3 => by
      have hb3 := hba2.from_ hCL hdz hk3
      have he := run_endRound (P := P) jump hb3.at_
      refine ⟨?_, hb3.at_, hb3.put (C := C) hdz _, by have := hk3.size; rw [hsz2] at this; simp; omega⟩
      rw [hrec] at he ⊢
      exact he
    rintro e a3 W3 hp
    cases e with
    | normal =>
      obtain ⟨hk3, hkp3, hi3⟩ := hp
      obtain ⟨hr, hl3, hb4, hC4⟩ := fin none W3 hk3
      have hsz3 : n₀ ≤ W3.heap.size := Nat.le_trans hnC (by simpa using hC4)
      refine ⟨_, _, hr, .inl ⟨rfl, ⟨?_, hb4, hC4⟩, ((hkb.trans hkb2).trans hkp3).trans (KeepB.putObj _ hsz3 (Nat.le_trans hnC hCL) hl3 rfl)⟩⟩
      have hx := (hI _).putObj (.loop (rec .ready none)) hi3 hCL hl3 rfl
      simpa using hx
    | ret =>
      obtain ⟨hk3, hi3⟩ := hp
      obtain ⟨hr, hl3, hb4, hC4⟩ := fin (some .ret) W3 hk3
      exact ⟨_, _, hr, .inr ⟨rfl, .ret, (hIx _).putObj _ hi3 hCL hl3 rfl, hb4, hC4⟩⟩
    | exit id =>
      obtain ⟨hk3, hi3⟩ := hp
      obtain ⟨hr, hl3, hb4, hC4⟩ := fin (some (.exit id)) W3 hk3
      exact ⟨_, _, hr, .inr ⟨rfl, .exit id, (hIx _).putObj _ hi3 hCL hl3 rfl, hb4, hC4⟩⟩
    | goto t =>
      obtain ⟨hk3, hi3⟩ := hp
      obtain ⟨hr, hl3, hb4, hC4⟩ := fin (some (.goto t)) W3 hk3
      exact ⟨_, _, hr, .inr ⟨rfl, .goto t, (hIx _).putObj _ hi3 hCL hl3 rfl, hb4, hC4⟩⟩
    | panic ch => exact hp.elim
    | outgrown => exact hp.elim
  · rintro e W2 ⟨⟨v, rfl⟩, (⟨xs, hS, hi, hb, hC⟩ | ⟨pre, hSp, c, hi, hb, hC⟩)⟩
    · exact ⟨⟨v, rfl⟩, .inl ⟨xs, hS, hC, hi, hb⟩⟩
    · exact ⟨⟨v, rfl⟩, .inr ⟨pre, c, hSp, hC, hi, hb⟩⟩

/-- A loop that stands in no round. -/
theorem range_outer {α : Type} {g : Operand} {ps : Array Tmp} {assign body : Code} {Q : Exit → Act → World → Prop} {a : Act} {w : World} {n₀ : Nat} {Pr : Nat → Prop}
    (hro : F.round = none) (h1 : 1 ≤ n) {gf : Nat} {lb : Array Value} (hg : a.eval g = .func (.func gf) #[] lb) (hFg : F.fn gf) (eg : ∀ args w, (callFunc gf args).run P w = .ok (.enter gf args) w)
    {encs : α → Array Value} {S Sp : List α → Prop} {N : Nat} {w0 : World} (hseq : SeqB F (n - 1) P gf lb encs n₀ Pr S Sp N w0) (hb0 : Below w0.heap.size w0 w) (hps : ∀ x, (encs x).size = ps.size) (hn₀ : n₀ ≤ w.heap.size)
    (I : Nat → List α → World → Prop) (Ix : Code → List α → World → Prop) (hI : ∀ B, OwnFrom w.heap.size (I B)) (hm : ∀ B B' pre W, B ≤ B' → I B pre W → I B' pre W) (hIx : ∀ c, OwnFrom w.heap.size (Ix c)) (h0 : I w.heap.size [] w)
    (Ax : α → Act → World → Prop) (hAx : ∀ x a', OwnFrom w.heap.size (fun (_ : Unit) W => Ax x a' W))
    (hassign : ∀ (l B : Nat) (pre : List α) (x : α) (W : World) (K : Act → World → Prop), w.heap.size ≤ W.heap.size → B ≤ W.heap.size → I B pre W → (∀ a' W', KeepsFrom w.heap.size W W' → KeepB n₀ Pr B W W' → I B pre W' → Ax x a' W' → K a' W') →
      assign.wpIn (F.inRound l) (n - 1 - 1) P (Exit.then K (fun _ _ _ => False)) { tmps := (ps.zip (encs x)).foldl (fun t (p, v) => t.setIfInBounds p v) a.tmps, defers := [] } W)
    (hbody : ∀ (l B : Nat) (pre : List α) (x : α) (a' : Act) (W : World), w.heap.size ≤ l → w.heap.size ≤ W.heap.size → (∃ r, W.heap[l]? = some (.loop r)) → B ≤ W.heap.size → I B pre W → Ax x a' W → pre.length < N → Sp (pre ++ [x]) → body.wpIn (F.inRound l) (n - 1 - 1) P (PostB w.heap.size n₀ Pr B I Ix (pre ++ [x]) W) a' W)
    (hdone : ∀ (D : Nat) (xs : List α) (W : World), w.heap.size ≤ D → S xs → I W.heap.size xs W → W.heap[D]? = some (.deferred (some [])) → Q .normal { a with defers := { target := .collected D, args := #[] } :: a.defers } W)
    (hstop : ∀ (D : Nat) (c : Code) (pre : List α) (W : World), w.heap.size ≤ D → Sp pre → Ix c pre W → W.heap[D]? = some (.deferred (some [])) → c.wpIn F n P Q { a with defers := { target := .collected D, args := #[] } :: a.defers } W) :
    (Code.rangeFunc g ps assign body).wpIn F n P Q a w := by
  refine wpIn_rangeFunc ?_
  intro fid hfid
  rw [hro]
  obtain ⟨rec, hrec⟩ : ∃ rec : LoopState → Option Code → Loop, rec = fun st pe => { state := st, pending := pe, fn := fid, tmps := a.tmps, params := ps, assign, body, defers := w.heap.size } := ⟨_, rfl⟩
  obtain ⟨W1, hW1⟩ : ∃ W1, (w.alloc (.deferred (some []))).alloc (.loop (rec .ready none)) = W1 := ⟨_, rfl⟩
  have hbk : Book (some w.heap.size) (w.heap.size + 1) (rec .ready none) W1 := by
    rw [← hW1]
    refine ⟨?_, fun d e => ?_⟩
    · have := World.alloc_heap_new (w.alloc (.deferred (some []))) (.loop (rec .ready none)); rwa [World.size_alloc] at this
    · cases e; exact (Below.heap_alloc _ _ _ (by simp)).trans (World.alloc_heap_new w _)
  have hsz : W1.heap.size = w.heap.size + 2 := by rw [← hW1]; simp
  have hI1 : I W1.heap.size [] W1 := hm w.heap.size W1.heap.size [] W1 (by omega) (by rw [← hW1]; exact (hI w.heap.size).alloc _ ((hI w.heap.size).alloc _ h0))
  have hb1 : Below w0.heap.size w0 W1 := by
    rw [← hW1]; exact hb0.trans ((((Below.refl _ w).alloc (Nat.le_refl _) _).alloc (by simp) _).mono hb0.size)
  refine ⟨w.heap.size + 1, [{ target := .collected w.heap.size, args := #[] }], W1, { target := .fn (.func gf) lb, args := #[.func (.yield (w.heap.size + 1)) #[] #[]] }, W1, gf,
    #[.func (.yield (w.heap.size + 1)) #[] #[]] ++ lb, W1, ?_, ?_, ?_, ?_, fun _ => h1, ?_⟩
  · rw [← hW1, hrec]; exact run_enterLoop_outer _ _ _ _ _
  · simp only [resolve, hg]
    simp [go_sem]
  · intro f' hf'; simp [Target.leads] at hf'; subst hf'; exact hFg
  · simp [invoke, go_sem, eg]
  · refine (rounds (C := w.heap.size) (dz := some w.heap.size) hfid hseq hb1 hps rec hrec hn₀ (by omega) (by omega) (fun d e => by cases e; exact ⟨Nat.le_refl _, by omega⟩) hbk I Ix hI hm hIx hI1 Ax hAx
      (fun B => hassign _ B) (fun B pre x a' W => hbody _ B pre x a' W (by omega))).mono ?_
    rintro e W2 ⟨⟨v, rfl⟩, (⟨xs, hS, hC, hi, hb⟩ | ⟨pre, c, hSp, hC, hi, hb⟩)⟩
    · refine ⟨none, _, by have := run_endLoop (P := P) hb.at_ (by rw [hrec]; simp); rw [hrec] at this; exact this, hdone w.heap.size xs _ (Nat.le_refl _) hS ?_ ((World.putObj_heap_other (by omega)).trans (hb.dz_ _ rfl))⟩
      have hx := (hI _).putObj (.loop { rec .ready none with state := .exhausted }) hi (by omega : w.heap.size ≤ w.heap.size + 1) hb.at_ rfl
      rw [hrec] at hx
      simpa using hx
    · exact ⟨some c, _, by have := run_endLoop (P := P) hb.at_ (by rw [hrec]; simp); rw [hrec] at this; exact this, hstop w.heap.size c pre _ (Nat.le_refl _) hSp ((hIx c).putObj _ hi (by omega) hb.at_ rfl) ((World.putObj_heap_other (by omega)).trans (hb.dz_ _ rfl))⟩

/-- A loop that stands in a round of loop l₀. -/
theorem range_inner {α : Type} {g : Operand} {ps : Array Tmp} {assign body : Code} {Q : Exit → Act → World → Prop} {a : Act} {w : World} {n₀ : Nat} {Pr : Nat → Prop} {l₀ : Nat} {r₀ : Loop}
    (hro : F.round = some l₀) (hl₀ : w.heap[l₀]? = some (.loop r₀)) (h1 : 1 ≤ n) {gf : Nat} {lb : Array Value} (hg : a.eval g = .func (.func gf) #[] lb) (hFg : F.fn gf) (eg : ∀ args w, (callFunc gf args).run P w = .ok (.enter gf args) w)
    {encs : α → Array Value} {S Sp : List α → Prop} {N : Nat} {w0 : World} (hseq : SeqB F (n - 1) P gf lb encs n₀ Pr S Sp N w0) (hb0 : Below w0.heap.size w0 w) (hps : ∀ x, (encs x).size = ps.size) (hn₀ : n₀ ≤ w.heap.size)
    (I : Nat → List α → World → Prop) (Ix : Code → List α → World → Prop) (hI : ∀ B, OwnFrom w.heap.size (I B)) (hm : ∀ B B' pre W, B ≤ B' → I B pre W → I B' pre W) (hIx : ∀ c, OwnFrom w.heap.size (Ix c)) (h0 : I w.heap.size [] w)
    (Ax : α → Act → World → Prop) (hAx : ∀ x a', OwnFrom w.heap.size (fun (_ : Unit) W => Ax x a' W))
    (hassign : ∀ (l B : Nat) (pre : List α) (x : α) (W : World) (K : Act → World → Prop), w.heap.size ≤ W.heap.size → B ≤ W.heap.size → I B pre W → (∀ a' W', KeepsFrom w.heap.size W W' → KeepB n₀ Pr B W W' → I B pre W' → Ax x a' W' → K a' W') →
      assign.wpIn (F.inRound l) (n - 1 - 1) P (Exit.then K (fun _ _ _ => False)) { tmps := (ps.zip (encs x)).foldl (fun t (p, v) => t.setIfInBounds p v) a.tmps, defers := [] } W)
    (hbody : ∀ (l B : Nat) (pre : List α) (x : α) (a' : Act) (W : World), w.heap.size ≤ l → w.heap.size ≤ W.heap.size → (∃ r, W.heap[l]? = some (.loop r)) → B ≤ W.heap.size → I B pre W → Ax x a' W → pre.length < N → Sp (pre ++ [x]) → body.wpIn (F.inRound l) (n - 1 - 1) P (PostB w.heap.size n₀ Pr B I Ix (pre ++ [x]) W) a' W)
    (hdone : ∀ (xs : List α) (W : World), w.heap.size ≤ W.heap.size → S xs → I W.heap.size xs W → Q .normal a W)
    (hstop : ∀ (c : Code) (pre : List α) (W : World), w.heap.size ≤ W.heap.size → Sp pre → Ix c pre W → c.wpIn F n P Q a W) :
    (Code.rangeFunc g ps assign body).wpIn F n P Q a w := by
  refine wpIn_rangeFunc ?_
  intro fid hfid
  rw [hro]
  obtain ⟨rec, hrec⟩ : ∃ rec : LoopState → Option Code → Loop, rec = fun st pe => { state := st, pending := pe, fn := fid, tmps := a.tmps, params := ps, assign, body, defers := r₀.defers } := ⟨_, rfl⟩
  obtain ⟨W1, hW1⟩ : ∃ W1, w.alloc (.loop (rec .ready none)) = W1 := ⟨_, rfl⟩
  have hbk : Book none w.heap.size (rec .ready none) W1 := by
    rw [← hW1]
    exact ⟨World.alloc_heap_new w _, fun d e => by cases e⟩
  have hsz : W1.heap.size = w.heap.size + 1 := by rw [← hW1]; simp
  have hI1 : I W1.heap.size [] W1 := hm w.heap.size W1.heap.size [] W1 (by omega) (by rw [← hW1]; exact (hI w.heap.size).alloc _ h0)
  have hb1 : Below w0.heap.size w0 W1 := by
    rw [← hW1]; exact hb0.trans (((Below.refl _ w).alloc (Nat.le_refl _) _).mono hb0.size)
  refine ⟨w.heap.size, [], W1, { target := .fn (.func gf) lb, args := #[.func (.yield w.heap.size) #[] #[]] }, W1, gf, #[.func (.yield w.heap.size) #[] #[]] ++ lb, W1, ?_, ?_, ?_, ?_, fun _ => h1, ?_⟩
  · rw [← hW1, hrec]; exact run_enterLoop_inner hl₀ _ _ _ _ _
  · simp only [resolve, hg]
    simp [go_sem]
  · intro f' hf'; simp [Target.leads] at hf'; subst hf'; exact hFg
  · simp [invoke, go_sem, eg]
  · refine (rounds (C := w.heap.size) (dz := none) hfid hseq hb1 hps rec hrec hn₀ (Nat.le_refl _) (by omega) (fun d e => by cases e) hbk I Ix hI hm hIx hI1 Ax hAx
      (fun B => hassign _ B) (fun B pre x a' W => hbody _ B pre x a' W (Nat.le_refl _))).mono ?_
    rintro e W2 ⟨⟨v, rfl⟩, (⟨xs, hS, hC, hi, hb⟩ | ⟨pre, c, hSp, hC, hi, hb⟩)⟩
    · refine ⟨none, _, by have := run_endLoop (P := P) hb.at_ (by rw [hrec]; simp); rw [hrec] at this; exact this, hdone xs _ (by simpa using hC) hS ?_⟩
      have hx := (hI _).putObj (.loop { rec .ready none with state := .exhausted }) hi (Nat.le_refl _) hb.at_ rfl
      rw [hrec] at hx
      simpa using hx
    · exact ⟨some c, _, by have := run_endLoop (P := P) hb.at_ (by rw [hrec]; simp); rw [hrec] at this; exact this, hstop c pre _ (by simpa using hC) hSp ((hIx c).putObj _ hi (Nat.le_refl _) hb.at_ rfl)⟩

/-! ### A region that draws its order, in a round: walked once, in the text's order -/
section
variable {ops : Array Oper} {md : Region.Mode} {C : World → Prop}
theorem op_of_quiet {o : Oper} {a : Act} {K : Act → Prop} {K' : Act → World → Prop} {Q' : Exit → Act → World → Prop} {w : World} (hd : ∀ c, o.op ≠ .defer c) (hw : C w) (h : ∀ a w', C w' → K a → K' a w')
    (ha : o.askedIn F P a C) (hh : o.quietIn F n P a C K) : o.wpIn F n P a w K' Q' := by
  obtain ⟨v, h1, h2⟩ := hh
  have h3 := h1 w hw
  unfold Oper.quietAtIn at h3
  unfold Oper.wpIn
  refine ⟨ha w hw, ?_⟩
  rw [Oper.semAt_eq _ _ _ hd]
  generalize (execOp a.eval o).run P w = r at *
  cases r with
  | ok x w' =>
    cases x <;> simp only [Oper.quietUponIn] at h3 <;> simp only [Oper.uponIn]
    case value u =>
      obtain ⟨e1, e2⟩ := h3
      rw [e1, e2]
      exact h _ _ hw h2
    case skip =>
      obtain ⟨e1, e2⟩ := h3
      rw [e1, ← e2]
      exact h _ _ hw h2
    case enter f args =>
      obtain ⟨e1, hd, hc⟩ := h3
      rw [e1]
      exact ⟨hd, hc.mono fun e w'' ⟨he, hw''⟩ => by subst he; exact h _ _ hw'' h2⟩
  | halt x w' => simp only [Oper.quietUponIn] at h3
theorem opAt_of_quiet {i : Nat} {a : Act} {K : Act → Prop} {K' : Act → World → Prop} {Q' : Exit → Act → World → Prop} {w : World} (hd : ∀ (j : Nat) (o : Oper), ops[j]? = some o → ∀ c, o.op ≠ Op.defer c) (hC : C w) (h : ∀ a w', C w' → K a → K' a w')
    (hh : qOpIn F n P ops C i K a) : wpOpIn F n P ops Q' i K' a w := by
  unfold qOpIn at hh
  unfold wpOpIn
  split
  · rename_i ho; simp only [ho] at hh; exact h _ _ hC hh
  · rename_i o ho
    simp only [ho] at hh
    obtain ⟨ha, hh⟩ := hh
    split
    · rename_i hw; simp only [hw, if_true] at hh; exact op_of_quiet (hd _ _ ho) hC h ha hh
    · rename_i hw; simp only [hw] at hh; exact ⟨ha w hC, h _ _ hC hh⟩
theorem any_of_quiet {Q : Act → Prop} {Q' : Exit → Act → World → Prop} (hd : ∀ (j : Nat) (o : Oper), ops[j]? = some o → ∀ c, o.op ≠ Op.defer c) (hQ : ∀ a w, C w → Q a → Q' .normal a w) : ∀ (fuel : Nat) (listed : Array Bool) (a : Act) (w : World), C w →
    wpAnyQIn F n P md ops C Q fuel listed a → wpAnyIn F n P md ops Q' fuel listed a w
  | 0, _, _, _, hw, h => ⟨h.1, hQ _ _ hw h.2⟩
  | fuel + 1, _, _, _, hw, h => ⟨fun h0 => hQ _ _ hw (h.1 h0), fun i hi => opAt_of_quiet hd hw (fun a' w' hw' => any_of_quiet hd hQ fuel _ a' w' hw') (h.2 i hi)⟩
def noDefer : List Oper → Bool
  | [] => true
  | o :: l => (match o.op with | .defer _ => false | _ => true) && noDefer l
theorem noDefer_spec : ∀ {l : List Oper}, noDefer l = true → ∀ (j : Nat) (o : Oper), l[j]? = some o → ∀ c, o.op ≠ Op.defer c
  | [], _, _, _, h, _ => by simp at h
  | p :: l, hn, j, o, h, c => by
    simp only [noDefer, Bool.and_eq_true] at hn
    cases j with
    | zero => simp at h; subst h; intro e; rw [e] at hn; simp at hn
    | succ j => exact noDefer_spec hn.2 j o (by simpa using h) c
theorem region_quiet_lit {id : Nat} {Q : Exit → Act → World → Prop} {a : Act} {w : World} {l : List Oper} (hd : noDefer l = true) (hm : P.follows .mixedOrders = true) (hB : Region.lexB .any l.toArray = true)
    (h : wpQuietIn F n P l.toArray (fun w' => ∃ n, w' = w.drewN n) (fun a' => ∀ w', (∃ n, w' = w.drewN n) → Q .normal a' w') l a) : (Code.region id l.toArray true).wpIn F n P Q a w := by
  simp only [Region.lexB, Bool.and_eq_true] at hB
  refine wpIn_region_any hm (any_of_quiet (C := fun w' => ∃ n, w' = w.drewN n) (Q := fun a' => ∀ w', (∃ n, w' = w.drewN n) → Q .normal a' w') (fun j o ho => noDefer_spec hd j o (by simpa using ho)) (fun _ w' hw' h => h w' hw') _ _ _ _ ⟨1, rfl⟩ ?_)
  have := wpAnyQIn_lex (F := F) (n := n) (C := fun w' => ∃ n, w' = w.drewN n) (md := .any) hB.1 l 0 (Array.replicate l.length false) a (by simp) (by simpa using hB.2) h
  simpa using this
end
end Go.Proofs.YtfhnfhgpaoddbaaDoor.Rg
