/- What the law ClusterKeeps reaches of this seat's own texts, merged; what nothing uses is left out. -/
import Derived.Test.YtfhnfhgpaoddbaaDoorZClusterKeeps0
section
namespace Go.Proofs.YtfhnfhgpaoddbaaDoor.Rf
open Go Go.RowKit
/-- What a round keeps: what lies below n₀;the cells that lie from B on;and the cells of the blocks of Pr (what the iterator has captured). -/
def KeepB (n₀ : Nat) (Pr : Nat → Prop) (B : Nat) (W W' : World) : Prop :=
 Below n₀ W W' ∧ ∀ (k : Nat) (o : Obj),(Pr k ∨ B ≤ k) → W.heap[k]? = some o → o.isCells = true → W'.heap[k]? = some o
theorem KeepB.refl (n₀ : Nat) (Pr : Nat → Prop) (B : Nat) (W : World) : KeepB n₀ Pr B W W := ⟨Below.refl _ _,fun _ _ _ h _ => h⟩
theorem KeepB.trans {n₀ : Nat} {Pr : Nat → Prop} {B : Nat} {X Y Z : World} (h : KeepB n₀ Pr B X Y) (k : KeepB n₀ Pr B Y Z) : KeepB n₀ Pr B X Z :=
 ⟨h.1.trans k.1,fun i o hi ho hc => k.2 i o hi (h.2 i o hi ho hc) hc⟩
theorem KeepB.of_below {n₀ : Nat} {Pr : Nat → Prop} {B : Nat} {X Y : World} (hn : n₀ ≤ X.heap.size) (h : Below X.heap.size X Y) : KeepB n₀ Pr B X Y :=
 ⟨h.mono hn,fun k _o _ ho _ => (h.block k (Array.getElem?_eq_some_iff.1 ho).1).trans ho⟩
theorem KeepB.putObj {n₀ : Nat} {Pr : Nat → Prop} {B : Nat} {W : World} {l : Nat} {o : Obj} (o' : Obj) (hn : n₀ ≤ W.heap.size) (hl : n₀ ≤ l) (h : W.heap[l]? = some o) (ho : o.isCells = false) : KeepB n₀ Pr B W (W.putObj l o') :=
 ⟨(Below.refl n₀ W).grown (grownBy_putObj' W l o') hn (fun k e => by cases e;omega),fun k p _ hk hc => by
  refine (World.putObj_heap_other (fun e => ?_)).trans hk
  subst e;rw [h] at hk;cases hk;rw [ho] at hc;cases hc⟩
/-- The iterator's contract: at each call of yield it tells a world W0 in which the caller's word held,and what it has laid since. -/
def SeqB {α : Type} (F : Fence) (n : Nat) (P : Program) (g : Nat) (lb : Array Value) (encs : α → Array Value) (n₀ : Nat) (Pr : Nat → Prop) (S Sp : List α → Prop) (N : Nat) (w : World) : Prop :=
 ∀ (l : Nat) (J Jx : List α → World → Prop) (W : World),Below w.heap.size w W → AbidesFrom W.heap.size J → AbidesFrom W.heap.size Jx →
  (∀ pre x W0 W1,J pre W0 → Below W0.heap.size W0 W1 → pre.length < N → YieldAt F (n - 1) P l (encs x) W1 fun e W' =>
   (e = .returned (.bool true) ∧ J (pre ++ [x]) W' ∧ KeepB n₀ Pr W0.heap.size W1 W') ∨ (e = .returned (.bool false) ∧ Jx (pre ++ [x]) W')) →
  J [] W →
  CallsIn F n P g (#[.func (.yield l) #[] #[]] ++ lb) W fun e W' => (∃ v,e = .returned v) ∧ ((∃ xs,S xs ∧ J xs W') ∨ (∃ pre,Sp pre ∧ Jx pre W'))
theorem SeqB.inRound {α : Type} {F : Fence} {n : Nat} {P : Program} {g : Nat} {lb : Array Value} {encs : α → Array Value} {n₀ : Nat} {Pr : Nat → Prop} {S Sp : List α → Prop} {N : Nat} {w : World} (l : Nat)
  (h : SeqB F n P g lb encs n₀ Pr S Sp N w) : SeqB (F.inRound l) n P g lb encs n₀ Pr S Sp N w := h
/-- How a round may be left. -/
def PostB {α : Type} (C n₀ : Nat) (Pr : Nat → Prop) (B : Nat) (I : Nat → List α → World → Prop) (Ix : Code → List α → World → Prop) (xs : List α) (W : World) : Exit → Act → World → Prop
 | .normal,_,W' => KeepsFrom C W W' ∧ KeepB n₀ Pr B W W' ∧ I W'.heap.size xs W'
 | .ret,_,W' => KeepsFrom C W W' ∧ Ix .ret xs W'
 | .exit id,_,W' => KeepsFrom C W W' ∧ Ix (.exit id) xs W'
 | .goto t,_,W' => KeepsFrom C W W' ∧ Ix (.goto t) xs W'
 | .panic _,_,_ => False
 | .outgrown,_,_ => False
variable {F : Fence} {n : Nat} {P : Program}
/-- What of a loop's own book-keeping lasts through its rounds: its record,and the block for deferred calls,where there is one. -/
structure Book (dz : Option Nat) (L : Nat) (r : Loop) (W : World) : Prop where
 at_ : W.heap[L]? = some (.loop r)
 dz_ : ∀ d,dz = some d → W.heap[d]? = some (.deferred (some []))
theorem Book.walks {dz : Option Nat} {L : Nat} {r : Loop} {A B : World} {row : Option Nat} (h : Book dz L r A) (hg : A.grownBy B row) (hr : ∀ k,row = some k → ∃ o : Obj,A.heap[k]? = some o ∧ o.isWalk = true) : Book dz L r B :=
 ⟨(grownBy_keeps hg hr h.at_ rfl).trans h.at_,fun d e => (grownBy_keeps hg hr (h.dz_ d e) rfl).trans (h.dz_ d e)⟩
theorem Book.from_ {dz : Option Nat} {L C : Nat} {r : Loop} {A B : World} (h : Book dz L r A) (hL : C ≤ L) (hd : ∀ d,dz = some d → C ≤ d ∧ d ≠ L) (hk : KeepsFrom C A B) : Book dz L r B :=
 ⟨hk.same _ _ hL h.at_ rfl,fun d e => hk.same _ _ (hd d e).1 (h.dz_ d e) rfl⟩
theorem Book.put {dz : Option Nat} {L C : Nat} {r : Loop} {A : World} (h : Book dz L r A) (hd : ∀ d,dz = some d → C ≤ d ∧ d ≠ L) (r' : Loop) : Book dz L r' (A.putObj L (.loop r')) :=
 ⟨World.putObj_heap_same (Array.getElem?_eq_some_iff.1 h.at_).1,fun d e => (World.putObj_heap_other (hd d e).2).trans (h.dz_ d e)⟩
/-- The rounds,whichever way the loop was entered. -/
theorem rounds {α : Type} {fid : FuncId} {ps : Array Tmp} {assign body : Code} {tm : Array Value} {C n₀ L D gf : Nat} {Pr : Nat → Prop} {lb : Array Value} {W1 w0 : World} {dz : Option Nat}
  {encs : α → Array Value} {S Sp : List α → Prop} {N : Nat} (hfid : F.fn fid) (hseq : SeqB F (n - 1) P gf lb encs n₀ Pr S Sp N w0) (hb1 : Below w0.heap.size w0 W1) (hps : ∀ x,(encs x).size = ps.size)
  (rec : LoopState → Option Code → Loop) (hrec : rec = fun st pe => { state := st,pending := pe,fn := fid,tmps := tm,params := ps,assign,body,defers := D })
  (hnC : n₀ ≤ C) (hCL : C ≤ L) (hCW : C ≤ W1.heap.size) (hdz : ∀ d,dz = some d → C ≤ d ∧ d ≠ L) (hbk : Book dz L (rec .ready none) W1)
  (I : Nat → List α → World → Prop) (Ix : Code → List α → World → Prop) (hI : ∀ B,OwnFrom C (I B)) (hm : ∀ B B' pre W,B ≤ B' → I B pre W → I B' pre W) (hIx : ∀ c,OwnFrom C (Ix c)) (h0 : I W1.heap.size [] W1)
  (Ax : α → Act → World → Prop) (hAx : ∀ x a',OwnFrom C (fun (_ : Unit) W => Ax x a' W))
  (hassign : ∀ (B : Nat) (pre : List α) (x : α) (W : World) (K : Act → World → Prop),C ≤ W.heap.size → B ≤ W.heap.size → I B pre W → (∀ a' W',KeepsFrom C W W' → KeepB n₀ Pr B W W' → I B pre W' → Ax x a' W' → K a' W') →
   assign.wpIn (F.inRound L) (n - 1 - 1) P (Exit.then K (fun _ _ _ => False)) { tmps := (ps.zip (encs x)).foldl (fun t (p,v) => t.setIfInBounds p v) tm,defers := [] } W)
  (hbody : ∀ (B : Nat) (pre : List α) (x : α) (a' : Act) (W : World),C ≤ W.heap.size → (∃ r,W.heap[L]? = some (.loop r)) → B ≤ W.heap.size → I B pre W → Ax x a' W → pre.length < N → body.wpIn (F.inRound L) (n - 1 - 1) P (PostB C n₀ Pr B I Ix (pre ++ [x]) W) a' W) :
  CallsIn F (n - 1) P gf (#[.func (.yield L) #[] #[]] ++ lb) W1 fun e W' => (∃ v,e = .returned v) ∧
   ((∃ xs,S xs ∧ C ≤ W'.heap.size ∧ I W'.heap.size xs W' ∧ Book dz L (rec .ready none) W') ∨ (∃ pre c,Sp pre ∧ C ≤ W'.heap.size ∧ Ix c pre W' ∧ Book dz L (rec .done (some c)) W')) := by
 have hC0 : ∀ {A B : World} {row : Option Nat},(∀ r,row = some r → W1.heap.size ≤ r ∧ ∃ o : Obj,A.heap[r]? = some o ∧ o.isWalk = true) → (∀ r,row = some r → C ≤ r ∧ ∃ o : Obj,A.heap[r]? = some o ∧ o.isCells = false) :=
  fun hr r e => by obtain ⟨hB,o,ho,hw⟩ := hr r e;exact ⟨Nat.le_trans hCW hB,o,ho,Obj.not_cells_of_walk hw⟩
 refine (hseq L (fun pre W => I W.heap.size pre W ∧ Book dz L (rec .ready none) W ∧ C ≤ W.heap.size) (fun pre W => ∃ c,Ix c pre W ∧ Book dz L (rec .done (some c)) W ∧ C ≤ W.heap.size) W1 hb1 ?_ ?_ ?_ ⟨h0,hbk,hCW⟩).mono ?_
 ·rintro s A B row ⟨h1,h2,h3⟩ hg hr
  exact ⟨hm _ _ _ _ hg.size (hI _ s A B row h1 hg (hC0 (B := B) hr)),h2.walks hg (fun r e => (hr r e).2),Nat.le_trans h3 hg.size⟩
 ·rintro s A B row ⟨c,h1,h2,h3⟩ hg hr
  exact ⟨c,hIx c s A B row h1 hg (hC0 (B := B) hr),h2.walks hg (fun r e => (hr r e).2),Nat.le_trans h3 hg.size⟩
 ·rintro pre x W0 W ⟨hi0,hb0,hC⟩ hbel hlen
  have hg : W0.grownBy W none := ⟨hbel.os,hbel.tape,hbel.output,hbel.size,fun i hi _ => hbel.block i hi⟩
  have hi : I W0.heap.size pre W := hI _ pre W0 W none hi0 hg (fun r e => by cases e)
  have hb : Book dz L (rec .ready none) W := hb0.walks hg (fun r e => by cases e)
  have hCW' : C ≤ W.heap.size := Nat.le_trans hC hbel.size
  have hy := run_yield (P := P) (args := encs x) hb.at_ (by rw [hrec];exact hps x)
  rw [hrec] at hy
  refine ⟨fid,_,assign,body,hy,roundIn_of_wpIn hfid (hassign W0.heap.size pre x W _ hCW' hbel.size hi ?_)⟩
  intro a' Wa hkf hkb hia hax
  have hba := hb.from_ hCL hdz hkf
  have hCa : C ≤ Wa.heap.size := Nat.le_trans hCW' hkf.size
  refine ⟨_,run_beginRound hba.at_ (by rw [hrec]),?_⟩
  have hba2 := hba.put (C := C) hdz { rec .ready none with state := .busy }
  have hkb2 : KeepB n₀ Pr W0.heap.size Wa (Wa.putObj L (.loop { rec .ready none with state := .busy })) := KeepB.putObj _ (Nat.le_trans hnC hCa) (Nat.le_trans hnC hCL) hba.at_ rfl
  have hsz2 : (Wa.putObj L (.loop { rec .ready none with state := .busy })).heap.size = Wa.heap.size := by simp
  refine wpIn_mono (hbody W0.heap.size pre x a' _ (by rw [hsz2];exact hCa) ⟨_,hba2.at_⟩ (by rw [hsz2];exact Nat.le_trans hbel.size hkf.size) ((hI _).putObj _ hia hCL hba.at_ rfl) ((hAx x a').putObj (s := ()) _ hax hCL hba.at_ rfl) hlen) ?_
  have fin : ∀ (jump : Option Code) (W3 : World),KeepsFrom C (Wa.putObj L (.loop { rec .ready none with state := .busy })) W3 →
    (Instr.endRound L jump).run P W3 = .ok (.bool jump.isNone) (W3.putObj L (.loop (rec (if jump.isNone then .ready else .done) jump))) ∧
    W3.heap[L]? = some (.loop { rec .ready none with state := .busy }) ∧ Book dz L (rec (if jump.isNone then .ready else .done) jump) (W3.putObj L (.loop (rec (if jump.isNone then .ready else .done) jump))) ∧
    C ≤ (W3.putObj L (.loop (rec (if jump.isNone then .ready else .done) jump))).heap.size := fun jump W3 hk3 => by
   have hb3 := hba2.from_ hCL hdz hk3
   have he := run_endRound (P := P) jump hb3.at_
   refine ⟨?_,hb3.at_,hb3.put (C := C) hdz _,by have := hk3.size;rw [hsz2] at this;simp;omega⟩
   rw [hrec] at he ⊢
   exact he
  rintro e a3 W3 hp
  cases e with
  | normal =>
   obtain ⟨hk3,hkp3,hi3⟩ := hp
   obtain ⟨hr,hl3,hb4,hC4⟩ := fin none W3 hk3
   have hsz3 : n₀ ≤ W3.heap.size := Nat.le_trans hnC (by simpa using hC4)
   refine ⟨_,_,hr,.inl ⟨rfl,⟨?_,hb4,hC4⟩,((hkb.trans hkb2).trans hkp3).trans (KeepB.putObj _ hsz3 (Nat.le_trans hnC hCL) hl3 rfl)⟩⟩
   have hx := (hI _).putObj (.loop (rec .ready none)) hi3 hCL hl3 rfl
   simpa using hx
  | ret =>
   obtain ⟨hk3,hi3⟩ := hp
   obtain ⟨hr,hl3,hb4,hC4⟩ := fin (some .ret) W3 hk3
   exact ⟨_,_,hr,.inr ⟨rfl,.ret,(hIx _).putObj _ hi3 hCL hl3 rfl,hb4,hC4⟩⟩
  | exit id =>
   obtain ⟨hk3,hi3⟩ := hp
   obtain ⟨hr,hl3,hb4,hC4⟩ := fin (some (.exit id)) W3 hk3
   exact ⟨_,_,hr,.inr ⟨rfl,.exit id,(hIx _).putObj _ hi3 hCL hl3 rfl,hb4,hC4⟩⟩
  | goto t =>
   obtain ⟨hk3,hi3⟩ := hp
   obtain ⟨hr,hl3,hb4,hC4⟩ := fin (some (.goto t)) W3 hk3
   exact ⟨_,_,hr,.inr ⟨rfl,.goto t,(hIx _).putObj _ hi3 hCL hl3 rfl,hb4,hC4⟩⟩
  | panic ch => exact hp.elim
  | outgrown => exact hp.elim
 ·rintro e W2 ⟨⟨v,rfl⟩,(⟨xs,hS,hi,hb,hC⟩ | ⟨pre,hSp,c,hi,hb,hC⟩)⟩
  ·exact ⟨⟨v,rfl⟩,.inl ⟨xs,hS,hC,hi,hb⟩⟩
  ·exact ⟨⟨v,rfl⟩,.inr ⟨pre,c,hSp,hC,hi,hb⟩⟩
/-- A loop that stands in no round. -/
theorem range_outer {α : Type} {g : Operand} {ps : Array Tmp} {assign body : Code} {Q : Exit → Act → World → Prop} {a : Act} {w : World} {n₀ : Nat} {Pr : Nat → Prop}
  (hro : F.round = none) (h1 : 1 ≤ n) {gf : Nat} {lb : Array Value} (hg : a.eval g = .func (.func gf) #[] lb) (hFg : F.fn gf) (eg : ∀ args w,(callFunc gf args).run P w = .ok (.enter gf args) w)
  {encs : α → Array Value} {S Sp : List α → Prop} {N : Nat} {w0 : World} (hseq : SeqB F (n - 1) P gf lb encs n₀ Pr S Sp N w0) (hb0 : Below w0.heap.size w0 w) (hps : ∀ x,(encs x).size = ps.size) (hn₀ : n₀ ≤ w.heap.size)
  (I : Nat → List α → World → Prop) (Ix : Code → List α → World → Prop) (hI : ∀ B,OwnFrom w.heap.size (I B)) (hm : ∀ B B' pre W,B ≤ B' → I B pre W → I B' pre W) (hIx : ∀ c,OwnFrom w.heap.size (Ix c)) (h0 : I w.heap.size [] w)
  (Ax : α → Act → World → Prop) (hAx : ∀ x a',OwnFrom w.heap.size (fun (_ : Unit) W => Ax x a' W))
  (hassign : ∀ (l B : Nat) (pre : List α) (x : α) (W : World) (K : Act → World → Prop),w.heap.size ≤ W.heap.size → B ≤ W.heap.size → I B pre W → (∀ a' W',KeepsFrom w.heap.size W W' → KeepB n₀ Pr B W W' → I B pre W' → Ax x a' W' → K a' W') →
   assign.wpIn (F.inRound l) (n - 1 - 1) P (Exit.then K (fun _ _ _ => False)) { tmps := (ps.zip (encs x)).foldl (fun t (p,v) => t.setIfInBounds p v) a.tmps,defers := [] } W)
  (hbody : ∀ (l B : Nat) (pre : List α) (x : α) (a' : Act) (W : World),w.heap.size ≤ l → w.heap.size ≤ W.heap.size → (∃ r,W.heap[l]? = some (.loop r)) → B ≤ W.heap.size → I B pre W → Ax x a' W → pre.length < N → body.wpIn (F.inRound l) (n - 1 - 1) P (PostB w.heap.size n₀ Pr B I Ix (pre ++ [x]) W) a' W)
  (hdone : ∀ (D : Nat) (xs : List α) (W : World),w.heap.size ≤ D → S xs → I W.heap.size xs W → W.heap[D]? = some (.deferred (some [])) → Q .normal { a with defers := { target := .collected D,args := #[] } :: a.defers } W)
  (hstop : ∀ (D : Nat) (c : Code) (pre : List α) (W : World),w.heap.size ≤ D → Sp pre → Ix c pre W → W.heap[D]? = some (.deferred (some [])) → c.wpIn F n P Q { a with defers := { target := .collected D,args := #[] } :: a.defers } W) :
  (Code.rangeFunc g ps assign body).wpIn F n P Q a w := by
 refine wpIn_rangeFunc ?_
 intro fid hfid
 rw [hro]
 obtain ⟨rec,hrec⟩ : ∃ rec : LoopState → Option Code → Loop,rec = fun st pe => { state := st,pending := pe,fn := fid,tmps := a.tmps,params := ps,assign,body,defers := w.heap.size } := ⟨_,rfl⟩
 obtain ⟨W1,hW1⟩ : ∃ W1,(w.alloc (.deferred (some []))).alloc (.loop (rec .ready none)) = W1 := ⟨_,rfl⟩
 have hbk : Book (some w.heap.size) (w.heap.size + 1) (rec .ready none) W1 := by
  rw [← hW1]
  refine ⟨?_,fun d e => ?_⟩
  ·have := World.alloc_heap_new (w.alloc (.deferred (some []))) (.loop (rec .ready none));rwa [World.size_alloc] at this
  ·cases e;exact (Below.heap_alloc _ _ _ (by simp)).trans (World.alloc_heap_new w _)
 have hsz : W1.heap.size = w.heap.size + 2 := by rw [← hW1];simp
 have hI1 : I W1.heap.size [] W1 := hm w.heap.size W1.heap.size [] W1 (by omega) (by rw [← hW1];exact (hI w.heap.size).alloc _ ((hI w.heap.size).alloc _ h0))
 have hb1 : Below w0.heap.size w0 W1 := by
  rw [← hW1];exact hb0.trans ((((Below.refl _ w).alloc (Nat.le_refl _) _).alloc (by simp) _).mono hb0.size)
 refine ⟨w.heap.size + 1,[{ target := .collected w.heap.size,args := #[] }],W1,{ target := .fn (.func gf) lb,args := #[.func (.yield (w.heap.size + 1)) #[] #[]] },W1,gf,
  #[.func (.yield (w.heap.size + 1)) #[] #[]] ++ lb,W1,?_,?_,?_,?_,fun _ => h1,?_⟩
 ·rw [← hW1,hrec];exact run_enterLoop_outer _ _ _ _ _
 ·simp only [resolve,hg]
  simp [go_sem]
 ·intro f' hf';simp [Target.leads] at hf';subst hf';exact hFg
 ·simp [invoke,go_sem,eg]
 ·refine (rounds (C := w.heap.size) (dz := some w.heap.size) hfid hseq hb1 hps rec hrec hn₀ (by omega) (by omega) (fun d e => by cases e;exact ⟨Nat.le_refl _,by omega⟩) hbk I Ix hI hm hIx hI1 Ax hAx
   (fun B => hassign _ B) (fun B pre x a' W => hbody _ B pre x a' W (by omega))).mono ?_
  rintro e W2 ⟨⟨v,rfl⟩,(⟨xs,hS,hC,hi,hb⟩ | ⟨pre,c,hSp,hC,hi,hb⟩)⟩
  ·refine ⟨none,_,by have := run_endLoop (P := P) hb.at_ (by rw [hrec];simp);rw [hrec] at this;exact this,hdone w.heap.size xs _ (Nat.le_refl _) hS ?_ ((World.putObj_heap_other (by omega)).trans (hb.dz_ _ rfl))⟩
   have hx := (hI _).putObj (.loop { rec .ready none with state := .exhausted }) hi (by omega : w.heap.size ≤ w.heap.size + 1) hb.at_ rfl
   rw [hrec] at hx
   simpa using hx
  ·exact ⟨some c,_,by have := run_endLoop (P := P) hb.at_ (by rw [hrec];simp);rw [hrec] at this;exact this,hstop w.heap.size c pre _ (Nat.le_refl _) hSp ((hIx c).putObj _ hi (by omega) hb.at_ rfl) ((World.putObj_heap_other (by omega)).trans (hb.dz_ _ rfl))⟩
end Go.Proofs.YtfhnfhgpaoddbaaDoor.Rf
end
section
namespace Go.Proofs.YtfhnfhgpaoddbaaDoor.Mu
open Go Go.Lib
def byt (s : ByteArray) (i : Nat) : Nat := (s.get! i).toNat
theorem byt_lt (s : ByteArray) (i : Nat) : byt s i < 256 := (s.get! i).toNat_lt
theorem dec_ascii (n b0 b1 b2 b3 : Nat) (h : b0 < 128) : decodeN n b0 b1 b2 b3 = (b0,1) := by unfold decodeN;rw [if_pos h]
theorem dec_two (n b0 b1 b2 b3 : Nat) (h0 : 192 ≤ b0) (h1 : b0 < 224) (hn : 1 < n) (h2 : b1 / 64 = 2) (hc : 128 ≤ b0 % 32 * 64 + b1 % 64) : decodeN n b0 b1 b2 b3 = (b0 % 32 * 64 + b1 % 64,2) := by
 unfold decodeN;rw [if_neg (by omega),if_pos ⟨by omega,hn,h2⟩,if_pos hc]
theorem dec_three (n b0 b1 b2 b3 : Nat) (h0 : 224 ≤ b0) (h1 : b0 < 240) (hn : 2 < n) (h2 : b1 / 64 = 2) (h3 : b2 / 64 = 2) (hc : 2048 ≤ b0 % 16 * 4096 + b1 % 64 * 64 + b2 % 64)
  (hs : b0 % 16 * 4096 + b1 % 64 * 64 + b2 % 64 < 55296 ∨ 57344 ≤ b0 % 16 * 4096 + b1 % 64 * 64 + b2 % 64) : decodeN n b0 b1 b2 b3 = (b0 % 16 * 4096 + b1 % 64 * 64 + b2 % 64,3) := by
 unfold decodeN;rw [if_neg (by omega),if_neg (by omega),if_pos ⟨by omega,⟨by omega,h2⟩,hn,h3⟩,if_pos ⟨hc,by omega⟩]
theorem dec_four (n b0 b1 b2 b3 : Nat) (h0 : 240 ≤ b0) (h1 : b0 < 248) (hn : 3 < n) (h2 : b1 / 64 = 2) (h3 : b2 / 64 = 2) (h4 : b3 / 64 = 2) (hc : 65536 ≤ b0 % 8 * 262144 + b1 % 64 * 4096 + b2 % 64 * 64 + b3 % 64)
  (hs : b0 % 8 * 262144 + b1 % 64 * 4096 + b2 % 64 * 64 + b3 % 64 ≤ 1114111) : decodeN n b0 b1 b2 b3 = (b0 % 8 * 262144 + b1 % 64 * 4096 + b2 % 64 * 64 + b3 % 64,4) := by
 unfold decodeN;rw [if_neg (by omega),if_neg (by omega),if_neg (by omega),if_pos ⟨by omega,⟨by omega,h2⟩,⟨by omega,h3⟩,hn,h4⟩,if_pos ⟨hc,by omega⟩]
/-- What a decoding can be. -/
theorem dec_cases (n b0 b1 b2 b3 : Nat) (hb : b0 < 256) :
  (b0 < 128 ∧ decodeN n b0 b1 b2 b3 = (b0,1)) ∨
  (128 ≤ b0 ∧ decodeN n b0 b1 b2 b3 = (65533,1)) ∨
  (192 ≤ b0 ∧ b0 < 224 ∧ 1 < n ∧ b1 / 64 = 2 ∧ 128 ≤ b0 % 32 * 64 + b1 % 64 ∧ decodeN n b0 b1 b2 b3 = (b0 % 32 * 64 + b1 % 64,2)) ∨
  (224 ≤ b0 ∧ b0 < 240 ∧ 2 < n ∧ b1 / 64 = 2 ∧ b2 / 64 = 2 ∧ 2048 ≤ b0 % 16 * 4096 + b1 % 64 * 64 + b2 % 64 ∧ (b0 % 16 * 4096 + b1 % 64 * 64 + b2 % 64 < 55296 ∨ 57344 ≤ b0 % 16 * 4096 + b1 % 64 * 64 + b2 % 64) ∧
   decodeN n b0 b1 b2 b3 = (b0 % 16 * 4096 + b1 % 64 * 64 + b2 % 64,3)) ∨
  (240 ≤ b0 ∧ b0 < 248 ∧ 3 < n ∧ b1 / 64 = 2 ∧ b2 / 64 = 2 ∧ b3 / 64 = 2 ∧ 65536 ≤ b0 % 8 * 262144 + b1 % 64 * 4096 + b2 % 64 * 64 + b3 % 64 ∧ b0 % 8 * 262144 + b1 % 64 * 4096 + b2 % 64 * 64 + b3 % 64 ≤ 1114111 ∧
   decodeN n b0 b1 b2 b3 = (b0 % 8 * 262144 + b1 % 64 * 4096 + b2 % 64 * 64 + b3 % 64,4)) := by
 by_cases h1 : b0 < 128
 ·exact .inl ⟨h1,dec_ascii _ _ _ _ _ h1⟩
 ·refine .inr ?_
  by_cases h2 : b0 / 32 = 6 ∧ (1 < n ∧ b1 / 64 = 2)
  ·by_cases hc : 128 ≤ b0 % 32 * 64 + b1 % 64
   ·exact .inr (.inl ⟨by omega,by omega,h2.2.1,h2.2.2,hc,dec_two _ _ _ _ _ (by omega) (by omega) h2.2.1 h2.2.2 hc⟩)
   ·exact .inl ⟨by omega,by unfold decodeN;rw [if_neg h1,if_pos h2,if_neg hc]⟩
  ·by_cases h3 : b0 / 16 = 14 ∧ (1 < n ∧ b1 / 64 = 2) ∧ (2 < n ∧ b2 / 64 = 2)
   ·by_cases hc : b0 % 16 * 4096 + b1 % 64 * 64 + b2 % 64 ≥ 2048 ∧ (b0 % 16 * 4096 + b1 % 64 * 64 + b2 % 64 < 55296 ∨ (57344 ≤ b0 % 16 * 4096 + b1 % 64 * 64 + b2 % 64 ∧ b0 % 16 * 4096 + b1 % 64 * 64 + b2 % 64 ≤ 1114111))
    ·exact .inr (.inr (.inl ⟨by omega,by omega,h3.2.2.1,h3.2.1.2,h3.2.2.2,hc.1,by omega,dec_three _ _ _ _ _ (by omega) (by omega) h3.2.2.1 h3.2.1.2 h3.2.2.2 hc.1 (by omega)⟩))
    ·exact .inl ⟨by omega,by unfold decodeN;rw [if_neg h1,if_neg h2,if_pos h3,if_neg hc]⟩
   ·by_cases h4 : b0 / 8 = 30 ∧ (1 < n ∧ b1 / 64 = 2) ∧ (2 < n ∧ b2 / 64 = 2) ∧ (3 < n ∧ b3 / 64 = 2)
    ·by_cases hc : b0 % 8 * 262144 + b1 % 64 * 4096 + b2 % 64 * 64 + b3 % 64 ≥ 65536 ∧ (b0 % 8 * 262144 + b1 % 64 * 4096 + b2 % 64 * 64 + b3 % 64 < 55296 ∨ (57344 ≤ b0 % 8 * 262144 + b1 % 64 * 4096 + b2 % 64 * 64 + b3 % 64 ∧ b0 % 8 * 262144 + b1 % 64 * 4096 + b2 % 64 * 64 + b3 % 64 ≤ 1114111))
     ·exact .inr (.inr (.inr ⟨by omega,by omega,h4.2.2.2.1,h4.2.1.2,h4.2.2.1.2,h4.2.2.2.2,hc.1,by omega,dec_four _ _ _ _ _ (by omega) (by omega) h4.2.2.2.1 h4.2.1.2 h4.2.2.1.2 h4.2.2.2.2 hc.1 (by omega)⟩))
     ·exact .inl ⟨by omega,by unfold decodeN;rw [if_neg h1,if_neg h2,if_neg h3,if_pos h4,if_neg hc]⟩
    ·exact .inl ⟨by omega,by unfold decodeN;rw [if_neg h1,if_neg h2,if_neg h3,if_neg h4]⟩
theorem dec_cont (n b0 b1 b2 b3 : Nat) (h : b0 / 64 = 2) : decodeN n b0 b1 b2 b3 = (65533,1) := by
 rcases dec_cases n b0 b1 b2 b3 (by omega) with h1 | h1 | h1 | h1 | h1
 ·omega
 ·exact h1.2
 all_goals omega
/-- Its bytes. -/
def uN (s : ByteArray) (i : Nat) : Nat := (Utf8.decode s i).2
/-- Its character,-1 of a bad one. -/
def uC (s : ByteArray) (i : Nat) : Int := if (Utf8.decode s i).1 = 65533 ∧ (Utf8.decode s i).2 = 1 then -1 else ((Utf8.decode s i).1 : Int)
theorem dec_eq (s : ByteArray) (i : Nat) : Utf8.decode s i = decodeN (s.size - i) (byt s i) (byt s (i + 1)) (byt s (i + 2)) (byt s (i + 3)) := decode_at s i
theorem uN_pos (s : ByteArray) (i : Nat) : 1 ≤ uN s i := by unfold uN;rw [dec_eq];exact decodeN_ge1 _ _ _ _ _
theorem uN_le4 (s : ByteArray) (i : Nat) : uN s i ≤ 4 := by unfold uN;rw [dec_eq];exact decodeN_le4 _ _ _ _ _
theorem uN_le (s : ByteArray) (i : Nat) (h : i < s.size) : i + uN s i ≤ s.size := by
 have := decodeN_le_n (s.size - i) (byt s i) (byt s (i + 1)) (byt s (i + 2)) (byt s (i + 3)) (by omega)
 rw [← dec_eq] at this
 unfold uN
 omega
/-- Behind the first byte of a unit of several,each byte goes on an encoding. -/
theorem inner_cont (s : ByteArray) (j i : Nat) (h1 : j < i) (h2 : i < j + uN s j) : byt s i / 64 = 2 := by
 have hc := dec_cases (s.size - j) (byt s j) (byt s (j + 1)) (byt s (j + 2)) (byt s (j + 3)) (byt_lt s j)
 unfold uN at h2
 rw [dec_eq] at h2
 rcases hc with h | h | h | h | h
 ·rw [h.2] at h2;simp only at h2;omega
 ·rw [h.2] at h2;simp only at h2;omega
 ·rw [h.2.2.2.2.2] at h2;simp only at h2
  obtain rfl : i = j + 1 := by omega
  exact h.2.2.2.1
 ·rw [h.2.2.2.2.2.2.2] at h2;simp only at h2
  rcases (by omega : i = j + 1 ∨ i = j + 2) with rfl | rfl
  ·exact h.2.2.2.1
  ·exact h.2.2.2.2.1
 ·rw [h.2.2.2.2.2.2.2.2] at h2;simp only at h2
  rcases (by omega : i = j + 1 ∨ i = j + 2 ∨ i = j + 3) with rfl | rfl | rfl
  ·exact h.2.2.2.1
  ·exact h.2.2.2.2.1
  ·exact h.2.2.2.2.2.1
theorem cont_one (s : ByteArray) (i : Nat) (h : byt s i / 64 = 2) : uN s i = 1 ∧ uC s i = -1 := by
 have e : Utf8.decode s i = (65533,1) := by rw [dec_eq];exact dec_cont _ _ _ _ _ h
 unfold uN uC
 rw [e]
 simp
/-- No two encodings overlap. -/
theorem inner_one (s : ByteArray) (j i : Nat) (h1 : j < i) (h2 : i < j + uN s j) : uN s i = 1 := (cont_one s i (inner_cont s j i h1 h2)).1
def Bd (s : ByteArray) (i : Nat) : Prop := i ≤ s.size ∧ ∀ j,j < i → j + uN s j ≤ i
theorem bd_zero (s : ByteArray) : Bd s 0 := ⟨Nat.zero_le _,fun j h => by omega⟩
theorem bd_size (s : ByteArray) : Bd s s.size := ⟨Nat.le_refl _,fun j h => uN_le s j h⟩
theorem bd_next (s : ByteArray) (i : Nat) (h : Bd s i) (hi : i < s.size) : Bd s (i + uN s i) := by
 refine ⟨uN_le s i hi,fun j hj => ?_⟩
 rcases Nat.lt_trichotomy j i with h1 | h1 | h1
 ·have := h.2 j h1;omega
 ·subst h1;omega
 ·have := inner_one s i j h1 hj;omega
theorem not_bd_inner (s : ByteArray) (i k : Nat) (h1 : i < k) (h2 : k < i + uN s i) : ¬ Bd s k := fun h => by have := h.2 i h1;omega
/-- What begins a unit of several bytes is a boundary. -/
theorem bd_long (s : ByteArray) (i : Nat) (hi : i < s.size) (h : 2 ≤ uN s i) : Bd s i := by
 refine ⟨by omega,fun j hj => ?_⟩
 by_cases h2 : i < j + uN s j
 ·have := inner_one s j i hj h2;omega
 ·omega
/-- What is no boundary lies within just one unit. -/
theorem within (s : ByteArray) (i : Nat) (hi : i ≤ s.size) (h : ¬ Bd s i) : ∃ j,j < i ∧ i < j + uN s j ∧ Bd s j ∧ i ≤ j + 3 := by
 have : ¬ ∀ j,j < i → j + uN s j ≤ i := fun h2 => h ⟨hi,h2⟩
 simp only [Classical.not_forall] at this
 obtain ⟨j,hj,hj2⟩ := this
 have h4 := uN_le4 s j
 exact ⟨j,hj,by omega,bd_long s j (by omega) (by omega),by omega⟩
theorem decodeGo_extract (s : ByteArray) (pos : Nat) (h : pos < s.size) : decodeGo (s.extract pos s.size) = Utf8.decode s pos := by
 have hx : (s.extract pos s.size).data.toList = s.data.toList.drop pos := by
  rw [extract_data,List.take_of_length_le (by rw [List.length_drop,← size_eq];omega)]
 have hsz : (s.extract pos s.size).size ≠ 0 := by rw [size_eq,hx,List.length_drop,← size_eq];omega
 unfold decodeGo
 rw [if_neg hsz,← decodeL_drop s pos,← hx]
 rfl
theorem get!_eq (s : ByteArray) (i : Nat) : s.get! i = s.data.toList.getD i 0 := by
 show s.data[i]! = _
 simp [Array.getElem!_eq_getD]
 rfl
theorem byt_extract (s : ByteArray) (a b i : Nat) (h : a + i < b) (_hb : b ≤ s.size) : byt (s.extract a b) i = byt s (a + i) := by
 unfold byt
 rw [get!_eq,get!_eq,extract_data,List.getD_eq_getElem?_getD,List.getD_eq_getElem?_getD,List.getElem?_take,if_pos (by omega),List.getElem?_drop]
theorem size_extract (s : ByteArray) (a b : Nat) (hb : b ≤ s.size) : (s.extract a b).size = b - a := by simp;omega
end Go.Proofs.YtfhnfhgpaoddbaaDoor.Mu
end
section
namespace Go.Proofs.YtfhnfhgpaoddbaaDoor.U
open Go.RowKit Go.Shelf Go.Proofs.YtfhnfhgpaoddbaaDoor.Mu Go.Proofs.YtfhnfhgpaoddbaaDoor.Rf Go.Proofs.YtfhnfhgpaoddbaaDoorW.PrintWords Go.Proofs.YtfhnfhgpaoddbaaDoorW.PrintLast Go.Proofs.YtfhnfhgpaoddbaaDoorW.PrintMore
attribute [local go_sem] Oper.semAt_some
set_option linter.unusedVariables false
set_option linter.unusedSimpArgs false
theorem first_at (s : ByteArray) (i : Nat) (h : i < s.size) : unit_first.f (s.extract i s.size) = some (uC s i,(uN s i : Int)) := by
 unfold unit_first.f utf8_DecodeRuneInString.f
 rw [decodeGo_extract s i h]
 unfold uC uN
 simp only [Option.bind_some]
 generalize Utf8.decode s i = d
 obtain ⟨c,m⟩ := d
 by_cases hc : c = 65533
 ·by_cases hm : m = 1
  ·subst hc;subst hm;simp
  ·have : ¬ ((m : Int) = 1) := by omega
   simp [hc,hm,this]
 ·have : ¬ ((c : Int) = 65533) := by omega
  simp [hc,this]
/-- An append to a row that a variable holds turns no cells of the iterator's. -/
theorem appended_keepB {W w1 : World} {B outB : Nat} {v v' : Value} {tmp : Obj} {Pr : Nat → Prop} (hgrow : (W.alloc tmp).grownBy w1 v.ownBlock) (hout : outB < B) (hPr : ∀ k, Pr k → k ≠ outB ∧ some k ≠ v.ownBlock)
    (hv : ∀ g, v.ownBlock = some g → g < B) : ∀ (k : Nat) (o : Obj), (Pr k ∨ B ≤ k) → W.heap[k]? = some o → o.isCells = true → (w1.setCell ⟨outB, 0, none⟩ v').heap[k]? = some o := by
  intro k o hk ho _
  have h1 : k ≠ outB := by rcases hk with hk | hk
                           · exact (hPr k hk).1
                           · omega
  have h2 : some k ≠ v.ownBlock := by
    rcases hk with hk | hk
    · exact (hPr k hk).2
    · intro e; have := hv k e.symm; omega
  have hlt := (Array.getElem?_eq_some_iff.1 ho).1
  exact (Below.heap_setCell w1 ⟨outB, 0, none⟩ v' k h1).trans ((hgrow.block k (by simp; omega) h2).trans ((Below.heap_alloc W tmp k hlt).trans ho))
end Go.Proofs.YtfhnfhgpaoddbaaDoor.U
end
section
namespace Go.Proofs.YtfhnfhgpaoddbaaDoor.U
open Go.RowKit Go.Shelf Go.Proofs.YtfhnfhgpaoddbaaDoorW.PrintWords Go.Proofs.YtfhnfhgpaoddbaaDoorW.PrintLast Go.Proofs.YtfhnfhgpaoddbaaDoorW.PrintMore
set_option linter.unusedVariables false
set_option linter.unusedSimpArgs false
theorem reads_int_of_C {k : IntKind} {w : World} {A : Option Addr} {n : Nat} {l : List Int} (h : (Kd.int k).C w A n l) : ReadsInt w k A n l :=
 Kd.reads_of_C (enc := Value.int k) (d := (0 : Int)) (h1 := fun _ => rfl) h
set_option maxRecDepth 100000 in
set_option maxHeartbeats 2000000 in
theorem within1_calls (l : List Int) (c : Int) (A : Option Addr) (cp b0 b1 : Nat) (W : World) (i : Nat) (hi : 2 * i + 1 < l.length) (hl : l.length ≤ 100000) (h0 : W.cell? ⟨b0,0,none⟩ = some (.slice A l.length cp)) (h1 : W.cell? ⟨b1,0,none⟩ = some (.int .i32 c)) (hr : ReadsInt W .i32 A l.length l) :
  Calls Tryd.prog 108 #[.int .i64 i,.pointer (some ⟨b0,0,none⟩),.pointer (some ⟨b1,0,none⟩)] W fun e w' => e = .returned (.bool (decide (rd l (2 * i + 1) ≥ c))) ∧ ∃ q,w' = W.drewN q := by
 obtain ⟨ad,rfl,hc⟩ := hr.at_ (2 * i + 1) (by omega) (by omega)
 have e1 : (2 : Int) * (i : Int) + 1 < (l.length : Int) := by omega
 have e2 : (0 : Int) ≤ 2 * (i : Int) + 1 := by omega
 rw [show ((2 : Int) * i + 1).toNat = 2 * i + 1 by omega] at hc
 rw [show ad.add (2 * i + 1) = ⟨ad.block,ad.off + (2 * i + 1),none⟩ by simp [Addr.add]] at hc
 have hw1 : IntKind.i64.wrap (2 * (i : Int)) = 2 * (i : Int) := (i64_w _).trans (by unfold wrap64;omega)
 have hw2 : IntKind.i64.wrap (2 * (i : Int) + 1) = 2 * (i : Int) + 1 := (i64_w _).trans (by unfold wrap64;omega)
 have ht : (2 * (i : Int) + 1).toNat = 2 * i + 1 := by omega
 go_enter Tryd.func108,Tryd.ntmps108
 go_wp2_with (fail)
 go_quiet (fail)
 go_wp2
 go_ret
 exact ⟨rfl,nq,rfl⟩
set_option maxRecDepth 100000 in
set_option maxHeartbeats 4000000 in
theorem search_calls (g : Nat) (cb : Array Value) (n : Nat) (p : Nat → Bool) (w : World) (eg : ∀ args w,(callFunc g args).run Tryd.prog w = .ok (.enter g args) w) (hn : n < 1000000)
  (hf : ∀ (m i : Nat),i < n → Calls Tryd.prog g (#[.int .i64 i] ++ cb) (w.drewN m) fun e w' => e = .returned (.bool (p i)) ∧ ∃ q,w' = w.drewN q)
  (hmono : ∀ a b,a ≤ b → b < n → p a = true → p b = true) :
  Calls Tryd.prog 107 #[.int .i64 n,.func (.func g) #[] cb] w fun e w' => ∃ i : Nat,e = .returned (.int .i64 i) ∧ i ≤ n ∧ (∀ t,t < i → p t = false) ∧ (∀ t,i ≤ t → t < n → p t = true) ∧ ∃ q,w' = w.drewN q := by
 go_enter Tryd.func107,Tryd.ntmps107
 go_wp2
 go_loopw [5,6] (fun v5 v6 wr => ∃ lo hi q : Nat,v5 = .int .i64 lo ∧ v6 = .int .i64 hi ∧ lo ≤ hi ∧ hi ≤ n ∧ wr = w.drewN q ∧ Hid ((∀ t,t < lo → p t = false) ∧ (∀ t,hi ≤ t → t < n → p t = true)))
  (fun v5 v6 _ => (intOf v6).toNat - (intOf v5).toNat)
 case atStart => exact ⟨0,n,0,rfl,rfl,Nat.zero_le _,Nat.le_refl _,rfl,Lib.hid ⟨fun t h => absurd h (Nat.not_lt_zero _),fun t h1 h2 => by omega⟩⟩
 case round =>
  obtain ⟨lo,hi,q,rfl,rfl,hlh,hhn,rfl,hI⟩ := hrel
  by_cases hlt : lo < hi
  ·have hlt' : (lo : Int) < (hi : Int) := by omega
   go_wp2_with (fail)
   obtain ⟨m,hm⟩ : ∃ m : Nat,((lo : Int) + (hi : Int)) / 2 = m := ⟨(lo + hi) / 2,by omega⟩
   rw [hm]
   refine (hf q m (by omega)).mono ?_
   rintro e w1 ⟨rfl,q1,rfl⟩
   have hm64 : IntKind.i64.wrap ((m : Int) + 1) = (m : Int) + 1 := (i64_w _).trans (by unfold wrap64;omega)
   cases hp : p m
   ·have hlow : ∀ t,t < m + 1 → p t = false := by
     intro t ht
     by_cases h : t < lo
     ·exact hI.out.1 t h
     ·cases hpt : p t with
      | false => rfl
      | true => have h5 := hmono t m (by omega) (by omega) hpt;rw [hp] at h5;cases h5
    have hup := hI.out.2
    go_wp2
    go_roundw
    case rel => exact ⟨m + 1,hi,q1,by simp,rfl,by omega,hhn,rfl,Lib.hid ⟨hlow,hup⟩⟩
    case measure => simp [intOf];omega
   ·go_wp2
    go_roundw
    case rel => exact ⟨lo,m,q1,rfl,rfl,by omega,by omega,rfl,Lib.hid ⟨hI.out.1,fun t h1 h2 => hmono m t h1 h2 hp⟩⟩
    case measure => simp [intOf];omega
  ·have hge : ¬ ((lo : Int) < (hi : Int)) := by omega
   go_wp2_with (fail)
   go_ret
   obtain rfl : lo = hi := by omega
   exact ⟨lo,rfl,hhn,hI.out.1,hI.out.2,q,rfl⟩
theorem boxed_below' {X Y : World} {B : Nat} {t : TypeId} {v : Value} (h : Boxed X B t v) (hb : Below X.heap.size X Y) : Boxed Y B t v := (hb.block B h.lt).trans h
def okTab (l : List Int) : Bool := (List.range l.length).all fun b => (List.range b).all fun a => decide (rd l (a : Int) ≤ rd l (b : Int)) && (decide (a % 2 = 0) || decide (rd l (a : Int) < rd l (b : Int)))
theorem okTab_le {l : List Int} (h : okTab l = true) {a b : Nat} (hab : a < b) (hb : b < l.length) : rd l (a : Int) ≤ rd l (b : Int) ∧ (a % 2 = 1 → rd l (a : Int) < rd l (b : Int)) := by
 unfold okTab at h
 rw [List.all_eq_true] at h
 have h1 := h b (List.mem_range.2 hb)
 rw [List.all_eq_true] at h1
 have h2 := h1 a (List.mem_range.2 hab)
 simp only [Bool.and_eq_true,Bool.or_eq_true,decide_eq_true_eq] at h2
 exact ⟨h2.1,fun ho => by rcases h2.2 with h3 | h3;omega;exact h3⟩
def withinB (l : List Int) (c : Int) : Bool := (List.range (l.length / 2)).any fun k => decide (rd l (2 * (k : Int)) ≤ c) && decide (c ≤ rd l (2 * (k : Int) + 1))
theorem withinB_of {l : List Int} (h : okTab l = true) (c : Int) (i : Nat) (h2 : l.length % 2 = 0) (hi : i ≤ l.length / 2) (hlo : ∀ t,t < i → decide (rd l (2 * (t : Int) + 1) ≥ c) = false) (hup : ∀ t,i ≤ t → t < l.length / 2 → decide (rd l (2 * (t : Int) + 1) ≥ c) = true) :
  withinB l c = (decide (i < l.length / 2) && decide (rd l (2 * (i : Int)) ≤ c)) := by
 rw [Bool.eq_iff_iff]
 unfold withinB
 simp only [List.any_eq_true,List.mem_range,Bool.and_eq_true,decide_eq_true_eq]
 constructor
 ·rintro ⟨k,hk,h3,h4⟩
  have hik : i ≤ k := by
   rcases Nat.lt_or_ge k i with h5 | h5
   ·have := of_decide_eq_false (hlo k h5);omega
   ·exact h5
  rcases Nat.lt_or_ge i k with h5 | h5
  ·exfalso
   have h6 := of_decide_eq_true (hup i (Nat.le_refl _) (by omega))
   have h7 := (okTab_le h (a := 2 * i + 1) (b := 2 * k) (by omega) (by omega)).2 (by omega)
   have e1 : ((2 * i + 1 : Nat) : Int) = 2 * (i : Int) + 1 := by omega
   have e2 : ((2 * k : Nat) : Int) = 2 * (k : Int) := by omega
   rw [e1,e2] at h7
   omega
  ·obtain rfl : i = k := by omega
   exact ⟨hk,h3⟩
 ·rintro ⟨h3,h4⟩
  exact ⟨i,h3,h4,of_decide_eq_true (hup i (Nat.le_refl _) h3)⟩
set_option maxRecDepth 100000 in
set_option maxHeartbeats 4000000 in
theorem within_any (l : List Int) (c : Int) (A : Option Addr) (cp : Nat) (w : World) (hl : l.length ≤ 100000) (h2 : l.length % 2 = 0) (hok : okTab l = true) (hr : ReadsInt w .i32 A l.length l) (hcp : l.length ≤ cp) :
  Calls Tryd.prog 102 #[.slice A l.length cp,.int .i32 c] w fun e w' => e = .returned (.bool (withinB l c)) ∧ Below w.heap.size w w' := by
 have hq : Int.tdiv (l.length : Int) 2 = ((l.length / 2 : Nat) : Int) := by rw [Int.tdiv_eq_ediv_of_nonneg (by omega)];omega
 go_enter Tryd.func102,Tryd.ntmps102
 go_wp2_with (fail)
 obtain ⟨n,hn,hn2⟩ : ∃ n : Nat,((l.length : Int) / 2) = n ∧ n = l.length / 2 := ⟨l.length / 2,by omega,rfl⟩
 rw [hn]
 have b0 := (Boxed.new w 42 (.slice A l.length cp)).alloc (.cells #[.int .i32 c] 21)
 have b1 := Boxed.new (w.alloc (.cells #[.slice A l.length cp] 42)) 21 (.int .i32 c)
 rw [World.size_alloc] at b1
 have hB : Below w.heap.size w ((w.alloc (.cells #[.slice A l.length cp] 42)).alloc (.cells #[.int .i32 c] 21)) := ((Below.refl _ w).alloc (Nat.le_refl _) _).alloc (by simp) _
 generalize (w.alloc (.cells #[.slice A l.length cp] 42)).alloc (.cells #[.int .i32 c] 21) = W2 at b0 b1 hB ⊢
 have hr2 : ReadsInt W2 .i32 A l.length l := hr.below hB
 refine (search_calls 108 #[.pointer (some ⟨w.heap.size,0,none⟩),.pointer (some ⟨w.heap.size + 1,0,none⟩)] n (fun k => decide (rd l (2 * (k : Int) + 1) ≥ c)) W2 (enters_of Tryd.func108 (by kernel_rfl) rfl) (by omega)
  (fun m i hi => ?_) (fun a b hab hb hp => ?_)).mono ?_
 ·have hd : Below W2.heap.size W2 (W2.drewN m) := pw_below_drewN (Below.refl _ _) m
  refine (within1_calls l c A cp w.heap.size (w.heap.size + 1) (W2.drewN m) i (by omega) hl (boxed_below' b0 hd).cell (boxed_below' b1 hd).cell (hr2.below hd)).mono ?_
  rintro e w' ⟨rfl,q,rfl⟩
  exact ⟨rfl,m + q,by rw [World.drewN_drewN]⟩
 ·rcases Nat.lt_or_ge a b with h | h
  ·have h3 := (okTab_le hok (a := 2 * a + 1) (b := 2 * b + 1) (by omega) (by omega)).1
   have e1 : ((2 * a + 1 : Nat) : Int) = 2 * (a : Int) + 1 := by omega
   have e2 : ((2 * b + 1 : Nat) : Int) = 2 * (b : Int) + 1 := by omega
   rw [e1,e2] at h3
   have := of_decide_eq_true hp
   exact decide_eq_true (by omega)
  ·obtain rfl : a = b := by omega
   exact hp
 rintro e w' ⟨i,rfl,hin,hlo,hup,q,rfl⟩
 dsimp only
 have hw : Hid (withinB l c = (decide (i < n) && decide (rd l (2 * (i : Int)) ≤ c))) := Lib.hid (by rw [hn2];exact withinB_of hok c i h2 (by omega) hlo (fun t h3 h4 => hup t h3 (by omega)))
 have hd : Below W2.heap.size W2 (W2.drewN q) := pw_below_drewN (Below.refl _ _) q
 have b0' := boxed_below' b0 hd
 have b1' := boxed_below' b1 hd
 have hr3 := hr2.below hd
 have hB3 := hB.trans (hd.mono hB.size)
 generalize W2.drewN q = W3 at b0' b1' hr3 hB3 ⊢
 have c0 := b0'.cell
 have c1 := b1'.cell
 by_cases hi : i < n
 ·have hi' : decide ((i : Int) < (n : Int)) = true := decide_eq_true (by omega)
  obtain ⟨ad,rfl,hc⟩ := hr3.at_ (2 * i) (by omega) (by omega)
  rw [show ((2 : Int) * i).toNat = 2 * i by omega] at hc
  have hw1 : IntKind.i64.wrap (2 * (i : Int)) = 2 * (i : Int) := (i64_w _).trans (by unfold wrap64;omega)
  clear hn2 hq hin hlo hup
  go_wp2_with (fail)
  go_quiet (fail)
  go_wp2
  have hwv : withinB l c = decide (rd l (2 * (i : Int)) ≤ c) := by rw [hw.out,decide_eq_true hi,Bool.true_and]
  go_ret
  rw [hwv]
  exact ⟨rfl,pw_below_drewN hB3 nq⟩
 ·have hi' : decide ((i : Int) < (n : Int)) = false := decide_eq_false (by omega)
  clear hn2 hq hin hlo hup
  go_wp2_with (fail)
  go_quiet (fail)
  go_wp2
  have hwv : withinB l c = false := by rw [hw.out,decide_eq_false hi,Bool.false_and]
  go_ret
  rw [hwv]
  exact ⟨rfl,pw_below_drewN hB3 nq⟩
def width_within_rune.f (l0 : List Int) (a1 : Int) : Option (Bool) := if l0.length ≤ 100000 ∧ l0.length % 2 = 0 ∧ okTab l0 = true then some (withinB l0 a1) else none
theorem width_within_rune.calls (A0 : Option Addr) (c0 : Nat) (l0 : List Int) (a1 : Int) (r : Bool) (w : World) (hr0 : Kd.C (Kd.int .i32) w A0 l0.length l0) (hc0 : l0.length ≤ c0) (h : width_within_rune.f l0 a1 = some r) :
  Calls Tryd.prog 102 #[.slice A0 l0.length c0,.int .i32 a1] w fun e w' => e = .returned (.bool r) ∧ Below w.heap.size w w' := by
 unfold width_within_rune.f at h
 split at h
 ·rename_i hs
  obtain rfl := Option.some.inj h
  exact within_any l0 a1 A0 c0 w hs.1 hs.2.1 hs.2.2 (reads_int_of_C hr0) hc0
 ·cases h
end Go.Proofs.YtfhnfhgpaoddbaaDoor.U
end
section
namespace Go.Proofs.YtfhnfhgpaoddbaaDoor.U
open Go.RowKit Go.Proofs.YtfhnfhgpaoddbaaDoorW.PrintWords Go.Proofs.YtfhnfhgpaoddbaaDoorW.PrintLast Go.Proofs.YtfhnfhgpaoddbaaDoorW.PrintMore
attribute [local go_sem] max2_int min2_int max_two min_two max_three min_three max_four min_four   -- for this text's walks alone
set_option linter.unusedVariables false
set_option linter.unusedSimpArgs false
mutual
def width_Class.j0 : Nat → Int → Bool → Option (Int)
 | 0,_,_ => none
 | k + 1,x0,x3 => if x3 = true then (some 5) else (if x0 = 10 then (some 1) else (if x0 < 32 then (width_Class.j1 k x0 true) else (if x0 ≥ 127 then (width_Class.j1 k x0 (decide (x0 ≤ 159))) else (width_Class.j1 k x0 false))))
def width_Class.j1 : Nat → Int → Bool → Option (Int)
 | 0,_,_ => none
 | k + 1,x0,x21 => if x21 = true then (some 2) else ((width_marks.f).bind fun t235 => ((width_within_rune.f t235 x0).bind fun t238 => (if t238 = true then (some 3) else ((width_wides.f).bind fun t239 => ((width_within_rune.f t239 x0).bind fun t242 => (if t242 = true then (some 4) else (some 0)))))))
end
def width_Class.f (k : Nat) (a0 : Int) : Option (Int) := if a0 < 0 then (width_Class.j0 k a0 true) else (if a0 > 1114111 then (width_Class.j0 k a0 true) else (if a0 ≥ 55296 then (width_Class.j0 k a0 (decide (a0 ≤ 57343))) else (width_Class.j0 k a0 false)))
theorem width_Class.mono_l : ∀ k,(∀ y0 y1,LeO (width_Class.j0 k y0 y1) (width_Class.j0 (k + 1) y0 y1)) ∧ (∀ y0 y1,LeO (width_Class.j1 k y0 y1) (width_Class.j1 (k + 1) y0 y1))
 | 0 => ⟨fun _ _ r h => by simp [width_Class.j0] at h,fun _ _ r h => by simp [width_Class.j1] at h⟩
 | k + 1 => by
  obtain ⟨ih0,ih1⟩ := width_Class.mono_l k
  refine ⟨?_,?_⟩
  ·intro y0 y1
   unfold width_Class.j0
   repeat' first
   | (with_reducible exact ih0 _ _)
   | (with_reducible exact ih1 _ _)
   | (with_reducible exact LeO.refl _)
   | (with_reducible exact LeO.none _)
   | (with_reducible refine LeO.ite ?_ ?_)
   | (with_reducible refine LeO.bind ?_ (fun _ => ?_))
   | exact ih0 _ _
   | exact ih1 _ _
   | exact LeO.none _
   | refine LeO.ite ?_ ?_
   | refine LeO.bind ?_ (fun _ => ?_)
  ·intro y0 y1
   unfold width_Class.j1
   repeat' first
   | (with_reducible exact ih0 _ _)
   | (with_reducible exact ih1 _ _)
   | (with_reducible exact LeO.refl _)
   | (with_reducible exact LeO.none _)
   | (with_reducible refine LeO.ite ?_ ?_)
   | (with_reducible refine LeO.bind ?_ (fun _ => ?_))
   | exact ih0 _ _
   | exact ih1 _ _
   | exact LeO.none _
   | refine LeO.ite ?_ ?_
   | refine LeO.bind ?_ (fun _ => ?_)
theorem width_Class.mono : ∀ a0 k,LeO (width_Class.f k a0) (width_Class.f (k + 1) a0) := by
 intro a0 k
 obtain ⟨ih0,ih1⟩ := width_Class.mono_l k
 unfold width_Class.f
 repeat' first
   | (with_reducible exact ih0 _ _)
   | (with_reducible exact ih1 _ _)
   | (with_reducible exact LeO.refl _)
   | (with_reducible exact LeO.none _)
   | (with_reducible refine LeO.ite ?_ ?_)
   | (with_reducible refine LeO.bind ?_ (fun _ => ?_))
   | exact ih0 _ _
   | exact ih1 _ _
   | exact LeO.none _
   | refine LeO.ite ?_ ?_
   | refine LeO.bind ?_ (fun _ => ?_)
set_option maxHeartbeats 8000000 in
set_option maxRecDepth 100000 in
theorem width_Class.calls (k : Nat) (a0 : Int) (r : Int) (w : World) (h : width_Class.f k a0 = some r) :
  Calls Tryd.prog 96 #[.int .i32 a0] w fun e w' => e = .returned (.int .i64 r) ∧ Below w.heap.size w w' := by
 have HB := Aside0.mk (Below.refl w.heap.size w)
 have H : (if a0 < 0 then (width_Class.j0 k a0 true) else (if a0 > 1114111 then (width_Class.j0 k a0 true) else (if a0 ≥ 55296 then (width_Class.j0 k a0 (decide (a0 ≤ 57343))) else (width_Class.j0 k a0 false)))) = some r := h
 clear h
 have HC2 := Aside0.mk H
 clear H
 go_enter Tryd.func96,Tryd.ntmps96
 go_upto_region 1 with (fail)
 go_cut [3] (fun v3 wc => ∃ (kq : Nat) (x3_1 : Bool),v3 = .bool x3_1 ∧ Aside0 (width_Class.j0 kq a0 x3_1 = some r) ∧ Aside0 (kq ≤ k) ∧ Aside0 (Below w.heap.size w wc))
 case first =>
  have H := HC2.out
  clear HC2
  by_cases c3 : a0 < 0
  ·rw [if_pos c3] at H
   have c3b0 : decide (a0 < 0) = true := decide_eq_true c3
   clear c3
   (first | rw [c3b0] | (simp only [i64_w,i32_w];rw [c3b0]) | skip)
   have H' := Aside0.mk H
   clear H
   go_wp2
   go_meet
   case rel => exact ⟨_,(true),au13,H',⟨by first | omega | exact Nat.le_refl _⟩,⟨au0⟩⟩
  ·rw [if_neg c3] at H
   have c3b0 : decide (a0 < 0) = false := decide_eq_false c3
   clear c3
   (first | rw [c3b0] | (simp only [i64_w,i32_w];rw [c3b0]) | skip)
   by_cases c4 : a0 > 1114111
   ·rw [if_pos c4] at H
    have c4b0 : decide (1114111 < a0) = true := decide_eq_true c4
    clear c4
    have H' := Aside0.mk H
    clear H
    go_wp2
    go_meet
    case rel => exact ⟨_,(true),au13,H',⟨by first | omega | exact Nat.le_refl _⟩,⟨au0⟩⟩
   ·rw [if_neg c4] at H
    have c4b0 : decide (1114111 < a0) = false := decide_eq_false c4
    clear c4
    by_cases c5 : a0 ≥ 55296
    ·rw [if_pos c5] at H
     have c5b0 : decide (55296 ≤ a0) = true := decide_eq_true c5
     clear c5
     have H' := Aside0.mk H
     clear H
     go_wp2
     go_meet
     case rel => exact ⟨_,(decide (a0 ≤ 57343)),au13,H',⟨by first | omega | exact Nat.le_refl _⟩,⟨au0⟩⟩
    ·rw [if_neg c5] at H
     have c5b0 : decide (55296 ≤ a0) = false := decide_eq_false c5
     clear c5
     have H' := Aside0.mk H
     clear H
     go_wp2
     go_meet
     case rel => exact ⟨_,(false),au13,H',⟨by first | omega | exact Nat.le_refl _⟩,⟨au0⟩⟩
 case rest =>
  clear HC2
  try clear p2
  try clear c3
  try clear c3b0
  try clear c4
  try clear c4b0
  try clear c5
  try clear c5b0
  obtain ⟨kq,x3_1,rfl,HA,HJ1,HB⟩ := hcut
  cases kq with
  | zero => exact absurd HA.out (by simp [width_Class.j0])
  | succ kj1 =>
   have H := HA.out
   clear HA
   simp only [width_Class.j0] at H
   by_cases c6 : x3_1 = true
   ·subst c6
    have H1 : (some 5) = some r := by rw [if_pos rfl] at H;exact H
    clear H
    have H := H1
    clear H1
    obtain rfl := Option.some.inj H
    go_wp2
    go_ret
    exact ⟨au2,au0⟩
   ·replace c6 := Bool.eq_false_iff.mpr c6
    subst c6
    have H1 : (if a0 = 10 then (some 1) else (if a0 < 32 then (width_Class.j1 kj1 a0 true) else (if a0 ≥ 127 then (width_Class.j1 kj1 a0 (decide (a0 ≤ 159))) else (width_Class.j1 kj1 a0 false)))) = some r := by rw [if_neg (show ¬ (false = true) by decide)] at H;exact H
    clear H
    have H := H1
    clear H1
    by_cases c7 : a0 = 10
    ·rw [if_pos c7] at H
     have c7b0 : (a0 == 10) = true := beq_iff_eq.mpr c7
     have c7b1 : (a0 != 10) = false := bne_eq_false_iff_eq.mpr c7
     clear c7
     obtain rfl := Option.some.inj H
     go_wp2
     go_ret
     exact ⟨au2,au0⟩
    ·rw [if_neg c7] at H
     have c7b0 : (a0 == 10) = false := beq_eq_false_iff_ne.mpr c7
     have c7b1 : (a0 != 10) = true := bne_iff_ne.mpr c7
     have HC8 := Aside0.mk H
     clear H
     go_upto_region 5 with (fail)
     go_cut [21] (fun v21 wc => ∃ (kq : Nat) (x21_7 : Bool),v21 = .bool x21_7 ∧ Aside0 (width_Class.j1 kq a0 x21_7 = some r) ∧ Aside0 (kq ≤ kj1) ∧ Aside0 (Below w.heap.size w wc))
     case first =>
      have H := HC8.out
      clear HC8
      by_cases c9 : a0 < 32
      ·rw [if_pos c9] at H
       have c9b0 : decide (a0 < 32) = true := decide_eq_true c9
       clear c9
       (first | rw [c9b0] | (simp only [i64_w,i32_w];rw [c9b0]) | skip)
       have H' := Aside0.mk H
       clear H
       go_wp2
       go_meet
       case rel => exact ⟨_,(true),au13,H',⟨by have := HJ1.out;first | omega | exact Nat.le_refl _⟩,⟨au0⟩⟩
      ·rw [if_neg c9] at H
       have c9b0 : decide (a0 < 32) = false := decide_eq_false c9
       clear c9
       (first | rw [c9b0] | (simp only [i64_w,i32_w];rw [c9b0]) | skip)
       by_cases c10 : a0 ≥ 127
       ·rw [if_pos c10] at H
        have c10b0 : decide (127 ≤ a0) = true := decide_eq_true c10
        clear c10
        have H' := Aside0.mk H
        clear H
        go_wp2
        go_meet
        case rel => exact ⟨_,(decide (a0 ≤ 159)),au13,H',⟨by have := HJ1.out;first | omega | exact Nat.le_refl _⟩,⟨au0⟩⟩
       ·rw [if_neg c10] at H
        have c10b0 : decide (127 ≤ a0) = false := decide_eq_false c10
        clear c10
        have H' := Aside0.mk H
        clear H
        go_wp2
        go_meet
        case rel => exact ⟨_,(false),au13,H',⟨by have := HJ1.out;first | omega | exact Nat.le_refl _⟩,⟨au0⟩⟩
     case rest =>
      clear HC8
      try clear c1
      try clear p2
      try clear c3
      try clear c3b0
      try clear c4
      try clear c4b0
      try clear c5
      try clear c5b0
      try clear c6
      try clear c7
      try clear c7b0
      try clear c7b1
      try clear c9
      try clear c9b0
      try clear c10
      try clear c10b0
      try clear p2
      obtain ⟨kq,x21_7,rfl,HA,HJ7,HB⟩ := hcut
      cases kq with
      | zero => exact absurd HA.out (by simp [width_Class.j1])
      | succ kj7 =>
       have H := HA.out
       clear HA
       simp only [width_Class.j1] at H
       by_cases c11 : x21_7 = true
       ·subst c11
        have H1 : (some 2) = some r := by rw [if_pos rfl] at H;exact H
        clear H
        have H := H1
        clear H1
        obtain rfl := Option.some.inj H
        go_wp2
        go_ret
        exact ⟨au2,au0⟩
       ·replace c11 := Bool.eq_false_iff.mpr c11
        subst c11
        have H1 : ((width_marks.f).bind fun t235 => ((width_within_rune.f t235 a0).bind fun t238 => (if t238 = true then (some 3) else ((width_wides.f).bind fun t239 => ((width_within_rune.f t239 a0).bind fun t242 => (if t242 = true then (some 4) else (some 0))))))) = some r := by rw [if_neg (show ¬ (false = true) by decide)] at H;exact H
        clear H
        have H := H1
        clear H1
        replace H := Option.bind_eq_some_iff.mp H
        obtain ⟨t235,A120,H⟩ := H
        replace H : ((width_within_rune.f t235 a0).bind fun t238 => (if t238 = true then (some 3) else ((width_wides.f).bind fun t239 => ((width_within_rune.f t239 a0).bind fun t242 => (if t242 = true then (some 4) else (some 0)))))) = some r := H
        have A12 := Aside0.mk A120
        clear A120
        replace H := Option.bind_eq_some_iff.mp H
        obtain ⟨t238,A130,H⟩ := H
        replace H : (if t238 = true then (some 3) else ((width_wides.f).bind fun t239 => ((width_within_rune.f t239 a0).bind fun t242 => (if t242 = true then (some 4) else (some 0))))) = some r := H
        have A13 := Aside0.mk A130
        clear A130
        by_cases c14 : t238 = true
        ·subst c14
         have H1 : (some 3) = some r := by rw [if_pos rfl] at H;exact H
         clear H
         have H := H1
         clear H1
         obtain rfl := Option.some.inj H
         go_wp2_with (first | ((with_reducible refine gate_callee (f := 103) rfl ?_);refine goesL_ (some 33) rfl rfl Tryd.func103 (by kernel_rfl) rfl #[] rfl au1 ?_;(with_reducible refine (width_marks.calls  t235 _ A12.out).mono ?_);rintro e w15 ⟨v236,rfl,ho0,hb⟩;refine ⟨_,rfl,?_⟩;have n0_ := Aside0.mk (Kd.R_lower ho0 (below_size au0));have n1_ := Aside0.mk (below_step au0 hb);clear HB;have HO237 := n0_;have HB := n1_;clear n0_ n1_;(try clear hb);(try clear hb2);(try clear hk);(try clear hi);(try clear ho0);obtain ⟨Ao16,co16,eo16⟩ := Kd.R_slice HO237.out;subst eo16) | ((with_reducible refine gate_callee (f := 102) rfl ?_);refine goesL_ (some 35) rfl rfl Tryd.func102 (by kernel_rfl) rfl #[.slice Ao16 t235.length co16,.int .i32 a0] rfl au1 ?_;(with_reducible refine (width_within_rune.calls _ _ t235 a0 true _ ?side1 ?side2 A13.out).mono ?_);(case side1 => repeat (first | exact (Kd.R_reads' HO237.out).2.2 | (with_reducible refine Kd.C_alloc ?_ _) | (with_reducible refine Kd.C_drewN ?_ _) | (with_reducible refine Kd.C_drew ?_)));(case side2 => exact (Kd.R_reads' HO237.out).2.1);rintro e w17 ⟨rfl,hb⟩;refine ⟨_,rfl,?_⟩;have n0_ := Aside0.mk (Kd.R_below au8 hb);have n1_ := Aside0.mk (below_step au0 hb);clear HO237;clear HB;have HO237 := n0_;have HB := n1_;clear n0_ n1_;(try clear hb);(try clear hb2);(try clear hk);(try clear hi)))
         go_ret
         exact ⟨au2,au0⟩
        ·replace c14 := Bool.eq_false_iff.mpr c14
         subst c14
         have H1 : ((width_wides.f).bind fun t239 => ((width_within_rune.f t239 a0).bind fun t242 => (if t242 = true then (some 4) else (some 0)))) = some r := by rw [if_neg (show ¬ (false = true) by decide)] at H;exact H
         clear H
         have H := H1
         clear H1
         replace H := Option.bind_eq_some_iff.mp H
         obtain ⟨t239,A180,H⟩ := H
         replace H : ((width_within_rune.f t239 a0).bind fun t242 => (if t242 = true then (some 4) else (some 0))) = some r := H
         have A18 := Aside0.mk A180
         clear A180
         replace H := Option.bind_eq_some_iff.mp H
         obtain ⟨t242,A190,H⟩ := H
         replace H : (if t242 = true then (some 4) else (some 0)) = some r := H
         have A19 := Aside0.mk A190
         clear A190
         by_cases c20 : t242 = true
         ·subst c20
          have H1 : (some 4) = some r := by rw [if_pos rfl] at H;exact H
          clear H
          have H := H1
          clear H1
          obtain rfl := Option.some.inj H
          go_wp2_with (first | ((with_reducible refine gate_callee (f := 103) rfl ?_);refine goesL_ (some 33) rfl rfl Tryd.func103 (by kernel_rfl) rfl #[] rfl au1 ?_;(with_reducible refine (width_marks.calls  t235 _ A12.out).mono ?_);rintro e w21 ⟨v236,rfl,ho0,hb⟩;refine ⟨_,rfl,?_⟩;have n0_ := Aside0.mk (Kd.R_lower ho0 (below_size au0));have n1_ := Aside0.mk (below_step au0 hb);clear HB;have HO237 := n0_;have HB := n1_;clear n0_ n1_;(try clear hb);(try clear hb2);(try clear hk);(try clear hi);(try clear ho0);obtain ⟨Ao22,co22,eo22⟩ := Kd.R_slice HO237.out;subst eo22) | ((with_reducible refine gate_callee (f := 102) rfl ?_);refine goesL_ (some 35) rfl rfl Tryd.func102 (by kernel_rfl) rfl #[.slice Ao22 t235.length co22,.int .i32 a0] rfl au1 ?_;(with_reducible refine (width_within_rune.calls _ _ t235 a0 false _ ?side1 ?side2 A13.out).mono ?_);(case side1 => repeat (first | exact (Kd.R_reads' HO237.out).2.2 | (with_reducible refine Kd.C_alloc ?_ _) | (with_reducible refine Kd.C_drewN ?_ _) | (with_reducible refine Kd.C_drew ?_)));(case side2 => exact (Kd.R_reads' HO237.out).2.1);rintro e w23 ⟨rfl,hb⟩;refine ⟨_,rfl,?_⟩;have n0_ := Aside0.mk (Kd.R_below au8 hb);have n1_ := Aside0.mk (below_step au0 hb);clear HO237;clear HB;have HO237 := n0_;have HB := n1_;clear n0_ n1_;(try clear hb);(try clear hb2);(try clear hk);(try clear hi)) | ((with_reducible refine gate_callee (f := 104) rfl ?_);refine goesL_ (some 37) rfl rfl Tryd.func104 (by kernel_rfl) rfl #[] rfl au1 ?_;(with_reducible refine (width_wides.calls  t239 _ A18.out).mono ?_);rintro e w24 ⟨v240,rfl,ho0,hb⟩;refine ⟨_,rfl,?_⟩;have n0_ := Aside0.mk (Kd.R_elder' au8 (Kd.R_base ho0) hb);have n1_ := Aside0.mk (Kd.R_lower (Kd.R_new' ho0 (Kd.R_lt au8)) (below_size au0));have n2_ := Aside0.mk (below_step au0 hb);clear HO237;clear HB;have HO237 := n0_;have HO241 := n1_;have HB := n2_;clear n0_ n1_ n2_;(try clear hb);(try clear hb2);(try clear hk);(try clear hi);(try clear ho0);obtain ⟨Ao25,co25,eo25⟩ := Kd.R_slice HO241.out;subst eo25) | ((with_reducible refine gate_callee (f := 102) rfl ?_);refine goesL_ (some 39) rfl rfl Tryd.func102 (by kernel_rfl) rfl #[.slice Ao25 t239.length co25,.int .i32 a0] rfl au1 ?_;(with_reducible refine (width_within_rune.calls _ _ t239 a0 true _ ?side1 ?side2 A19.out).mono ?_);(case side1 => repeat (first | exact (Kd.R_reads' HO241.out).2.2 | (with_reducible refine Kd.C_alloc ?_ _) | (with_reducible refine Kd.C_drewN ?_ _) | (with_reducible refine Kd.C_drew ?_)));(case side2 => exact (Kd.R_reads' HO241.out).2.1);rintro e w26 ⟨rfl,hb⟩;refine ⟨_,rfl,?_⟩;have n0_ := Aside0.mk (Kd.R_below au8 hb);have n1_ := Aside0.mk (Kd.R_below (by (with_reducible repeat (first | apply Kd.R_alloc | apply Kd.R_drewN | apply Kd.R_drew));exact HO241.out) hb);have n2_ := Aside0.mk (below_step au0 hb);clear HO237;clear HO241;clear HB;have HO237 := n0_;have HO241 := n1_;have HB := n2_;clear n0_ n1_ n2_;(try clear hb);(try clear hb2);(try clear hk);(try clear hi)))
          go_ret
          exact ⟨au2,au0⟩
         ·replace c20 := Bool.eq_false_iff.mpr c20
          subst c20
          have H1 : (some 0) = some r := by rw [if_neg (show ¬ (false = true) by decide)] at H;exact H
          clear H
          have H := H1
          clear H1
          obtain rfl := Option.some.inj H
          go_wp2_with (first | ((with_reducible refine gate_callee (f := 103) rfl ?_);refine goesL_ (some 33) rfl rfl Tryd.func103 (by kernel_rfl) rfl #[] rfl au1 ?_;(with_reducible refine (width_marks.calls  t235 _ A12.out).mono ?_);rintro e w27 ⟨v236,rfl,ho0,hb⟩;refine ⟨_,rfl,?_⟩;have n0_ := Aside0.mk (Kd.R_lower ho0 (below_size au0));have n1_ := Aside0.mk (below_step au0 hb);clear HB;have HO237 := n0_;have HB := n1_;clear n0_ n1_;(try clear hb);(try clear hb2);(try clear hk);(try clear hi);(try clear ho0);obtain ⟨Ao28,co28,eo28⟩ := Kd.R_slice HO237.out;subst eo28) | ((with_reducible refine gate_callee (f := 102) rfl ?_);refine goesL_ (some 35) rfl rfl Tryd.func102 (by kernel_rfl) rfl #[.slice Ao28 t235.length co28,.int .i32 a0] rfl au1 ?_;(with_reducible refine (width_within_rune.calls _ _ t235 a0 false _ ?side1 ?side2 A13.out).mono ?_);(case side1 => repeat (first | exact (Kd.R_reads' HO237.out).2.2 | (with_reducible refine Kd.C_alloc ?_ _) | (with_reducible refine Kd.C_drewN ?_ _) | (with_reducible refine Kd.C_drew ?_)));(case side2 => exact (Kd.R_reads' HO237.out).2.1);rintro e w29 ⟨rfl,hb⟩;refine ⟨_,rfl,?_⟩;have n0_ := Aside0.mk (Kd.R_below au8 hb);have n1_ := Aside0.mk (below_step au0 hb);clear HO237;clear HB;have HO237 := n0_;have HB := n1_;clear n0_ n1_;(try clear hb);(try clear hb2);(try clear hk);(try clear hi)) | ((with_reducible refine gate_callee (f := 104) rfl ?_);refine goesL_ (some 37) rfl rfl Tryd.func104 (by kernel_rfl) rfl #[] rfl au1 ?_;(with_reducible refine (width_wides.calls  t239 _ A18.out).mono ?_);rintro e w30 ⟨v240,rfl,ho0,hb⟩;refine ⟨_,rfl,?_⟩;have n0_ := Aside0.mk (Kd.R_elder' au8 (Kd.R_base ho0) hb);have n1_ := Aside0.mk (Kd.R_lower (Kd.R_new' ho0 (Kd.R_lt au8)) (below_size au0));have n2_ := Aside0.mk (below_step au0 hb);clear HO237;clear HB;have HO237 := n0_;have HO241 := n1_;have HB := n2_;clear n0_ n1_ n2_;(try clear hb);(try clear hb2);(try clear hk);(try clear hi);(try clear ho0);obtain ⟨Ao31,co31,eo31⟩ := Kd.R_slice HO241.out;subst eo31) | ((with_reducible refine gate_callee (f := 102) rfl ?_);refine goesL_ (some 39) rfl rfl Tryd.func102 (by kernel_rfl) rfl #[.slice Ao31 t239.length co31,.int .i32 a0] rfl au1 ?_;(with_reducible refine (width_within_rune.calls _ _ t239 a0 false _ ?side1 ?side2 A19.out).mono ?_);(case side1 => repeat (first | exact (Kd.R_reads' HO241.out).2.2 | (with_reducible refine Kd.C_alloc ?_ _) | (with_reducible refine Kd.C_drewN ?_ _) | (with_reducible refine Kd.C_drew ?_)));(case side2 => exact (Kd.R_reads' HO241.out).2.1);rintro e w32 ⟨rfl,hb⟩;refine ⟨_,rfl,?_⟩;have n0_ := Aside0.mk (Kd.R_below au8 hb);have n1_ := Aside0.mk (Kd.R_below (by (with_reducible repeat (first | apply Kd.R_alloc | apply Kd.R_drewN | apply Kd.R_drew));exact HO241.out) hb);have n2_ := Aside0.mk (below_step au0 hb);clear HO237;clear HO241;clear HB;have HO237 := n0_;have HO241 := n1_;have HB := n2_;clear n0_ n1_ n2_;(try clear hb);(try clear hb2);(try clear hk);(try clear hi)))
          go_ret
          exact ⟨au2,au0⟩
def cluster_glued.j0 : Nat → Int → Int → Bool → Option (Bool)
 | 0,_,_,_ => none
 | k + 1,x0,x1,x11 => if x11 = true then (some true) else ((width_Class.f k x0).bind fun t243 => ((width_Class.f k x1).bind fun t244 => (if t244 = 3 then (if t243 = 1 then (some false) else (some (t243 != 2))) else (some false))))
def cluster_glued.f (k : Nat) (a0 : Int) (a1 : Int) : Option (Bool) := if a0 = 13 then (cluster_glued.j0 k a0 a1 (a1 == 10)) else (cluster_glued.j0 k a0 a1 false)
theorem cluster_glued.mono_l : ∀ k,(∀ y0 y1 y2,LeO (cluster_glued.j0 k y0 y1 y2) (cluster_glued.j0 (k + 1) y0 y1 y2))
 | 0 => fun _ _ _ r h => by simp [cluster_glued.j0] at h
 | k + 1 => by
  have ih0 := cluster_glued.mono_l k
  ·intro y0 y1 y2
   unfold cluster_glued.j0
   repeat' first
   | (with_reducible exact ih0 _ _ _)
   | (with_reducible exact width_Class.mono _ _)
   | (with_reducible exact LeO.refl _)
   | (with_reducible exact LeO.none _)
   | (with_reducible refine LeO.ite ?_ ?_)
   | (with_reducible refine LeO.bind ?_ (fun _ => ?_))
   | exact ih0 _ _ _
   | exact width_Class.mono _ _
   | exact LeO.none _
   | refine LeO.ite ?_ ?_
   | refine LeO.bind ?_ (fun _ => ?_)
theorem cluster_glued.mono : ∀ a0 a1 k,LeO (cluster_glued.f k a0 a1) (cluster_glued.f (k + 1) a0 a1) := by
 intro a0 a1 k
 have ih0 := cluster_glued.mono_l k
 unfold cluster_glued.f
 repeat' first
   | (with_reducible exact ih0 _ _ _)
   | (with_reducible exact width_Class.mono _ _)
   | (with_reducible exact LeO.refl _)
   | (with_reducible exact LeO.none _)
   | (with_reducible refine LeO.ite ?_ ?_)
   | (with_reducible refine LeO.bind ?_ (fun _ => ?_))
   | exact ih0 _ _ _
   | exact width_Class.mono _ _
   | exact LeO.none _
   | refine LeO.ite ?_ ?_
   | refine LeO.bind ?_ (fun _ => ?_)
set_option maxHeartbeats 8000000 in
set_option maxRecDepth 100000 in
theorem cluster_glued.calls (k : Nat) (a0 : Int) (a1 : Int) (r : Bool) (w : World) (h : cluster_glued.f k a0 a1 = some r) :
  Calls Tryd.prog 85 #[.int .i32 a0,.int .i32 a1] w fun e w' => e = .returned (.bool r) ∧ Below w.heap.size w w' := by
 have HB := Aside0.mk (Below.refl w.heap.size w)
 have H : (if a0 = 13 then (cluster_glued.j0 k a0 a1 (a1 == 10)) else (cluster_glued.j0 k a0 a1 false)) = some r := h
 clear h
 have HC3 := Aside0.mk H
 clear H
 go_enter Tryd.func85,Tryd.ntmps85
 go_upto_region 1 with (fail)
 go_cut [11] (fun v11 wc => ∃ (kq : Nat) (x11_2 : Bool),v11 = .bool x11_2 ∧ Aside0 (cluster_glued.j0 kq a0 a1 x11_2 = some r) ∧ Aside0 (kq ≤ k) ∧ Aside0 (Below w.heap.size w wc))
 case first =>
  have H := HC3.out
  clear HC3
  by_cases c4 : a0 = 13
  ·rw [if_pos c4] at H
   have c4b0 : (a0 == 13) = true := beq_iff_eq.mpr c4
   have c4b1 : (a0 != 13) = false := bne_eq_false_iff_eq.mpr c4
   clear c4
   (first | rw [c4b0] | (simp only [i64_w,i32_w];rw [c4b0]) | skip)
   have H' := Aside0.mk H
   clear H
   go_wp2
   go_meet
   case rel => exact ⟨_,((a1 == 10)),au13,H',⟨by first | omega | exact Nat.le_refl _⟩,⟨au0⟩⟩
  ·rw [if_neg c4] at H
   have c4b0 : (a0 == 13) = false := beq_eq_false_iff_ne.mpr c4
   have c4b1 : (a0 != 13) = true := bne_iff_ne.mpr c4
   (first | rw [c4b0] | (simp only [i64_w,i32_w];rw [c4b0]) | skip)
   have H' := Aside0.mk H
   clear H
   go_wp2
   go_meet
   case rel => exact ⟨_,(false),au13,H',⟨by first | omega | exact Nat.le_refl _⟩,⟨au0⟩⟩
 case rest =>
  clear HC3
  try clear p2
  try clear c4
  try clear c4b0
  try clear c4b1
  obtain ⟨kq,x11_2,rfl,HA,HJ2,HB⟩ := hcut
  cases kq with
  | zero => exact absurd HA.out (by simp [cluster_glued.j0])
  | succ kj2 =>
   have H := HA.out
   clear HA
   simp only [cluster_glued.j0] at H
   by_cases c5 : x11_2 = true
   ·subst c5
    have H1 : (some true) = some r := by rw [if_pos rfl] at H;exact H
    clear H
    have H := H1
    clear H1
    obtain rfl := Option.some.inj H
    go_wp2
    go_ret
    exact ⟨au2,au0⟩
   ·replace c5 := Bool.eq_false_iff.mpr c5
    subst c5
    have H1 : ((width_Class.f kj2 a0).bind fun t243 => ((width_Class.f kj2 a1).bind fun t244 => (if t244 = 3 then (if t243 = 1 then (some false) else (some (t243 != 2))) else (some false)))) = some r := by rw [if_neg (show ¬ (false = true) by decide)] at H;exact H
    clear H
    have H := H1
    clear H1
    replace H := Option.bind_eq_some_iff.mp H
    obtain ⟨t243,A60,H⟩ := H
    replace H : ((width_Class.f kj2 a1).bind fun t244 => (if t244 = 3 then (if t243 = 1 then (some false) else (some (t243 != 2))) else (some false))) = some r := H
    have A6 := Aside0.mk A60
    clear A60
    replace H := Option.bind_eq_some_iff.mp H
    obtain ⟨t244,A70,H⟩ := H
    replace H : (if t244 = 3 then (if t243 = 1 then (some false) else (some (t243 != 2))) else (some false)) = some r := H
    have A7 := Aside0.mk A70
    clear A70
    by_cases c8 : t244 = 3
    ·rw [if_pos c8] at H
     have c8b0 : (t244 == 3) = true := beq_iff_eq.mpr c8
     have c8b1 : (t244 != 3) = false := bne_eq_false_iff_eq.mpr c8
     clear c8
     by_cases c9 : t243 = 1
     ·rw [if_pos c9] at H
      have c9b0 : (t243 == 1) = true := beq_iff_eq.mpr c9
      have c9b1 : (t243 != 1) = false := bne_eq_false_iff_eq.mpr c9
      clear c9
      obtain rfl := Option.some.inj H
      go_wp2_with (first | ((with_reducible refine gate_callee (f := 96) rfl ?_);refine goesL_ (some 13) rfl rfl Tryd.func96 (by kernel_rfl) rfl #[.int .i32 a0] rfl au1 ?_;(with_reducible refine (width_Class.calls kj2 a0 t243 _ A6.out).mono ?_);rintro e w10 ⟨rfl,hb⟩;refine ⟨_,rfl,?_⟩;have n0_ := Aside0.mk (below_step au0 hb);clear HB;have HB := n0_;clear n0_;(try clear hb);(try clear hb2);(try clear hk);(try clear hi)) | ((with_reducible refine gate_callee (f := 96) rfl ?_);refine goesL_ (some 15) rfl rfl Tryd.func96 (by kernel_rfl) rfl #[.int .i32 a1] rfl au1 ?_;(with_reducible refine (width_Class.calls kj2 a1 t244 _ A7.out).mono ?_);rintro e w11 ⟨rfl,hb⟩;refine ⟨_,rfl,?_⟩;have n0_ := Aside0.mk (below_step au0 hb);clear HB;have HB := n0_;clear n0_;(try clear hb);(try clear hb2);(try clear hk);(try clear hi)))
      go_ret
      exact ⟨au2,au0⟩
     ·rw [if_neg c9] at H
      have c9b0 : (t243 == 1) = false := beq_eq_false_iff_ne.mpr c9
      have c9b1 : (t243 != 1) = true := bne_iff_ne.mpr c9
      obtain rfl := Option.some.inj H
      go_wp2_with (first | ((with_reducible refine gate_callee (f := 96) rfl ?_);refine goesL_ (some 13) rfl rfl Tryd.func96 (by kernel_rfl) rfl #[.int .i32 a0] rfl au1 ?_;(with_reducible refine (width_Class.calls kj2 a0 t243 _ A6.out).mono ?_);rintro e w12 ⟨rfl,hb⟩;refine ⟨_,rfl,?_⟩;have n0_ := Aside0.mk (below_step au0 hb);clear HB;have HB := n0_;clear n0_;(try clear hb);(try clear hb2);(try clear hk);(try clear hi)) | ((with_reducible refine gate_callee (f := 96) rfl ?_);refine goesL_ (some 15) rfl rfl Tryd.func96 (by kernel_rfl) rfl #[.int .i32 a1] rfl au1 ?_;(with_reducible refine (width_Class.calls kj2 a1 t244 _ A7.out).mono ?_);rintro e w13 ⟨rfl,hb⟩;refine ⟨_,rfl,?_⟩;have n0_ := Aside0.mk (below_step au0 hb);clear HB;have HB := n0_;clear n0_;(try clear hb);(try clear hb2);(try clear hk);(try clear hi)))
      go_ret
      exact ⟨au2,au0⟩
    ·rw [if_neg c8] at H
     have c8b0 : (t244 == 3) = false := beq_eq_false_iff_ne.mpr c8
     have c8b1 : (t244 != 3) = true := bne_iff_ne.mpr c8
     obtain rfl := Option.some.inj H
     go_wp2_with (first | ((with_reducible refine gate_callee (f := 96) rfl ?_);refine goesL_ (some 13) rfl rfl Tryd.func96 (by kernel_rfl) rfl #[.int .i32 a0] rfl au1 ?_;(with_reducible refine (width_Class.calls kj2 a0 t243 _ A6.out).mono ?_);rintro e w14 ⟨rfl,hb⟩;refine ⟨_,rfl,?_⟩;have n0_ := Aside0.mk (below_step au0 hb);clear HB;have HB := n0_;clear n0_;(try clear hb);(try clear hb2);(try clear hk);(try clear hi)) | ((with_reducible refine gate_callee (f := 96) rfl ?_);refine goesL_ (some 15) rfl rfl Tryd.func96 (by kernel_rfl) rfl #[.int .i32 a1] rfl au1 ?_;(with_reducible refine (width_Class.calls kj2 a1 t244 _ A7.out).mono ?_);rintro e w15 ⟨rfl,hb⟩;refine ⟨_,rfl,?_⟩;have n0_ := Aside0.mk (below_step au0 hb);clear HB;have HB := n0_;clear n0_;(try clear hb);(try clear hb2);(try clear hk);(try clear hi)))
     go_ret
     exact ⟨au2,au0⟩
def cluster_Boundary.j0 : Nat → ByteArray → Int → Bool → Option (Bool)
 | 0,_,_,_ => none
 | k + 1,x0,x1,x16 => if x16 = true then (if x1 = 0 then (some true) else (some (x1 == (x0.size : Int)))) else ((unit_Boundary.f k x0 x1).bind fun t245 => (if t245 = true then ((unit_Prev.f k x0 x1).bind fun t246 => ((unit_At.f k x0 t246).bind fun bt247 => ((unit_At.f k x0 x1).bind fun bt251 => ((cluster_glued.f k bt247.1 bt251.1).bind fun t255 => (some (!t255)))))) else (some false)))
def cluster_Boundary.f (k : Nat) (a0 : ByteArray) (a1 : Int) : Option (Bool) := if a1 ≤ 0 then (cluster_Boundary.j0 k a0 a1 true) else (cluster_Boundary.j0 k a0 a1 (decide (a1 ≥ (a0.size : Int))))
theorem cluster_Boundary.mono_l : ∀ k,(∀ y0 y1 y2,LeO (cluster_Boundary.j0 k y0 y1 y2) (cluster_Boundary.j0 (k + 1) y0 y1 y2))
 | 0 => fun _ _ _ r h => by simp [cluster_Boundary.j0] at h
 | k + 1 => by
  have ih0 := cluster_Boundary.mono_l k
  ·intro y0 y1 y2
   unfold cluster_Boundary.j0
   repeat' first
   | (with_reducible exact ih0 _ _ _)
   | (with_reducible exact cluster_glued.mono _ _ _)
   | (with_reducible exact unit_At.mono _ _ _)
   | (with_reducible exact unit_Boundary.mono _ _ _)
   | (with_reducible exact unit_Prev.mono _ _ _)
   | (with_reducible exact LeO.refl _)
   | (with_reducible exact LeO.none _)
   | (with_reducible refine LeO.ite ?_ ?_)
   | (with_reducible refine LeO.bind ?_ (fun _ => ?_))
   | exact ih0 _ _ _
   | exact cluster_glued.mono _ _ _
   | exact unit_At.mono _ _ _
   | exact unit_Boundary.mono _ _ _
   | exact unit_Prev.mono _ _ _
   | exact LeO.none _
   | refine LeO.ite ?_ ?_
   | refine LeO.bind ?_ (fun _ => ?_)
theorem cluster_Boundary.mono : ∀ a0 a1 k,LeO (cluster_Boundary.f k a0 a1) (cluster_Boundary.f (k + 1) a0 a1) := by
 intro a0 a1 k
 have ih0 := cluster_Boundary.mono_l k
 unfold cluster_Boundary.f
 repeat' first
   | (with_reducible exact ih0 _ _ _)
   | (with_reducible exact cluster_glued.mono _ _ _)
   | (with_reducible exact unit_At.mono _ _ _)
   | (with_reducible exact unit_Boundary.mono _ _ _)
   | (with_reducible exact unit_Prev.mono _ _ _)
   | (with_reducible exact LeO.refl _)
   | (with_reducible exact LeO.none _)
   | (with_reducible refine LeO.ite ?_ ?_)
   | (with_reducible refine LeO.bind ?_ (fun _ => ?_))
   | exact ih0 _ _ _
   | exact cluster_glued.mono _ _ _
   | exact unit_At.mono _ _ _
   | exact unit_Boundary.mono _ _ _
   | exact unit_Prev.mono _ _ _
   | exact LeO.none _
   | refine LeO.ite ?_ ?_
   | refine LeO.bind ?_ (fun _ => ?_)
set_option maxHeartbeats 8000000 in
set_option maxRecDepth 100000 in
theorem cluster_Boundary.calls (k : Nat) (a0 : ByteArray) (a1 : Int) (r : Bool) (w : World) (hT : Lib.Utf8Tabs 0 1 w) (h : cluster_Boundary.f k a0 a1 = some r) :
  Calls Tryd.prog 42 #[.string a0,.int .i64 a1] w fun e w' => e = .returned (.bool r) ∧ Below w.heap.size w w' := by
 have hu30 := Tryd.underlying30
 have HT := Aside0.mk hT
 clear hT
 have HB := Aside0.mk (Below.refl w.heap.size w)
 have H : (if a1 ≤ 0 then (cluster_Boundary.j0 k a0 a1 true) else (cluster_Boundary.j0 k a0 a1 (decide (a1 ≥ (a0.size : Int))))) = some r := h
 clear h
 have HC3 := Aside0.mk H
 clear H
 go_enter Tryd.func42,Tryd.ntmps42
 go_upto_region 1 with (fail)
 go_cut [16] (fun v16 wc => ∃ (kq : Nat) (x16_2 : Bool),v16 = .bool x16_2 ∧ Aside0 (cluster_Boundary.j0 kq a0 a1 x16_2 = some r) ∧ Aside0 (kq ≤ k) ∧ Aside0 (Below w.heap.size w wc))
 case first =>
  have H := HC3.out
  clear HC3
  by_cases c4 : a1 ≤ 0
  ·rw [if_pos c4] at H
   have c4b0 : decide (a1 ≤ 0) = true := decide_eq_true c4
   clear c4
   (first | rw [c4b0] | (simp only [i64_w,i32_w];rw [c4b0]) | skip)
   have H' := Aside0.mk H
   clear H
   go_wp2
   go_meet
   case rel => exact ⟨_,(true),au13,H',⟨by first | omega | exact Nat.le_refl _⟩,⟨au0⟩⟩
  ·rw [if_neg c4] at H
   have c4b0 : decide (a1 ≤ 0) = false := decide_eq_false c4
   clear c4
   (first | rw [c4b0] | (simp only [i64_w,i32_w];rw [c4b0]) | skip)
   have H' := Aside0.mk H
   clear H
   go_wp2
   go_meet
   case rel => exact ⟨_,(decide (a1 ≥ (a0.size : Int))),au13,H',⟨by first | omega | exact Nat.le_refl _⟩,⟨au0⟩⟩
 case rest =>
  clear HC3
  try clear p2
  try clear c4
  try clear c4b0
  obtain ⟨kq,x16_2,rfl,HA,HJ2,HB⟩ := hcut
  cases kq with
  | zero => exact absurd HA.out (by simp [cluster_Boundary.j0])
  | succ kj2 =>
   have H := HA.out
   clear HA
   simp only [cluster_Boundary.j0] at H
   by_cases c5 : x16_2 = true
   ·subst c5
    have H1 : (if a1 = 0 then (some true) else (some (a1 == (a0.size : Int)))) = some r := by rw [if_pos rfl] at H;exact H
    clear H
    have H := H1
    clear H1
    by_cases c6 : a1 = 0
    ·rw [if_pos c6] at H
     have c6b0 : (a1 == 0) = true := beq_iff_eq.mpr c6
     have c6b1 : (a1 != 0) = false := bne_eq_false_iff_eq.mpr c6
     clear c6
     obtain rfl := Option.some.inj H
     go_wp2
     go_ret
     exact ⟨au2,au0⟩
    ·rw [if_neg c6] at H
     have c6b0 : (a1 == 0) = false := beq_eq_false_iff_ne.mpr c6
     have c6b1 : (a1 != 0) = true := bne_iff_ne.mpr c6
     obtain rfl := Option.some.inj H
     go_wp2
     go_ret
     exact ⟨au2,au0⟩
   ·replace c5 := Bool.eq_false_iff.mpr c5
    subst c5
    have H1 : ((unit_Boundary.f kj2 a0 a1).bind fun t245 => (if t245 = true then ((unit_Prev.f kj2 a0 a1).bind fun t246 => ((unit_At.f kj2 a0 t246).bind fun bt247 => ((unit_At.f kj2 a0 a1).bind fun bt251 => ((cluster_glued.f kj2 bt247.1 bt251.1).bind fun t255 => (some (!t255)))))) else (some false))) = some r := by rw [if_neg (show ¬ (false = true) by decide)] at H;exact H
    clear H
    have H := H1
    clear H1
    replace H := Option.bind_eq_some_iff.mp H
    obtain ⟨t245,A70,H⟩ := H
    replace H : (if t245 = true then ((unit_Prev.f kj2 a0 a1).bind fun t246 => ((unit_At.f kj2 a0 t246).bind fun bt247 => ((unit_At.f kj2 a0 a1).bind fun bt251 => ((cluster_glued.f kj2 bt247.1 bt251.1).bind fun t255 => (some (!t255)))))) else (some false)) = some r := H
    have A7 := Aside0.mk A70
    clear A70
    by_cases c8 : t245 = true
    ·subst c8
     have H1 : ((unit_Prev.f kj2 a0 a1).bind fun t246 => ((unit_At.f kj2 a0 t246).bind fun bt247 => ((unit_At.f kj2 a0 a1).bind fun bt251 => ((cluster_glued.f kj2 bt247.1 bt251.1).bind fun t255 => (some (!t255)))))) = some r := by rw [if_pos rfl] at H;exact H
     clear H
     have H := H1
     clear H1
     replace H := Option.bind_eq_some_iff.mp H
     obtain ⟨t246,A90,H⟩ := H
     replace H : ((unit_At.f kj2 a0 t246).bind fun bt247 => ((unit_At.f kj2 a0 a1).bind fun bt251 => ((cluster_glued.f kj2 bt247.1 bt251.1).bind fun t255 => (some (!t255))))) = some r := H
     have A9 := Aside0.mk A90
     clear A90
     replace H := Option.bind_eq_some_iff.mp H
     obtain ⟨⟨t247,t248,t249⟩,A100,H⟩ := H
     replace H : ((unit_At.f kj2 a0 a1).bind fun bt251 => ((cluster_glued.f kj2 t247 bt251.1).bind fun t255 => (some (!t255)))) = some r := H
     have A10 := Aside0.mk A100
     clear A100
     replace H := Option.bind_eq_some_iff.mp H
     obtain ⟨⟨t251,t252,t253⟩,A110,H⟩ := H
     replace H : ((cluster_glued.f kj2 t247 t251).bind fun t255 => (some (!t255))) = some r := H
     have A11 := Aside0.mk A110
     clear A110
     replace H := Option.bind_eq_some_iff.mp H
     obtain ⟨t255,A120,H⟩ := H
     replace H : (some (!t255)) = some r := H
     have A12 := Aside0.mk A120
     clear A120
     obtain rfl := Option.some.inj H
     go_wp2_with (first | ((with_reducible refine gate_callee (f := 22) rfl ?_);refine goesL_ (some 27) rfl rfl Tryd.func22 (by kernel_rfl) rfl #[.string a0,.int .i64 a1] rfl au1 ?_;(with_reducible refine (unit_Boundary.calls kj2 a0 a1 true _ ?side1 A7.out).mono ?_);(case side1 => exact tabs_below HT.out au0);rintro e w13 ⟨rfl,hb⟩;refine ⟨_,rfl,?_⟩;have n0_ := Aside0.mk (below_step au0 hb);clear HB;have HB := n0_;clear n0_;(try clear hb);(try clear hb2);(try clear hk);(try clear hi)) | ((with_reducible refine gate_callee (f := 33) rfl ?_);refine goesL_ (some 33) rfl rfl Tryd.func33 (by kernel_rfl) rfl #[.string a0,.int .i64 a1] rfl au1 ?_;(with_reducible refine (unit_Prev.calls kj2 a0 a1 t246 _ ?side1 A9.out).mono ?_);(case side1 => exact tabs_below HT.out au0);rintro e w14 ⟨rfl,hb⟩;refine ⟨_,rfl,?_⟩;have n0_ := Aside0.mk (below_step au0 hb);clear HB;have HB := n0_;clear n0_;(try clear hb);(try clear hb2);(try clear hk);(try clear hi)) | ((with_reducible refine gate_callee (f := 65) rfl ?_);refine goesL_ (some 34) rfl rfl Tryd.func65 (by kernel_rfl) rfl #[.string a0,.int .i64 t246] rfl au1 ?_;(with_reducible refine (unit_At.calls kj2 a0 t246 t247 t248 t249 _ ?side1 A10.out).mono ?_);(case side1 => exact tabs_below HT.out au0);rintro e w15 ⟨rfl,hb⟩;refine ⟨_,rfl,?_⟩;have n0_ := Aside0.mk (below_step au0 hb);clear HB;have HB := n0_;clear n0_;(try clear hb);(try clear hb2);(try clear hk);(try clear hi)) | ((with_reducible refine gate_dst (N := 5) rfl ?_);(try (refine gate_guard (by rfl) ?_;dsimp only));refine box_event ?hg (N := 5) ?hd (cs := #[.int .i32 0,.int .i64 0]) (t := 30) ?hr ?_;(case hd => rfl);(case hg => rfl);(case hr => first | (go_simp;done) | (go_simp;rfl));intro gb250 hg w16 hbox hb;have n0_ := Aside0.mk (below_step au0 hb);have n1_ := Aside0.mk (hbox);have n2_ := Aside0.mk ((by rw [hg];exact (below_size au0) : w.heap.size ≤ gb250));have n3_ := Aside0.mk ((by rw [hg];exact (below_size au0) : w.heap.size ≤ gb250));clear HB;have HB := n0_;have BK250 := n1_;have GW250 := n2_;have GE250 := n3_;clear n0_ n1_ n2_ n3_;clear hb hbox hg;have hcz17_0 : w16.cell? ⟨gb250,0,none⟩ = some (.int .i32 0) := (blk_cell BK250.out 0).trans rfl;have hcz17_1 : w16.cell? ⟨gb250,1,none⟩ = some (.int .i64 0) := (blk_cell BK250.out 1).trans rfl;have hfz17_0 := blk_frozen BK250.out 0;have hfz17_1 := blk_frozen BK250.out 1) | ((with_reducible refine gate_callee (f := 65) rfl ?_);refine goesL_ (some 40) rfl rfl Tryd.func65 (by kernel_rfl) rfl #[.string a0,.int .i64 a1] rfl au1 ?_;(with_reducible refine (unit_At.calls kj2 a0 a1 t251 t252 t253 _ ?side1 A11.out).mono ?_);(case side1 => exact tabs_below HT.out au11);rintro e w18 ⟨rfl,hb⟩;refine ⟨_,rfl,?_⟩;have n0_ := Aside0.mk (blk_below (g := gb250) (o := .cells #[.int .i32 t247,.int .i64 t248] 30 (0,0)) (by (with_reducible repeat (first | refine blk_drewN ?_ _ | refine blk_drew ?_ | refine blk_alloc ?_ _));refine blk_put (cs := #[.int .i32 t247,.int .i64 0]) ?_ 1 _ rfl;(with_reducible repeat (first | refine blk_drewN ?_ _ | refine blk_drew ?_ | refine blk_alloc ?_ _));refine blk_put (cs := #[.int .i32 0,.int .i64 0]) ?_ 0 _ rfl;(with_reducible repeat (first | refine blk_drewN ?_ _ | refine blk_drew ?_ | refine blk_alloc ?_ _));exact BK250.out) hb);have n1_ := Aside0.mk (below_step au11 hb);clear BK250;clear HB;have BK250 := n0_;have HB := n1_;clear n0_ n1_;(try clear hb);(try clear hb2);(try clear hk);(try clear hi)) | ((with_reducible refine gate_dst (N := 7) rfl ?_);(try (refine gate_guard (by rfl) ?_;dsimp only));refine box_event ?hg (N := 7) ?hd (cs := #[.int .i32 0,.int .i64 0]) (t := 30) ?hr ?_;(case hd => rfl);(case hg => rfl);(case hr => first | (go_simp;done) | (go_simp;rfl));intro gb254 hg w19 hbox hb;have n0_ := Aside0.mk (blk_below (g := gb250) (o := .cells #[.int .i32 t247,.int .i64 t248] 30 (0,0)) (by (with_reducible repeat (first | refine blk_drewN ?_ _ | refine blk_drew ?_ | refine blk_alloc ?_ _));exact BK250.out) hb);have n1_ := Aside0.mk (below_step au11 hb);have n2_ := Aside0.mk (hbox);have n3_ := Aside0.mk ((by rw [hg];exact (below_size au11) : w.heap.size ≤ gb254));have n4_ := Aside0.mk ((by rw [hg];exact (below_size au11) : w.heap.size ≤ gb254));have n5_ := Aside0.mk ((by rw [hg];exact Nat.ne_of_lt (blk_lt (g := gb250) (o := .cells #[.int .i32 t247,.int .i64 t248] 30 (0,0)) (by (with_reducible repeat (first | refine blk_drewN ?_ _ | refine blk_drew ?_ | refine blk_alloc ?_ _));exact BK250.out)) : gb250 ≠ gb254));have n6_ := Aside0.mk ((by rw [hg];exact Nat.ne_of_gt (blk_lt (g := gb250) (o := .cells #[.int .i32 t247,.int .i64 t248] 30 (0,0)) (by (with_reducible repeat (first | refine blk_drewN ?_ _ | refine blk_drew ?_ | refine blk_alloc ?_ _));exact BK250.out)) : gb254 ≠ gb250));clear BK250;clear HB;have BK250 := n0_;have HB := n1_;have BK254 := n2_;have GW254 := n3_;have GE254 := n4_;have NB250_254 := n5_;have NB254_250 := n6_;clear n0_ n1_ n2_ n3_ n4_ n5_ n6_;clear hb hbox hg;have hnb20 := NB254_250.out;have hnc20 := NB250_254.out;have hcz21_0 : w19.cell? ⟨gb254,0,none⟩ = some (.int .i32 0) := (blk_cell BK254.out 0).trans rfl;have hcz21_1 : w19.cell? ⟨gb254,1,none⟩ = some (.int .i64 0) := (blk_cell BK254.out 1).trans rfl;have hfz21_0 := blk_frozen BK254.out 0;have hfz21_1 := blk_frozen BK254.out 1;have hcz22_0 : w19.cell? ⟨gb250,0,none⟩ = some (.int .i32 t247) := (blk_cell BK250.out 0).trans rfl;have hcz22_1 : w19.cell? ⟨gb250,1,none⟩ = some (.int .i64 t248) := (blk_cell BK250.out 1).trans rfl;have hfz22_0 := blk_frozen BK250.out 0;have hfz22_1 := blk_frozen BK250.out 1) | ((with_reducible refine gate_callee (f := 85) rfl ?_);refine goesL_ (some 47) rfl rfl Tryd.func85 (by kernel_rfl) rfl #[.int .i32 t247,.int .i32 t251] rfl au1 ?_;(with_reducible refine (cluster_glued.calls kj2 t247 t251 t255 _ A12.out).mono ?_);rintro e w23 ⟨rfl,hb⟩;refine ⟨_,rfl,?_⟩;have n0_ := Aside0.mk (blk_below (g := gb250) (o := .cells #[.int .i32 t247,.int .i64 t248] 30 (0,0)) (by (with_reducible repeat (first | refine blk_drewN ?_ _ | refine blk_drew ?_ | refine blk_alloc ?_ _));refine blk_far ?_ NB250_254.out _;(with_reducible repeat (first | refine blk_drewN ?_ _ | refine blk_drew ?_ | refine blk_alloc ?_ _));refine blk_far ?_ NB250_254.out _;(with_reducible repeat (first | refine blk_drewN ?_ _ | refine blk_drew ?_ | refine blk_alloc ?_ _));exact BK250.out) hb);have n1_ := Aside0.mk (blk_below (g := gb254) (o := .cells #[.int .i32 t251,.int .i64 t252] 30 (0,0)) (by (with_reducible repeat (first | refine blk_drewN ?_ _ | refine blk_drew ?_ | refine blk_alloc ?_ _));refine blk_put (cs := #[.int .i32 t251,.int .i64 0]) ?_ 1 _ rfl;(with_reducible repeat (first | refine blk_drewN ?_ _ | refine blk_drew ?_ | refine blk_alloc ?_ _));refine blk_put (cs := #[.int .i32 0,.int .i64 0]) ?_ 0 _ rfl;(with_reducible repeat (first | refine blk_drewN ?_ _ | refine blk_drew ?_ | refine blk_alloc ?_ _));exact BK254.out) hb);have n2_ := Aside0.mk (below_step (by repeat (first | (with_reducible first | exact HB.out | apply below_alloc | apply pw_below_drewN | apply below_drew1 | refine below_set ?_ GE250.out | refine below_set ?_ GE254.out) | exact HB.out)) hb);clear BK250;clear BK254;clear HB;have BK250 := n0_;have BK254 := n1_;have HB := n2_;clear n0_ n1_ n2_;(try clear hb);(try clear hb2);(try clear hk);(try clear hi)))
     go_ret
     exact ⟨au2,by repeat (first | (with_reducible first | exact HB.out | apply below_alloc | apply pw_below_drewN | apply below_drew1 | refine below_set ?_ GE250.out | refine below_set ?_ GE254.out) | exact HB.out)⟩
    ·replace c8 := Bool.eq_false_iff.mpr c8
     subst c8
     have H1 : (some false) = some r := by rw [if_neg (show ¬ (false = true) by decide)] at H;exact H
     clear H
     have H := H1
     clear H1
     obtain rfl := Option.some.inj H
     go_wp2_with (first | ((with_reducible refine gate_callee (f := 22) rfl ?_);refine goesL_ (some 27) rfl rfl Tryd.func22 (by kernel_rfl) rfl #[.string a0,.int .i64 a1] rfl au1 ?_;(with_reducible refine (unit_Boundary.calls kj2 a0 a1 false _ ?side1 A7.out).mono ?_);(case side1 => exact tabs_below HT.out au0);rintro e w24 ⟨rfl,hb⟩;refine ⟨_,rfl,?_⟩;have n0_ := Aside0.mk (below_step au0 hb);clear HB;have HB := n0_;clear n0_;(try clear hb);(try clear hb2);(try clear hk);(try clear hi)))
     go_ret
     exact ⟨au2,au0⟩
def cluster_Next.l0 : Nat → ByteArray → Int → Option (Int)
 | 0,_,_ => none
 | k + 1,x0,x1 => if x1 < (x0.size : Int) then ((unit_Next.f k x0 x1).bind fun t256 => ((cluster_Boundary.f k x0 t256).bind fun t257 => (if t257 = true then (some t256) else (cluster_Next.l0 k x0 t256)))) else (some (x0.size : Int))
def cluster_Next.f (k : Nat) (a0 : ByteArray) (a1 : Int) : Option (Int) := if a1 < 0 then (some 0) else (cluster_Next.l0 k a0 a1)
theorem cluster_Next.mono_l : ∀ k,(∀ y0 y1,LeO (cluster_Next.l0 k y0 y1) (cluster_Next.l0 (k + 1) y0 y1))
 | 0 => fun _ _ r h => by simp [cluster_Next.l0] at h
 | k + 1 => by
  have ih0 := cluster_Next.mono_l k
  ·intro y0 y1
   unfold cluster_Next.l0
   repeat' first
   | (with_reducible exact ih0 _ _)
   | (with_reducible exact cluster_Boundary.mono _ _ _)
   | (with_reducible exact unit_Next.mono _ _ _)
   | (with_reducible exact LeO.refl _)
   | (with_reducible exact LeO.none _)
   | (with_reducible refine LeO.ite ?_ ?_)
   | (with_reducible refine LeO.bind ?_ (fun _ => ?_))
   | exact ih0 _ _
   | exact cluster_Boundary.mono _ _ _
   | exact unit_Next.mono _ _ _
   | exact LeO.none _
   | refine LeO.ite ?_ ?_
   | refine LeO.bind ?_ (fun _ => ?_)
theorem cluster_Next.mono : ∀ a0 a1 k,LeO (cluster_Next.f k a0 a1) (cluster_Next.f (k + 1) a0 a1) := by
 intro a0 a1 k
 have ih0 := cluster_Next.mono_l k
 unfold cluster_Next.f
 repeat' first
   | (with_reducible exact ih0 _ _)
   | (with_reducible exact cluster_Boundary.mono _ _ _)
   | (with_reducible exact unit_Next.mono _ _ _)
   | (with_reducible exact LeO.refl _)
   | (with_reducible exact LeO.none _)
   | (with_reducible refine LeO.ite ?_ ?_)
   | (with_reducible refine LeO.bind ?_ (fun _ => ?_))
   | exact ih0 _ _
   | exact cluster_Boundary.mono _ _ _
   | exact unit_Next.mono _ _ _
   | exact LeO.none _
   | refine LeO.ite ?_ ?_
   | refine LeO.bind ?_ (fun _ => ?_)
set_option maxHeartbeats 8000000 in
set_option maxRecDepth 100000 in
theorem cluster_Next.calls (k : Nat) (a0 : ByteArray) (a1 : Int) (r : Int) (w : World) (hT : Lib.Utf8Tabs 0 1 w) (h : cluster_Next.f k a0 a1 = some r) :
  Calls Tryd.prog 46 #[.string a0,.int .i64 a1] w fun e w' => e = .returned (.int .i64 r) ∧ Below w.heap.size w w' := by
 have HT := Aside0.mk hT
 clear hT
 have HB := Aside0.mk (Below.refl w.heap.size w)
 have H : (if a1 < 0 then (some 0) else (cluster_Next.l0 k a0 a1)) = some r := h
 clear h
 by_cases c3 : a1 < 0
 ·rw [if_pos c3] at H
  have c3b0 : decide (a1 < 0) = true := decide_eq_true c3
  clear c3
  obtain rfl := Option.some.inj H
  go_enter Tryd.func46,Tryd.ntmps46
  go_wp2
  go_ret
  exact ⟨au2,au0⟩
 ·rw [if_neg c3] at H
  have c3b0 : decide (a1 < 0) = false := decide_eq_false c3
  clear c3
  have H' := Aside0.mk H
  clear H
  go_enter Tryd.func46,Tryd.ntmps46
  go_wp2
  go_loopg [1] k (fun kq v1 w' => ∃ (x1_1 : Int),v1 = .int .i64 x1_1 ∧ Aside0 (cluster_Next.l0 kq a0 x1_1 = some r) ∧ Aside0 (kq ≤ k) ∧ Aside0 (Below w.heap.size w w'))
  case atStart => exact ⟨(a1),au13,H',⟨Nat.le_refl _⟩,⟨au0⟩⟩
  case round =>
   clear H'
   try clear p2
   try clear c3
   try clear c3b0
   obtain ⟨x1_1,rfl,HA,HK1,HB⟩ := hrel
   cases gk with
   | zero => exact absurd HA.out (by simp [cluster_Next.l0])
   | succ k1 =>
    have H := HA.out
    clear HA
    simp only [cluster_Next.l0] at H
    by_cases c4 : x1_1 < (a0.size : Int)
    ·rw [if_pos c4] at H
     have c4b0 : decide (x1_1 < (a0.size : Int)) = true := decide_eq_true c4
     clear c4
     replace H := Option.bind_eq_some_iff.mp H
     obtain ⟨t256,A50,H⟩ := H
     replace H : ((cluster_Boundary.f k1 a0 t256).bind fun t257 => (if t257 = true then (some t256) else (cluster_Next.l0 k1 a0 t256))) = some r := H
     have A5 := Aside0.mk A50
     clear A50
     replace H := Option.bind_eq_some_iff.mp H
     obtain ⟨t257,A60,H⟩ := H
     replace H : (if t257 = true then (some t256) else (cluster_Next.l0 k1 a0 t256)) = some r := H
     have A6 := Aside0.mk A60
     clear A60
     by_cases c7 : t257 = true
     ·subst c7
      have H1 : (some t256) = some r := by rw [if_pos rfl] at H;exact H
      clear H
      have H := H1
      clear H1
      obtain rfl := Option.some.inj H
      go_wp2_with (first | ((with_reducible refine gate_callee (f := 32) rfl ?_);refine goesL_ (some 13) rfl rfl Tryd.func32 (by kernel_rfl) rfl #[.string a0,.int .i64 x1_1] rfl au1 ?_;(with_reducible refine (unit_Next.calls k1 a0 x1_1 t256 _ ?side1 A5.out).mono ?_);(case side1 => exact tabs_below HT.out au0);rintro e w8 ⟨rfl,hb⟩;refine ⟨_,rfl,?_⟩;have n0_ := Aside0.mk (below_step au0 hb);clear HB;have HB := n0_;clear n0_;(try clear hb);(try clear hb2);(try clear hk);(try clear hi)) | ((with_reducible refine gate_callee (f := 42) rfl ?_);refine goesL_ (some 16) rfl rfl Tryd.func42 (by kernel_rfl) rfl #[.string a0,.int .i64 t256] rfl au1 ?_;(with_reducible refine (cluster_Boundary.calls k1 a0 t256 true _ ?side1 A6.out).mono ?_);(case side1 => exact tabs_below HT.out au0);rintro e w9 ⟨rfl,hb⟩;refine ⟨_,rfl,?_⟩;have n0_ := Aside0.mk (below_step au0 hb);clear HB;have HB := n0_;clear n0_;(try clear hb);(try clear hb2);(try clear hk);(try clear hi)))
      go_ret
      exact ⟨au2,au0⟩
     ·replace c7 := Bool.eq_false_iff.mpr c7
      subst c7
      have H1 : (cluster_Next.l0 k1 a0 t256) = some r := by rw [if_neg (show ¬ (false = true) by decide)] at H;exact H
      clear H
      have H := H1
      clear H1
      have H' := Aside0.mk H
      clear H
      go_wp2_with (first | ((with_reducible refine gate_callee (f := 32) rfl ?_);refine goesL_ (some 13) rfl rfl Tryd.func32 (by kernel_rfl) rfl #[.string a0,.int .i64 x1_1] rfl au1 ?_;(with_reducible refine (unit_Next.calls k1 a0 x1_1 t256 _ ?side1 A5.out).mono ?_);(case side1 => exact tabs_below HT.out au0);rintro e w10 ⟨rfl,hb⟩;refine ⟨_,rfl,?_⟩;have n0_ := Aside0.mk (below_step au0 hb);clear HB;have HB := n0_;clear n0_;(try clear hb);(try clear hb2);(try clear hk);(try clear hi)) | ((with_reducible refine gate_callee (f := 42) rfl ?_);refine goesL_ (some 16) rfl rfl Tryd.func42 (by kernel_rfl) rfl #[.string a0,.int .i64 t256] rfl au1 ?_;(with_reducible refine (cluster_Boundary.calls k1 a0 t256 false _ ?side1 A6.out).mono ?_);(case side1 => exact tabs_below HT.out au0);rintro e w11 ⟨rfl,hb⟩;refine ⟨_,rfl,?_⟩;have n0_ := Aside0.mk (below_step au0 hb);clear HB;have HB := n0_;clear n0_;(try clear hb);(try clear hb2);(try clear hk);(try clear hi)))
      go_roundg k1
      case measure => have := HK1.out;omega
      case rel => exact ⟨(t256),au13,H',⟨by have := HK1.out;omega⟩,⟨au0⟩⟩
    ·rw [if_neg c4] at H
     have c4b0 : decide (x1_1 < (a0.size : Int)) = false := decide_eq_false c4
     clear c4
     obtain rfl := Option.some.inj H
     go_wp2
     go_ret
     exact ⟨au2,au0⟩
end Go.Proofs.YtfhnfhgpaoddbaaDoor.U
end
section
namespace Go.Proofs.YtfhnfhgpaoddbaaDoor.U
open Go.RowKit Go.Proofs.YtfhnfhgpaoddbaaDoorW.PrintWords Go.Proofs.YtfhnfhgpaoddbaaDoorW.PrintLast Go.Proofs.YtfhnfhgpaoddbaaDoorW.PrintMore
attribute [local go_sem] max2_int min2_int max_two min_two max_three min_three max_four min_four   -- for this text's walks alone
set_option linter.unusedVariables false
set_option linter.unusedSimpArgs false
theorem eqA53 (d : Nat) (w : World) (x0 y0 : Int) (x1 y1 : Int) (x2 y2 : Int) (x3 y3 : Int) :
  (Op.equalIn (d + 2) 53 (.agg #[.int .i64 x0,.int .i64 x1,.int .i64 x2,.int .i64 x3]) (.agg #[.int .i64 y0,.int .i64 y1,.int .i64 y2,.int .i64 y3])).run Tryd.prog w = .ok (x0 == y0 && (x1 == y1 && (x2 == y2 && (x3 == y3)))) w := by
 refine eqA_of Tryd.underlying53 (by kernel_rfl) ?_
 refine eqf_cons (by rfl) (by go_simp;rfl) (by go_simp;rfl) (by go_simp) ?_
 refine eqf_cons (by rfl) (by go_simp;rfl) (by go_simp;rfl) (by go_simp) ?_
 refine eqf_cons (by rfl) (by go_simp;rfl) (by go_simp;rfl) (by go_simp) ?_
 exact eqf_last (by rfl) (by go_simp;rfl) (by go_simp;rfl) (by go_simp)
end Go.Proofs.YtfhnfhgpaoddbaaDoor.U
end
section
namespace Go.Proofs.YtfhnfhgpaoddbaaDoor.U
open Go.RowKit Go.Proofs.YtfhnfhgpaoddbaaDoorW.PrintWords Go.Proofs.YtfhnfhgpaoddbaaDoorW.PrintLast Go.Proofs.YtfhnfhgpaoddbaaDoorW.PrintMore
attribute [local go_sem] max2_int min2_int max_two min_two max_three min_three max_four min_four   -- for this text's walks alone
set_option linter.unusedVariables false
set_option linter.unusedSimpArgs false
attribute [local go_sem high] eqA53
def bodkinlaw03_same.l0 : Nat → List (S53) → List (S53) → Int → Option (Bool)
 | 0,_,_,_ => none
 | k + 1,x0,x1,x5 => if x5 < (x0.length : Int) then (if 0 ≤ x5 then (if x5 < (x1.length : Int) then (if (!(((rd_T53 x0 x5).f0) == ((rd_T53 x1 x5).f0)) || (!(((rd_T53 x0 x5).f1) == ((rd_T53 x1 x5).f1)) || (!(((rd_T53 x0 x5).f2) == ((rd_T53 x1 x5).f2)) || (!(((rd_T53 x0 x5).f3) == ((rd_T53 x1 x5).f3)))))) = true then (some false) else (bodkinlaw03_same.l0 k x0 x1 (wrap64 (x5 + 1)))) else (none)) else (none)) else (some true)
def bodkinlaw03_same.f (k : Nat) (l0 : List (S53)) (l1 : List (S53)) : Option (Bool) := if (l0.length : Int) = (l1.length : Int) then (bodkinlaw03_same.l0 k l0 l1 0) else (some false)
set_option maxHeartbeats 8000000 in
set_option maxRecDepth 100000 in
theorem bodkinlaw03_same.calls (k : Nat) (A0 : Option Addr) (c0 : Nat) (l0 : List (S53)) (A1 : Option Addr) (c1 : Nat) (l1 : List (S53)) (r : Bool) (w : World) (hr0 : Kd.C k53 w A0 l0.length l0) (hc0 : l0.length ≤ c0) (hr1 : Kd.C k53 w A1 l1.length l1) (hc1 : l1.length ≤ c1) (h : bodkinlaw03_same.f k l0 l1 = some r) :
  Calls Tryd.prog 44 #[.slice A0 l0.length c0,.slice A1 l1.length c1] w fun e w' => e = .returned (.bool r) ∧ Drawn0 w w' := by
 have hu53 := Tryd.underlying53
 have HR0 := Aside0.mk hr0
 have HC0 := Aside0.mk hc0
 clear hr0 hc0
 have HR1 := Aside0.mk hr1
 have HC1 := Aside0.mk hc1
 clear hr1 hc1
 have H : (if (l0.length : Int) = (l1.length : Int) then (bodkinlaw03_same.l0 k l0 l1 0) else (some false)) = some r := h
 clear h
 by_cases c3 : (l0.length : Int) = (l1.length : Int)
 ·rw [if_pos c3] at H
  have c3b0 : ((l0.length : Int) == (l1.length : Int)) = true := beq_iff_eq.mpr c3
  have c3b1 : ((l0.length : Int) != (l1.length : Int)) = false := bne_eq_false_iff_eq.mpr c3
  have c3b2 : (l0.length == l1.length) = true := by first | simpa using c3 | (simp at c3 ⊢;omega)
  clear c3
  have H' := Aside0.mk H
  clear H
  go_enter Tryd.func44,Tryd.ntmps44
  go_wp2
  repeat (go_quiet (fail);try go_wp2)
  go_loopg [5] k (fun kq v5 w' => ∃ (x5_1 : Int),v5 = .int .i64 x5_1 ∧ Aside0 (bodkinlaw03_same.l0 kq l0 l1 x5_1 = some r) ∧ Aside0 (kq ≤ k) ∧ Drawn0 w w')
  case atStart => exact ⟨(0),au13,H',⟨Nat.le_refl _⟩,by repeat (first | exact Drawn0.refl _ | apply Drawn0.step)⟩
  case round =>
   clear H'
   try clear c1
   try clear p2
   try clear c3
   try clear c3b0
   try clear c3b1
   try clear c3b2
   obtain ⟨x5_1,rfl,HA,HK1,⟨m1,rfl⟩⟩ := hrel
   cases gk with
   | zero => exact absurd HA.out (by simp [bodkinlaw03_same.l0])
   | succ k1 =>
    have H := HA.out
    clear HA
    simp only [bodkinlaw03_same.l0] at H
    by_cases c4 : x5_1 < (l0.length : Int)
    ·rw [if_pos c4] at H
     have c4b0 : decide (x5_1 < (l0.length : Int)) = true := decide_eq_true c4
     clear c4
     by_cases c5 : 0 ≤ x5_1
     ·rw [if_pos c5] at H
      have c5b0 : decide (0 ≤ x5_1) = true := decide_eq_true c5
      clear c5
      by_cases c6 : x5_1 < (l1.length : Int)
      ·rw [if_pos c6] at H
       have c6b0 : decide (x5_1 < (l1.length : Int)) = true := decide_eq_true c6
       clear c6
       by_cases c7 : (!(((rd_T53 l0 x5_1).f0) == ((rd_T53 l1 x5_1).f0)) || (!(((rd_T53 l0 x5_1).f1) == ((rd_T53 l1 x5_1).f1)) || (!(((rd_T53 l0 x5_1).f2) == ((rd_T53 l1 x5_1).f2)) || (!(((rd_T53 l0 x5_1).f3) == ((rd_T53 l1 x5_1).f3)))))) = true
       ·rw [if_pos c7] at H
        have c7b0 : (!(((rd_T53 l0 x5_1).f0) == ((rd_T53 l1 x5_1).f0)) || (!(((rd_T53 l0 x5_1).f1) == ((rd_T53 l1 x5_1).f1)) || (!(((rd_T53 l0 x5_1).f2) == ((rd_T53 l1 x5_1).f2)) || (!(((rd_T53 l0 x5_1).f3) == ((rd_T53 l1 x5_1).f3)))))) = true := c7
        clear c7
        obtain rfl := Option.some.inj H
        have p320 : 0 ≤ (x5_1 : Int) := of_decide_eq_true au15
        have q320 : x5_1 < (l0.length : Int) := of_decide_eq_true au15
        obtain ⟨ad320,e320,hx320_0,hx320_1,hx320_2,hx320_3⟩ := at_T53 HR0.out x5_1 p320 q320
        cases e320
        replace p320 := eq_true p320
        replace q320 := eq_true q320
        have p321 : 0 ≤ (x5_1 : Int) := of_decide_eq_true au15
        have q321 : x5_1 < (l1.length : Int) := of_decide_eq_true au15
        obtain ⟨ad321,e321,hx321_0,hx321_1,hx321_2,hx321_3⟩ := at_T53 HR1.out x5_1 p321 q321
        cases e321
        replace p321 := eq_true p321
        replace q321 := eq_true q321
        go_wp2
        repeat (go_quiet (fail);try go_wp2)
        go_ret
        exact ⟨by first | rfl | (simp;done) | (simp [*];done),by repeat (first | exact Drawn0.refl _ | apply Drawn0.step)⟩
       ·rw [if_neg c7] at H
        have c7b0 : (!(((rd_T53 l0 x5_1).f0) == ((rd_T53 l1 x5_1).f0)) || (!(((rd_T53 l0 x5_1).f1) == ((rd_T53 l1 x5_1).f1)) || (!(((rd_T53 l0 x5_1).f2) == ((rd_T53 l1 x5_1).f2)) || (!(((rd_T53 l0 x5_1).f3) == ((rd_T53 l1 x5_1).f3)))))) = false := by simpa using c7
        clear c7
        have H' := Aside0.mk H
        clear H
        have p320 : 0 ≤ (x5_1 : Int) := of_decide_eq_true au15
        have q320 : x5_1 < (l0.length : Int) := of_decide_eq_true au15
        obtain ⟨ad320,e320,hx320_0,hx320_1,hx320_2,hx320_3⟩ := at_T53 HR0.out x5_1 p320 q320
        cases e320
        replace p320 := eq_true p320
        replace q320 := eq_true q320
        have p321 : 0 ≤ (x5_1 : Int) := of_decide_eq_true au15
        have q321 : x5_1 < (l1.length : Int) := of_decide_eq_true au15
        obtain ⟨ad321,e321,hx321_0,hx321_1,hx321_2,hx321_3⟩ := at_T53 HR1.out x5_1 p321 q321
        cases e321
        replace p321 := eq_true p321
        replace q321 := eq_true q321
        go_wp2
        repeat (go_quiet (fail);try go_wp2)
        go_roundg k1
        case measure => have := HK1.out;omega
        case rel => exact ⟨(wrap64 (x5_1 + 1)),au13,H',⟨by have := HK1.out;omega⟩,by repeat (first | exact Drawn0.refl _ | apply Drawn0.step)⟩
      ·rw [if_neg c6] at H
       exact absurd H (by simp)
     ·rw [if_neg c5] at H
      exact absurd H (by simp)
    ·rw [if_neg c4] at H
     have c4b0 : decide (x5_1 < (l0.length : Int)) = false := decide_eq_false c4
     clear c4
     obtain rfl := Option.some.inj H
     go_wp2
     repeat (go_quiet (fail);try go_wp2)
     go_ret
     exact ⟨by first | rfl | (simp;done) | (simp [*];done),by repeat (first | exact Drawn0.refl _ | apply Drawn0.step)⟩
 ·rw [if_neg c3] at H
  have c3b0 : ((l0.length : Int) == (l1.length : Int)) = false := beq_eq_false_iff_ne.mpr c3
  have c3b1 : ((l0.length : Int) != (l1.length : Int)) = true := bne_iff_ne.mpr c3
  have c3b2 : (l0.length == l1.length) = false := by first | simpa using c3 | (simp at c3 ⊢;omega)
  obtain rfl := Option.some.inj H
  go_enter Tryd.func44,Tryd.ntmps44
  go_wp2
  repeat (go_quiet (fail);try go_wp2)
  go_ret
  exact ⟨by first | rfl | (simp;done) | (simp [*];done),by repeat (first | exact Drawn0.refl _ | apply Drawn0.step)⟩
def stringslite_HasPrefix.f (a0 : ByteArray) (a1 : ByteArray) : Option (Bool) := if (a0.size : Int) ≥ (a1.size : Int) then (if 0 ≤ (a1.size : Int) then (if (a1.size : Int) ≤ (a0.size : Int) then (some ((a0.extract 0 ((a1.size : Int) : Int).toNat).toList == a1.toList)) else (none)) else (none)) else (some false)
set_option maxHeartbeats 8000000 in
set_option maxRecDepth 100000 in
theorem stringslite_HasPrefix.calls (a0 : ByteArray) (a1 : ByteArray) (r : Bool) (w : World) (h : stringslite_HasPrefix.f a0 a1 = some r) :
  Calls Tryd.prog 105 #[.string a0,.string a1] w fun e w' => e = .returned (.bool r) ∧ Drawn0 w w' := by
 have H : (if (a0.size : Int) ≥ (a1.size : Int) then (if 0 ≤ (a1.size : Int) then (if (a1.size : Int) ≤ (a0.size : Int) then (some ((a0.extract 0 ((a1.size : Int) : Int).toNat).toList == a1.toList)) else (none)) else (none)) else (some false)) = some r := h
 clear h
 by_cases c3 : (a0.size : Int) ≥ (a1.size : Int)
 ·rw [if_pos c3] at H
  have c3b0 : decide ((a1.size : Int) ≤ (a0.size : Int)) = true := decide_eq_true c3
  have c3b1 : decide (a1.size ≤ a0.size) = true := decide_eq_true (Int.ofNat_le.mp c3)
  clear c3
  by_cases c4 : 0 ≤ (a1.size : Int)
  ·rw [if_pos c4] at H
   have c4b0 := eq_true c4
   have c4b1 : decide (0 ≤ (a1.size : Int)) = true := decide_eq_true c4
   clear c4
   by_cases c5 : (a1.size : Int) ≤ (a0.size : Int)
   ·rw [if_pos c5] at H
    have c5b0 := eq_true c5
    have c5b1 : decide ((a1.size : Int) ≤ (a0.size : Int)) = true := decide_eq_true c5
    clear c5
    obtain rfl := Option.some.inj H
    go_enter Tryd.func105,Tryd.ntmps105
    go_wp2
    go_ret
    exact ⟨by first | rfl | (simp;done) | (simp [*];done),by repeat (first | exact Drawn0.refl _ | apply Drawn0.step)⟩
   ·rw [if_neg c5] at H
    exact absurd H (by simp)
  ·rw [if_neg c4] at H
   exact absurd H (by simp)
 ·rw [if_neg c3] at H
  have c3b0 : decide ((a1.size : Int) ≤ (a0.size : Int)) = false := decide_eq_false c3
  have c3b1 : decide (a1.size ≤ a0.size) = false := decide_eq_false (fun h => c3 (Int.ofNat_le.mpr h))
  clear c3
  obtain rfl := Option.some.inj H
  go_enter Tryd.func105,Tryd.ntmps105
  go_wp2
  go_ret
  exact ⟨by first | rfl | (simp;done) | (simp [*];done),by repeat (first | exact Drawn0.refl _ | apply Drawn0.step)⟩
def strings_HasPrefix.f (a0 : ByteArray) (a1 : ByteArray) : Option (Bool) := (stringslite_HasPrefix.f a0 a1).bind fun t471 => (some t471)
set_option maxHeartbeats 8000000 in
set_option maxRecDepth 100000 in
theorem strings_HasPrefix.calls (a0 : ByteArray) (a1 : ByteArray) (r : Bool) (w : World) (h : strings_HasPrefix.f a0 a1 = some r) :
  Calls Tryd.prog 98 #[.string a0,.string a1] w fun e w' => e = .returned (.bool r) ∧ Drawn0 w w' := by
 have H : ((stringslite_HasPrefix.f a0 a1).bind fun t471 => (some t471)) = some r := h
 clear h
 replace H := Option.bind_eq_some_iff.mp H
 obtain ⟨t471,A30,H⟩ := H
 replace H : (some t471) = some r := H
 have A3 := Aside0.mk A30
 clear A30
 obtain rfl := Option.some.inj H
 go_enter Tryd.func98,Tryd.ntmps98
 go_wp2_with (first | ((with_reducible refine gate_callee (f := 105) rfl ?_);refine goesL_ (some 7) rfl rfl Tryd.func105 (by kernel_rfl) rfl #[.string a0,.string a1] rfl au1 ?_;(with_reducible refine (stringslite_HasPrefix.calls a0 a1 t471 _ A3.out).mono ?_);rintro e w' ⟨rfl,⟨nd,rfl⟩⟩;refine ⟨_,rfl,?_⟩))
 go_ret
 exact ⟨by first | rfl | (simp;done) | (simp [*];done),by repeat (first | exact Drawn0.refl _ | apply Drawn0.step)⟩
end Go.Proofs.YtfhnfhgpaoddbaaDoor.U
end
