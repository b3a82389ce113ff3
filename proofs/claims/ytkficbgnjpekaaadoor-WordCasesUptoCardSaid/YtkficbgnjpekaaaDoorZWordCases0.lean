/- What the law WordCases reaches of this seat's own texts, merged; what nothing uses is left out. -/
import Derived.Test.YtkficbgnjpekaaaDoorProg
import Derived.Below
import Derived.Deep.Draws
import Derived.Deep.AppendLies
import Derived.Maps.AppendAt
import Derived.OwnWalk
import Derived.Laws.BytesArg
import Derived.Laws.MakeOwn
import Derived.Laws.OwnMore
import Derived.Deep.OwnRows
import Derived.Tactics
import Derived.Lib.ConvBytes
import Derived.Laws.Slices
import Derived.WalkKit
import Derived.KernelRfl
import Derived.RowKit3
import Derived.Deep.LoopGhost
import Derived.Deep.QuietTactic
import Derived.BigQuiet
import Derived.WideLaws
import Derived.Deep.DeepCutAuto
import Derived.Deep.CutBlock
import Derived.Deep.RegionHeld3
import Derived.Laws.Rows
import Derived.Lib.AppendStr
import Derived.ArgAppend
import Derived.Laws.IdiomCopy
import Derived.OrdersHeld
import Derived.Laws.BitsLemmas
import Derived.RowKit
import Derived.Shelf.Small.Utf8
import Derived.Shelf.Utf8.AppendRunePlain
import Derived.Shelf.Strings.Prefix
import Derived.Shelf.Unicode.Decode
import Derived.Shelf.Unicode.DecodeSlow
import Derived.Shelf.Unicode.DecodeAny
import Derived.Lib.LaidU8
import Derived.RangeFuncNested
import Derived.RangeFuncBound
import Derived.RangeFuncCalls
import Derived.RangeFuncLeaves
import Derived.Lib.DecodeN
import Derived.Lib.MapLaws
import Derived.Laws.DeepStrings4
import Derived.Shelf.Unicode.DecodeLastEight
import Derived.Shelf.Abstract
import Derived.Shelf.RegionOpen
import Derived.OwnWalkIn
import Derived.TacticsInMore
import Derived.LoopNIn
import Derived.LoopIn
import Derived.Lib.Hide
import Derived.Great.BuildSlice
import Derived.Great.Walk
import Derived.Deep.WholeRow
import Derived.Sort.BigQuietIn
import Derived.Sort.CutIn
import Derived.Lib.Bytes
import Derived.Maps.Own
import Derived.Maps.OwnOps
import Derived.Maps.Views
import Derived.Test.YtkficbgnjpekaaaDoorRows
import Derived.ProofKit
import Derived.Deep.DeepHandedRow
import Derived.LaidMore
import Derived.Lay
import Derived.SliceStrings
import Derived.Test.YtkficbgnjpekaaaDoorWWords
import Derived.Test.YtkficbgnjpekaaaDoorWLast
import Derived.Test.YtkficbgnjpekaaaDoorWTab
import Derived.Test.YtkficbgnjpekaaaDoorWEqStruct
import Derived.Test.YtkficbgnjpekaaaDoorWRepsOne
import Derived.Test.YtkficbgnjpekaaaDoorWGuard
section
namespace Go.Proofs.YtkficbgnjpekaaaDoor
theorem au34 {p : Prop} (h : p := by rw [hw];exact (by (with_reducible repeat (first | refine blk_drewN ?_ _ | refine blk_drew ?_ | refine blk_alloc ?_ _));refine blk_put (cs := #[.int .i64 ((rd_T61 x3_1 (ji17)).f0),.int .i64 ((rd_T61 x3_1 (ji17)).f1),.int .i64 ((rd_T61 x3_1 (ji17)).f2),.int .i64 ((rd_T61 x3_1 (ji17)).f3)]) ?_ 1 _ rfl;(with_reducible repeat (first | refine blk_drewN ?_ _ | refine blk_drew ?_ | refine blk_alloc ?_ _));exact BK277.out)) : p := h
theorem au33 {p : Prop} (h : p := by (with_reducible repeat (first | refine blk_drewN ?_ _ | refine blk_drew ?_ | refine blk_alloc ?_ _));refine blk_put (cs := #[.int .i32 t112,.int .i64 0]) ?_ 1 _ rfl;(with_reducible repeat (first | refine blk_drewN ?_ _ | refine blk_drew ?_ | refine blk_alloc ?_ _));refine blk_put (cs := #[.int .i32 0,.int .i64 0]) ?_ 0 _ rfl;(with_reducible repeat (first | refine blk_drewN ?_ _ | refine blk_drew ?_ | refine blk_alloc ?_ _));exact BK111.out) : p := h
theorem au32 {p : Prop} (h : p := by (with_reducible repeat (first | apply Kd.R_alloc | apply Kd.R_drewN | apply Kd.R_drew));exact HO_5.out) : p := h
theorem au31 {p : Prop} (h : p := by rw [hw];exact (by (with_reducible repeat (first | apply Kd.R_alloc | apply Kd.R_drewN | apply Kd.R_drew));exact Kd.R_mono (Kd.R_far (p := ⟨gb277,3,none⟩) (Kd.R_far (p := ⟨gb277,2,none⟩) (Kd.R_far (p := ⟨gb277,1,none⟩) (Kd.R_far (p := ⟨gb277,0,none⟩) (Kd.R_types HO_4.out BK277.out (by decide)) (fun _ hk => hk.2) (.int .i64 ((rd_T61 x3_1 (ji17)).f0))) (fun _ hk => hk.2) (.int .i64 ((rd_T61 x3_1 (ji17)).f1))) (fun _ hk => hk.2) (.int .i64 ((rd_T61 x3_1 (ji17)).f2))) (fun _ hk => hk.2) (.int .i64 ((rd_T61 x3_1 (ji17)).f3))) (fun _ hk => trivial))) : p := h
theorem au30 {p : Prop} (h : p := by (with_reducible repeat (first | refine blk_drewN ?_ _ | refine blk_drew ?_ | refine blk_alloc ?_ _));exact BK628.out) : p := h
theorem au29 {p : Prop} (h : p := by (with_reducible repeat (first | refine blk_drewN ?_ _ | refine blk_drew ?_ | refine blk_alloc ?_ _));exact BK266.out) : p := h
theorem au28 {p : Prop} (h : p := by rw [hw];exact (by (with_reducible repeat (first | apply Kd.R_alloc | apply Kd.R_drewN | apply Kd.R_drew));exact Kd.R_mono (Kd.R_far (p := ⟨gb277,3,none⟩) (Kd.R_far (p := ⟨gb277,2,none⟩) (Kd.R_far (p := ⟨gb277,1,none⟩) (Kd.R_far (p := ⟨gb277,0,none⟩) (Kd.R_mono HO_3.out (fun k_ hk => (⟨hk,hk.2⟩ : _ ∧ k_ ≠ gb277))) (fun _ hk => hk.2) (.int .i64 ((rd_T61 x3_1 (ji17)).f0))) (fun _ hk => hk.2) (.int .i64 ((rd_T61 x3_1 (ji17)).f1))) (fun _ hk => hk.2) (.int .i64 ((rd_T61 x3_1 (ji17)).f2))) (fun _ hk => hk.2) (.int .i64 ((rd_T61 x3_1 (ji17)).f3))) (fun _ hk => hk.1.2))) : p := h
theorem au27 {p : Prop} (h : p := by repeat (first | (with_reducible first | exact HB.out | apply below_alloc | apply pw_below_drewN | apply below_drew1 | refine below_set ?_ GE621.out) | exact HB.out)) : p := h
theorem au26 {p : Prop} (h : p := by repeat (first | (with_reducible first | exact HB.out | apply below_alloc | apply pw_below_drewN | apply below_drew1 | refine below_set ?_ GE149.out) | exact HB.out)) : p := h
theorem au25 {p : Prop} (h : p := by repeat (first | (with_reducible first | exact HB.out | apply below_alloc | apply pw_below_drewN | apply below_drew1 | refine below_set ?_ GE257.out) | exact HB.out)) : p := h
theorem au24 {p : Prop} (h : p := by (with_reducible repeat (first | refine blk_drewN ?_ _ | refine blk_drew ?_ | refine blk_alloc ?_ _));exact BK298.out) : p := h
theorem au23 {p : Prop} (h : p := by repeat (first | (with_reducible first | exact HB.out | apply below_alloc | apply pw_below_drewN | apply below_drew1 | refine below_set ?_ GE121.out) | exact HB.out)) : p := h
theorem au22 {p : Prop} (h : p := by repeat (first | (with_reducible first | exact HB.out | apply below_alloc | apply pw_below_drewN | apply below_drew1 | refine below_set ?_ GE111.out) | exact HB.out)) : p := h
theorem au21 {p : Prop} (h : p := by (with_reducible repeat (first | apply Kd.R_alloc | apply Kd.R_drewN | apply Kd.R_drew));exact HO136.out) : p := h
theorem au20 {p : Prop} (h : p := by (with_reducible repeat (first | refine blk_drewN ?_ _ | refine blk_drew ?_ | refine blk_alloc ?_ _));refine blk_put (cs := #[.int .i32 0,.int .i64 0]) ?_ 1 _ rfl;(with_reducible repeat (first | refine blk_drewN ?_ _ | refine blk_drew ?_ | refine blk_alloc ?_ _));refine blk_put (cs := #[.int .i32 0,.int .i64 0]) ?_ 0 _ rfl;(with_reducible repeat (first | refine blk_drewN ?_ _ | refine blk_drew ?_ | refine blk_alloc ?_ _));exact BK121.out) : p := h
theorem au19 {p : Prop} (h : p := by (with_reducible repeat (first | refine blk_drewN ?_ _ | refine blk_drew ?_ | refine blk_alloc ?_ _));refine blk_put (cs := #[.int .i32 t256,.int .i64 0]) ?_ 1 _ rfl;(with_reducible repeat (first | refine blk_drewN ?_ _ | refine blk_drew ?_ | refine blk_alloc ?_ _));refine blk_put (cs := #[.int .i32 0,.int .i64 0]) ?_ 0 _ rfl;(with_reducible repeat (first | refine blk_drewN ?_ _ | refine blk_drew ?_ | refine blk_alloc ?_ _));exact BK257.out) : p := h
theorem au18 {p : Prop} (h : p := by rw [hw];exact (by repeat (first | (with_reducible first | exact HB.out | apply below_alloc | apply pw_below_drewN | apply below_drew1 | refine below_set ?_ GE277.out) | exact HB.out))) : p := h
theorem au17 {p : Prop} (h : p := by (with_reducible repeat (first | refine blk_drewN ?_ _ | refine blk_drew ?_ | refine blk_alloc ?_ _));exact BK265.out) : p := h
theorem au16 {p : Prop} (h : p := by repeat (first | (with_reducible first | exact HB.out | apply below_alloc | apply pw_below_drewN | apply below_drew1 | refine below_set ?_ GE265.out | refine below_set ?_ GE266.out) | exact HB.out)) : p := h
theorem au15 {p : Prop} (h : p := by rw [hw];exact (by (with_reducible repeat (first | refine blk_drewN ?_ _ | refine blk_drew ?_ | refine blk_alloc ?_ _));refine blk_put (cs := #[.int .i64 ((rd_T61 x3_1 (ji17)).f0),.int .i64 ((rd_T61 x3_1 (ji17)).f1),.int .i64 ((rd_T61 x3_1 (ji17)).f2),.int .i64 0]) ?_ 3 _ rfl;(with_reducible repeat (first | refine blk_drewN ?_ _ | refine blk_drew ?_ | refine blk_alloc ?_ _));refine blk_put (cs := #[.int .i64 ((rd_T61 x3_1 (ji17)).f0),.int .i64 ((rd_T61 x3_1 (ji17)).f1),.int .i64 0,.int .i64 0]) ?_ 2 _ rfl;(with_reducible repeat (first | refine blk_drewN ?_ _ | refine blk_drew ?_ | refine blk_alloc ?_ _));refine blk_put (cs := #[.int .i64 ((rd_T61 x3_1 (ji17)).f0),.int .i64 0,.int .i64 0,.int .i64 0]) ?_ 1 _ rfl;(with_reducible repeat (first | refine blk_drewN ?_ _ | refine blk_drew ?_ | refine blk_alloc ?_ _));refine blk_put (cs := #[.int .i64 0,.int .i64 0,.int .i64 0,.int .i64 0]) ?_ 0 _ rfl;(with_reducible repeat (first | refine blk_drewN ?_ _ | refine blk_drew ?_ | refine blk_alloc ?_ _));exact BK277.out)) : p := h
theorem au14 {p : Prop} (h : p := by repeat (first | (with_reducible first | exact HB.out | apply below_alloc | apply pw_below_drewN | apply below_drew1 | refine below_set ?_ GE621.out | refine below_set ?_ GE625.out | refine below_set ?_ GE628.out) | exact HB.out)) : p := h
theorem au13 {p : Prop} (h : p := by repeat (first | (with_reducible first | exact HB.out | apply below_alloc | apply pw_below_drewN | apply below_drew1 | refine below_set ?_ GE298.out) | exact HB.out)) : p := h
theorem au12 {p : Prop} (h : p := by (with_reducible repeat (first | apply Kd.R_alloc | apply Kd.R_drewN | apply Kd.R_drew));exact HO_0.out) : p := h
theorem au11 {p : Prop} (h : p := by repeat (first | (with_reducible first | exact HK.out | apply Kept.alloc | apply Kept.drewN | apply Kept.drew) | exact HK.out)) : p := h
theorem au10 {p : Prop} (h : p := by (with_reducible repeat (first | refine blk_drewN ?_ _ | refine blk_drew ?_ | refine blk_alloc ?_ _));exact BK625.out) : p := h
theorem au9 {p : Prop} (h : p := by repeat (first | (with_reducible first | exact HB.out | apply below_alloc | apply pw_below_drewN | apply below_drew1 | refine below_set ?_ GE621.out | refine below_set ?_ GE625.out) | exact HB.out)) : p := h
theorem au8 {p : Prop} (h : p := by (with_reducible repeat (first | apply Kd.R_alloc | apply Kd.R_drewN | apply Kd.R_drew));exact HO_4.out) : p := h
theorem au7 {p : Prop} (h : p := by (with_reducible repeat (first | refine blk_drewN ?_ _ | refine blk_drew ?_ | refine blk_alloc ?_ _));exact BK621.out) : p := h
theorem au6 {p : Prop} (h : p := by first | exact HK.out.1 | exact (show Kept w _ (fun k_ => P0_ k_) from by repeat (first | (with_reducible first | exact HK.out | apply Kept.alloc | apply Kept.drewN | apply Kept.drew) | exact HK.out)).1) : p := h
theorem au5 {p : Prop} (h : p := by (with_reducible repeat (first | apply Kd.R_alloc | apply Kd.R_drewN | apply Kd.R_drew));exact HO_3.out) : p := h
theorem au4 {p : Prop} (h : p := by first | (with_reducible assumption) | assumption) : p := h
theorem au3 {p : Prop} (h : p := by first | rfl | (simp;done) | (simp [*];done)) : p := h
theorem au2 {p : Prop} (h : p := by first | rfl | (simp [errW_none,errW_some] <;> rfl) | (simp [*,errW_none,errW_some] <;> rfl)) : p := h
theorem au1 {p : Prop} (h : p := by (try simp only [List.map_toArray,List.map_cons,List.map_nil]);first | done | rfl | (simp only [List.length_drop,List.length_take];rfl)) : p := h
theorem au0 {p : Prop} (h : p := by repeat (first | (with_reducible first | exact HB.out | apply below_alloc | apply pw_below_drewN | apply below_drew1) | exact HB.out)) : p := h
end Go.Proofs.YtkficbgnjpekaaaDoor
end
section
namespace Go.Proofs.YtkficbgnjpekaaaDoorW.PrintWords
open Go.RowKit
namespace Kd
/-- An element with its index: its blocks are those that f gives to it. -/
def tag {α : Type} (f : Nat → Nat) (d : Kd α) : Kd (α × Nat) where
 sz := d.sz
 E := d.E
 K := fun w x cs => d.K w x.1 cs
 M := fun w base ok x cs => d.M w base (fun k => ok k ∧ f k = x.2) x.1 cs
 K_len := fun h => d.K_len h
 K_one := fun h => d.K_one h
 K_below := fun hb h => d.K_below hb h
 K_of_M := fun h => d.K_of_M h
 M_mono := fun hok h => d.M_mono (fun k hk => ⟨hok k hk.1,hk.2⟩) h
 M_bound := fun h => d.M_mono (fun _ hk => ⟨⟨hk.1.1,hk.2⟩,hk.1.2⟩) (d.M_bound h)
 M_move := fun hm h => d.M_move (fun k hk => hm k hk.1) h
 M_lower := fun hb h => d.M_lower hb h
/-- Nothing but its cells: no block is said of it. -/
def bare {α : Type} (d : Kd α) : Kd α where
 sz := d.sz
 E := d.E
 K := d.K
 M := fun w base _ x cs => d.M w base (fun _ => False) x cs
 K_len := fun h => d.K_len h
 K_one := fun h => d.K_one h
 K_below := fun hb h => d.K_below hb h
 K_of_M := fun h => d.K_of_M h
 M_mono := fun _ h => h
 M_bound := fun h => h
 M_move := fun _ h => d.M_move (fun _ hk => hk.elim) h
 M_lower := fun hb h => d.M_lower hb h
/-- The cells themselves. -/
def raw (sz : Nat) : Kd (List Value) where
 sz := sz
 E := []
 K := fun _ x cs => cs = x ∧ cs.length = sz ∧ ∀ u ∈ cs,u.oneCell' = true
 M := fun _ _ _ x cs => cs = x ∧ cs.length = sz ∧ ∀ u ∈ cs,u.oneCell' = true
 K_len := fun h => h.2.1
 K_one := fun h => h.2.2
 K_below := fun _ h => h
 K_of_M := fun h => h
 M_mono := fun _ h => h
 M_bound := fun h => h
 M_move := fun _ h => h
 M_lower := fun _ h => h
/-- A row of elements (type e) of the call's own,no two of which lead to one block. -/
def S {α : Type} (d : Kd α) (e : Nat) (w : World) (base : Nat) (ok : Nat → Prop) (v : Value) (xs : List α) : Prop := ∃ f,(tag f d).R e w base ok v xs.zipIdx
section
variable {α β : Type} {d : Kd α} {d' : Kd β} {e e' : Nat} {w w1 W : World} {base b : Nat} {ok ok' okv oku : Nat → Prop} {u v : Value} {xs : List α} {ys : List β}
/-- A row whose elements lead to nothing: its blocks are its own one. -/
theorem R_tight (hE : d.E = []) (h : d.R e w base ok v xs) : d.R e w base (fun k => some k = v.ownBlock) v xs := by
 obtain ⟨h0,inner,ho,hr⟩ := h
 refine ⟨fun k hk => hk.symm,inner,ho,hr.imp_ (fun p c hp => d.M_mono (fun k hk => ?_) (d.M_bound hp))⟩
 obtain ⟨_,_,_,q,hq,_⟩ := hk
 rw [hE] at hq
 cases hq
theorem S_nil (d : Kd α) (e : Nat) (w : World) (base : Nat) (ok : Nat → Prop) : S d e w base ok (.slice none 0 0) [] := ⟨fun _ => 0,R_nil _ _ _ _ _⟩
end
section
variable {α β : Type} {d : Kd α} {d' : Kd β} {e e' g : Nat} {w w1 W : World} {base b : Nat} {ok ok' okv oku : Nat → Prop} {u v : Value} {xs : List α} {ys : List β}
end
section
variable {P : Program} {ops : Array Oper} {rest : List Oper} {o : Oper} {a : Act} {Q : Exit → Act → World → Prop} {Kc : Act → World → Prop} {α : Type}
end
/-- Element i is these cells;the others are d's. -/
def gap {α : Type} (f : Nat → Nat) (d : Kd α) (i : Nat) (c : List Value) : Kd (α × Nat) where
 sz := d.sz
 E := d.E
 K := fun w x cs => (x.2 = i → cs = c ∧ cs.length = d.sz ∧ ∀ u ∈ cs,u.oneCell' = true) ∧ (x.2 ≠ i → d.K w x.1 cs)
 M := fun w base ok x cs => (x.2 = i → cs = c ∧ cs.length = d.sz ∧ ∀ u ∈ cs,u.oneCell' = true) ∧ (x.2 ≠ i → d.M w base (fun k => ok k ∧ f k = x.2) x.1 cs)
 K_len := fun {w x cs} h => by
  by_cases hx : x.2 = i
  ·exact (h.1 hx).2.1
  ·exact d.K_len (h.2 hx)
 K_one := fun {w x cs} h => by
  by_cases hx : x.2 = i
  ·exact (h.1 hx).2.2
  ·exact d.K_one (h.2 hx)
 K_below := fun hb h => ⟨h.1,fun hx => d.K_below hb (h.2 hx)⟩
 K_of_M := fun h => ⟨h.1,fun hx => d.K_of_M (h.2 hx)⟩
 M_mono := fun hok h => ⟨h.1,fun hx => d.M_mono (fun k hk => ⟨hok k hk.1,hk.2⟩) (h.2 hx)⟩
 M_bound := fun h => ⟨h.1,fun hx => d.M_mono (fun _ hk => ⟨⟨hk.1.1,hk.2⟩,hk.1.2⟩) (d.M_bound (h.2 hx))⟩
 M_move := fun hm h => ⟨h.1,fun hx => d.M_move (fun k hk => hm k hk.1) (h.2 hx)⟩
 M_lower := fun hb h => ⟨h.1,fun hx => d.M_lower hb (h.2 hx)⟩
def H {α : Type} (d : Kd α) (e : Nat) (w : World) (base : Nat) (ok : Nat → Prop) (v : Value) (xs : List α) (i : Int) (oki : Nat → Prop) (c : List Value) : Prop :=
 (∀ k,oki k → ok k) ∧ ∃ f,(gap f d i.toNat c).R e w base (fun k => ok k ∧ ¬ oki k) v xs.zipIdx
section
variable {α β : Type} {d : Kd α} {e e' g n cap : Nat} {w w1 W : World} {base : Nat} {ok ok' oki okp : Nat → Prop} {u v : Value} {xs : List α} {i : Int} {c : List Value}
end
section
variable {P : Program} {ops : Array Oper} {rest : List Oper} {o : Oper} {a : Act} {Q : Exit → Act → World → Prop} {α : Type}
end
end Kd
end Go.Proofs.YtkficbgnjpekaaaDoorW.PrintWords
end
section
namespace Go.Proofs.YtkficbgnjpekaaaDoorW.PrintWords
open Go.RowKit
namespace Kd
/-- What a kind reads lies in the blocks: nothing else of the world is looked at. -/
structure Heap {α : Type} (d : Kd α) : Prop where
 K : ∀ {w w1 : World} {x : α} {cs : List Value},(∀ k,k < w.heap.size → w1.heap[k]? = w.heap[k]?) → d.K w x cs → d.K w1 x cs
theorem cell_heap {w w1 : World} (hb : ∀ k,k < w.heap.size → w1.heap[k]? = w.heap[k]?) {a : Addr} {v : Value} (h : w.cell? a = some v) : w1.cell? a = some v := by
 have := hb a.block (World.block_lt_of_cell? w a h)
 simpa [World.cell?,this] using h
theorem Heap.C {α : Type} {d : Kd α} (hd : Heap d) {w w1 : World} {A : Option Addr} {n : Nat} {xs : List α} (hb : ∀ k,k < w.heap.size → w1.heap[k]? = w.heap[k]?) (h : d.C w A n xs) : d.C w1 A n xs :=
 ⟨h.1,h.2.1,fun hn => by
  obtain ⟨ad,e,hc⟩ := h.2.2 hn
  refine ⟨ad,e,fun j p hj => ?_⟩
  obtain ⟨c,hs,hr,hcell⟩ := hc j p hj
  exact ⟨c,hs,hd.K hb hr,fun i u hu => cell_heap hb (hcell i u hu)⟩⟩
section
variable {α : Type} {d : Kd α} {e base g n c : Nat} {ok : Nat → Prop} {w w0 W : World} {A : Option Addr} {xs : List α}
end
end Kd
end Go.Proofs.YtkficbgnjpekaaaDoorW.PrintWords
end
section
namespace Go.Proofs.YtkficbgnjpekaaaDoorW.PrintWords
open Go.RowKit
def Kept (w W : World) (S : Nat → Prop) : Prop := w.heap.size ≤ W.heap.size ∧ ∀ i,i < w.heap.size → ¬ S i → W.heap[i]? = w.heap[i]?
section
variable {w W W2 : World} {S S2 S' : Nat → Prop}
theorem Kept.refl (w : World) (S : Nat → Prop) : Kept w w S := ⟨Nat.le_refl _,fun _ _ _ => rfl⟩
theorem Kept.of_below (h : Below w.heap.size w W) (S : Nat → Prop) : Kept w W S := ⟨h.size,fun i hi _ => h.block i hi⟩
theorem Kept.mono (h : Kept w W S) (hs : ∀ k,S k → S' k) : Kept w W S' := ⟨h.1,fun i hi hn => h.2 i hi (fun hk => hn (hs i hk))⟩
theorem Kept.then_ (h : Kept w W S) (k : Kept W W2 S2) (hs : ∀ k,S2 k → S k ∨ w.heap.size ≤ k) : Kept w W2 S :=
 ⟨Nat.le_trans h.1 k.1,fun i hi hn => (k.2 i (Nat.lt_of_lt_of_le hi h.1) (fun h2 => (hs i h2).elim hn (fun h3 => by omega))).trans (h.2 i hi hn)⟩
theorem Kept.of_grown {row : Option Nat} (hg : W.grownBy W2 row) (h : Kept w W S) (hr : ∀ k,row = some k → S k ∨ w.heap.size ≤ k) : Kept w W2 S :=
 h.then_ (S2 := fun k => row = some k) ⟨hg.size,fun i hi hn => hg.block i hi (fun he => hn he.symm)⟩ hr
theorem Kept.below (h : Kept w W S) (hb : Below W.heap.size W W2) : Kept w W2 S := h.then_ (Kept.of_below hb (fun _ => False)) (fun _ hk => hk.elim)
theorem Kept.alloc (h : Kept w W S) (o : Obj) : Kept w (W.alloc o) S := h.below (below_alloc (Below.refl _ _) o)
theorem Kept.drew (h : Kept w W S) : Kept w W.drew S := h
theorem Kept.drewN (h : Kept w W S) (m : Nat) : Kept w (W.drewN m) S := h
theorem Kept.setCell (h : Kept w W S) {p : Addr} (hp : S p.block ∨ w.heap.size ≤ p.block) (u : Value) : Kept w (W.setCell p u) S :=
 h.then_ (S2 := fun k => k = p.block) ⟨by simp [World.setCell],fun i _ hn => Below.heap_setCell W p u i hn⟩ (fun k hk => by rw [hk];exact hp)
/-- Beside a state: what was written is new since. -/
theorem Kept.keep {g : Nat} (h : KeepBut w W g none) (k : Kept W W2 S2) (hs : ∀ k,S2 k → w.heap.size ≤ k) : KeepBut w W2 g none :=
 ⟨Nat.le_trans h.1 k.1,fun i hi hg hr => (k.2 i (Nat.lt_of_lt_of_le hi h.1) (fun h2 => by have := hs i h2;omega)).trans (h.2 i hi hg hr)⟩
end
namespace Kd
section
variable {α : Type} {d : Kd α} {e base n c : Nat} {ok oki S S2 : Nat → Prop} {w w0 W W1 W2 : World} {v : Value} {A : Option Addr} {xs : List α} {i : Int} {cs : List Value}
end
end Kd
end Go.Proofs.YtkficbgnjpekaaaDoorW.PrintWords
end
section
namespace Go.Proofs.YtkficbgnjpekaaaDoorW.PrintWords
open Go.RowKit
/-- P holds in W and in every world that has W's blocks of ok. -/
def Foot (P : World → Prop) (W : World) (ok : Nat → Prop) : Prop := ∀ W' : World,(∀ k,ok k → k < W.heap.size → W'.heap[k]? = W.heap[k]?) → P W'
theorem heap_lt {W W1 : World} {k : Nat} (h : W1.heap[k]? = W.heap[k]?) (hlt : k < W.heap.size) : k < W1.heap.size := by
 rw [Array.getElem?_eq_getElem hlt] at h
 exact (Array.getElem?_eq_some_iff.1 h).1
namespace Foot
variable {P Q : World → Prop} {W W1 : World} {ok ok' : Nat → Prop}
theorem now (h : Foot P W ok) : P W := h W (fun _ _ _ => rfl)
theorem mono (h : Foot P W ok) (hok : ∀ k,ok k → ok' k) : Foot P W ok' := fun W' hW => h W' (fun k hk hlt => hW k (hok k hk) hlt)
theorem bound (h : Foot P W ok) : Foot P W (fun k => ok k ∧ k < W.heap.size) := fun W' hW => h W' (fun k hk hlt => hW k ⟨hk,hlt⟩ hlt)
theorem step (h : Foot P W ok) (hm : ∀ k,ok k → k < W.heap.size → W1.heap[k]? = W.heap[k]?) : Foot P W1 ok := fun W' hW => h W' (fun k hk hlt => (hW k hk (heap_lt (hm k hk hlt) hlt)).trans (hm k hk hlt))
theorem imp (h : Foot P W ok) (hi : ∀ W',P W' → Q W') : Foot Q W ok := fun W' hW => hi W' (h W' hW)
/-- Moved,and still elder than what is new since W. -/
theorem old (h : Foot P W ok) (hb : Below W.heap.size W W1) : Foot P W1 (fun k => ok k ∧ k < W.heap.size) := (h.bound).step (fun k _ hlt => hb.block k hlt)
end Foot
namespace Kd
/-- A row that is only read: what it leads to lies in ok. -/
def F {α : Type} (d : Kd α) (W : World) (ok : Nat → Prop) (A : Option Addr) (n : Nat) (xs : List α) : Prop := Foot (fun W => d.C W A n xs) W ok
/-- An element's cells: what they lead to lies in ok. -/
def FK {α : Type} (d : Kd α) (W : World) (ok : Nat → Prop) (x : α) (c : List Value) : Prop := Foot (fun W => d.K W x c) W ok
section
variable {α β : Type} {d : Kd α} {e base n n' cc g N : Nat} {ok ok' okp S : Nat → Prop} {w w0 w1 W W1 : World} {A A' : Option Addr} {u v v1 : Value} {xs : List α} {xs' : List β} {d' : Kd β} {x : α} {c : List Value}
theorem F_nil (d : Kd α) (W : World) (ok : Nat → Prop) : F d W ok none ([] : List α).length [] := fun W' _ => C_nil d W'
theorem FK_of_M (h : d.M W base ok x c) : FK d W ok x c := fun _ hW => d.K_of_M (M_step h hW)
end
end Kd
end Go.Proofs.YtkficbgnjpekaaaDoorW.PrintWords
end
section
namespace Go.Proofs.YtkficbgnjpekaaaDoorW.PrintWords
open Go.RowKit
namespace Kd
/-- The cells one behind the other,element by element. -/
def chunks (sz : Nat) (n : Nat) (inner : List Value) : List (List Value) := (List.range n).map fun j => (inner.drop (j * sz)).take sz
theorem chunks_length (sz n : Nat) (inner : List Value) : (chunks sz n inner).length = n := by simp [chunks]
theorem chunks_at {sz n : Nat} {inner : List Value} {j : Nat} (hj : j < n) : (chunks sz n inner)[j]? = some ((inner.drop (j * sz)).take sz) := by simp [chunks,hj]
theorem chunks_get {sz n : Nat} {inner : List Value} {j : Nat} {c : List Value} (h : (chunks sz n inner)[j]? = some c) : c = (inner.drop (j * sz)).take sz := by
 have hj : j < n := by have := (List.getElem?_eq_some_iff.1 h).1;rwa [chunks_length] at this
 rw [chunks_at hj] at h
 injection h with h
 exact h.symm
theorem reps_raw {α : Type} {Rr : α → List Value → Prop} {sz : Nat} {xs : List α} {inner : List Value} (h : Reps Rr sz xs inner) (hR : ∀ x c,Rr x c → c.length = sz ∧ ∀ u ∈ c,u.oneCell' = true) : Reps (fun x cs => cs = x ∧ cs.length = sz ∧ ∀ u ∈ cs,u.oneCell' = true) sz (chunks sz xs.length inner) inner := by
 refine ⟨by rw [chunks_length];exact h.1,fun j p hj => ?_⟩
 have hjl : j < xs.length := by have := (List.getElem?_eq_some_iff.1 hj).1;rwa [chunks_length] at this
 have hp := chunks_get hj
 exact ⟨hp.symm,hR _ _ (h.2 j _ (List.getElem?_eq_getElem hjl))⟩
section
variable {α : Type} {d : Kd α} {e base n cc g : Nat} {ok ok' okp S : Nat → Prop} {w w1 W W1 : World} {A : Option Addr} {u v v1 : Value} {xs : List α} {x : α} {c : List Value}
/-- A row of elements (type e) of the call's own;what the elements lead to is only read,and is not this row. -/
def N {α : Type} (d : Kd α) (e : Nat) (w : World) (base : Nat) (ok : Nat → Prop) (v : Value) (xs : List α) : Prop :=
 (∀ k,v.ownBlock = some k → ok k) ∧ ∃ rows : List (List Value),rows.length = xs.length ∧ (raw d.sz).R e w base (fun k => some k = v.ownBlock) v rows ∧ ∀ (j : Nat) (x : α) (c : List Value),xs[j]? = some x → rows[j]? = some c → FK d w (fun k => ok k ∧ some k ≠ v.ownBlock) x c
theorem R_N (h : d.R e w base ok v xs) : N d e w base ok v xs := by
 obtain ⟨h0,inner,ho,hr⟩ := h
 refine ⟨h0,chunks d.sz xs.length inner,chunks_length _ _ _,⟨fun k hk => hk.symm,inner,by rw [chunks_length];exact ho,reps_raw hr (fun x c hp => ⟨d.K_len (d.K_of_M hp),d.K_one (d.K_of_M hp)⟩)⟩,fun j x c hx hc => ?_⟩
 rw [chunks_get hc]
 exact FK_of_M (hr.2 j x hx)
theorem N_nil (d : Kd α) (e : Nat) (w : World) (base : Nat) (ok : Nat → Prop) : N d e w base ok (.slice none 0 0) [] := R_N (R_nil _ _ _ _ _)
end
end Kd
end Go.Proofs.YtkficbgnjpekaaaDoorW.PrintWords
end
section
namespace Go.Proofs.YtkficbgnjpekaaaDoorW.PrintLast
/-- Number i is listed too. -/
def up (b : Nat → Bool) (i : Nat) : Nat → Bool := fun j => if j = i then true else b j
section
variable {P : Program} {ops : Array Oper} {Q : Exit → Act → World → Prop} {md : Region.Mode} {T : Bool × List (List Nat × List Nat)} {B : List Nat} {O : List Nat} {b : Nat → Bool} {i j n : Nat}
end
end Go.Proofs.YtkficbgnjpekaaaDoorW.PrintLast
end
section
namespace Go.Proofs.YtkficbgnjpekaaaDoorW.PrintMore
open Go.RowKit Go.Proofs.YtkficbgnjpekaaaDoorW.PrintWords
namespace Kd
end Kd
namespace Kd
section
variable {α : Type} {d : Kd α} {e base g N : Nat} {ok : Nat → Prop} {W w1 : World} {u v : Value} {xs : List α}
end
end Kd
/-- 'max' and 'min' of two whole numbers. -/
theorem max2_int (k k' : IntKind) (x y : Int) : Builtin.max2 (.int k x) (.int k' y) = pure (.int k (if x < y then y else x)) := by simp only [Builtin.max2,gt_iff_lt]
theorem min2_int (k k' : IntKind) (x y : Int) : Builtin.min2 (.int k x) (.int k' y) = pure (.int k (if y < x then y else x)) := by simp only [Builtin.min2]
theorem max_two (ats : Array TypeId) (ty : TypeId) (a b : Value) : Builtin.max_ ats ty #[a,b] = (Builtin.max2 a b >>= fun s => pure s) := by simp only [Builtin.max_,List.foldlM_cons,List.foldlM_nil]
theorem min_two (ats : Array TypeId) (ty : TypeId) (a b : Value) : Builtin.min_ ats ty #[a,b] = (Builtin.min2 a b >>= fun s => pure s) := by simp only [Builtin.min_,List.foldlM_cons,List.foldlM_nil]
theorem max_three (ats : Array TypeId) (ty : TypeId) (a b c : Value) : Builtin.max_ ats ty #[a,b,c] = (Builtin.max2 a b >>= fun s => Builtin.max2 s c >>= fun s => pure s) := by simp only [Builtin.max_,List.foldlM_cons,List.foldlM_nil]
theorem min_three (ats : Array TypeId) (ty : TypeId) (a b c : Value) : Builtin.min_ ats ty #[a,b,c] = (Builtin.min2 a b >>= fun s => Builtin.min2 s c >>= fun s => pure s) := by simp only [Builtin.min_,List.foldlM_cons,List.foldlM_nil]
theorem max_four (ats : Array TypeId) (ty : TypeId) (a b c d : Value) : Builtin.max_ ats ty #[a,b,c,d] = (Builtin.max2 a b >>= fun s => Builtin.max2 s c >>= fun s => Builtin.max2 s d >>= fun s => pure s) := by simp only [Builtin.max_,List.foldlM_cons,List.foldlM_nil]
theorem min_four (ats : Array TypeId) (ty : TypeId) (a b c d : Value) : Builtin.min_ ats ty #[a,b,c,d] = (Builtin.min2 a b >>= fun s => Builtin.min2 s c >>= fun s => Builtin.min2 s d >>= fun s => pure s) := by simp only [Builtin.min_,List.foldlM_cons,List.foldlM_nil]
end Go.Proofs.YtkficbgnjpekaaaDoorW.PrintMore
namespace Go.Proofs.YtkficbgnjpekaaaDoorW.PrintWords
open Go.RowKit
section
variable {P : Program} {ops : Array Oper} {rest : List Oper} {o : Oper} {a : Act} {Q : Exit → Act → World → Prop} {W : World}
/-- The operation is a call of this function (a cheap look ahead of a dear step). -/
theorem gate_callee {f : FuncId} {as_ : Array Operand} {ts : Array TypeId} (_ho : o.op = .call { callee := .value (.func f),args := as_,argTypes := ts }) (h : wpList P ops Q (o :: rest) a W) : wpList P ops Q (o :: rest) a W := h
/-- The operation is a builtin over these places. -/
theorem gate_builtin {b : Builtin} {xs : Array Operand} {ts : Array TypeId} (_ho : o.op = .call { callee := .builtin b,args := xs,argTypes := ts }) (h : wpList P ops Q (o :: rest) a W) : wpList P ops Q (o :: rest) a W := h
end
/-- The greater of two whole numbers,as_ Go's max tells it. -/
def mx (a b : Int) : Int := if a < b then b else a
/-- The smaller of two whole numbers,as_ Go's min tells it. -/
def mn (a b : Int) : Int := if b < a then b else a
namespace Kd
section
variable {α : Type} {d : Kd α} {e base : Nat} {ok : Nat → Prop} {W w1 : World} {v : Value} {xs : List α}
/-- The same,where the row that was written may be none. -/
theorem R_grown2 (h : d.R e W base ok v xs) (hE : d.E = []) {row : Option Nat} (hg : W.grownBy w1 row) (hne : ∀ k,row = some k → some k ≠ v.ownBlock) : d.R e w1 base ok v xs :=
 R_mono (R_grown (R_tight hE h) hg (fun k hk e_ => hne k e_.symm hk)) (fun k hk => h.1 k hk.symm)
end
section
variable {α : Type} {d : Kd α} {e base g n cap : Nat} {ok oki okp : Nat → Prop} {W : World} {xs : List α} {i : Int} {c : List Value}
end
section
variable {α : Type} {d : Kd α} {e base b b' g N : Nat} {ok ok1 : Nat → Prop} {W W2 w1 : World} {u v : Value} {xs ys : List α} {S : Nat → Prop}
end
end Kd
end Go.Proofs.YtkficbgnjpekaaaDoorW.PrintWords
namespace Go.Proofs.YtkficbgnjpekaaaDoorW.PrintWords
open Go.RowKit
namespace Kd
/-- A row that is only read,told by its value: its form,its length,what it leads to (in ok). e and base say nothing;they make it as_ the others are. -/
def V {α : Type} (d : Kd α) (_e : Nat) (W : World) (_base : Nat) (ok : Nat → Prop) (v : Value) (xs : List α) : Prop := ∃ A c,v = .slice A xs.length c ∧ xs.length ≤ c ∧ F d W ok A xs.length xs
section
variable {α β : Type} {d : Kd α} {e base base' n m c g N' lo hi : Nat} {ok ok' S : Nat → Prop} {w W w1 : World} {A : Option Addr} {ad : Addr} {u v v1 : Value} {xs : List α}
theorem V_nil (d : Kd α) (e : Nat) (W : World) (base : Nat) (ok : Nat → Prop) : V d e W base ok (.slice none 0 0) [] := ⟨none,0,rfl,Nat.le_refl _,F_nil d W ok⟩
theorem R_newM {M : Nat → Prop} (h : d.R e w1 W.heap.size ok v xs) (hle : w.heap.size ≤ W.heap.size) (hM : ∀ k,w.heap.size ≤ k → M k) : d.R e w1 W.heap.size (fun k => M k ∧ ok k) v xs := R_mono (R_bound h) (fun k hk => ⟨hM k (Nat.le_trans hle hk.2.1),hk.1⟩)
end
end Kd
end Go.Proofs.YtkficbgnjpekaaaDoorW.PrintWords
end
section
namespace Go.Proofs.YtkficbgnjpekaaaDoor.U
open Go.RowKit Go.Proofs.YtkficbgnjpekaaaDoorW.PrintWords Go.Proofs.YtkficbgnjpekaaaDoorW.PrintLast Go.Proofs.YtkficbgnjpekaaaDoorW.PrintMore
attribute [local go_sem] max2_int min2_int max_two min_two max_three min_three max_four min_four   -- for this text's walks alone
set_option linter.unusedVariables false
set_option linter.unusedSimpArgs false
def errW : Option Int → Value
 | none => .nilIface
 | some c => .iface 0 (.int .i64 c)
theorem errW_none : errW none = .nilIface := rfl
theorem errW_some (c : Int) : errW (some c) = .iface 0 (.int .i64 c) := rfl
theorem info5 : (Tryd.prog.info? 5).map (fun i => (i.zero,i.size,i.bytes)) = some (some (.int .u8 0),1,1) := by kernel_rfl
theorem info21 : (Tryd.prog.info? 21).map (fun i => (i.zero,i.size,i.bytes)) = some (some (.int .i32 0),1,4) := by kernel_rfl
theorem info32 : (Tryd.prog.info? 32).map (fun i => (i.zero,i.size,i.bytes)) = some (some (.agg #[(.int .i64 0),(.int .i64 0)]),2,16) := by kernel_rfl
theorem info42 : (Tryd.prog.info? 42).map (fun i => (i.zero,i.size,i.bytes)) = some (some (.agg #[(.int .i32 0),(.int .i64 0)]),2,16) := by kernel_rfl
theorem info55 : (Tryd.prog.info? 55).map (fun i => (i.zero,i.size,i.bytes)) = some (some (.agg #[(.int .i32 0),(.int .i32 0)]),2,8) := by kernel_rfl
theorem info61 : (Tryd.prog.info? 61).map (fun i => (i.zero,i.size,i.bytes)) = some (some (.agg #[(.int .i64 0),(.int .i64 0),(.int .i64 0),(.int .i64 0)]),4,32) := by kernel_rfl
theorem info77 : (Tryd.prog.info? 77).map (fun i => (i.zero,i.size,i.bytes)) = some (some (.agg #[(.int .i32 0),(.int .i32 0)]),2,8) := by kernel_rfl
structure S32 where
 f0 : Int
 f1 : Int
def z32 : S32 := ⟨(0 : Int),(0 : Int)⟩
def k32 : Kd S32 := Kd.iso (Kd.pair (Kd.int .i64) (Kd.int .i64)) (fun x : S32 => (x.f0,x.f1))
theorem k32_open {w : World} {x : S32} {cs : List Value} (h : k32.K w x cs) : cs = [.int .i64 x.f0,.int .i64 x.f1] := by
 obtain ⟨_,_,rfl,rfl,rfl⟩ := h
 exact rfl
theorem k32_mkM (w : World) (base : Nat) (ok : Nat → Prop) (x : S32)  : k32.M w base ok x [.int .i64 x.f0,.int .i64 x.f1] := ⟨[.int .i64 x.f0],[.int .i64 x.f1],rfl,rfl,rfl⟩
def rd_T32 (xs : List S32) (i : Int) : S32 := xs.getD i.toNat z32
theorem at_T32 {w : World} {A : Option Addr} {n : Nat} {xs : List S32} (h : Kd.C k32 w A n xs) (i : Int) (h0 : 0 ≤ i) (h1 : i < n) : ∃ ad ,A = some ad ∧ w.cell? (ad.add (i.toNat * 2)) = some (.int .i64 (rd_T32 xs i).f0) ∧ w.cell? ⟨(ad.add (i.toNat * 2)).block,(ad.add (i.toNat * 2)).off + 1,none⟩ = some (.int .i64 (rd_T32 xs i).f1) := by
 obtain ⟨ad,c,e,_,hK,hc0⟩ := Kd.C_get h z32 i h0 h1
 have hc : ∀ j u,c[j]? = some u → w.cell? (ad.add (i.toNat * 2 + j)) = some u := hc0
 obtain rfl := k32_open hK
 exact ⟨ad,e,hc 0 _ rfl,by rw [← add_field _ _ 1 (by omega)];exact hc 1 _ rfl⟩
structure S77 where
 f0 : Int
 f1 : Int
def z77 : S77 := ⟨(0 : Int),(0 : Int)⟩
def k77 : Kd S77 := Kd.iso (Kd.pair (Kd.int .i32) (Kd.int .i32)) (fun x : S77 => (x.f0,x.f1))
theorem k77_open {w : World} {x : S77} {cs : List Value} (h : k77.K w x cs) : cs = [.int .i32 x.f0,.int .i32 x.f1] := by
 obtain ⟨_,_,rfl,rfl,rfl⟩ := h
 exact rfl
theorem k77_mkM (w : World) (base : Nat) (ok : Nat → Prop) (x : S77)  : k77.M w base ok x [.int .i32 x.f0,.int .i32 x.f1] := ⟨[.int .i32 x.f0],[.int .i32 x.f1],rfl,rfl,rfl⟩
def rd_T77 (xs : List S77) (i : Int) : S77 := xs.getD i.toNat z77
theorem at_T77 {w : World} {A : Option Addr} {n : Nat} {xs : List S77} (h : Kd.C k77 w A n xs) (i : Int) (h0 : 0 ≤ i) (h1 : i < n) : ∃ ad ,A = some ad ∧ w.cell? (ad.add (i.toNat * 2)) = some (.int .i32 (rd_T77 xs i).f0) ∧ w.cell? ⟨(ad.add (i.toNat * 2)).block,(ad.add (i.toNat * 2)).off + 1,none⟩ = some (.int .i32 (rd_T77 xs i).f1) := by
 obtain ⟨ad,c,e,_,hK,hc0⟩ := Kd.C_get h z77 i h0 h1
 have hc : ∀ j u,c[j]? = some u → w.cell? (ad.add (i.toNat * 2 + j)) = some u := hc0
 obtain rfl := k77_open hK
 exact ⟨ad,e,hc 0 _ rfl,by rw [← add_field _ _ 1 (by omega)];exact hc 1 _ rfl⟩
structure S55 where
 f0 : Int
 f1 : Int
def z55 : S55 := ⟨(0 : Int),(0 : Int)⟩
def k55 : Kd S55 := Kd.iso (Kd.pair (Kd.int .i32) (Kd.int .i32)) (fun x : S55 => (x.f0,x.f1))
theorem k55_open {w : World} {x : S55} {cs : List Value} (h : k55.K w x cs) : cs = [.int .i32 x.f0,.int .i32 x.f1] := by
 obtain ⟨_,_,rfl,rfl,rfl⟩ := h
 exact rfl
theorem k55_mkM (w : World) (base : Nat) (ok : Nat → Prop) (x : S55)  : k55.M w base ok x [.int .i32 x.f0,.int .i32 x.f1] := ⟨[.int .i32 x.f0],[.int .i32 x.f1],rfl,rfl,rfl⟩
def rd_T55 (xs : List S55) (i : Int) : S55 := xs.getD i.toNat z55
theorem at_T55 {w : World} {A : Option Addr} {n : Nat} {xs : List S55} (h : Kd.C k55 w A n xs) (i : Int) (h0 : 0 ≤ i) (h1 : i < n) : ∃ ad ,A = some ad ∧ w.cell? (ad.add (i.toNat * 2)) = some (.int .i32 (rd_T55 xs i).f0) ∧ w.cell? ⟨(ad.add (i.toNat * 2)).block,(ad.add (i.toNat * 2)).off + 1,none⟩ = some (.int .i32 (rd_T55 xs i).f1) := by
 obtain ⟨ad,c,e,_,hK,hc0⟩ := Kd.C_get h z55 i h0 h1
 have hc : ∀ j u,c[j]? = some u → w.cell? (ad.add (i.toNat * 2 + j)) = some u := hc0
 obtain rfl := k55_open hK
 exact ⟨ad,e,hc 0 _ rfl,by rw [← add_field _ _ 1 (by omega)];exact hc 1 _ rfl⟩
structure S42 where
 f0 : Int
 f1 : Int
def z42 : S42 := ⟨(0 : Int),(0 : Int)⟩
def k42 : Kd S42 := Kd.iso (Kd.pair (Kd.int .i32) (Kd.int .i64)) (fun x : S42 => (x.f0,x.f1))
theorem k42_open {w : World} {x : S42} {cs : List Value} (h : k42.K w x cs) : cs = [.int .i32 x.f0,.int .i64 x.f1] := by
 obtain ⟨_,_,rfl,rfl,rfl⟩ := h
 exact rfl
theorem k42_mkM (w : World) (base : Nat) (ok : Nat → Prop) (x : S42)  : k42.M w base ok x [.int .i32 x.f0,.int .i64 x.f1] := ⟨[.int .i32 x.f0],[.int .i64 x.f1],rfl,rfl,rfl⟩
def rd_T42 (xs : List S42) (i : Int) : S42 := xs.getD i.toNat z42
theorem at_T42 {w : World} {A : Option Addr} {n : Nat} {xs : List S42} (h : Kd.C k42 w A n xs) (i : Int) (h0 : 0 ≤ i) (h1 : i < n) : ∃ ad ,A = some ad ∧ w.cell? (ad.add (i.toNat * 2)) = some (.int .i32 (rd_T42 xs i).f0) ∧ w.cell? ⟨(ad.add (i.toNat * 2)).block,(ad.add (i.toNat * 2)).off + 1,none⟩ = some (.int .i64 (rd_T42 xs i).f1) := by
 obtain ⟨ad,c,e,_,hK,hc0⟩ := Kd.C_get h z42 i h0 h1
 have hc : ∀ j u,c[j]? = some u → w.cell? (ad.add (i.toNat * 2 + j)) = some u := hc0
 obtain rfl := k42_open hK
 exact ⟨ad,e,hc 0 _ rfl,by rw [← add_field _ _ 1 (by omega)];exact hc 1 _ rfl⟩
structure S61 where
 f0 : Int
 f1 : Int
 f2 : Int
 f3 : Int
def z61 : S61 := ⟨(0 : Int),(0 : Int),(0 : Int),(0 : Int)⟩
def k61 : Kd S61 := Kd.iso (Kd.pair (Kd.int .i64) (Kd.pair (Kd.int .i64) (Kd.pair (Kd.int .i64) (Kd.int .i64)))) (fun x : S61 => (x.f0,x.f1,x.f2,x.f3))
theorem k61_open {w : World} {x : S61} {cs : List Value} (h : k61.K w x cs) : cs = [.int .i64 x.f0,.int .i64 x.f1,.int .i64 x.f2,.int .i64 x.f3] := by
 obtain ⟨_,_,rfl,rfl,⟨_,_,rfl,rfl,⟨_,_,rfl,rfl,rfl⟩⟩⟩ := h
 exact rfl
theorem k61_openM {w : World} {base : Nat} {ok : Nat → Prop} {x : S61} {cs : List Value} (h : k61.M w base ok x cs) : cs = [.int .i64 x.f0,.int .i64 x.f1,.int .i64 x.f2,.int .i64 x.f3] := by
 obtain ⟨_,_,rfl,rfl,⟨_,_,rfl,rfl,⟨_,_,rfl,rfl,rfl⟩⟩⟩ := h
 exact rfl
theorem k61_mkM (w : World) (base : Nat) (ok : Nat → Prop) (x : S61)  : k61.M w base ok x [.int .i64 x.f0,.int .i64 x.f1,.int .i64 x.f2,.int .i64 x.f3] := ⟨[.int .i64 x.f0],[.int .i64 x.f1,.int .i64 x.f2,.int .i64 x.f3],rfl,rfl,⟨[.int .i64 x.f1],[.int .i64 x.f2,.int .i64 x.f3],rfl,rfl,⟨[.int .i64 x.f2],[.int .i64 x.f3],rfl,rfl,rfl⟩⟩⟩
def rd_T61 (xs : List S61) (i : Int) : S61 := xs.getD i.toNat z61
theorem at_T61 {w : World} {A : Option Addr} {n : Nat} {xs : List S61} (h : Kd.C k61 w A n xs) (i : Int) (h0 : 0 ≤ i) (h1 : i < n) : ∃ ad ,A = some ad ∧ w.cell? (ad.add (i.toNat * 4)) = some (.int .i64 (rd_T61 xs i).f0) ∧ w.cell? ⟨(ad.add (i.toNat * 4)).block,(ad.add (i.toNat * 4)).off + 1,none⟩ = some (.int .i64 (rd_T61 xs i).f1) ∧ w.cell? ⟨(ad.add (i.toNat * 4)).block,(ad.add (i.toNat * 4)).off + 2,none⟩ = some (.int .i64 (rd_T61 xs i).f2) ∧ w.cell? ⟨(ad.add (i.toNat * 4)).block,(ad.add (i.toNat * 4)).off + 3,none⟩ = some (.int .i64 (rd_T61 xs i).f3) := by
 obtain ⟨ad,c,e,_,hK,hc0⟩ := Kd.C_get h z61 i h0 h1
 have hc : ∀ j u,c[j]? = some u → w.cell? (ad.add (i.toNat * 4 + j)) = some u := hc0
 obtain rfl := k61_open hK
 exact ⟨ad,e,hc 0 _ rfl,by rw [← add_field _ _ 1 (by omega)];exact hc 1 _ rfl,by rw [← add_field _ _ 2 (by omega)];exact hc 2 _ rfl,by rw [← add_field _ _ 3 (by omega)];exact hc 3 _ rfl⟩
end Go.Proofs.YtkficbgnjpekaaaDoor.U
end
section
namespace Go.Proofs.YtkficbgnjpekaaaDoor.U
open Go.RowKit Go.Proofs.YtkficbgnjpekaaaDoorW.PrintWords Go.Proofs.YtkficbgnjpekaaaDoorW.PrintLast Go.Proofs.YtkficbgnjpekaaaDoorW.PrintMore
attribute [local go_sem] max2_int min2_int max_two min_two max_three min_three max_four min_four   -- for this text's walks alone
set_option linter.unusedVariables false
set_option linter.unusedSimpArgs false
def bodkinref05_run.l0 : Nat → List (S55) → Int → Int → Int → Int → Option ((List (S55)))
 | 0,_,_,_,_,_ => none
 | k + 1,x0,x2,x3,x4,x11 => if x11 ≤ x2 then (if x11 = 305 then (bodkinref05_run.l0 k x0 x2 x3 x4 (wrap32 (x11 + x3))) else (if x0.length < 17592186044416 then (bodkinref05_run.l0 k (x0 ++ [(⟨x11,wrap32 (x11 - x4)⟩ : S55)]) x2 x3 x4 (wrap32 (x11 + x3))) else (none))) else (some x0)
def bodkinref05_run.f (k : Nat) (l0 : List (S55)) (a1 : Int) (a2 : Int) (a3 : Int) (a4 : Int) : Option ((List (S55))) := bodkinref05_run.l0 k l0 a2 a3 a4 a1
theorem bodkinref05_run.mono_l : ∀ k,(∀ y0 y1 y2 y3 y4,LeO (bodkinref05_run.l0 k y0 y1 y2 y3 y4) (bodkinref05_run.l0 (k + 1) y0 y1 y2 y3 y4))
 | 0 => fun _ _ _ _ _ r h => by simp [bodkinref05_run.l0] at h
 | k + 1 => by
  have ih0 := bodkinref05_run.mono_l k
  ·intro y0 y1 y2 y3 y4
   unfold bodkinref05_run.l0
   repeat' first
   | (with_reducible exact ih0 _ _ _ _ _)
   | (with_reducible exact LeO.refl _)
   | (with_reducible exact LeO.none _)
   | (with_reducible refine LeO.ite ?_ ?_)
   | (with_reducible refine LeO.bind ?_ (fun _ => ?_))
   | exact ih0 _ _ _ _ _
   | exact LeO.none _
   | refine LeO.ite ?_ ?_
   | refine LeO.bind ?_ (fun _ => ?_)
theorem bodkinref05_run.mono : ∀ a0 a1 a2 a3 a4 k,LeO (bodkinref05_run.f k a0 a1 a2 a3 a4) (bodkinref05_run.f (k + 1) a0 a1 a2 a3 a4) := by
 intro a0 a1 a2 a3 a4 k
 have ih0 := bodkinref05_run.mono_l k
 unfold bodkinref05_run.f
 repeat' first
   | (with_reducible exact ih0 _ _ _ _ _)
   | (with_reducible exact LeO.refl _)
   | (with_reducible exact LeO.none _)
   | (with_reducible refine LeO.ite ?_ ?_)
   | (with_reducible refine LeO.bind ?_ (fun _ => ?_))
   | exact ih0 _ _ _ _ _
   | exact LeO.none _
   | refine LeO.ite ?_ ?_
   | refine LeO.bind ?_ (fun _ => ?_)
set_option maxHeartbeats 8000000 in
set_option maxRecDepth 100000 in
theorem bodkinref05_run.calls (k : Nat) (P0_ : Nat → Prop) (u9000_ : Value) (l0 : List (S55)) (a1 : Int) (a2 : Int) (a3 : Int) (a4 : Int) (r : List (S55)) (w0 w : World) (hB : Below w0.heap.size w0 w) (ho0 : Kd.R k55 55 w w0.heap.size P0_ u9000_ l0) (h : bodkinref05_run.f k l0 a1 a2 a3 a4 = some r) :
  Calls Tryd.prog 65 #[u9000_,.int .i32 a1,.int .i32 a2,.int .i32 a3,.int .i32 a4] w fun e w' => ∃ v0_ : Value,e = .returned (v0_) ∧ Kd.R k55 55 w' w0.heap.size (fun k_ => (P0_ k_ ∨ w.heap.size ≤ k_)) v0_ r ∧ Below w0.heap.size w0 w' ∧ Kept w w' (fun k_ => P0_ k_) := by
 have hu55 := Tryd.underlying55
 have HO0 := Aside0.mk (show Kd.R k55 55 w w0.heap.size (fun k_ => (P0_ k_ ∨ w.heap.size ≤ k_)) u9000_ l0 from Kd.R_mono ho0 (fun k_ hk => (.inl hk)))
 have HK := Aside0.mk (Kept.refl w (fun k_ => P0_ k_))
 have HW0 := Aside0.mk hB.size
 have HB := Aside0.mk hB
 clear hB
 have H : (bodkinref05_run.l0 k l0 a2 a3 a4 a1) = some r := h
 clear h
 have H' := Aside0.mk H
 clear H
 go_enter Tryd.func65,Tryd.ntmps65
 go_wp2
 go_loopg [0,11] k (fun kq v0 v11 w' => ∃ (x0_1 : List (S55)) (x11_1 : Int),v11 = .int .i32 x11_1 ∧ Aside0 (bodkinref05_run.l0 kq x0_1 a2 a3 a4 x11_1 = some r) ∧ Aside0 (kq ≤ k) ∧ Aside0 (Kd.R k55 55 w' w0.heap.size (fun k_ => (P0_ k_ ∨ w.heap.size ≤ k_)) v0 x0_1) ∧ Aside0 (Kept w w' (fun k_ => P0_ k_)) ∧ Aside0 (Below w0.heap.size w0 w'))
 case atStart => exact ⟨(l0),(a1),au3,H',⟨Nat.le_refl _⟩,⟨by (with_reducible repeat (first | apply Kd.R_alloc | apply Kd.R_drewN | apply Kd.R_drew));exact HO0.out⟩,⟨by repeat (first | (with_reducible first | exact HK.out | apply Kept.alloc | apply Kept.drewN | apply Kept.drew) | exact HK.out)⟩,⟨au0⟩⟩
 case round =>
  clear H'
  try clear p2
  obtain ⟨x0_1,x11_1,rfl,HA,HK1,HO_0,HK,HB⟩ := hrel
  cases gk with
  | zero => exact absurd HA.out (by simp [bodkinref05_run.l0])
  | succ k1 =>
   have H := HA.out
   clear HA
   simp only [bodkinref05_run.l0] at H
   by_cases c6 : x11_1 ≤ a2
   ·rw [if_pos c6] at H
    have c6b0 : decide (x11_1 ≤ a2) = true := decide_eq_true c6
    clear c6
    by_cases c7 : x11_1 = 305
    ·rw [if_pos c7] at H
     have c7b0 : (x11_1 == 305) = true := beq_iff_eq.mpr c7
     have c7b1 : (x11_1 != 305) = false := bne_eq_false_iff_eq.mpr c7
     clear c7
     have H' := Aside0.mk H
     clear H
     go_wp2
     go_roundg k1
     case measure => have := HK1.out;omega
     case rel => exact ⟨(x0_1),(wrap32 (x11_1 + a3)),au3,H',⟨by have := HK1.out;omega⟩,⟨by (with_reducible repeat (first | apply Kd.R_alloc | apply Kd.R_drewN | apply Kd.R_drew));exact HO_0.out⟩,⟨by repeat (first | (with_reducible first | exact HK.out | apply Kept.alloc | apply Kept.drewN | apply Kept.drew) | exact HK.out)⟩,⟨au0⟩⟩
    ·rw [if_neg c7] at H
     have c7b0 : (x11_1 == 305) = false := beq_eq_false_iff_ne.mpr c7
     have c7b1 : (x11_1 != 305) = true := bne_iff_ne.mpr c7
     by_cases c8 : x0_1.length < 17592186044416
     ·rw [if_pos c8] at H
      have LMc8 := Aside0.mk c8
      clear c8
      obtain ⟨y198,hy198⟩ : ∃ y_ : List (S55),y_ = (x0_1 ++ [(⟨x11_1,wrap32 (x11_1 - a4)⟩ : S55)]) := ⟨_,rfl⟩
      replace H : (bodkinref05_run.l0 k1 y198 a2 a3 a4 (wrap32 (x11_1 + a3))) = some r := by first | (rw [hy198];with_reducible exact H) | (have H2_ := (Option.bind_some _ _).symm.trans H;rw [hy198];with_reducible exact H2_) | (have H2_ := (Option.bind_some _ _).symm.trans H;with_reducible exact H2_) | with_reducible exact H | (rw [hy198];exact H) | exact H
      have Ny198 := Aside0.mk hy198
      clear hy198
      have H' := Aside0.mk H
      clear H
      go_wp2_with (first | ((with_reducible refine gate_builtin (b := .append) (xs := #[.tmp 21,.tmp 27]) rfl ?_);at_builtin;refine Kd.R_append k55 (w0 := w0) w0.heap.size rfl (.tmp 21) (.tmp 27) 52 55 (.agg #[(.int .i32 0),(.int .i32 0)]) 8 rfl Tryd.underlying52 info55 rfl (by decide) (by omega) u0 x0_1 (⟨x11_1,wrap32 (x11_1 - a4)⟩ : S55) [.int .i32 x11_1,.int .i32 (wrap32 (x11_1 - a4))] (fun k_ => (P0_ k_ ∨ w.heap.size ≤ k_)) (fun _ => False) rfl rfl ?aP (fun _ hk => hk.elim) ?aF ?aO ?aB ?aS ?aL ?_;(case aP => exact k55_mkM _ _ _ (⟨x11_1,wrap32 (x11_1 - a4)⟩ : S55));(case aB => exact au0);(case aF => exact (fun k_ hk => (.inr (Nat.le_trans au6 hk))));(case aO => exact au12);(case aS => exact (below_size au0));(case aL => have := LMc8.out;omega);intro v199 w9 ho hb hg hat;rw [← Ny198.out] at ho;have n0_ := Aside0.mk (hb);have n1_ := Aside0.mk (Kept.of_grown (S := (fun k_ => P0_ k_)) hg au11 (fun k_ e_ => (HO_0.out.1 k_ e_)));have n2_ := Aside0.mk (ho);clear HB;clear HK;clear HO_0;have HB := n0_;have HK := n1_;have HO200 := n2_;clear n0_ n1_ n2_;clear ho hb hg hat))
      go_roundg k1
      case measure => have := HK1.out;omega
      case rel => exact ⟨(y198),(wrap32 (x11_1 + a3)),au3,H',⟨by have := HK1.out;omega⟩,⟨by (with_reducible repeat (first | apply Kd.R_alloc | apply Kd.R_drewN | apply Kd.R_drew));exact HO200.out⟩,⟨by repeat (first | (with_reducible first | exact HK.out | apply Kept.alloc | apply Kept.drewN | apply Kept.drew) | exact HK.out)⟩,⟨au0⟩⟩
     ·rw [if_neg c8] at H
      exact absurd H (by simp)
   ·rw [if_neg c6] at H
    have c6b0 : decide (x11_1 ≤ a2) = false := decide_eq_false c6
    clear c6
    obtain rfl := Option.some.inj H
    go_wp2
    go_ret
    exact ⟨_,by first | rfl | (simp [errW_none,errW_some] <;> rfl) | (simp [*,errW_none,errW_some] <;> rfl),by (with_reducible repeat (first | apply Kd.R_alloc | apply Kd.R_drewN | apply Kd.R_drew));exact HO_0.out,by repeat (first | (with_reducible first | exact HB.out | apply below_alloc | apply pw_below_drewN | apply below_drew1) | exact HB.out),by repeat (first | (with_reducible first | exact HK.out | apply Kept.alloc | apply Kept.drewN | apply Kept.drew) | exact HK.out)⟩
def bodkinref05_Pairs.f (k : Nat)  : Option ((List (S55))) := (bodkinref05_run.f k ([] : List (S55)) 97 122 1 32).bind fun t201 => ((bodkinref05_run.f k t201 224 246 1 32).bind fun t204 => ((bodkinref05_run.f k t204 248 254 1 32).bind fun t207 => (if t207.length < 17592186044416 then ((bodkinref05_run.f k (t207 ++ [(⟨255,376⟩ : S55)]) 257 311 2 1).bind fun t213 => ((bodkinref05_run.f k t213 331 375 2 1).bind fun t216 => ((bodkinref05_run.f k t216 945 961 1 32).bind fun t219 => ((bodkinref05_run.f k t219 963 969 1 32).bind fun t222 => ((bodkinref05_run.f k t222 1072 1103 1 32).bind fun t225 => ((bodkinref05_run.f k t225 1104 1119 1 80).bind fun t228 => ((bodkinref05_run.f k t228 1121 1153 2 1).bind fun t231 => (some t231)))))))) else (none))))
theorem bodkinref05_Pairs.mono : ∀ k,LeO (bodkinref05_Pairs.f k ) (bodkinref05_Pairs.f (k + 1) ) := by
 intro  k
 unfold bodkinref05_Pairs.f
 repeat' first
   | (with_reducible exact bodkinref05_run.mono _ _ _ _ _ _)
   | (with_reducible exact LeO.refl _)
   | (with_reducible exact LeO.none _)
   | (with_reducible refine LeO.ite ?_ ?_)
   | (with_reducible refine LeO.bind ?_ (fun _ => ?_))
   | exact bodkinref05_run.mono _ _ _ _ _ _
   | exact LeO.none _
   | refine LeO.ite ?_ ?_
   | refine LeO.bind ?_ (fun _ => ?_)
set_option maxHeartbeats 8000000 in
set_option maxRecDepth 100000 in
theorem bodkinref05_Pairs.calls (k : Nat)  (r : List (S55)) (w : World) (h : bodkinref05_Pairs.f k  = some r) :
  Calls Tryd.prog 43 #[] w fun e w' => ∃ v0_ : Value,e = .returned (v0_) ∧ Kd.R k55 55 w' w.heap.size (fun _ => True) v0_ r ∧ Below w.heap.size w w' := by
 have hu55 := Tryd.underlying55
 have HB := Aside0.mk (Below.refl w.heap.size w)
 have H : ((bodkinref05_run.f k ([] : List (S55)) 97 122 1 32).bind fun t201 => ((bodkinref05_run.f k t201 224 246 1 32).bind fun t204 => ((bodkinref05_run.f k t204 248 254 1 32).bind fun t207 => (if t207.length < 17592186044416 then ((bodkinref05_run.f k (t207 ++ [(⟨255,376⟩ : S55)]) 257 311 2 1).bind fun t213 => ((bodkinref05_run.f k t213 331 375 2 1).bind fun t216 => ((bodkinref05_run.f k t216 945 961 1 32).bind fun t219 => ((bodkinref05_run.f k t219 963 969 1 32).bind fun t222 => ((bodkinref05_run.f k t222 1072 1103 1 32).bind fun t225 => ((bodkinref05_run.f k t225 1104 1119 1 80).bind fun t228 => ((bodkinref05_run.f k t228 1121 1153 2 1).bind fun t231 => (some t231)))))))) else (none))))) = some r := h
 clear h
 replace H := Option.bind_eq_some_iff.mp H
 obtain ⟨t201,A10,H⟩ := H
 replace H : ((bodkinref05_run.f k t201 224 246 1 32).bind fun t204 => ((bodkinref05_run.f k t204 248 254 1 32).bind fun t207 => (if t207.length < 17592186044416 then ((bodkinref05_run.f k (t207 ++ [(⟨255,376⟩ : S55)]) 257 311 2 1).bind fun t213 => ((bodkinref05_run.f k t213 331 375 2 1).bind fun t216 => ((bodkinref05_run.f k t216 945 961 1 32).bind fun t219 => ((bodkinref05_run.f k t219 963 969 1 32).bind fun t222 => ((bodkinref05_run.f k t222 1072 1103 1 32).bind fun t225 => ((bodkinref05_run.f k t225 1104 1119 1 80).bind fun t228 => ((bodkinref05_run.f k t228 1121 1153 2 1).bind fun t231 => (some t231)))))))) else (none)))) = some r := H
 have A1 := Aside0.mk A10
 clear A10
 replace H := Option.bind_eq_some_iff.mp H
 obtain ⟨t204,A20,H⟩ := H
 replace H : ((bodkinref05_run.f k t204 248 254 1 32).bind fun t207 => (if t207.length < 17592186044416 then ((bodkinref05_run.f k (t207 ++ [(⟨255,376⟩ : S55)]) 257 311 2 1).bind fun t213 => ((bodkinref05_run.f k t213 331 375 2 1).bind fun t216 => ((bodkinref05_run.f k t216 945 961 1 32).bind fun t219 => ((bodkinref05_run.f k t219 963 969 1 32).bind fun t222 => ((bodkinref05_run.f k t222 1072 1103 1 32).bind fun t225 => ((bodkinref05_run.f k t225 1104 1119 1 80).bind fun t228 => ((bodkinref05_run.f k t228 1121 1153 2 1).bind fun t231 => (some t231)))))))) else (none))) = some r := H
 have A2 := Aside0.mk A20
 clear A20
 replace H := Option.bind_eq_some_iff.mp H
 obtain ⟨t207,A30,H⟩ := H
 replace H : (if t207.length < 17592186044416 then ((bodkinref05_run.f k (t207 ++ [(⟨255,376⟩ : S55)]) 257 311 2 1).bind fun t213 => ((bodkinref05_run.f k t213 331 375 2 1).bind fun t216 => ((bodkinref05_run.f k t216 945 961 1 32).bind fun t219 => ((bodkinref05_run.f k t219 963 969 1 32).bind fun t222 => ((bodkinref05_run.f k t222 1072 1103 1 32).bind fun t225 => ((bodkinref05_run.f k t225 1104 1119 1 80).bind fun t228 => ((bodkinref05_run.f k t228 1121 1153 2 1).bind fun t231 => (some t231)))))))) else (none)) = some r := H
 have A3 := Aside0.mk A30
 clear A30
 by_cases c4 : t207.length < 17592186044416
 ·rw [if_pos c4] at H
  have LMc4 := Aside0.mk c4
  clear c4
  obtain ⟨y210,hy210⟩ : ∃ y_ : List (S55),y_ = (t207 ++ [(⟨255,376⟩ : S55)]) := ⟨_,rfl⟩
  replace H : ((bodkinref05_run.f k y210 257 311 2 1).bind fun t213 => ((bodkinref05_run.f k t213 331 375 2 1).bind fun t216 => ((bodkinref05_run.f k t216 945 961 1 32).bind fun t219 => ((bodkinref05_run.f k t219 963 969 1 32).bind fun t222 => ((bodkinref05_run.f k t222 1072 1103 1 32).bind fun t225 => ((bodkinref05_run.f k t225 1104 1119 1 80).bind fun t228 => ((bodkinref05_run.f k t228 1121 1153 2 1).bind fun t231 => (some t231)))))))) = some r := by first | (rw [hy210];with_reducible exact H) | (have H2_ := (Option.bind_some _ _).symm.trans H;rw [hy210];with_reducible exact H2_) | (have H2_ := (Option.bind_some _ _).symm.trans H;with_reducible exact H2_) | with_reducible exact H | (rw [hy210];exact H) | exact H
  have Ny210 := Aside0.mk hy210
  clear hy210
  replace H := Option.bind_eq_some_iff.mp H
  obtain ⟨t213,A50,H⟩ := H
  replace H : ((bodkinref05_run.f k t213 331 375 2 1).bind fun t216 => ((bodkinref05_run.f k t216 945 961 1 32).bind fun t219 => ((bodkinref05_run.f k t219 963 969 1 32).bind fun t222 => ((bodkinref05_run.f k t222 1072 1103 1 32).bind fun t225 => ((bodkinref05_run.f k t225 1104 1119 1 80).bind fun t228 => ((bodkinref05_run.f k t228 1121 1153 2 1).bind fun t231 => (some t231))))))) = some r := H
  have A5 := Aside0.mk A50
  clear A50
  replace H := Option.bind_eq_some_iff.mp H
  obtain ⟨t216,A60,H⟩ := H
  replace H : ((bodkinref05_run.f k t216 945 961 1 32).bind fun t219 => ((bodkinref05_run.f k t219 963 969 1 32).bind fun t222 => ((bodkinref05_run.f k t222 1072 1103 1 32).bind fun t225 => ((bodkinref05_run.f k t225 1104 1119 1 80).bind fun t228 => ((bodkinref05_run.f k t228 1121 1153 2 1).bind fun t231 => (some t231)))))) = some r := H
  have A6 := Aside0.mk A60
  clear A60
  replace H := Option.bind_eq_some_iff.mp H
  obtain ⟨t219,A70,H⟩ := H
  replace H : ((bodkinref05_run.f k t219 963 969 1 32).bind fun t222 => ((bodkinref05_run.f k t222 1072 1103 1 32).bind fun t225 => ((bodkinref05_run.f k t225 1104 1119 1 80).bind fun t228 => ((bodkinref05_run.f k t228 1121 1153 2 1).bind fun t231 => (some t231))))) = some r := H
  have A7 := Aside0.mk A70
  clear A70
  replace H := Option.bind_eq_some_iff.mp H
  obtain ⟨t222,A80,H⟩ := H
  replace H : ((bodkinref05_run.f k t222 1072 1103 1 32).bind fun t225 => ((bodkinref05_run.f k t225 1104 1119 1 80).bind fun t228 => ((bodkinref05_run.f k t228 1121 1153 2 1).bind fun t231 => (some t231)))) = some r := H
  have A8 := Aside0.mk A80
  clear A80
  replace H := Option.bind_eq_some_iff.mp H
  obtain ⟨t225,A90,H⟩ := H
  replace H : ((bodkinref05_run.f k t225 1104 1119 1 80).bind fun t228 => ((bodkinref05_run.f k t228 1121 1153 2 1).bind fun t231 => (some t231))) = some r := H
  have A9 := Aside0.mk A90
  clear A90
  replace H := Option.bind_eq_some_iff.mp H
  obtain ⟨t228,A100,H⟩ := H
  replace H : ((bodkinref05_run.f k t228 1121 1153 2 1).bind fun t231 => (some t231)) = some r := H
  have A10 := Aside0.mk A100
  clear A100
  replace H := Option.bind_eq_some_iff.mp H
  obtain ⟨t231,A110,H⟩ := H
  replace H : (some t231) = some r := H
  have A11 := Aside0.mk A110
  clear A110
  obtain rfl := Option.some.inj H
  go_enter Tryd.func43,Tryd.ntmps43
  go_wp2_with (first | ((with_reducible refine gate_callee (f := 65) rfl ?_);refine goesL_ (some 2) rfl rfl Tryd.func65 (by kernel_rfl) rfl #[.slice none 0 0,.int .i32 97,.int .i32 122,.int .i32 1,.int .i32 32] rfl au1 ?_;(refine (bodkinref05_run.calls k (fun k_ => some k_ = (.slice none 0 0 : Value).ownBlock) (.slice none 0 0) ([] : List (S55)) 97 122 1 32 t201 w _ ?side1 ?side2 A1.out).mono ?_);(case side1 => repeat (first | (with_reducible first | exact HB.out | apply below_alloc | apply pw_below_drewN | apply below_drew1) | exact HB.out));(case side2 => exact Kd.R_nil _ _ _ _ _);rintro e w12 ⟨v202,rfl,ho0,hb,hkp⟩;refine ⟨_,rfl,?_⟩;have n0_ := Aside0.mk (Kd.R_mono (ok' := fun k_ => True) ho0 (fun k_ hk_ => trivial));have n1_ := Aside0.mk (hb);clear HB;have HO203 := n0_;have HB := n1_;clear n0_ n1_;(try clear hb);(try clear hkp);(try clear ho0);obtain ⟨Ao13,co13,eo13⟩ := Kd.R_slice HO203.out;subst eo13) | ((with_reducible refine gate_callee (f := 65) rfl ?_);refine goesL_ (some 4) rfl rfl Tryd.func65 (by kernel_rfl) rfl #[.slice Ao13 t201.length co13,.int .i32 224,.int .i32 246,.int .i32 1,.int .i32 32] rfl au1 ?_;(with_reducible refine (bodkinref05_run.calls k (fun k_ => some k_ = (.slice Ao13 t201.length co13 : Value).ownBlock) (.slice Ao13 t201.length co13) t201 224 246 1 32 t204 w _ ?side1 ?side2 A2.out).mono ?_);(case side1 => repeat (first | (with_reducible first | exact HB.out | apply below_alloc | apply pw_below_drewN | apply below_drew1) | exact HB.out));(case side2 => exact Kd.R_tight rfl HO203.out);rintro e w14 ⟨v205,rfl,ho0,hb,hkp⟩;refine ⟨_,rfl,?_⟩;have n0_ := Aside0.mk (Kd.R_mono (ok' := fun k_ => True) ho0 (fun k_ hk_ => trivial));have n1_ := Aside0.mk (hb);clear HB;clear HO203;have HO206 := n0_;have HB := n1_;clear n0_ n1_;(try clear hb);(try clear hkp);(try clear ho0);obtain ⟨Ao15,co15,eo15⟩ := Kd.R_slice HO206.out;subst eo15) | ((with_reducible refine gate_callee (f := 65) rfl ?_);refine goesL_ (some 6) rfl rfl Tryd.func65 (by kernel_rfl) rfl #[.slice Ao15 t204.length co15,.int .i32 248,.int .i32 254,.int .i32 1,.int .i32 32] rfl au1 ?_;(with_reducible refine (bodkinref05_run.calls k (fun k_ => some k_ = (.slice Ao15 t204.length co15 : Value).ownBlock) (.slice Ao15 t204.length co15) t204 248 254 1 32 t207 w _ ?side1 ?side2 A3.out).mono ?_);(case side1 => repeat (first | (with_reducible first | exact HB.out | apply below_alloc | apply pw_below_drewN | apply below_drew1) | exact HB.out));(case side2 => exact Kd.R_tight rfl HO206.out);rintro e w16 ⟨v208,rfl,ho0,hb,hkp⟩;refine ⟨_,rfl,?_⟩;have n0_ := Aside0.mk (Kd.R_mono (ok' := fun k_ => True) ho0 (fun k_ hk_ => trivial));have n1_ := Aside0.mk (hb);clear HB;clear HO206;have HO209 := n0_;have HB := n1_;clear n0_ n1_;(try clear hb);(try clear hkp);(try clear ho0)) | ((with_reducible refine gate_builtin (b := .append) (xs := #[.tmp 7,.tmp 9]) rfl ?_);at_builtin;refine Kd.R_append k55 (w0 := w) w.heap.size rfl (.tmp 7) (.tmp 9) 52 55 (.agg #[(.int .i32 0),(.int .i32 0)]) 8 rfl Tryd.underlying52 info55 rfl (by decide) (by omega) v208 t207 (⟨255,376⟩ : S55) [.int .i32 255,.int .i32 376] (fun _ => True) (fun _ => False) rfl rfl ?aP (fun _ hk => hk.elim) ?aF ?aO ?aB ?aS ?aL ?_;(case aP => exact k55_mkM _ _ _ (⟨255,376⟩ : S55));(case aB => exact au0);(case aF => exact (fun _ _ => trivial));(case aO => exact (by (with_reducible repeat (first | apply Kd.R_alloc | apply Kd.R_drewN | apply Kd.R_drew));exact HO209.out));(case aS => exact (below_size au0));(case aL => have := LMc4.out;omega);intro v211 w17 ho hb hg hat;rw [← Ny210.out] at ho;have n0_ := Aside0.mk (hb);have n1_ := Aside0.mk (ho);clear HB;clear HO209;have HB := n0_;have HO212 := n1_;clear n0_ n1_;clear ho hb hg hat;obtain ⟨Ao18,co18,eo18⟩ := Kd.R_slice HO212.out;subst eo18) | ((with_reducible refine gate_callee (f := 65) rfl ?_);refine goesL_ (some 12) rfl rfl Tryd.func65 (by kernel_rfl) rfl #[.slice Ao18 y210.length co18,.int .i32 257,.int .i32 311,.int .i32 2,.int .i32 1] rfl au1 ?_;(with_reducible refine (bodkinref05_run.calls k (fun k_ => some k_ = (.slice Ao18 y210.length co18 : Value).ownBlock) (.slice Ao18 y210.length co18) y210 257 311 2 1 t213 w _ ?side1 ?side2 A5.out).mono ?_);(case side1 => repeat (first | (with_reducible first | exact HB.out | apply below_alloc | apply pw_below_drewN | apply below_drew1) | exact HB.out));(case side2 => exact Kd.R_tight rfl HO212.out);rintro e w19 ⟨v214,rfl,ho0,hb,hkp⟩;refine ⟨_,rfl,?_⟩;have n0_ := Aside0.mk (Kd.R_mono (ok' := fun k_ => True) ho0 (fun k_ hk_ => trivial));have n1_ := Aside0.mk (hb);clear HB;clear HO212;have HO215 := n0_;have HB := n1_;clear n0_ n1_;(try clear hb);(try clear hkp);(try clear ho0);obtain ⟨Ao20,co20,eo20⟩ := Kd.R_slice HO215.out;subst eo20) | ((with_reducible refine gate_callee (f := 65) rfl ?_);refine goesL_ (some 14) rfl rfl Tryd.func65 (by kernel_rfl) rfl #[.slice Ao20 t213.length co20,.int .i32 331,.int .i32 375,.int .i32 2,.int .i32 1] rfl au1 ?_;(with_reducible refine (bodkinref05_run.calls k (fun k_ => some k_ = (.slice Ao20 t213.length co20 : Value).ownBlock) (.slice Ao20 t213.length co20) t213 331 375 2 1 t216 w _ ?side1 ?side2 A6.out).mono ?_);(case side1 => repeat (first | (with_reducible first | exact HB.out | apply below_alloc | apply pw_below_drewN | apply below_drew1) | exact HB.out));(case side2 => exact Kd.R_tight rfl HO215.out);rintro e w21 ⟨v217,rfl,ho0,hb,hkp⟩;refine ⟨_,rfl,?_⟩;have n0_ := Aside0.mk (Kd.R_mono (ok' := fun k_ => True) ho0 (fun k_ hk_ => trivial));have n1_ := Aside0.mk (hb);clear HB;clear HO215;have HO218 := n0_;have HB := n1_;clear n0_ n1_;(try clear hb);(try clear hkp);(try clear ho0);obtain ⟨Ao22,co22,eo22⟩ := Kd.R_slice HO218.out;subst eo22) | ((with_reducible refine gate_callee (f := 65) rfl ?_);refine goesL_ (some 16) rfl rfl Tryd.func65 (by kernel_rfl) rfl #[.slice Ao22 t216.length co22,.int .i32 945,.int .i32 961,.int .i32 1,.int .i32 32] rfl au1 ?_;(with_reducible refine (bodkinref05_run.calls k (fun k_ => some k_ = (.slice Ao22 t216.length co22 : Value).ownBlock) (.slice Ao22 t216.length co22) t216 945 961 1 32 t219 w _ ?side1 ?side2 A7.out).mono ?_);(case side1 => repeat (first | (with_reducible first | exact HB.out | apply below_alloc | apply pw_below_drewN | apply below_drew1) | exact HB.out));(case side2 => exact Kd.R_tight rfl HO218.out);rintro e w23 ⟨v220,rfl,ho0,hb,hkp⟩;refine ⟨_,rfl,?_⟩;have n0_ := Aside0.mk (Kd.R_mono (ok' := fun k_ => True) ho0 (fun k_ hk_ => trivial));have n1_ := Aside0.mk (hb);clear HB;clear HO218;have HO221 := n0_;have HB := n1_;clear n0_ n1_;(try clear hb);(try clear hkp);(try clear ho0);obtain ⟨Ao24,co24,eo24⟩ := Kd.R_slice HO221.out;subst eo24) | ((with_reducible refine gate_callee (f := 65) rfl ?_);refine goesL_ (some 18) rfl rfl Tryd.func65 (by kernel_rfl) rfl #[.slice Ao24 t219.length co24,.int .i32 963,.int .i32 969,.int .i32 1,.int .i32 32] rfl au1 ?_;(with_reducible refine (bodkinref05_run.calls k (fun k_ => some k_ = (.slice Ao24 t219.length co24 : Value).ownBlock) (.slice Ao24 t219.length co24) t219 963 969 1 32 t222 w _ ?side1 ?side2 A8.out).mono ?_);(case side1 => repeat (first | (with_reducible first | exact HB.out | apply below_alloc | apply pw_below_drewN | apply below_drew1) | exact HB.out));(case side2 => exact Kd.R_tight rfl HO221.out);rintro e w25 ⟨v223,rfl,ho0,hb,hkp⟩;refine ⟨_,rfl,?_⟩;have n0_ := Aside0.mk (Kd.R_mono (ok' := fun k_ => True) ho0 (fun k_ hk_ => trivial));have n1_ := Aside0.mk (hb);clear HB;clear HO221;have HO224 := n0_;have HB := n1_;clear n0_ n1_;(try clear hb);(try clear hkp);(try clear ho0);obtain ⟨Ao26,co26,eo26⟩ := Kd.R_slice HO224.out;subst eo26) | ((with_reducible refine gate_callee (f := 65) rfl ?_);refine goesL_ (some 20) rfl rfl Tryd.func65 (by kernel_rfl) rfl #[.slice Ao26 t222.length co26,.int .i32 1072,.int .i32 1103,.int .i32 1,.int .i32 32] rfl au1 ?_;(with_reducible refine (bodkinref05_run.calls k (fun k_ => some k_ = (.slice Ao26 t222.length co26 : Value).ownBlock) (.slice Ao26 t222.length co26) t222 1072 1103 1 32 t225 w _ ?side1 ?side2 A9.out).mono ?_);(case side1 => repeat (first | (with_reducible first | exact HB.out | apply below_alloc | apply pw_below_drewN | apply below_drew1) | exact HB.out));(case side2 => exact Kd.R_tight rfl HO224.out);rintro e w27 ⟨v226,rfl,ho0,hb,hkp⟩;refine ⟨_,rfl,?_⟩;have n0_ := Aside0.mk (Kd.R_mono (ok' := fun k_ => True) ho0 (fun k_ hk_ => trivial));have n1_ := Aside0.mk (hb);clear HB;clear HO224;have HO227 := n0_;have HB := n1_;clear n0_ n1_;(try clear hb);(try clear hkp);(try clear ho0);obtain ⟨Ao28,co28,eo28⟩ := Kd.R_slice HO227.out;subst eo28) | ((with_reducible refine gate_callee (f := 65) rfl ?_);refine goesL_ (some 22) rfl rfl Tryd.func65 (by kernel_rfl) rfl #[.slice Ao28 t225.length co28,.int .i32 1104,.int .i32 1119,.int .i32 1,.int .i32 80] rfl au1 ?_;(with_reducible refine (bodkinref05_run.calls k (fun k_ => some k_ = (.slice Ao28 t225.length co28 : Value).ownBlock) (.slice Ao28 t225.length co28) t225 1104 1119 1 80 t228 w _ ?side1 ?side2 A10.out).mono ?_);(case side1 => repeat (first | (with_reducible first | exact HB.out | apply below_alloc | apply pw_below_drewN | apply below_drew1) | exact HB.out));(case side2 => exact Kd.R_tight rfl HO227.out);rintro e w29 ⟨v229,rfl,ho0,hb,hkp⟩;refine ⟨_,rfl,?_⟩;have n0_ := Aside0.mk (Kd.R_mono (ok' := fun k_ => True) ho0 (fun k_ hk_ => trivial));have n1_ := Aside0.mk (hb);clear HB;clear HO227;have HO230 := n0_;have HB := n1_;clear n0_ n1_;(try clear hb);(try clear hkp);(try clear ho0);obtain ⟨Ao30,co30,eo30⟩ := Kd.R_slice HO230.out;subst eo30) | ((with_reducible refine gate_callee (f := 65) rfl ?_);refine goesL_ (some 24) rfl rfl Tryd.func65 (by kernel_rfl) rfl #[.slice Ao30 t228.length co30,.int .i32 1121,.int .i32 1153,.int .i32 2,.int .i32 1] rfl au1 ?_;(with_reducible refine (bodkinref05_run.calls k (fun k_ => some k_ = (.slice Ao30 t228.length co30 : Value).ownBlock) (.slice Ao30 t228.length co30) t228 1121 1153 2 1 t231 w _ ?side1 ?side2 A11.out).mono ?_);(case side1 => repeat (first | (with_reducible first | exact HB.out | apply below_alloc | apply pw_below_drewN | apply below_drew1) | exact HB.out));(case side2 => exact Kd.R_tight rfl HO230.out);rintro e w31 ⟨v232,rfl,ho0,hb,hkp⟩;refine ⟨_,rfl,?_⟩;have n0_ := Aside0.mk (Kd.R_mono (ok' := fun k_ => True) ho0 (fun k_ hk_ => trivial));have n1_ := Aside0.mk (hb);clear HB;clear HO230;have HO233 := n0_;have HB := n1_;clear n0_ n1_;(try clear hb);(try clear hkp);(try clear ho0)))
  go_ret
  exact ⟨_,by first | rfl | (simp [errW_none,errW_some] <;> rfl) | (simp [*,errW_none,errW_some] <;> rfl),by (with_reducible repeat (first | apply Kd.R_alloc | apply Kd.R_drewN | apply Kd.R_drew));exact HO233.out,au0⟩
 ·rw [if_neg c4] at H
  exact absurd H (by simp)
def bodkinref05_UpperOf.l0 : Nat → Int → List (S55) → Int → Option (Int)
 | 0,_,_,_ => none
 | k + 1,x0,x3,x4 => if x4 < (x3.length : Int) then (if 0 ≤ x4 then (if ((rd_T55 x3 x4).f0) = x0 then (some ((rd_T55 x3 x4).f1)) else (bodkinref05_UpperOf.l0 k x0 x3 (wrap64 (x4 + 1)))) else (none)) else (some x0)
def bodkinref05_UpperOf.f (k : Nat) (a0 : Int) : Option (Int) := (bodkinref05_Pairs.f k).bind fun t234 => (bodkinref05_UpperOf.l0 k a0 t234 0)
set_option maxHeartbeats 8000000 in
set_option maxRecDepth 100000 in
theorem bodkinref05_UpperOf.calls (k : Nat) (a0 : Int) (r : Int) (w : World) (h : bodkinref05_UpperOf.f k a0 = some r) :
  Calls Tryd.prog 16 #[.int .i32 a0] w fun e w' => e = .returned (.int .i32 r) ∧ Below w.heap.size w w' := by
 have HB := Aside0.mk (Below.refl w.heap.size w)
 have H : ((bodkinref05_Pairs.f k).bind fun t234 => (bodkinref05_UpperOf.l0 k a0 t234 0)) = some r := h
 clear h
 replace H := Option.bind_eq_some_iff.mp H
 obtain ⟨t234,A20,H⟩ := H
 replace H : (bodkinref05_UpperOf.l0 k a0 t234 0) = some r := H
 have A2 := Aside0.mk A20
 clear A20
 have H' := Aside0.mk H
 clear H
 go_enter Tryd.func16,Tryd.ntmps16
 go_wp2_with (first | ((with_reducible refine gate_callee (f := 43) rfl ?_);refine goesL_ (some 5) rfl rfl Tryd.func43 (by kernel_rfl) rfl #[] rfl au1 ?_;(with_reducible refine (bodkinref05_Pairs.calls k  t234 _ A2.out).mono ?_);rintro e w3 ⟨v235,rfl,ho0,hb⟩;refine ⟨_,rfl,?_⟩;have n0_ := Aside0.mk (Kd.R_lower ho0 (below_size au0));have n1_ := Aside0.mk (below_step au0 hb);clear HB;have HO236 := n0_;have HB := n1_;clear n0_ n1_;(try clear hb);(try clear hb2);(try clear hk);(try clear hi);(try clear ho0)))
 go_loopg [4] k (fun kq v4 w' => ∃ (x4_1 : Int),v4 = .int .i64 x4_1 ∧ Aside0 (bodkinref05_UpperOf.l0 kq a0 t234 x4_1 = some r) ∧ Aside0 (kq ≤ k) ∧ Aside0 (Kd.R k55 55 w' w.heap.size (fun _ => True) v235 t234) ∧ Aside0 (Below w.heap.size w w'))
 case atStart => exact ⟨(0),au3,H',⟨Nat.le_refl _⟩,⟨by (with_reducible repeat (first | apply Kd.R_alloc | apply Kd.R_drewN | apply Kd.R_drew));exact HO236.out⟩,⟨au0⟩⟩
 case round =>
  clear H'
  try clear c1
  try clear p2
  obtain ⟨x4_1,rfl,HA,HK1,HO_3,HB⟩ := hrel
  cases gk with
  | zero => exact absurd HA.out (by simp [bodkinref05_UpperOf.l0])
  | succ k1 =>
   have H := HA.out
   clear HA
   simp only [bodkinref05_UpperOf.l0] at H
   by_cases c4 : x4_1 < (t234.length : Int)
   ·rw [if_pos c4] at H
    have c4b0 : decide (x4_1 < (t234.length : Int)) = true := decide_eq_true c4
    clear c4
    by_cases c5 : 0 ≤ x4_1
    ·rw [if_pos c5] at H
     have c5b0 : decide (0 ≤ x4_1) = true := decide_eq_true c5
     clear c5
     by_cases c6 : ((rd_T55 t234 x4_1).f0) = a0
     ·rw [if_pos c6] at H
      have c6b0 : (((rd_T55 t234 x4_1).f0) == a0) = true := beq_iff_eq.mpr c6
      have c6b1 : (((rd_T55 t234 x4_1).f0) != a0) = false := bne_eq_false_iff_eq.mpr c6
      clear c6
      obtain rfl := Option.some.inj H
      obtain ⟨Ao7,co7,eo7⟩ := Kd.R_slice HO_3.out
      subst eo7
      have p237 : 0 ≤ (x4_1 : Int) := of_decide_eq_true au4
      have q237 : x4_1 < (t234.length : Int) := of_decide_eq_true au4
      obtain ⟨ad237,e237,hx237_0,hx237_1⟩ := at_T55 (Kd.R_reads' HO_3.out).2.2 x4_1 p237 q237
      cases e237
      replace p237 := eq_true p237
      replace q237 := eq_true q237
      have p238 : 0 ≤ (x4_1 : Int) := of_decide_eq_true au4
      have q238 : x4_1 < (t234.length : Int) := of_decide_eq_true au4
      obtain ⟨ad238,e238,hx238_0,hx238_1⟩ := at_T55 (Kd.R_reads' HO_3.out).2.2 x4_1 p238 q238
      obtain rfl : ad237 = ad238 := (by injection e238)
      replace p238 := eq_true p238
      replace q238 := eq_true q238
      go_wp2
      go_ret
      exact ⟨au2,au0⟩
     ·rw [if_neg c6] at H
      have c6b0 : (((rd_T55 t234 x4_1).f0) == a0) = false := beq_eq_false_iff_ne.mpr c6
      have c6b1 : (((rd_T55 t234 x4_1).f0) != a0) = true := bne_iff_ne.mpr c6
      have H' := Aside0.mk H
      clear H
      obtain ⟨Ao8,co8,eo8⟩ := Kd.R_slice HO_3.out
      subst eo8
      have p237 : 0 ≤ (x4_1 : Int) := of_decide_eq_true au4
      have q237 : x4_1 < (t234.length : Int) := of_decide_eq_true au4
      obtain ⟨ad237,e237,hx237_0,hx237_1⟩ := at_T55 (Kd.R_reads' HO_3.out).2.2 x4_1 p237 q237
      cases e237
      replace p237 := eq_true p237
      replace q237 := eq_true q237
      go_wp2
      go_roundg k1
      case measure => have := HK1.out;omega
      case rel => exact ⟨(wrap64 (x4_1 + 1)),au3,H',⟨by have := HK1.out;omega⟩,⟨by (with_reducible repeat (first | apply Kd.R_alloc | apply Kd.R_drewN | apply Kd.R_drew));exact HO_3.out⟩,⟨au0⟩⟩
    ·rw [if_neg c5] at H
     exact absurd H (by simp)
   ·rw [if_neg c4] at H
    have c4b0 : decide (x4_1 < (t234.length : Int)) = false := decide_eq_false c4
    clear c4
    obtain rfl := Option.some.inj H
    obtain ⟨Ao9,co9,eo9⟩ := Kd.R_slice HO_3.out
    subst eo9
    go_wp2
    go_ret
    exact ⟨au2,au0⟩
def bodkinref05_LowerOf.l0 : Nat → Int → List (S55) → Int → Option (Int)
 | 0,_,_,_ => none
 | k + 1,x0,x3,x4 => if x4 < (x3.length : Int) then (if 0 ≤ x4 then (if ((rd_T55 x3 x4).f1) = x0 then (some ((rd_T55 x3 x4).f0)) else (bodkinref05_LowerOf.l0 k x0 x3 (wrap64 (x4 + 1)))) else (none)) else (some x0)
def bodkinref05_LowerOf.f (k : Nat) (a0 : Int) : Option (Int) := (bodkinref05_Pairs.f k).bind fun t239 => (bodkinref05_LowerOf.l0 k a0 t239 0)
set_option maxHeartbeats 8000000 in
set_option maxRecDepth 100000 in
theorem bodkinref05_LowerOf.calls (k : Nat) (a0 : Int) (r : Int) (w : World) (h : bodkinref05_LowerOf.f k a0 = some r) :
  Calls Tryd.prog 18 #[.int .i32 a0] w fun e w' => e = .returned (.int .i32 r) ∧ Below w.heap.size w w' := by
 have HB := Aside0.mk (Below.refl w.heap.size w)
 have H : ((bodkinref05_Pairs.f k).bind fun t239 => (bodkinref05_LowerOf.l0 k a0 t239 0)) = some r := h
 clear h
 replace H := Option.bind_eq_some_iff.mp H
 obtain ⟨t239,A20,H⟩ := H
 replace H : (bodkinref05_LowerOf.l0 k a0 t239 0) = some r := H
 have A2 := Aside0.mk A20
 clear A20
 have H' := Aside0.mk H
 clear H
 go_enter Tryd.func18,Tryd.ntmps18
 go_wp2_with (first | ((with_reducible refine gate_callee (f := 43) rfl ?_);refine goesL_ (some 5) rfl rfl Tryd.func43 (by kernel_rfl) rfl #[] rfl au1 ?_;(with_reducible refine (bodkinref05_Pairs.calls k  t239 _ A2.out).mono ?_);rintro e w3 ⟨v240,rfl,ho0,hb⟩;refine ⟨_,rfl,?_⟩;have n0_ := Aside0.mk (Kd.R_lower ho0 (below_size au0));have n1_ := Aside0.mk (below_step au0 hb);clear HB;have HO241 := n0_;have HB := n1_;clear n0_ n1_;(try clear hb);(try clear hb2);(try clear hk);(try clear hi);(try clear ho0)))
 go_loopg [4] k (fun kq v4 w' => ∃ (x4_1 : Int),v4 = .int .i64 x4_1 ∧ Aside0 (bodkinref05_LowerOf.l0 kq a0 t239 x4_1 = some r) ∧ Aside0 (kq ≤ k) ∧ Aside0 (Kd.R k55 55 w' w.heap.size (fun _ => True) v240 t239) ∧ Aside0 (Below w.heap.size w w'))
 case atStart => exact ⟨(0),au3,H',⟨Nat.le_refl _⟩,⟨by (with_reducible repeat (first | apply Kd.R_alloc | apply Kd.R_drewN | apply Kd.R_drew));exact HO241.out⟩,⟨au0⟩⟩
 case round =>
  clear H'
  try clear c1
  try clear p2
  obtain ⟨x4_1,rfl,HA,HK1,HO_3,HB⟩ := hrel
  cases gk with
  | zero => exact absurd HA.out (by simp [bodkinref05_LowerOf.l0])
  | succ k1 =>
   have H := HA.out
   clear HA
   simp only [bodkinref05_LowerOf.l0] at H
   by_cases c4 : x4_1 < (t239.length : Int)
   ·rw [if_pos c4] at H
    have c4b0 : decide (x4_1 < (t239.length : Int)) = true := decide_eq_true c4
    clear c4
    by_cases c5 : 0 ≤ x4_1
    ·rw [if_pos c5] at H
     have c5b0 : decide (0 ≤ x4_1) = true := decide_eq_true c5
     clear c5
     by_cases c6 : ((rd_T55 t239 x4_1).f1) = a0
     ·rw [if_pos c6] at H
      have c6b0 : (((rd_T55 t239 x4_1).f1) == a0) = true := beq_iff_eq.mpr c6
      have c6b1 : (((rd_T55 t239 x4_1).f1) != a0) = false := bne_eq_false_iff_eq.mpr c6
      clear c6
      obtain rfl := Option.some.inj H
      obtain ⟨Ao7,co7,eo7⟩ := Kd.R_slice HO_3.out
      subst eo7
      have p242 : 0 ≤ (x4_1 : Int) := of_decide_eq_true au4
      have q242 : x4_1 < (t239.length : Int) := of_decide_eq_true au4
      obtain ⟨ad242,e242,hx242_0,hx242_1⟩ := at_T55 (Kd.R_reads' HO_3.out).2.2 x4_1 p242 q242
      cases e242
      replace p242 := eq_true p242
      replace q242 := eq_true q242
      have p243 : 0 ≤ (x4_1 : Int) := of_decide_eq_true au4
      have q243 : x4_1 < (t239.length : Int) := of_decide_eq_true au4
      obtain ⟨ad243,e243,hx243_0,hx243_1⟩ := at_T55 (Kd.R_reads' HO_3.out).2.2 x4_1 p243 q243
      obtain rfl : ad242 = ad243 := (by injection e243)
      replace p243 := eq_true p243
      replace q243 := eq_true q243
      go_wp2
      go_ret
      exact ⟨au2,au0⟩
     ·rw [if_neg c6] at H
      have c6b0 : (((rd_T55 t239 x4_1).f1) == a0) = false := beq_eq_false_iff_ne.mpr c6
      have c6b1 : (((rd_T55 t239 x4_1).f1) != a0) = true := bne_iff_ne.mpr c6
      have H' := Aside0.mk H
      clear H
      obtain ⟨Ao8,co8,eo8⟩ := Kd.R_slice HO_3.out
      subst eo8
      have p242 : 0 ≤ (x4_1 : Int) := of_decide_eq_true au4
      have q242 : x4_1 < (t239.length : Int) := of_decide_eq_true au4
      obtain ⟨ad242,e242,hx242_0,hx242_1⟩ := at_T55 (Kd.R_reads' HO_3.out).2.2 x4_1 p242 q242
      cases e242
      replace p242 := eq_true p242
      replace q242 := eq_true q242
      go_wp2
      go_roundg k1
      case measure => have := HK1.out;omega
      case rel => exact ⟨(wrap64 (x4_1 + 1)),au3,H',⟨by have := HK1.out;omega⟩,⟨by (with_reducible repeat (first | apply Kd.R_alloc | apply Kd.R_drewN | apply Kd.R_drew));exact HO_3.out⟩,⟨au0⟩⟩
    ·rw [if_neg c5] at H
     exact absurd H (by simp)
   ·rw [if_neg c4] at H
    have c4b0 : decide (x4_1 < (t239.length : Int)) = false := decide_eq_false c4
    clear c4
    obtain rfl := Option.some.inj H
    obtain ⟨Ao9,co9,eo9⟩ := Kd.R_slice HO_3.out
    subst eo9
    go_wp2
    go_ret
    exact ⟨au2,au0⟩
def bodkinref01_scalar.f (a0 : Int) : Option (Bool) := if a0 ≥ 0 then (if a0 ≤ 1114111 then (if a0 < 55296 then (some true) else (some (decide (a0 > 57343)))) else (some false)) else (some false)
set_option maxHeartbeats 8000000 in
set_option maxRecDepth 100000 in
theorem bodkinref01_scalar.calls (a0 : Int) (r : Bool) (w : World) (h : bodkinref01_scalar.f a0 = some r) :
  Calls Tryd.prog 84 #[.int .i32 a0] w fun e w' => e = .returned (.bool r) ∧ Drawn0 w w' := by
 have H : (if a0 ≥ 0 then (if a0 ≤ 1114111 then (if a0 < 55296 then (some true) else (some (decide (a0 > 57343)))) else (some false)) else (some false)) = some r := h
 clear h
 by_cases c2 : a0 ≥ 0
 ·rw [if_pos c2] at H
  have c2b0 : decide (0 ≤ a0) = true := decide_eq_true c2
  clear c2
  by_cases c3 : a0 ≤ 1114111
  ·rw [if_pos c3] at H
   have c3b0 : decide (a0 ≤ 1114111) = true := decide_eq_true c3
   clear c3
   by_cases c4 : a0 < 55296
   ·rw [if_pos c4] at H
    have c4b0 : decide (a0 < 55296) = true := decide_eq_true c4
    clear c4
    obtain rfl := Option.some.inj H
    go_enter Tryd.func84,Tryd.ntmps84
    go_wp2
    go_ret
    exact ⟨by first | rfl | (simp;done) | (simp [*];done),by repeat (first | exact Drawn0.refl _ | apply Drawn0.step)⟩
   ·rw [if_neg c4] at H
    have c4b0 : decide (a0 < 55296) = false := decide_eq_false c4
    clear c4
    obtain rfl := Option.some.inj H
    go_enter Tryd.func84,Tryd.ntmps84
    go_wp2
    go_ret
    exact ⟨by first | rfl | (simp;done) | (simp [*];done),by repeat (first | exact Drawn0.refl _ | apply Drawn0.step)⟩
  ·rw [if_neg c3] at H
   have c3b0 : decide (a0 ≤ 1114111) = false := decide_eq_false c3
   clear c3
   obtain rfl := Option.some.inj H
   go_enter Tryd.func84,Tryd.ntmps84
   go_wp2
   go_ret
   exact ⟨by first | rfl | (simp;done) | (simp [*];done),by repeat (first | exact Drawn0.refl _ | apply Drawn0.step)⟩
 ·rw [if_neg c2] at H
  have c2b0 : decide (0 ≤ a0) = false := decide_eq_false c2
  clear c2
  obtain rfl := Option.some.inj H
  go_enter Tryd.func84,Tryd.ntmps84
  go_wp2
  go_ret
  exact ⟨by first | rfl | (simp;done) | (simp [*];done),by repeat (first | exact Drawn0.refl _ | apply Drawn0.step)⟩
mutual
def bodkinref01_lead.j0 : Nat → Int → Bool → Option (Int × Int)
 | 0,_,_ => none
 | k + 1,x0,x9 => if x9 = true then (some (wrap32 ((wrap32 (x0)) - 192),1)) else (if x0 ≥ 224 then (bodkinref01_lead.j1 k x0 (decide (x0 < 240))) else (bodkinref01_lead.j1 k x0 false))
def bodkinref01_lead.j1 : Nat → Int → Bool → Option (Int × Int)
 | 0,_,_ => none
 | k + 1,x0,x19 => if x19 = true then (some (wrap32 ((wrap32 (x0)) - 224),2)) else (if x0 ≥ 240 then (if x0 < 248 then (some (wrap32 ((wrap32 (x0)) - 240),3)) else (some (0,(-1)))) else (some (0,(-1))))
end
def bodkinref01_lead.f (k : Nat) (a0 : Int) : Option (Int × Int) := if a0 < 128 then (some (wrap32 (a0),0)) else (if a0 ≥ 192 then (bodkinref01_lead.j0 k a0 (decide (a0 < 224))) else (bodkinref01_lead.j0 k a0 false))
set_option maxHeartbeats 8000000 in
set_option maxRecDepth 100000 in
theorem bodkinref01_lead.calls (k : Nat) (a0 : Int) (r1 : Int) (r2 : Int) (w : World) (h : bodkinref01_lead.f k a0 = some (r1,r2)) :
  Calls Tryd.prog 87 #[.int .u8 a0] w fun e w' => e = .returned (.tuple #[.int .i32 r1,.int .i64 r2]) ∧ Drawn0 w w' := by
 have H : (if a0 < 128 then (some (wrap32 (a0),0)) else (if a0 ≥ 192 then (bodkinref01_lead.j0 k a0 (decide (a0 < 224))) else (bodkinref01_lead.j0 k a0 false))) = some (r1,r2) := h
 clear h
 by_cases c2 : a0 < 128
 ·rw [if_pos c2] at H
  have c2b0 : decide (a0 < 128) = true := decide_eq_true c2
  clear c2
  simp only [Option.some.injEq,Prod.mk.injEq] at H
  obtain ⟨rfl,rfl⟩ := H
  go_enter Tryd.func87,Tryd.ntmps87
  go_wp2
  go_ret2
  exact ⟨by first | rfl | (simp;done) | (simp [*];done),by repeat (first | exact Drawn0.refl _ | apply Drawn0.step)⟩
 ·rw [if_neg c2] at H
  have c2b0 : decide (a0 < 128) = false := decide_eq_false c2
  clear c2
  have HC3 := Aside0.mk H
  clear H
  go_enter Tryd.func87,Tryd.ntmps87
  go_upto_region 3 with (fail)
  go_cut [9] (fun v9 wc => ∃ (kq : Nat) (x9_2 : Bool),v9 = .bool x9_2 ∧ Aside0 (bodkinref01_lead.j0 kq a0 x9_2 = some (r1,r2)) ∧ Aside0 (kq ≤ k) ∧ Drawn0 w wc)
  case first =>
   have H := HC3.out
   clear HC3
   by_cases c4 : a0 ≥ 192
   ·rw [if_pos c4] at H
    have c4b0 : decide (192 ≤ a0) = true := decide_eq_true c4
    clear c4
    (first | rw [c4b0] | (simp only [i64_w,i32_w];rw [c4b0]) | skip)
    have H' := Aside0.mk H
    clear H
    go_wp2
    go_meet
    case rel => exact ⟨_,(decide (a0 < 224)),au3,H',⟨by first | omega | exact Nat.le_refl _⟩,by repeat (first | exact Drawn0.refl _ | apply Drawn0.step)⟩
   ·rw [if_neg c4] at H
    have c4b0 : decide (192 ≤ a0) = false := decide_eq_false c4
    clear c4
    (first | rw [c4b0] | (simp only [i64_w,i32_w];rw [c4b0]) | skip)
    have H' := Aside0.mk H
    clear H
    go_wp2
    go_meet
    case rel => exact ⟨_,(false),au3,H',⟨by first | omega | exact Nat.le_refl _⟩,by repeat (first | exact Drawn0.refl _ | apply Drawn0.step)⟩
  case rest =>
   clear HC3
   try clear c2
   try clear c2b0
   try clear p2
   try clear p3
   try clear c4
   try clear c4b0
   obtain ⟨kq,x9_2,rfl,HA,HJ2,⟨mc2,rfl⟩⟩ := hcut
   cases kq with
   | zero => exact absurd HA.out (by simp [bodkinref01_lead.j0])
   | succ kj2 =>
    have H := HA.out
    clear HA
    simp only [bodkinref01_lead.j0] at H
    by_cases c5 : x9_2 = true
    ·subst c5
     have H1 : (some (wrap32 ((wrap32 (a0)) - 192),1)) = some (r1,r2) := by rw [if_pos rfl] at H;exact H
     clear H
     have H := H1
     clear H1
     simp only [Option.some.injEq,Prod.mk.injEq] at H
     obtain ⟨rfl,rfl⟩ := H
     go_wp2
     go_ret2
     exact ⟨by first | rfl | (simp;done) | (simp [*];done),by repeat (first | exact Drawn0.refl _ | apply Drawn0.step)⟩
    ·replace c5 := Bool.eq_false_iff.mpr c5
     subst c5
     have H1 : (if a0 ≥ 224 then (bodkinref01_lead.j1 kj2 a0 (decide (a0 < 240))) else (bodkinref01_lead.j1 kj2 a0 false)) = some (r1,r2) := by rw [if_neg (show ¬ (false = true) by decide)] at H;exact H
     clear H
     have H := H1
     clear H1
     have HC6 := Aside0.mk H
     clear H
     go_upto_region 5 with (fail)
     go_cut [19] (fun v19 wc => ∃ (kq : Nat) (x19_5 : Bool),v19 = .bool x19_5 ∧ Aside0 (bodkinref01_lead.j1 kq a0 x19_5 = some (r1,r2)) ∧ Aside0 (kq ≤ kj2) ∧ Drawn0 w wc)
     case first =>
      have H := HC6.out
      clear HC6
      by_cases c7 : a0 ≥ 224
      ·rw [if_pos c7] at H
       have c7b0 : decide (224 ≤ a0) = true := decide_eq_true c7
       clear c7
       (first | rw [c7b0] | (simp only [i64_w,i32_w];rw [c7b0]) | skip)
       have H' := Aside0.mk H
       clear H
       go_wp2
       go_meet
       case rel => exact ⟨_,(decide (a0 < 240)),au3,H',⟨by have := HJ2.out;first | omega | exact Nat.le_refl _⟩,by repeat (first | exact Drawn0.refl _ | apply Drawn0.step)⟩
      ·rw [if_neg c7] at H
       have c7b0 : decide (224 ≤ a0) = false := decide_eq_false c7
       clear c7
       (first | rw [c7b0] | (simp only [i64_w,i32_w];rw [c7b0]) | skip)
       have H' := Aside0.mk H
       clear H
       go_wp2
       go_meet
       case rel => exact ⟨_,(false),au3,H',⟨by have := HJ2.out;first | omega | exact Nat.le_refl _⟩,by repeat (first | exact Drawn0.refl _ | apply Drawn0.step)⟩
     case rest =>
      clear HC6
      try clear c2
      try clear c2b0
      try clear p2
      try clear p3
      try clear c4
      try clear c4b0
      try clear c5
      try clear c7
      try clear c7b0
      try clear p2
      try clear p3
      obtain ⟨kq,x19_5,rfl,HA,HJ5,⟨mc5,rfl⟩⟩ := hcut
      cases kq with
      | zero => exact absurd HA.out (by simp [bodkinref01_lead.j1])
      | succ kj5 =>
       have H := HA.out
       clear HA
       simp only [bodkinref01_lead.j1] at H
       by_cases c8 : x19_5 = true
       ·subst c8
        have H1 : (some (wrap32 ((wrap32 (a0)) - 224),2)) = some (r1,r2) := by rw [if_pos rfl] at H;exact H
        clear H
        have H := H1
        clear H1
        simp only [Option.some.injEq,Prod.mk.injEq] at H
        obtain ⟨rfl,rfl⟩ := H
        go_wp2
        go_ret2
        exact ⟨by first | rfl | (simp;done) | (simp [*];done),by repeat (first | exact Drawn0.refl _ | apply Drawn0.step)⟩
       ·replace c8 := Bool.eq_false_iff.mpr c8
        subst c8
        have H1 : (if a0 ≥ 240 then (if a0 < 248 then (some (wrap32 ((wrap32 (a0)) - 240),3)) else (some (0,(-1)))) else (some (0,(-1)))) = some (r1,r2) := by rw [if_neg (show ¬ (false = true) by decide)] at H;exact H
        clear H
        have H := H1
        clear H1
        by_cases c9 : a0 ≥ 240
        ·rw [if_pos c9] at H
         have c9b0 : decide (240 ≤ a0) = true := decide_eq_true c9
         clear c9
         by_cases c10 : a0 < 248
         ·rw [if_pos c10] at H
          have c10b0 : decide (a0 < 248) = true := decide_eq_true c10
          clear c10
          simp only [Option.some.injEq,Prod.mk.injEq] at H
          obtain ⟨rfl,rfl⟩ := H
          go_wp2
          go_ret2
          exact ⟨by first | rfl | (simp;done) | (simp [*];done),by repeat (first | exact Drawn0.refl _ | apply Drawn0.step)⟩
         ·rw [if_neg c10] at H
          have c10b0 : decide (a0 < 248) = false := decide_eq_false c10
          clear c10
          simp only [Option.some.injEq,Prod.mk.injEq] at H
          obtain ⟨rfl,rfl⟩ := H
          go_wp2
          go_ret2
          exact ⟨by first | rfl | (simp;done) | (simp [*];done),by repeat (first | exact Drawn0.refl _ | apply Drawn0.step)⟩
        ·rw [if_neg c9] at H
         have c9b0 : decide (240 ≤ a0) = false := decide_eq_false c9
         clear c9
         simp only [Option.some.injEq,Prod.mk.injEq] at H
         obtain ⟨rfl,rfl⟩ := H
         go_wp2
         go_ret2
         exact ⟨by first | rfl | (simp;done) | (simp [*];done),by repeat (first | exact Drawn0.refl _ | apply Drawn0.step)⟩
end Go.Proofs.YtkficbgnjpekaaaDoor.U
end
section
namespace Go.Proofs.YtkficbgnjpekaaaDoor.U
open Go.RowKit Go.Proofs.YtkficbgnjpekaaaDoorW.PrintWords Go.Proofs.YtkficbgnjpekaaaDoorW.PrintLast Go.Proofs.YtkficbgnjpekaaaDoorW.PrintMore
attribute [local go_sem] max2_int min2_int max_two min_two max_three min_three max_four min_four   -- for this text's walks alone
set_option linter.unusedVariables false
set_option linter.unusedSimpArgs false
theorem eqA32 (d : Nat) (w : World) (x0 y0 : Int) (x1 y1 : Int) :
  (Op.equalIn (d + 2) 32 (.agg #[.int .i64 x0,.int .i64 x1]) (.agg #[.int .i64 y0,.int .i64 y1])).run Tryd.prog w = .ok (x0 == y0 && (x1 == y1)) w := by
 refine eqA_of Tryd.underlying32 (by kernel_rfl) ?_
 refine eqf_cons (by rfl) (by go_simp;rfl) (by go_simp;rfl) (by go_simp) ?_
 exact eqf_last (by rfl) (by go_simp;rfl) (by go_simp;rfl) (by go_simp)
end Go.Proofs.YtkficbgnjpekaaaDoor.U
end
