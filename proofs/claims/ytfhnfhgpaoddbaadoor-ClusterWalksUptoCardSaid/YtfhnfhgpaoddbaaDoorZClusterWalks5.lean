/- What the law ClusterWalks reaches of this seat's own texts, merged; what nothing uses is left out. -/
import Derived.Test.YtfhnfhgpaoddbaaDoorProg
import Derived.Below
import Derived.Deep.Draws
import Derived.Deep.AppendLies
import Derived.Maps.AppendAt
import Derived.OwnWalk
import Derived.Laws.BytesArg
import Derived.Laws.MakeOwn
import Derived.Laws.OwnMore
import Derived.Deep.OwnRows
import Derived.Tactics
import Derived.Lib.ConvBytes
import Derived.Laws.Slices
import Derived.WalkKit
import Derived.KernelRfl
import Derived.RowKit3
import Derived.Deep.LoopGhost
import Derived.Deep.QuietTactic
import Derived.BigQuiet
import Derived.WideLaws
import Derived.Deep.DeepCutAuto
import Derived.Deep.CutBlock
import Derived.Deep.RegionHeld3
import Derived.Laws.Rows
import Derived.Lib.AppendStr
import Derived.ArgAppend
import Derived.Laws.IdiomCopy
import Derived.OrdersHeld
import Derived.Laws.BitsLemmas
import Derived.RowKit
import Derived.Shelf.Strings.Builder1
import Derived.Shelf.Small.Utf8
import Derived.Shelf.Strings.BuilderF
import Derived.Shelf.Strings.BuilderK
import Derived.Shelf.Utf8.AppendRunePlain
import Derived.Shelf.Utf8.RuneCount
import Derived.Shelf.Strings.Prefix
import Derived.Shelf.Unicode.Decode
import Derived.Shelf.Strings.RuneCount
import Derived.Shelf.Unicode.DecodeSlow
import Derived.Shelf.Unicode.DecodeAny
import Derived.Shelf.Strings.BuilderCap
import Derived.Lib.LaidU8
import Derived.RangeFuncNested
import Derived.RangeFuncBound
import Derived.RangeFuncCalls
import Derived.RangeFuncLeaves
import Derived.Lib.DecodeN
import Derived.Lib.MapLaws
import Derived.Laws.DeepStrings4
import Derived.Shelf.Unicode.DecodeLastEight
import Derived.Shelf.Abstract
import Derived.Shelf.RegionOpen
import Derived.OwnWalkIn
import Derived.TacticsInMore
import Derived.LoopNIn
import Derived.LoopIn
import Derived.Lib.Hide
import Derived.Sort.BigQuietIn
import Derived.Sort.CutIn
import Derived.Lib.Builder
import Derived.Lib.FrozenHead
import Derived.Test.YtfhnfhgpaoddbaaDoorRows
import Derived.ProofKit
import Derived.Deep.DeepHandedRow
import Derived.LaidMore
import Derived.Lay
import Derived.Test.YtfhnfhgpaoddbaaDoorWWords
import Derived.Test.YtfhnfhgpaoddbaaDoorWLast
import Derived.Test.YtfhnfhgpaoddbaaDoorWTab
import Derived.Test.YtfhnfhgpaoddbaaDoorWQPut
import Derived.Test.YtfhnfhgpaoddbaaDoorWApart
import Derived.Test.YtfhnfhgpaoddbaaDoorWArr
import Derived.Test.YtfhnfhgpaoddbaaDoorWZeros
import Derived.Test.YtfhnfhgpaoddbaaDoorWFoot
import Derived.Test.YtfhnfhgpaoddbaaDoorWKept
import Derived.Test.YtfhnfhgpaoddbaaDoorWShare
import Derived.Test.YtfhnfhgpaoddbaaDoorWN
import Derived.Test.YtfhnfhgpaoddbaaDoorWEqStruct
import Derived.Test.YtfhnfhgpaoddbaaDoorWRepsOne
import Derived.Test.YtfhnfhgpaoddbaaDoorWInv
import Derived.Test.YtfhnfhgpaoddbaaDoorWGuard
import Derived.Test.YtfhnfhgpaoddbaaDoorWNEv
import Derived.Test.YtfhnfhgpaoddbaaDoorWMore
import Derived.Test.YtfhnfhgpaoddbaaDoorZClusterWalks0
import Derived.Test.YtfhnfhgpaoddbaaDoorZClusterWalks1
import Derived.Test.YtfhnfhgpaoddbaaDoorZClusterWalks2
import Derived.Test.YtfhnfhgpaoddbaaDoorZClusterWalks3
import Derived.Test.YtfhnfhgpaoddbaaDoorZClusterWalks4
section
namespace Go.Proofs.YtfhnfhgpaoddbaaDoor.Pu
open Go Go.RowKit Go.Proofs.YtfhnfhgpaoddbaaDoor.U Go.Proofs.YtfhnfhgpaoddbaaDoorW.PrintWords Go.Proofs.YtfhnfhgpaoddbaaDoorW.PrintLast Go.Proofs.YtfhnfhgpaoddbaaDoorW.PrintMore
set_option linter.unusedVariables false
def marksL : List Int := (width_marks.f).getD []
def widesL : List Int := (width_wides.f).getD []
theorem marks_eq : width_marks.f = some marksL := rfl
theorem wides_eq : width_wides.f = some widesL := rfl
theorem marks_ok : okTab marksL = true := by kernel_rfl
theorem wides_ok : okTab widesL = true := by kernel_rfl
theorem within_marks (c : Int) : width_within_rune.f marksL c = some (withinB marksL c) := by
 unfold width_within_rune.f;rw [if_pos ⟨by decide,by decide,marks_ok⟩]
theorem within_wides (c : Int) : width_within_rune.f widesL c = some (withinB widesL c) := by
 unfold width_within_rune.f;rw [if_pos ⟨by decide,by decide,wides_ok⟩]
attribute [local irreducible] marksL widesL
def cls (c : Int) : Int := if c < 0 ∨ c > 1114111 ∨ (55296 ≤ c ∧ c ≤ 57343) then 5 else if c = 10 then 1 else if c < 32 ∨ (127 ≤ c ∧ c ≤ 159) then 2 else if withinB marksL c = true then 3 else if withinB widesL c = true then 4 else 0
theorem ev_val {α : Type} {c : Prop} [Decidable c] {g : Nat → Option α} {v v' : α} (h : c → Ev g v) (h' : ¬ c → Ev g v') : Ev g (if c then v else v') := by
 split
 ·rename_i hc;exact h hc
 ·rename_i hc;exact h' hc
theorem class_j1 (c : Int) (b : Bool) : Ev (fun k => width_Class.j1 k c b) (if b = true then 2 else if withinB marksL c = true then 3 else if withinB widesL c = true then 4 else 0) :=
 Ev.step (fun k => width_Class.j1.eq_2 ..) (ev_val (fun hb => ev_pos hb (Ev.now _)) (fun hb => ev_neg hb (ev_some (a := marksL) marks_eq (ev_some (a := withinB marksL c) (within_marks c) (ev_val (fun h => ev_pos h (Ev.now _)) (fun h => ev_neg h
  (ev_some (a := widesL) wides_eq (ev_some (a := withinB widesL c) (within_wides c) (ev_val (fun h2 => ev_pos h2 (Ev.now _)) (fun h2 => ev_neg h2 (Ev.now _)))))))))))
theorem class_j0 (c : Int) (b : Bool) : Ev (fun k => width_Class.j0 k c b) (if b = true then 5 else if c = 10 then 1 else if c < 32 ∨ (127 ≤ c ∧ c ≤ 159) then 2 else if withinB marksL c = true then 3 else if withinB widesL c = true then 4 else 0) := by
 have hy : ∀ d : Bool,d = true → Ev (fun k => width_Class.j1 k c d) 2 := fun d hd => by have := class_j1 c d;rwa [if_pos hd] at this
 have hn : ∀ d : Bool,¬ d = true → Ev (fun k => width_Class.j1 k c d) (if withinB marksL c = true then 3 else if withinB widesL c = true then 4 else 0) := fun d hd => by have := class_j1 c d;rwa [if_neg hd] at this
 refine Ev.step (fun k => width_Class.j0.eq_2 ..) (ev_val (fun hb => ev_pos hb (Ev.now _)) (fun hb => ev_neg hb (ev_val (fun h => ev_pos h (Ev.now _)) (fun h => ev_neg h (ev_val (fun h2 => ?_) (fun h2 => ?_))))))
 ·by_cases h3 : c < 32
  ·exact ev_pos h3 (hy _ rfl)
  ·exact ev_neg h3 (ev_pos (by omega) (hy _ (by rw [decide_eq_true_eq];omega)))
 ·refine ev_neg (by omega) ?_
  by_cases h3 : c ≥ 127
  ·exact ev_pos h3 (hn _ (by rw [decide_eq_true_eq];omega))
  ·exact ev_neg h3 (hn _ (by simp))
theorem class_ans (c : Int) : Ev (fun k => width_Class.f k c) (cls c) := by
 have hy : ∀ d : Bool,d = true → Ev (fun k => width_Class.j0 k c d) 5 := fun d hd => by have := class_j0 c d;rwa [if_pos hd] at this
 have hn : ∀ d : Bool,¬ d = true → Ev (fun k => width_Class.j0 k c d) (if c = 10 then 1 else if c < 32 ∨ (127 ≤ c ∧ c ≤ 159) then 2 else if withinB marksL c = true then 3 else if withinB widesL c = true then 4 else 0) := fun d hd => by have := class_j0 c d;rwa [if_neg hd] at this
 unfold width_Class.f cls
 refine ev_val (fun h => ?_) (fun h => ?_)
 ·by_cases h1 : c < 0
  ·exact ev_pos h1 (hy _ rfl)
  ·refine ev_neg h1 ?_
   by_cases h2 : c > 1114111
   ·exact ev_pos h2 (hy _ rfl)
   ·exact ev_neg h2 (ev_pos (by omega) (hy _ (by rw [decide_eq_true_eq];omega)))
 ·refine ev_neg (by omega) (ev_neg (by omega) ?_)
  by_cases h3 : c ≥ 55296
  ·exact ev_pos h3 (hn _ (by rw [decide_eq_true_eq];omega))
  ·exact ev_neg h3 (hn _ (by simp))
def pairsL (l : List Int) : List S106 := (List.range (l.length / 2)).map fun (k : Nat) => ⟨rd l (2 * (k : Int)),rd l (2 * (k : Int) + 1)⟩
theorem pairs_any (l : List Int) (c : Int) : withinB l c = (pairsL l).any (fun p => decide (p.f0 ≤ c) && decide (c ≤ p.f1)) := by
 unfold withinB pairsL;rw [List.any_map];rfl
theorem drop_cons' {α : Type} {l t : List α} {b d : α} {i : Nat} (h : l.drop i = b :: t) : i < l.length ∧ l.getD i d = b ∧ l.drop (i + 1) = t := by
 have h1 : i < l.length := by
  rcases Nat.lt_or_ge i l.length with h2 | h2
  ·exact h2
  ·rw [List.drop_eq_nil_of_le h2] at h;cases h
 rw [List.drop_eq_getElem_cons h1] at h
 injection h with h2 h3
 exact ⟨h1,by rw [List.getD_eq_getElem?_getD,List.getElem?_eq_getElem h1];exact h2,h3⟩
theorem ref_within (L : List S106) (hL : L.length ≤ 1000000) (c : Int) : ∀ (l : List S106) (i : Nat),L.drop i = l → Ev (fun k => bodkinref02_Within.l0 k L c i) (l.any (fun p => decide (p.f0 ≤ c) && decide (c ≤ p.f1))) := by
 intro l
 induction l with
 | nil => intro i h;have := List.drop_eq_nil_iff.1 h;exact Ev.step (fun k => bodkinref02_Within.l0.eq_2 ..) (ev_neg (by omega) (ev_now rfl))
 | cons p l ih =>
  intro i h
  obtain ⟨hi,hg,hd⟩ := drop_cons' (d := z106) h
  have hr : rd_T106 L i = p := by unfold rd_T106;rw [Int.toNat_natCast];exact hg
  refine Ev.step (fun k => bodkinref02_Within.l0.eq_2 ..) (ev_pos (by omega) (ev_pos (by omega) ?_))
  rw [hr,w64 (by omega) (by omega),List.any_cons]
  by_cases h1 : p.f0 ≤ c
  ·refine ev_pos h1 ?_
   by_cases h2 : c ≤ p.f1
   ·refine ev_pos h2 (ev_now ?_);rw [decide_eq_true h1,decide_eq_true h2];rfl
   ·refine ev_neg h2 ?_;rw [decide_eq_false h2,Bool.and_false,Bool.false_or];exact ih (i + 1) hd
  ·refine ev_neg h1 ?_;rw [decide_eq_false h1,Bool.false_and,Bool.false_or];exact ih (i + 1) hd
theorem pm_len : (pairsL marksL).length ≤ 1000000 := of_decide_eq_true (by kernel_rfl)
theorem pw_len : (pairsL widesL).length ≤ 1000000 := of_decide_eq_true (by kernel_rfl)
theorem ref_class_j1 (c : Int) (b : Bool) : Ev (fun k => bodkinref02_Class.j1 k c b) (if b = true then 2 else if c < 768 then 0 else if withinB marksL c = true then 3 else if withinB widesL c = true then 4 else 0) := by
 refine Ev.step (fun k => bodkinref02_Class.j1.eq_2 ..) (ev_val (fun hb => ev_pos hb (Ev.now _)) (fun hb => ev_neg hb (ev_val (fun h => ev_pos h (Ev.now _)) (fun h => ev_neg h ?_))))
 rw [pairs_any,pairs_any]
 refine Ev.bind (a := pairsL marksL) (Ev.of (fun k => bodkinref02_Table.mono _ k) (k := 1000) (by kernel_rfl)) (Ev.bind (ref_within _ pm_len c _ 0 rfl) (ev_val (fun h => ev_pos h (Ev.now _)) (fun h => ev_neg h ?_)))
 exact Ev.bind (a := pairsL widesL) (Ev.of (fun k => bodkinref02_Table.mono _ k) (k := 1000) (by kernel_rfl)) (Ev.bind (ref_within _ pw_len c _ 0 rfl) (ev_val (fun h => ev_pos h (Ev.now _)) (fun h => ev_neg h (Ev.now _))))
theorem cls_low (c : Int) (h : c < 768) : withinB marksL c = false ∧ withinB widesL c = false := by
 have hm : ∀ l : List Int,(∀ x ∈ l,768 ≤ x) → l.length % 2 = 0 → withinB l c = false := by
  intro l hl _
  unfold withinB
  rw [List.any_eq_false]
  intro k hk
  have hk := List.mem_range.1 hk
  have := hl _ (rd_at l (2 * k) (by omega))
  have e : ((2 * k : Nat) : Int) = 2 * (k : Int) := by omega
  rw [e] at this
  rw [decide_eq_false (by omega),Bool.false_and]
  simp
 exact ⟨hm marksL (of_decide_eq_true (by kernel_rfl)) (of_decide_eq_true (by kernel_rfl)),hm widesL (of_decide_eq_true (by kernel_rfl)) (of_decide_eq_true (by kernel_rfl))⟩
theorem ref_class_j1' (c : Int) (b : Bool) : Ev (fun k => bodkinref02_Class.j1 k c b) (if b = true then 2 else if withinB marksL c = true then 3 else if withinB widesL c = true then 4 else 0) := by
 have := ref_class_j1 c b
 by_cases hb : b = true
 ·rw [if_pos hb] at this ⊢;exact this
 ·rw [if_neg hb] at this ⊢
  by_cases h : c < 768
  ·rw [if_pos h] at this
   rw [(cls_low c h).1,(cls_low c h).2]
   exact this
  ·rwa [if_neg h] at this
theorem ref_class_j0 (c : Int) (b : Bool) (hc : b = true ∨ 0 ≤ c) : Ev (fun k => bodkinref02_Class.j0 k c b) (if b = true then 5 else if c = 10 then 1 else if c < 32 ∨ (127 ≤ c ∧ c ≤ 159) then 2 else if withinB marksL c = true then 3 else if withinB widesL c = true then 4 else 0) := by
 have hy : ∀ d : Bool,d = true → Ev (fun k => bodkinref02_Class.j1 k c d) 2 := fun d hd => by have := ref_class_j1' c d;rwa [if_pos hd] at this
 have hn : ∀ d : Bool,¬ d = true → Ev (fun k => bodkinref02_Class.j1 k c d) (if withinB marksL c = true then 3 else if withinB widesL c = true then 4 else 0) := fun d hd => by have := ref_class_j1' c d;rwa [if_neg hd] at this
 refine Ev.step (fun k => bodkinref02_Class.j0.eq_2 ..) (ev_val (fun hb => ev_pos hb (Ev.now _)) (fun hb => ev_neg hb (ev_val (fun h => ev_pos h (Ev.now _)) (fun h => ev_neg h (ev_val (fun h2 => ?_) (fun h2 => ?_))))))
 ·by_cases h3 : c ≤ 31
  ·exact ev_pos h3 (hy _ rfl)
  ·exact ev_neg h3 (ev_pos (by omega) (hy _ (by rw [decide_eq_true_eq];omega)))
 ·refine ev_neg (by omega) ?_
  by_cases h3 : c ≥ 127
  ·exact ev_pos h3 (hn _ (by rw [decide_eq_true_eq];omega))
  ·exact ev_neg h3 (hn _ (by simp))
theorem ref_class_ans (c : Int) : Ev (fun k => bodkinref02_Class.f k c) (cls c) := by
 have hy : ∀ d : Bool,d = true → Ev (fun k => bodkinref02_Class.j0 k c d) 5 := fun d hd => by have := ref_class_j0 c d (.inl hd);rwa [if_pos hd] at this
 have hn : 0 ≤ c → ∀ d : Bool,¬ d = true → Ev (fun k => bodkinref02_Class.j0 k c d) (if c = 10 then 1 else if c < 32 ∨ (127 ≤ c ∧ c ≤ 159) then 2 else if withinB marksL c = true then 3 else if withinB widesL c = true then 4 else 0) := fun h d hd => by have := ref_class_j0 c d (.inr h);rwa [if_neg hd] at this
 unfold bodkinref02_Class.f cls
 refine ev_val (fun h => ?_) (fun h => ?_)
 ·by_cases h1 : c < 0
  ·exact ev_pos h1 (hy _ rfl)
  ·refine ev_neg h1 ?_
   by_cases h2 : c > 1114111
   ·exact ev_pos h2 (hy _ rfl)
   ·exact ev_neg h2 (ev_pos (by omega) (hy _ (by rw [decide_eq_true_eq];omega)))
 ·refine ev_neg (by omega) (ev_neg (by omega) ?_)
  by_cases h3 : c ≥ 55296
  ·exact ev_pos h3 (hn (by omega) _ (by rw [decide_eq_true_eq];omega))
  ·exact ev_neg h3 (hn (by omega) _ (by simp))
end Go.Proofs.YtfhnfhgpaoddbaaDoor.Pu
end
section
namespace Go.Proofs.YtfhnfhgpaoddbaaDoor.U
open Go.RowKit Go.Proofs.YtfhnfhgpaoddbaaDoorW.PrintWords Go.Proofs.YtfhnfhgpaoddbaaDoorW.PrintLast Go.Proofs.YtfhnfhgpaoddbaaDoorW.PrintMore
attribute [local go_sem] max2_int min2_int max_two min_two max_three min_three max_four min_four   -- for this text's walks alone
set_option linter.unusedVariables false
set_option linter.unusedSimpArgs false
def bodkinref01_Units.l0 : Nat → ByteArray → List (S30) → Int → Option ((List (S30)))
 | 0,_,_,_ => none
 | k + 1,x0,x3,x4 => if x4 < (x0.size : Int) then (if 0 ≤ x4 then (if x4 ≤ (x0.size : Int) then ((bodkinref01_begins.f k (x0.extract (x4 : Int).toNat x0.size)).bind fun t126 => (if t126 ≥ 0 then ((bodkinref01_size.f t126).bind fun t128 => (if x3.length < 8796093022208 then (bodkinref01_Units.l0 k x0 (x3 ++ [(⟨t126,t128⟩ : S30)]) (wrap64 (x4 + t128))) else (none))) else (if x3.length < 8796093022208 then (bodkinref01_Units.l0 k x0 (x3 ++ [(⟨t126,1⟩ : S30)]) (wrap64 (x4 + 1))) else (none)))) else (none)) else (none)) else (some x3)
def bodkinref01_Units.f (k : Nat) (a0 : ByteArray) : Option ((List (S30))) := bodkinref01_Units.l0 k a0 ([] : List (S30)) 0
set_option maxHeartbeats 8000000 in
set_option maxRecDepth 100000 in
theorem bodkinref01_Units.calls (k : Nat) (a0 : ByteArray) (r : List (S30)) (w : World) (h : bodkinref01_Units.f k a0 = some r) :
  Calls Tryd.prog 28 #[.string a0] w fun e w' => ∃ v0_ : Value,e = .returned (v0_) ∧ Kd.R k30 30 w' w.heap.size (fun _ => True) v0_ r ∧ Below w.heap.size w w' := by
 have hu30 := Tryd.underlying30
 have HB := Aside0.mk (Below.refl w.heap.size w)
 have H : (bodkinref01_Units.l0 k a0 ([] : List (S30)) 0) = some r := h
 clear h
 have H' := Aside0.mk H
 clear H
 go_enter Tryd.func28,Tryd.ntmps28
 go_wp2
 go_loopg [3,4] k (fun kq v3 v4 w' => ∃ (x3_1 : List (S30)) (x4_1 : Int),v4 = .int .i64 x4_1 ∧ Aside0 (bodkinref01_Units.l0 kq a0 x3_1 x4_1 = some r) ∧ Aside0 (kq ≤ k) ∧ Aside0 (Kd.R k30 30 w' w.heap.size (fun _ => True) v3 x3_1) ∧ Aside0 (Below w.heap.size w w'))
 case atStart => exact ⟨(([] : List (S30))),(0),(by first | rfl | (simp;done) | (simp [*];done)),H',⟨Nat.le_refl _⟩,⟨by first | exact Kd.R_nil _ _ _ _ _ | exact Kd.N_nil _ _ _ _ _ | exact Kd.V_nil _ _ _ _ _ | exact Kd.Q_nil _ _ _ _ _ | exact Kd.S_nil _ _ _ _ _⟩,⟨by repeat (first | (with_reducible first | exact HB.out | apply below_alloc | apply pw_below_drewN | apply below_drew1) | exact HB.out)⟩⟩
 case round =>
  clear H'
  obtain ⟨x3_1,x4_1,rfl,HA,HK1,HO_3,HB⟩ := hrel
  cases gk with
  | zero => exact absurd HA.out (by simp [bodkinref01_Units.l0])
  | succ k1 =>
   have H := HA.out
   clear HA
   simp only [bodkinref01_Units.l0] at H
   by_cases c2 : x4_1 < (a0.size : Int)
   ·rw [if_pos c2] at H
    have c2b0 : decide (x4_1 < (a0.size : Int)) = true := decide_eq_true c2
    clear c2
    by_cases c3 : 0 ≤ x4_1
    ·rw [if_pos c3] at H
     have c3b0 := eq_true c3
     have c3b1 : decide (0 ≤ x4_1) = true := decide_eq_true c3
     clear c3
     by_cases c4 : x4_1 ≤ (a0.size : Int)
     ·rw [if_pos c4] at H
      have c4b0 := eq_true c4
      have c4b1 : decide (x4_1 ≤ (a0.size : Int)) = true := decide_eq_true c4
      clear c4
      replace H := Option.bind_eq_some_iff.mp H
      obtain ⟨t126,A50,H⟩ := H
      replace H : (if t126 ≥ 0 then ((bodkinref01_size.f t126).bind fun t128 => (if x3_1.length < 8796093022208 then (bodkinref01_Units.l0 k1 a0 (x3_1 ++ [(⟨t126,t128⟩ : S30)]) (wrap64 (x4_1 + t128))) else (none))) else (if x3_1.length < 8796093022208 then (bodkinref01_Units.l0 k1 a0 (x3_1 ++ [(⟨t126,1⟩ : S30)]) (wrap64 (x4_1 + 1))) else (none))) = some r := H
      have A5 := Aside0.mk A50
      clear A50
      by_cases c6 : t126 ≥ 0
      ·rw [if_pos c6] at H
       have c6b0 : decide (0 ≤ t126) = true := decide_eq_true c6
       clear c6
       replace H := Option.bind_eq_some_iff.mp H
       obtain ⟨t128,A70,H⟩ := H
       replace H : (if x3_1.length < 8796093022208 then (bodkinref01_Units.l0 k1 a0 (x3_1 ++ [(⟨t126,t128⟩ : S30)]) (wrap64 (x4_1 + t128))) else (none)) = some r := H
       have A7 := Aside0.mk A70
       clear A70
       by_cases c8 : x3_1.length < 8796093022208
       ·rw [if_pos c8] at H
        have LMc8 := Aside0.mk c8
        clear c8
        obtain ⟨y129,hy129⟩ : ∃ y_ : List (S30),y_ = (x3_1 ++ [(⟨t126,t128⟩ : S30)]) := ⟨_,rfl⟩
        replace H : (bodkinref01_Units.l0 k1 a0 y129 (wrap64 (x4_1 + t128))) = some r := by first | (rw [hy129];with_reducible exact H) | (have H2_ := (Option.bind_some _ _).symm.trans H;rw [hy129];with_reducible exact H2_) | (have H2_ := (Option.bind_some _ _).symm.trans H;with_reducible exact H2_) | with_reducible exact H | (rw [hy129];exact H) | exact H
        have Ny129 := Aside0.mk hy129
        clear hy129
        have H' := Aside0.mk H
        clear H
        go_wp2_with (first | ((with_reducible refine gate_callee (f := 62) rfl ?_);refine goesL_ (some 13) rfl rfl Tryd.func62 (by kernel_rfl) rfl #[.string (a0.extract (x4_1 : Int).toNat a0.size)] rfl (by (try simp only [List.map_toArray,List.map_cons,List.map_nil]);first | done | rfl | (simp only [List.length_drop,List.length_take];rfl)) ?_;(with_reducible refine (bodkinref01_begins.calls k1 (a0.extract (x4_1 : Int).toNat a0.size) t126 _ A5.out).mono ?_);rintro e w9 ⟨rfl,hb⟩;refine ⟨_,rfl,?_⟩;have n0_ := Aside0.mk (Kd.R_below (by (with_reducible repeat (first | apply Kd.R_alloc | apply Kd.R_drewN | apply Kd.R_drew));exact HO_3.out) hb);have n1_ := Aside0.mk (below_step (by repeat (first | (with_reducible first | exact HB.out | apply below_alloc | apply pw_below_drewN | apply below_drew1) | exact HB.out)) hb);clear HO_3;clear HB;have HO_3 := n0_;have HB := n1_;clear n0_ n1_;(try clear hb);(try clear hb2);(try clear hk);(try clear hi)) | ((with_reducible refine gate_dst (N := 5) rfl ?_);refine box_event ?hg (N := 5) ?hd (cs := #[.int .i32 0,.int .i64 0]) (t := 30) ?hr ?_;(case hd => rfl);(case hg => rfl);(case hr => first | (go_simp;done) | (go_simp;rfl));intro gb127 hg w10 hbox hb;have n0_ := Aside0.mk (Kd.R_below (Kd.R_elderB (by (with_reducible repeat (first | apply Kd.R_alloc | apply Kd.R_drewN | apply Kd.R_drew));exact HO_3.out) gb127 (Nat.le_of_eq hg.symm)) hb);have n1_ := Aside0.mk (below_step (by repeat (first | (with_reducible first | exact HB.out | apply below_alloc | apply pw_below_drewN | apply below_drew1) | exact HB.out)) hb);have n2_ := Aside0.mk (hbox);have n3_ := Aside0.mk ((by rw [hg];exact (below_size (by repeat (first | (with_reducible first | exact HB.out | apply below_alloc | apply pw_below_drewN | apply below_drew1) | exact HB.out))) : w.heap.size ≤ gb127));have n4_ := Aside0.mk ((by rw [hg];exact (below_size (by repeat (first | (with_reducible first | exact HB.out | apply below_alloc | apply pw_below_drewN | apply below_drew1) | exact HB.out))) : w.heap.size ≤ gb127));clear HO_3;clear HB;have HO_3 := n0_;have HB := n1_;have BK127 := n2_;have GW127 := n3_;have GE127 := n4_;clear n0_ n1_ n2_ n3_ n4_;clear hb hbox hg;have hcz11_0 : w10.cell? ⟨gb127,0,none⟩ = some (.int .i32 0) := (blk_cell BK127.out 0).trans rfl;have hcz11_1 : w10.cell? ⟨gb127,1,none⟩ = some (.int .i64 0) := (blk_cell BK127.out 1).trans rfl;have hfz11_0 := blk_frozen BK127.out 0;have hfz11_1 := blk_frozen BK127.out 1) | ((with_reducible refine gate_callee (f := 63) rfl ?_);refine goesL_ (some 20) rfl rfl Tryd.func63 (by kernel_rfl) rfl #[.int .i32 t126] rfl (by (try simp only [List.map_toArray,List.map_cons,List.map_nil]);first | done | rfl | (simp only [List.length_drop,List.length_take];rfl)) ?_;(with_reducible refine (bodkinref01_size.calls t126 t128 _ A7.out).mono ?_);rintro e w12 ⟨rfl,hb⟩;refine ⟨_,rfl,?_⟩;have n0_ := Aside0.mk (Kd.R_below (by (with_reducible repeat (first | apply Kd.R_alloc | apply Kd.R_drewN | apply Kd.R_drew));exact (Kd.R_mono (Kd.R_far (p := ⟨gb127,1,none⟩) (Kd.R_far (p := ⟨gb127,0,none⟩) (Kd.R_mono HO_3.out (fun k_ hk => (⟨hk,hk.2⟩ : _ ∧ k_ ≠ gb127))) (fun _ hk => hk.2) (.int .i32 t126)) (fun _ hk => hk.2) (.int .i64 1)) (fun _ h_ => h_.1))) hb);have n1_ := Aside0.mk (blk_below (g := gb127) (o := .cells #[.int .i32 t126,.int .i64 1] 30 (0,0)) (by (with_reducible repeat (first | refine blk_drewN ?_ _ | refine blk_drew ?_ | refine blk_alloc ?_ _));refine blk_put (cs := #[.int .i32 t126,.int .i64 0]) ?_ 1 _ rfl;(with_reducible repeat (first | refine blk_drewN ?_ _ | refine blk_drew ?_ | refine blk_alloc ?_ _));refine blk_put (cs := #[.int .i32 0,.int .i64 0]) ?_ 0 _ rfl;(with_reducible repeat (first | refine blk_drewN ?_ _ | refine blk_drew ?_ | refine blk_alloc ?_ _));exact BK127.out) hb);have n2_ := Aside0.mk (below_step (by repeat (first | (with_reducible first | exact HB.out | apply below_alloc | apply pw_below_drewN | apply below_drew1 | refine below_set ?_ GE127.out) | exact HB.out)) hb);clear HO_3;clear BK127;clear HB;have HO_3 := n0_;have BK127 := n1_;have HB := n2_;clear n0_ n1_ n2_;(try clear hb);(try clear hb2);(try clear hk);(try clear hi);have hcz13_0 : w12.cell? ⟨gb127,0,none⟩ = some (.int .i32 t126) := (blk_cell BK127.out 0).trans rfl;have hcz13_1 : w12.cell? ⟨gb127,1,none⟩ = some (.int .i64 1) := (blk_cell BK127.out 1).trans rfl;have hfz13_0 := blk_frozen BK127.out 0;have hfz13_1 := blk_frozen BK127.out 1) | ((with_reducible refine gate_builtin (b := .append) (xs := #[.tmp 22,.tmp 24]) rfl ?_);at_builtin;refine Kd.R_append k30 (w0 := w) w.heap.size rfl (.tmp 22) (.tmp 24) 27 30 (.agg #[(.int .i32 0),(.int .i64 0)]) 16 rfl Tryd.underlying27 info30 rfl (by decide) (by omega) u3 x3_1 (⟨t126,t128⟩ : S30) [.int .i32 t126,.int .i64 t128] (fun k_ => k_ ≠ gb127) (fun _ => False) rfl (by first | (go_simp;done) | (go_simp;rfl)) ?aP (fun _ hk => hk.elim) ?aF ?aO ?aB ?aS ?aL ?_;(case aP => exact k30_mkM _ _ _ (⟨t126,t128⟩ : S30));(case aB => exact (by repeat (first | (with_reducible first | exact HB.out | apply below_alloc | apply pw_below_drewN | apply below_drew1 | refine below_set ?_ GE127.out) | exact HB.out)));(case aF => exact (fun k_ hk => Kd.freshB (g := gb127) (o := .cells #[.int .i32 t126,.int .i64 t128] 30 (0,0)) (by (with_reducible repeat (first | refine blk_drewN ?_ _ | refine blk_drew ?_ | refine blk_alloc ?_ _));refine blk_put (cs := #[.int .i32 t126,.int .i64 1]) ?_ 1 _ rfl;(with_reducible repeat (first | refine blk_drewN ?_ _ | refine blk_drew ?_ | refine blk_alloc ?_ _));exact BK127.out) k_ hk));(case aO => exact (by (with_reducible repeat (first | apply Kd.R_alloc | apply Kd.R_drewN | apply Kd.R_drew));exact Kd.R_mono (Kd.R_far (p := ⟨gb127,1,none⟩) (Kd.R_mono HO_3.out (fun k_ hk => (⟨hk,hk.2⟩ : _ ∧ k_ ≠ gb127))) (fun _ hk => hk.2) (.int .i64 t128)) (fun _ hk => hk.1.2)));(case aS => exact (below_size (by repeat (first | (with_reducible first | exact HB.out | apply below_alloc | apply pw_below_drewN | apply below_drew1 | refine below_set ?_ GE127.out) | exact HB.out))));(case aL => have := LMc8.out;omega);intro v130 w14 ho hb hg hat;rw [← Ny129.out] at ho;have n0_ := Aside0.mk (blk_grown (g := gb127) (o := .cells #[.int .i32 t126,.int .i64 t128] 30 (0,0)) (by (with_reducible repeat (first | refine blk_drewN ?_ _ | refine blk_drew ?_ | refine blk_alloc ?_ _));refine blk_put (cs := #[.int .i32 t126,.int .i64 1]) ?_ 1 _ rfl;(with_reducible repeat (first | refine blk_drewN ?_ _ | refine blk_drew ?_ | refine blk_alloc ?_ _));exact BK127.out) hg (Kd.R_away HO_3.out (fun _ hk => hk.2)));have n1_ := Aside0.mk (hb);have n2_ := Aside0.mk (ho);clear BK127;clear HB;clear HO_3;have BK127 := n0_;have HB := n1_;have HO131 := n2_;clear n0_ n1_ n2_;clear ho hb hg hat;have hcz15_0 : w14.cell? ⟨gb127,0,none⟩ = some (.int .i32 t126) := (blk_cell BK127.out 0).trans rfl;have hcz15_1 : w14.cell? ⟨gb127,1,none⟩ = some (.int .i64 t128) := (blk_cell BK127.out 1).trans rfl;have hfz15_0 := blk_frozen BK127.out 0;have hfz15_1 := blk_frozen BK127.out 1))
        go_roundg k1
        case measure => have := HK1.out;omega
        case rel => exact ⟨(y129),(wrap64 (x4_1 + t128)),(by first | rfl | (simp;done) | (simp [*];done)),H',⟨by have := HK1.out;omega⟩,⟨by (with_reducible repeat (first | apply Kd.R_alloc | apply Kd.R_drewN | apply Kd.R_drew));exact Kd.R_mono HO131.out (fun _ hk => trivial)⟩,⟨by repeat (first | (with_reducible first | exact HB.out | apply below_alloc | apply pw_below_drewN | apply below_drew1 | refine below_set ?_ GE127.out) | exact HB.out)⟩⟩
       ·rw [if_neg c8] at H
        exact absurd H (by simp)
      ·rw [if_neg c6] at H
       have c6b0 : decide (0 ≤ t126) = false := decide_eq_false c6
       clear c6
       by_cases c16 : x3_1.length < 8796093022208
       ·rw [if_pos c16] at H
        have LMc16 := Aside0.mk c16
        clear c16
        obtain ⟨y132,hy132⟩ : ∃ y_ : List (S30),y_ = (x3_1 ++ [(⟨t126,1⟩ : S30)]) := ⟨_,rfl⟩
        replace H : (bodkinref01_Units.l0 k1 a0 y132 (wrap64 (x4_1 + 1))) = some r := by first | (rw [hy132];with_reducible exact H) | (have H2_ := (Option.bind_some _ _).symm.trans H;rw [hy132];with_reducible exact H2_) | (have H2_ := (Option.bind_some _ _).symm.trans H;with_reducible exact H2_) | with_reducible exact H | (rw [hy132];exact H) | exact H
        have Ny132 := Aside0.mk hy132
        clear hy132
        have H' := Aside0.mk H
        clear H
        go_wp2_with (first | ((with_reducible refine gate_callee (f := 62) rfl ?_);refine goesL_ (some 13) rfl rfl Tryd.func62 (by kernel_rfl) rfl #[.string (a0.extract (x4_1 : Int).toNat a0.size)] rfl (by (try simp only [List.map_toArray,List.map_cons,List.map_nil]);first | done | rfl | (simp only [List.length_drop,List.length_take];rfl)) ?_;(with_reducible refine (bodkinref01_begins.calls k1 (a0.extract (x4_1 : Int).toNat a0.size) t126 _ A5.out).mono ?_);rintro e w17 ⟨rfl,hb⟩;refine ⟨_,rfl,?_⟩;have n0_ := Aside0.mk (Kd.R_below (by (with_reducible repeat (first | apply Kd.R_alloc | apply Kd.R_drewN | apply Kd.R_drew));exact HO_3.out) hb);have n1_ := Aside0.mk (below_step (by repeat (first | (with_reducible first | exact HB.out | apply below_alloc | apply pw_below_drewN | apply below_drew1) | exact HB.out)) hb);clear HO_3;clear HB;have HO_3 := n0_;have HB := n1_;clear n0_ n1_;(try clear hb);(try clear hb2);(try clear hk);(try clear hi)) | ((with_reducible refine gate_dst (N := 5) rfl ?_);refine box_event ?hg (N := 5) ?hd (cs := #[.int .i32 0,.int .i64 0]) (t := 30) ?hr ?_;(case hd => rfl);(case hg => rfl);(case hr => first | (go_simp;done) | (go_simp;rfl));intro gb127 hg w18 hbox hb;have n0_ := Aside0.mk (Kd.R_below (Kd.R_elderB (by (with_reducible repeat (first | apply Kd.R_alloc | apply Kd.R_drewN | apply Kd.R_drew));exact HO_3.out) gb127 (Nat.le_of_eq hg.symm)) hb);have n1_ := Aside0.mk (below_step (by repeat (first | (with_reducible first | exact HB.out | apply below_alloc | apply pw_below_drewN | apply below_drew1) | exact HB.out)) hb);have n2_ := Aside0.mk (hbox);have n3_ := Aside0.mk ((by rw [hg];exact (below_size (by repeat (first | (with_reducible first | exact HB.out | apply below_alloc | apply pw_below_drewN | apply below_drew1) | exact HB.out))) : w.heap.size ≤ gb127));have n4_ := Aside0.mk ((by rw [hg];exact (below_size (by repeat (first | (with_reducible first | exact HB.out | apply below_alloc | apply pw_below_drewN | apply below_drew1) | exact HB.out))) : w.heap.size ≤ gb127));clear HO_3;clear HB;have HO_3 := n0_;have HB := n1_;have BK127 := n2_;have GW127 := n3_;have GE127 := n4_;clear n0_ n1_ n2_ n3_ n4_;clear hb hbox hg;have hcz19_0 : w18.cell? ⟨gb127,0,none⟩ = some (.int .i32 0) := (blk_cell BK127.out 0).trans rfl;have hcz19_1 : w18.cell? ⟨gb127,1,none⟩ = some (.int .i64 0) := (blk_cell BK127.out 1).trans rfl;have hfz19_0 := blk_frozen BK127.out 0;have hfz19_1 := blk_frozen BK127.out 1) | ((with_reducible refine gate_builtin (b := .append) (xs := #[.tmp 22,.tmp 24]) rfl ?_);at_builtin;refine Kd.R_append k30 (w0 := w) w.heap.size rfl (.tmp 22) (.tmp 24) 27 30 (.agg #[(.int .i32 0),(.int .i64 0)]) 16 rfl Tryd.underlying27 info30 rfl (by decide) (by omega) u3 x3_1 (⟨t126,1⟩ : S30) [.int .i32 t126,.int .i64 1] (fun k_ => k_ ≠ gb127) (fun _ => False) rfl (by first | (go_simp;done) | (go_simp;rfl)) ?aP (fun _ hk => hk.elim) ?aF ?aO ?aB ?aS ?aL ?_;(case aP => exact k30_mkM _ _ _ (⟨t126,1⟩ : S30));(case aB => exact (by repeat (first | (with_reducible first | exact HB.out | apply below_alloc | apply pw_below_drewN | apply below_drew1 | refine below_set ?_ GE127.out) | exact HB.out)));(case aF => exact (fun k_ hk => Kd.freshB (g := gb127) (o := .cells #[.int .i32 t126,.int .i64 1] 30 (0,0)) (by (with_reducible repeat (first | refine blk_drewN ?_ _ | refine blk_drew ?_ | refine blk_alloc ?_ _));refine blk_put (cs := #[.int .i32 t126,.int .i64 0]) ?_ 1 _ rfl;(with_reducible repeat (first | refine blk_drewN ?_ _ | refine blk_drew ?_ | refine blk_alloc ?_ _));refine blk_put (cs := #[.int .i32 0,.int .i64 0]) ?_ 0 _ rfl;(with_reducible repeat (first | refine blk_drewN ?_ _ | refine blk_drew ?_ | refine blk_alloc ?_ _));exact BK127.out) k_ hk));(case aO => exact (by (with_reducible repeat (first | apply Kd.R_alloc | apply Kd.R_drewN | apply Kd.R_drew));exact Kd.R_mono (Kd.R_far (p := ⟨gb127,1,none⟩) (Kd.R_far (p := ⟨gb127,0,none⟩) (Kd.R_mono HO_3.out (fun k_ hk => (⟨hk,hk.2⟩ : _ ∧ k_ ≠ gb127))) (fun _ hk => hk.2) (.int .i32 t126)) (fun _ hk => hk.2) (.int .i64 1)) (fun _ hk => hk.1.2)));(case aS => exact (below_size (by repeat (first | (with_reducible first | exact HB.out | apply below_alloc | apply pw_below_drewN | apply below_drew1 | refine below_set ?_ GE127.out) | exact HB.out))));(case aL => have := LMc16.out;omega);intro v133 w20 ho hb hg hat;rw [← Ny132.out] at ho;have n0_ := Aside0.mk (blk_grown (g := gb127) (o := .cells #[.int .i32 t126,.int .i64 1] 30 (0,0)) (by (with_reducible repeat (first | refine blk_drewN ?_ _ | refine blk_drew ?_ | refine blk_alloc ?_ _));refine blk_put (cs := #[.int .i32 t126,.int .i64 0]) ?_ 1 _ rfl;(with_reducible repeat (first | refine blk_drewN ?_ _ | refine blk_drew ?_ | refine blk_alloc ?_ _));refine blk_put (cs := #[.int .i32 0,.int .i64 0]) ?_ 0 _ rfl;(with_reducible repeat (first | refine blk_drewN ?_ _ | refine blk_drew ?_ | refine blk_alloc ?_ _));exact BK127.out) hg (Kd.R_away HO_3.out (fun _ hk => hk.2)));have n1_ := Aside0.mk (hb);have n2_ := Aside0.mk (ho);clear BK127;clear HB;clear HO_3;have BK127 := n0_;have HB := n1_;have HO134 := n2_;clear n0_ n1_ n2_;clear ho hb hg hat;have hcz21_0 : w20.cell? ⟨gb127,0,none⟩ = some (.int .i32 t126) := (blk_cell BK127.out 0).trans rfl;have hcz21_1 : w20.cell? ⟨gb127,1,none⟩ = some (.int .i64 1) := (blk_cell BK127.out 1).trans rfl;have hfz21_0 := blk_frozen BK127.out 0;have hfz21_1 := blk_frozen BK127.out 1))
        go_roundg k1
        case measure => have := HK1.out;omega
        case rel => exact ⟨(y132),(wrap64 (x4_1 + 1)),(by first | rfl | (simp;done) | (simp [*];done)),H',⟨by have := HK1.out;omega⟩,⟨by (with_reducible repeat (first | apply Kd.R_alloc | apply Kd.R_drewN | apply Kd.R_drew));exact Kd.R_mono HO134.out (fun _ hk => trivial)⟩,⟨by repeat (first | (with_reducible first | exact HB.out | apply below_alloc | apply pw_below_drewN | apply below_drew1 | refine below_set ?_ GE127.out) | exact HB.out)⟩⟩
       ·rw [if_neg c16] at H
        exact absurd H (by simp)
     ·rw [if_neg c4] at H
      exact absurd H (by simp)
    ·rw [if_neg c3] at H
     exact absurd H (by simp)
   ·rw [if_neg c2] at H
    have c2b0 : decide (x4_1 < (a0.size : Int)) = false := decide_eq_false c2
    clear c2
    obtain rfl := Option.some.inj H
    go_wp2
    go_ret
    exact ⟨_,by first | rfl | (simp [errW_none,errW_some] <;> rfl) | (simp [*,errW_none,errW_some] <;> rfl),by (with_reducible repeat (first | apply Kd.R_alloc | apply Kd.R_drewN | apply Kd.R_drew));exact HO_3.out,by repeat (first | (with_reducible first | exact HB.out | apply below_alloc | apply pw_below_drewN | apply below_drew1) | exact HB.out)⟩
end Go.Proofs.YtfhnfhgpaoddbaaDoor.U
end
section
namespace Go.Proofs.YtfhnfhgpaoddbaaDoor.Pu
open Go Go.RowKit Go.Proofs.YtfhnfhgpaoddbaaDoor.Mu Go.Proofs.YtfhnfhgpaoddbaaDoor.U Go.Proofs.YtfhnfhgpaoddbaaDoorW.PrintWords Go.Proofs.YtfhnfhgpaoddbaaDoorW.PrintLast Go.Proofs.YtfhnfhgpaoddbaaDoorW.PrintMore
theorem prev_ev {s : ByteArray} (hs : s.size ≤ 1099511627776) {a d : Int} (ha : a ≤ 9223372036854775807) (h : PrevS s a d) : Ev (fun k => unit_Prev.f k s a) d := by
 obtain ⟨d',hE,h'⟩ := prev_ans s hs a ha;exact h.one h' ▸ hE
/-- A boundary lies at or before a unit,or behind it. -/
theorem apart {s : ByteArray} {x : Nat} {e : Int} (he : BdI s e) : e ≤ x ∨ (x : Int) + uN s x ≤ e := by
 have := bdI_le he
 by_cases h : (x : Int) < e
 ·have := he.2.2 x (by omega);omega
 ·omega
theorem prevS_in {s : ByteArray} {x : Nat} (hb : Bd s x) {k : Int} (h : x < k) (h2 : k ≤ x + uN s x) : PrevS s k x :=
 ⟨by rw [bdI_nat];exact hb,.inl h,fun e he hk => by have := apart (x := x) he;omega⟩
end Go.Proofs.YtfhnfhgpaoddbaaDoor.Pu
end
section
namespace Go.Proofs.YtfhnfhgpaoddbaaDoor.Pu
open Go Go.RowKit Go.Proofs.YtfhnfhgpaoddbaaDoor.Mu
theorem uC_extract (s : ByteArray) (i : Nat) (h : i < s.size) : uC (s.extract i s.size) 0 = uC s i := by
 have hsz : (s.extract i s.size).size = s.size - i := size_extract _ _ _ (Nat.le_refl _)
 have hx : ∀ x : ByteArray,x.extract 0 x.size = x := fun x => by simp
 have h1 := decodeGo_extract (s.extract i s.size) 0 (by omega)
 rw [hx] at h1
 have e : Utf8.decode (s.extract i s.size) 0 = Utf8.decode s i := h1.symm.trans (decodeGo_extract s i h)
 unfold uC;rw [e]
theorem uC_of (s : ByteArray) (i c n : Nat) (h : Utf8.decode s i = (c,n)) (hg : c = 65533 → n ≠ 1) : uC s i = c ∧ uN s i = n := by
 unfold uC uN;rw [h]
 exact ⟨if_neg (fun h => hg h.1 h.2),rfl⟩
/-- What a unit can be. -/
theorem uC_cases (s : ByteArray) (i : Nat) :
  (byt s i < 128 ∧ uC s i = byt s i ∧ uN s i = 1) ∨ (128 ≤ byt s i ∧ uC s i = -1 ∧ uN s i = 1) ∨
  (192 ≤ byt s i ∧ byt s i < 224 ∧ 1 < s.size - i ∧ byt s (i + 1) / 64 = 2 ∧ 128 ≤ byt s i % 32 * 64 + byt s (i + 1) % 64 ∧ uC s i = (byt s i % 32 * 64 + byt s (i + 1) % 64 : Nat) ∧ uN s i = 2) ∨
  (224 ≤ byt s i ∧ byt s i < 240 ∧ 2 < s.size - i ∧ byt s (i + 1) / 64 = 2 ∧ byt s (i + 2) / 64 = 2 ∧ 2048 ≤ byt s i % 16 * 4096 + byt s (i + 1) % 64 * 64 + byt s (i + 2) % 64 ∧
   (byt s i % 16 * 4096 + byt s (i + 1) % 64 * 64 + byt s (i + 2) % 64 < 55296 ∨ 57344 ≤ byt s i % 16 * 4096 + byt s (i + 1) % 64 * 64 + byt s (i + 2) % 64) ∧
   uC s i = (byt s i % 16 * 4096 + byt s (i + 1) % 64 * 64 + byt s (i + 2) % 64 : Nat) ∧ uN s i = 3) ∨
  (240 ≤ byt s i ∧ byt s i < 248 ∧ 3 < s.size - i ∧ byt s (i + 1) / 64 = 2 ∧ byt s (i + 2) / 64 = 2 ∧ byt s (i + 3) / 64 = 2 ∧ 65536 ≤ byt s i % 8 * 262144 + byt s (i + 1) % 64 * 4096 + byt s (i + 2) % 64 * 64 + byt s (i + 3) % 64 ∧
   byt s i % 8 * 262144 + byt s (i + 1) % 64 * 4096 + byt s (i + 2) % 64 * 64 + byt s (i + 3) % 64 ≤ 1114111 ∧ uC s i = (byt s i % 8 * 262144 + byt s (i + 1) % 64 * 4096 + byt s (i + 2) % 64 * 64 + byt s (i + 3) % 64 : Nat) ∧ uN s i = 4) := by
 have hd := dec_eq s i
 rcases dec_cases (s.size - i) (byt s i) (byt s (i + 1)) (byt s (i + 2)) (byt s (i + 3)) (byt_lt s i) with h | h | h | h | h
 ·have := uC_of s i _ _ (hd.trans h.2) (by omega)
  exact .inl ⟨h.1,this⟩
 ·refine .inr (.inl ⟨h.1,?_,?_⟩)
  ·unfold uC;rw [hd,h.2];simp
  ·unfold uN;rw [hd,h.2]
 ·obtain ⟨h0,h1,h2,h3,h4,e⟩ := h
  have := uC_of s i _ _ (hd.trans e) (by omega)
  exact .inr (.inr (.inl ⟨h0,h1,h2,h3,h4,this⟩))
 ·obtain ⟨h0,h1,h2,h3,h4,h5,h6,e⟩ := h
  have := uC_of s i _ _ (hd.trans e) (by omega)
  exact .inr (.inr (.inr (.inl ⟨h0,h1,h2,h3,h4,h5,h6,this⟩)))
 ·obtain ⟨h0,h1,h2,h3,h4,h5,h6,h7,e⟩ := h
  have := uC_of s i _ _ (hd.trans e) (by omega)
  exact .inr (.inr (.inr (.inr ⟨h0,h1,h2,h3,h4,h5,h6,h7,this⟩)))
theorem uC_range (s : ByteArray) (i : Nat) : uC s i = -1 ∧ uN s i = 1 ∨ 0 ≤ uC s i ∧ uC s i ≤ 1114111 := by
 have := byt_lt s i
 rcases uC_cases s i with h | h | h | h | h <;> omega
end Go.Proofs.YtfhnfhgpaoddbaaDoor.Pu
end
section
namespace Go.Proofs.YtfhnfhgpaoddbaaDoor.Pu
open Go Go.RowKit Go.Proofs.YtfhnfhgpaoddbaaDoor.Mu Go.Proofs.YtfhnfhgpaoddbaaDoor.U Go.Proofs.YtfhnfhgpaoddbaaDoorW.PrintWords Go.Proofs.YtfhnfhgpaoddbaaDoorW.PrintLast Go.Proofs.YtfhnfhgpaoddbaaDoorW.PrintMore
theorem walk_fuel (s : ByteArray) : ∀ f g x : Nat,s.size - x ≤ f → s.size - x ≤ g → walkL s f x = walkL s g x
 | 0,0,_,_,_ => rfl
 | 0,g + 1,x,h,_ => by rw [walkL,walkL,if_neg (by omega)]
 | f + 1,0,x,_,h => by rw [walkL,walkL,if_neg (by omega)]
 | f + 1,g + 1,x,h,h' => by
  have := uN_pos s x
  rw [walkL,walkL]
  split
  ·rw [walk_fuel s f g (x + uN s x) (by omega) (by omega)]
  ·rfl
/-- The units from x on. -/
def tl (s : ByteArray) (x : Nat) : List S30 := (walkL s s.size x).map (·.2)
theorem unitsL_tl (s : ByteArray) : unitsL s = tl s 0 := rfl
theorem tl_end (s : ByteArray) (x : Nat) (h : s.size ≤ x) : tl s x = [] := by
 unfold tl;rw [walk_fuel s s.size 0 x (by omega) (by omega)];rfl
theorem tl_go (s : ByteArray) (x : Nat) (h : x < s.size) : tl s x = uAt s x :: tl s (x + uN s x) := by
 have := uN_pos s x
 unfold tl
 obtain ⟨n,hn⟩ : ∃ n,s.size = n + 1 := ⟨s.size - 1,by omega⟩
 rw [walk_fuel s s.size (n + 1) x (by omega) (by omega),walkL,if_pos h,walk_fuel s n s.size (x + uN s x) (by omega) (by omega)]
 rfl
section
variable (a b : ByteArray)
end
end Go.Proofs.YtfhnfhgpaoddbaaDoor.Pu
end
section
namespace Go.Proofs.YtfhnfhgpaoddbaaDoor.Pu
open Go Go.RowKit Go.Proofs.YtfhnfhgpaoddbaaDoor.Mu Go.Proofs.YtfhnfhgpaoddbaaDoor.U Go.Proofs.YtfhnfhgpaoddbaaDoorW.PrintWords Go.Proofs.YtfhnfhgpaoddbaaDoorW.PrintLast Go.Proofs.YtfhnfhgpaoddbaaDoorW.PrintMore
set_option linter.unusedVariables false
def glueB (u v : Int) : Bool := decide (u = 13 ∧ v = 10) || (decide (cls v = 3) && (!decide (cls u = 1) && !decide (cls u = 2)))
theorem cls_nl : cls 10 = 1 := by unfold cls;rw [if_neg (by omega),if_pos rfl]
theorem cls_cr : cls 13 = 2 := by unfold cls;rw [if_neg (by omega),if_neg (by omega),if_pos (by omega)]
theorem glue_iff (u v : Int) : glueB u v = true ↔ (u = 13 ∧ v = 10) ∨ (cls v = 3 ∧ cls u ≠ 1 ∧ cls u ≠ 2) := by
 unfold glueB;simp
theorem glue_nl (u : Int) : glueB u 10 = true ↔ u = 13 := by
 rw [glue_iff,cls_nl];omega
theorem glue_cr (u : Int) : glueB u 13 = false := by
 rw [← Bool.not_eq_true,glue_iff,cls_cr];omega
def CB (s : ByteArray) (x : Nat) : Prop := Bd s x ∧ ∀ y,Bd s y → x = y + uN s y → x < s.size → glueB (uC s y) (uC s x) = false
theorem cb_zero (s : ByteArray) : CB s 0 := ⟨bd_zero s,fun y _ h _ => by have := uN_pos s y;omega⟩
theorem cb_size (s : ByteArray) : CB s s.size := ⟨bd_size s,fun y _ _ h => by omega⟩
theorem bd_prev (s : ByteArray) (x : Nat) (h : Bd s x) (hx : 0 < x) : ∃ y,Bd s y ∧ y + uN s y = x := by
 have h1 := h.1
 by_cases hb : Bd s (x - 1)
 ·refine ⟨x - 1,hb,?_⟩
  have := uN_pos s (x - 1)
  have := h.2 (x - 1) (by omega)
  omega
 ·obtain ⟨j,hj,hj2,hjb,_⟩ := within s (x - 1) (by omega) hb
  refine ⟨j,hjb,?_⟩
  have := h.2 j (by omega)
  omega
theorem bd_prev_one (s : ByteArray) (x y z : Nat) (hy : Bd s y) (hz : Bd s z) (h : y + uN s y = x) (h' : z + uN s z = x) : y = z := by
 have := uN_pos s y;have := uN_pos s z
 rcases Nat.lt_trichotomy y z with h1 | h1 | h1
 ·have := hz.2 y h1;omega
 ·exact h1
 ·have := hy.2 z h1;omega
theorem cb_iff (s : ByteArray) (x y : Nat) (hy : Bd s y) (hx : y + uN s y = x) (h : x < s.size) : CB s x ↔ glueB (uC s y) (uC s x) = false := by
 constructor
 ·intro hc;exact hc.2 y hy hx.symm h
 ·intro hg
  refine ⟨hx ▸ bd_next s y hy (by have := uN_pos s y;omega),fun z hz hzx _ => ?_⟩
  rw [← bd_prev_one s x y z hy hz hx hzx.symm];exact hg
def CBI (s : ByteArray) (a : Int) : Prop := 0 ≤ a ∧ CB s a.toNat
noncomputable def cbB (s : ByteArray) (a : Int) : Bool := @decide (CBI s a) (Classical.propDecidable _)
theorem cbB_iff (s : ByteArray) (a : Int) : cbB s a = true ↔ CBI s a := by unfold cbB;simp
theorem cbI_nat (s : ByteArray) (i : Nat) : CBI s i ↔ CB s i := by unfold CBI;simp
theorem CBI.bd {s : ByteArray} {a : Int} (h : CBI s a) : BdI s a := ⟨h.1,h.2.1⟩
theorem cbI_le {s : ByteArray} {a : Int} (h : CBI s a) : 0 ≤ a ∧ a ≤ s.size := bdI_le h.bd
theorem cbI_zero (s : ByteArray) : CBI s 0 := (cbI_nat s 0).2 (cb_zero s)
theorem cbI_size (s : ByteArray) : CBI s s.size := (cbI_nat s s.size).2 (cb_size s)
def CNextS (s : ByteArray) (a d : Int) : Prop := CBI s d ∧ (a < d ∨ d = s.size) ∧ ∀ e,CBI s e → a < e → d ≤ e
def CPrevS (s : ByteArray) (a d : Int) : Prop := CBI s d ∧ (d < a ∨ d = 0) ∧ ∀ e,CBI s e → e < a → e ≤ d
def CSnapS (s : ByteArray) (a d : Int) : Prop := CBI s d ∧ (a ≤ d ∨ d = s.size) ∧ ∀ e,CBI s e → a ≤ e → d ≤ e
theorem CPrevS.one {s : ByteArray} {a d d' : Int} (h : CPrevS s a d) (h' : CPrevS s a d') : d = d' := by
 have := cbI_le h.1;have := cbI_le h'.1
 rcases h.2.1 with h1 | h1 <;> rcases h'.2.1 with h2 | h2
 ·have := h.2.2 d' h'.1 h2;have := h'.2.2 d h.1 h1;omega
 ·have := h'.2.2 d h.1 h1;omega
 ·have := h.2.2 d' h'.1 h2;omega
 ·omega
theorem CSnapS.one {s : ByteArray} {a d d' : Int} (h : CSnapS s a d) (h' : CSnapS s a d') : d = d' := by
 have := cbI_le h.1;have := cbI_le h'.1
 rcases h.2.1 with h1 | h1 <;> rcases h'.2.1 with h2 | h2
 ·have := h.2.2 d' h'.1 h2;have := h'.2.2 d h.1 h1;omega
 ·have := h'.2.2 d h.1 h1;omega
 ·have := h.2.2 d' h'.1 h2;omega
 ·omega
theorem CNextS.one {s : ByteArray} {a d d' : Int} (h : CNextS s a d) (h' : CNextS s a d') : d = d' := by
 have := cbI_le h.1;have := cbI_le h'.1
 rcases h.2.1 with h1 | h1 <;> rcases h'.2.1 with h2 | h2
 ·have := h.2.2 d' h'.1 h2;have := h'.2.2 d h.1 h1;omega
 ·have := h'.2.2 d h.1 h1;omega
 ·have := h.2.2 d' h'.1 h2;omega
 ·omega
def nxtN (s : ByteArray) : Nat → Nat → Nat
 | 0,x => x
 | k + 1,x => if x + uN s x < s.size ∧ glueB (uC s x) (uC s (x + uN s x)) = true then nxtN s k (x + uN s x) else x + uN s x
theorem nxtN_fuel (s : ByteArray) : ∀ f g x : Nat,x < s.size → s.size - x ≤ f → s.size - x ≤ g → nxtN s f x = nxtN s g x
 | 0,_,_,hx,h,_ => by omega
 | _ + 1,0,_,hx,_,h => by omega
 | f + 1,g + 1,x,hx,h,h' => by
  have := uN_pos s x
  rw [nxtN,nxtN]
  split
  ·rename_i hc
   exact nxtN_fuel s f g _ hc.1 (by omega) (by omega)
  ·rfl
def nxt (s : ByteArray) (x : Nat) : Nat := nxtN s s.size x
theorem nxt_eq (s : ByteArray) (x : Nat) (hx : x < s.size) : nxt s x = if x + uN s x < s.size ∧ glueB (uC s x) (uC s (x + uN s x)) = true then nxt s (x + uN s x) else x + uN s x := by
 have := uN_pos s x
 unfold nxt
 obtain ⟨n,hn⟩ : ∃ n,s.size = n + 1 := ⟨s.size - 1,by omega⟩
 rw [nxtN_fuel s s.size (n + 1) x hx (by omega) (by omega),nxtN]
 split
 ·rename_i hc;exact nxtN_fuel s n s.size _ hc.1 (by omega) (by omega)
 ·rfl
theorem nxt_glue (s : ByteArray) (x : Nat) (hx : x + uN s x < s.size) (h : glueB (uC s x) (uC s (x + uN s x)) = true) : nxt s x = nxt s (x + uN s x) := by
 rw [nxt_eq s x (by omega),if_pos ⟨hx,h⟩]
theorem nxt_cut (s : ByteArray) (x : Nat) (hx : x < s.size) (h : x + uN s x < s.size → glueB (uC s x) (uC s (x + uN s x)) = false) : nxt s x = x + uN s x := by
 rw [nxt_eq s x hx,if_neg]
 rintro ⟨h1,h2⟩
 rw [h h1] at h2;cases h2
/-- The end of a cluster is the next boundary. -/
theorem nxt_spec (s : ByteArray) : ∀ n x : Nat,s.size - x ≤ n → Bd s x → x < s.size → CB s (nxt s x) ∧ x + uN s x ≤ nxt s x ∧ ∀ e,CB s e → x < e → nxt s x ≤ e := by
 intro n
 induction n with
 | zero => intro x h _ hx;omega
 | succ n ih =>
  intro x hn hb hx
  have h1 := uN_pos s x
  have hb' := bd_next s x hb hx
  have hle := hb'.1
  have hno : ∀ e,CB s e → x < e → x + uN s x ≤ e := fun e he hxe => he.1.2 x hxe
  by_cases hc : x + uN s x < s.size ∧ glueB (uC s x) (uC s (x + uN s x)) = true
  ·rw [nxt_glue s x hc.1 hc.2]
   obtain ⟨g1,g2,g3⟩ := ih (x + uN s x) (by omega) hb' hc.1
   refine ⟨g1,by omega,fun e he hxe => ?_⟩
   have h3 := hno e he hxe
   rcases Nat.lt_or_ge (x + uN s x) e with h4 | h4
   ·exact g3 e he h4
   ·obtain rfl : e = x + uN s x := by omega
    rw [(cb_iff s _ x hb rfl hc.1).1 he] at hc
    exact absurd hc.2 (by simp)
  ·have hg : x + uN s x < s.size → glueB (uC s x) (uC s (x + uN s x)) = false := fun h => by
    cases h2 : glueB (uC s x) (uC s (x + uN s x)) with
    | false => rfl
    | true => exact absurd ⟨h,h2⟩ hc
   rw [nxt_cut s x hx hg]
   refine ⟨?_,Nat.le_refl _,hno⟩
   rcases Nat.lt_or_ge (x + uN s x) s.size with h4 | h4
   ·exact (cb_iff s _ x hb rfl h4).2 (hg h4)
   ·rw [show x + uN s x = s.size by omega];exact cb_size s
theorem nxt_cb (s : ByteArray) (x : Nat) (hb : Bd s x) (hx : x < s.size) : CB s (nxt s x) := (nxt_spec s _ x (Nat.le_refl _) hb hx).1
theorem nxt_least (s : ByteArray) (x : Nat) (hb : Bd s x) (hx : x < s.size) (e : Nat) (he : CB s e) (h : x < e) : nxt s x ≤ e := (nxt_spec s _ x (Nat.le_refl _) hb hx).2.2 e he h
theorem nxt_le (s : ByteArray) (x : Nat) (hb : Bd s x) (hx : x < s.size) : nxt s x ≤ s.size := (nxt_cb s x hb hx).1.1
theorem nxtS (s : ByteArray) (x : Nat) (hb : Bd s x) (hx : x < s.size) (a : Int) (h1 : (x : Int) ≤ a) (h2 : a < nxt s x) : CNextS s a (nxt s x) := by
 refine ⟨(cbI_nat _ _).2 (nxt_cb s x hb hx),.inl h2,fun e he hae => ?_⟩
 have := cbI_le he
 have := nxt_least s x hb hx e.toNat he.2 (by omega)
 omega
def celB (c : Int) : Int := if cls c = 1 then 0 else if cls c = 4 ∨ (cls c = 2 ∧ c ≤ 127) then 2 else 1
/-- Is it a carriage return with a newline behind it? -/
def crlf (s : ByteArray) (x : Nat) : Prop := uC s x = 13 ∧ x + uN s x < s.size ∧ uC s (x + uN s x) = 10
instance (s : ByteArray) (x : Nat) : Decidable (crlf s x) := by unfold crlf;exact inferInstance
def clsAt (s : ByteArray) (x : Nat) : Int := if crlf s x then 1 else cls (uC s x)
def celAt (s : ByteArray) (x : Nat) : Int := if crlf s x then 0 else celB (uC s x)
def clAt (s : ByteArray) (x : Nat) : S53 := ⟨(x : Int),(nxt s x : Int),clsAt s x,celAt s x⟩
def cluL (s : ByteArray) : Nat → Nat → List S53
 | 0,_ => []
 | k + 1,x => if x < s.size then clAt s x :: cluL s k (nxt s x) else []
def clusL (s : ByteArray) : List S53 := cluL s s.size 0
theorem nxt_up (s : ByteArray) : ∀ n x : Nat,s.size - x ≤ n → x < s.size → x + 1 ≤ nxt s x := by
 intro n
 induction n with
 | zero => intro x h hx;omega
 | succ n ih =>
  intro x hn hx
  have h1 := uN_pos s x
  rw [nxt_eq s x hx]
  split
  ·rename_i hc;have := ih (x + uN s x) (by omega) hc.1;omega
  ·omega
theorem nxt_pos (s : ByteArray) (x : Nat) (hx : x < s.size) : x + 1 ≤ nxt s x := nxt_up s _ x (Nat.le_refl _) hx
theorem cluL_fuel (s : ByteArray) : ∀ f g x : Nat,s.size - x ≤ f → s.size - x ≤ g → cluL s f x = cluL s g x
 | 0,0,_,_,_ => rfl
 | 0,g + 1,x,h,_ => by rw [cluL,cluL,if_neg (by omega)]
 | f + 1,0,x,_,h => by rw [cluL,cluL,if_neg (by omega)]
 | f + 1,g + 1,x,h,h' => by
  rw [cluL,cluL]
  split
  ·rename_i hx
   have := nxt_pos s x hx
   rw [cluL_fuel s f g (nxt s x) (by omega) (by omega)]
  ·rfl
def ctl (s : ByteArray) (x : Nat) : List S53 := cluL s s.size x
theorem clusL_ctl (s : ByteArray) : clusL s = ctl s 0 := rfl
theorem ctl_end (s : ByteArray) (x : Nat) (h : s.size ≤ x) : ctl s x = [] := by
 unfold ctl;rw [cluL_fuel s s.size 0 x (by omega) (by omega)];rfl
theorem ctl_go (s : ByteArray) (x : Nat) (h : x < s.size) : ctl s x = clAt s x :: ctl s (nxt s x) := by
 have := nxt_pos s x h
 unfold ctl
 obtain ⟨n,hn⟩ : ∃ n,s.size = n + 1 := ⟨s.size - 1,by omega⟩
 rw [cluL_fuel s s.size (n + 1) x (by omega) (by omega),cluL,if_pos h,cluL_fuel s n s.size (nxt s x) (by omega) (by omega)]
theorem cluL_length (s : ByteArray) : ∀ k i,(cluL s k i).length ≤ k
 | 0,_ => by simp [cluL]
 | k + 1,i => by
  unfold cluL
  split
  ·have := cluL_length s k (nxt s i);simp;omega
  ·simp
theorem clusL_length (s : ByteArray) : (clusL s).length ≤ s.size := cluL_length s s.size 0
def passL (s : ByteArray) : Nat → Int → S53 → Nat → List S53
  | 0, _, cur, _ => [cur]
  | k + 1, p, cur, x => if x < s.size then
      (if glueB p (uC s x) = true then passL s k (uC s x) ⟨cur.f0, ((x + uN s x : Nat) : Int), if uC s x = 10 then 1 else cur.f2, if uC s x = 10 then 0 else cur.f3⟩ (x + uN s x)
       else cur :: passL s k (uC s x) ⟨(x : Int), ((x + uN s x : Nat) : Int), cls (uC s x), celB (uC s x)⟩ (x + uN s x))
      else [cur]
theorem pass_eq (s : ByteArray) : ∀ k x (p : Nat) (cur : S53),s.size - x ≤ k → Bd s p → p < s.size → p + uN s p = x → cur.f1 = (x : Int) →
  passL s k (uC s p) cur x = ⟨cur.f0,(nxt s p : Int),if crlf s p then 1 else cur.f2,if crlf s p then 0 else cur.f3⟩ :: ctl s (nxt s p) := by
 intro k
 induction k with
 | zero =>
  intro x p cur hk hb hp hx hc
  have hle := uN_le s p hp
  rw [passL,nxt_cut s p hp (by omega),ctl_end _ _ (by omega),hx]
  have : ¬ crlf s p := fun h => by have := h.2.1;omega
  rw [if_neg this,if_neg this,← hc]
 | succ k ih =>
  intro x p cur hk hb hp hx hc
  have hle := uN_le s p hp
  have h1 := uN_pos s p
  have h2 := uN_pos s x
  have hbx : Bd s x := hx ▸ bd_next s p hb hp
  rw [passL]
  by_cases hlt : x < s.size
  ·rw [if_pos hlt]
   by_cases hg : glueB (uC s p) (uC s x) = true
   ·rw [if_pos hg,ih (x + uN s x) x _ (by omega) hbx hlt rfl rfl]
    have e1 : nxt s p = nxt s x := by rw [nxt_glue s p (by omega) (by rw [hx];exact hg),hx]
    rw [e1]
    have h13 : ¬ crlf s x := fun h => by rw [h.1,glue_cr] at hg;cases hg
    rw [if_neg h13,if_neg h13]
    have hq : crlf s p ↔ uC s x = 10 := by
     unfold crlf
     rw [hx]
     constructor
     ·exact fun h => h.2.2
     ·intro h;rw [h,glue_nl] at hg;exact ⟨hg,hlt,h⟩
    simp only [hq]
   ·rw [if_neg hg,ih (x + uN s x) x _ (by omega) hbx hlt rfl rfl]
    have hg' : glueB (uC s p) (uC s x) = false := by simpa using hg
    have e1 : nxt s p = x := by rw [nxt_cut s p hp (by rw [hx];intro _;exact hg'),hx]
    rw [e1]
    have hq : ¬ crlf s p := fun h => by rw [crlf,hx] at h;rw [h.1,h.2.2,glue_nl] at hg;exact hg rfl
    rw [if_neg hq,if_neg hq,ctl_go s x hlt]
    have ec : cur = ⟨cur.f0,(x : Int),cur.f2,cur.f3⟩ := by rw [← hc]
    exact congr (congrArg List.cons ec) rfl
  ·rw [if_neg hlt]
   rw [nxt_cut s p hp (by omega),ctl_end _ _ (by omega),hx]
   have : ¬ crlf s p := fun h => by have := h.2.1;omega
   rw [if_neg this,if_neg this,← hc]
theorem pass_all (s : ByteArray) (h : 0 < s.size) (k : Nat) (hk : s.size - uN s 0 ≤ k) : passL s k (uC s 0) ⟨0,((uN s 0 : Nat) : Int),cls (uC s 0),celB (uC s 0)⟩ (uN s 0) = clusL s := by
 rw [pass_eq s k (uN s 0) 0 _ hk (bd_zero s) h (by omega) rfl,clusL_ctl,ctl_go s 0 h]
 rfl
end Go.Proofs.YtfhnfhgpaoddbaaDoor.Pu
end
section
namespace Go.Proofs.YtfhnfhgpaoddbaaDoor.Pu
open Go Go.RowKit Go.Proofs.YtfhnfhgpaoddbaaDoor.Mu Go.Proofs.YtfhnfhgpaoddbaaDoor.U Go.Proofs.YtfhnfhgpaoddbaaDoorW.PrintWords Go.Proofs.YtfhnfhgpaoddbaaDoorW.PrintLast Go.Proofs.YtfhnfhgpaoddbaaDoorW.PrintMore
set_option linter.unusedVariables false
theorem glued_j0 (u v : Int) (b : Bool) : Ev (fun k => cluster_glued.j0 k u v b) (if b = true then true else (decide (cls v = 3) && (!decide (cls u = 1) && !decide (cls u = 2)))) := by
 refine Ev.step (fun k => cluster_glued.j0.eq_2 ..) (ev_val (fun hb => ev_pos hb (Ev.now _)) (fun hb => ev_neg hb ?_))
 refine Ev.bind (class_ans u) (Ev.bind (class_ans v) ?_)
 by_cases h3 : cls v = 3
 ·refine ev_pos h3 ?_
  by_cases h1 : cls u = 1
  ·exact ev_pos h1 (ev_now (by simp [h1]))
  ·exact ev_neg h1 (ev_now (by by_cases h2 : cls u = 2 <;> simp [h1,h2,h3]))
 ·exact ev_neg h3 (ev_now (by simp [h3]))
theorem glued_ans (u v : Int) : Ev (fun k => cluster_glued.f k u v) (glueB u v) := by
 unfold cluster_glued.f
 by_cases h : u = 13
 ·refine ev_pos h ?_
  have := glued_j0 u v (v == 10)
  have e : glueB u v = (if (v == 10) = true then true else (decide (cls v = 3) && (!decide (cls u = 1) && !decide (cls u = 2)))) := by
   unfold glueB
   by_cases hv : v = 10 <;> simp [h,hv]
  rw [e];exact this
 ·refine ev_neg h ?_
  have := glued_j0 u v false
  have e : glueB u v = (if false = true then true else (decide (cls v = 3) && (!decide (cls u = 1) && !decide (cls u = 2)))) := by
   unfold glueB
   simp [h]
  rw [e];exact this
theorem atA_nat {s : ByteArray} {x : Nat} (hb : Bd s x) (hx : x < s.size) : atA s x = (uC s x,(uN s x : Int),true) := by
 unfold atA
 rw [if_pos ⟨(bdB_iff s x).2 ((bdI_nat s x).2 hb),by omega⟩,Int.toNat_natCast]
theorem prevS_of {s : ByteArray} {x y : Nat} (hy : Bd s y) (h : y + uN s y = x) : PrevS s x y := by
 have := uN_pos s y
 exact prevS_in hy (by omega) (by omega)
theorem cboundary_j0 (s : ByteArray) (hs : s.size ≤ 1099511627776) (a : Int) (b : Bool) (hb : b = true ↔ (a ≤ 0 ∨ (s.size : Int) ≤ a)) : Ev (fun k => cluster_Boundary.j0 k s a b) (cbB s a) := by
 have hc := cbB_iff s a
 refine Ev.step (fun k => cluster_Boundary.j0.eq_2 ..) ?_
 by_cases h : b = true
 ·refine ev_pos h ?_
  have h1 := hb.1 h
  by_cases h0 : a = 0
  ·refine ev_pos h0 (ev_now ?_)
   subst h0
   exact (hc.2 (cbI_zero s)).symm
  ·refine ev_neg h0 (ev_now ?_)
   rw [Bool.eq_iff_iff,hc,beq_iff_eq]
   constructor
   ·intro e;rw [e];exact cbI_size s
   ·intro hC;have := cbI_le hC;omega
 ·have h1 : ¬ (a ≤ 0 ∨ (s.size : Int) ≤ a) := fun h2 => h (hb.2 h2)
  refine ev_neg h (Ev.bind (boundary_ans s hs a) ?_)
  by_cases hB : bdB s a = true
  ·refine ev_pos hB ?_
   obtain ⟨x,rfl⟩ : ∃ x : Nat,a = x := ⟨a.toNat,by omega⟩
   have hbx : Bd s x := (bdI_nat s x).1 ((bdB_iff s x).1 hB)
   obtain ⟨y,hy,hyx⟩ := bd_prev s x hbx (by omega)
   have hp := uN_pos s y
   refine Ev.bind (prev_ev hs (by omega) (prevS_of hy hyx)) (Ev.bind (at_ans s hs y) (Ev.bind (at_ans s hs x) ?_))
   rw [atA_nat hy (by omega),atA_nat hbx (by omega)]
   refine Ev.bind (glued_ans (uC s y) (uC s x)) (ev_now ?_)
   rw [Bool.eq_iff_iff,hc,cbI_nat,cb_iff s x y hy hyx (by omega)]
   cases glueB (uC s y) (uC s x) <;> simp
  ·refine ev_neg hB (ev_now ?_)
   symm
   rw [← Bool.not_eq_true,hc]
   exact fun h2 => hB ((bdB_iff s a).2 h2.bd)
theorem cboundary_ans (s : ByteArray) (hs : s.size ≤ 1099511627776) (a : Int) : Ev (fun k => cluster_Boundary.f k s a) (cbB s a) := by
 unfold cluster_Boundary.f
 by_cases h : a ≤ 0
 ·exact ev_pos h (cboundary_j0 s hs a _ ⟨fun _ => .inl h,fun _ => rfl⟩)
 ·exact ev_neg h (cboundary_j0 s hs a _ (by rw [decide_eq_true_eq];omega))
theorem cboundary_yes {s : ByteArray} (hs : s.size ≤ 1099511627776) {a : Int} (h : CBI s a) : Ev (fun k => cluster_Boundary.f k s a) true := (cbB_iff s a).2 h ▸ cboundary_ans s hs a
theorem cboundary_no {s : ByteArray} (hs : s.size ≤ 1099511627776) {a : Int} (h : ¬ CBI s a) : Ev (fun k => cluster_Boundary.f k s a) false := by
 have : cbB s a = false := by rw [← Bool.not_eq_true,cbB_iff];exact h
 exact this ▸ cboundary_ans s hs a
theorem cnext_loop (s : ByteArray) (hs : s.size ≤ 1099511627776) : ∀ (n : Nat) (a : Int),(s.size : Int) - a ≤ n → 0 ≤ a → ∃ d,Ev (fun k => cluster_Next.l0 k s a) d ∧ CNextS s a d := by
 have hend : ∀ a : Int,(s.size : Int) ≤ a → ∃ d,Ev (fun k => cluster_Next.l0 k s a) d ∧ CNextS s a d := fun a h =>
  ⟨s.size,Ev.step (fun k => cluster_Next.l0.eq_2 ..) (ev_neg (by omega) (Ev.now _)),cbI_size s,.inr rfl,fun e he hae => by have := cbI_le he;omega⟩
 intro n
 induction n with
 | zero => intro a hn h0;exact hend a (by omega)
 | succ n ih =>
  intro a hn h0
  by_cases ha : a < (s.size : Int)
  ·obtain ⟨d,hE,hD⟩ := next_ans s hs a
   have hd := bdI_le hD.1
   have hda : a < d := by rcases hD.2.1 with h | h <;> omega
   by_cases hc : CBI s d
   ·refine ⟨d,Ev.step (fun k => cluster_Next.l0.eq_2 ..) (ev_pos ha (Ev.bind hE (Ev.bind (cboundary_yes hs hc) (ev_pos rfl (Ev.now _))))),hc,.inl hda,fun e he hae => hD.2.2 e he.bd hae⟩
   ·obtain ⟨d',hE',hD'⟩ := ih d (by omega) (by omega)
    refine ⟨d',Ev.step (fun k => cluster_Next.l0.eq_2 ..) (ev_pos ha (Ev.bind hE (Ev.bind (cboundary_no hs hc) (ev_neg (by simp) hE')))),hD'.1,?_,fun e he hae => ?_⟩
    ·rcases hD'.2.1 with h | h
     ·exact .inl (by omega)
     ·exact .inr h
    ·have h1 := hD.2.2 e he.bd hae
     refine hD'.2.2 e he ?_
     by_cases h2 : e = d
     ·subst h2;exact absurd he hc
     ·omega
  ·exact hend a (by omega)
theorem cnext_ans (s : ByteArray) (hs : s.size ≤ 1099511627776) (a : Int) : ∃ d,Ev (fun k => cluster_Next.f k s a) d ∧ CNextS s a d := by
 unfold cluster_Next.f
 by_cases h : a < 0
 ·exact ⟨0,ev_pos h (Ev.now _),cbI_zero s,.inl h,fun e he _ => (cbI_le he).1⟩
 ·obtain ⟨d,hE,hD⟩ := cnext_loop s hs s.size a (by omega) (by omega)
  exact ⟨d,ev_neg h hE,hD⟩
theorem cnext_ev {s : ByteArray} (hs : s.size ≤ 1099511627776) {a d : Int} (h : CNextS s a d) : Ev (fun k => cluster_Next.f k s a) d := by
 obtain ⟨d',hE,h'⟩ := cnext_ans s hs a;exact h.one h' ▸ hE
theorem cells_ans (c : Int) : Ev (fun k => width_Cells.f k c) (celB c) := by
 have hC : celB c = if cls c = 1 then 0 else if cls c = 4 ∨ (cls c = 2 ∧ c ≤ 127) then 2 else 1 := rfl
 unfold width_Cells.f
 refine Ev.bind (class_ans c) ?_
 by_cases h1 : cls c = 1
 ·exact ev_pos h1 (ev_now (by rw [hC,if_pos h1]))
 ·refine ev_neg h1 ?_
  by_cases h4 : cls c = 4
  ·exact ev_pos h4 (ev_now (by rw [hC,if_neg h1,if_pos (.inl h4)]))
  ·refine ev_neg h4 ?_
   by_cases h2 : cls c = 2
   ·refine ev_pos h2 ?_
    by_cases h5 : c ≤ 127
    ·exact ev_pos h5 (ev_now (by rw [hC,if_neg h1,if_pos (.inr ⟨h2,h5⟩)]))
    ·exact ev_neg h5 (ev_now (by rw [hC,if_neg h1,if_neg (by omega)]))
   ·exact ev_neg h2 (ev_now (by rw [hC,if_neg h1,if_neg (by omega)]))
theorem toList_bytes (s : ByteArray) : s.toList = s.data.toList := Lib.toList_data s
theorem uC_low (s : ByteArray) (x : Nat) (c : Nat) (hc : c < 128) : uC s x = c ↔ byt s x = c := by
 rcases uC_cases s x with h | h | h | h | h <;> omega
theorem uN_low (s : ByteArray) (x : Nat) (c : Nat) (hc : c < 128) (h : uC s x = c) : uN s x = 1 := by
 rcases uC_cases s x with h | h | h | h | h <;> omega
theorem prefix_nl (s : ByteArray) (x : Nat) (hx : x < s.size) : strings_HasPrefix.f (s.extract (x + 1) s.size) (⟨#[10]⟩ : ByteArray) = some (decide (x + 1 < s.size ∧ byt s (x + 1) = 10)) := by
 have hsz : (s.extract (x + 1) s.size).size = s.size - (x + 1) := size_extract _ _ _ (Nat.le_refl _)
 unfold strings_HasPrefix.f stringslite_HasPrefix.f
 rw [hsz]
 by_cases h : x + 1 < s.size
 ·rw [if_pos (by show ((s.size - (x + 1) : Nat) : Int) ≥ ((1 : Nat) : Int);omega),if_pos (by omega),if_pos (by show ((1 : Nat) : Int) ≤ _;omega)]
  show some _ = some _
  congr 1
  rw [Bool.eq_iff_iff,beq_iff_eq,decide_eq_true_eq,toList_bytes,toList_bytes,Lib.extract_data]
  have e : (s.extract (x + 1) s.size).data.toList = s.data.toList.drop (x + 1) := by
   rw [Lib.extract_data,List.take_of_length_le (by rw [List.length_drop,← Lib.size_eq];omega)]
  rw [e,List.drop_zero]
  have hl : x + 1 < s.data.toList.length := by rw [← Lib.size_eq];exact h
  rw [List.drop_eq_getElem_cons hl]
  show [s.data.toList[x + 1]] = [10] ↔ _
  have hb : byt s (x + 1) = (s.data.toList[x + 1]).toNat := by
   unfold byt
   rw [get!_eq,List.getD_eq_getElem?_getD,List.getElem?_eq_getElem hl];rfl
  rw [hb,List.cons.injEq]
  constructor
  ·rintro ⟨h1,_⟩;exact ⟨h,by rw [h1];rfl⟩
  ·rintro ⟨_,h1⟩;exact ⟨UInt8.toNat_inj.1 (by rw [h1];rfl),rfl⟩
 ·rw [if_neg (by show ¬ ((s.size - (x + 1) : Nat) : Int) ≥ ((1 : Nat) : Int);omega)]
  show some _ = some _
  congr 1
  symm
  rw [decide_eq_false_iff_not]
  omega
theorem made_ans (s : ByteArray) (hs : s.size ≤ 1099511627776) (x : Nat) (hb : Bd s x) (hx : x < s.size) (t : Int) : Ev (fun k => cluster_made.f k s x t) ((x : Int),t,clsAt s x,celAt s x) := by
 unfold cluster_made.f
 refine Ev.bind (at_ans s hs x) ?_
 rw [atA_nat hb hx]
 refine Ev.bind (class_ans (uC s x)) (Ev.bind (cells_ans (uC s x)) ?_)
 by_cases h : uC s x = 13
 ·have h1 := uN_low s x 13 (by omega) h
  have hw : wrap64 ((x : Int) + 1) = ((x + 1 : Nat) : Int) := by rw [w64 (by omega) (by omega)];omega
  refine ev_pos h ?_
  rw [hw]
  refine ev_pos (by omega) (ev_pos (by omega) (ev_some (prefix_nl s x hx) ?_))
  have hc : crlf s x ↔ (x + 1 < s.size ∧ byt s (x + 1) = 10) := by
   unfold crlf
   rw [h1,← uC_low s (x + 1) 10 (by omega)]
   exact ⟨fun h => h.2,fun h2 => ⟨h,h2⟩⟩
  unfold clsAt celAt
  by_cases hq : crlf s x
  ·rw [if_pos hq,if_pos hq]
   exact ev_pos (by rw [decide_eq_true_eq];exact hc.1 hq) (Ev.now _)
  ·rw [if_neg hq,if_neg hq]
   exact ev_neg (by rw [decide_eq_true_eq];exact fun h => hq (hc.2 h)) (Ev.now _)
 ·refine ev_neg h (ev_now ?_)
  unfold clsAt celAt
  rw [if_neg (fun hq => h hq.1),if_neg (fun hq => h hq.1)]
end Go.Proofs.YtfhnfhgpaoddbaaDoor.Pu
end
section
namespace Go.Proofs.YtfhnfhgpaoddbaaDoor.U
open Go.RowKit Go.Shelf Go.Proofs.YtfhnfhgpaoddbaaDoor.Mu Go.Proofs.YtfhnfhgpaoddbaaDoor.Pu Go.Proofs.YtfhnfhgpaoddbaaDoor.Rg Go.Proofs.YtfhnfhgpaoddbaaDoorW.PrintWords Go.Proofs.YtfhnfhgpaoddbaaDoorW.PrintLast Go.Proofs.YtfhnfhgpaoddbaaDoorW.PrintMore
attribute [local go_sem] Oper.semAt_some
set_option linter.unusedVariables false
set_option linter.unusedSimpArgs false
abbrev encC (c : S53) : Array Value := #[.agg #[.int .i64 c.f0,.int .i64 c.f1,.int .i64 c.f2,.int .i64 c.f3]]
set_option maxRecDepth 100000 in
set_option maxHeartbeats 2000000 in
/-- cluster.Walk's inner function: its contract. -/
theorem cwalk1_seq (n : Nat) (hn : 1 ≤ n) (w₀ w : World) (s : ByteArray) (Bs : Nat) (hs : s.size ≤ 1099511627776) (hT : Lib.Utf8Tabs 0 1 w₀) (hb : Below w₀.heap.size w₀ w) (hc : Boxed w Bs 9 (.string s)) :
  SeqB Fence.wide n Tryd.prog 83 #[.pointer (some ⟨Bs,0,none⟩)] encC w₀.heap.size (fun k => k = Bs) (fun xs => Hid (xs = clusL s)) (fun pre => pre <+: clusL s) (clusL s).length w := by
 intro l J Jx W hW hJ hJx hY h0
 refine callsIn_of_wp Tryd.func83 rfl trivial ?_ rfl
 simp only [Tryd.ntmps83,List.size_toArray,List.length_cons,List.length_nil,Nat.reduceAdd,Nat.reduceSub,Array.replicate_succ,Array.replicate_zero,List.push_toArray,List.append_toArray,List.nil_append,List.cons_append]
 gi_wp2
 gi_loopw [3] (fun v wr => ∃ (i : Nat) (pre : List S53),v = .int .i64 i ∧ i ≤ s.size ∧ Hid (CB s i) ∧ Hid (clusL s = pre ++ ctl s i) ∧ J pre wr ∧ Boxed wr Bs 9 (.string s) ∧ Below w₀.heap.size w₀ wr)
  (fun v _ => s.size - (intOf v).toNat)
 case atStart =>
  exact ⟨0,[],rfl,Nat.zero_le _,Lib.hid (cb_zero s),Lib.hid rfl,h0,(hW.block Bs hc.lt).trans hc,hb.trans (hW.mono hb.size)⟩
 case round =>
  obtain ⟨i,pre,rfl,hi,hcb0,hx,hJs,hbx,hbl⟩ := hrel
  have hcb := hbx.cell
  by_cases hlt : i < s.size
  ·have hlt' : (i : Int) < (s.size : Int) := by omega
   obtain ⟨t,ht⟩ : ∃ t,nxt s i = t := ⟨_,rfl⟩
   have ht1 : i < t := ht ▸ nxt_pos s i hlt
   have ht2 : t ≤ s.size := ht ▸ nxt_le s i hcb0.out.1 hlt
   obtain ⟨k1,hk1⟩ := Ev.rounds (cnext_ev hs (nxtS s i hcb0.out.1 hlt i (Int.le_refl _) (by rw [ht];omega)))
   rw [ht] at hk1
   have hk1 := Lib.hid hk1
   obtain ⟨k2,hk2⟩ := Ev.rounds (made_ans s hs i hcb0.out.1 hlt (t : Int))
   have hcl : Hid (clAt s i = ⟨(i : Int),(t : Int),clsAt s i,celAt s i⟩) := Lib.hid (by unfold clAt;rw [ht])
   obtain ⟨q2,hq2⟩ : ∃ q2,clsAt s i = q2 := ⟨_,rfl⟩
   obtain ⟨q3,hq3⟩ : ∃ q3,celAt s i = q3 := ⟨_,rfl⟩
   rw [hq2,hq3] at hk2 hcl
   have hk2 := Lib.hid hk2
   have hcbt : Hid (CB s t) := Lib.hid (ht ▸ nxt_cb s i hcb0.out.1 hlt)
   have hx2 : Hid (clusL s = pre ++ (⟨(i : Int),(t : Int),q2,q3⟩ : S53) :: ctl s t) := Lib.hid (by
    have := hx.out;rw [ctl_go s i hlt,hcl.out,ht] at this;exact this)
   clear hx hcl hq2 hq3 ht hcb0
   have hTw := tabs_below hT hbl
   gi_wp2_with (refine ⟨trivial,?_⟩;gi_at_call 46;refine (callsIn_wide.2 (cluster_Next.calls k1 s i t wr hTw hk1.out)).mono ?_;rintro e w1 ⟨rfl,hb1⟩;have hbx1 : Boxed w1 Bs 9 (.string s) := (hb1.block Bs hbx.lt).trans hbx;have hcb1 := hbx1.cell;have hT1 := tabs_below hTw hb1)
   gi_wp2_with (refine ⟨trivial,?_⟩;gi_at_call 84;refine (callsIn_wide.2 (cluster_made.calls k2 s i t i t q2 q3 w1 hT1 hk2.out)).mono ?_;rintro e w2 ⟨rfl,hb2⟩;have hb12 : Below wr.heap.size wr w2 := hb1.trans (hb2.mono hb1.size);obtain ⟨fn,tmps,assign,body,hy,hR⟩ := hY pre (⟨(i : Int),(t : Int),q2,q3⟩ : S53) wr w2 hJs hb12 (by rw [hx2.out];simp) ⟨ctl s t,by rw [hx2.out];simp⟩)
   refine hR.mono ?_
   rintro e W3 (⟨rfl,hJ3,hk3⟩ | ⟨rfl,hJx3⟩)
   ·have hbx3 : Boxed W3 Bs 9 (.string s) := hk3.2 Bs _ (.inl rfl) ((hb12.block Bs hbx.lt).trans hbx) rfl
    have hbl3 : Below w₀.heap.size w₀ W3 := (hbl.trans (hb12.mono hbl.size)).trans hk3.1
    gi_wp2
    go_roundw
    case rel => exact ⟨t,pre ++ [(⟨(i : Int),(t : Int),q2,q3⟩ : S53)],rfl,ht2,hcbt,Lib.hid (by rw [hx2.out];simp),hJ3,hbx3,hbl3⟩
    case measure => simp [intOf];omega
   ·gi_wp2
    refine bodyPost_ret (results_none rfl _ _ _) rfl ?_
    exact ⟨⟨_,rfl⟩,.inr ⟨_,⟨ctl s t,by rw [hx2.out];simp⟩,hJx3⟩⟩
  ·have hge : ¬ ((i : Int) < (s.size : Int)) := by omega
   gi_wp2
   go_end0
   have hz : ctl s i = [] := ctl_end s i (by omega)
   exact ⟨⟨_,rfl⟩,.inl ⟨pre,Lib.hid (by rw [hx.out,hz,List.append_nil]),hJs⟩⟩
theorem cwalk_calls (s : ByteArray) (w : World) :
  Calls Tryd.prog 41 #[.string s] w fun e w' => e = .returned (.func (.func 83) #[] #[.pointer (some ⟨w.heap.size,0,none⟩)]) ∧ w' = w.alloc (.cells #[.string s] 9) := by
 go_enter Tryd.func41,Tryd.ntmps41
 go_wp2
 go_ret
 exact ⟨rfl,rfl⟩
def cellsC : List S53 → List Value
 | [] => []
 | c :: cs => .int .i64 c.f0 :: .int .i64 c.f1 :: .int .i64 c.f2 :: .int .i64 c.f3 :: cellsC cs
theorem cellsC_snoc (cs : List S53) (c : S53) : cellsC (cs ++ [c]) = cellsC cs ++ [.int .i64 c.f0,.int .i64 c.f1,.int .i64 c.f2,.int .i64 c.f3] := by
 induction cs with
 | nil => rfl
 | cons x xs ih => simp [cellsC,ih]
theorem reps_cellsC (w : World) (base : Nat) (ok : Nat → Prop) : ∀ cs : List S53,Reps (k53.M w base ok) 4 cs (cellsC cs)
 | [] => Reps.none _ _
 | c :: cs => Reps.c4 (k53_mkM w base ok c) (reps_cellsC w base ok cs)
theorem cells_four_new (w : World) (x y z v : Value) (t : TypeId) : ∀ j u,[x,y,z,v][j]? = some u → (w.alloc (.cells #[x,y,z,v] t)).cell? ((⟨w.heap.size,0,none⟩ : Addr).add j) = some u := by
 intro j u hj
 match j,hj with
 | 0,hj => simp at hj;subst hj;simp [Addr.add]
 | 1,hj => simp at hj;subst hj;simp [Addr.add]
 | 2,hj => simp at hj;subst hj;simp [Addr.add]
 | 3,hj => simp at hj;subst hj;simp [Addr.add]
 | (j + 4),hj => simp at hj
set_option maxRecDepth 100000 in
set_option maxHeartbeats 4000000 in
theorem clist_any (s : ByteArray) (w : World) (hs : s.size ≤ 1099511627776) (hT : Lib.Utf8Tabs 0 1 w) :
  Calls Tryd.prog 43 #[.string s] w fun e w' => ∃ v0_ : Value,e = .returned v0_ ∧ Kd.R k53 53 w' w.heap.size (fun _ => True) v0_ (clusL s) ∧ Below w.heap.size w w' := by
 have hlen : (clusL s).length ≤ s.size := clusL_length s
 obtain ⟨i0,hi,hz0,hz1,hz2⟩ := info_parts info53
 refine (callsIn_wide (n := 6)).1 ?_
 refine callsIn_of_wp_marks Tryd.func43 rfl trivial ?_ rfl
 simp only [Tryd.ntmps43,List.size_toArray,List.length_cons,List.length_nil,Nat.reduceAdd,Nat.reduceSub,Array.replicate_succ,Array.replicate_zero,List.push_toArray,List.append_toArray,List.nil_append,List.cons_append]
 gi_wp2_with (refine ⟨trivial,?_⟩;gi_at_call 41;refine (callsIn_wide.2 (cwalk_calls s _)).mono ?_;rintro e w' ⟨rfl,rfl⟩)
 have bO := (Boxed.new w 46 (.slice none 0 0)).alloc (.cells #[.string s] 9)
 have bS := Boxed.new (w.alloc (.cells #[.slice none 0 0] 46)) 9 (.string s)
 rw [World.size_alloc] at bS
 have hB0 : Below w.heap.size w ((w.alloc (.cells #[.slice none 0 0] 46)).alloc (.cells #[.string s] 9)) := ((Below.refl _ w).alloc (Nat.le_refl _) _).alloc (by simp) _
 have hsz : ((w.alloc (.cells #[.slice none 0 0] 46)).alloc (.cells #[.string s] 9)).heap.size = w.heap.size + 2 := by simp
 obtain ⟨W0,hW0⟩ : ∃ W0,(w.alloc (.cells #[.slice none 0 0] 46)).alloc (.cells #[.string s] 9) = W0 := ⟨_,rfl⟩
 rw [hW0] at bO bS hB0 hsz ⊢
 clear hW0
 refine range_outer (α := S53) rfl (by omega) (gf := 83) (lb := #[.pointer (some ⟨w.heap.size + 1,0,none⟩)]) rfl trivial (enters_of Tryd.func83 (by kernel_rfl) rfl)
  (cwalk1_seq 5 (by omega) w W0 s (w.heap.size + 1) hs hT hB0 bS) (Below.refl _ _) (fun _ => rfl) (by omega)
  (fun (B : Nat) (pre : List S53) (W : World) => (((∃ v,Boxed W w.heap.size 46 v ∧ W.ownsRow w.heap.size 53 4 v pre.length (cellsC pre) ∧ (∀ g,v.ownBlock = some g → g < B)) ∧ Boxed W (w.heap.size + 1) 9 (.string s)) ∧ Below w.heap.size w W) ∧ w.heap.size < B)
  (fun _ _ _ => False)
  (fun B => OwnFrom.and (OwnFrom.and (OwnFrom.and (Own.from (holdsRow_own w.heap.size w.heap.size 46 53 4 (fun (pre : List S53) => pre.length) (fun pre => cellsC pre) (fun _ v => ∀ g,v.ownBlock = some g → g < B)) _) (Own.from (boxed_own _ _ _) _)) (ownFrom_below (Nat.le_refl _) (by omega))) (ownFrom_pure _ (fun _ => w.heap.size < B)))
  (fun B B' pre W hBB h => ⟨⟨⟨by obtain ⟨v,h1,h2,h3⟩ := h.1.1.1;exact ⟨v,h1,h2,fun g hg => Nat.lt_of_lt_of_le (h3 g hg) hBB⟩,h.1.1.2⟩,h.1.2⟩,Nat.lt_of_lt_of_le h.2 hBB⟩)
  (fun _ _ _ _ _ hs _ _ => hs)
  ⟨⟨⟨⟨_,bO,World.ownsRow_nil _ _ _ _,by simp [Value.ownBlock]⟩,bS⟩,hB0⟩,by omega⟩
  (fun (x : S53) (a' : Act) (W : World) => ∃ Bx,Hid (W.heap[Bx]? = some (.cells #[.int .i64 x.f0,.int .i64 x.f1,.int .i64 x.f2,.int .i64 x.f3] 53 (0,0))) ∧ a' = { tmps := #[.string s,undef,.slice none 0 0,.pointer (some ⟨w.heap.size,0,none⟩),.pointer (some ⟨Bx,0,none⟩),.string s,.func (.func 83) #[] #[.pointer (some ⟨w.heap.size + 1,0,none⟩)],.agg #[.int .i64 x.f0,.int .i64 x.f1,.int .i64 x.f2,.int .i64 x.f3],undef,undef,undef,undef,undef],defers := [] })
  (fun x a' _ X Y row hs hg hr => by
   obtain ⟨Bx,h1,h2⟩ := hs
   refine ⟨Bx,?_,h2⟩
   refine (hg.block Bx (Array.getElem?_eq_some_iff.1 h1).1 (fun e => ?_)).trans h1
   obtain ⟨_,o,ho,hc⟩ := hr Bx e.symm
   rw [show X.heap[Bx]? = _ from h1] at ho;cases ho;cases hc)
  ?assign ?body ?done ?stop
 case assign =>
  rintro l B pre x W K hCW hBW hI hK
  have hsz1 := hI.1.2.size
  gi_wp2
  exact hK _ _ ((KeepsOthers.alloc _ _).from _) (KeepB.of_below hsz1 ((Below.refl _ W).alloc (Nat.le_refl _) _)) ⟨⟨⟨by obtain ⟨v,h1,h2,h3⟩ := hI.1.1.1;exact ⟨v,h1.alloc _,h2.alloc _,h3⟩,hI.1.1.2.alloc _⟩,hI.1.2.alloc hsz1 _⟩,hI.2⟩ ⟨W.heap.size,Lib.hid (World.alloc_heap_new W _),rfl⟩
 case body =>
  rintro l B pre x a' W hl hCW hr hBW ⟨⟨⟨⟨v,hv,hrow,hvB⟩,hbs⟩,hB⟩,hoB⟩ ⟨Bx,hBx,rfl⟩ hlt hpx
  have hc := hv.cell
  have hsz1 := hB.size
  have hcx0 : W.cell? ⟨Bx,0,none⟩ = some (.int .i64 x.f0) := by simp [World.cell?,show W.heap[Bx]? = _ from hBx]
  have hcx1 : W.cell? ⟨Bx,1,none⟩ = some (.int .i64 x.f1) := by simp [World.cell?,show W.heap[Bx]? = _ from hBx]
  have hcx2 : W.cell? ⟨Bx,2,none⟩ = some (.int .i64 x.f2) := by simp [World.cell?,show W.heap[Bx]? = _ from hBx]
  have hcx3 : W.cell? ⟨Bx,3,none⟩ = some (.int .i64 x.f3) := by simp [World.cell?,show W.heap[Bx]? = _ from hBx]
  have hu := Tryd.underlying53
  gi_wp2_with (gi_at_builtin;refine wpListIn_append_own _ rfl _ _ 46 rfl w.heap.size 53 i0 _ 4 32 Tryd.underlying46 hi hz0 hz1 hz2 rfl (by decide) _ _ _ rfl (hrow.alloc _) ⟨W.heap.size,0,none⟩ 1 1 [.int .i64 x.f0,.int .i64 x.f1,.int .i64 x.f2,.int .i64 x.f3] rfl rfl (cells_four_new _ _ _ _ _ _) (by simp [Value.oneCell']) (by unfold maxLen;omega) (by omega) (by simp;omega) ?_;intro v' w1 hown' hgrow _;obtain ⟨g',cap',rfl⟩ := ownsRow_succ hown';obtain ⟨hv1,hv2,hr2,hk2,hb2⟩ := hv.appended (by decide) hrow hsz1 (Nat.le_refl _) hown' hgrow;have hkb := appended_keepB (v' := .slice (some ⟨g',0,none⟩) (pre.length + 1) cap') (Pr := fun k => k = w.heap.size + 1) hgrow hoB (fun k hk => ⟨by omega,by rw [hk];exact hbs.not_row (by decide) hrow⟩) hvB;have hbs2 : Boxed (w1.setCell ⟨w.heap.size,0,none⟩ (.slice (some ⟨g',0,none⟩) (pre.length + 1) cap')) (w.heap.size + 1) 9 (.string s) := hkb _ _ (.inl rfl) hbs rfl;have hc1 := hv1.cell;have hf1 := hv1.frozen)
  have hsz2 : w.heap.size < (w1.setCell ⟨w.heap.size,0,none⟩ (.slice (some ⟨g',0,none⟩) (pre.length + 1) cap')).heap.size := hv2.lt
  exact ⟨hk2.from _,⟨hb2,hkb⟩,⟨⟨⟨_,hv2,by rw [cellsC_snoc,List.length_append];exact hr2,fun g hg => own_lt hr2 g hg⟩,hbs2⟩,hB.trans hb2⟩,hsz2⟩
 case done =>
  rintro D ys W hD hys ⟨⟨⟨⟨v,hv,hrow,_⟩,_⟩,hB⟩,_⟩ hK
  have hc := hv.cell
  gi_wp2
  refine ⟨by simp,.inl ⟨_,_,rfl,run_takeDeferred hK,?_⟩⟩
  refine ⟨_,results_tmp rfl _ _ _,v,rfl,⟨fun _ _ => trivial,cellsC (clusL s),?_,reps_cellsC _ _ _ _⟩,hB.trans (belowK_b (w := w) (Nat.le_refl _) W D _ _ (by omega) hK rfl rfl)⟩
  have e : ys = clusL s := hys
  have h2 := ownsRow_putObj hrow (.deferred none) hK rfl
  rw [e] at h2
  exact h2
 case stop =>
  rintro D c pre W _ _ h _
  exact h.elim
def cluster_List.f (a0 : ByteArray) : Option (List (S53)) := if a0.size ≤ 1099511627776 then some (clusL a0) else none
theorem cluster_List.calls (a0 : ByteArray) (r : List (S53)) (w : World) (hT : Lib.Utf8Tabs 0 1 w) (h : cluster_List.f a0 = some r) :
  Calls Tryd.prog 43 #[.string a0] w fun e w' => ∃ v0_ : Value,e = .returned (v0_) ∧ Kd.R k53 53 w' w.heap.size (fun _ => True) v0_ r ∧ Below w.heap.size w w' := by
 unfold cluster_List.f at h
 split at h
 ·obtain rfl := Option.some.inj h
  rename_i hs
  exact clist_any a0 w hs hT
 ·cases h
end Go.Proofs.YtfhnfhgpaoddbaaDoor.U
end
section
namespace Go.Proofs.YtfhnfhgpaoddbaaDoor.U
open Go.RowKit Go.Shelf Go.Proofs.YtfhnfhgpaoddbaaDoor.Mu Go.Proofs.YtfhnfhgpaoddbaaDoor.Pu Go.Proofs.YtfhnfhgpaoddbaaDoor.Rg Go.Proofs.YtfhnfhgpaoddbaaDoorW.PrintWords Go.Proofs.YtfhnfhgpaoddbaaDoorW.PrintLast Go.Proofs.YtfhnfhgpaoddbaaDoorW.PrintMore
set_option linter.unusedVariables false
set_option linter.unusedSimpArgs false
theorem bld_size : (Tryd.prog.info? 85).map (·.size) = some 2 := by kernel_rfl
theorem bld_lies : liesAt Tryd.prog Tryd.prog.depth 85 (2 / Tryd.prog.cellsOf 85) 0 85 1 = true := by kernel_rfl
theorem byte_info : (Tryd.prog.info? 5).map (fun i => (i.zero,i.size,i.bytes)) = some (some (.int .u8 0),1,1) := by kernel_rfl
set_option maxHeartbeats 1000000 in
set_option maxRecDepth 100000 in
theorem copyCheck_used (b : Nat) (w : World) (h0 : w.cell? ⟨b,0,none⟩ = some (.pointer (some ⟨b,0,none⟩))) :
  Calls Tryd.prog 99 #[.pointer (some ⟨b,0,none⟩)] w fun e w' => e = .returned (.tuple #[]) ∧ w' = w := by
 obtain ⟨j,hj,_⟩ := Option.map_eq_some_iff.1 bld_size
 have hu := Tryd.underlying85
 go_enter Tryd.func99,Tryd.ntmps99
 go_wp2
 rw [Lib.run_neq_ptr_same w _ Tryd.underlying83 hj]
 go_wp2
 go_end0
 exact ⟨rfl,rfl⟩
set_option maxHeartbeats 1000000 in
set_option maxRecDepth 100000 in
theorem copyCheck_fresh (b : Nat) (w : World) (h0 : w.cell? ⟨b,0,none⟩ = some (.pointer none)) (hsh : w.shape? b = some (85,2)) (hfz : w.frozen? ⟨b,0,none⟩ = false) :
  Calls Tryd.prog 99 #[.pointer (some ⟨b,0,none⟩)] w fun e w' => e = .returned (.tuple #[]) ∧ w' = w.setCell ⟨b,0,none⟩ (.pointer (some ⟨b,0,none⟩)) := by
 obtain ⟨j,hj,hjs⟩ := Option.map_eq_some_iff.1 bld_size
 have hu := Tryd.underlying85
 go_enter Tryd.func99,Tryd.ntmps99
 go_wp2
 rw [Lib.run_to_unsafe w ⟨b,0,none⟩ Tryd.underlying83 Tryd.underlying110 hj (by rw [hjs];decide) hsh (Nat.zero_lt_succ 1)]
 simp only [Result.andThen]
 rw [Oper.upon_value]
 go_wp2
 rw [run_callFunc_extern Tryd.func106 (by kernel_rfl) (by kernel_rfl) (by kernel_rfl) (e := Extern.AbiNoEscape.same) (by kernel_rfl)]
 rw [Lib.run_noEscape]
 simp only [Result.andThen]
 rw [Oper.upon_value]
 go_wp2
 rw [Lib.run_from_unsafe w ⟨b,0,none⟩ Tryd.underlying110 Tryd.underlying83 hj hsh bld_lies]
 simp only [Result.andThen]
 rw [Oper.upon_value]
 go_wp2
 go_end0
 exact ⟨rfl,rfl⟩
/-- The builder in block b holds bs;v is its buffer. -/
def BldAt (n₀ b : Nat) (bs : List Value) (v : Value) (W : World) : Prop :=
 ∃ p,(p = .pointer none ∨ p = .pointer (some ⟨b,0,none⟩)) ∧ W.heap[b]? = some (.cells #[p,v] 85 (0,0)) ∧ W.ownsRowF n₀ 5 1 v bs.length bs ∧ v.ownBlock ≠ some b
/-- What a write turns. -/
structure Wrote (n₀ b : Nat) (v : Value) (W W' : World) : Prop where
 below : Below n₀ W W'
 others : KeepsOthers W W'
 keep : ∀ (k : Nat),k < W.heap.size → k ≠ b → some k ≠ v.ownBlock → W'.heap[k]? = W.heap[k]?
theorem ownsRowF_cells {w : World} {B : Nat} {e : TypeId} {v : Value} {n : Nat} {xs : List Value} (h : w.ownsRowF B e 1 v n xs) : ∀ g,v.ownBlock = some g → ∃ o,w.heap[g]? = some o ∧ o.isCells = true := by
 intro g hg
 obtain ⟨c,fz,hc⟩ := Lib.ownsRowF_kind h g hg
 exact ⟨_,hc,rfl⟩
theorem BldAt.kept {n₀ b : Nat} {bs : List Value} {v : Value} {X Y : World} {row : Option Nat} (h : BldAt n₀ b bs v X) (hg : X.grownBy Y row) (hb : row ≠ some b) (hv : v.ownBlock = none ∨ v.ownBlock ≠ row) : BldAt n₀ b bs v Y := by
 obtain ⟨p,hp,hk,hr,hne⟩ := h
 exact ⟨p,hp,(hg.block b (Array.getElem?_eq_some_iff.1 hk).1 (fun e => hb e.symm)).trans hk,hr.kept hg hv,hne⟩
theorem BldAt.grow {n₀ b : Nat} {bs : List Value} {v : Value} {X Y : World} {row : Option Nat} (h : BldAt n₀ b bs v X) (hg : X.grownBy Y row) (hr : ∀ r,row = some r → ∃ o : Obj,X.heap[r]? = some o ∧ o.isCells = false) : BldAt n₀ b bs v Y := by
 refine h.kept hg (fun e => ?_) ?_
 ·obtain ⟨p,_,hk,_⟩ := h
  obtain ⟨o,ho,hc⟩ := hr b e
  rw [hk] at ho;cases ho;cases hc
 ·cases hv : v.ownBlock with
  | none => exact .inl rfl
  | some g =>
   refine .inr (fun e => ?_)
   obtain ⟨p,_,_,hrow,_⟩ := h
   obtain ⟨o,ho,hc⟩ := ownsRowF_cells hrow g hv
   obtain ⟨o',ho',hc'⟩ := hr g e.symm
   rw [ho] at ho';cases ho';rw [hc] at hc';cases hc'
theorem BldAt.is {n₀ b : Nat} {bs : List Value} {v : Value} {W : World} (h : BldAt n₀ b bs v W) (hb : n₀ ≤ b) : Lib.IsBuilderF 85 5 n₀ b bs W := by
 obtain ⟨p,hp | hp,hk,hr,hne⟩ := h
 ·exact .inl ⟨hb,v,hp ▸ hk,hr,hne⟩
 ·exact .inr ⟨hb,v,hp ▸ hk,hr,hne⟩
theorem BldAt.lt {n₀ b : Nat} {bs : List Value} {v : Value} {W : World} (h : BldAt n₀ b bs v W) : b < W.heap.size := by
 obtain ⟨p,_,hk,_⟩ := h;exact (Array.getElem?_eq_some_iff.1 hk).1
theorem Wrote.setCell {n₀ b j : Nat} {v : Value} {W W' : World} (h : Wrote n₀ b v W W') (hb : n₀ ≤ b) (u : Value) : Wrote n₀ b v W (W'.setCell ⟨b,j,none⟩ u) :=
 ⟨h.below.setCell (p := ⟨b,j,none⟩) hb u,h.others.trans (KeepsOthers.setCell W' _ u),fun k hk hb hv => (Below.heap_setCell W' ⟨b,j,none⟩ u k hb).trans (h.keep k hk hb hv)⟩
theorem Wrote.refl (n₀ b : Nat) (v : Value) (W : World) : Wrote n₀ b v W W := ⟨Below.refl _ _,KeepsOthers.refl _,fun _ _ _ _ => rfl⟩
set_option maxHeartbeats 2000000 in
set_option maxRecDepth 100000 in
theorem writeString_calls (n₀ b : Nat) (bs : List Value) (v : Value) (s : ByteArray) (w : World) (h : BldAt n₀ b bs v w) (hn : n₀ ≤ w.heap.size) (hb : n₀ ≤ b) (hlen : bs.length + s.size ≤ 140737488355328) :
  Calls Tryd.prog 87 #[.pointer (some ⟨b,0,none⟩),.string s] w fun e w' => e = .returned (.tuple #[.int .i64 s.size,.nilIface]) ∧ ∃ v',BldAt n₀ b (bs ++ Lib.strCells s) v' w' ∧ Wrote n₀ b v w w' := by
 obtain ⟨i0,hi,hz0,hz1,hz2⟩ := info_parts byte_info
 have hu := Tryd.underlying85
 obtain ⟨p,hp,hk,hr,hne⟩ := h
 have hcc : Calls Tryd.prog 99 #[.pointer (some ⟨b,0,none⟩)] w fun e w' => e = .returned (.tuple #[]) ∧ (w'.heap[b]? = some (.cells #[.pointer (some ⟨b,0,none⟩),v] 85 (0,0)) ∧ w'.ownsRowF n₀ 5 1 v bs.length bs ∧ Wrote n₀ b v w w') := by
  rcases hp with rfl | rfl
  ·have h0 : w.cell? ⟨b,0,none⟩ = some (.pointer none) := (blk_cell hk 0).trans rfl
   refine (copyCheck_fresh b w h0 (by simp [World.shape?,hk]) (blk_frozen hk 0)).mono ?_
   rintro e w' ⟨rfl,rfl⟩
   exact ⟨rfl,blk_put hk 0 _ rfl,hr.kept (grownBy_setCell' w b _) (.inr hne),(Wrote.refl _ _ _ _).setCell hb _⟩
  ·have h0 : w.cell? ⟨b,0,none⟩ = some (.pointer (some ⟨b,0,none⟩)) := (blk_cell hk 0).trans rfl
   refine (copyCheck_used b w h0).mono ?_
   rintro e w' ⟨rfl,rfl⟩
   exact ⟨rfl,hk,hr,Wrote.refl _ _ _ _⟩
 clear hk hr hp
 go_enter Tryd.func87,Tryd.ntmps87
 go_wp2_with (go_at_call 99;refine hcc.mono ?_)
 rintro e w1 ⟨rfl,hbk,hown,hW⟩
 have c0 : w1.cell? ⟨b,0,none⟩ = some (.pointer (some ⟨b,0,none⟩)) := (blk_cell hbk 0).trans rfl
 have c1 : w1.cell? ⟨b,1,none⟩ = some v := (blk_cell hbk 1).trans rfl
 go_wp2_with (at_builtin;go_must (refine Lib.wpList_append_own_stringF _ rfl _ _ 73 9 rfl n₀ 5 i0 Tryd.underlying73 Tryd.underlying9 hi hz0 hz1 hz2 _ _ _ rfl hown s rfl ?c3 ?c4 ?c5 ?_))
 case c3 => unfold maxLen;omega
 case c4 => omega
 case c5 => have := hW.below.size;omega
 intro v' w2 hown' hgrow _
 have hlt : b < w1.heap.size := (Array.getElem?_eq_some_iff.1 hbk).1
 have hb2 : w2.heap[b]? = some (.cells #[.pointer (some ⟨b,0,none⟩),v] 85 (0,0)) := by
  rw [hgrow.block b hlt (fun e => hne e.symm)]
  exact hbk
 have d0 : w2.cell? ⟨b,0,none⟩ = some (.pointer (some ⟨b,0,none⟩)) := (blk_cell hb2 0).trans rfl
 have d1 : w2.cell? ⟨b,1,none⟩ = some v := (blk_cell hb2 1).trans rfl
 have f1 : w2.frozen? ⟨b,1,none⟩ = false := blk_frozen hb2 1
 have hne' : v'.ownBlock ≠ some b := Lib.ownBlock_neF hown' hb2 (by decide)
 have hW2 : Wrote n₀ b v w w2 := by
  refine ⟨hW.below.trans (((Below.refl n₀ w1).grown hgrow (by have := hW.below.size;omega) (fun k hk => (hown.lt k hk).1))),hW.others.trans (KeepsOthers.of_grownBy hgrow fun j o ej hj => ?_),fun k hk h1 h2 => ?_⟩
  ·obtain ⟨o',ho',hc'⟩ := ownsRowF_cells hown j ej
   rw [hj] at ho';cases ho';exact hc'
  ·exact (hgrow.block k (Nat.lt_of_lt_of_le hk hW.below.size) h2).trans (hW.keep k hk h1 h2)
 obtain ⟨ao,n',cap,rfl⟩ : ∃ ao n' cap,v' = .slice ao n' cap := by
  rcases hown'.2 with ⟨hv,_⟩ | ⟨g,cap,cur,fz,hv,_⟩
  ·exact ⟨_,_,_,hv⟩
  ·exact ⟨_,_,_,hv⟩
 go_wp2
 go_ret2
 refine ⟨rfl,_,⟨_,.inr rfl,blk_put hb2 1 _ rfl,?_,hne'⟩,hW2.setCell hb _⟩
 have hg1 : w2.grownBy (w2.setCell ⟨b,1,none⟩ (.slice ao n' cap)) (some b) := ⟨rfl,rfl,rfl,by simp [World.setCell],fun k _ hk => Below.heap_setCell _ _ _ _ (fun e => hk (by simp [e]))⟩
 have := hown'.kept hg1 (.inr hne')
 rw [List.length_append,Lib.strCells_length]
 exact this
end Go.Proofs.YtfhnfhgpaoddbaaDoor.U
end
section
namespace Go.Proofs.YtfhnfhgpaoddbaaDoor.Pu
open Go Go.RowKit Go.Proofs.YtfhnfhgpaoddbaaDoor.Mu Go.Proofs.YtfhnfhgpaoddbaaDoor.U Go.Proofs.YtfhnfhgpaoddbaaDoorW.PrintWords Go.Proofs.YtfhnfhgpaoddbaaDoorW.PrintLast Go.Proofs.YtfhnfhgpaoddbaaDoorW.PrintMore
theorem bt_byt (t : ByteArray) (i : Nat) (h : i < t.size) : bt t i = (byt t i : Int) := by
 unfold bt byt
 rw [dif_pos (by simpa using h)]
 simp only [Int.toNat_natCast]
 rw [get!_eq,List.getD_eq_getElem?_getD,List.getElem?_eq_getElem (by rw [← Lib.size_eq];exact h)]
 rfl
theorem lead_ans (b : Nat) : Ev (fun k => bodkinref01_lead.f k (b : Int)) (if b < 128 then ((b : Int),0) else if b < 192 then (0,-1) else if b < 224 then ((b : Int) - 192,1) else if b < 240 then ((b : Int) - 224,2) else if b < 248 then ((b : Int) - 240,3) else (0,-1)) := by
 unfold bodkinref01_lead.f
 by_cases h1 : b < 128
 ·rw [if_pos h1];exact ev_pos (by omega) (ev_now (by rw [w32 (by omega) (by omega)]))
 rw [if_neg h1]
 refine ev_neg (by omega) ?_
 have hj1 : ∀ c,Ev (fun k => bodkinref01_lead.j0 k (b : Int) c) (if c = true then (wrap32 (wrap32 (b : Int) - 192),1) else if 224 ≤ b then (if b < 240 then (wrap32 (wrap32 (b : Int) - 224),2) else if b < 248 then (wrap32 (wrap32 (b : Int) - 240),3) else (0,-1)) else (0,-1)) := by
  intro c
  refine Ev.step (fun k => bodkinref01_lead.j0.eq_2 ..) ?_
  cases c
  ·refine ev_neg (by simp) ?_
   rw [if_neg (by simp)]
   by_cases h3 : 224 ≤ b
   ·rw [if_pos h3]
    refine ev_pos (by omega) (Ev.step (fun k => bodkinref01_lead.j1.eq_2 ..) ?_)
    by_cases h4 : b < 240
    ·rw [if_pos h4];exact ev_pos (by rw [decide_eq_true_eq];omega) (Ev.now _)
    ·rw [if_neg h4];refine ev_neg (by rw [decide_eq_true_eq];omega) (ev_pos (by omega) ?_)
     by_cases h5 : b < 248
     ·rw [if_pos h5];exact ev_pos (by omega) (Ev.now _)
     ·rw [if_neg h5];exact ev_neg (by omega) (Ev.now _)
   ·rw [if_neg h3]
    exact ev_neg (by omega) (Ev.step (fun k => bodkinref01_lead.j1.eq_2 ..) (ev_neg (by simp) (ev_neg (by omega) (Ev.now _))))
  ·exact ev_pos rfl (Ev.now _)
 by_cases h2 : b < 192
 ·rw [if_pos h2]
  refine ev_neg (by omega) ?_
  have := hj1 false
  rwa [if_neg (by simp),if_neg (by omega)] at this
 ·rw [if_neg h2]
  refine ev_pos (by omega) ?_
  have := hj1 (decide ((b : Int) < 224))
  by_cases h3 : b < 224
  ·rw [if_pos (by simp;omega),w32 (x := (b : Int)) (by omega) (by omega),w32 (by omega) (by omega)] at this
   rwa [if_pos h3]
  ·rw [if_neg (by simp;omega),if_pos (by omega)] at this
   rw [if_neg h3]
   by_cases h4 : b < 240
   ·rw [if_pos h4,w32 (x := (b : Int)) (by omega) (by omega),w32 (by omega) (by omega)] at this;rwa [if_pos h4]
   ·rw [if_neg h4] at this;rw [if_neg h4]
    by_cases h5 : b < 248
    ·rw [if_pos h5,w32 (x := (b : Int)) (by omega) (by omega),w32 (by omega) (by omega)] at this;rwa [if_pos h5]
    ·rw [if_neg h5] at this;rwa [if_neg h5]
section
variable (t : ByteArray) (ht : t.size ≤ 1099511627776)
include ht
theorem begins_go (c : Nat) (n i : Nat) (hi : i ≤ n) (hs : i < t.size) (hb : 128 ≤ byt t i) (hb2 : byt t i ≤ 191) (hc : c < 100000) {v : Int} (h : Ev (fun k => bodkinref01_begins.l0 k t ((c * 64 + byt t i % 64 : Nat) : Int) n ((i + 1 : Nat) : Int)) v) : Ev (fun k => bodkinref01_begins.l0 k t c n i) v := by
 refine Ev.step (fun k => bodkinref01_begins.l0.eq_2 ..) (ev_pos (by omega) (ev_pos (by omega) (ev_pos (by omega) (ev_neg ?_ (ev_neg ?_ ?_)))))
 ·rw [bt_byt t i hs];omega
 ·rw [bt_byt t i hs];omega
 ·rw [bt_byt t i hs,w64 (by omega) (by omega)]
  have e : wrap32 (wrap32 (wrap32 ((c : Int) * 64) + wrap32 (byt t i : Int)) - 128) = ((c * 64 + byt t i % 64 : Nat) : Int) := by
   rw [w32 (x := (c : Int) * 64) (by omega) (by omega),w32 (x := (byt t i : Int)) (by omega) (by omega),w32 (x := (c : Int) * 64 + (byt t i : Int)) (by omega) (by omega),w32 (by omega) (by omega)]
   omega
  rw [e];exact h
omit ht in
theorem begins_bad (c : Int) (n i : Nat) (hi : i ≤ n) (hs : i < t.size) (hb : byt t i < 128 ∨ 191 < byt t i) : Ev (fun k => bodkinref01_begins.l0 k t c n i) (-1) := by
 refine Ev.step (fun k => bodkinref01_begins.l0.eq_2 ..) (ev_pos (by omega) (ev_pos (by omega) (ev_pos (by omega) ?_)))
 rw [bt_byt t i hs]
 by_cases h : byt t i < 128
 ·exact ev_pos (by omega) (Ev.now _)
 ·exact ev_neg (by omega) (ev_pos (by omega) (Ev.now _))
omit ht
theorem scalar_ans (c : Int) : bodkinref01_scalar.f c = some (decide (0 ≤ c ∧ c ≤ 1114111 ∧ (c < 55296 ∨ 57343 < c))) := by
 unfold bodkinref01_scalar.f
 split
 ·split
  ·split
   ·rw [decide_eq_true (by omega)]
   ·congr 1;rw [decide_eq_decide];omega
  ·rw [decide_eq_false (by omega)]
 ·rw [decide_eq_false (by omega)]
theorem size_ans (c : Int) : bodkinref01_size.f c = some (if c < 128 then 1 else if c < 2048 then 2 else if c < 65536 then 3 else 4) := by
 unfold bodkinref01_size.f;split
 ·rfl
 ·split
  ·rfl
  ·split <;> rfl
theorem begins_end (c : Int) (n : Nat) (hn : n ≤ 3) : Ev (fun k => bodkinref01_begins.l0 k t c n ((n + 1 : Nat) : Int)) (if (0 ≤ c ∧ c ≤ 1114111 ∧ (c < 55296 ∨ 57343 < c)) ∧ (if c < 128 then (1 : Int) else if c < 2048 then 2 else if c < 65536 then 3 else 4) = n + 1 then c else -1) := by
 refine Ev.step (fun k => bodkinref01_begins.l0.eq_2 ..) (ev_neg (by omega) (ev_some (scalar_ans c) ?_))
 by_cases hsc : 0 ≤ c ∧ c ≤ 1114111 ∧ (c < 55296 ∨ 57343 < c)
 ·refine ev_pos (by rw [decide_eq_true_eq];exact hsc) (ev_some (size_ans c) ?_)
  rw [w64 (by omega) (by omega)]
  by_cases hz : (if c < 128 then (1 : Int) else if c < 2048 then 2 else if c < 65536 then 3 else 4) = n + 1
  ·exact ev_pos hz (ev_now (if_pos ⟨hsc,hz⟩).symm)
  ·exact ev_neg hz (ev_now (if_neg (fun h => hz h.2)).symm)
 ·exact ev_neg (by rw [decide_eq_true_eq];exact hsc) (ev_now (if_neg (fun h => hsc h.1)).symm)
theorem begins_end_good (c n : Nat) (hn : n ≤ 3) (h : c ≤ 1114111 ∧ (c < 55296 ∨ 57343 < c)) (hz : n = 0 ∧ c < 128 ∨ n = 1 ∧ 128 ≤ c ∧ c < 2048 ∨ n = 2 ∧ 2048 ≤ c ∧ c < 65536 ∨ n = 3 ∧ 65536 ≤ c) : Ev (fun k => bodkinref01_begins.l0 k t c n ((n + 1 : Nat) : Int)) (c : Int) := by
 have := begins_end t c n hn
 rwa [if_pos] at this
 refine ⟨by omega,?_⟩
 split
 ·omega
 ·split
  ·omega
  ·split <;> omega
theorem begins_end_bad (c n : Nat) (hn : n ≤ 3) (h : ¬ (c ≤ 1114111 ∧ (c < 55296 ∨ 57343 < c) ∧ (n = 0 ∧ c < 128 ∨ n = 1 ∧ 128 ≤ c ∧ c < 2048 ∨ n = 2 ∧ 2048 ≤ c ∧ c < 65536 ∨ n = 3 ∧ 65536 ≤ c))) : Ev (fun k => bodkinref01_begins.l0 k t c n ((n + 1 : Nat) : Int)) (-1) := by
 have := begins_end t c n hn
 rwa [if_neg] at this
 rintro ⟨h1,h2⟩
 apply h
 refine ⟨by omega,by omega,?_⟩
 split at h2
 ·omega
 ·split at h2
  ·omega
  ·split at h2 <;> omega
include ht
theorem begins_ans (h0 : 0 < t.size) : Ev (fun k => bodkinref01_begins.f k t) (uC t 0) := by
 have hlt := byt_lt t 0
 have hl := lead_ans (byt t 0)
 have hcs := uC_cases t 0
 simp only [Nat.zero_add,Nat.sub_zero] at hcs
 unfold bodkinref01_begins.f
 refine ev_pos (by omega) ?_
 have hb0 : bt t 0 = (byt t 0 : Int) := bt_byt t 0 h0
 rw [hb0]
 refine Ev.bind hl ?_
 by_cases h1 : byt t 0 < 128
 ·rw [if_pos h1]
  refine ev_neg (by simp) (Ev.step (fun k => bodkinref01_begins.j0.eq_2 ..) (ev_neg (by simp only [decide_eq_true_eq];omega) ?_))
  have hu : uC t 0 = (byt t 0 : Int) := by rcases hcs with h | h | h | h | h <;> omega
  rw [hu]
  exact begins_end_good t (byt t 0) 0 (by omega) (by omega) (by omega)
 rw [if_neg h1]
 have hneg : (¬ (192 ≤ byt t 0 ∧ byt t 0 < 224 ∧ 1 < t.size ∧ byt t 1 / 64 = 2 ∧ 128 ≤ byt t 0 % 32 * 64 + byt t 1 % 64)) →
  (¬ (224 ≤ byt t 0 ∧ byt t 0 < 240 ∧ 2 < t.size ∧ byt t 1 / 64 = 2 ∧ byt t 2 / 64 = 2 ∧ 2048 ≤ byt t 0 % 16 * 4096 + byt t 1 % 64 * 64 + byt t 2 % 64 ∧ (byt t 0 % 16 * 4096 + byt t 1 % 64 * 64 + byt t 2 % 64 < 55296 ∨ 57344 ≤ byt t 0 % 16 * 4096 + byt t 1 % 64 * 64 + byt t 2 % 64))) →
  (¬ (240 ≤ byt t 0 ∧ byt t 0 < 248 ∧ 3 < t.size ∧ byt t 1 / 64 = 2 ∧ byt t 2 / 64 = 2 ∧ byt t 3 / 64 = 2 ∧ 65536 ≤ byt t 0 % 8 * 262144 + byt t 1 % 64 * 4096 + byt t 2 % 64 * 64 + byt t 3 % 64 ∧ byt t 0 % 8 * 262144 + byt t 1 % 64 * 4096 + byt t 2 % 64 * 64 + byt t 3 % 64 ≤ 1114111)) → uC t 0 = -1 := by
  intro g2 g3 g4
  rcases hcs with h | h | h | h | h
  ·omega
  ·exact h.2.1
  ·exact absurd ⟨h.1,h.2.1,h.2.2.1,h.2.2.2.1,h.2.2.2.2.1⟩ g2
  ·exact absurd ⟨h.1,h.2.1,h.2.2.1,h.2.2.2.1,h.2.2.2.2.1,h.2.2.2.2.2.1,h.2.2.2.2.2.2.1⟩ g3
  ·exact absurd ⟨h.1,h.2.1,h.2.2.1,h.2.2.2.1,h.2.2.2.2.1,h.2.2.2.2.2.1,h.2.2.2.2.2.2.1,h.2.2.2.2.2.2.2.1⟩ g4
 by_cases h2 : byt t 0 < 192
 ·rw [if_pos h2,hneg (by omega) (by omega) (by omega)]
  exact ev_pos (by simp) (Ev.step (fun k => bodkinref01_begins.j0.eq_2 ..) (ev_pos rfl (Ev.now _)))
 rw [if_neg h2]
 by_cases h3 : byt t 0 < 224
 ·rw [if_pos h3]
  refine ev_neg (by simp) (Ev.step (fun k => bodkinref01_begins.j0.eq_2 ..) ?_)
  by_cases hs : t.size ≤ 1
  ·rw [hneg (by omega) (by omega) (by omega)];exact ev_pos (by simp;omega) (Ev.now _)
  refine ev_neg (by simp;omega) ?_
  rw [show (byt t 0 : Int) - 192 = ((byt t 0 - 192 : Nat) : Int) by omega]
  have k1 := byt_lt t 1
  by_cases hb : byt t 1 < 128 ∨ 191 < byt t 1
  ·rw [hneg (by omega) (by omega) (by omega)];exact begins_bad t _ 1 1 (by omega) (by omega) hb
  refine begins_go t ht _ 1 1 (by omega) (by omega) (by omega) (by omega) (by omega) ?_
  by_cases hg : 128 ≤ byt t 0 % 32 * 64 + byt t 1 % 64
  ·have hu : uC t 0 = (((byt t 0 - 192) * 64 + byt t 1 % 64 : Nat) : Int) := by
    have hd := dec_eq t 0
    rw [dec_two _ _ _ _ _ (by omega) (by omega) (by omega) (show byt t (0 + 1) / 64 = 2 by rw [Nat.zero_add];omega) (by rw [Nat.zero_add];omega)] at hd
    have := (uC_of t 0 _ _ hd (by omega)).1
    rw [this,Nat.zero_add];omega
   rw [hu]
   exact begins_end_good t _ 1 (by omega) (by omega) (by omega)
  ·rw [hneg (by omega) (by omega) (by omega)]
   exact begins_end_bad t _ 1 (by omega) (by omega)
 rw [if_neg h3]
 by_cases h4 : byt t 0 < 240
 ·rw [if_pos h4]
  refine ev_neg (by simp) (Ev.step (fun k => bodkinref01_begins.j0.eq_2 ..) ?_)
  by_cases hs : t.size ≤ 2
  ·rw [hneg (by omega) (by omega) (by omega)];exact ev_pos (by simp;omega) (Ev.now _)
  refine ev_neg (by simp;omega) ?_
  rw [show (byt t 0 : Int) - 224 = ((byt t 0 - 224 : Nat) : Int) by omega]
  have k1 := byt_lt t 1
  have k2 := byt_lt t 2
  by_cases hb : byt t 1 < 128 ∨ 191 < byt t 1
  ·rw [hneg (by omega) (by omega) (by omega)];exact begins_bad t _ 2 1 (by omega) (by omega) hb
  refine begins_go t ht _ 2 1 (by omega) (by omega) (by omega) (by omega) (by omega) ?_
  by_cases hb' : byt t 2 < 128 ∨ 191 < byt t 2
  ·rw [hneg (by omega) (by omega) (by omega)];exact begins_bad t _ 2 2 (by omega) (by omega) hb'
  refine begins_go t ht _ 2 2 (by omega) (by omega) (by omega) (by omega) (by omega) ?_
  by_cases hg : 2048 ≤ byt t 0 % 16 * 4096 + byt t 1 % 64 * 64 + byt t 2 % 64 ∧ (byt t 0 % 16 * 4096 + byt t 1 % 64 * 64 + byt t 2 % 64 < 55296 ∨ 57344 ≤ byt t 0 % 16 * 4096 + byt t 1 % 64 * 64 + byt t 2 % 64)
  ·have hu : uC t 0 = ((((byt t 0 - 224) * 64 + byt t 1 % 64) * 64 + byt t 2 % 64 : Nat) : Int) := by
    have hd := dec_eq t 0
    simp only [Nat.zero_add] at hd
    rw [dec_three _ _ _ _ _ (by omega) (by omega) (by omega) (by omega) (by omega) (by omega) (by omega)] at hd
    have := (uC_of t 0 _ _ hd (by omega)).1
    rw [this];omega
   rw [hu]
   exact begins_end_good t _ 2 (by omega) (by omega) (by omega)
  ·rw [hneg (by omega) (by omega) (by omega)]
   exact begins_end_bad t _ 2 (by omega) (by omega)
 rw [if_neg h4]
 by_cases h5 : byt t 0 < 248
 ·rw [if_pos h5]
  refine ev_neg (by simp) (Ev.step (fun k => bodkinref01_begins.j0.eq_2 ..) ?_)
  by_cases hs : t.size ≤ 3
  ·rw [hneg (by omega) (by omega) (by omega)];exact ev_pos (by simp;omega) (Ev.now _)
  refine ev_neg (by simp;omega) ?_
  rw [show (byt t 0 : Int) - 240 = ((byt t 0 - 240 : Nat) : Int) by omega]
  have k1 := byt_lt t 1
  have k2 := byt_lt t 2
  have k3 := byt_lt t 3
  by_cases hb : byt t 1 < 128 ∨ 191 < byt t 1
  ·rw [hneg (by omega) (by omega) (by omega)];exact begins_bad t _ 3 1 (by omega) (by omega) hb
  refine begins_go t ht _ 3 1 (by omega) (by omega) (by omega) (by omega) (by omega) ?_
  by_cases hb' : byt t 2 < 128 ∨ 191 < byt t 2
  ·rw [hneg (by omega) (by omega) (by omega)];exact begins_bad t _ 3 2 (by omega) (by omega) hb'
  refine begins_go t ht _ 3 2 (by omega) (by omega) (by omega) (by omega) (by omega) ?_
  by_cases hb'' : byt t 3 < 128 ∨ 191 < byt t 3
  ·rw [hneg (by omega) (by omega) (by omega)];exact begins_bad t _ 3 3 (by omega) (by omega) hb''
  refine begins_go t ht _ 3 3 (by omega) (by omega) (by omega) (by omega) (by omega) ?_
  by_cases hg : 65536 ≤ byt t 0 % 8 * 262144 + byt t 1 % 64 * 4096 + byt t 2 % 64 * 64 + byt t 3 % 64 ∧ byt t 0 % 8 * 262144 + byt t 1 % 64 * 4096 + byt t 2 % 64 * 64 + byt t 3 % 64 ≤ 1114111
  ·have hu : uC t 0 = (((((byt t 0 - 240) * 64 + byt t 1 % 64) * 64 + byt t 2 % 64) * 64 + byt t 3 % 64 : Nat) : Int) := by
    have hd := dec_eq t 0
    simp only [Nat.zero_add] at hd
    rw [dec_four _ _ _ _ _ (by omega) (by omega) (by omega) (by omega) (by omega) (by omega) (by omega) (by omega)] at hd
    have := (uC_of t 0 _ _ hd (by omega)).1
    rw [this];omega
   rw [hu]
   exact begins_end_good t _ 3 (by omega) (by omega) (by omega)
  ·rw [hneg (by omega) (by omega) (by omega)]
   exact begins_end_bad t _ 3 (by omega) (by omega)
 ·rw [if_neg h5,hneg (by omega) (by omega) (by omega)]
  exact ev_pos (by simp) (Ev.step (fun k => bodkinref01_begins.j0.eq_2 ..) (ev_pos rfl (Ev.now _)))
end
theorem size_unit (s : ByteArray) (i : Nat) (h : 0 ≤ uC s i) : bodkinref01_size.f (uC s i) = some (uN s i : Int) := by
 rw [size_ans]
 have := byt_lt s i;have := byt_lt s (i + 1);have := byt_lt s (i + 2);have := byt_lt s (i + 3)
 rcases uC_cases s i with h1 | h1 | h1 | h1 | h1
 ·rw [if_pos (by omega)];simp [h1.2.2]
 ·omega
 ·rw [if_neg (by omega),if_pos (by omega)];simp [h1.2.2.2.2.2.2]
 ·rw [if_neg (by omega),if_neg (by omega),if_pos (by omega)];simp [h1.2.2.2.2.2.2.2.2]
 ·rw [if_neg (by omega),if_neg (by omega),if_neg (by omega)];simp [h1.2.2.2.2.2.2.2.2.2]
theorem ref_units_loop (s : ByteArray) (hs : s.size ≤ 1099511627776) : ∀ n x : Nat,∀ us : List S30,s.size - x ≤ n → us.length + n ≤ 2199023255552 → Ev (fun k => bodkinref01_Units.l0 k s us x) (us ++ (walkL s n x).map (·.2)) := by
 intro n
 induction n with
 | zero => intro x us hn hl;exact Ev.step (fun k => bodkinref01_Units.l0.eq_2 ..) (ev_neg (by omega) (ev_now (by simp [walkL])))
 | succ n ih =>
  intro x us hn hl
  by_cases hx : x < s.size
  ·have h1 := uN_pos s x
   have h4 := uN_le4 s x
   have hb := begins_ans (s.extract x s.size) (by rw [size_extract _ _ _ (Nat.le_refl _)];omega) (by rw [size_extract _ _ _ (Nat.le_refl _)];omega)
   rw [uC_extract s x hx] at hb
   have hgo := ih (x + uN s x) (us ++ [uAt s x]) (by omega) (by simp;omega)
   have e : us ++ (walkL s (n + 1) x).map (·.2) = (us ++ [uAt s x]) ++ (walkL s n (x + uN s x)).map (·.2) := by
    rw [walkL,if_pos hx];simp
   rw [e]
   refine Ev.step (fun k => bodkinref01_Units.l0.eq_2 ..) (ev_pos (by omega) (ev_pos (by omega) (ev_pos (by omega) (Ev.bind hb ?_))))
   by_cases hc : 0 ≤ uC s x
   ·refine ev_pos hc (ev_some (size_unit s x hc) (ev_pos (by omega) ?_))
    rw [w64 (by omega) (by omega)];exact hgo
   ·have hr : uC s x = -1 ∧ uN s x = 1 := by have := uC_range s x;omega
    refine ev_neg hc (ev_pos (by omega) ?_)
    rw [w64 (by omega) (by omega)]
    have e3 : uAt s x = ⟨uC s x,1⟩ := by unfold uAt;rw [hr.2];rfl
    rw [hr.2,e3] at hgo
    rw [hr.2,e3]
    exact hgo
  ·refine Ev.step (fun k => bodkinref01_Units.l0.eq_2 ..) (ev_neg (by omega) (ev_now ?_))
   rw [walkL,if_neg hx];simp
theorem ref_units_ans (s : ByteArray) (hs : s.size ≤ 1099511627776) : Ev (fun k => bodkinref01_Units.f k s) (unitsL s) := by
 have := ref_units_loop s hs s.size 0 [] (by omega) (by simp;omega)
 exact this
theorem drop_cons {α : Type} {l t : List α} {b d : α} {i : Nat} (h : l.drop i = b :: t) : i < l.length ∧ l.getD i d = b ∧ l.drop (i + 1) = t := by
 have h1 : i < l.length := by
  rcases Nat.lt_or_ge i l.length with h2 | h2
  ·exact h2
  ·rw [List.drop_eq_nil_of_le h2] at h;cases h
 rw [List.drop_eq_getElem_cons h1] at h
 injection h with h2 h3
 exact ⟨h1,by rw [List.getD_eq_getElem?_getD,List.getElem?_eq_getElem h1];exact h2,h3⟩
theorem drop_nil_le {α : Type} {l : List α} {i : Nat} (h : l.drop i = []) : l.length ≤ i := List.drop_eq_nil_iff.1 h
end Go.Proofs.YtfhnfhgpaoddbaaDoor.Pu
end
