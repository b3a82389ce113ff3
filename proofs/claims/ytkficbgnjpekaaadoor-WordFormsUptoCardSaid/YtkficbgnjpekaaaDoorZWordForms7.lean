/- What the law WordForms reaches of this seat's own texts, merged; what nothing uses is left out. -/
import Derived.Test.YtkficbgnjpekaaaDoorProg
import Derived.Below
import Derived.Deep.Draws
import Derived.Deep.AppendLies
import Derived.Maps.AppendAt
import Derived.OwnWalk
import Derived.Laws.BytesArg
import Derived.Laws.MakeOwn
import Derived.Laws.OwnMore
import Derived.Deep.OwnRows
import Derived.Tactics
import Derived.Lib.ConvBytes
import Derived.Laws.Slices
import Derived.WalkKit
import Derived.KernelRfl
import Derived.RowKit3
import Derived.Deep.LoopGhost
import Derived.Deep.QuietTactic
import Derived.BigQuiet
import Derived.WideLaws
import Derived.Deep.DeepCutAuto
import Derived.Deep.CutBlock
import Derived.Deep.RegionHeld3
import Derived.Laws.Rows
import Derived.Lib.AppendStr
import Derived.ArgAppend
import Derived.Laws.IdiomCopy
import Derived.OrdersHeld
import Derived.Laws.BitsLemmas
import Derived.RowKit
import Derived.Shelf.Small.Utf8
import Derived.Shelf.Utf8.AppendRunePlain
import Derived.Shelf.Strings.Prefix
import Derived.Shelf.Unicode.Decode
import Derived.Shelf.Unicode.DecodeSlow
import Derived.Shelf.Unicode.DecodeAny
import Derived.Lib.LaidU8
import Derived.RangeFuncNested
import Derived.RangeFuncBound
import Derived.RangeFuncCalls
import Derived.RangeFuncLeaves
import Derived.Lib.DecodeN
import Derived.Lib.MapLaws
import Derived.Laws.DeepStrings4
import Derived.Shelf.Unicode.DecodeLastEight
import Derived.Shelf.Abstract
import Derived.Shelf.RegionOpen
import Derived.OwnWalkIn
import Derived.TacticsInMore
import Derived.LoopNIn
import Derived.LoopIn
import Derived.Lib.Hide
import Derived.Great.BuildSlice
import Derived.Great.Walk
import Derived.Deep.WholeRow
import Derived.Sort.BigQuietIn
import Derived.Sort.CutIn
import Derived.Lib.Bytes
import Derived.Maps.Own
import Derived.Maps.OwnOps
import Derived.Maps.Views
import Derived.Test.YtkficbgnjpekaaaDoorRows
import Derived.ProofKit
import Derived.Deep.DeepHandedRow
import Derived.LaidMore
import Derived.Lay
import Derived.Test.YtkficbgnjpekaaaDoorWWords
import Derived.Test.YtkficbgnjpekaaaDoorWLast
import Derived.Test.YtkficbgnjpekaaaDoorWTab
import Derived.Test.YtkficbgnjpekaaaDoorWQPut
import Derived.Test.YtkficbgnjpekaaaDoorWApart
import Derived.Test.YtkficbgnjpekaaaDoorWArr
import Derived.Test.YtkficbgnjpekaaaDoorWZeros
import Derived.Test.YtkficbgnjpekaaaDoorWFoot
import Derived.Test.YtkficbgnjpekaaaDoorWKept
import Derived.Test.YtkficbgnjpekaaaDoorWShare
import Derived.Test.YtkficbgnjpekaaaDoorWN
import Derived.Test.YtkficbgnjpekaaaDoorWEqStruct
import Derived.Test.YtkficbgnjpekaaaDoorWRepsOne
import Derived.Test.YtkficbgnjpekaaaDoorWInv
import Derived.Test.YtkficbgnjpekaaaDoorWGuard
import Derived.Test.YtkficbgnjpekaaaDoorWNEv
import Derived.Test.YtkficbgnjpekaaaDoorWMore
import Derived.Test.YtkficbgnjpekaaaDoorWSized
import Derived.Test.YtkficbgnjpekaaaDoorZWordForms1
import Derived.Test.YtkficbgnjpekaaaDoorZWordForms5
import Derived.Test.YtkficbgnjpekaaaDoorZWordForms6
section
namespace Go.Proofs.YtkficbgnjpekaaaDoor.Pure
open Go Go.RowKit Go.Proofs.YtkficbgnjpekaaaDoor.Mu Go.Proofs.YtkficbgnjpekaaaDoor.Pu Go.Proofs.YtkficbgnjpekaaaDoor.U Go.Proofs.YtkficbgnjpekaaaDoorW.PrintWords Go.Proofs.YtkficbgnjpekaaaDoorW.PrintLast Go.Proofs.YtkficbgnjpekaaaDoorW.PrintMore
set_option linter.unusedVariables false
def formsOk : Bool := casL.all fun p => decide (upC p.f1 = p.f1) && decide (lowC p.f0 = p.f0) && decide ((encO p.f0).length = (encO p.f1).length) && (wordB p.f0 == wordB p.f1)
theorem forms_ok : formsOk = true := by kernel_rfl
theorem forms_of (p : S55) (h : p ∈ casL) : upC p.f1 = p.f1 ∧ lowC p.f0 = p.f0 ∧ (encO p.f0).length = (encO p.f1).length ∧ wordB p.f0 = wordB p.f1 := by
 have := List.all_eq_true.1 forms_ok p h
 simp only [Bool.and_eq_true,decide_eq_true_eq,beq_iff_eq] at this
 exact ⟨this.1.1.1,this.1.1.2,this.1.2,this.2⟩
/-- What another upper form tells. -/
theorem up_other (c : Int) (h : upC c ≠ c) : lowC c = c ∧ lowC (upC c) = c ∧ upC (upC c) = upC c ∧ (encO (upC c)).length = (encO c).length ∧ wordB (upC c) = wordB c := by
 rcases (rest_of c).1 with h1 | ⟨p,hp,h1⟩
 ·exact absurd h1 h
 ·obtain ⟨u1,u2⟩ := up_of p hp
  obtain ⟨f1,f2,f3,f4⟩ := forms_of p hp
  rw [← h1,u1]
  exact ⟨f2,u2,f1,f3.symm,f4.symm⟩
theorem low_other (c : Int) (h : lowC c ≠ c) : upC c = c ∧ upC (lowC c) = c ∧ lowC (lowC c) = lowC c ∧ (encO (lowC c)).length = (encO c).length ∧ wordB (lowC c) = wordB c := by
 rcases (rest_of c).2 with h1 | ⟨p,hp,h1⟩
 ·exact absurd h1 h
 ·obtain ⟨u1,u2⟩ := up_of p hp
  obtain ⟨f1,f2,f3,f4⟩ := forms_of p hp
  rw [← h1,u2]
  exact ⟨f1,u1,f2,f3,f4⟩
theorem up_len (c : Int) : (encO (upC c)).length = (encO c).length ∧ wordB (upC c) = wordB c := by
 by_cases h : upC c = c
 ·rw [h];exact ⟨rfl,rfl⟩
 ·have := up_other c h;exact ⟨this.2.2.2.1,this.2.2.2.2⟩
theorem low_len (c : Int) : (encO (lowC c)).length = (encO c).length ∧ wordB (lowC c) = wordB c := by
 by_cases h : lowC c = c
 ·rw [h];exact ⟨rfl,rfl⟩
 ·have := low_other c h;exact ⟨this.2.2.2.1,this.2.2.2.2⟩
theorem enc1 (c : Int) : Ev (fun k => unit_Encode.f k [c]) (strOfNums (encO c)) := by
 have := encode_ans [c] (by simp)
 rwa [List.flatMap_cons,List.flatMap_nil,List.append_nil] at this
theorem wforms_j1 (L : List Int) (i : Nat) (c : Int) (hL : L.length ≤ 1048576) (hi : i < L.length) (hgo : Ev (fun k => bodkinlaw05_WordForms.l0 k L ((i + 1 : Nat) : Int)) true) (b : Bool) (hb : b = false) : Ev (fun k => bodkinlaw05_WordForms.j1 k L i c (upC c) (lowC c) b) true := by
 have hu := up_len c
 have hl := low_len c
 refine Ev.step (fun k => bodkinlaw05_WordForms.j1.eq_2 ..) (ev_neg (by rw [hb];simp) (Ev.bind (enc1 (upC c)) (Ev.bind (enc1 c) (ev_pos ?_ (Ev.bind (enc1 (lowC c)) (Ev.bind (enc1 c) (ev_pos ?_ (Ev.bind (isword_ans _) (Ev.bind (isword_ans c) (ev_neg ?_ (Ev.bind (isword_ans _) (Ev.bind (isword_ans c) (ev_neg ?_ ?_)))))))))))))
 ·rw [strOfNums_size,strOfNums_size,hu.1]
 ·rw [strOfNums_size,strOfNums_size,hl.1]
 ·rw [hu.2];simp
 ·rw [hl.2];simp
 ·rw [w64 (by omega) (by omega)];exact hgo
theorem wforms_loop (L : List Int) (hL : L.length ≤ 1048576) : ∀ n i : Nat,i + n = L.length → Ev (fun k => bodkinlaw05_WordForms.l0 k L i) true := by
 intro n
 induction n with
 | zero => intro i hi;exact Ev.step (fun k => bodkinlaw05_WordForms.l0.eq_2 ..) (ev_neg (by omega) (Ev.now _))
 | succ n ih =>
  intro i hi
  obtain ⟨c,hc⟩ : ∃ c,rd L (i : Int) = c := ⟨_,rfl⟩
  have hj := wforms_j1 L i c hL (by omega) (ih (i + 1) (by omega))
  refine Ev.step (fun k => bodkinlaw05_WordForms.l0.eq_2 ..) (ev_pos (by omega) (ev_pos (by omega) ?_))
  rw [hc]
  refine Ev.bind (upper_ev c) (ev_some (a := lowC c) rfl ?_)
  by_cases h1 : upC c = c
  ·refine ev_pos h1 ?_
   by_cases h2 : lowC c = c
   ·exact ev_pos h2 (hj false rfl)
   ·have ho := low_other c h2
    refine ev_neg h2 (Ev.bind (upper_ev (lowC c)) (ev_pos ho.2.1 (ev_some (a := lowC (lowC c)) rfl (hj _ ?_))))
    rw [ho.2.2.1];simp
  ·have ho := up_other c h1
   exact ev_neg h1 (ev_pos ho.1 (ev_some (a := lowC (upC c)) rfl (ev_pos ho.2.1 (Ev.bind (upper_ev (upC c)) (ev_pos ho.2.2.1 (hj false rfl))))))
theorem WordForms (l0 : List Int) (u : l0.length ≤ 1048576) (_hw : ∀ x ∈ l0,(Lit.int .i32 x).wf = true) : ∃ k,bodkinlaw05_WordForms.f k l0 = some true := by
 apply Ev.rounds
 unfold bodkinlaw05_WordForms.f
 exact Ev.bind awake_ans (ev_pos rfl (wforms_loop l0 u l0.length 0 (by omega)))
end Go.Proofs.YtkficbgnjpekaaaDoor.Pure
end
section
namespace Go.Proofs.YtkficbgnjpekaaaDoor.Lf
open Go.Lib Go.Proofs
theorem own : ownKnob Tryd.prog.godebug = none := by kernel_rfl
theorem laidOut : laidOutB Tryd.prog = true := by kernel_rfl
theorem extra : U8Extra Tryd.prog Tryd.lays260_ren := {
 n3 := by kernel_rfl
 n4 := by kernel_rfl
 y3 := by kernel_rfl
 y4 := by kernel_rfl
 c5 := by kernel_rfl
 c119 := by kernel_rfl
 c138 := by kernel_rfl }
theorem first_eq : Rows.laid_unicode_utf8_first = Lib.firstData := by kernel_rfl
theorem accept_eq : (Rows.laid_unicode_utf8_acceptRanges : DataW Unit) = Lib.acceptData := by kernel_rfl
abbrev laid : List (String × DataW Unit) := [("unicode/utf8.acceptRanges", Rows.laid_unicode_utf8_acceptRanges), ("unicode/utf8.first", Rows.laid_unicode_utf8_first)]
/-- The two tables lie as the contracts ask. -/
theorem tabs {W : World} (h : laidMetH Tryd.prog laid W) : Lib.Utf8Tabs 0 1 W := by
  rw [MakeChecks.laidMetH_plain _ _ _ (by kernel_rfl)] at h
  have h3 := laidMet.reads h (n := "unicode/utf8.first") (d := Rows.laid_unicode_utf8_first) (List.mem_cons_of_mem _ List.mem_cons_self)
  have h4 := laidMet.reads h (n := "unicode/utf8.acceptRanges") (d := Rows.laid_unicode_utf8_acceptRanges) List.mem_cons_self
  rw [first_eq] at h3
  rw [accept_eq] at h4
  exact utf8Tabs_of_reads Tryd.lays260 extra h3 h4
/-- The world of the witness: the settled one,the tables laid. -/
noncomputable abbrev wit (os : Os) : World := World.laidAll Tryd.prog os laid
theorem wit_laid (os : Os) (args : Array Value) : laidMetH Tryd.prog laid ((wit os).forCall (fun _ _ => 0) ⟨#[],args,[]⟩).memory := by
 rw [MakeChecks.laidMetH_plain _ _ _ (by kernel_rfl)]
 exact laidMet_laidAll _ (by kernel_rfl) (by kernel_rfl)
theorem wit_shaped (os : Os) (args : Array Value) : ((wit os).forCall (fun _ _ => 0) ⟨#[],args,[]⟩).Shaped Tryd.prog :=
 World.shaped_of_ZipB (by kernel_rfl) (by kernel_rfl)
end Go.Proofs.YtkficbgnjpekaaaDoor.Lf
end
