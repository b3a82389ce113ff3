/- What the law ClusterSteps reaches of this seat's own texts, merged; what nothing uses is left out. -/
import Derived.Test.YtfhnfhgpaoddbaaDoorProg
import Derived.Below
import Derived.Deep.Draws
import Derived.Deep.AppendLies
import Derived.Maps.AppendAt
import Derived.OwnWalk
import Derived.Laws.BytesArg
import Derived.Laws.MakeOwn
import Derived.Laws.OwnMore
import Derived.Deep.OwnRows
import Derived.Tactics
import Derived.Lib.ConvBytes
import Derived.Laws.Slices
import Derived.WalkKit
import Derived.KernelRfl
import Derived.RowKit3
import Derived.Deep.LoopGhost
import Derived.Deep.QuietTactic
import Derived.BigQuiet
import Derived.WideLaws
import Derived.Deep.DeepCutAuto
import Derived.Deep.CutBlock
import Derived.Deep.RegionHeld3
import Derived.Laws.Rows
import Derived.Lib.AppendStr
import Derived.ArgAppend
import Derived.Laws.IdiomCopy
import Derived.OrdersHeld
import Derived.Laws.BitsLemmas
import Derived.RowKit
import Derived.Shelf.Strings.Builder1
import Derived.Shelf.Small.Utf8
import Derived.Shelf.Strings.BuilderF
import Derived.Shelf.Strings.BuilderK
import Derived.Shelf.Utf8.AppendRunePlain
import Derived.Shelf.Utf8.RuneCount
import Derived.Shelf.Strings.Prefix
import Derived.Shelf.Unicode.Decode
import Derived.Shelf.Strings.RuneCount
import Derived.Shelf.Unicode.DecodeSlow
import Derived.Shelf.Unicode.DecodeAny
import Derived.Shelf.Strings.BuilderCap
import Derived.Lib.LaidU8
import Derived.RangeFuncNested
import Derived.RangeFuncBound
import Derived.RangeFuncCalls
import Derived.RangeFuncLeaves
import Derived.Lib.DecodeN
import Derived.Lib.MapLaws
import Derived.Laws.DeepStrings4
import Derived.Shelf.Unicode.DecodeLastEight
import Derived.Shelf.Abstract
import Derived.Shelf.RegionOpen
import Derived.OwnWalkIn
import Derived.TacticsInMore
import Derived.LoopNIn
import Derived.LoopIn
import Derived.Lib.Hide
import Derived.Sort.BigQuietIn
import Derived.Sort.CutIn
import Derived.Lib.Builder
import Derived.Lib.FrozenHead
import Derived.Test.YtfhnfhgpaoddbaaDoorRows
import Derived.ProofKit
import Derived.Deep.DeepHandedRow
import Derived.LaidMore
import Derived.Lay
import Derived.Test.YtfhnfhgpaoddbaaDoorWWords
import Derived.Test.YtfhnfhgpaoddbaaDoorWLast
import Derived.Test.YtfhnfhgpaoddbaaDoorWTab
import Derived.Test.YtfhnfhgpaoddbaaDoorWQPut
import Derived.Test.YtfhnfhgpaoddbaaDoorWApart
import Derived.Test.YtfhnfhgpaoddbaaDoorWArr
import Derived.Test.YtfhnfhgpaoddbaaDoorWZeros
import Derived.Test.YtfhnfhgpaoddbaaDoorWFoot
import Derived.Test.YtfhnfhgpaoddbaaDoorWKept
import Derived.Test.YtfhnfhgpaoddbaaDoorWShare
import Derived.Test.YtfhnfhgpaoddbaaDoorWN
import Derived.Test.YtfhnfhgpaoddbaaDoorWEqStruct
import Derived.Test.YtfhnfhgpaoddbaaDoorWRepsOne
import Derived.Test.YtfhnfhgpaoddbaaDoorWInv
import Derived.Test.YtfhnfhgpaoddbaaDoorWGuard
import Derived.Test.YtfhnfhgpaoddbaaDoorWNEv
import Derived.Test.YtfhnfhgpaoddbaaDoorWMore
import Derived.Test.YtfhnfhgpaoddbaaDoorZClusterSteps0
import Derived.Test.YtfhnfhgpaoddbaaDoorZClusterSteps4
import Derived.Test.YtfhnfhgpaoddbaaDoorZClusterSteps5
section
namespace Go.Proofs.YtfhnfhgpaoddbaaDoor.Pu
open Go Go.RowKit Go.Proofs.YtfhnfhgpaoddbaaDoor.Mu Go.Proofs.YtfhnfhgpaoddbaaDoor.U Go.Proofs.YtfhnfhgpaoddbaaDoorW.PrintWords Go.Proofs.YtfhnfhgpaoddbaaDoorW.PrintLast Go.Proofs.YtfhnfhgpaoddbaaDoorW.PrintMore
theorem fixed_ans : Ev (fun k => bodkinlaw03_fixed.f k) true := Ev.of (fun k => bodkinlaw03_fixed.mono k) (k := 200) (by kernel_rfl)
end Go.Proofs.YtfhnfhgpaoddbaaDoor.Pu
end
section
namespace Go.Proofs.YtfhnfhgpaoddbaaDoor.Pure
open Go Go.RowKit Go.Proofs.YtfhnfhgpaoddbaaDoor.Mu Go.Proofs.YtfhnfhgpaoddbaaDoor.Pu Go.Proofs.YtfhnfhgpaoddbaaDoor.U Go.Proofs.YtfhnfhgpaoddbaaDoorW.PrintWords Go.Proofs.YtfhnfhgpaoddbaaDoorW.PrintLast Go.Proofs.YtfhnfhgpaoddbaaDoorW.PrintMore
set_option linter.unusedVariables false
theorem csteps_inner (s : ByteArray) (hs : s.size ≤ 1048576) (L : List S53) (i : Int) (x : Nat) (hc : CB s x) (hx : x < s.size) (c d : Int) (h : Ev (fun k => bodkinlaw03_ClusterSteps.l0 k s L (nxt s x : Int) (wrap64 (i + 1))) true) :
  ∀ n j : Nat,nxt s x - j ≤ n → x < j → j ≤ nxt s x → Ev (fun k => bodkinlaw03_ClusterSteps.l1 k s L i j x (nxt s x : Int) c d) true := by
 have hs' : s.size ≤ 1099511627776 := by omega
 have hle := nxt_le s x hc.1 hx
 intro n
 induction n with
 | zero =>
  intro j hn hj hj2
  exact Ev.step (fun k => bodkinlaw03_ClusterSteps.l1.eq_2 ..) (ev_neg (by omega) (Ev.step (fun k => bodkinlaw03_ClusterSteps.j3.eq_2 ..) (ev_neg (by simp) h)))
 | succ n ih =>
  intro j hn hj hj2
  by_cases hlt : j < nxt s x
  ·refine Ev.step (fun k => bodkinlaw03_ClusterSteps.l1.eq_2 ..) (ev_pos (by omega) ?_)
   generalize decide ((j : Int) < wrap64 ((x : Int) + 70)) = b
   refine Ev.step (fun k => bodkinlaw03_ClusterSteps.j3.eq_2 ..) ?_
   by_cases hb : b = true
   ·have hnx := ih (j + 1) (by omega) (by omega) (by omega)
    have e1 : wrap64 ((j : Int) + 1) = ((j + 1 : Nat) : Int) := by rw [w64 (by omega) (by omega)];omega
    refine ev_pos hb (Ev.bind (cboundary_no hs' (not_cb_in s x hc.1 hx j (by omega) (by omega))) (ev_neg (by simp) (Ev.bind (cnext_ev hs' (nxtS s x hc.1 hx j (by omega) (by omega))) (ev_pos rfl
     (Ev.bind (cprev_ev hs' (cprevS_in s x hc hx j (by omega) (by omega))) (ev_pos rfl (Ev.bind (csnap_ev hs' (snapS_in s x hc.1 hx j (by omega) (by omega))) (ev_pos rfl ?_))))))))
    rw [e1]
    exact hnx
   ·exact ev_neg hb h
  ·exact Ev.step (fun k => bodkinlaw03_ClusterSteps.l1.eq_2 ..) (ev_neg (by omega) (Ev.step (fun k => bodkinlaw03_ClusterSteps.j3.eq_2 ..) (ev_neg (by simp) h)))
theorem csteps_loop (s : ByteArray) (hs : s.size ≤ 1048576) : ∀ n x i : Nat,s.size - x ≤ n → CB s x → (clusL s).drop i = ctl s x → Ev (fun k => bodkinlaw03_ClusterSteps.l0 k s (clusL s) x i) true := by
 have hs' : s.size ≤ 1099511627776 := by omega
 have hll := clusL_length s
 have hend : ∀ x i : Nat,s.size ≤ x → CB s x → (clusL s).drop i = ctl s x → Ev (fun k => bodkinlaw03_ClusterSteps.l0 k s (clusL s) x i) true := by
  intro x i hx hc hd
  have h1 := hc.1.1
  obtain rfl : x = s.size := by omega
  rw [ctl_end s _ (Nat.le_refl _)] at hd
  have hi := drop_nil_le hd
  have e1 : wrap64 ((s.size : Int) + 1) = (s.size : Int) + 1 := w64 (by omega) (by omega)
  have hcount : cluster_Count.f s = some ((clusL s).length : Int) := by unfold cluster_Count.f;rw [if_pos hs']
  refine Ev.step (fun k => bodkinlaw03_ClusterSteps.l0.eq_2 ..) (ev_neg (by omega) (ev_pos rfl (Ev.bind (cboundary_yes hs' (cbI_zero s)) (ev_pos rfl (Ev.bind (cboundary_yes hs' (cbI_size s)) (ev_pos rfl
   (Ev.bind (cboundary_no hs' (fun h => by have := cbI_le h;omega)) (ev_neg (by simp) ?_))))))))
  rw [e1]
  refine Ev.bind (cboundary_no hs' (fun h => by have := cbI_le h;omega)) (ev_neg (by simp) (Ev.bind (cnext_ev hs' (d := (s.size : Int)) ⟨cbI_size s,.inr rfl,fun e he hae => by have := cbI_le he;omega⟩) (ev_pos rfl
   (Ev.bind (cprev_ev hs' (d := 0) ⟨cbI_zero s,.inr rfl,fun e he hae => by have := cbI_le he;omega⟩) (ev_pos rfl (ev_some hcount (ev_now (by simp))))))))
 intro n
 induction n with
 | zero => intro x i hn hc hd;exact hend x i (by omega) hc hd
 | succ n ih =>
  intro x i hn hc hd
  by_cases hx : x < s.size
  ·have h1 := nxt_pos s x hx
   have hle := nxt_le s x hc.1 hx
   have hcn := nxt_cb s x hc.1 hx
   rw [ctl_go s x hx] at hd
   obtain ⟨hi,hg,hd'⟩ := drop_cons (d := z53) hd
   have hq : rd_T53 (clusL s) (i : Int) = ⟨(x : Int),(nxt s x : Int),clsAt s x,celAt s x⟩ := by unfold rd_T53;rw [Int.toNat_natCast];exact hg
   have hnext := ih (nxt s x) (i + 1) (by omega) hcn hd'
   have e1 : wrap64 ((i : Int) + 1) = ((i + 1 : Nat) : Int) := by rw [w64 (by omega) (by omega)];omega
   have e2 : wrap64 ((x : Int) + 1) = ((x + 1 : Nat) : Int) := by rw [w64 (by omega) (by omega)];omega
   have hin := csteps_inner s hs (clusL s) i x hc hx (clsAt s x) (celAt s x) (by rw [e1];exact hnext) (nxt s x) (x + 1) (by omega) (by omega) (by omega)
   rw [← e2] at hin
   refine Ev.step (fun k => bodkinlaw03_ClusterSteps.l0.eq_2 ..) ?_
   rw [hq]
   refine ev_pos (by omega) (ev_pos (by omega) (ev_pos rfl (ev_neg (show ¬ ((nxt s x : Int) ≤ (x : Int)) by omega) (ev_neg (show ¬ ((nxt s x : Int) > (s.size : Int)) by omega)
    (Ev.bind (cnext_ev hs' (nxtS s x hc.1 hx x (by omega) (by omega))) (ev_pos rfl (Ev.bind (cprev_ev hs' (cprevS_in s x hc hx (nxt s x) (by omega) (by omega))) (ev_pos rfl
     (Ev.bind (cboundary_yes hs' ((cbI_nat _ _).2 hcn)) (ev_pos rfl (Ev.bind (csnap_ev hs' (csnapS_at ((cbI_nat _ _).2 hcn))) ?_)))))))))))
   exact Ev.step (fun k => bodkinlaw03_ClusterSteps.j1.eq_2 ..) (ev_neg (by simp) hin)
  ·exact hend x i (by omega) hc hd
theorem ClusterSteps (a0 : ByteArray) (u0 : a0.size ≤ 1048576) : ∃ k,bodkinlaw03_ClusterSteps.f k a0 = some true := by
 apply Ev.rounds
 unfold bodkinlaw03_ClusterSteps.f
 have hl : cluster_List.f a0 = some (clusL a0) := by unfold cluster_List.f;rw [if_pos (by omega)]
 exact Ev.bind fixed_ans (ev_pos rfl (ev_some hl (csteps_loop a0 u0 a0.size 0 0 (by omega) (cb_zero a0) rfl)))
end Go.Proofs.YtfhnfhgpaoddbaaDoor.Pure
end
section
namespace Go.Proofs.YtfhnfhgpaoddbaaDoor.Lf
open Go.Lib Go.Proofs
theorem own : ownKnob Tryd.prog.godebug = none := by kernel_rfl
theorem extra : U8Extra Tryd.prog Tryd.lays260_ren := {
 n3 := by kernel_rfl
 n4 := by kernel_rfl
 y3 := by kernel_rfl
 y4 := by kernel_rfl
 c5 := by kernel_rfl
 c119 := by kernel_rfl
 c138 := by kernel_rfl }
theorem first_eq : Rows.laid_unicode_utf8_first = Lib.firstData := by kernel_rfl
theorem accept_eq : (Rows.laid_unicode_utf8_acceptRanges : DataW Unit) = Lib.acceptData := by kernel_rfl
abbrev laid : List (String × DataW Unit) := [("unicode/utf8.acceptRanges", Rows.laid_unicode_utf8_acceptRanges), ("unicode/utf8.first", Rows.laid_unicode_utf8_first)]
/-- The two tables lie as the contracts ask. -/
theorem tabs {W : World} (h : laidMetH Tryd.prog laid W) : Lib.Utf8Tabs 0 1 W := by
  rw [MakeChecks.laidMetH_plain _ _ _ (by kernel_rfl)] at h
  have h3 := laidMet.reads h (n := "unicode/utf8.first") (d := Rows.laid_unicode_utf8_first) (List.mem_cons_of_mem _ List.mem_cons_self)
  have h4 := laidMet.reads h (n := "unicode/utf8.acceptRanges") (d := Rows.laid_unicode_utf8_acceptRanges) List.mem_cons_self
  rw [first_eq] at h3
  rw [accept_eq] at h4
  exact utf8Tabs_of_reads Tryd.lays260 extra h3 h4
/-- The world of the witness: the settled one,the tables laid. -/
noncomputable abbrev wit (os : Os) : World := World.laidAll Tryd.prog os laid
theorem wit_laid (os : Os) (args : Array Value) : laidMetH Tryd.prog laid ((wit os).forCall (fun _ _ => 0) ⟨#[],args,[]⟩).memory := by
 rw [MakeChecks.laidMetH_plain _ _ _ (by kernel_rfl)]
 exact laidMet_laidAll _ (by kernel_rfl) (by kernel_rfl)
theorem wit_shaped (os : Os) (args : Array Value) : ((wit os).forCall (fun _ _ => 0) ⟨#[],args,[]⟩).Shaped Tryd.prog :=
 World.shaped_of_ZipB (by kernel_rfl) (by kernel_rfl)
end Go.Proofs.YtfhnfhgpaoddbaaDoor.Lf
end
