/- What the law ClusterWalks reaches of this seat's own texts, merged; what nothing uses is left out. -/
import Derived.Test.YtfhnfhgpaoddbaaDoorProg
import Derived.Below
import Derived.Deep.Draws
import Derived.Deep.AppendLies
import Derived.Maps.AppendAt
import Derived.OwnWalk
import Derived.Laws.BytesArg
import Derived.Laws.MakeOwn
import Derived.Laws.OwnMore
import Derived.Deep.OwnRows
import Derived.Tactics
import Derived.Lib.ConvBytes
import Derived.Laws.Slices
import Derived.WalkKit
import Derived.KernelRfl
import Derived.RowKit3
import Derived.Deep.LoopGhost
import Derived.Deep.QuietTactic
import Derived.BigQuiet
import Derived.WideLaws
import Derived.Deep.DeepCutAuto
import Derived.Deep.CutBlock
import Derived.Deep.RegionHeld3
import Derived.Laws.Rows
import Derived.Lib.AppendStr
import Derived.ArgAppend
import Derived.Laws.IdiomCopy
import Derived.OrdersHeld
import Derived.Laws.BitsLemmas
import Derived.RowKit
import Derived.Shelf.Strings.Builder1
import Derived.Shelf.Small.Utf8
import Derived.Shelf.Strings.BuilderF
import Derived.Shelf.Strings.BuilderK
import Derived.Shelf.Utf8.AppendRunePlain
import Derived.Shelf.Utf8.RuneCount
import Derived.Shelf.Strings.Prefix
import Derived.Shelf.Unicode.Decode
import Derived.Shelf.Strings.RuneCount
import Derived.Shelf.Unicode.DecodeSlow
import Derived.Shelf.Unicode.DecodeAny
import Derived.Shelf.Strings.BuilderCap
import Derived.Lib.LaidU8
import Derived.RangeFuncNested
import Derived.RangeFuncBound
import Derived.RangeFuncCalls
import Derived.RangeFuncLeaves
import Derived.Lib.DecodeN
import Derived.Lib.MapLaws
import Derived.Laws.DeepStrings4
import Derived.Shelf.Unicode.DecodeLastEight
import Derived.Shelf.Abstract
import Derived.Shelf.RegionOpen
import Derived.OwnWalkIn
import Derived.TacticsInMore
import Derived.LoopNIn
import Derived.LoopIn
import Derived.Lib.Hide
import Derived.Sort.BigQuietIn
import Derived.Sort.CutIn
import Derived.Lib.Builder
import Derived.Lib.FrozenHead
import Derived.Test.YtfhnfhgpaoddbaaDoorRows
import Derived.ProofKit
import Derived.Deep.DeepHandedRow
import Derived.LaidMore
import Derived.Lay
import Derived.Test.YtfhnfhgpaoddbaaDoorWWords
import Derived.Test.YtfhnfhgpaoddbaaDoorWLast
import Derived.Test.YtfhnfhgpaoddbaaDoorWTab
import Derived.Test.YtfhnfhgpaoddbaaDoorWQPut
import Derived.Test.YtfhnfhgpaoddbaaDoorWApart
import Derived.Test.YtfhnfhgpaoddbaaDoorWArr
import Derived.Test.YtfhnfhgpaoddbaaDoorWZeros
import Derived.Test.YtfhnfhgpaoddbaaDoorWFoot
import Derived.Test.YtfhnfhgpaoddbaaDoorWKept
import Derived.Test.YtfhnfhgpaoddbaaDoorWShare
import Derived.Test.YtfhnfhgpaoddbaaDoorWN
import Derived.Test.YtfhnfhgpaoddbaaDoorWEqStruct
import Derived.Test.YtfhnfhgpaoddbaaDoorWRepsOne
import Derived.Test.YtfhnfhgpaoddbaaDoorWInv
import Derived.Test.YtfhnfhgpaoddbaaDoorWGuard
import Derived.Test.YtfhnfhgpaoddbaaDoorWNEv
import Derived.Test.YtfhnfhgpaoddbaaDoorWMore
import Derived.Test.YtfhnfhgpaoddbaaDoorZClusterWalks0
import Derived.Test.YtfhnfhgpaoddbaaDoorZClusterWalks4
import Derived.Test.YtfhnfhgpaoddbaaDoorZClusterWalks6
import Derived.Test.YtfhnfhgpaoddbaaDoorZClusterWalks7
section
namespace Go.Proofs.YtfhnfhgpaoddbaaDoor.U
open Go.RowKit Go.Shelf Go.Proofs.YtfhnfhgpaoddbaaDoor.Mu Go.Proofs.YtfhnfhgpaoddbaaDoor.Pu Go.Proofs.YtfhnfhgpaoddbaaDoor.Rg Go.Proofs.YtfhnfhgpaoddbaaDoorW.PrintWords Go.Proofs.YtfhnfhgpaoddbaaDoorW.PrintLast Go.Proofs.YtfhnfhgpaoddbaaDoorW.PrintMore
attribute [local go_sem] Oper.semAt_some run_store_func
set_option linter.unusedVariables false
set_option linter.unusedSimpArgs false
theorem clusL_at (s : ByteArray) (pre : List S53) (x : S53) (h : pre ++ [x] <+: clusL s) : rd_T53 (clusL s) pre.length = x ∧ pre.length < (clusL s).length := by
 obtain ⟨t,ht⟩ := h
 unfold rd_T53
 rw [← ht,Int.toNat_natCast]
 simp [List.getD_eq_getElem?_getD]
/-- What the variables of ClusterWalks hold. -/
structure CwInv (w : World) (s : ByteArray) (A : Option Addr) (c n : Nat) (k : Int) (W : World) : Prop where
 b5 : Boxed W w.heap.size 46 (.slice A n c)
 bS : Boxed W (w.heap.size + 1) 9 (.string s)
 b6 : Boxed W (w.heap.size + 2) 49 (.func (.func 83) #[] #[.pointer (some ⟨w.heap.size + 1,0,none⟩)])
 b7 : Boxed W (w.heap.size + 3) 3 (.int .i64 k)
 bel : Below w.heap.size w W
theorem CwInv.grow {w : World} {s : ByteArray} {A : Option Addr} {c n : Nat} {k : Int} {X Y : World} {row : Option Nat} (h : CwInv w s A c n k X) (hg : X.grownBy Y row) (hr : ∀ r,row = some r → w.heap.size ≤ r ∧ ∃ o : Obj,X.heap[r]? = some o ∧ o.isCells = false) : CwInv w s A c n k Y :=
 have hr' : ∀ r,row = some r → ∃ o : Obj,X.heap[r]? = some o ∧ o.isCells = false := fun r e => (hr r e).2
 ⟨boxed_grow h.b5 hg hr',boxed_grow h.bS hg hr',boxed_grow h.b6 hg hr',boxed_grow h.b7 hg hr',h.bel.grown hg h.bel.size (fun k e => (hr k e).1)⟩
theorem CwInv.below {w : World} {s : ByteArray} {A : Option Addr} {c n : Nat} {k : Int} {X Y : World} (h : CwInv w s A c n k X) (hb : Below X.heap.size X Y) : CwInv w s A c n k Y :=
 ⟨boxed_below h.b5 hb,boxed_below h.bS hb,boxed_below h.b6 hb,boxed_below h.b7 hb,h.bel.trans (hb.mono h.bel.size)⟩
theorem CwInv.step {w : World} {s : ByteArray} {A : Option Addr} {c n : Nat} {k : Int} {X : World} (h : CwInv w s A c n k X) (k' : Int) :
  CwInv w s A c n k' (X.setCell ⟨w.heap.size + 3,0,none⟩ (.int .i64 k')) := by
 have hsz := h.bel.size
 exact ⟨h.b5.other (by omega) _,h.bS.other (by omega) _,h.b6.other (by omega) _,h.b7.set _,h.bel.trans (belowAt w.heap.size (w.heap.size + 3) _ hsz (by omega))⟩
theorem one_set {w X Y : World} {B C : Nat} (hb : Below X.heap.size X Y) (hw : w.heap.size ≤ X.heap.size) (hB : w.heap.size + 3 < B) (v : Value) :
  KeepsFrom C X (Y.setCell ⟨w.heap.size + 3,0,none⟩ v) ∧ KeepB w.heap.size (fun k => k = w.heap.size + 1) B X (Y.setCell ⟨w.heap.size + 3,0,none⟩ v) := by
 have hsz := hb.size
 refine ⟨(KeepsFrom.of_grownBy (row := none) ⟨hb.os,hb.tape,hb.output,hb.size,fun i hi _ => hb.block i hi⟩ (fun _ e => by cases e)).trans ((KeepsOthers.setCell Y _ v).from C),?_,?_⟩
 ·exact (hb.mono hw).trans (belowAt w.heap.size (w.heap.size + 3) _ (by omega) (by omega))
 ·intro k o hk ho _
  have h5 : k ≠ w.heap.size + 3 := by omega
  have hlt := (Array.getElem?_eq_some_iff.1 ho).1
  exact (Below.heap_setCell Y ⟨w.heap.size + 3,0,none⟩ v k h5).trans ((hb.block k hlt).trans ho)
theorem cgoes_on {w : World} {s : ByteArray} {A : Option Addr} {c n : Nat} {k k' : Int} {B C : Nat} {X Y : World} (h : CwInv w s A c n k Y) (hb : Below X.heap.size X Y) (hw : w.heap.size ≤ X.heap.size) (hB : w.heap.size + 3 < B) :
  KeepsFrom C X (Y.setCell ⟨w.heap.size + 3,0,none⟩ (.int .i64 k')) ∧ KeepB w.heap.size (fun k => k = w.heap.size + 1) B X (Y.setCell ⟨w.heap.size + 3,0,none⟩ (.int .i64 k')) ∧
   CwInv w s A c n k' (Y.setCell ⟨w.heap.size + 3,0,none⟩ (.int .i64 k')) ∧ w.heap.size + 3 < (Y.setCell ⟨w.heap.size + 3,0,none⟩ (.int .i64 k')).heap.size :=
 ⟨(one_set (C := C) hb hw hB _).1,(one_set (C := C) hb hw hB _).2,h.step _,(h.step k').b7.lt⟩
theorem one_setG {X Y : World} {n₀ b B C : Nat} {Pr : Nat → Prop} (hb : Below X.heap.size X Y) (hn : n₀ ≤ X.heap.size) (hb0 : n₀ ≤ b) (hB : b < B) (hPr : ∀ k,Pr k → k ≠ b) (v : Value) :
  KeepsFrom C X (Y.setCell ⟨b,0,none⟩ v) ∧ KeepB n₀ Pr B X (Y.setCell ⟨b,0,none⟩ v) := by
 have hsz := hb.size
 refine ⟨(KeepsFrom.of_grownBy (row := none) ⟨hb.os,hb.tape,hb.output,hb.size,fun i hi _ => hb.block i hi⟩ (fun _ e => by cases e)).trans ((KeepsOthers.setCell Y _ v).from C),?_,?_⟩
 ·exact (hb.mono hn).trans (belowAt n₀ b _ (by omega) hb0)
 ·intro k o hk ho _
  have h5 : k ≠ b := by
   rcases hk with hk | hk
   ·exact hPr k hk
   ·omega
  have hlt := (Array.getElem?_eq_some_iff.1 ho).1
  exact (Below.heap_setCell Y ⟨b,0,none⟩ v k h5).trans ((hb.block k hlt).trans ho)
set_option maxRecDepth 100000 in
set_option maxHeartbeats 4000000 in
theorem walks_any (s : ByteArray) (stop : Int) (w : World) (hs : s.size ≤ 1099511627776) (hT : Lib.Utf8Tabs 0 1 w) :
  Calls Tryd.prog 13 #[.string s,.int .i64 stop] w fun e w' => e = .returned (.bool true) ∧ Below w.heap.size w w' := by
 have hlen : (clusL s).length ≤ s.size := clusL_length s
 have hnn : ∀ a W,(binOp .eql 49 (.func (.func 83) #[] #[.pointer (some a)]) .nilFunc).run Tryd.prog W = .ok (.bool false) W := fun a W => by kernel_rfl
 obtain ⟨kf,hkf⟩ := Ev.rounds fixed_ans
 obtain ⟨kl,hkl⟩ := Ev.rounds (ref_list_ans s hs)
 have hkf := Lib.hid hkf
 have hkl := Lib.hid hkl
 refine (callsIn_wide (n := 12)).1 ?_
 refine callsIn_of_wp_marks Tryd.func13 rfl trivial ?_ rfl
 simp only [Tryd.ntmps13,List.size_toArray,List.length_cons,List.length_nil,Nat.reduceAdd,Nat.reduceSub,Array.replicate_succ,Array.replicate_zero,List.push_toArray,List.append_toArray,List.nil_append,List.cons_append]
 have bT0 := (Boxed.new w 3 (.int .i64 stop)).alloc (.cells #[.bool false] 4)
 have bR0 := Boxed.new (w.alloc (.cells #[.int .i64 stop] 3)) 4 (.bool false)
 rw [World.size_alloc] at bR0
 have hBa : Below w.heap.size w ((w.alloc (.cells #[.int .i64 stop] 3)).alloc (.cells #[.bool false] 4)) := ((Below.refl _ w).alloc (Nat.le_refl _) _).alloc (by simp) _
 have hT1 := tabs_below hT hBa
 obtain ⟨W1,hW1⟩ : ∃ W1,(w.alloc (.cells #[.int .i64 stop] 3)).alloc (.cells #[.bool false] 4) = W1 := ⟨_,rfl⟩
 rw [hW1] at bT0 bR0 hBa hT1
 gi_wp2_with (refine ⟨trivial,?_⟩;gi_at_call 39;refine (callsIn_wide.2 (bodkinlaw03_fixed.calls kf true rfl W1 hT1 hkf.out)).mono ?_;rintro e w2 ⟨rfl,hb2⟩)
 have hBb : Below w.heap.size w w2 := hBa.trans (hb2.mono hBa.size)
 gi_wp2_with (refine ⟨trivial,?_⟩;gi_at_call 40;refine (callsIn_wide.2 (bodkinref03_List.calls kl s (clusL s) w2 hkl.out)).mono ?_;rintro e w3 ⟨v0,rfl,hR,hb3⟩;obtain ⟨A,c,rfl,hcl,hr_⟩ := Kd.R_reads hR;clear hR)
 have hB3 : Below W1.heap.size W1 w3 := hb2.trans (hb3.mono hb2.size)
 have hBw : Below w.heap.size w w3 := hBa.trans (hB3.mono hBa.size)
 have bT : Boxed w3 w.heap.size 3 (.int .i64 stop) := (hB3.block _ bT0.lt).trans bT0
 have bR : Boxed w3 (w.heap.size + 1) 4 (.bool false) := (hB3.block _ bR0.lt).trans bR0
 have hT3 := tabs_below hT hBw
 clear hb2 hb3 hB3 hBa hBb hT1 bT0 bR0 hW1
 gi_wp2_with (refine ⟨trivial,?_⟩;gi_at_call 41;refine (callsIn_wide.2 (cwalk_calls s _)).mono ?_;rintro e w' ⟨rfl,rfl⟩)
 simp only [Nat.add_assoc,Nat.reduceAdd]
 have hN : w.heap.size + 1 < w3.heap.size := bR.lt
 have hne1 : w.heap.size ≠ w3.heap.size + 3 := by omega
 have hne2 : w3.heap.size + 3 ≠ w.heap.size := by omega
 obtain ⟨W0,hW0⟩ : ∃ W0,(((w3.alloc (.cells #[.slice A (clusL s).length c] 46)).alloc (.cells #[.string s] 9)).alloc (.cells #[.func (.func 83) #[] #[.pointer (some ⟨w3.heap.size + 1,0,none⟩)]] 49)).alloc (.cells #[.int .i64 0] 3) = W0 := ⟨_,rfl⟩
 rw [hW0]
 have hI0 : CwInv w3 s A c (clusL s).length 0 W0 := by
  rw [← hW0]
  refine ⟨(((Boxed.new w3 _ _).alloc _).alloc _).alloc _,?_,?_,?_,?_⟩
  ·have := Boxed.new (w3.alloc (.cells #[.slice A (clusL s).length c] 46)) 9 (.string s)
   rw [World.size_alloc] at this
   exact (this.alloc _).alloc _
  ·have := Boxed.new ((w3.alloc (.cells #[.slice A (clusL s).length c] 46)).alloc (.cells #[.string s] 9)) 49 (.func (.func 83) #[] #[.pointer (some ⟨w3.heap.size + 1,0,none⟩)])
   rw [World.size_alloc,World.size_alloc] at this
   exact this.alloc _
  ·have := Boxed.new (((w3.alloc (.cells #[.slice A (clusL s).length c] 46)).alloc (.cells #[.string s] 9)).alloc (.cells #[.func (.func 83) #[] #[.pointer (some ⟨w3.heap.size + 1,0,none⟩)]] 49)) 3 (.int .i64 0)
   rw [World.size_alloc,World.size_alloc,World.size_alloc] at this
   exact this
  ·exact ((((Below.refl _ w3).alloc (Nat.le_refl _) _).alloc (by simp) _).alloc (by simp;omega) _).alloc (by simp;omega) _
 have hsz : W0.heap.size = w3.heap.size + 4 := by rw [← hW0];simp
 clear hW0
 rename_i Q' K hKa
 have key : ∀ (D : Nat) (k : Int) (W : World),w3.heap.size + 4 ≤ D → CwInv w3 s A c (clusL s).length k W → Hid (1 ≤ stop → stop ≤ ((clusL s).length : Int) → k = stop) → W.heap[D]? = some (.deferred (some [])) →
   K { tmps := #[.string s,.int .i64 stop,undef,.pointer (some ⟨w.heap.size,0,none⟩),.pointer (some ⟨w.heap.size + 1,0,none⟩),.pointer (some ⟨w3.heap.size,0,none⟩),.pointer (some ⟨w3.heap.size + 2,0,none⟩),.pointer (some ⟨w3.heap.size + 3,0,none⟩),undef,undef,undef,undef,.bool true,.bool false,.string s,.slice A (clusL s).length c,.string s,.func (.func 83) #[] #[.pointer (some ⟨w3.heap.size + 1,0,none⟩)],.func (.func 83) #[] #[.pointer (some ⟨w3.heap.size + 1,0,none⟩)],.bool false,.func (.func 83) #[] #[.pointer (some ⟨w3.heap.size + 1,0,none⟩)],undef,undef,undef,undef,undef,undef,undef,undef,undef,undef,undef,undef,undef,undef,undef,undef,undef,undef,undef,undef,undef,undef,undef,undef,undef,undef,undef,undef,undef,undef,undef,undef,undef,undef,undef,undef,undef,undef,undef,undef,undef,undef,undef,undef,undef,undef,undef,undef,undef,undef,undef,undef,undef,undef,undef,undef,undef,undef,undef,undef,undef,undef,undef,undef,undef,undef,undef,undef,undef,undef,undef,undef,undef,undef],defers := [{ target := .collected D,args := #[] }] } W := by
  intro D k W hD hi hks hK
  refine hKa _ _ ?_
  clear hKa
  have bT1 : Boxed W w.heap.size 3 (.int .i64 stop) := (hi.bel.block _ bT.lt).trans bT
  have cT := bT1.cell
  have c7 := hi.b7.cell
  have f7 := hi.b7.frozen
  have c5 := hi.b5.cell
  have c6 := hi.b6.cell
  dsimp only
  gi_upto_region 14 with (fail)
  rename_i K2 hKa2 K3 hKa3
  have key2 : ∀ (u39 u40 u41 u42 u43 u44 u45 u46 u47 u48 u49 u50 u51 : Value),K2 { tmps := #[.string s,.int .i64 stop,undef,.pointer (some ⟨w.heap.size,0,none⟩),.pointer (some ⟨w.heap.size + 1,0,none⟩),.pointer (some ⟨w3.heap.size,0,none⟩),.pointer (some ⟨w3.heap.size + 2,0,none⟩),.pointer (some ⟨w3.heap.size + 3,0,none⟩),undef,undef,undef,undef,.bool true,.bool false,.string s,.slice A (clusL s).length c,.string s,.func (.func 83) #[] #[.pointer (some ⟨w3.heap.size + 1,0,none⟩)],.func (.func 83) #[] #[.pointer (some ⟨w3.heap.size + 1,0,none⟩)],.bool false,.func (.func 83) #[] #[.pointer (some ⟨w3.heap.size + 1,0,none⟩)],undef,undef,undef,undef,undef,undef,undef,undef,undef,undef,undef,undef,undef,undef,undef,undef,undef,undef,u39,u40,u41,u42,u43,u44,u45,u46,u47,u48,u49,u50,u51,undef,undef,undef,undef,undef,undef,undef,undef,undef,undef,undef,undef,undef,undef,undef,undef,undef,undef,undef,undef,undef,undef,undef,undef,undef,undef,undef,undef,undef,undef,undef,undef,undef,undef,undef,undef,undef,undef,undef,undef,undef,undef,undef],defers := [{ target := .collected D,args := #[] }] } W := by
   intro u39 u40 u41 u42 u43 u44 u45 u46 u47 u48 u49 u50 u51
   refine hKa2 _ _ ?_
   clear hKa2 hKa3
   dsimp only
   gi_wp2
   have hDW : D < W.heap.size := (Array.getElem?_eq_some_iff.1 hK).1
   have hiB := hi.step 0
   have hKB : (W.setCell ⟨w3.heap.size + 3,0,none⟩ (.int .i64 0)).heap[D]? = some (.deferred (some [])) := (Below.heap_setCell W ⟨w3.heap.size + 3,0,none⟩ (.int .i64 0) D (show D ≠ w3.heap.size + 3 by omega)).trans hK
   obtain ⟨Wb,hWb⟩ : ∃ Wb,W.setCell ⟨w3.heap.size + 3,0,none⟩ (.int .i64 0) = Wb := ⟨_,rfl⟩
   rw [hWb] at hiB hKB ⊢
   have hDB : D < Wb.heap.size := (Array.getElem?_eq_some_iff.1 hKB).1
   clear hWb c5 c6 c7 f7 cT bT1 hks hi hK hDW
   have hszb := hiB.bel.size
   have hszb3 := hiB.b7.lt
   refine range_outer (α := S53) (Pr := fun k => k = w3.heap.size + 1) rfl (by omega) (gf := 83) (lb := #[.pointer (some ⟨w3.heap.size + 1,0,none⟩)]) rfl trivial (enters_of Tryd.func83 (by kernel_rfl) rfl)
    (cwalk1_seq 11 (by omega) w3 Wb s (w3.heap.size + 1) hs hT3 hiB.bel hiB.bS) (Below.refl _ _) (fun _ => rfl) hszb
    (fun (B : Nat) (pre : List S53) (W : World) => CwInv w3 s A c (clusL s).length (pre.length : Int) W ∧ (w3.heap.size + 3 < B ∧ pre <+: clusL s ∧ W.heap[D]? = some (.deferred (some []))))
    (fun _ _ _ => False)
    (fun B pre X Y row h hg hr => ⟨h.1.grow hg (fun r e => ⟨by have := (hr r e).1;omega,(hr r e).2⟩),h.2.1,h.2.2.1,(hg.block D (Array.getElem?_eq_some_iff.1 h.2.2.2).1 (fun e => by have := (hr D e.symm).1;omega)).trans h.2.2.2⟩)
    (fun B B' pre W hBB h => ⟨h.1,by omega,h.2.2⟩)
    (fun _ _ _ _ _ hs _ _ => hs)
    ⟨hiB,by omega,List.nil_prefix,hKB⟩
    (fun (x : S53) (a' : Act) (W : World) => ∃ Bx,Hid (W.heap[Bx]? = some (.cells #[.int .i64 x.f0,.int .i64 x.f1,.int .i64 x.f2,.int .i64 x.f3] 53 (0,0))) ∧ a' = { tmps := #[.string s,.int .i64 stop,undef,.pointer (some ⟨w.heap.size,0,none⟩),.pointer (some ⟨w.heap.size + 1,0,none⟩),.pointer (some ⟨w3.heap.size,0,none⟩),.pointer (some ⟨w3.heap.size + 2,0,none⟩),.pointer (some ⟨w3.heap.size + 3,0,none⟩),undef,.pointer (some ⟨Bx,0,none⟩),undef,undef,.bool true,.bool false,.string s,.slice A (clusL s).length c,.string s,.func (.func 83) #[] #[.pointer (some ⟨w3.heap.size + 1,0,none⟩)],.func (.func 83) #[] #[.pointer (some ⟨w3.heap.size + 1,0,none⟩)],.bool false,.func (.func 83) #[] #[.pointer (some ⟨w3.heap.size + 1,0,none⟩)],undef,undef,undef,undef,undef,undef,undef,undef,undef,undef,undef,undef,undef,undef,undef,undef,undef,undef,u39,u40,u41,u42,u43,u44,u45,u46,u47,u48,u49,u50,u51,.func (.func 83) #[] #[.pointer (some ⟨w3.heap.size + 1,0,none⟩)],.agg #[.int .i64 x.f0,.int .i64 x.f1,.int .i64 x.f2,.int .i64 x.f3],undef,undef,undef,undef,undef,undef,undef,undef,undef,undef,undef,undef,undef,undef,undef,undef,undef,undef,undef,undef,undef,undef,undef,undef,undef,undef,undef,undef,undef,undef,undef,undef,undef,undef,undef,undef,undef,undef,undef,undef,undef],defers := [] })
    (fun x a' _ X Y row hs hg hr => by
     obtain ⟨Bx,h1,h2⟩ := hs
     refine ⟨Bx,?_,h2⟩
     refine (hg.block Bx (Array.getElem?_eq_some_iff.1 h1).1 (fun e => ?_)).trans h1
     obtain ⟨_,o,ho,hc⟩ := hr Bx e.symm
     rw [show X.heap[Bx]? = _ from h1] at ho;cases ho;cases hc)
    ?assign ?body ?done ?stop
   case assign =>
    rintro l B pre x W K' hCW hBW hI hK
    have hsz1 := hI.1.bel.size
    gi_wp2
    exact hK _ _ ((KeepsOthers.alloc _ _).from _) (KeepB.of_below hsz1 ((Below.refl _ W).alloc (Nat.le_refl _) _)) ⟨hI.1.below ((Below.refl _ W).alloc (Nat.le_refl _) _),hI.2.1,hI.2.2.1,(Below.heap_alloc W _ D (Array.getElem?_eq_some_iff.1 hI.2.2.2).1).trans hI.2.2.2⟩ ⟨W.heap.size,Lib.hid (World.alloc_heap_new W _),rfl⟩
   case body =>
    rintro l B pre x a' W hl hCW hr hBW ⟨hi,hoB,hpp,hD0⟩ ⟨Bx,hBx,rfl⟩ hlt hpx
    obtain ⟨hu1,hu2⟩ := clusL_at s pre x hpx
    have hbs := hi.bel.size
    have c5 := hi.b5.cell
    have c7 := hi.b7.cell
    have cx0 : W.cell? ⟨Bx,0,none⟩ = some (.int .i64 x.f0) := by simp [World.cell?,show W.heap[Bx]? = _ from hBx]
    have cx1 : W.cell? ⟨Bx,1,none⟩ = some (.int .i64 x.f1) := by simp [World.cell?,show W.heap[Bx]? = _ from hBx]
    have cx2 : W.cell? ⟨Bx,2,none⟩ = some (.int .i64 x.f2) := by simp [World.cell?,show W.heap[Bx]? = _ from hBx]
    have cx3 : W.cell? ⟨Bx,3,none⟩ = some (.int .i64 x.f3) := by simp [World.cell?,show W.heap[Bx]? = _ from hBx]
    obtain ⟨ad,hA,ca0,ca1,ca2,ca3⟩ := at_T53 hr_ (pre.length : Int) (by omega) (by omega)
    rw [hu1] at ca0 ca1 ca2 ca3
    have ca0 := pw_cell_below hi.bel ca0
    have ca1 := pw_cell_below hi.bel ca1
    have ca2 := pw_cell_below hi.bel ca2
    have ca3 := pw_cell_below hi.bel ca3
    simp only [Int.toNat_natCast] at ca0 ca1 ca2 ca3
    have hu := Tryd.underlying53
    have hg1 : decide ((pre.length : Int) ≥ ((clusL s).length : Int)) = false := decide_eq_false (by omega)
    have hg1n : decide ((clusL s).length ≤ pre.length) = false := decide_eq_false (by omega)
    subst hA
    dsimp only
    gi_upto_region 19 with (fail)
    refine region_quiet_lit rfl (by kernel_rfl) (by kernel_rfl) ?_
    repeat (gi_big_quiet_step (fail))
    refine wpQuietIn_nil ?_
    rintro _ ⟨nq,rfl⟩
    have hbW : Below W.heap.size W (W.drewN nq) := pw_below_drewN (Below.refl _ W) nq
    have hi1 := hi.below hbW
    obtain ⟨W1,hW1⟩ : ∃ W1,W.drewN nq = W1 := ⟨_,rfl⟩
    have hD1 : W1.heap[D]? = some (.deferred (some [])) := by rw [← hW1];exact (hbW.block D (Array.getElem?_eq_some_iff.1 hD0).1).trans hD0
    have hr1 : ∃ r,W1.heap[l]? = some (.loop r) := by obtain ⟨r,h⟩ := hr;exact ⟨r,by rw [← hW1];exact (hbW.block l (Array.getElem?_eq_some_iff.1 h).1).trans h⟩
    rw [hW1] at hbW hi1 ⊢
    clear hW1 c5 c7 cx0 cx1 cx2 cx3 ca0 ca1 ca2 ca3 hu1 hBx
    have bT1 : Boxed W1 w.heap.size 3 (.int .i64 stop) := (hi1.bel.block _ bT.lt).trans bT
    have cT := bT1.cell
    have c5 := hi1.b5.cell
    have c6 := hi1.b6.cell
    have c7 := hi1.b7.cell
    have f7 := hi1.b7.frozen
    have e1 : (((pre ++ [x]).length : Nat) : Int) = (pre.length : Int) + 1 := by simp
    have hpl : (pre.length : Int) < 1099511627776 := by omega
    by_cases hp : (pre.length : Int) = stop
    ·have hp1 : ((pre.length : Int) == stop) = true := by simpa using hp
     have c6a := (hi1.b6.alloc (.cells #[.int .i64 0] 3)).cell
     clear hp hu2
     gi_wp2
     obtain ⟨r1,hr1⟩ := hr1
     have hBI := Boxed.new W1 3 (.int .i64 0)
     refine range_inner (α := S53) (Pr := fun k => k = w3.heap.size + 1) (n₀ := W1.heap.size) (l₀ := l) (r₀ := r1) rfl ((Below.heap_alloc W1 _ l (Array.getElem?_eq_some_iff.1 hr1).1).trans hr1) (by omega) (gf := 83) (lb := #[.pointer (some ⟨w3.heap.size + 1,0,none⟩)]) rfl trivial (enters_of Tryd.func83 (by kernel_rfl) rfl)
      ((cwalk1_seq 9 (by omega) W1 _ s (w3.heap.size + 1) hs (tabs_below hT3 hi1.bel) ((Below.refl _ W1).alloc (Nat.le_refl _) _) (hi1.bS.alloc _)).inRound l) (Below.refl _ _) (fun _ => rfl) (by simp)
      (fun (B' : Nat) (qs : List S53) (W' : World) => (Boxed W' W1.heap.size 3 (.int .i64 (qs.length : Int)) ∧ Below W1.heap.size W1 W') ∧ (W1.heap.size < B' ∧ qs.length ≤ s.size))
      (fun _ _ _ => False)
      (fun B' => OwnFrom.and (OwnFrom.and (Own.from (boxed_own W1.heap.size 3 (fun (qs : List S53) => .int .i64 (qs.length : Int))) _) (ownFrom_below (Nat.le_refl _) (by simp))) (ownFrom_pure _ (fun (qs : List S53) => W1.heap.size < B' ∧ qs.length ≤ s.size)))
      (fun B' B'' qs W' hBB h => ⟨h.1,by omega,h.2.2⟩)
      (fun _ _ _ _ _ hs _ _ => hs)
      ⟨⟨hBI,(Below.refl _ W1).alloc (Nat.le_refl _) _⟩,by simp,by simp⟩
      (fun (y : S53) (a' : Act) (W' : World) => ∃ By,Hid (W'.heap[By]? = some (.cells #[.int .i64 y.f0,.int .i64 y.f1,.int .i64 y.f2,.int .i64 y.f3] 53 (0,0))) ∧ a' = { tmps := #[.string s,.int .i64 stop,undef,.pointer (some ⟨w.heap.size,0,none⟩),.pointer (some ⟨w.heap.size + 1,0,none⟩),.pointer (some ⟨w3.heap.size,0,none⟩),.pointer (some ⟨w3.heap.size + 2,0,none⟩),.pointer (some ⟨w3.heap.size + 3,0,none⟩),undef,.pointer (some ⟨Bx,0,none⟩),.pointer (some ⟨W1.heap.size,0,none⟩),.pointer (some ⟨By,0,none⟩),.bool true,.bool false,.string s,.slice (some ad) (clusL s).length c,.string s,.func (.func 83) #[] #[.pointer (some ⟨w3.heap.size + 1,0,none⟩)],.func (.func 83) #[] #[.pointer (some ⟨w3.heap.size + 1,0,none⟩)],.bool false,.func (.func 83) #[] #[.pointer (some ⟨w3.heap.size + 1,0,none⟩)],undef,undef,undef,undef,undef,undef,undef,undef,undef,undef,undef,undef,undef,undef,undef,undef,undef,undef,u39,u40,u41,u42,u43,u44,u45,u46,u47,u48,u49,u50,u51,.func (.func 83) #[] #[.pointer (some ⟨w3.heap.size + 1,0,none⟩)],.agg #[.int .i64 x.f0,.int .i64 x.f1,.int .i64 x.f2,.int .i64 x.f3],.int .i64 (pre.length : Int),.slice (some ad) (clusL s).length c,.int .i64 ((clusL s).length : Int),.bool false,.bool false,.agg #[.int .i64 x.f0,.int .i64 x.f1,.int .i64 x.f2,.int .i64 x.f3],.slice (some ad) (clusL s).length c,.int .i64 (pre.length : Int),.pointer (some (ad.add (pre.length * 4))),.agg #[.int .i64 x.f0,.int .i64 x.f1,.int .i64 x.f2,.int .i64 x.f3],.bool false,.bool false,.int .i64 (pre.length : Int),.int .i64 stop,.bool true,.func (.func 83) #[] #[.pointer (some ⟨w3.heap.size + 1,0,none⟩)],.agg #[.int .i64 y.f0,.int .i64 y.f1,.int .i64 y.f2,.int .i64 y.f3],undef,undef,undef,undef,undef,undef,undef,undef,undef,undef,undef,undef,undef,undef,undef,undef,undef,undef,undef,undef,undef,undef,undef,undef],defers := [] })
      (fun x a' _ X Y row hs hg hr => by
       obtain ⟨By,h1,h2⟩ := hs
       refine ⟨By,?_,h2⟩
       refine (hg.block By (Array.getElem?_eq_some_iff.1 h1).1 (fun e => ?_)).trans h1
       obtain ⟨_,o,ho,hc⟩ := hr By e.symm
       rw [show X.heap[By]? = _ from h1] at ho;cases ho;cases hc)
      ?iassign ?ibody ?idone ?istop
     case iassign =>
      rintro l' B' qs y W' K' hCW' hBW' hI' hK'
      have hsz1 := hI'.1.2.size
      clear hp1 hg1 hg1n c5 c6 c7 f7 cT c6a
      gi_wp2
      exact hK' _ _ ((KeepsOthers.alloc _ _).from _) (KeepB.of_below hsz1 ((Below.refl _ W').alloc (Nat.le_refl _) _)) ⟨⟨hI'.1.1.alloc _,hI'.1.2.alloc hsz1 _⟩,hI'.2⟩ ⟨W'.heap.size,Lib.hid (World.alloc_heap_new W' _),rfl⟩
     case ibody =>
      rintro l' B' qs y a'' W' hl' hCW' hr' hBW' ⟨⟨hb',hbel'⟩,hB',hq'⟩ ⟨By,hBy,rfl⟩ hlt' hqy
      obtain ⟨hv1,hv2⟩ := clusL_at s qs y hqy
      have hi' := hi1.below hbel'
      clear hp1 hg1 hg1n c5 c6 c7 f7 cT c6a
      have c5' := hi'.b5.cell
      have cI := hb'.cell
      have cy0 : W'.cell? ⟨By,0,none⟩ = some (.int .i64 y.f0) := by simp [World.cell?,show W'.heap[By]? = _ from hBy]
      have cy1 : W'.cell? ⟨By,1,none⟩ = some (.int .i64 y.f1) := by simp [World.cell?,show W'.heap[By]? = _ from hBy]
      have cy2 : W'.cell? ⟨By,2,none⟩ = some (.int .i64 y.f2) := by simp [World.cell?,show W'.heap[By]? = _ from hBy]
      have cy3 : W'.cell? ⟨By,3,none⟩ = some (.int .i64 y.f3) := by simp [World.cell?,show W'.heap[By]? = _ from hBy]
      obtain ⟨ad',hA',da0,da1,da2,da3⟩ := at_T53 hr_ (qs.length : Int) (by omega) (by omega)
      obtain rfl : ad = ad' := by injection hA'
      rw [hv1] at da0 da1 da2 da3
      have da0 := pw_cell_below hi'.bel da0
      have da1 := pw_cell_below hi'.bel da1
      have da2 := pw_cell_below hi'.bel da2
      have da3 := pw_cell_below hi'.bel da3
      simp only [Int.toNat_natCast] at da0 da1 da2 da3
      have hg2 : decide ((qs.length : Int) ≥ ((clusL s).length : Int)) = false := decide_eq_false (by omega)
      have hg2n : decide ((clusL s).length ≤ qs.length) = false := decide_eq_false (by omega)
      dsimp only
      gi_upto_region 25 with (fail)
      refine region_quiet_lit rfl (by kernel_rfl) (by kernel_rfl) ?_
      repeat (gi_big_quiet_step (fail))
      refine wpQuietIn_nil ?_
      rintro _ ⟨nq',rfl⟩
      have hbq : Below W'.heap.size W' (W'.drewN nq') := pw_below_drewN (Below.refl _ W') nq'
      have hb2 := boxed_below hb' hbq
      obtain ⟨W2,hW2⟩ : ∃ W2,W'.drewN nq' = W2 := ⟨_,rfl⟩
      rw [hW2] at hbq hb2 ⊢
      clear hW2 c5' cI cy0 cy1 cy2 cy3 da0 da1 da2 da3 hv1 hg2 hg2n
      have cI := hb2.cell
      have fI := hb2.frozen
      have hql : (qs.length : Int) < 1099511627776 := by omega
      have e2 : (((qs ++ [y]).length : Nat) : Int) = (qs.length : Int) + 1 := by simp
      have hpr : ∀ k,k = w3.heap.size + 1 → k ≠ W1.heap.size := fun k hk => by have := hi1.bS.lt;omega
      have hfin := Lib.hid (one_setG (Pr := fun k => k = w3.heap.size + 1) (C := W1.heap.size + 1) hbq hbel'.size (Nat.le_refl W1.heap.size) hB' hpr (.int .i64 ((qs.length : Int) + 1)))
      have hbs2 := hb2.set (.int .i64 ((qs.length : Int) + 1))
      have hlt2 : (qs ++ [y]).length ≤ s.size := by rw [List.length_append];simp;omega
      have hlt3 : W1.heap.size < (W2.setCell ⟨W1.heap.size,0,none⟩ (.int .i64 ((qs.length : Int) + 1))).heap.size := hbs2.lt
      have hbs2 := Lib.hid hbs2
      have hbl2 : Below W1.heap.size W1 (W2.setCell ⟨W1.heap.size,0,none⟩ (.int .i64 ((qs.length : Int) + 1))) := hbel'.trans hfin.out.2.1
      clear hv2
      gi_wp2
      exact ⟨hfin.out.1,hfin.out.2,⟨by rw [e2];exact hbs2.out,hbl2⟩,hlt3,hlt2⟩
     case idone =>
      rintro qs W' hCW' hqs ⟨⟨hb',hbel'⟩,hB',hq'⟩
      obtain rfl : qs = clusL s := hqs
      have hne' : (((clusL s).length : Int) != ((clusL s).length : Int)) = false := by simp
      have hi2 := hi1.below hbel'
      clear hp1 hg1 hg1n c5 c6 c7 f7 cT c6a
      have c5 := hi2.b5.cell
      have c7 := hi2.b7.cell
      have f7 := hi2.b7.frozen
      have dI := hb'.cell
      have hbW2 : Below W.heap.size W W' := hbW.trans (hbel'.mono hbW.size)
      have hfin := Lib.hid (cgoes_on (k' := (pre.length : Int) + 1) (C := Wb.heap.size) hi2 hbW2 hbs hoB)
      have hDf : (W'.setCell ⟨w3.heap.size + 3,0,none⟩ (.int .i64 ((pre.length : Int) + 1))).heap[D]? = some (.deferred (some [])) := (Below.heap_setCell W' ⟨w3.heap.size + 3,0,none⟩ _ D (show D ≠ w3.heap.size + 3 by omega)).trans ((hbel'.block D (Array.getElem?_eq_some_iff.1 hD1).1).trans hD1)
      gi_wp2
      exact ⟨hfin.out.1,hfin.out.2.1,⟨by rw [e1];exact hfin.out.2.2.1,hfin.out.2.2.2,hpx,hDf⟩⟩
     case istop =>
      rintro c' qs W' _ _ h
      exact h.elim
    ·have hp1 : ((pre.length : Int) == stop) = false := by simpa using hp
     have hfin := Lib.hid (cgoes_on (k' := (pre.length : Int) + 1) (C := Wb.heap.size) hi1 hbW hbs hoB)
     have hDf : (W1.setCell ⟨w3.heap.size + 3,0,none⟩ (.int .i64 ((pre.length : Int) + 1))).heap[D]? = some (.deferred (some [])) := (Below.heap_setCell W1 ⟨w3.heap.size + 3,0,none⟩ _ D (show D ≠ w3.heap.size + 3 by omega)).trans hD1
     clear hp hu2
     gi_wp2
     exact ⟨hfin.out.1,hfin.out.2.1,⟨by rw [e1];exact hfin.out.2.2.1,hfin.out.2.2.2,hpx,hDf⟩⟩
   case done =>
    rintro D2 ys W hD2 hys ⟨hi,_,_,hD0⟩ hK2
    obtain rfl : ys = clusL s := hys
    have c7 := hi.b7.cell
    have c5 := hi.b5.cell
    have bR1 : Boxed W (w.heap.size + 1) 4 (.bool false) := (hi.bel.block _ bR.lt).trans bR
    have cR := bR1.cell
    have fR := bR1.frozen
    gi_wp2
    have hK2' : (W.setCell ⟨w.heap.size + 1,0,none⟩ (.bool true)).heap[D2]? = some (.deferred (some [])) := (Below.heap_setCell W ⟨w.heap.size + 1,0,none⟩ (.bool true) D2 (show D2 ≠ w.heap.size + 1 by omega)).trans hK2
    have hD0' : (W.setCell ⟨w.heap.size + 1,0,none⟩ (.bool true)).heap[D]? = some (.deferred (some [])) := (Below.heap_setCell W ⟨w.heap.size + 1,0,none⟩ (.bool true) D (show D ≠ w.heap.size + 1 by omega)).trans hD0
    have hD0'' : ((W.setCell ⟨w.heap.size + 1,0,none⟩ (.bool true)).putObj D2 (.deferred none)).heap[D]? = some (.deferred (some [])) := (World.putObj_heap_other (by omega)).trans hD0'
    have hb2 := bR1.set (.bool true)
    have hbel : Below w.heap.size w (W.setCell ⟨w.heap.size + 1,0,none⟩ (.bool true)) := (hBw.trans (hi.bel.mono (by omega))).trans (belowAt w.heap.size (w.heap.size + 1) (.bool true) (by have := hi.bel.size;omega) (by omega))
    refine ⟨by simp,.inl ⟨_,_,rfl,run_takeDeferred hK2',?_⟩⟩
    refine ⟨by simp,.inl ⟨_,_,rfl,run_takeDeferred hD0'',?_⟩⟩
    refine ⟨_,results_cell rfl _ _ _ (a := ⟨w.heap.size + 1,0,none⟩) (v := .bool true) rfl (load_bool ((World.putObj_heap_other (by omega)).trans ((World.putObj_heap_other (by omega)).trans hb2))),rfl,?_⟩
    exact (hbel.trans (belowK_b (w := w) (Nat.le_refl _) _ D2 _ _ (by omega) hK2' rfl rfl)).trans (belowK_b (w := w) (Nat.le_refl _) _ D _ _ (by omega) hD0'' rfl rfl)
   case stop =>
    rintro D cd pre W _ _ h _
    exact h.elim
  clear hKa2
  by_cases h1 : stop ≥ 1
  ·have h1b : decide (stop ≥ 1) = true := decide_eq_true h1
   by_cases h2 : stop ≤ ((clusL s).length : Int)
   ·have h2b : decide (stop ≤ ((clusL s).length : Int)) = true := decide_eq_true h2
    have h3b : (k != stop) = false := by have := hks.out h1 h2;simp [this]
    clear h1 h2
    gi_wp2
    exact key2 ..
   ·have h2b : decide (stop ≤ ((clusL s).length : Int)) = false := decide_eq_false h2
    clear h1 h2
    gi_wp2
    exact key2 ..
  ·have h1b : decide (stop ≥ 1) = false := decide_eq_false h1
   clear h1
   gi_wp2
   exact key2 ..
 clear hKa
 refine range_outer (α := S53) (Pr := fun k => k = w3.heap.size + 1) rfl (by omega) (gf := 83) (lb := #[.pointer (some ⟨w3.heap.size + 1,0,none⟩)]) rfl trivial (enters_of Tryd.func83 (by kernel_rfl) rfl)
  (cwalk1_seq 11 (by omega) w3 W0 s (w3.heap.size + 1) hs hT3 hI0.bel hI0.bS) (Below.refl _ _) (fun _ => rfl) (by omega)
  (fun (B : Nat) (pre : List S53) (W : World) => CwInv w3 s A c (clusL s).length (pre.length : Int) W ∧ (w3.heap.size + 3 < B ∧ pre <+: clusL s ∧ Hid (∀ j : Nat,1 ≤ j → j ≤ pre.length → (j : Int) ≠ stop)))
  (fun cd pre W => cd = Code.exit 0 ∧ CwInv w3 s A c (clusL s).length (pre.length : Int) W ∧ Hid ((pre.length : Int) = stop))
  (fun B pre X Y row h hg hr => ⟨h.1.grow hg (fun r e => ⟨by have := (hr r e).1;omega,(hr r e).2⟩),h.2⟩)
  (fun B B' pre W hBB h => ⟨h.1,by omega,h.2.2⟩)
  (fun _ pre X Y row h hg hr => ⟨h.1,h.2.1.grow hg (fun r e => ⟨by have := (hr r e).1;omega,(hr r e).2⟩),h.2.2⟩)
  ⟨hI0,by omega,List.nil_prefix,Lib.hid (fun j h1 h2 => by simp at h2;omega)⟩
  (fun (x : S53) (a' : Act) (W : World) => ∃ Bx,Hid (W.heap[Bx]? = some (.cells #[.int .i64 x.f0,.int .i64 x.f1,.int .i64 x.f2,.int .i64 x.f3] 53 (0,0))) ∧ a' = { tmps := #[.string s,.int .i64 stop,undef,.pointer (some ⟨w.heap.size,0,none⟩),.pointer (some ⟨w.heap.size + 1,0,none⟩),.pointer (some ⟨w3.heap.size,0,none⟩),.pointer (some ⟨w3.heap.size + 2,0,none⟩),.pointer (some ⟨w3.heap.size + 3,0,none⟩),.pointer (some ⟨Bx,0,none⟩),undef,undef,undef,.bool true,.bool false,.string s,.slice A (clusL s).length c,.string s,.func (.func 83) #[] #[.pointer (some ⟨w3.heap.size + 1,0,none⟩)],.func (.func 83) #[] #[.pointer (some ⟨w3.heap.size + 1,0,none⟩)],.bool false,.func (.func 83) #[] #[.pointer (some ⟨w3.heap.size + 1,0,none⟩)],.agg #[.int .i64 x.f0,.int .i64 x.f1,.int .i64 x.f2,.int .i64 x.f3],undef,undef,undef,undef,undef,undef,undef,undef,undef,undef,undef,undef,undef,undef,undef,undef,undef,undef,undef,undef,undef,undef,undef,undef,undef,undef,undef,undef,undef,undef,undef,undef,undef,undef,undef,undef,undef,undef,undef,undef,undef,undef,undef,undef,undef,undef,undef,undef,undef,undef,undef,undef,undef,undef,undef,undef,undef,undef,undef,undef,undef,undef,undef,undef,undef,undef,undef,undef,undef,undef,undef,undef,undef],defers := [] })
  (fun x a' _ X Y row hs hg hr => by
   obtain ⟨Bx,h1,h2⟩ := hs
   refine ⟨Bx,?_,h2⟩
   refine (hg.block Bx (Array.getElem?_eq_some_iff.1 h1).1 (fun e => ?_)).trans h1
   obtain ⟨_,o,ho,hc⟩ := hr Bx e.symm
   rw [show X.heap[Bx]? = _ from h1] at ho;cases ho;cases hc)
  ?assign ?body ?done ?stop
 case assign =>
  rintro l B pre x W K' hCW hBW hI hK
  have hsz1 := hI.1.bel.size
  gi_wp2
  exact hK _ _ ((KeepsOthers.alloc _ _).from _) (KeepB.of_below hsz1 ((Below.refl _ W).alloc (Nat.le_refl _) _)) ⟨hI.1.below ((Below.refl _ W).alloc (Nat.le_refl _) _),hI.2⟩ ⟨W.heap.size,Lib.hid (World.alloc_heap_new W _),rfl⟩
 case body =>
  rintro l B pre x a' W hl hCW hr hBW ⟨hi,hoB,hpp,hst0⟩ ⟨Bx,hBx,rfl⟩ hlt hpx
  obtain ⟨hu1,hu2⟩ := clusL_at s pre x hpx
  have hbs := hi.bel.size
  have c5 := hi.b5.cell
  have c7 := hi.b7.cell
  have cx0 : W.cell? ⟨Bx,0,none⟩ = some (.int .i64 x.f0) := by simp [World.cell?,show W.heap[Bx]? = _ from hBx]
  have cx1 : W.cell? ⟨Bx,1,none⟩ = some (.int .i64 x.f1) := by simp [World.cell?,show W.heap[Bx]? = _ from hBx]
  have cx2 : W.cell? ⟨Bx,2,none⟩ = some (.int .i64 x.f2) := by simp [World.cell?,show W.heap[Bx]? = _ from hBx]
  have cx3 : W.cell? ⟨Bx,3,none⟩ = some (.int .i64 x.f3) := by simp [World.cell?,show W.heap[Bx]? = _ from hBx]
  obtain ⟨ad,hA,ca0,ca1,ca2,ca3⟩ := at_T53 hr_ (pre.length : Int) (by omega) (by omega)
  rw [hu1] at ca0 ca1 ca2 ca3
  have ca0 := pw_cell_below hi.bel ca0
  have ca1 := pw_cell_below hi.bel ca1
  have ca2 := pw_cell_below hi.bel ca2
  have ca3 := pw_cell_below hi.bel ca3
  simp only [Int.toNat_natCast] at ca0 ca1 ca2 ca3
  have hu := Tryd.underlying53
  have hg1 : decide ((pre.length : Int) ≥ ((clusL s).length : Int)) = false := decide_eq_false (by omega)
  have hg1n : decide ((clusL s).length ≤ pre.length) = false := decide_eq_false (by omega)
  subst hA
  dsimp only
  gi_upto_region 10 with (fail)
  refine region_quiet_lit rfl (by kernel_rfl) (by kernel_rfl) ?_
  repeat (gi_big_quiet_step (fail))
  refine wpQuietIn_nil ?_
  rintro _ ⟨nq,rfl⟩
  have hbW : Below W.heap.size W (W.drewN nq) := pw_below_drewN (Below.refl _ W) nq
  have hi1 := hi.below hbW
  obtain ⟨W1,hW1⟩ : ∃ W1,W.drewN nq = W1 := ⟨_,rfl⟩
  rw [hW1] at hbW hi1 ⊢
  clear hW1 c5 c7 cx0 cx1 cx2 cx3 ca0 ca1 ca2 ca3
  have bT1 : Boxed W1 w.heap.size 3 (.int .i64 stop) := (hi1.bel.block _ bT.lt).trans bT
  have cT := bT1.cell
  have c7 := hi1.b7.cell
  have f7 := hi1.b7.frozen
  have e1 : (((pre ++ [x]).length : Nat) : Int) = (pre.length : Int) + 1 := by simp
  have hpl : (pre.length : Int) < 1099511627776 := by omega
  by_cases hp : (pre.length : Int) + 1 = stop
  ·have hp1 : ((pre.length : Int) + 1 == stop) = true := by simpa using hp
   have hfin := Lib.hid (cgoes_on (k' := (pre.length : Int) + 1) (C := w3.heap.size + 4) hi1 hbW hbs hoB)
   have hp2 := Lib.hid hp
   clear hu1 hu2 hp
   gi_wp2
   exact ⟨hfin.out.1,rfl,by rw [e1];exact hfin.out.2.2.1,by rw [e1];exact hp2⟩
  ·have hp1 : ((pre.length : Int) + 1 == stop) = false := by simpa using hp
   have hfin := Lib.hid (cgoes_on (k' := (pre.length : Int) + 1) (C := w3.heap.size + 4) hi1 hbW hbs hoB)
   have hstn : Hid (∀ j : Nat,1 ≤ j → j ≤ (pre ++ [x]).length → (j : Int) ≠ stop) := Lib.hid (fun j h1 h2 => by
    rw [List.length_append] at h2
    simp at h2
    by_cases hj : j ≤ pre.length
    ·exact hst0.out j h1 hj
    ·have : j = pre.length + 1 := by omega
     rw [this];omega)
   clear hu1 hu2 hp
   gi_wp2
   exact ⟨hfin.out.1,hfin.out.2.1,⟨by rw [e1];exact hfin.out.2.2.1,hfin.out.2.2.2,hpx,hstn⟩⟩
 case done =>
  rintro D ys W hD hys ⟨hi,_,_,hno⟩ hK
  obtain rfl : ys = clusL s := hys
  refine key D _ W (by omega) hi (Lib.hid (fun h1 h2 => ?_)) hK
  exact absurd (by omega : ((stop.toNat : Nat) : Int) = stop) (hno.out stop.toNat (by omega) (by omega))
 case stop =>
  rintro D cd pre W hD hpre ⟨rfl,hi,hst⟩ hK
  gi_wp2
  exact key D _ W (by omega) hi (Lib.hid (fun _ _ => hst.out)) hK
def bodkinlaw03_ClusterWalks.f (a0 : ByteArray) (a1 : Int) : Option (Bool) := if a0.size ≤ 1099511627776 then some true else none
theorem bodkinlaw03_ClusterWalks.calls (a0 : ByteArray) (a1 : Int) (r : Bool) (w : World) (hT : Lib.Utf8Tabs 0 1 w) (h : bodkinlaw03_ClusterWalks.f a0 a1 = some r) :
  Calls Tryd.prog 13 #[.string a0,.int .i64 a1] w fun e w' => e = .returned (.bool r) ∧ Below w.heap.size w w' := by
 unfold bodkinlaw03_ClusterWalks.f at h
 split at h
 ·rename_i hs
  obtain rfl := Option.some.inj h
  exact walks_any a0 a1 w hs hT
 ·cases h
end Go.Proofs.YtfhnfhgpaoddbaaDoor.U
end
section
namespace Go.Proofs.YtfhnfhgpaoddbaaDoor.Pure
open Go Go.RowKit Go.Proofs.YtfhnfhgpaoddbaaDoor.U
theorem ClusterWalks (a0 : ByteArray) (a1 : Int) (u0 : a0.size ≤ 1048576) (_w1 : (Lit.int .i64 a1).wf = true) : bodkinlaw03_ClusterWalks.f a0 a1 = some true := by
 unfold bodkinlaw03_ClusterWalks.f
 rw [if_pos (by omega)]
end Go.Proofs.YtfhnfhgpaoddbaaDoor.Pure
end
section
namespace Go.Proofs.YtfhnfhgpaoddbaaDoor.Lf
open Go.Lib Go.Proofs
theorem own : ownKnob Tryd.prog.godebug = none := by kernel_rfl
theorem extra : U8Extra Tryd.prog Tryd.lays260_ren := {
 n3 := by kernel_rfl
 n4 := by kernel_rfl
 y3 := by kernel_rfl
 y4 := by kernel_rfl
 c5 := by kernel_rfl
 c119 := by kernel_rfl
 c138 := by kernel_rfl }
theorem first_eq : Rows.laid_unicode_utf8_first = Lib.firstData := by kernel_rfl
theorem accept_eq : (Rows.laid_unicode_utf8_acceptRanges : DataW Unit) = Lib.acceptData := by kernel_rfl
abbrev laid : List (String × DataW Unit) := [("unicode/utf8.acceptRanges", Rows.laid_unicode_utf8_acceptRanges), ("unicode/utf8.first", Rows.laid_unicode_utf8_first)]
/-- The two tables lie as the contracts ask. -/
theorem tabs {W : World} (h : laidMetH Tryd.prog laid W) : Lib.Utf8Tabs 0 1 W := by
  rw [MakeChecks.laidMetH_plain _ _ _ (by kernel_rfl)] at h
  have h3 := laidMet.reads h (n := "unicode/utf8.first") (d := Rows.laid_unicode_utf8_first) (List.mem_cons_of_mem _ List.mem_cons_self)
  have h4 := laidMet.reads h (n := "unicode/utf8.acceptRanges") (d := Rows.laid_unicode_utf8_acceptRanges) List.mem_cons_self
  rw [first_eq] at h3
  rw [accept_eq] at h4
  exact utf8Tabs_of_reads Tryd.lays260 extra h3 h4
/-- The world of the witness: the settled one,the tables laid. -/
noncomputable abbrev wit (os : Os) : World := World.laidAll Tryd.prog os laid
theorem wit_laid (os : Os) (args : Array Value) : laidMetH Tryd.prog laid ((wit os).forCall (fun _ _ => 0) ⟨#[],args,[]⟩).memory := by
 rw [MakeChecks.laidMetH_plain _ _ _ (by kernel_rfl)]
 exact laidMet_laidAll _ (by kernel_rfl) (by kernel_rfl)
theorem wit_shaped (os : Os) (args : Array Value) : ((wit os).forCall (fun _ _ => 0) ⟨#[],args,[]⟩).Shaped Tryd.prog :=
 World.shaped_of_ZipB (by kernel_rfl) (by kernel_rfl)
end Go.Proofs.YtfhnfhgpaoddbaaDoor.Lf
end
