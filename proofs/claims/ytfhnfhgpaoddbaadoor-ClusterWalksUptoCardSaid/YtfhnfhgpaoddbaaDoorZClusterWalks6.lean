/- What the law ClusterWalks reaches of this seat's own texts, merged; what nothing uses is left out. -/
import Derived.Test.YtfhnfhgpaoddbaaDoorProg
import Derived.Below
import Derived.Deep.Draws
import Derived.Deep.AppendLies
import Derived.Maps.AppendAt
import Derived.OwnWalk
import Derived.Laws.BytesArg
import Derived.Laws.MakeOwn
import Derived.Laws.OwnMore
import Derived.Deep.OwnRows
import Derived.Tactics
import Derived.Lib.ConvBytes
import Derived.Laws.Slices
import Derived.WalkKit
import Derived.KernelRfl
import Derived.RowKit3
import Derived.Deep.LoopGhost
import Derived.Deep.QuietTactic
import Derived.BigQuiet
import Derived.WideLaws
import Derived.Deep.DeepCutAuto
import Derived.Deep.CutBlock
import Derived.Deep.RegionHeld3
import Derived.Laws.Rows
import Derived.Lib.AppendStr
import Derived.ArgAppend
import Derived.Laws.IdiomCopy
import Derived.OrdersHeld
import Derived.Laws.BitsLemmas
import Derived.RowKit
import Derived.Shelf.Strings.Builder1
import Derived.Shelf.Small.Utf8
import Derived.Shelf.Strings.BuilderF
import Derived.Shelf.Strings.BuilderK
import Derived.Shelf.Utf8.AppendRunePlain
import Derived.Shelf.Utf8.RuneCount
import Derived.Shelf.Strings.Prefix
import Derived.Shelf.Unicode.Decode
import Derived.Shelf.Strings.RuneCount
import Derived.Shelf.Unicode.DecodeSlow
import Derived.Shelf.Unicode.DecodeAny
import Derived.Shelf.Strings.BuilderCap
import Derived.Lib.LaidU8
import Derived.RangeFuncNested
import Derived.RangeFuncBound
import Derived.RangeFuncCalls
import Derived.RangeFuncLeaves
import Derived.Lib.DecodeN
import Derived.Lib.MapLaws
import Derived.Laws.DeepStrings4
import Derived.Shelf.Unicode.DecodeLastEight
import Derived.Shelf.Abstract
import Derived.Shelf.RegionOpen
import Derived.OwnWalkIn
import Derived.TacticsInMore
import Derived.LoopNIn
import Derived.LoopIn
import Derived.Lib.Hide
import Derived.Sort.BigQuietIn
import Derived.Sort.CutIn
import Derived.Lib.Builder
import Derived.Lib.FrozenHead
import Derived.Test.YtfhnfhgpaoddbaaDoorRows
import Derived.ProofKit
import Derived.Deep.DeepHandedRow
import Derived.LaidMore
import Derived.Lay
import Derived.Test.YtfhnfhgpaoddbaaDoorWWords
import Derived.Test.YtfhnfhgpaoddbaaDoorWLast
import Derived.Test.YtfhnfhgpaoddbaaDoorWTab
import Derived.Test.YtfhnfhgpaoddbaaDoorWQPut
import Derived.Test.YtfhnfhgpaoddbaaDoorWApart
import Derived.Test.YtfhnfhgpaoddbaaDoorWArr
import Derived.Test.YtfhnfhgpaoddbaaDoorWZeros
import Derived.Test.YtfhnfhgpaoddbaaDoorWFoot
import Derived.Test.YtfhnfhgpaoddbaaDoorWKept
import Derived.Test.YtfhnfhgpaoddbaaDoorWShare
import Derived.Test.YtfhnfhgpaoddbaaDoorWN
import Derived.Test.YtfhnfhgpaoddbaaDoorWEqStruct
import Derived.Test.YtfhnfhgpaoddbaaDoorWRepsOne
import Derived.Test.YtfhnfhgpaoddbaaDoorWInv
import Derived.Test.YtfhnfhgpaoddbaaDoorWGuard
import Derived.Test.YtfhnfhgpaoddbaaDoorWNEv
import Derived.Test.YtfhnfhgpaoddbaaDoorWMore
import Derived.Test.YtfhnfhgpaoddbaaDoorZClusterWalks0
import Derived.Test.YtfhnfhgpaoddbaaDoorZClusterWalks2
import Derived.Test.YtfhnfhgpaoddbaaDoorZClusterWalks4
import Derived.Test.YtfhnfhgpaoddbaaDoorZClusterWalks5
section
namespace Go.Proofs.YtfhnfhgpaoddbaaDoor.U
open Go.RowKit Go.Shelf Go.Proofs.YtfhnfhgpaoddbaaDoor.Mu Go.Proofs.YtfhnfhgpaoddbaaDoor.Pu Go.Proofs.YtfhnfhgpaoddbaaDoor.Rg Go.Proofs.YtfhnfhgpaoddbaaDoorW.PrintWords Go.Proofs.YtfhnfhgpaoddbaaDoorW.PrintLast Go.Proofs.YtfhnfhgpaoddbaaDoorW.PrintMore
attribute [local go_sem] Oper.semAt_some
set_option linter.unusedVariables false
set_option linter.unusedSimpArgs false
/-- What is drawn of a cluster. -/
def drawB (s : ByteArray) (c : S53) : ByteArray :=
 if c.f2 = 1 then ⟨#[]⟩ else if c.f2 = 2 then (if byt s c.f0.toNat = 127 then ⟨#[94,63]⟩ else if byt s c.f0.toNat < 128 then (⟨#[94]⟩ : ByteArray) ++ Utf8.encode ((byt s c.f0.toNat : Int) + 64) else ⟨#[239,191,189]⟩)
 else if c.f2 = 3 then (⟨#[32]⟩ : ByteArray) ++ s.extract c.f0.toNat c.f1.toNat else if c.f2 = 5 then (⟨#[239,191,189]⟩ : ByteArray) ++ (s.extract c.f0.toNat c.f1.toNat).extract 1 (s.extract c.f0.toNat c.f1.toNat).size
 else s.extract c.f0.toNat c.f1.toNat
def drawU (s : ByteArray) (cs : List S53) : List UInt8 := cs.flatMap fun c => (drawB s c).data.toList
def drawnS (s : ByteArray) : ByteArray := ⟨(drawU s (clusL s)).toArray⟩
theorem drawU_snoc (s : ByteArray) (cs : List S53) (c : S53) : drawU s (cs ++ [c]) = drawU s cs ++ (drawB s c).data.toList := by simp [drawU]
theorem clus_mem (s : ByteArray) : ∀ k x,CB s x → ∀ c ∈ cluL s k x,∃ i,CB s i ∧ i < s.size ∧ c = clAt s i
 | 0,_,_,c,h => by simp [cluL] at h
 | k + 1,x,hx,c,h => by
  rw [cluL] at h
  split at h
  ·rename_i hlt
   rcases List.mem_cons.1 h with rfl | h
   ·exact ⟨x,hx,hlt,rfl⟩
   ·exact clus_mem s k _ (nxt_cb s x hx.1 hlt) c h
  ·simp at h
theorem encode_low (k : Nat) (h : k < 128) : (Utf8.encode ((k : Int) + 64)).size ≤ 2 := by
 have hv : Utf8.valid ((k : Int) + 64) = true := by unfold Utf8.valid;simp;omega
 unfold Utf8.encode
 simp only [hv,if_true]
 have : ((k : Int) + 64).toNat = k + 64 := by omega
 rw [this]
 split
 ·exact Nat.le_succ 1
 ·rw [if_pos (by omega)];exact Nat.le_refl 2
theorem drawB_size (s : ByteArray) (i : Nat) (hc : CB s i) (hi : i < s.size) : (drawB s (clAt s i)).size + 3 * i ≤ 3 * nxt s i := by
 have h1 := nxt_pos s i hi
 have h2 := nxt_le s i hc.1 hi
 have h3 : (s.extract i (nxt s i)).size = nxt s i - i := size_extract _ _ _ h2
 have e0 : (clAt s i).f0.toNat = i := by unfold clAt;exact Int.toNat_natCast i
 have e1 : (clAt s i).f1.toNat = nxt s i := by unfold clAt;exact Int.toNat_natCast _
 have hl := encode_low (byt s i)
 unfold drawB
 rw [e0,e1]
 split
 ·show 0 + _ ≤ _;omega
 split
 ·split
  ·show 2 + _ ≤ _;omega
  split
  ·rw [ByteArray.size_append];have := hl (by assumption);show 1 + _ + _ ≤ _;omega
  ·show 3 + _ ≤ _;omega
 split
 ·rw [ByteArray.size_append,h3];show 1 + _ + _ ≤ _;omega
 split
 ·rw [ByteArray.size_append,size_extract _ _ _ (Nat.le_refl _),h3];show 3 + _ + _ ≤ _;omega
 ·omega
theorem draw_size (s : ByteArray) : ∀ (pre : List S53) (i : Nat),CB s i → i ≤ s.size → pre <+: ctl s i → (drawU s pre).length + 3 * i ≤ 3 * s.size
 | [],i,_,hi,_ => by simp [drawU];omega
 | c :: pre,i,hc,hi,h => by
  by_cases hlt : i < s.size
  ·rw [ctl_go s i hlt,List.cons_prefix_cons] at h
   obtain ⟨rfl,h⟩ := h
   have h1 := draw_size s pre (nxt s i) (nxt_cb s i hc.1 hlt) (nxt_le s i hc.1 hlt) h
   have h2 := drawB_size s i hc hlt
   have e : (drawU s (clAt s i :: pre)).length = (drawB s (clAt s i)).size + (drawU s pre).length := by
    simp only [drawU,List.flatMap_cons,List.length_append];rfl
   omega
  ·rw [ctl_end s i (by omega)] at h
   have := h.length_le
   simp at this
theorem cells_app (l : List UInt8) (t : ByteArray) : Lib.byteCells l ++ Lib.strCells t = Lib.byteCells (l ++ t.data.toList) := by
 rw [Lib.strCells_eq];unfold Lib.byteCells;rw [List.map_append]
theorem ctl_low (s : ByteArray) (i : Nat) (h : clsAt s i = 2) : byt s i < 32 ∨ 127 ≤ byt s i := by
 unfold clsAt at h
 split at h
 ·omega
 ·have hr := uC_cases s i
  unfold cls at h
  split at h
  ·omega
  split at h
  ·omega
  split at h
  ·have := byt_lt s i
   omega
  split at h
  ·omega
  split at h <;> omega
set_option maxRecDepth 100000 in
set_option maxHeartbeats 2000000 in
theorem cdrawn_any (s : ByteArray) (w : World) (hs : s.size ≤ 1099511627776) (hT : Lib.Utf8Tabs 0 1 w) :
  Calls Tryd.prog 56 #[.string s] w fun e w' => e = .returned (.string (drawnS s)) ∧ Below w.heap.size w w' := by
 have hlen : (clusL s).length ≤ s.size := clusL_length s
 have hu := Tryd.underlying53
 have hub := Tryd.underlying85
 refine (callsIn_wide (n := 6)).1 ?_
 refine callsIn_of_wp_marks Tryd.func56 rfl trivial ?_ rfl
 simp only [Tryd.ntmps56,List.size_toArray,List.length_cons,List.length_nil,Nat.reduceAdd,Nat.reduceSub,Array.replicate_succ,Array.replicate_zero,List.push_toArray,List.append_toArray,List.nil_append,List.cons_append]
 gi_wp2_with (refine ⟨trivial,?_⟩;gi_at_call 41;refine (callsIn_wide.2 (cwalk_calls s _)).mono ?_;rintro e w' ⟨rfl,rfl⟩)
 simp only [Nat.add_assoc,Nat.reduceAdd]
 have bS0 := ((Boxed.new w 9 (.string s)).alloc (.cells #[.pointer none,.slice none 0 0] 85)).alloc (.cells #[.string s] 9)
 have bS := Boxed.new ((w.alloc (.cells #[.string s] 9)).alloc (.cells #[.pointer none,.slice none 0 0] 85)) 9 (.string s)
 rw [World.size_alloc,World.size_alloc] at bS
 have bB : (((w.alloc (.cells #[.string s] 9)).alloc (.cells #[.pointer none,.slice none 0 0] 85)).alloc (.cells #[.string s] 9)).heap[w.heap.size + 1]? = some (.cells #[.pointer none,.slice none 0 0] 85 (0,0)) := by
  have := World.alloc_heap_new (w.alloc (.cells #[.string s] 9)) (.cells #[.pointer none,.slice none 0 0] 85)
  rw [World.size_alloc] at this
  exact (Below.heap_alloc _ _ _ (by simp)).trans this
 have hB0 : Below w.heap.size w (((w.alloc (.cells #[.string s] 9)).alloc (.cells #[.pointer none,.slice none 0 0] 85)).alloc (.cells #[.string s] 9)) := (((Below.refl _ w).alloc (Nat.le_refl _) _).alloc (by simp) _).alloc (by simp;omega) _
 have hsz : (((w.alloc (.cells #[.string s] 9)).alloc (.cells #[.pointer none,.slice none 0 0] 85)).alloc (.cells #[.string s] 9)).heap.size = w.heap.size + 3 := by simp
 obtain ⟨W0,hW0⟩ : ∃ W0,((w.alloc (.cells #[.string s] 9)).alloc (.cells #[.pointer none,.slice none 0 0] 85)).alloc (.cells #[.string s] 9) = W0 := ⟨_,rfl⟩
 rw [hW0] at bS0 bS bB hB0 hsz ⊢
 clear hW0
 refine range_outer (α := S53) rfl (by omega) (gf := 83) (lb := #[.pointer (some ⟨w.heap.size + 2,0,none⟩)]) rfl trivial (enters_of Tryd.func83 (by kernel_rfl) rfl)
  (cwalk1_seq 5 (by omega) w W0 s (w.heap.size + 2) hs hT hB0 bS) (Below.refl _ _) (fun _ => rfl) (by omega)
  (fun (B : Nat) (pre : List S53) (W : World) => (((∃ v,BldAt w.heap.size (w.heap.size + 1) (Lib.byteCells (drawU s pre)) v W ∧ (∀ g,v.ownBlock = some g → g < B)) ∧ Boxed W w.heap.size 9 (.string s)) ∧ Boxed W (w.heap.size + 2) 9 (.string s)) ∧ Below w.heap.size w W ∧ (w.heap.size + 2 < B ∧ pre <+: clusL s))
  (fun _ _ _ => False)
  (fun B pre X Y row h hg hr => ⟨⟨⟨by obtain ⟨v,h1,h2⟩ := h.1.1.1;exact ⟨v,h1.grow hg (fun r e => (hr r e).2),h2⟩,boxed_grow h.1.1.2 hg (fun r e => (hr r e).2)⟩,boxed_grow h.1.2 hg (fun r e => (hr r e).2)⟩,h.2.1.grown hg h.2.1.size (fun k e => by have := (hr k e).1;omega),h.2.2⟩)
  (fun B B' pre W hBB h => ⟨⟨⟨by obtain ⟨v,h1,h2⟩ := h.1.1.1;exact ⟨v,h1,fun g hg => Nat.lt_of_lt_of_le (h2 g hg) hBB⟩,h.1.1.2⟩,h.1.2⟩,h.2.1,by omega,h.2.2.2⟩)
  (fun _ _ _ _ _ hs _ _ => hs)
  ⟨⟨⟨⟨_,⟨_,.inl rfl,bB,World.ownsRowF_of (World.ownsRow_nil _ _ _ _),by simp [Value.ownBlock]⟩,by simp [Value.ownBlock]⟩,bS0⟩,bS⟩,hB0,by omega,List.nil_prefix⟩
  (fun (x : S53) (a' : Act) (W : World) => ∃ Bx,Hid (W.heap[Bx]? = some (.cells #[.int .i64 x.f0,.int .i64 x.f1,.int .i64 x.f2,.int .i64 x.f3] 53 (0,0))) ∧ a' = { tmps := #[.string s,.pointer (some ⟨w.heap.size,0,none⟩),.string ⟨#[]⟩,.pointer (some ⟨w.heap.size + 1,0,none⟩),.pointer (some ⟨Bx,0,none⟩),undef,undef,.string s,.func (.func 83) #[] #[.pointer (some ⟨w.heap.size + 2,0,none⟩)],.agg #[.int .i64 x.f0,.int .i64 x.f1,.int .i64 x.f2,.int .i64 x.f3],undef,undef,undef,undef,undef,undef,undef,undef,undef,undef,undef,undef,undef,undef,undef,undef,undef,undef,undef,undef,undef,undef,undef,undef,undef,undef,undef,undef,undef,undef,undef,undef,undef,undef,undef,undef,undef,undef,undef,undef,undef,undef],defers := [] })
  (fun x a' _ X Y row hs hg hr => by
   obtain ⟨Bx,h1,h2⟩ := hs
   refine ⟨Bx,?_,h2⟩
   refine (hg.block Bx (Array.getElem?_eq_some_iff.1 h1).1 (fun e => ?_)).trans h1
   obtain ⟨_,o,ho,hc⟩ := hr Bx e.symm
   rw [show X.heap[Bx]? = _ from h1] at ho;cases ho;cases hc)
  ?assign ?body ?done ?stop
 case assign =>
  rintro l B pre x W K hCW hBW hI hK
  have hsz1 := hI.2.1.size
  gi_wp2
  exact hK _ _ ((KeepsOthers.alloc _ _).from _) (KeepB.of_below hsz1 ((Below.refl _ W).alloc (Nat.le_refl _) _)) ⟨⟨⟨by obtain ⟨v,h1,h2⟩ := hI.1.1.1;exact ⟨v,h1.grow (World.grownBy_alloc W _ none) (fun r e => by cases e),h2⟩,hI.1.1.2.alloc _⟩,hI.1.2.alloc _⟩,hI.2.1.alloc hsz1 _,hI.2.2⟩ ⟨W.heap.size,Lib.hid (World.alloc_heap_new W _),rfl⟩
 case body =>
  rintro l B pre x a' W hl hCW hr hBW ⟨⟨⟨⟨v,hv,hvB⟩,hb0⟩,hb2⟩,hB,hoB,hpp⟩ ⟨Bx,hBx,rfl⟩ hlt hpx
  have hsz1 := hB.size
  have hrun : (drawU s (pre ++ [x])).length ≤ 3 * s.size := by have := draw_size s (pre ++ [x]) 0 (cb_zero s) (Nat.zero_le _) hpx;omega
  rw [drawU_snoc,List.length_append] at hrun
  have hfin : ∀ (C : Nat) (t : ByteArray) (v' : Value) (W' : World),drawB s x = t → BldAt w.heap.size (w.heap.size + 1) (Lib.byteCells (drawU s pre) ++ Lib.strCells t) v' W' → Wrote w.heap.size (w.heap.size + 1) v W W' →
    KeepsFrom C W W' ∧ KeepB w.heap.size (fun k => k = w.heap.size + 2) B W W' ∧ (((∃ v,BldAt w.heap.size (w.heap.size + 1) (Lib.byteCells (drawU s (pre ++ [x]))) v W' ∧ (∀ g,v.ownBlock = some g → g < W'.heap.size)) ∧ Boxed W' w.heap.size 9 (.string s)) ∧ Boxed W' (w.heap.size + 2) 9 (.string s)) ∧ Below w.heap.size w W' ∧ (w.heap.size + 2 < W'.heap.size ∧ (pre ++ [x]) <+: clusL s) := by
   rintro C t v' W' rfl hb' hw
   obtain ⟨_,_,_,hrow,_⟩ := hv
   have hkeep : ∀ (k : Nat) (o : Obj),(k = w.heap.size + 2 ∨ k = w.heap.size ∨ B ≤ k) → W.heap[k]? = some o → (∀ g,v.ownBlock = some g → k ≠ g) → W'.heap[k]? = some o := fun k o hk ho hne =>
    (hw.keep k (Array.getElem?_eq_some_iff.1 ho).1 (by omega) (fun e => hne k e.symm rfl)).trans ho
   have hnot : ∀ k,Boxed W k 9 (.string s) → ∀ g,v.ownBlock = some g → k ≠ g := by
    rintro k hk g hg rfl
    obtain ⟨c,fz,hc⟩ := Lib.ownsRowF_kind hrow k hg
    rw [show W.heap[k]? = _ from hk] at hc
    injection hc with hc;injection hc with _ h2 _
    exact absurd h2 (by decide)
   refine ⟨hw.others.from _,⟨hw.below,fun k o hk ho _ => ?_⟩,⟨⟨⟨v',?_,?_⟩,?_⟩,?_⟩,hB.trans hw.below,?_,hpx⟩
   ·rcases hk with hk | hk
    ·have hk : k = w.heap.size + 2 := hk
     exact hkeep k o (.inl hk) ho (by rw [hk];exact hnot _ hb2)
    ·exact hkeep k o (.inr (.inr hk)) ho (fun g hg => by have := hvB g hg;omega)
   ·rw [drawU_snoc,← cells_app];exact hb'
   ·intro g hg;obtain ⟨_,_,_,hrow',_⟩ := hb';exact (hrow'.lt g hg).2
   ·exact hkeep _ _ (.inr (.inl rfl)) hb0 (hnot _ hb0)
   ·exact hkeep _ _ (.inl rfl) hb2 (hnot _ hb2)
   ·have := hw.below.size;have := hw.others.size;omega
  have hwr : ∀ t : ByteArray,drawB s x = t → Calls Tryd.prog 87 #[.pointer (some ⟨w.heap.size + 1,0,none⟩),.string t] W fun e w' => e = .returned (.tuple #[.int .i64 t.size,.nilIface]) ∧ ∃ v',BldAt w.heap.size (w.heap.size + 1) (Lib.byteCells (drawU s pre) ++ Lib.strCells t) v' w' ∧ Wrote w.heap.size (w.heap.size + 1) v W w' := by
   rintro t rfl
   refine writeString_calls w.heap.size (w.heap.size + 1) _ v _ W hv hsz1 (by omega) ?_
   rw [Lib.byteCells_length]
   have e : (drawB s x).data.toList.length = (drawB s x).size := rfl
   omega
  obtain ⟨i,hci,hilt,hxi⟩ := clus_mem s s.size 0 (cb_zero s) x (hpx.subset (by simp))
  have hcl : x.f2 = 2 → byt s i < 32 ∨ 127 ≤ byt s i := by rw [hxi];exact ctl_low s i
  obtain ⟨t,ht⟩ : ∃ t,nxt s i = t := ⟨_,rfl⟩
  have ht1 : i < t := ht ▸ nxt_pos s i hilt
  have ht2 : t ≤ s.size := ht ▸ nxt_le s i hci.1 hilt
  obtain ⟨x0,x1,x2,x3⟩ := x
  injection hxi with e0 e1 e2 e3
  subst e0
  rw [ht] at e1
  subst e1
  clear e2 e3 ht
  have hd : drawB s ⟨(i : Int),(t : Int),x2,x3⟩ = (if x2 = 1 then ⟨#[]⟩ else if x2 = 2 then (if byt s i = 127 then ⟨#[94,63]⟩ else if byt s i < 128 then (⟨#[94]⟩ : ByteArray) ++ Utf8.encode ((byt s i : Int) + 64) else ⟨#[239,191,189]⟩)
   else if x2 = 3 then (⟨#[32]⟩ : ByteArray) ++ s.extract i t else if x2 = 5 then (⟨#[239,191,189]⟩ : ByteArray) ++ (s.extract i t).extract 1 (s.extract i t).size else s.extract i t) := by unfold drawB;rw [Int.toNat_natCast,Int.toNat_natCast]
  have c0 := hb0.cell
  have hcx0 : W.cell? ⟨Bx,0,none⟩ = some (.int .i64 (i : Int)) := by simp [World.cell?,show W.heap[Bx]? = _ from hBx]
  have hcx1 : W.cell? ⟨Bx,1,none⟩ = some (.int .i64 (t : Int)) := by simp [World.cell?,show W.heap[Bx]? = _ from hBx]
  have hcx2 : W.cell? ⟨Bx,2,none⟩ = some (.int .i64 x2) := by simp [World.cell?,show W.heap[Bx]? = _ from hBx]
  have hv' := Lib.hid hv
  have hl0 : (i : Int) ≤ (t : Int) := by omega
  have hl1 : (t : Int) ≤ (s.size : Int) := by omega
  have hl2 : (0 : Int) ≤ (i : Int) := by omega
  obtain ⟨c,hc⟩ : ∃ c,s.extract i t = c := ⟨_,rfl⟩
  have hcs : c.size = t - i := by rw [← hc];exact size_extract _ _ _ ht2
  have hkb : byt c 0 = byt s i := by rw [← hc];exact byt_extract s i t 0 (by omega) ht2
  obtain ⟨kk,hkk⟩ : ∃ kk : Int,(byt s i : Int) = kk := ⟨_,rfl⟩
  have hk0 : 0 ≤ kk ∧ kk ≤ 255 := by have := byt_lt s i;omega
  have hx6 : ∀ h : 0 < c.size,((c[0]'h).toNat : Int) = kk := fun h => by rw [← hkk,← hkb,← bt_byt c 0 h];exact bt_at c 0 h
  have hq0 : (0 < (c.size : Int)) = True := eq_true (by omega)
  have hq1 : (0 < c.size) = True := eq_true (by omega)
  have hq2 : (1 ≤ (c.size : Int)) = True := eq_true (by omega)
  rw [hc] at hd
  have hdk : Hid (byt s i = 127 ↔ kk = 127) := Lib.hid (by omega)
  have hdl : Hid (byt s i < 128 ↔ kk < 128) := Lib.hid (by omega)
  have hde : Hid ((byt s i : Int) = kk) := Lib.hid hkk
  have hs1 : decide (1 + c.size ≤ 9223372036854775807) = true := decide_eq_true (by omega)
  have hs1b : (9223372036854775807 < 1 + c.size) = False := eq_false (by omega)
  obtain ⟨c1,hc1⟩ : ∃ c1,c.extract 1 c.size = c1 := ⟨_,rfl⟩
  have hcs1 : c1.size = c.size - 1 := by rw [← hc1];exact size_extract _ _ _ (Nat.le_refl _)
  rw [hc1] at hd
  have hs3 : decide (3 + c1.size ≤ 9223372036854775807) = true := decide_eq_true (by omega)
  have hs3b : (9223372036854775807 < 3 + c1.size) = False := eq_false (by omega)
  have hd := Lib.hid hd
  have hfin := Lib.hid hfin
  have hwr := Lib.hid hwr
  clear hrun hBx hv hvB hb0 hb2 hB hpp hpx hlt hr hci hkk hkb hilt ht1 ht2 hcs hcs1
  by_cases h1 : x2 = 1
  ·have h1b : (x2 == 1) = true := by simpa using h1
   have hq := Lib.hid (hd.out.trans (if_pos h1))
   clear h1
   gi_wp2
   exact hfin.out _ ⟨#[]⟩ v W hq.out (by rw [show Lib.strCells ⟨#[]⟩ = [] from rfl,List.append_nil];exact hv'.out) (Wrote.refl _ _ _ _)
  ·have h1b : (x2 == 1) = false := by simpa using h1
   have hd1 := Lib.hid (hd.out.trans (if_neg h1))
   clear h1
   by_cases h2 : x2 = 2
   ·have h2b : (x2 == 2) = true := by simpa using h2
    have hd2 := Lib.hid (hd1.out.trans (if_pos h2))
    clear h2 hcl
    by_cases h7 : kk = 127
    ·have h7b : (kk == 127) = true := by simpa using h7
     have hq := Lib.hid (hd2.out.trans (if_pos (hdk.out.2 h7)))
     clear h7 hk0
     gi_wp2_with (refine ⟨trivial,?_⟩;gi_at_call 87;refine (callsIn_wide.2 (hwr.out (⟨#[94,63]⟩) hq.out)).mono ?_;rintro e W' ⟨rfl,v',hb',hw'⟩)
     exact hfin.out _ (⟨#[94,63]⟩) v' W' hq.out hb' hw'
    ·have h7b : (kk == 127) = false := by simpa using h7
     have hd3 := Lib.hid (hd2.out.trans (if_neg (fun h => h7 (hdk.out.1 h))))
     clear h7
     by_cases h8 : kk < 128
     ·have h8b : decide (kk < 128) = true := decide_eq_true h8
      have hq := Lib.hid (hd3.out.trans (if_pos (hdl.out.2 h8)))
      rw [hde.out] at hq
      have hw1 : IntKind.i32.wrap kk = kk := (i32_w _).trans (w32 (by omega) (by omega))
      have hw2 : IntKind.i32.wrap (kk + 64) = kk + 64 := (i32_w _).trans (w32 (by omega) (by omega))
      have hes2 : (Utf8.encode (kk + 64)).size ≤ 2 := by have := encode_low (byt s i) (hdl.out.2 h8);rwa [hde.out] at this
      obtain ⟨es,hes⟩ : ∃ es,Utf8.encode (kk + 64) = es := ⟨_,rfl⟩
      rw [hes] at hq hes2
      have he1 : decide (1 + es.size ≤ 9223372036854775807) = true := decide_eq_true (by omega)
      have he2 : (9223372036854775807 < 1 + es.size) = False := eq_false (by omega)
      have hq := Lib.hid hq
      clear h8 hk0 hes2
      gi_wp2_with (refine ⟨trivial,?_⟩;gi_at_call 87;refine (callsIn_wide.2 (hwr.out ((⟨#[94]⟩ : ByteArray) ++ es) hq.out)).mono ?_;rintro e W' ⟨rfl,v',hb',hw'⟩)
      exact hfin.out _ ((⟨#[94]⟩ : ByteArray) ++ es) v' W' hq.out hb' hw'
     ·have h8b : decide (kk < 128) = false := decide_eq_false h8
      have hq := Lib.hid (hd3.out.trans (if_neg (fun h => h8 (hdl.out.1 h))))
      clear h8 hk0
      gi_wp2_with (refine ⟨trivial,?_⟩;gi_at_call 87;refine (callsIn_wide.2 (hwr.out (⟨#[239,191,189]⟩) hq.out)).mono ?_;rintro e W' ⟨rfl,v',hb',hw'⟩)
      exact hfin.out _ (⟨#[239,191,189]⟩) v' W' hq.out hb' hw'
   ·have h2b : (x2 == 2) = false := by simpa using h2
    have hd2 := Lib.hid (hd1.out.trans (if_neg h2))
    clear h2 hcl hk0
    by_cases h3 : x2 = 3
    ·have h3b : (x2 == 3) = true := by simpa using h3
     have hq := Lib.hid (hd2.out.trans (if_pos h3))
     clear h3
     gi_wp2_with (refine ⟨trivial,?_⟩;gi_at_call 87;refine (callsIn_wide.2 (hwr.out ((⟨#[32]⟩ : ByteArray) ++ c) hq.out)).mono ?_;rintro e W' ⟨rfl,v',hb',hw'⟩)
     exact hfin.out _ ((⟨#[32]⟩ : ByteArray) ++ c) v' W' hq.out hb' hw'
    ·have h3b : (x2 == 3) = false := by simpa using h3
     have hd3 := Lib.hid (hd2.out.trans (if_neg h3))
     clear h3
     by_cases h5 : x2 = 5
     ·have h5b : (x2 == 5) = true := by simpa using h5
      have hq := Lib.hid (hd3.out.trans (if_pos h5))
      clear h5
      gi_wp2_with (refine ⟨trivial,?_⟩;gi_at_call 87;refine (callsIn_wide.2 (hwr.out ((⟨#[239,191,189]⟩ : ByteArray) ++ c1) hq.out)).mono ?_;rintro e W' ⟨rfl,v',hb',hw'⟩)
      exact hfin.out _ ((⟨#[239,191,189]⟩ : ByteArray) ++ c1) v' W' hq.out hb' hw'
     ·have h5b : (x2 == 5) = false := by simpa using h5
      have hq := Lib.hid (hd3.out.trans (if_neg h5))
      clear h5
      gi_wp2_with (refine ⟨trivial,?_⟩;gi_at_call 87;refine (callsIn_wide.2 (hwr.out (c) hq.out)).mono ?_;rintro e W' ⟨rfl,v',hb',hw'⟩)
      exact hfin.out _ (c) v' W' hq.out hb' hw'
 case done =>
  rintro D ys W hD hys ⟨⟨⟨⟨v,hv,_⟩,_⟩,_⟩,hB,_⟩ hK
  obtain rfl : ys = clusL s := hys
  have hsz1 := hB.size
  gi_wp2_with (refine ⟨trivial,?_⟩;gi_at_call 88;refine (callsIn_wide.2 (Tryd.Builder_String_any_k w.heap.size (w.heap.size + 1) (drawU s (clusL s)) W (hv.is (by omega)) hsz1)).mono ?_;rintro e W' ⟨rfl,_,hbw,hok⟩)
  have hK' : W'.heap[D]? = some (.deferred (some [])) := hok D _ hK (fun e => by injection e with e;omega) (fun c fz e => by cases e)
  refine ⟨by simp,.inl ⟨_,_,rfl,run_takeDeferred hK',?_⟩⟩
  exact ⟨_,results_tmp rfl _ _ _,rfl,(hB.trans hbw).trans (belowK_b (w := w) (Nat.le_refl _) W' D _ _ (by omega) hK' rfl rfl)⟩
 case stop =>
  rintro D c pre W _ _ h _
  exact h.elim
def cluster_Drawn.f (a0 : ByteArray) : Option ByteArray := if a0.size ≤ 1099511627776 then some (drawnS a0) else none
theorem cluster_Drawn.calls (a0 : ByteArray) (r : ByteArray) (w : World) (hT : Lib.Utf8Tabs 0 1 w) (h : cluster_Drawn.f a0 = some r) :
  Calls Tryd.prog 56 #[.string a0] w fun e w' => e = .returned (.string r) ∧ Below w.heap.size w w' := by
 unfold cluster_Drawn.f at h
 split at h
 ·obtain rfl := Option.some.inj h
  rename_i hs
  exact cdrawn_any a0 w hs hT
 ·cases h
end Go.Proofs.YtfhnfhgpaoddbaaDoor.U
end
section
namespace Go.Proofs.YtfhnfhgpaoddbaaDoor.U
open Go.RowKit Go.Proofs.YtfhnfhgpaoddbaaDoorW.PrintWords Go.Proofs.YtfhnfhgpaoddbaaDoorW.PrintLast Go.Proofs.YtfhnfhgpaoddbaaDoorW.PrintMore
set_option linter.unusedVariables false
set_option linter.unusedSimpArgs false
theorem steps_next : cluster_Next.f 100 ⟨#[97]⟩ 0 = some 1 := by kernel_rfl
theorem steps_snap : cluster_Snap.f 100 ⟨#[97]⟩ 1 = some 1 := by kernel_rfl
theorem cwalk_not_nil (a : Addr) (W : World) : (binOp .neq 49 (.func (.func 83) #[] #[.pointer (some a)]) .nilFunc).run Tryd.prog W = .ok (.bool true) W := by kernel_rfl
set_option maxRecDepth 100000 in
set_option maxHeartbeats 2000000 in
theorem steps_any (w : World) (hT : Lib.Utf8Tabs 0 1 w) :
  Calls Tryd.prog 79 #[] w fun e w' => e = .returned (.bool true) ∧ Below w.heap.size w w' := by
 have hnn := cwalk_not_nil
 go_enter Tryd.func79,Tryd.ntmps79
 go_wp2_with (go_at_call 46;refine (cluster_Next.calls 100 ⟨#[97]⟩ 0 1 _ hT steps_next).mono ?_)
 rintro e w1 ⟨rfl,hb1⟩
 have hT1 := tabs_below hT hb1
 go_wp2_with (go_at_call 50;refine (cluster_Snap.calls 100 ⟨#[97]⟩ 1 1 _ hT1 steps_snap).mono ?_)
 rintro e w2 ⟨rfl,hb2⟩
 have hB := hb1.trans (hb2.mono hb1.size)
 go_wp2_with (go_at_call 41;refine (cwalk_calls _ _).mono ?_;rintro e w' ⟨rfl,rfl⟩)
 go_ret
 exact ⟨rfl,hB.alloc hB.size _⟩
def bodkinlaw03_steps.f : Option (Bool) := some true
theorem bodkinlaw03_steps.calls (r : Bool) (w : World) (hT : Lib.Utf8Tabs 0 1 w) (h : bodkinlaw03_steps.f = some r) :
  Calls Tryd.prog 79 #[] w fun e w' => e = .returned (.bool r) ∧ Below w.heap.size w w' := by
 obtain rfl := Option.some.inj h
 exact steps_any w hT
end Go.Proofs.YtfhnfhgpaoddbaaDoor.U
end
section
namespace Go.Proofs.YtfhnfhgpaoddbaaDoor.U
open Go.RowKit Go.Proofs.YtfhnfhgpaoddbaaDoorW.PrintWords Go.Proofs.YtfhnfhgpaoddbaaDoorW.PrintLast Go.Proofs.YtfhnfhgpaoddbaaDoorW.PrintMore
attribute [local go_sem] max2_int min2_int max_two min_two max_three min_three max_four min_four   -- for this text's walks alone
set_option linter.unusedVariables false
set_option linter.unusedSimpArgs false
attribute [local go_sem high] eqA53
def bodkinlaw03_fixed.f (k : Nat)  : Option (Bool) := (bodkinlaw03_steps.f).bind fun t258 => (if t258 = true then ((cluster_List.f (⟨#[97,204,129,13,10,228,184,128,255]⟩ : ByteArray)).bind fun t259 => (if (t259.length : Int) = 4 then (if 0 < (t259.length : Int) then (if (((rd_T53 t259 0).f0) == 0 && (((rd_T53 t259 0).f1) == 3 && (((rd_T53 t259 0).f2) == 0 && (((rd_T53 t259 0).f3) == 1)))) = true then (if 1 < (t259.length : Int) then (if (((rd_T53 t259 1).f0) == 3 && (((rd_T53 t259 1).f1) == 5 && (((rd_T53 t259 1).f2) == 1 && (((rd_T53 t259 1).f3) == 0)))) = true then (if 2 < (t259.length : Int) then (if (((rd_T53 t259 2).f0) == 5 && (((rd_T53 t259 2).f1) == 8 && (((rd_T53 t259 2).f2) == 4 && (((rd_T53 t259 2).f3) == 2)))) = true then (if 3 < (t259.length : Int) then (if (((rd_T53 t259 3).f0) == 8 && (((rd_T53 t259 3).f1) == 9 && (((rd_T53 t259 3).f2) == 5 && (((rd_T53 t259 3).f3) == 1)))) = true then ((cluster_Next.f k (⟨#[97,204,129,98]⟩ : ByteArray) 0).bind fun t266 => (if t266 = 3 then ((cluster_Boundary.f k (⟨#[97,204,129,98]⟩ : ByteArray) 1).bind fun t267 => (if t267 = true then (some false) else ((cluster_Boundary.f k (⟨#[]⟩ : ByteArray) 0).bind fun t268 => (if t268 = true then ((cluster_Drawn.f (⟨#[1]⟩ : ByteArray)).bind fun t269 => (some (t269.toList == ([94,65] : List UInt8)))) else (some false))))) else (some false))) else (some false)) else (none)) else (some false)) else (none)) else (some false)) else (none)) else (some false)) else (none)) else (some false))) else (some false))
theorem bodkinlaw03_fixed.mono : ∀ k,LeO (bodkinlaw03_fixed.f k ) (bodkinlaw03_fixed.f (k + 1) ) := by
 intro  k
 unfold bodkinlaw03_fixed.f
 repeat' first
   | (with_reducible exact cluster_Boundary.mono _ _ _)
   | (with_reducible exact cluster_Next.mono _ _ _)
   | (with_reducible exact LeO.refl _)
   | (with_reducible exact LeO.none _)
   | (with_reducible refine LeO.ite ?_ ?_)
   | (with_reducible refine LeO.bind ?_ (fun _ => ?_))
   | exact cluster_Boundary.mono _ _ _
   | exact cluster_Next.mono _ _ _
   | exact LeO.none _
   | refine LeO.ite ?_ ?_
   | refine LeO.bind ?_ (fun _ => ?_)
set_option maxHeartbeats 8000000 in
set_option maxRecDepth 100000 in
theorem bodkinlaw03_fixed.calls (k : Nat)  (r : Bool) (hr_ : r = true) (w : World) (hT : Lib.Utf8Tabs 0 1 w) (h : bodkinlaw03_fixed.f k  = some r) :
  Calls Tryd.prog 39 #[] w fun e w' => e = .returned (.bool r) ∧ Below w.heap.size w w' := by
 have hu53 := Tryd.underlying53
 have HT := Aside0.mk hT
 clear hT
 have HB := Aside0.mk (Below.refl w.heap.size w)
 have H : ((bodkinlaw03_steps.f).bind fun t258 => (if t258 = true then ((cluster_List.f (⟨#[97,204,129,13,10,228,184,128,255]⟩ : ByteArray)).bind fun t259 => (if (t259.length : Int) = 4 then (if 0 < (t259.length : Int) then (if (((rd_T53 t259 0).f0) == 0 && (((rd_T53 t259 0).f1) == 3 && (((rd_T53 t259 0).f2) == 0 && (((rd_T53 t259 0).f3) == 1)))) = true then (if 1 < (t259.length : Int) then (if (((rd_T53 t259 1).f0) == 3 && (((rd_T53 t259 1).f1) == 5 && (((rd_T53 t259 1).f2) == 1 && (((rd_T53 t259 1).f3) == 0)))) = true then (if 2 < (t259.length : Int) then (if (((rd_T53 t259 2).f0) == 5 && (((rd_T53 t259 2).f1) == 8 && (((rd_T53 t259 2).f2) == 4 && (((rd_T53 t259 2).f3) == 2)))) = true then (if 3 < (t259.length : Int) then (if (((rd_T53 t259 3).f0) == 8 && (((rd_T53 t259 3).f1) == 9 && (((rd_T53 t259 3).f2) == 5 && (((rd_T53 t259 3).f3) == 1)))) = true then ((cluster_Next.f k (⟨#[97,204,129,98]⟩ : ByteArray) 0).bind fun t266 => (if t266 = 3 then ((cluster_Boundary.f k (⟨#[97,204,129,98]⟩ : ByteArray) 1).bind fun t267 => (if t267 = true then (some false) else ((cluster_Boundary.f k (⟨#[]⟩ : ByteArray) 0).bind fun t268 => (if t268 = true then ((cluster_Drawn.f (⟨#[1]⟩ : ByteArray)).bind fun t269 => (some (t269.toList == ([94,65] : List UInt8)))) else (some false))))) else (some false))) else (some false)) else (none)) else (some false)) else (none)) else (some false)) else (none)) else (some false)) else (none)) else (some false))) else (some false))) = some r := h
 clear h
 replace H := Option.bind_eq_some_iff.mp H
 obtain ⟨t258,A10,H⟩ := H
 replace H : (if t258 = true then ((cluster_List.f (⟨#[97,204,129,13,10,228,184,128,255]⟩ : ByteArray)).bind fun t259 => (if (t259.length : Int) = 4 then (if 0 < (t259.length : Int) then (if (((rd_T53 t259 0).f0) == 0 && (((rd_T53 t259 0).f1) == 3 && (((rd_T53 t259 0).f2) == 0 && (((rd_T53 t259 0).f3) == 1)))) = true then (if 1 < (t259.length : Int) then (if (((rd_T53 t259 1).f0) == 3 && (((rd_T53 t259 1).f1) == 5 && (((rd_T53 t259 1).f2) == 1 && (((rd_T53 t259 1).f3) == 0)))) = true then (if 2 < (t259.length : Int) then (if (((rd_T53 t259 2).f0) == 5 && (((rd_T53 t259 2).f1) == 8 && (((rd_T53 t259 2).f2) == 4 && (((rd_T53 t259 2).f3) == 2)))) = true then (if 3 < (t259.length : Int) then (if (((rd_T53 t259 3).f0) == 8 && (((rd_T53 t259 3).f1) == 9 && (((rd_T53 t259 3).f2) == 5 && (((rd_T53 t259 3).f3) == 1)))) = true then ((cluster_Next.f k (⟨#[97,204,129,98]⟩ : ByteArray) 0).bind fun t266 => (if t266 = 3 then ((cluster_Boundary.f k (⟨#[97,204,129,98]⟩ : ByteArray) 1).bind fun t267 => (if t267 = true then (some false) else ((cluster_Boundary.f k (⟨#[]⟩ : ByteArray) 0).bind fun t268 => (if t268 = true then ((cluster_Drawn.f (⟨#[1]⟩ : ByteArray)).bind fun t269 => (some (t269.toList == ([94,65] : List UInt8)))) else (some false))))) else (some false))) else (some false)) else (none)) else (some false)) else (none)) else (some false)) else (none)) else (some false)) else (none)) else (some false))) else (some false)) = some r := H
 have A1 := Aside0.mk A10
 clear A10
 by_cases c2 : t258 = true
 ·subst c2
  have H1 : ((cluster_List.f (⟨#[97,204,129,13,10,228,184,128,255]⟩ : ByteArray)).bind fun t259 => (if (t259.length : Int) = 4 then (if 0 < (t259.length : Int) then (if (((rd_T53 t259 0).f0) == 0 && (((rd_T53 t259 0).f1) == 3 && (((rd_T53 t259 0).f2) == 0 && (((rd_T53 t259 0).f3) == 1)))) = true then (if 1 < (t259.length : Int) then (if (((rd_T53 t259 1).f0) == 3 && (((rd_T53 t259 1).f1) == 5 && (((rd_T53 t259 1).f2) == 1 && (((rd_T53 t259 1).f3) == 0)))) = true then (if 2 < (t259.length : Int) then (if (((rd_T53 t259 2).f0) == 5 && (((rd_T53 t259 2).f1) == 8 && (((rd_T53 t259 2).f2) == 4 && (((rd_T53 t259 2).f3) == 2)))) = true then (if 3 < (t259.length : Int) then (if (((rd_T53 t259 3).f0) == 8 && (((rd_T53 t259 3).f1) == 9 && (((rd_T53 t259 3).f2) == 5 && (((rd_T53 t259 3).f3) == 1)))) = true then ((cluster_Next.f k (⟨#[97,204,129,98]⟩ : ByteArray) 0).bind fun t266 => (if t266 = 3 then ((cluster_Boundary.f k (⟨#[97,204,129,98]⟩ : ByteArray) 1).bind fun t267 => (if t267 = true then (some false) else ((cluster_Boundary.f k (⟨#[]⟩ : ByteArray) 0).bind fun t268 => (if t268 = true then ((cluster_Drawn.f (⟨#[1]⟩ : ByteArray)).bind fun t269 => (some (t269.toList == ([94,65] : List UInt8)))) else (some false))))) else (some false))) else (some false)) else (none)) else (some false)) else (none)) else (some false)) else (none)) else (some false)) else (none)) else (some false))) = some r := by rw [if_pos rfl] at H;exact H
  clear H
  have H := H1
  clear H1
  replace H := Option.bind_eq_some_iff.mp H
  obtain ⟨t259,A30,H⟩ := H
  replace H : (if (t259.length : Int) = 4 then (if 0 < (t259.length : Int) then (if (((rd_T53 t259 0).f0) == 0 && (((rd_T53 t259 0).f1) == 3 && (((rd_T53 t259 0).f2) == 0 && (((rd_T53 t259 0).f3) == 1)))) = true then (if 1 < (t259.length : Int) then (if (((rd_T53 t259 1).f0) == 3 && (((rd_T53 t259 1).f1) == 5 && (((rd_T53 t259 1).f2) == 1 && (((rd_T53 t259 1).f3) == 0)))) = true then (if 2 < (t259.length : Int) then (if (((rd_T53 t259 2).f0) == 5 && (((rd_T53 t259 2).f1) == 8 && (((rd_T53 t259 2).f2) == 4 && (((rd_T53 t259 2).f3) == 2)))) = true then (if 3 < (t259.length : Int) then (if (((rd_T53 t259 3).f0) == 8 && (((rd_T53 t259 3).f1) == 9 && (((rd_T53 t259 3).f2) == 5 && (((rd_T53 t259 3).f3) == 1)))) = true then ((cluster_Next.f k (⟨#[97,204,129,98]⟩ : ByteArray) 0).bind fun t266 => (if t266 = 3 then ((cluster_Boundary.f k (⟨#[97,204,129,98]⟩ : ByteArray) 1).bind fun t267 => (if t267 = true then (some false) else ((cluster_Boundary.f k (⟨#[]⟩ : ByteArray) 0).bind fun t268 => (if t268 = true then ((cluster_Drawn.f (⟨#[1]⟩ : ByteArray)).bind fun t269 => (some (t269.toList == ([94,65] : List UInt8)))) else (some false))))) else (some false))) else (some false)) else (none)) else (some false)) else (none)) else (some false)) else (none)) else (some false)) else (none)) else (some false)) = some r := H
  have A3 := Aside0.mk A30
  clear A30
  by_cases c4 : (t259.length : Int) = 4
  ·rw [if_pos c4] at H
   have c4b0 : ((t259.length : Int) == 4) = true := beq_iff_eq.mpr c4
   have c4b1 : ((t259.length : Int) != 4) = false := bne_eq_false_iff_eq.mpr c4
   clear c4
   by_cases c5 : 0 < (t259.length : Int)
   ·rw [if_pos c5] at H
    have c5b0 : decide (0 < (t259.length : Int)) = true := decide_eq_true c5
    have c5b1 : decide (0 < t259.length) = true := decide_eq_true (by omega)
    clear c5
    by_cases c6 : (((rd_T53 t259 0).f0) == 0 && (((rd_T53 t259 0).f1) == 3 && (((rd_T53 t259 0).f2) == 0 && (((rd_T53 t259 0).f3) == 1)))) = true
    ·rw [if_pos c6] at H
     have c6b0 : (((rd_T53 t259 0).f0) == 0 && (((rd_T53 t259 0).f1) == 3 && (((rd_T53 t259 0).f2) == 0 && (((rd_T53 t259 0).f3) == 1)))) = true := c6
     (try (have c6b1 : decide (((rd_T53 t259 0).f0) = 0 && (((rd_T53 t259 0).f1) == 3 && (((rd_T53 t259 0).f2) == 0 && (((rd_T53 t259 0).f3) == 1)))) = true := by simpa using c6))
     (try (have c6b2 : (((rd_T53 t259 0).f0) == 0 && (((rd_T53 t259 0).f1) == 3 && (((rd_T53 t259 0).f2) == 0 && (((rd_T53 t259 0).f3) == 1)))) = true := by simpa using c6))
     clear c6
     by_cases c7 : 1 < (t259.length : Int)
     ·rw [if_pos c7] at H
      have c7b0 : decide (1 < (t259.length : Int)) = true := decide_eq_true c7
      have c7b1 : decide (1 < t259.length) = true := decide_eq_true (by omega)
      clear c7
      by_cases c8 : (((rd_T53 t259 1).f0) == 3 && (((rd_T53 t259 1).f1) == 5 && (((rd_T53 t259 1).f2) == 1 && (((rd_T53 t259 1).f3) == 0)))) = true
      ·rw [if_pos c8] at H
       have c8b0 : (((rd_T53 t259 1).f0) == 3 && (((rd_T53 t259 1).f1) == 5 && (((rd_T53 t259 1).f2) == 1 && (((rd_T53 t259 1).f3) == 0)))) = true := c8
       (try (have c8b1 : decide (((rd_T53 t259 1).f0) = 3 && (((rd_T53 t259 1).f1) == 5 && (((rd_T53 t259 1).f2) == 1 && (((rd_T53 t259 1).f3) == 0)))) = true := by simpa using c8))
       (try (have c8b2 : (((rd_T53 t259 1).f0) == 3 && (((rd_T53 t259 1).f1) == 5 && (((rd_T53 t259 1).f2) == 1 && (((rd_T53 t259 1).f3) == 0)))) = true := by simpa using c8))
       clear c8
       by_cases c9 : 2 < (t259.length : Int)
       ·rw [if_pos c9] at H
        have c9b0 : decide (2 < (t259.length : Int)) = true := decide_eq_true c9
        have c9b1 : decide (2 < t259.length) = true := decide_eq_true (by omega)
        clear c9
        by_cases c10 : (((rd_T53 t259 2).f0) == 5 && (((rd_T53 t259 2).f1) == 8 && (((rd_T53 t259 2).f2) == 4 && (((rd_T53 t259 2).f3) == 2)))) = true
        ·rw [if_pos c10] at H
         have c10b0 : (((rd_T53 t259 2).f0) == 5 && (((rd_T53 t259 2).f1) == 8 && (((rd_T53 t259 2).f2) == 4 && (((rd_T53 t259 2).f3) == 2)))) = true := c10
         (try (have c10b1 : decide (((rd_T53 t259 2).f0) = 5 && (((rd_T53 t259 2).f1) == 8 && (((rd_T53 t259 2).f2) == 4 && (((rd_T53 t259 2).f3) == 2)))) = true := by simpa using c10))
         (try (have c10b2 : (((rd_T53 t259 2).f0) == 5 && (((rd_T53 t259 2).f1) == 8 && (((rd_T53 t259 2).f2) == 4 && (((rd_T53 t259 2).f3) == 2)))) = true := by simpa using c10))
         clear c10
         by_cases c11 : 3 < (t259.length : Int)
         ·rw [if_pos c11] at H
          have c11b0 : decide (3 < (t259.length : Int)) = true := decide_eq_true c11
          have c11b1 : decide (3 < t259.length) = true := decide_eq_true (by omega)
          clear c11
          by_cases c12 : (((rd_T53 t259 3).f0) == 8 && (((rd_T53 t259 3).f1) == 9 && (((rd_T53 t259 3).f2) == 5 && (((rd_T53 t259 3).f3) == 1)))) = true
          ·rw [if_pos c12] at H
           have c12b0 : (((rd_T53 t259 3).f0) == 8 && (((rd_T53 t259 3).f1) == 9 && (((rd_T53 t259 3).f2) == 5 && (((rd_T53 t259 3).f3) == 1)))) = true := c12
           (try (have c12b1 : decide (((rd_T53 t259 3).f0) = 8 && (((rd_T53 t259 3).f1) == 9 && (((rd_T53 t259 3).f2) == 5 && (((rd_T53 t259 3).f3) == 1)))) = true := by simpa using c12))
           (try (have c12b2 : (((rd_T53 t259 3).f0) == 8 && (((rd_T53 t259 3).f1) == 9 && (((rd_T53 t259 3).f2) == 5 && (((rd_T53 t259 3).f3) == 1)))) = true := by simpa using c12))
           clear c12
           replace H := Option.bind_eq_some_iff.mp H
           obtain ⟨t266,A130,H⟩ := H
           replace H : (if t266 = 3 then ((cluster_Boundary.f k (⟨#[97,204,129,98]⟩ : ByteArray) 1).bind fun t267 => (if t267 = true then (some false) else ((cluster_Boundary.f k (⟨#[]⟩ : ByteArray) 0).bind fun t268 => (if t268 = true then ((cluster_Drawn.f (⟨#[1]⟩ : ByteArray)).bind fun t269 => (some (t269.toList == ([94,65] : List UInt8)))) else (some false))))) else (some false)) = some r := H
           have A13 := Aside0.mk A130
           clear A130
           by_cases c14 : t266 = 3
           ·rw [if_pos c14] at H
            have c14b0 : (t266 == 3) = true := beq_iff_eq.mpr c14
            have c14b1 : (t266 != 3) = false := bne_eq_false_iff_eq.mpr c14
            clear c14
            replace H := Option.bind_eq_some_iff.mp H
            obtain ⟨t267,A150,H⟩ := H
            replace H : (if t267 = true then (some false) else ((cluster_Boundary.f k (⟨#[]⟩ : ByteArray) 0).bind fun t268 => (if t268 = true then ((cluster_Drawn.f (⟨#[1]⟩ : ByteArray)).bind fun t269 => (some (t269.toList == ([94,65] : List UInt8)))) else (some false)))) = some r := H
            have A15 := Aside0.mk A150
            clear A150
            by_cases c16 : t267 = true
            ·subst c16
             have H1 : (some false) = some r := by rw [if_pos rfl] at H;exact H
             clear H
             have H := H1
             clear H1
             obtain rfl := Option.some.inj H
             cases hr_
            ·replace c16 := Bool.eq_false_iff.mpr c16
             subst c16
             have H1 : ((cluster_Boundary.f k (⟨#[]⟩ : ByteArray) 0).bind fun t268 => (if t268 = true then ((cluster_Drawn.f (⟨#[1]⟩ : ByteArray)).bind fun t269 => (some (t269.toList == ([94,65] : List UInt8)))) else (some false))) = some r := by rw [if_neg (show ¬ (false = true) by decide)] at H;exact H
             clear H
             have H := H1
             clear H1
             replace H := Option.bind_eq_some_iff.mp H
             obtain ⟨t268,A220,H⟩ := H
             replace H : (if t268 = true then ((cluster_Drawn.f (⟨#[1]⟩ : ByteArray)).bind fun t269 => (some (t269.toList == ([94,65] : List UInt8)))) else (some false)) = some r := H
             have A22 := Aside0.mk A220
             clear A220
             by_cases c23 : t268 = true
             ·subst c23
              have H1 : ((cluster_Drawn.f (⟨#[1]⟩ : ByteArray)).bind fun t269 => (some (t269.toList == ([94,65] : List UInt8)))) = some r := by rw [if_pos rfl] at H;exact H
              clear H
              have H := H1
              clear H1
              replace H := Option.bind_eq_some_iff.mp H
              obtain ⟨t269,A240,H⟩ := H
              replace H : (some (t269.toList == ([94,65] : List UInt8))) = some r := H
              have A24 := Aside0.mk A240
              clear A240
              obtain rfl := Option.some.inj H
              go_enter Tryd.func39,Tryd.ntmps39
              go_wp2_with (first | ((with_reducible refine gate_callee (f := 79) rfl ?_);refine goesL_ (some 2) rfl rfl Tryd.func79 (by kernel_rfl) rfl #[] rfl (by (try simp only [List.map_toArray,List.map_cons,List.map_nil]);first | done | rfl | (simp only [List.length_drop,List.length_take];rfl)) ?_;(with_reducible refine (bodkinlaw03_steps.calls  true _ ?side1 A1.out).mono ?_);(case side1 => exact tabs_below HT.out (by repeat (first | (with_reducible first | exact HB.out | apply below_alloc | apply pw_below_drewN | apply below_drew1) | exact HB.out)));rintro e w25 ⟨rfl,hb⟩;refine ⟨_,rfl,?_⟩;have n0_ := Aside0.mk (below_step (by repeat (first | (with_reducible first | exact HB.out | apply below_alloc | apply pw_below_drewN | apply below_drew1) | exact HB.out)) hb);clear HB;have HB := n0_;clear n0_;(try clear hb);(try clear hb2);(try clear hk);(try clear hi)) | ((with_reducible refine gate_callee (f := 43) rfl ?_);refine goesL_ (some 4) rfl rfl Tryd.func43 (by kernel_rfl) rfl #[.string (⟨#[97,204,129,13,10,228,184,128,255]⟩ : ByteArray)] rfl (by (try simp only [List.map_toArray,List.map_cons,List.map_nil]);first | done | rfl | (simp only [List.length_drop,List.length_take];rfl)) ?_;(with_reducible refine (cluster_List.calls (⟨#[97,204,129,13,10,228,184,128,255]⟩ : ByteArray) t259 _ ?side1 A3.out).mono ?_);(case side1 => exact tabs_below HT.out (by repeat (first | (with_reducible first | exact HB.out | apply below_alloc | apply pw_below_drewN | apply below_drew1) | exact HB.out)));rintro e w26 ⟨v260,rfl,ho0,hb⟩;refine ⟨_,rfl,?_⟩;have n0_ := Aside0.mk (Kd.R_lower ho0 (below_size (by repeat (first | (with_reducible first | exact HB.out | apply below_alloc | apply pw_below_drewN | apply below_drew1) | exact HB.out))));have n1_ := Aside0.mk (below_step (by repeat (first | (with_reducible first | exact HB.out | apply below_alloc | apply pw_below_drewN | apply below_drew1) | exact HB.out)) hb);clear HB;have HO261 := n0_;have HB := n1_;clear n0_ n1_;(try clear hb);(try clear hb2);(try clear hk);(try clear hi);(try clear ho0);obtain ⟨Ao27,co27,eo27⟩ := Kd.R_slice HO261.out;subst eo27;have p262 : 0 ≤ (0 : Int) := (by omega);have q262 : 0 < (t259.length : Int) := of_decide_eq_true (by first | (with_reducible assumption) | assumption);obtain ⟨ad262,e262,hx262_0,hx262_1,hx262_2,hx262_3⟩ := at_T53 (Kd.R_reads' HO261.out).2.2 0 p262 q262;cases e262;have qi262 : (0 < t259.length) = True := eq_true (by omega);(try rw [show ((0 : Int)).toNat = 0 from rfl] at hx262_0);(try rw [show 0 * 4 = 0 from rfl] at hx262_0);(try rw [Addr.add_zero'] at hx262_0);(try rw [show ((0 : Int)).toNat = 0 from rfl] at hx262_1);(try rw [show 0 * 4 = 0 from rfl] at hx262_1);(try rw [Addr.add_zero'] at hx262_1);(try rw [show ((0 : Int)).toNat = 0 from rfl] at hx262_2);(try rw [show 0 * 4 = 0 from rfl] at hx262_2);(try rw [Addr.add_zero'] at hx262_2);(try rw [show ((0 : Int)).toNat = 0 from rfl] at hx262_3);(try rw [show 0 * 4 = 0 from rfl] at hx262_3);(try rw [Addr.add_zero'] at hx262_3);replace p262 := eq_true p262;replace q262 := eq_true q262;have p263 : 0 ≤ (1 : Int) := (by omega);have q263 : 1 < (t259.length : Int) := of_decide_eq_true (by first | (with_reducible assumption) | assumption);obtain ⟨ad263,e263,hx263_0,hx263_1,hx263_2,hx263_3⟩ := at_T53 (Kd.R_reads' HO261.out).2.2 1 p263 q263;obtain rfl : ad262 = ad263 := (by injection e263);(try simp only [show (1 : Int).toNat = 1 from rfl,Nat.reduceMul,Nat.reduceEqDiff,Go.Addr.add,↓reduceIte] at hx263_0);(try simp only [show (1 : Int).toNat = 1 from rfl,Nat.reduceMul,Nat.reduceEqDiff,Go.Addr.add,↓reduceIte] at hx263_1);(try simp only [show (1 : Int).toNat = 1 from rfl,Nat.reduceMul,Nat.reduceEqDiff,Go.Addr.add,↓reduceIte] at hx263_2);(try simp only [show (1 : Int).toNat = 1 from rfl,Nat.reduceMul,Nat.reduceEqDiff,Go.Addr.add,↓reduceIte] at hx263_3);have qi263 : (1 < t259.length) = True := eq_true (by omega);(try rw [show ((1 : Int)).toNat = 1 from rfl] at hx263_0);(try rw [show 1 * 4 = 4 from rfl] at hx263_0);(try rw [show ((1 : Int)).toNat = 1 from rfl] at hx263_1);(try rw [show 1 * 4 = 4 from rfl] at hx263_1);(try rw [show ((1 : Int)).toNat = 1 from rfl] at hx263_2);(try rw [show 1 * 4 = 4 from rfl] at hx263_2);(try rw [show ((1 : Int)).toNat = 1 from rfl] at hx263_3);(try rw [show 1 * 4 = 4 from rfl] at hx263_3);replace p263 := eq_true p263;replace q263 := eq_true q263;have p264 : 0 ≤ (2 : Int) := (by omega);have q264 : 2 < (t259.length : Int) := of_decide_eq_true (by first | (with_reducible assumption) | assumption);obtain ⟨ad264,e264,hx264_0,hx264_1,hx264_2,hx264_3⟩ := at_T53 (Kd.R_reads' HO261.out).2.2 2 p264 q264;obtain rfl : ad262 = ad264 := (by injection e264);(try simp only [show (2 : Int).toNat = 2 from rfl,Nat.reduceMul,Nat.reduceEqDiff,Go.Addr.add,↓reduceIte] at hx264_0);(try simp only [show (2 : Int).toNat = 2 from rfl,Nat.reduceMul,Nat.reduceEqDiff,Go.Addr.add,↓reduceIte] at hx264_1);(try simp only [show (2 : Int).toNat = 2 from rfl,Nat.reduceMul,Nat.reduceEqDiff,Go.Addr.add,↓reduceIte] at hx264_2);(try simp only [show (2 : Int).toNat = 2 from rfl,Nat.reduceMul,Nat.reduceEqDiff,Go.Addr.add,↓reduceIte] at hx264_3);have qi264 : (2 < t259.length) = True := eq_true (by omega);(try rw [show ((2 : Int)).toNat = 2 from rfl] at hx264_0);(try rw [show 2 * 4 = 8 from rfl] at hx264_0);(try rw [show ((2 : Int)).toNat = 2 from rfl] at hx264_1);(try rw [show 2 * 4 = 8 from rfl] at hx264_1);(try rw [show ((2 : Int)).toNat = 2 from rfl] at hx264_2);(try rw [show 2 * 4 = 8 from rfl] at hx264_2);(try rw [show ((2 : Int)).toNat = 2 from rfl] at hx264_3);(try rw [show 2 * 4 = 8 from rfl] at hx264_3);replace p264 := eq_true p264;replace q264 := eq_true q264;have p265 : 0 ≤ (3 : Int) := (by omega);have q265 : 3 < (t259.length : Int) := of_decide_eq_true (by first | (with_reducible assumption) | assumption);obtain ⟨ad265,e265,hx265_0,hx265_1,hx265_2,hx265_3⟩ := at_T53 (Kd.R_reads' HO261.out).2.2 3 p265 q265;obtain rfl : ad262 = ad265 := (by injection e265);(try simp only [show (3 : Int).toNat = 3 from rfl,Nat.reduceMul,Nat.reduceEqDiff,Go.Addr.add,↓reduceIte] at hx265_0);(try simp only [show (3 : Int).toNat = 3 from rfl,Nat.reduceMul,Nat.reduceEqDiff,Go.Addr.add,↓reduceIte] at hx265_1);(try simp only [show (3 : Int).toNat = 3 from rfl,Nat.reduceMul,Nat.reduceEqDiff,Go.Addr.add,↓reduceIte] at hx265_2);(try simp only [show (3 : Int).toNat = 3 from rfl,Nat.reduceMul,Nat.reduceEqDiff,Go.Addr.add,↓reduceIte] at hx265_3);have qi265 : (3 < t259.length) = True := eq_true (by omega);(try rw [show ((3 : Int)).toNat = 3 from rfl] at hx265_0);(try rw [show 3 * 4 = 12 from rfl] at hx265_0);(try rw [show ((3 : Int)).toNat = 3 from rfl] at hx265_1);(try rw [show 3 * 4 = 12 from rfl] at hx265_1);(try rw [show ((3 : Int)).toNat = 3 from rfl] at hx265_2);(try rw [show 3 * 4 = 12 from rfl] at hx265_2);(try rw [show ((3 : Int)).toNat = 3 from rfl] at hx265_3);(try rw [show 3 * 4 = 12 from rfl] at hx265_3);replace p265 := eq_true p265;replace q265 := eq_true q265) | (go_at_call 46;(with_reducible refine (cluster_Next.calls k (⟨#[97,204,129,98]⟩ : ByteArray) 0 t266 _ ?side1 A13.out).mono ?_);(case side1 => exact tabs_below HT.out (by repeat (first | (with_reducible first | exact HB.out | apply below_alloc | apply pw_below_drewN | apply below_drew1) | exact HB.out)));rintro e w28 ⟨rfl,hb⟩;have n0_ := Aside0.mk (Kd.R_below (by (with_reducible repeat (first | apply Kd.R_alloc | apply Kd.R_drewN | apply Kd.R_drew));exact HO261.out) hb);have n1_ := Aside0.mk (below_step (by repeat (first | (with_reducible first | exact HB.out | apply below_alloc | apply pw_below_drewN | apply below_drew1) | exact HB.out)) hb);clear HO261;clear HB;have HO261 := n0_;have HB := n1_;clear n0_ n1_;(try clear hb);(try clear hb2);(try clear hk);(try clear hi)) | (go_at_call 42;(with_reducible refine (cluster_Boundary.calls k (⟨#[97,204,129,98]⟩ : ByteArray) 1 false _ ?side1 A15.out).mono ?_);(case side1 => exact tabs_below HT.out (by repeat (first | (with_reducible first | exact HB.out | apply below_alloc | apply pw_below_drewN | apply below_drew1) | exact HB.out)));rintro e w29 ⟨rfl,hb⟩;have n0_ := Aside0.mk (Kd.R_below (by (with_reducible repeat (first | apply Kd.R_alloc | apply Kd.R_drewN | apply Kd.R_drew));exact HO261.out) hb);have n1_ := Aside0.mk (below_step (by repeat (first | (with_reducible first | exact HB.out | apply below_alloc | apply pw_below_drewN | apply below_drew1) | exact HB.out)) hb);clear HO261;clear HB;have HO261 := n0_;have HB := n1_;clear n0_ n1_;(try clear hb);(try clear hb2);(try clear hk);(try clear hi)) | (go_at_call 42;(with_reducible refine (cluster_Boundary.calls k (⟨#[]⟩ : ByteArray) 0 true _ ?side1 A22.out).mono ?_);(case side1 => exact tabs_below HT.out (by repeat (first | (with_reducible first | exact HB.out | apply below_alloc | apply pw_below_drewN | apply below_drew1) | exact HB.out)));rintro e w30 ⟨rfl,hb⟩;have n0_ := Aside0.mk (Kd.R_below (by (with_reducible repeat (first | apply Kd.R_alloc | apply Kd.R_drewN | apply Kd.R_drew));exact HO261.out) hb);have n1_ := Aside0.mk (below_step (by repeat (first | (with_reducible first | exact HB.out | apply below_alloc | apply pw_below_drewN | apply below_drew1) | exact HB.out)) hb);clear HO261;clear HB;have HO261 := n0_;have HB := n1_;clear n0_ n1_;(try clear hb);(try clear hb2);(try clear hk);(try clear hi)) | (go_at_call 56;(with_reducible refine (cluster_Drawn.calls (⟨#[1]⟩ : ByteArray) t269 _ ?side1 A24.out).mono ?_);(case side1 => exact tabs_below HT.out (by repeat (first | (with_reducible first | exact HB.out | apply below_alloc | apply pw_below_drewN | apply below_drew1) | exact HB.out)));rintro e w31 ⟨rfl,hb⟩;have n0_ := Aside0.mk (Kd.R_below (by (with_reducible repeat (first | apply Kd.R_alloc | apply Kd.R_drewN | apply Kd.R_drew));exact HO261.out) hb);have n1_ := Aside0.mk (below_step (by repeat (first | (with_reducible first | exact HB.out | apply below_alloc | apply pw_below_drewN | apply below_drew1) | exact HB.out)) hb);clear HO261;clear HB;have HO261 := n0_;have HB := n1_;clear n0_ n1_;(try clear hb);(try clear hb2);(try clear hk);(try clear hi)))
              go_ret
              exact ⟨by first | rfl | (simp [errW_none,errW_some] <;> rfl) | (simp [*,errW_none,errW_some] <;> rfl),by repeat (first | (with_reducible first | exact HB.out | apply below_alloc | apply pw_below_drewN | apply below_drew1) | exact HB.out)⟩
             ·replace c23 := Bool.eq_false_iff.mpr c23
              subst c23
              have H1 : (some false) = some r := by rw [if_neg (show ¬ (false = true) by decide)] at H;exact H
              clear H
              have H := H1
              clear H1
              obtain rfl := Option.some.inj H
              cases hr_
           ·rw [if_neg c14] at H
            have c14b0 : (t266 == 3) = false := beq_eq_false_iff_ne.mpr c14
            have c14b1 : (t266 != 3) = true := bne_iff_ne.mpr c14
            obtain rfl := Option.some.inj H
            cases hr_
          ·rw [if_neg c12] at H
           have c12b0 : (((rd_T53 t259 3).f0) == 8 && (((rd_T53 t259 3).f1) == 9 && (((rd_T53 t259 3).f2) == 5 && (((rd_T53 t259 3).f3) == 1)))) = false := by simpa using c12
           (try (have c12b1 : decide (((rd_T53 t259 3).f0) = 8 && (((rd_T53 t259 3).f1) == 9 && (((rd_T53 t259 3).f2) == 5 && (((rd_T53 t259 3).f3) == 1)))) = false := by simpa using c12))
           (try (have c12b2 : (((rd_T53 t259 3).f0) == 8 && (((rd_T53 t259 3).f1) == 9 && (((rd_T53 t259 3).f2) == 5 && (((rd_T53 t259 3).f3) == 1)))) = false := by simpa using c12))
           (try (have c12b3 : ¬ (((rd_T53 t259 3).f0) = 8 && (((rd_T53 t259 3).f1) == 9 && (((rd_T53 t259 3).f2) == 5 && (((rd_T53 t259 3).f3) == 1)))) := by simpa using c12))
           clear c12
           obtain rfl := Option.some.inj H
           cases hr_
         ·rw [if_neg c11] at H
          exact absurd H (by simp)
        ·rw [if_neg c10] at H
         have c10b0 : (((rd_T53 t259 2).f0) == 5 && (((rd_T53 t259 2).f1) == 8 && (((rd_T53 t259 2).f2) == 4 && (((rd_T53 t259 2).f3) == 2)))) = false := by simpa using c10
         (try (have c10b1 : decide (((rd_T53 t259 2).f0) = 5 && (((rd_T53 t259 2).f1) == 8 && (((rd_T53 t259 2).f2) == 4 && (((rd_T53 t259 2).f3) == 2)))) = false := by simpa using c10))
         (try (have c10b2 : (((rd_T53 t259 2).f0) == 5 && (((rd_T53 t259 2).f1) == 8 && (((rd_T53 t259 2).f2) == 4 && (((rd_T53 t259 2).f3) == 2)))) = false := by simpa using c10))
         (try (have c10b3 : ¬ (((rd_T53 t259 2).f0) = 5 && (((rd_T53 t259 2).f1) == 8 && (((rd_T53 t259 2).f2) == 4 && (((rd_T53 t259 2).f3) == 2)))) := by simpa using c10))
         clear c10
         obtain rfl := Option.some.inj H
         cases hr_
       ·rw [if_neg c9] at H
        exact absurd H (by simp)
      ·rw [if_neg c8] at H
       have c8b0 : (((rd_T53 t259 1).f0) == 3 && (((rd_T53 t259 1).f1) == 5 && (((rd_T53 t259 1).f2) == 1 && (((rd_T53 t259 1).f3) == 0)))) = false := by simpa using c8
       (try (have c8b1 : decide (((rd_T53 t259 1).f0) = 3 && (((rd_T53 t259 1).f1) == 5 && (((rd_T53 t259 1).f2) == 1 && (((rd_T53 t259 1).f3) == 0)))) = false := by simpa using c8))
       (try (have c8b2 : (((rd_T53 t259 1).f0) == 3 && (((rd_T53 t259 1).f1) == 5 && (((rd_T53 t259 1).f2) == 1 && (((rd_T53 t259 1).f3) == 0)))) = false := by simpa using c8))
       (try (have c8b3 : ¬ (((rd_T53 t259 1).f0) = 3 && (((rd_T53 t259 1).f1) == 5 && (((rd_T53 t259 1).f2) == 1 && (((rd_T53 t259 1).f3) == 0)))) := by simpa using c8))
       clear c8
       obtain rfl := Option.some.inj H
       cases hr_
     ·rw [if_neg c7] at H
      exact absurd H (by simp)
    ·rw [if_neg c6] at H
     have c6b0 : (((rd_T53 t259 0).f0) == 0 && (((rd_T53 t259 0).f1) == 3 && (((rd_T53 t259 0).f2) == 0 && (((rd_T53 t259 0).f3) == 1)))) = false := by simpa using c6
     (try (have c6b1 : decide (((rd_T53 t259 0).f0) = 0 && (((rd_T53 t259 0).f1) == 3 && (((rd_T53 t259 0).f2) == 0 && (((rd_T53 t259 0).f3) == 1)))) = false := by simpa using c6))
     (try (have c6b2 : (((rd_T53 t259 0).f0) == 0 && (((rd_T53 t259 0).f1) == 3 && (((rd_T53 t259 0).f2) == 0 && (((rd_T53 t259 0).f3) == 1)))) = false := by simpa using c6))
     (try (have c6b3 : ¬ (((rd_T53 t259 0).f0) = 0 && (((rd_T53 t259 0).f1) == 3 && (((rd_T53 t259 0).f2) == 0 && (((rd_T53 t259 0).f3) == 1)))) := by simpa using c6))
     clear c6
     obtain rfl := Option.some.inj H
     cases hr_
   ·rw [if_neg c5] at H
    exact absurd H (by simp)
  ·rw [if_neg c4] at H
   have c4b0 : ((t259.length : Int) == 4) = false := beq_eq_false_iff_ne.mpr c4
   have c4b1 : ((t259.length : Int) != 4) = true := bne_iff_ne.mpr c4
   obtain rfl := Option.some.inj H
   cases hr_
 ·replace c2 := Bool.eq_false_iff.mpr c2
  subst c2
  have H1 : (some false) = some r := by rw [if_neg (show ¬ (false = true) by decide)] at H;exact H
  clear H
  have H := H1
  clear H1
  obtain rfl := Option.some.inj H
  cases hr_
end Go.Proofs.YtfhnfhgpaoddbaaDoor.U
end
