/- What the law LayoutFits reaches of this seat's own texts, merged; what nothing uses is left out. -/
import Derived.Test.YtnpjaaldppemlaaDoorZLayoutFits0
import Derived.Test.YtnpjaaldppemlaaDoorZLayoutFits1
import Derived.Test.YtnpjaaldppemlaaDoorZLayoutFits3
import Derived.Test.YtnpjaaldppemlaaDoorZLayoutFits4
section
namespace Go.Proofs.YtnpjaaldppemlaaDoor.U
open Go.RowKit Go.Shelf Go.Proofs.YtnpjaaldppemlaaDoor.Mu Go.Proofs.YtnpjaaldppemlaaDoor.Pu Go.Proofs.YtnpjaaldppemlaaDoor.Rg Go.Proofs.YtnpjaaldppemlaaDoorW.PrintWords Go.Proofs.YtnpjaaldppemlaaDoorW.PrintLast Go.Proofs.YtnpjaaldppemlaaDoorW.PrintMore
attribute [local go_sem] Oper.semAt_some
set_option linter.unusedVariables false
set_option linter.unusedSimpArgs false
set_option maxRecDepth 100000 in
set_option maxHeartbeats 4000000 in
theorem ccount_any (s : ByteArray) (w : World) (hs : s.size ≤ 1099511627776) (hT : Lib.Utf8Tabs 0 1 w) :
  Calls Tryd.prog 28 #[.string s] w fun e w' => e = .returned (.int .i64 ((clusL s).length : Int)) ∧ Below w.heap.size w w' := by
 have hlen : (clusL s).length ≤ s.size := clusL_length s
 refine (callsIn_wide (n := 6)).1 ?_
 refine callsIn_of_wp_marks Tryd.func28 rfl trivial ?_ rfl
 simp only [Tryd.ntmps28,List.size_toArray,List.length_cons,List.length_nil,Nat.reduceAdd,Nat.reduceSub,Array.replicate_succ,Array.replicate_zero,List.push_toArray,List.append_toArray,List.nil_append,List.cons_append]
 gi_wp2_with (refine ⟨trivial,?_⟩;gi_at_call 35;refine (callsIn_wide.2 (cwalk_calls s _)).mono ?_;rintro e w' ⟨rfl,rfl⟩)
 have bO := (Boxed.new w 3 (.int .i64 0)).alloc (.cells #[.string s] 9)
 have bS := Boxed.new (w.alloc (.cells #[.int .i64 0] 3)) 9 (.string s)
 rw [World.size_alloc] at bS
 have hB0 : Below w.heap.size w ((w.alloc (.cells #[.int .i64 0] 3)).alloc (.cells #[.string s] 9)) := ((Below.refl _ w).alloc (Nat.le_refl _) _).alloc (by simp) _
 have hsz : ((w.alloc (.cells #[.int .i64 0] 3)).alloc (.cells #[.string s] 9)).heap.size = w.heap.size + 2 := by simp
 obtain ⟨W0,hW0⟩ : ∃ W0,(w.alloc (.cells #[.int .i64 0] 3)).alloc (.cells #[.string s] 9) = W0 := ⟨_,rfl⟩
 simp only [hW0]
 rw [hW0] at bO bS hB0 hsz
 clear hW0
 refine range_outer (α := S60) rfl (by omega) (gf := 52) (lb := #[.pointer (some ⟨w.heap.size + 1,0,none⟩)]) rfl trivial (enters_of Tryd.func52 (by kernel_rfl) rfl)
  (cwalk1_seq 5 (by omega) w W0 s (w.heap.size + 1) hs hT hB0 bS) (Below.refl _ _) (fun _ => rfl) (by omega)
  (fun (B : Nat) (pre : List S60) (W : World) => (Boxed W w.heap.size 3 (.int .i64 (pre.length : Int)) ∧ Below w.heap.size w W) ∧ (w.heap.size + 1 < B ∧ pre.length ≤ s.size))
  (fun _ _ _ => False)
  (fun B => OwnFrom.and (OwnFrom.and (Own.from (boxed_own w.heap.size 3 (fun (pre : List S60) => .int .i64 (pre.length : Int))) _) (ownFrom_below (Nat.le_refl _) (by omega))) (ownFrom_pure _ (fun (pre : List S60) => w.heap.size + 1 < B ∧ pre.length ≤ s.size)))
  (fun B B' pre W hBB h => ⟨h.1,by omega,h.2.2⟩)
  (fun _ _ _ _ _ hs _ _ => hs)
  ⟨⟨bO,hB0⟩,by omega,by simp⟩
  (fun (x : S60) (a' : Act) (_ : World) => a' = { tmps := #[.string s,undef,.int .i64 0,.pointer (some ⟨w.heap.size,0,none⟩),.string s,.func (.func 52) #[] #[.pointer (some ⟨w.heap.size + 1,0,none⟩)],.agg #[.int .i64 x.f0,.int .i64 x.f1,.int .i64 x.f2,.int .i64 x.f3],undef,undef,undef],defers := [] })
  (fun _ _ _ _ _ _ hs _ _ => hs)
  ?assign ?body ?done ?stop
 case assign =>
  rintro l B pre x W K hCW hBW hI hK
  gi_wp2
  exact hK _ _ (KeepsFrom.refl _ _) (KeepB.refl _ _ _ _) hI (by first | rfl | kernel_rfl)
 case body =>
  rintro l B pre x a' W hl hCW hr hBW ⟨⟨hb,hB⟩,hoB,hq⟩ rfl hlt hpx
  have hlt2 : pre.length < s.size := Nat.lt_of_lt_of_le hlt hlen
  have hc := hb.cell
  have hf := hb.frozen
  try dsimp only
  gi_wp2
  refine ⟨(KeepsOthers.setCell W _ _).from _,⟨belowAt w.heap.size w.heap.size _ hB.size (Nat.le_refl _),fun k o hk ho _ => (Below.heap_setCell W ⟨w.heap.size,0,none⟩ _ k (show k ≠ w.heap.size by rcases hk with hk | hk;have hk : k = w.heap.size + 1 := hk;omega;omega)).trans ho⟩,⟨by rw [List.length_append];exact hb.set _,hB.trans (belowAt w.heap.size w.heap.size _ hB.size (Nat.le_refl _))⟩,by simp;omega,by rw [List.length_append];simp;omega⟩
 case done =>
  rintro D ys W hD hys ⟨⟨hb,hB⟩,_⟩ hK
  have hc := hb.cell
  obtain rfl : ys = clusL s := hys
  gi_wp2
  refine ⟨by simp,.inl ⟨_,_,rfl,run_takeDeferred hK,?_⟩⟩
  exact ⟨_,results_tmp rfl _ _ _,rfl,hB.trans (belowK_b (w := w) (Nat.le_refl _) W D _ _ (by omega) hK rfl rfl)⟩
 case stop =>
  rintro D c pre W _ _ h _
  exact h.elim
def cluster_Count.f (a0 : ByteArray) : Option Int := if a0.size ≤ 1099511627776 then some ((clusL a0).length : Int) else none
theorem cluster_Count.calls (a0 : ByteArray) (r : Int) (w : World) (hT : Lib.Utf8Tabs 0 1 w) (h : cluster_Count.f a0 = some r) :
  Calls Tryd.prog 28 #[.string a0] w fun e w' => e = .returned (.int .i64 r) ∧ Below w.heap.size w w' := by
 unfold cluster_Count.f at h
 split at h
 ·obtain rfl := Option.some.inj h
  rename_i hs
  exact ccount_any a0 w hs hT
 ·cases h
def sumC : List S60 → Int
 | [] => 0
 | c :: cs => c.f3 + sumC cs
theorem sumC_app (a b : List S60) : sumC (a ++ b) = sumC a + sumC b := by
 induction a with
 | nil => simp [sumC]
 | cons c cs ih => simp only [List.cons_append,sumC,ih];omega
theorem celB_range (c : Int) : 0 ≤ celB c ∧ celB c ≤ 2 := by unfold celB;repeat' split <;> omega
theorem celAt_range (s : ByteArray) (x : Nat) : 0 ≤ celAt s x ∧ celAt s x ≤ 2 := by
 unfold celAt
 split
 ·omega
 ·exact celB_range _
theorem cluL_cells (s : ByteArray) : ∀ k x,∀ c ∈ cluL s k x,0 ≤ c.f3 ∧ c.f3 ≤ 2
 | 0,_,c,h => by simp [cluL] at h
 | k + 1,x,c,h => by
  rw [cluL] at h
  split at h
  ·rcases List.mem_cons.1 h with rfl | h
   ·exact celAt_range s x
   ·exact cluL_cells s k _ c h
  ·simp at h
theorem sumC_range (cs : List S60) (h : ∀ c ∈ cs,0 ≤ c.f3 ∧ c.f3 ≤ 2) : 0 ≤ sumC cs ∧ sumC cs ≤ 2 * (cs.length : Int) := by
 induction cs with
 | nil => simp [sumC]
 | cons c cs ih =>
  have h1 := h c (by simp)
  have h2 := ih (fun c hc => h c (List.mem_cons_of_mem _ hc))
  simp only [sumC,List.length_cons]
  omega
theorem sumC_pre (s : ByteArray) (pre : List S60) (h : pre <+: clusL s) : 0 ≤ sumC pre ∧ sumC pre ≤ 2 * (s.size : Int) := by
 have h1 := sumC_range pre (fun c hc => cluL_cells s s.size 0 c (h.subset hc))
 have h2 := h.length_le
 have h3 := clusL_length s
 omega
set_option maxRecDepth 100000 in
set_option maxHeartbeats 4000000 in
theorem ccells_any (s : ByteArray) (w : World) (hs : s.size ≤ 1099511627776) (hT : Lib.Utf8Tabs 0 1 w) :
  Calls Tryd.prog 29 #[.string s] w fun e w' => e = .returned (.int .i64 (sumC (clusL s))) ∧ Below w.heap.size w w' := by
 have hlen : (clusL s).length ≤ s.size := clusL_length s
 refine (callsIn_wide (n := 6)).1 ?_
 refine callsIn_of_wp_marks Tryd.func29 rfl trivial ?_ rfl
 simp only [Tryd.ntmps29,List.size_toArray,List.length_cons,List.length_nil,Nat.reduceAdd,Nat.reduceSub,Array.replicate_succ,Array.replicate_zero,List.push_toArray,List.append_toArray,List.nil_append,List.cons_append]
 gi_wp2_with (refine ⟨trivial,?_⟩;gi_at_call 35;refine (callsIn_wide.2 (cwalk_calls s _)).mono ?_;rintro e w' ⟨rfl,rfl⟩)
 have bO := (Boxed.new w 3 (.int .i64 0)).alloc (.cells #[.string s] 9)
 have bS := Boxed.new (w.alloc (.cells #[.int .i64 0] 3)) 9 (.string s)
 rw [World.size_alloc] at bS
 have hB0 : Below w.heap.size w ((w.alloc (.cells #[.int .i64 0] 3)).alloc (.cells #[.string s] 9)) := ((Below.refl _ w).alloc (Nat.le_refl _) _).alloc (by simp) _
 have hsz : ((w.alloc (.cells #[.int .i64 0] 3)).alloc (.cells #[.string s] 9)).heap.size = w.heap.size + 2 := by simp
 obtain ⟨W0,hW0⟩ : ∃ W0,(w.alloc (.cells #[.int .i64 0] 3)).alloc (.cells #[.string s] 9) = W0 := ⟨_,rfl⟩
 simp only [hW0]
 rw [hW0] at bO bS hB0 hsz
 clear hW0
 refine range_outer (α := S60) rfl (by omega) (gf := 52) (lb := #[.pointer (some ⟨w.heap.size + 1,0,none⟩)]) rfl trivial (enters_of Tryd.func52 (by kernel_rfl) rfl)
  (cwalk1_seq 5 (by omega) w W0 s (w.heap.size + 1) hs hT hB0 bS) (Below.refl _ _) (fun _ => rfl) (by omega)
  (fun (B : Nat) (pre : List S60) (W : World) => (Boxed W w.heap.size 3 (.int .i64 (sumC pre)) ∧ Below w.heap.size w W) ∧ (w.heap.size + 1 < B))
  (fun _ _ _ => False)
  (fun B => OwnFrom.and (OwnFrom.and (Own.from (boxed_own w.heap.size 3 (fun (pre : List S60) => .int .i64 (sumC pre))) _) (ownFrom_below (Nat.le_refl _) (by omega))) (ownFrom_pure _ (fun (pre : List S60) => w.heap.size + 1 < B)))
  (fun B B' pre W hBB h => ⟨h.1,by omega⟩)
  (fun _ _ _ _ _ hs _ _ => hs)
  ⟨⟨bO,hB0⟩,by omega⟩
  (fun (x : S60) (a' : Act) (W : World) => ∃ Bx,Hid (W.heap[Bx]? = some (.cells #[.int .i64 x.f0,.int .i64 x.f1,.int .i64 x.f2,.int .i64 x.f3] 60 (0,0))) ∧ a' = { tmps := #[.string s,undef,.int .i64 0,.pointer (some ⟨w.heap.size,0,none⟩),.pointer (some ⟨Bx,0,none⟩),.string s,.func (.func 52) #[] #[.pointer (some ⟨w.heap.size + 1,0,none⟩)],.agg #[.int .i64 x.f0,.int .i64 x.f1,.int .i64 x.f2,.int .i64 x.f3],undef,undef,undef,undef,undef],defers := [] })
  (fun x a' _ X Y row hs hg hr => by
   obtain ⟨Bx,h1,h2⟩ := hs
   refine ⟨Bx,?_,h2⟩
   refine (hg.block Bx (Array.getElem?_eq_some_iff.1 h1).1 (fun e => ?_)).trans h1
   obtain ⟨_,o,ho,hc⟩ := hr Bx e.symm
   rw [show X.heap[Bx]? = _ from h1] at ho;cases ho;cases hc)
  ?assign ?body ?done ?stop
 case assign =>
  rintro l B pre x W K hCW hBW hI hK
  have hsz1 := hI.1.2.size
  gi_wp2
  exact hK _ _ ((KeepsOthers.alloc _ _).from _) (KeepB.of_below hsz1 ((Below.refl _ W).alloc (Nat.le_refl _) _)) ⟨⟨hI.1.1.alloc _,hI.1.2.alloc hsz1 _⟩,hI.2⟩ ⟨W.heap.size,Lib.hid (World.alloc_heap_new W _),rfl⟩
 case body =>
  rintro l B pre x a' W hl hCW hr hBW ⟨⟨hb,hB⟩,hoB⟩ ⟨Bx,hBx,rfl⟩ hlt hpx
  have hs1 := sumC_pre s pre ((List.prefix_append pre [x]).trans hpx)
  have hs2 := sumC_pre s (pre ++ [x]) hpx
  have e1 : sumC (pre ++ [x]) = sumC pre + x.f3 := by rw [sumC_app];simp [sumC]
  rw [e1] at hs2
  have hw : IntKind.i64.wrap (sumC pre + x.f3) = sumC pre + x.f3 := (i64_w _).trans (w64 (by omega) (by omega))
  have hc := hb.cell
  have hf := hb.frozen
  have hcx3 : W.cell? ⟨Bx,3,none⟩ = some (.int .i64 x.f3) := by simp [World.cell?,show W.heap[Bx]? = _ from hBx]
  have hu := Tryd.underlying60
  clear hs1 hs2
  try dsimp only
  gi_wp2
  refine ⟨(KeepsOthers.setCell W _ _).from _,⟨belowAt w.heap.size w.heap.size _ hB.size (Nat.le_refl _),fun k o hk ho _ => (Below.heap_setCell W ⟨w.heap.size,0,none⟩ _ k (show k ≠ w.heap.size by rcases hk with hk | hk;have hk : k = w.heap.size + 1 := hk;omega;omega)).trans ho⟩,⟨by rw [e1];exact hb.set _,hB.trans (belowAt w.heap.size w.heap.size _ hB.size (Nat.le_refl _))⟩,by simp;omega⟩
 case done =>
  rintro D ys W hD hys ⟨⟨hb,hB⟩,_⟩ hK
  have hc := hb.cell
  obtain rfl : ys = clusL s := hys
  gi_wp2
  refine ⟨by simp,.inl ⟨_,_,rfl,run_takeDeferred hK,?_⟩⟩
  exact ⟨_,results_tmp rfl _ _ _,rfl,hB.trans (belowK_b (w := w) (Nat.le_refl _) W D _ _ (by omega) hK rfl rfl)⟩
 case stop =>
  rintro D c pre W _ _ h _
  exact h.elim
def cluster_Cells.f (a0 : ByteArray) : Option Int := if a0.size ≤ 1099511627776 then some (sumC (clusL a0)) else none
theorem cluster_Cells.calls (a0 : ByteArray) (r : Int) (w : World) (hT : Lib.Utf8Tabs 0 1 w) (h : cluster_Cells.f a0 = some r) :
  Calls Tryd.prog 29 #[.string a0] w fun e w' => e = .returned (.int .i64 r) ∧ Below w.heap.size w w' := by
 unfold cluster_Cells.f at h
 split at h
 ·obtain rfl := Option.some.inj h
  rename_i hs
  exact ccells_any a0 w hs hT
 ·cases h
end Go.Proofs.YtnpjaaldppemlaaDoor.U
end
section
namespace Go.Proofs.YtnpjaaldppemlaaDoor.U
open Go.RowKit Go.Shelf Go.Proofs.YtnpjaaldppemlaaDoor.Mu Go.Proofs.YtnpjaaldppemlaaDoor.Pu Go.Proofs.YtnpjaaldppemlaaDoor.Rg Go.Proofs.YtnpjaaldppemlaaDoorW.PrintWords Go.Proofs.YtnpjaaldppemlaaDoorW.PrintLast Go.Proofs.YtnpjaaldppemlaaDoorW.PrintMore
set_option linter.unusedVariables false
set_option linter.unusedSimpArgs false
theorem bld_size : (Tryd.prog.info? 76).map (·.size) = some 2 := by kernel_rfl
theorem bld_lies : liesAt Tryd.prog Tryd.prog.depth 76 (2 / Tryd.prog.cellsOf 76) 0 76 1 = true := by kernel_rfl
theorem byte_info : (Tryd.prog.info? 5).map (fun i => (i.zero,i.size,i.bytes)) = some (some (.int .u8 0),1,1) := by kernel_rfl
set_option maxHeartbeats 1000000 in
set_option maxRecDepth 100000 in
theorem copyCheck_used (b : Nat) (w : World) (h0 : w.cell? ⟨b,0,none⟩ = some (.pointer (some ⟨b,0,none⟩))) :
  Calls Tryd.prog 64 #[.pointer (some ⟨b,0,none⟩)] w fun e w' => e = .returned (.tuple #[]) ∧ w' = w := by
 obtain ⟨j,hj,_⟩ := Option.map_eq_some_iff.1 bld_size
 have hu := Tryd.underlying76
 go_enter Tryd.func64,Tryd.ntmps64
 go_wp2
 rw [Lib.run_neq_ptr_same w _ Tryd.underlying73 hj]
 go_wp2
 go_end0
 exact ⟨rfl,rfl⟩
set_option maxHeartbeats 1000000 in
set_option maxRecDepth 100000 in
theorem copyCheck_fresh (b : Nat) (w : World) (h0 : w.cell? ⟨b,0,none⟩ = some (.pointer none)) (hsh : w.shape? b = some (76,2)) (hfz : w.frozen? ⟨b,0,none⟩ = false) :
  Calls Tryd.prog 64 #[.pointer (some ⟨b,0,none⟩)] w fun e w' => e = .returned (.tuple #[]) ∧ w' = w.setCell ⟨b,0,none⟩ (.pointer (some ⟨b,0,none⟩)) := by
 obtain ⟨j,hj,hjs⟩ := Option.map_eq_some_iff.1 bld_size
 have hu := Tryd.underlying76
 go_enter Tryd.func64,Tryd.ntmps64
 go_wp2
 rw [Lib.run_to_unsafe w ⟨b,0,none⟩ Tryd.underlying73 Tryd.underlying110 hj (by rw [hjs];decide) hsh (Nat.zero_lt_succ 1)]
 simp only [Result.andThen]
 rw [Oper.upon_value]
 go_wp2
 rw [run_callFunc_extern Tryd.func77 (by kernel_rfl) (by kernel_rfl) (by kernel_rfl) (e := Extern.AbiNoEscape.same) (by kernel_rfl)]
 rw [Lib.run_noEscape]
 simp only [Result.andThen]
 rw [Oper.upon_value]
 go_wp2
 rw [Lib.run_from_unsafe w ⟨b,0,none⟩ Tryd.underlying110 Tryd.underlying73 hj hsh bld_lies]
 simp only [Result.andThen]
 rw [Oper.upon_value]
 go_wp2
 go_end0
 exact ⟨rfl,rfl⟩
/-- The builder in block b holds bs;v is its buffer. -/
def BldAt (n₀ b : Nat) (bs : List Value) (v : Value) (W : World) : Prop :=
 ∃ p,(p = .pointer none ∨ p = .pointer (some ⟨b,0,none⟩)) ∧ W.heap[b]? = some (.cells #[p,v] 76 (0,0)) ∧ W.ownsRowF n₀ 5 1 v bs.length bs ∧ v.ownBlock ≠ some b
/-- What a write turns. -/
structure Wrote (n₀ b : Nat) (v : Value) (W W' : World) : Prop where
 below : Below n₀ W W'
 others : KeepsOthers W W'
 keep : ∀ (k : Nat),k < W.heap.size → k ≠ b → some k ≠ v.ownBlock → W'.heap[k]? = W.heap[k]?
theorem ownsRowF_cells {w : World} {B : Nat} {e : TypeId} {v : Value} {n : Nat} {xs : List Value} (h : w.ownsRowF B e 1 v n xs) : ∀ g,v.ownBlock = some g → ∃ o,w.heap[g]? = some o ∧ o.isCells = true := by
 intro g hg
 obtain ⟨c,fz,hc⟩ := Lib.ownsRowF_kind h g hg
 exact ⟨_,hc,rfl⟩
theorem BldAt.kept {n₀ b : Nat} {bs : List Value} {v : Value} {X Y : World} {row : Option Nat} (h : BldAt n₀ b bs v X) (hg : X.grownBy Y row) (hb : row ≠ some b) (hv : v.ownBlock = none ∨ v.ownBlock ≠ row) : BldAt n₀ b bs v Y := by
 obtain ⟨p,hp,hk,hr,hne⟩ := h
 exact ⟨p,hp,(hg.block b (Array.getElem?_eq_some_iff.1 hk).1 (fun e => hb e.symm)).trans hk,hr.kept hg hv,hne⟩
theorem BldAt.grow {n₀ b : Nat} {bs : List Value} {v : Value} {X Y : World} {row : Option Nat} (h : BldAt n₀ b bs v X) (hg : X.grownBy Y row) (hr : ∀ r,row = some r → ∃ o : Obj,X.heap[r]? = some o ∧ o.isCells = false) : BldAt n₀ b bs v Y := by
 refine h.kept hg (fun e => ?_) ?_
 ·obtain ⟨p,_,hk,_⟩ := h
  obtain ⟨o,ho,hc⟩ := hr b e
  rw [hk] at ho;cases ho;cases hc
 ·cases hv : v.ownBlock with
  | none => exact .inl rfl
  | some g =>
   refine .inr (fun e => ?_)
   obtain ⟨p,_,_,hrow,_⟩ := h
   obtain ⟨o,ho,hc⟩ := ownsRowF_cells hrow g hv
   obtain ⟨o',ho',hc'⟩ := hr g e.symm
   rw [ho] at ho';cases ho';rw [hc] at hc';cases hc'
theorem BldAt.is {n₀ b : Nat} {bs : List Value} {v : Value} {W : World} (h : BldAt n₀ b bs v W) (hb : n₀ ≤ b) : Lib.IsBuilderF 76 5 n₀ b bs W := by
 obtain ⟨p,hp | hp,hk,hr,hne⟩ := h
 ·exact .inl ⟨hb,v,hp ▸ hk,hr,hne⟩
 ·exact .inr ⟨hb,v,hp ▸ hk,hr,hne⟩
theorem BldAt.lt {n₀ b : Nat} {bs : List Value} {v : Value} {W : World} (h : BldAt n₀ b bs v W) : b < W.heap.size := by
 obtain ⟨p,_,hk,_⟩ := h;exact (Array.getElem?_eq_some_iff.1 hk).1
theorem Wrote.setCell {n₀ b j : Nat} {v : Value} {W W' : World} (h : Wrote n₀ b v W W') (hb : n₀ ≤ b) (u : Value) : Wrote n₀ b v W (W'.setCell ⟨b,j,none⟩ u) :=
 ⟨h.below.setCell (p := ⟨b,j,none⟩) hb u,h.others.trans (KeepsOthers.setCell W' _ u),fun k hk hb hv => (Below.heap_setCell W' ⟨b,j,none⟩ u k hb).trans (h.keep k hk hb hv)⟩
theorem Wrote.refl (n₀ b : Nat) (v : Value) (W : World) : Wrote n₀ b v W W := ⟨Below.refl _ _,KeepsOthers.refl _,fun _ _ _ _ => rfl⟩
set_option maxHeartbeats 2000000 in
set_option maxRecDepth 100000 in
theorem writeString_calls (n₀ b : Nat) (bs : List Value) (v : Value) (s : ByteArray) (w : World) (h : BldAt n₀ b bs v w) (hn : n₀ ≤ w.heap.size) (hb : n₀ ≤ b) (hlen : bs.length + s.size ≤ 140737488355328) :
  Calls Tryd.prog 41 #[.pointer (some ⟨b,0,none⟩),.string s] w fun e w' => e = .returned (.tuple #[.int .i64 s.size,.nilIface]) ∧ ∃ v',BldAt n₀ b (bs ++ Lib.strCells s) v' w' ∧ Wrote n₀ b v w w' := by
 obtain ⟨i0,hi,hz0,hz1,hz2⟩ := info_parts byte_info
 have hu := Tryd.underlying76
 obtain ⟨p,hp,hk,hr,hne⟩ := h
 have hcc : Calls Tryd.prog 64 #[.pointer (some ⟨b,0,none⟩)] w fun e w' => e = .returned (.tuple #[]) ∧ (w'.heap[b]? = some (.cells #[.pointer (some ⟨b,0,none⟩),v] 76 (0,0)) ∧ w'.ownsRowF n₀ 5 1 v bs.length bs ∧ Wrote n₀ b v w w') := by
  rcases hp with rfl | rfl
  ·have h0 : w.cell? ⟨b,0,none⟩ = some (.pointer none) := (blk_cell hk 0).trans rfl
   refine (copyCheck_fresh b w h0 (by simp [World.shape?,hk]) (blk_frozen hk 0)).mono ?_
   rintro e w' ⟨rfl,rfl⟩
   exact ⟨rfl,blk_put hk 0 _ rfl,hr.kept (grownBy_setCell' w b _) (.inr hne),(Wrote.refl _ _ _ _).setCell hb _⟩
  ·have h0 : w.cell? ⟨b,0,none⟩ = some (.pointer (some ⟨b,0,none⟩)) := (blk_cell hk 0).trans rfl
   refine (copyCheck_used b w h0).mono ?_
   rintro e w' ⟨rfl,rfl⟩
   exact ⟨rfl,hk,hr,Wrote.refl _ _ _ _⟩
 clear hk hr hp
 go_enter Tryd.func41,Tryd.ntmps41
 go_wp2_with (go_at_call 64;refine hcc.mono ?_)
 rintro e w1 ⟨rfl,hbk,hown,hW⟩
 have c0 : w1.cell? ⟨b,0,none⟩ = some (.pointer (some ⟨b,0,none⟩)) := (blk_cell hbk 0).trans rfl
 have c1 : w1.cell? ⟨b,1,none⟩ = some v := (blk_cell hbk 1).trans rfl
 go_wp2_with (at_builtin;go_must (refine Lib.wpList_append_own_stringF _ rfl _ _ 74 9 rfl n₀ 5 i0 Tryd.underlying74 Tryd.underlying9 hi hz0 hz1 hz2 _ _ _ rfl hown s rfl ?c3 ?c4 ?c5 ?_))
 case c3 => unfold maxLen;omega
 case c4 => omega
 case c5 => have := hW.below.size;omega
 intro v' w2 hown' hgrow _
 have hlt : b < w1.heap.size := (Array.getElem?_eq_some_iff.1 hbk).1
 have hb2 : w2.heap[b]? = some (.cells #[.pointer (some ⟨b,0,none⟩),v] 76 (0,0)) := by
  rw [hgrow.block b hlt (fun e => hne e.symm)]
  exact hbk
 have d0 : w2.cell? ⟨b,0,none⟩ = some (.pointer (some ⟨b,0,none⟩)) := (blk_cell hb2 0).trans rfl
 have d1 : w2.cell? ⟨b,1,none⟩ = some v := (blk_cell hb2 1).trans rfl
 have f1 : w2.frozen? ⟨b,1,none⟩ = false := blk_frozen hb2 1
 have hne' : v'.ownBlock ≠ some b := Lib.ownBlock_neF hown' hb2 (by decide)
 have hW2 : Wrote n₀ b v w w2 := by
  refine ⟨hW.below.trans (((Below.refl n₀ w1).grown hgrow (by have := hW.below.size;omega) (fun k hk => (hown.lt k hk).1))),hW.others.trans (KeepsOthers.of_grownBy hgrow fun j o ej hj => ?_),fun k hk h1 h2 => ?_⟩
  ·obtain ⟨o',ho',hc'⟩ := ownsRowF_cells hown j ej
   rw [hj] at ho';cases ho';exact hc'
  ·exact (hgrow.block k (Nat.lt_of_lt_of_le hk hW.below.size) h2).trans (hW.keep k hk h1 h2)
 obtain ⟨ao,n',cap,rfl⟩ : ∃ ao n' cap,v' = .slice ao n' cap := by
  rcases hown'.2 with ⟨hv,_⟩ | ⟨g,cap,cur,fz,hv,_⟩
  ·exact ⟨_,_,_,hv⟩
  ·exact ⟨_,_,_,hv⟩
 go_wp2
 go_ret2
 refine ⟨rfl,_,⟨_,.inr rfl,blk_put hb2 1 _ rfl,?_,hne'⟩,hW2.setCell hb _⟩
 have hg1 : w2.grownBy (w2.setCell ⟨b,1,none⟩ (.slice ao n' cap)) (some b) := ⟨rfl,rfl,rfl,by simp [World.setCell],fun k _ hk => Below.heap_setCell _ _ _ _ (fun e => hk (by simp [e]))⟩
 have := hown'.kept hg1 (.inr hne')
 rw [List.length_append,Lib.strCells_length]
 exact this
end Go.Proofs.YtnpjaaldppemlaaDoor.U
end
section
namespace Go.Proofs.YtnpjaaldppemlaaDoor.Pu
open Go Go.RowKit Go.Proofs.YtnpjaaldppemlaaDoor.Mu Go.Proofs.YtnpjaaldppemlaaDoor.U Go.Proofs.YtnpjaaldppemlaaDoorW.PrintWords Go.Proofs.YtnpjaaldppemlaaDoorW.PrintLast Go.Proofs.YtnpjaaldppemlaaDoorW.PrintMore
theorem bt_byt (t : ByteArray) (i : Nat) (h : i < t.size) : bt t i = (byt t i : Int) := by
 unfold bt byt
 rw [dif_pos (by simpa using h)]
 simp only [Int.toNat_natCast]
 rw [get!_eq,List.getD_eq_getElem?_getD,List.getElem?_eq_getElem (by rw [← Lib.size_eq];exact h)]
 rfl
section
variable (t : ByteArray) (ht : t.size ≤ 1099511627776)
include ht
omit ht
include ht
end
end Go.Proofs.YtnpjaaldppemlaaDoor.Pu
end
section
namespace Go.Proofs.YtnpjaaldppemlaaDoor.U
open Go.RowKit Go.Shelf Go.Proofs.YtnpjaaldppemlaaDoor.Mu Go.Proofs.YtnpjaaldppemlaaDoor.Pu Go.Proofs.YtnpjaaldppemlaaDoor.Rg Go.Proofs.YtnpjaaldppemlaaDoorW.PrintWords Go.Proofs.YtnpjaaldppemlaaDoorW.PrintLast Go.Proofs.YtnpjaaldppemlaaDoorW.PrintMore
attribute [local go_sem] Oper.semAt_some
set_option linter.unusedVariables false
set_option linter.unusedSimpArgs false
/-- What is drawn of a cluster. -/
def drawB (s : ByteArray) (c : S60) : ByteArray :=
 if c.f2 = 1 then ⟨#[]⟩ else if c.f2 = 2 then (if byt s c.f0.toNat = 127 then ⟨#[94,63]⟩ else if byt s c.f0.toNat < 128 then (⟨#[94]⟩ : ByteArray) ++ Utf8.encode ((byt s c.f0.toNat : Int) + 64) else ⟨#[239,191,189]⟩)
 else if c.f2 = 3 then (⟨#[32]⟩ : ByteArray) ++ s.extract c.f0.toNat c.f1.toNat else if c.f2 = 5 then (⟨#[239,191,189]⟩ : ByteArray) ++ (s.extract c.f0.toNat c.f1.toNat).extract 1 (s.extract c.f0.toNat c.f1.toNat).size
 else s.extract c.f0.toNat c.f1.toNat
def drawU (s : ByteArray) (cs : List S60) : List UInt8 := cs.flatMap fun c => (drawB s c).data.toList
def drawnS (s : ByteArray) : ByteArray := ⟨(drawU s (clusL s)).toArray⟩
theorem drawU_snoc (s : ByteArray) (cs : List S60) (c : S60) : drawU s (cs ++ [c]) = drawU s cs ++ (drawB s c).data.toList := by simp [drawU]
theorem clus_mem (s : ByteArray) : ∀ k x,CB s x → ∀ c ∈ cluL s k x,∃ i,CB s i ∧ i < s.size ∧ c = clAt s i
 | 0,_,_,c,h => by simp [cluL] at h
 | k + 1,x,hx,c,h => by
  rw [cluL] at h
  split at h
  ·rename_i hlt
   rcases List.mem_cons.1 h with rfl | h
   ·exact ⟨x,hx,hlt,rfl⟩
   ·exact clus_mem s k _ (nxt_cb s x hx.1 hlt) c h
  ·simp at h
theorem encode_low (k : Nat) (h : k < 128) : (Utf8.encode ((k : Int) + 64)).size ≤ 2 := by
 have hv : Utf8.valid ((k : Int) + 64) = true := by unfold Utf8.valid;simp;omega
 unfold Utf8.encode
 simp only [hv,if_true]
 have : ((k : Int) + 64).toNat = k + 64 := by omega
 rw [this]
 split
 ·exact Nat.le_succ 1
 ·rw [if_pos (by omega)];exact Nat.le_refl 2
theorem drawB_size (s : ByteArray) (i : Nat) (hc : CB s i) (hi : i < s.size) : (drawB s (clAt s i)).size + 3 * i ≤ 3 * nxt s i := by
 have h1 := nxt_pos s i hi
 have h2 := nxt_le s i hc.1 hi
 have h3 : (s.extract i (nxt s i)).size = nxt s i - i := size_extract _ _ _ h2
 have e0 : (clAt s i).f0.toNat = i := by unfold clAt;exact Int.toNat_natCast i
 have e1 : (clAt s i).f1.toNat = nxt s i := by unfold clAt;exact Int.toNat_natCast _
 have hl := encode_low (byt s i)
 unfold drawB
 rw [e0,e1]
 split
 ·show 0 + _ ≤ _;omega
 split
 ·split
  ·show 2 + _ ≤ _;omega
  split
  ·rw [ByteArray.size_append];have := hl (by assumption);show 1 + _ + _ ≤ _;omega
  ·show 3 + _ ≤ _;omega
 split
 ·rw [ByteArray.size_append,h3];show 1 + _ + _ ≤ _;omega
 split
 ·rw [ByteArray.size_append,size_extract _ _ _ (Nat.le_refl _),h3];show 3 + _ + _ ≤ _;omega
 ·omega
theorem draw_size (s : ByteArray) : ∀ (pre : List S60) (i : Nat),CB s i → i ≤ s.size → pre <+: ctl s i → (drawU s pre).length + 3 * i ≤ 3 * s.size
 | [],i,_,hi,_ => by simp [drawU];omega
 | c :: pre,i,hc,hi,h => by
  by_cases hlt : i < s.size
  ·rw [ctl_go s i hlt,List.cons_prefix_cons] at h
   obtain ⟨rfl,h⟩ := h
   have h1 := draw_size s pre (nxt s i) (nxt_cb s i hc.1 hlt) (nxt_le s i hc.1 hlt) h
   have h2 := drawB_size s i hc hlt
   have e : (drawU s (clAt s i :: pre)).length = (drawB s (clAt s i)).size + (drawU s pre).length := by
    simp only [drawU,List.flatMap_cons,List.length_append];rfl
   omega
  ·rw [ctl_end s i (by omega)] at h
   have := h.length_le
   simp at this
theorem cells_app (l : List UInt8) (t : ByteArray) : Lib.byteCells l ++ Lib.strCells t = Lib.byteCells (l ++ t.data.toList) := by
 rw [Lib.strCells_eq];unfold Lib.byteCells;rw [List.map_append]
theorem ctl_low (s : ByteArray) (i : Nat) (h : clsAt s i = 2) : byt s i < 32 ∨ 127 ≤ byt s i := by
 unfold clsAt at h
 split at h
 ·omega
 ·have hr := uC_cases s i
  unfold cls at h
  split at h
  ·omega
  split at h
  ·omega
  split at h
  ·have := byt_lt s i
   omega
  split at h
  ·omega
  split at h <;> omega
set_option maxRecDepth 100000 in
set_option maxHeartbeats 2000000 in
theorem cdrawn_any (s : ByteArray) (w : World) (hs : s.size ≤ 1099511627776) (hT : Lib.Utf8Tabs 0 1 w) :
  Calls Tryd.prog 20 #[.string s] w fun e w' => e = .returned (.string (drawnS s)) ∧ Below w.heap.size w w' := by
 have hlen : (clusL s).length ≤ s.size := clusL_length s
 have hu := Tryd.underlying60
 have hub := Tryd.underlying76
 refine (callsIn_wide (n := 6)).1 ?_
 refine callsIn_of_wp_marks Tryd.func20 rfl trivial ?_ rfl
 simp only [Tryd.ntmps20,List.size_toArray,List.length_cons,List.length_nil,Nat.reduceAdd,Nat.reduceSub,Array.replicate_succ,Array.replicate_zero,List.push_toArray,List.append_toArray,List.nil_append,List.cons_append]
 gi_wp2_with (refine ⟨trivial,?_⟩;gi_at_call 35;refine (callsIn_wide.2 (cwalk_calls s _)).mono ?_;rintro e w' ⟨rfl,rfl⟩)
 simp only [Nat.add_assoc,Nat.reduceAdd]
 have bS0 := ((Boxed.new w 9 (.string s)).alloc (.cells #[.pointer none,.slice none 0 0] 76)).alloc (.cells #[.string s] 9)
 have bS := Boxed.new ((w.alloc (.cells #[.string s] 9)).alloc (.cells #[.pointer none,.slice none 0 0] 76)) 9 (.string s)
 rw [World.size_alloc,World.size_alloc] at bS
 have bB : (((w.alloc (.cells #[.string s] 9)).alloc (.cells #[.pointer none,.slice none 0 0] 76)).alloc (.cells #[.string s] 9)).heap[w.heap.size + 1]? = some (.cells #[.pointer none,.slice none 0 0] 76 (0,0)) := by
  have := World.alloc_heap_new (w.alloc (.cells #[.string s] 9)) (.cells #[.pointer none,.slice none 0 0] 76)
  rw [World.size_alloc] at this
  exact (Below.heap_alloc _ _ _ (by simp)).trans this
 have hB0 : Below w.heap.size w (((w.alloc (.cells #[.string s] 9)).alloc (.cells #[.pointer none,.slice none 0 0] 76)).alloc (.cells #[.string s] 9)) := (((Below.refl _ w).alloc (Nat.le_refl _) _).alloc (by simp) _).alloc (by simp;omega) _
 have hsz : (((w.alloc (.cells #[.string s] 9)).alloc (.cells #[.pointer none,.slice none 0 0] 76)).alloc (.cells #[.string s] 9)).heap.size = w.heap.size + 3 := by simp
 obtain ⟨W0,hW0⟩ : ∃ W0,((w.alloc (.cells #[.string s] 9)).alloc (.cells #[.pointer none,.slice none 0 0] 76)).alloc (.cells #[.string s] 9) = W0 := ⟨_,rfl⟩
 rw [hW0] at bS0 bS bB hB0 hsz ⊢
 clear hW0
 refine range_outer (α := S60) rfl (by omega) (gf := 52) (lb := #[.pointer (some ⟨w.heap.size + 2,0,none⟩)]) rfl trivial (enters_of Tryd.func52 (by kernel_rfl) rfl)
  (cwalk1_seq 5 (by omega) w W0 s (w.heap.size + 2) hs hT hB0 bS) (Below.refl _ _) (fun _ => rfl) (by omega)
  (fun (B : Nat) (pre : List S60) (W : World) => (((∃ v,BldAt w.heap.size (w.heap.size + 1) (Lib.byteCells (drawU s pre)) v W ∧ (∀ g,v.ownBlock = some g → g < B)) ∧ Boxed W w.heap.size 9 (.string s)) ∧ Boxed W (w.heap.size + 2) 9 (.string s)) ∧ Below w.heap.size w W ∧ (w.heap.size + 2 < B ∧ pre <+: clusL s))
  (fun _ _ _ => False)
  (fun B pre X Y row h hg hr => ⟨⟨⟨by obtain ⟨v,h1,h2⟩ := h.1.1.1;exact ⟨v,h1.grow hg (fun r e => (hr r e).2),h2⟩,boxed_grow h.1.1.2 hg (fun r e => (hr r e).2)⟩,boxed_grow h.1.2 hg (fun r e => (hr r e).2)⟩,h.2.1.grown hg h.2.1.size (fun k e => by have := (hr k e).1;omega),h.2.2⟩)
  (fun B B' pre W hBB h => ⟨⟨⟨by obtain ⟨v,h1,h2⟩ := h.1.1.1;exact ⟨v,h1,fun g hg => Nat.lt_of_lt_of_le (h2 g hg) hBB⟩,h.1.1.2⟩,h.1.2⟩,h.2.1,by omega,h.2.2.2⟩)
  (fun _ _ _ _ _ hs _ _ => hs)
  ⟨⟨⟨⟨_,⟨_,.inl rfl,bB,World.ownsRowF_of (World.ownsRow_nil _ _ _ _),by simp [Value.ownBlock]⟩,by simp [Value.ownBlock]⟩,bS0⟩,bS⟩,hB0,by omega,List.nil_prefix⟩
  (fun (x : S60) (a' : Act) (W : World) => ∃ Bx,Hid (W.heap[Bx]? = some (.cells #[.int .i64 x.f0,.int .i64 x.f1,.int .i64 x.f2,.int .i64 x.f3] 60 (0,0))) ∧ a' = { tmps := #[.string s,.pointer (some ⟨w.heap.size,0,none⟩),.string ⟨#[]⟩,.pointer (some ⟨w.heap.size + 1,0,none⟩),.pointer (some ⟨Bx,0,none⟩),undef,undef,.string s,.func (.func 52) #[] #[.pointer (some ⟨w.heap.size + 2,0,none⟩)],.agg #[.int .i64 x.f0,.int .i64 x.f1,.int .i64 x.f2,.int .i64 x.f3],undef,undef,undef,undef,undef,undef,undef,undef,undef,undef,undef,undef,undef,undef,undef,undef,undef,undef,undef,undef,undef,undef,undef,undef,undef,undef,undef,undef,undef,undef,undef,undef,undef,undef,undef,undef,undef,undef,undef,undef,undef,undef],defers := [] })
  (fun x a' _ X Y row hs hg hr => by
   obtain ⟨Bx,h1,h2⟩ := hs
   refine ⟨Bx,?_,h2⟩
   refine (hg.block Bx (Array.getElem?_eq_some_iff.1 h1).1 (fun e => ?_)).trans h1
   obtain ⟨_,o,ho,hc⟩ := hr Bx e.symm
   rw [show X.heap[Bx]? = _ from h1] at ho;cases ho;cases hc)
  ?assign ?body ?done ?stop
 case assign =>
  rintro l B pre x W K hCW hBW hI hK
  have hsz1 := hI.2.1.size
  gi_wp2
  exact hK _ _ ((KeepsOthers.alloc _ _).from _) (KeepB.of_below hsz1 ((Below.refl _ W).alloc (Nat.le_refl _) _)) ⟨⟨⟨by obtain ⟨v,h1,h2⟩ := hI.1.1.1;exact ⟨v,h1.grow (World.grownBy_alloc W _ none) (fun r e => by cases e),h2⟩,hI.1.1.2.alloc _⟩,hI.1.2.alloc _⟩,hI.2.1.alloc hsz1 _,hI.2.2⟩ ⟨W.heap.size,Lib.hid (World.alloc_heap_new W _),rfl⟩
 case body =>
  rintro l B pre x a' W hl hCW hr hBW ⟨⟨⟨⟨v,hv,hvB⟩,hb0⟩,hb2⟩,hB,hoB,hpp⟩ ⟨Bx,hBx,rfl⟩ hlt hpx
  have hsz1 := hB.size
  have hrun : (drawU s (pre ++ [x])).length ≤ 3 * s.size := by have := draw_size s (pre ++ [x]) 0 (cb_zero s) (Nat.zero_le _) hpx;omega
  rw [drawU_snoc,List.length_append] at hrun
  have hfin : ∀ (C : Nat) (t : ByteArray) (v' : Value) (W' : World),drawB s x = t → BldAt w.heap.size (w.heap.size + 1) (Lib.byteCells (drawU s pre) ++ Lib.strCells t) v' W' → Wrote w.heap.size (w.heap.size + 1) v W W' →
    KeepsFrom C W W' ∧ KeepB w.heap.size (fun k => k = w.heap.size + 2) B W W' ∧ (((∃ v,BldAt w.heap.size (w.heap.size + 1) (Lib.byteCells (drawU s (pre ++ [x]))) v W' ∧ (∀ g,v.ownBlock = some g → g < W'.heap.size)) ∧ Boxed W' w.heap.size 9 (.string s)) ∧ Boxed W' (w.heap.size + 2) 9 (.string s)) ∧ Below w.heap.size w W' ∧ (w.heap.size + 2 < W'.heap.size ∧ (pre ++ [x]) <+: clusL s) := by
   rintro C t v' W' rfl hb' hw
   obtain ⟨_,_,_,hrow,_⟩ := hv
   have hkeep : ∀ (k : Nat) (o : Obj),(k = w.heap.size + 2 ∨ k = w.heap.size ∨ B ≤ k) → W.heap[k]? = some o → (∀ g,v.ownBlock = some g → k ≠ g) → W'.heap[k]? = some o := fun k o hk ho hne =>
    (hw.keep k (Array.getElem?_eq_some_iff.1 ho).1 (by omega) (fun e => hne k e.symm rfl)).trans ho
   have hnot : ∀ k,Boxed W k 9 (.string s) → ∀ g,v.ownBlock = some g → k ≠ g := by
    rintro k hk g hg rfl
    obtain ⟨c,fz,hc⟩ := Lib.ownsRowF_kind hrow k hg
    rw [show W.heap[k]? = _ from hk] at hc
    injection hc with hc;injection hc with _ h2 _
    exact absurd h2 (by decide)
   refine ⟨hw.others.from _,⟨hw.below,fun k o hk ho _ => ?_⟩,⟨⟨⟨v',?_,?_⟩,?_⟩,?_⟩,hB.trans hw.below,?_,hpx⟩
   ·rcases hk with hk | hk
    ·have hk : k = w.heap.size + 2 := hk
     exact hkeep k o (.inl hk) ho (by rw [hk];exact hnot _ hb2)
    ·exact hkeep k o (.inr (.inr hk)) ho (fun g hg => by have := hvB g hg;omega)
   ·rw [drawU_snoc,← cells_app];exact hb'
   ·intro g hg;obtain ⟨_,_,_,hrow',_⟩ := hb';exact (hrow'.lt g hg).2
   ·exact hkeep _ _ (.inr (.inl rfl)) hb0 (hnot _ hb0)
   ·exact hkeep _ _ (.inl rfl) hb2 (hnot _ hb2)
   ·have := hw.below.size;have := hw.others.size;omega
  have hwr : ∀ t : ByteArray,drawB s x = t → Calls Tryd.prog 41 #[.pointer (some ⟨w.heap.size + 1,0,none⟩),.string t] W fun e w' => e = .returned (.tuple #[.int .i64 t.size,.nilIface]) ∧ ∃ v',BldAt w.heap.size (w.heap.size + 1) (Lib.byteCells (drawU s pre) ++ Lib.strCells t) v' w' ∧ Wrote w.heap.size (w.heap.size + 1) v W w' := by
   rintro t rfl
   refine writeString_calls w.heap.size (w.heap.size + 1) _ v _ W hv hsz1 (by omega) ?_
   rw [Lib.byteCells_length]
   have e : (drawB s x).data.toList.length = (drawB s x).size := rfl
   omega
  obtain ⟨i,hci,hilt,hxi⟩ := clus_mem s s.size 0 (cb_zero s) x (hpx.subset (by simp))
  have hcl : x.f2 = 2 → byt s i < 32 ∨ 127 ≤ byt s i := by rw [hxi];exact ctl_low s i
  obtain ⟨t,ht⟩ : ∃ t,nxt s i = t := ⟨_,rfl⟩
  have ht1 : i < t := ht ▸ nxt_pos s i hilt
  have ht2 : t ≤ s.size := ht ▸ nxt_le s i hci.1 hilt
  obtain ⟨x0,x1,x2,x3⟩ := x
  injection hxi with e0 e1 e2 e3
  subst e0
  rw [ht] at e1
  subst e1
  clear e2 e3 ht
  have hd : drawB s ⟨(i : Int),(t : Int),x2,x3⟩ = (if x2 = 1 then ⟨#[]⟩ else if x2 = 2 then (if byt s i = 127 then ⟨#[94,63]⟩ else if byt s i < 128 then (⟨#[94]⟩ : ByteArray) ++ Utf8.encode ((byt s i : Int) + 64) else ⟨#[239,191,189]⟩)
   else if x2 = 3 then (⟨#[32]⟩ : ByteArray) ++ s.extract i t else if x2 = 5 then (⟨#[239,191,189]⟩ : ByteArray) ++ (s.extract i t).extract 1 (s.extract i t).size else s.extract i t) := by unfold drawB;rw [Int.toNat_natCast,Int.toNat_natCast]
  have c0 := hb0.cell
  have hcx0 : W.cell? ⟨Bx,0,none⟩ = some (.int .i64 (i : Int)) := by simp [World.cell?,show W.heap[Bx]? = _ from hBx]
  have hcx1 : W.cell? ⟨Bx,1,none⟩ = some (.int .i64 (t : Int)) := by simp [World.cell?,show W.heap[Bx]? = _ from hBx]
  have hcx2 : W.cell? ⟨Bx,2,none⟩ = some (.int .i64 x2) := by simp [World.cell?,show W.heap[Bx]? = _ from hBx]
  have hv' := Lib.hid hv
  have hl0 : (i : Int) ≤ (t : Int) := by omega
  have hl1 : (t : Int) ≤ (s.size : Int) := by omega
  have hl2 : (0 : Int) ≤ (i : Int) := by omega
  obtain ⟨c,hc⟩ : ∃ c,s.extract i t = c := ⟨_,rfl⟩
  have hcs : c.size = t - i := by rw [← hc];exact size_extract _ _ _ ht2
  have hkb : byt c 0 = byt s i := by rw [← hc];exact byt_extract s i t 0 (by omega) ht2
  obtain ⟨kk,hkk⟩ : ∃ kk : Int,(byt s i : Int) = kk := ⟨_,rfl⟩
  have hk0 : 0 ≤ kk ∧ kk ≤ 255 := by have := byt_lt s i;omega
  have hx6 : ∀ h : 0 < c.size,((c[0]'h).toNat : Int) = kk := fun h => by rw [← hkk,← hkb,← bt_byt c 0 h];exact bt_at c 0 h
  have hq0 : (0 < (c.size : Int)) = True := eq_true (by omega)
  have hq1 : (0 < c.size) = True := eq_true (by omega)
  have hq2 : (1 ≤ (c.size : Int)) = True := eq_true (by omega)
  rw [hc] at hd
  have hdk : Hid (byt s i = 127 ↔ kk = 127) := Lib.hid (by omega)
  have hdl : Hid (byt s i < 128 ↔ kk < 128) := Lib.hid (by omega)
  have hde : Hid ((byt s i : Int) = kk) := Lib.hid hkk
  have hs1 : decide (1 + c.size ≤ 9223372036854775807) = true := decide_eq_true (by omega)
  have hs1b : (9223372036854775807 < 1 + c.size) = False := eq_false (by omega)
  obtain ⟨c1,hc1⟩ : ∃ c1,c.extract 1 c.size = c1 := ⟨_,rfl⟩
  have hcs1 : c1.size = c.size - 1 := by rw [← hc1];exact size_extract _ _ _ (Nat.le_refl _)
  rw [hc1] at hd
  have hs3 : decide (3 + c1.size ≤ 9223372036854775807) = true := decide_eq_true (by omega)
  have hs3b : (9223372036854775807 < 3 + c1.size) = False := eq_false (by omega)
  have hd := Lib.hid hd
  have hfin := Lib.hid hfin
  have hwr := Lib.hid hwr
  clear hrun hBx hv hvB hb0 hb2 hB hpp hpx hlt hr hci hkk hkb hilt ht1 ht2 hcs hcs1
  by_cases h1 : x2 = 1
  ·have h1b : (x2 == 1) = true := by simpa using h1
   have hq := Lib.hid (hd.out.trans (if_pos h1))
   clear h1
   gi_wp2
   exact hfin.out _ ⟨#[]⟩ v W hq.out (by rw [show Lib.strCells ⟨#[]⟩ = [] from rfl,List.append_nil];exact hv'.out) (Wrote.refl _ _ _ _)
  ·have h1b : (x2 == 1) = false := by simpa using h1
   have hd1 := Lib.hid (hd.out.trans (if_neg h1))
   clear h1
   by_cases h2 : x2 = 2
   ·have h2b : (x2 == 2) = true := by simpa using h2
    have hd2 := Lib.hid (hd1.out.trans (if_pos h2))
    clear h2 hcl
    by_cases h7 : kk = 127
    ·have h7b : (kk == 127) = true := by simpa using h7
     have hq := Lib.hid (hd2.out.trans (if_pos (hdk.out.2 h7)))
     clear h7 hk0
     gi_wp2_with (refine ⟨trivial,?_⟩;gi_at_call 41;refine (callsIn_wide.2 (hwr.out (⟨#[94,63]⟩) hq.out)).mono ?_;rintro e W' ⟨rfl,v',hb',hw'⟩)
     exact hfin.out _ (⟨#[94,63]⟩) v' W' hq.out hb' hw'
    ·have h7b : (kk == 127) = false := by simpa using h7
     have hd3 := Lib.hid (hd2.out.trans (if_neg (fun h => h7 (hdk.out.1 h))))
     clear h7
     by_cases h8 : kk < 128
     ·have h8b : decide (kk < 128) = true := decide_eq_true h8
      have hq := Lib.hid (hd3.out.trans (if_pos (hdl.out.2 h8)))
      rw [hde.out] at hq
      have hw1 : IntKind.i32.wrap kk = kk := (i32_w _).trans (w32 (by omega) (by omega))
      have hw2 : IntKind.i32.wrap (kk + 64) = kk + 64 := (i32_w _).trans (w32 (by omega) (by omega))
      have hes2 : (Utf8.encode (kk + 64)).size ≤ 2 := by have := encode_low (byt s i) (hdl.out.2 h8);rwa [hde.out] at this
      obtain ⟨es,hes⟩ : ∃ es,Utf8.encode (kk + 64) = es := ⟨_,rfl⟩
      rw [hes] at hq hes2
      have he1 : decide (1 + es.size ≤ 9223372036854775807) = true := decide_eq_true (by omega)
      have he2 : (9223372036854775807 < 1 + es.size) = False := eq_false (by omega)
      have hq := Lib.hid hq
      clear h8 hk0 hes2
      gi_wp2_with (refine ⟨trivial,?_⟩;gi_at_call 41;refine (callsIn_wide.2 (hwr.out ((⟨#[94]⟩ : ByteArray) ++ es) hq.out)).mono ?_;rintro e W' ⟨rfl,v',hb',hw'⟩)
      exact hfin.out _ ((⟨#[94]⟩ : ByteArray) ++ es) v' W' hq.out hb' hw'
     ·have h8b : decide (kk < 128) = false := decide_eq_false h8
      have hq := Lib.hid (hd3.out.trans (if_neg (fun h => h8 (hdl.out.1 h))))
      clear h8 hk0
      gi_wp2_with (refine ⟨trivial,?_⟩;gi_at_call 41;refine (callsIn_wide.2 (hwr.out (⟨#[239,191,189]⟩) hq.out)).mono ?_;rintro e W' ⟨rfl,v',hb',hw'⟩)
      exact hfin.out _ (⟨#[239,191,189]⟩) v' W' hq.out hb' hw'
   ·have h2b : (x2 == 2) = false := by simpa using h2
    have hd2 := Lib.hid (hd1.out.trans (if_neg h2))
    clear h2 hcl hk0
    by_cases h3 : x2 = 3
    ·have h3b : (x2 == 3) = true := by simpa using h3
     have hq := Lib.hid (hd2.out.trans (if_pos h3))
     clear h3
     gi_wp2_with (refine ⟨trivial,?_⟩;gi_at_call 41;refine (callsIn_wide.2 (hwr.out ((⟨#[32]⟩ : ByteArray) ++ c) hq.out)).mono ?_;rintro e W' ⟨rfl,v',hb',hw'⟩)
     exact hfin.out _ ((⟨#[32]⟩ : ByteArray) ++ c) v' W' hq.out hb' hw'
    ·have h3b : (x2 == 3) = false := by simpa using h3
     have hd3 := Lib.hid (hd2.out.trans (if_neg h3))
     clear h3
     by_cases h5 : x2 = 5
     ·have h5b : (x2 == 5) = true := by simpa using h5
      have hq := Lib.hid (hd3.out.trans (if_pos h5))
      clear h5
      gi_wp2_with (refine ⟨trivial,?_⟩;gi_at_call 41;refine (callsIn_wide.2 (hwr.out ((⟨#[239,191,189]⟩ : ByteArray) ++ c1) hq.out)).mono ?_;rintro e W' ⟨rfl,v',hb',hw'⟩)
      exact hfin.out _ ((⟨#[239,191,189]⟩ : ByteArray) ++ c1) v' W' hq.out hb' hw'
     ·have h5b : (x2 == 5) = false := by simpa using h5
      have hq := Lib.hid (hd3.out.trans (if_neg h5))
      clear h5
      gi_wp2_with (refine ⟨trivial,?_⟩;gi_at_call 41;refine (callsIn_wide.2 (hwr.out (c) hq.out)).mono ?_;rintro e W' ⟨rfl,v',hb',hw'⟩)
      exact hfin.out _ (c) v' W' hq.out hb' hw'
 case done =>
  rintro D ys W hD hys ⟨⟨⟨⟨v,hv,_⟩,_⟩,_⟩,hB,_⟩ hK
  obtain rfl : ys = clusL s := hys
  have hsz1 := hB.size
  gi_wp2_with (refine ⟨trivial,?_⟩;gi_at_call 42;refine (callsIn_wide.2 (Tryd.Builder_String_any_k w.heap.size (w.heap.size + 1) (drawU s (clusL s)) W (hv.is (by omega)) hsz1)).mono ?_;rintro e W' ⟨rfl,_,hbw,hok⟩)
  have hK' : W'.heap[D]? = some (.deferred (some [])) := hok D _ hK (fun e => by injection e with e;omega) (fun c fz e => by cases e)
  refine ⟨by simp,.inl ⟨_,_,rfl,run_takeDeferred hK',?_⟩⟩
  exact ⟨_,results_tmp rfl _ _ _,rfl,(hB.trans hbw).trans (belowK_b (w := w) (Nat.le_refl _) W' D _ _ (by omega) hK' rfl rfl)⟩
 case stop =>
  rintro D c pre W _ _ h _
  exact h.elim
def cluster_Drawn.f (a0 : ByteArray) : Option ByteArray := if a0.size ≤ 1099511627776 then some (drawnS a0) else none
theorem cluster_Drawn.calls (a0 : ByteArray) (r : ByteArray) (w : World) (hT : Lib.Utf8Tabs 0 1 w) (h : cluster_Drawn.f a0 = some r) :
  Calls Tryd.prog 20 #[.string a0] w fun e w' => e = .returned (.string r) ∧ Below w.heap.size w w' := by
 unfold cluster_Drawn.f at h
 split at h
 ·obtain rfl := Option.some.inj h
  rename_i hs
  exact cdrawn_any a0 w hs hT
 ·cases h
end Go.Proofs.YtnpjaaldppemlaaDoor.U
end
section
namespace Go.Proofs.YtnpjaaldppemlaaDoor.U
open Go.RowKit Go.Proofs.YtnpjaaldppemlaaDoorW.PrintWords Go.Proofs.YtnpjaaldppemlaaDoorW.PrintLast Go.Proofs.YtnpjaaldppemlaaDoorW.PrintMore
set_option linter.unusedVariables false
set_option linter.unusedSimpArgs false
/-- The tables lie below base. -/
theorem tabs_base {base : Nat} {w0 w : World} (h : Lib.Utf8Tabs 0 1 w0) (hb : Below base w0 w) (h2 : 2 ≤ base) : Lib.Utf8Tabs 0 1 w :=
 ⟨fun c hc => (hb.cell (p := ⟨0,c,none⟩) (by show 0 < base;omega)).trans (h.1 c hc),fun i hi => ⟨(hb.cell (p := ⟨1,2 * i,none⟩) (by show 1 < base;omega)).trans (h.2 i hi).1,(hb.cell (p := ⟨1,2 * i + 1,none⟩) (by show 1 < base;omega)).trans (h.2 i hi).2⟩⟩
theorem LyAt.cellAt {T base p : Nat} {ok : Nat → Prop} {W : World} {wd : Int} {s : Ly} (h : LyAt T base p ok W wd s) : W.cell? ⟨p,0,none⟩ = some (.int .i64 wd) ∧ W.cell? ⟨p,2,none⟩ = some (.int .i64 s.1.length) ∧ W.cell? ⟨p,3,none⟩ = some (.int .i64 s.2.length) := by
 obtain ⟨⟨rv,h1,_⟩,_,_⟩ := h
 exact ⟨blk_cell h1 0,blk_cell h1 2,blk_cell h1 3⟩
theorem LyAt.wd {T base p : Nat} {ok : Nat → Prop} {W : World} {wd : Int} {s : Ly} (h : LyAt T base p ok W wd s) : W.cell? ⟨p,0,none⟩ = some (.int .i64 wd) := h.cellAt.1
theorem LyAt.row {T base p : Nat} {ok : Nat → Prop} {W : World} {wd : Int} {s : Ly} (h : LyAt T base p ok W wd s) : W.cell? ⟨p,2,none⟩ = some (.int .i64 s.1.length) := h.cellAt.2.1
theorem LyAt.col {T base p : Nat} {ok : Nat → Prop} {W : World} {wd : Int} {s : Ly} (h : LyAt T base p ok W wd s) : W.cell? ⟨p,3,none⟩ = some (.int .i64 s.2.length) := h.cellAt.2.2
theorem lay_fin {T base p bx : Nat} {ok : Nat → Prop} {W w2 : World} {wd : Int} {s2 s' : Ly} (hG : LyAt T base p (fun k => ok k ∧ k ≠ bx) w2 wd s2) (hB : Below base W w2) (hK : Kept W w2 (fun k => ok k ∨ k = p)) (he : s' = s2) (hne : ¬ ok p) : Ending.returned (.tuple #[]) = Ending.returned (.tuple #[]) ∧ LyAt T base p ok w2 wd s' ∧ Below base W w2 ∧ Kept W w2 (fun k => ok k ∨ k = p) := by
 subst he
 exact ⟨rfl,hG.mono (fun k hk => hk.1) hne,hB,hK⟩
set_option maxRecDepth 100000 in
set_option maxHeartbeats 8000000 in
theorem gr_lay {base p : Nat} {ok : Nat → Prop} {W : World} {wd : Int} {s : Ly} (h : LyAt 65 base p ok W wd s) (hf : ∀ k,W.heap.size ≤ k → ok k) (hb : base ≤ W.heap.size) (h2 : 2 ≤ base) (hT : Lib.Utf8Tabs 0 1 W) (hF : s.Fit wd) (hl : s.1.length ≤ 549755813888)
  (text : ByteArray) (c : S60) (h0 : 0 ≤ c.f0) (h01 : c.f0 ≤ c.f1) (h1 : c.f1 ≤ text.size) (d : ByteArray) (hd : cluster_Drawn.f (text.extract c.f0.toNat c.f1.toNat) = some d) (n : Nat) (hn : (Lib.decodeGo d).2 = n) (hns : n ≤ d.size) :
  Calls Tryd.prog 36 #[.pointer (some ⟨p,0,none⟩),.string text,.agg #[.int .i64 c.f0,.int .i64 c.f1,.int .i64 c.f2,.int .i64 c.f3]] W fun e w' => e = .returned (.tuple #[]) ∧ LyAt 65 base p ok w' wd (s.lay wd c.f2 c.f3 d n) ∧ Below base W w' ∧ Kept W w' (fun k => ok k ∨ k = p) := by
 obtain ⟨f0,f1,f2,f3⟩ := c
 dsimp only at h0 h01 h1 hd ⊢
 have q0 := eq_true (show (0 : Int) ≤ (n : Int) by omega)
 have q1 := eq_true (show (n : Int) ≤ (d.size : Int) by omega)
 have q2 := eq_true h0
 have q3 := eq_true h01
 have q4 := eq_true h1
 go_enter Tryd.func36,Tryd.ntmps36
 have hbl : Below W.heap.size W (W.alloc (.cells #[.int .i64 f0,.int .i64 f1,.int .i64 f2,.int .i64 f3] 60 (0,0))) := below_alloc (Below.refl _ _) _
 have hx := World.alloc_heap_new W (.cells #[.int .i64 f0,.int .i64 f1,.int .i64 f2,.int .i64 f3] 60 (0,0))
 go_upto_region 10 with (go_at_call 20;refine (cluster_Drawn.calls _ d _ (tabs_below hT hbl) hd).mono ?_;rintro e w1 ⟨rfl,hb1⟩)
 have hb2 := hbl.trans (hb1.mono hbl.size)
 have hx1 := (hb1.block _ (blk_lt hx)).trans hx
 clear hb1 hx hbl
 have hB1 := hb2.mono hb
 have hK1 := Kept.of_below hb2 (fun k => ok k ∨ k = p)
 have hG1 : LyAt 65 base p (fun k => ok k ∧ k ≠ W.heap.size) w1 wd s := (h.bound.mono (ok' := fun k => ok k ∧ k ≠ W.heap.size) (fun k hk => ⟨hk.1,by have := hk.2;omega⟩) (fun hk => h.ne hk.1)).below hb2
 have hf1 : ∀ k,w1.heap.size ≤ k → ok k ∧ k ≠ W.heap.size := fun k hk => ⟨hf k (Nat.le_trans hb2.size hk),by have := blk_lt hx1;omega⟩
 have hb1 := Nat.le_trans hb hb2.size
 have hpb : p ≠ W.heap.size := by have := h.lt;omega
 have x1_2 := blk_cell hx1 2
 have x1_3 := blk_cell hx1 3
 have hxl1 := blk_lt hx1
 have e0 := hG1.wd
 have hpl1 := hG1.lt
 clear hb2
 by_cases z0 : f3 = 0
 ·have z0' := eq_true z0
  go_wp2_with (go_at_call 54;refine (gr_downL hG1 hf1 hb1 (by omega)).mono ?_;rintro e w2 ⟨rfl,hG2,hBa,hKa⟩;have hB2 := hB1.trans hBa;have hK2 := hK1.then_ hKa (fun k hk => .inl (hk.imp And.left id));have hx2 := (hKa.2 _ (blk_lt hx1) (fun h => h.elim (fun h => h.2 rfl) (fun h => hpb h.symm))).trans hx1;have hf2 := (fun k (hk : w2.heap.size ≤ k) => hf1 k (Nat.le_trans hKa.1 hk));have hb2 := Nat.le_trans hb1 hKa.1;have x2_2 := blk_cell hx2 2;have x2_3 := blk_cell hx2 3;have hxl2 := blk_lt hx2;clear hBa hKa)
  first | refine bodyPost_end (results_none rfl _ _ _) rfl ?_ | ((try simp only [Exit.inBlock,Exit.then]);refine bodyPost_ret (results_none rfl _ _ _) rfl ?_)
  exact lay_fin hG2 hB2 hK2 (by unfold Ly.lay;rw [if_pos z0]) h.ne
 have z0' := eq_false z0
 by_cases z1 : f3 = 1
 ·have z1' := eq_true z1
  go_wp2_with (go_at_call 55;refine (gr_putL hG1 hf1 hb1 hF (by omega) (⟨d,1⟩ : Cl)).mono ?_;rintro e w2 ⟨rfl,hG2,hBa,hKa⟩;have hB2 := hB1.trans hBa;have hK2 := hK1.then_ hKa (fun k hk => .inl (hk.imp And.left id));have hx2 := (hKa.2 _ (blk_lt hx1) (fun h => h.elim (fun h => h.2 rfl) (fun h => hpb h.symm))).trans hx1;have hf2 := (fun k (hk : w2.heap.size ≤ k) => hf1 k (Nat.le_trans hKa.1 hk));have hb2 := Nat.le_trans hb1 hKa.1;have x2_2 := blk_cell hx2 2;have x2_3 := blk_cell hx2 3;have hxl2 := blk_lt hx2;clear hBa hKa)
  first | refine bodyPost_end (results_none rfl _ _ _) rfl ?_ | ((try simp only [Exit.inBlock,Exit.then]);refine bodyPost_ret (results_none rfl _ _ _) rfl ?_)
  exact lay_fin hG2 hB2 hK2 (by unfold Ly.lay;rw [if_neg z0,if_pos z1]) h.ne
 have z1' := eq_false z1
 by_cases z2 : wd = 1
 ·have z2' := eq_true z2
  go_wp2_with (go_at_call 55;refine (gr_putL hG1 hf1 hb1 hF (by omega) (⟨badB,1⟩ : Cl)).mono ?_;rintro e w2 ⟨rfl,hG2,hBa,hKa⟩;have hB2 := hB1.trans hBa;have hK2 := hK1.then_ hKa (fun k hk => .inl (hk.imp And.left id));have hx2 := (hKa.2 _ (blk_lt hx1) (fun h => h.elim (fun h => h.2 rfl) (fun h => hpb h.symm))).trans hx1;have hf2 := (fun k (hk : w2.heap.size ≤ k) => hf1 k (Nat.le_trans hKa.1 hk));have hb2 := Nat.le_trans hb1 hKa.1;have x2_2 := blk_cell hx2 2;have x2_3 := blk_cell hx2 3;have hxl2 := blk_lt hx2;clear hBa hKa)
  first | refine bodyPost_end (results_none rfl _ _ _) rfl ?_ | ((try simp only [Exit.inBlock,Exit.then]);refine bodyPost_ret (results_none rfl _ _ _) rfl ?_)
  exact lay_fin hG2 hB2 hK2 (by unfold Ly.lay;rw [if_neg z0,if_neg z1,if_pos z2]) h.ne
 have z2' := eq_false z2
 have hwd := hF.1
 have hwd2 := hF.2.1
 have hwr : IntKind.i64.wrap (wd - 1) = wd - 1 := (i64_w _).trans (by unfold wrap64;omega)
 go_upto_region 2 with (fail)
 have e3 := hG1.col
 go_quiet (fail)
 have hG2 := hG1.below (pw_below_drewN (Below.refl _ _) nq)
 have hB2 := pw_below_drewN hB1 nq
 have hK2 := Kept.drewN hK1 nq
 have hx2 : (w1.drewN nq).heap[W.heap.size]? = _ := hx1
 have hf2 : ∀ k,(w1.drewN nq).heap.size ≤ k → ok k ∧ k ≠ W.heap.size := hf1
 have hb2 : base ≤ (w1.drewN nq).heap.size := hb1
 generalize w1.drewN nq = w2 at hG2 hB2 hK2 hx2 hf2 hb2 ⊢
 clear hG1 hB1 hK1 hx1 hf1 hb1 x1_2 x1_3 hxl1 e0 e3 hpl1
 have x2_2 := blk_cell hx2 2
 have x2_3 := blk_cell hx2 3
 have hxl2 := blk_lt hx2
 by_cases z3 : (s.2.length : Int) = wd - 1
 ·have z3' := eq_true z3
  go_upto_region 4 with (go_at_call 54;refine (gr_downL hG2 hf2 hb2 (by omega)).mono ?_;rintro e w3 ⟨rfl,hG3,hBa,hKa⟩;have hB3 := hB2.trans hBa;have hK3 := hK2.then_ hKa (fun k hk => .inl (hk.imp And.left id));have hx3 := (hKa.2 _ (blk_lt hx2) (fun h => h.elim (fun h => h.2 rfl) (fun h => hpb h.symm))).trans hx2;have hf3 := (fun k (hk : w3.heap.size ≤ k) => hf2 k (Nat.le_trans hKa.1 hk));have hb3 := Nat.le_trans hb2 hKa.1;have x3_2 := blk_cell hx3 2;have x3_3 := blk_cell hx3 3;have hxl3 := blk_lt hx3;clear hBa hKa)
  by_cases z4 : f2 = 4
  ·have z4' := eq_true z4
   go_wp2_with (first | (go_at_call 55;refine (gr_putL hG4 hf4 hb4 (hF.down.cell _) (by have h_ := Ly.len_cell wd ((s).down) (⟨d,2⟩ : Cl);have h_ := Ly.len_down (s);omega) (⟨⟨#[]⟩,0⟩ : Cl)).mono ?_;rintro e w5 ⟨rfl,hG5,hBa,hKa⟩;have hB5 := hB4.trans hBa;have hK5 := hK4.then_ hKa (fun k hk => .inl (hk.imp And.left id));have hx5 := (hKa.2 _ (blk_lt hx4) (fun h => h.elim (fun h => h.2 rfl) (fun h => hpb h.symm))).trans hx4;have hf5 := (fun k (hk : w5.heap.size ≤ k) => hf4 k (Nat.le_trans hKa.1 hk));have hb5 := Nat.le_trans hb4 hKa.1;have x5_2 := blk_cell hx5 2;have x5_3 := blk_cell hx5 3;have hxl5 := blk_lt hx5;clear hBa hKa) | (go_at_call 55;refine (gr_putL hG3 hf3 hb3 hF.down (by have h_ := Ly.len_down (s);omega) (⟨d,2⟩ : Cl)).mono ?_;rintro e w4 ⟨rfl,hG4,hBa,hKa⟩;have hB4 := hB3.trans hBa;have hK4 := hK3.then_ hKa (fun k hk => .inl (hk.imp And.left id));have hx4 := (hKa.2 _ (blk_lt hx3) (fun h => h.elim (fun h => h.2 rfl) (fun h => hpb h.symm))).trans hx3;have hf4 := (fun k (hk : w4.heap.size ≤ k) => hf3 k (Nat.le_trans hKa.1 hk));have hb4 := Nat.le_trans hb3 hKa.1;have x4_2 := blk_cell hx4 2;have x4_3 := blk_cell hx4 3;have hxl4 := blk_lt hx4;clear hBa hKa))
   first | refine bodyPost_end (results_none rfl _ _ _) rfl ?_ | ((try simp only [Exit.inBlock,Exit.then]);refine bodyPost_ret (results_none rfl _ _ _) rfl ?_)
   exact lay_fin hG5 hB5 hK5 (by unfold Ly.lay;rw [if_neg z0,if_neg z1,if_neg z2,if_pos z4,if_pos z3]) h.ne
  ·have z4' := eq_false z4
   go_upto_region 8 with (go_at_call 56;refine (utf8_DecodeRuneInString.calls d ((Lib.decodeGo d).1 : Int) (n : Int) _ (tabs_base hT hB3 h2) (by unfold utf8_DecodeRuneInString.f;rw [hn])).mono ?_;rintro e w8 ⟨rfl,hb8⟩)
   have hG8 := hG3.below hb8
   have hB8 := hB3.trans (hb8.mono (Nat.le_trans hb3 (Nat.le_refl _)))
   have hK8 := hK3.below hb8
   have hx8 := (hb8.block _ (blk_lt hx3)).trans hx3
   have hf8 := (fun k (hk : w8.heap.size ≤ k) => hf3 k (Nat.le_trans hb8.size hk))
   have hb9 := Nat.le_trans hb3 hb8.size
   have hb10 := hb8
   clear hb8
   have hb8 := hb9
   go_wp2_with (first | (go_at_call 55;refine (gr_putL hG9 hf9 hb9 (hF.down.cell _) (by have h_ := Ly.len_cell wd ((s).down) (⟨d.extract 0 n,1⟩ : Cl);have h_ := Ly.len_down (s);omega) (⟨d.extract n d.size,1⟩ : Cl)).mono ?_;rintro e w10 ⟨rfl,hG10,hBa,hKa⟩;have hB10 := hB9.trans hBa;have hK10 := hK9.then_ hKa (fun k hk => .inl (hk.imp And.left id));have hx10 := (hKa.2 _ (blk_lt hx9) (fun h => h.elim (fun h => h.2 rfl) (fun h => hpb h.symm))).trans hx9;have hf10 := (fun k (hk : w10.heap.size ≤ k) => hf9 k (Nat.le_trans hKa.1 hk));have hb10 := Nat.le_trans hb9 hKa.1;have x10_2 := blk_cell hx10 2;have x10_3 := blk_cell hx10 3;have hxl10 := blk_lt hx10;clear hBa hKa) | (go_at_call 55;refine (gr_putL hG8 hf8 hb8 hF.down (by have h_ := Ly.len_down (s);omega) (⟨d.extract 0 n,1⟩ : Cl)).mono ?_;rintro e w9 ⟨rfl,hG9,hBa,hKa⟩;have hB9 := hB8.trans hBa;have hK9 := hK8.then_ hKa (fun k hk => .inl (hk.imp And.left id));have hx9 := (hKa.2 _ (blk_lt hx8) (fun h => h.elim (fun h => h.2 rfl) (fun h => hpb h.symm))).trans hx8;have hf9 := (fun k (hk : w9.heap.size ≤ k) => hf8 k (Nat.le_trans hKa.1 hk));have hb9 := Nat.le_trans hb8 hKa.1;have x9_2 := blk_cell hx9 2;have x9_3 := blk_cell hx9 3;have hxl9 := blk_lt hx9;clear hBa hKa))
   first | refine bodyPost_end (results_none rfl _ _ _) rfl ?_ | ((try simp only [Exit.inBlock,Exit.then]);refine bodyPost_ret (results_none rfl _ _ _) rfl ?_)
   exact lay_fin hG10 hB10 hK10 (by unfold Ly.lay;rw [if_neg z0,if_neg z1,if_neg z2,if_neg z4,if_pos z3]) h.ne
 ·have z3' := eq_false z3
  go_upto_region 4 with (fail)
  by_cases z4 : f2 = 4
  ·have z4' := eq_true z4
   go_wp2_with (first | (go_at_call 55;refine (gr_putL hG3 hf3 hb3 (hF.cell _) (by have h_ := Ly.len_cell wd (s) (⟨d,2⟩ : Cl);omega) (⟨⟨#[]⟩,0⟩ : Cl)).mono ?_;rintro e w4 ⟨rfl,hG4,hBa,hKa⟩;have hB4 := hB3.trans hBa;have hK4 := hK3.then_ hKa (fun k hk => .inl (hk.imp And.left id));have hx4 := (hKa.2 _ (blk_lt hx3) (fun h => h.elim (fun h => h.2 rfl) (fun h => hpb h.symm))).trans hx3;have hf4 := (fun k (hk : w4.heap.size ≤ k) => hf3 k (Nat.le_trans hKa.1 hk));have hb4 := Nat.le_trans hb3 hKa.1;have x4_2 := blk_cell hx4 2;have x4_3 := blk_cell hx4 3;have hxl4 := blk_lt hx4;clear hBa hKa) | (go_at_call 55;refine (gr_putL hG2 hf2 hb2 hF (by omega) (⟨d,2⟩ : Cl)).mono ?_;rintro e w3 ⟨rfl,hG3,hBa,hKa⟩;have hB3 := hB2.trans hBa;have hK3 := hK2.then_ hKa (fun k hk => .inl (hk.imp And.left id));have hx3 := (hKa.2 _ (blk_lt hx2) (fun h => h.elim (fun h => h.2 rfl) (fun h => hpb h.symm))).trans hx2;have hf3 := (fun k (hk : w3.heap.size ≤ k) => hf2 k (Nat.le_trans hKa.1 hk));have hb3 := Nat.le_trans hb2 hKa.1;have x3_2 := blk_cell hx3 2;have x3_3 := blk_cell hx3 3;have hxl3 := blk_lt hx3;clear hBa hKa))
   first | refine bodyPost_end (results_none rfl _ _ _) rfl ?_ | ((try simp only [Exit.inBlock,Exit.then]);refine bodyPost_ret (results_none rfl _ _ _) rfl ?_)
   exact lay_fin hG4 hB4 hK4 (by unfold Ly.lay;rw [if_neg z0,if_neg z1,if_neg z2,if_pos z4,if_neg z3]) h.ne
  ·have z4' := eq_false z4
   go_upto_region 8 with (go_at_call 56;refine (utf8_DecodeRuneInString.calls d ((Lib.decodeGo d).1 : Int) (n : Int) _ (tabs_base hT hB2 h2) (by unfold utf8_DecodeRuneInString.f;rw [hn])).mono ?_;rintro e w8 ⟨rfl,hb8⟩)
   have hG8 := hG2.below hb8
   have hB8 := hB2.trans (hb8.mono (Nat.le_trans hb2 (Nat.le_refl _)))
   have hK8 := hK2.below hb8
   have hx8 := (hb8.block _ (blk_lt hx2)).trans hx2
   have hf8 := (fun k (hk : w8.heap.size ≤ k) => hf2 k (Nat.le_trans hb8.size hk))
   have hb9 := Nat.le_trans hb2 hb8.size
   have hb10 := hb8
   clear hb8
   have hb8 := hb9
   go_wp2_with (first | (go_at_call 55;refine (gr_putL hG9 hf9 hb9 (hF.cell _) (by have h_ := Ly.len_cell wd (s) (⟨d.extract 0 n,1⟩ : Cl);omega) (⟨d.extract n d.size,1⟩ : Cl)).mono ?_;rintro e w10 ⟨rfl,hG10,hBa,hKa⟩;have hB10 := hB9.trans hBa;have hK10 := hK9.then_ hKa (fun k hk => .inl (hk.imp And.left id));have hx10 := (hKa.2 _ (blk_lt hx9) (fun h => h.elim (fun h => h.2 rfl) (fun h => hpb h.symm))).trans hx9;have hf10 := (fun k (hk : w10.heap.size ≤ k) => hf9 k (Nat.le_trans hKa.1 hk));have hb10 := Nat.le_trans hb9 hKa.1;have x10_2 := blk_cell hx10 2;have x10_3 := blk_cell hx10 3;have hxl10 := blk_lt hx10;clear hBa hKa) | (go_at_call 55;refine (gr_putL hG8 hf8 hb8 hF (by omega) (⟨d.extract 0 n,1⟩ : Cl)).mono ?_;rintro e w9 ⟨rfl,hG9,hBa,hKa⟩;have hB9 := hB8.trans hBa;have hK9 := hK8.then_ hKa (fun k hk => .inl (hk.imp And.left id));have hx9 := (hKa.2 _ (blk_lt hx8) (fun h => h.elim (fun h => h.2 rfl) (fun h => hpb h.symm))).trans hx8;have hf9 := (fun k (hk : w9.heap.size ≤ k) => hf8 k (Nat.le_trans hKa.1 hk));have hb9 := Nat.le_trans hb8 hKa.1;have x9_2 := blk_cell hx9 2;have x9_3 := blk_cell hx9 3;have hxl9 := blk_lt hx9;clear hBa hKa))
   first | refine bodyPost_end (results_none rfl _ _ _) rfl ?_ | ((try simp only [Exit.inBlock,Exit.then]);refine bodyPost_ret (results_none rfl _ _ _) rfl ?_)
   exact lay_fin hG10 hB10 hK10 (by unfold Ly.lay;rw [if_neg z0,if_neg z1,if_neg z2,if_neg z4,if_neg z3]) h.ne
end Go.Proofs.YtnpjaaldppemlaaDoor.U
end
section
namespace Go.Proofs.YtnpjaaldppemlaaDoor.U
open Go.RowKit Go.Proofs.YtnpjaaldppemlaaDoorW.PrintWords Go.Proofs.YtnpjaaldppemlaaDoorW.PrintLast Go.Proofs.YtnpjaaldppemlaaDoorW.PrintMore
attribute [local go_sem] max2_int min2_int max_two min_two max_three min_three max_four min_four   -- for this text's walks alone
set_option linter.unusedVariables false
set_option linter.unusedSimpArgs false
def layout_held.f (a0 : Int) : Option (Int) := some (mn (mx a0 1) 65535)
set_option maxHeartbeats 8000000 in
set_option maxRecDepth 100000 in
theorem layout_held.calls (a0 : Int) (r : Int) (w : World) (h : layout_held.f a0 = some r) :
  Calls Tryd.prog 43 #[.int .i64 a0] w fun e w' => e = .returned (.int .i64 r) ∧ Below w.heap.size w w' := by
 have HB := Aside0.mk (Below.refl w.heap.size w)
 have H : (some (mn (mx a0 1) 65535)) = some r := h
 clear h
 obtain ⟨ji2,hji2⟩ : ∃ j_ : Int,(mx a0 1) = j_ := ⟨_,rfl⟩
 replace H : (some (mn (ji2) 65535)) = some r := by first | (rw [hji2] at H;exact H) | (simp only [hji2] at H ⊢;exact H)
 (try (have hji2l : 1 ≤ ji2 := by (rw [← hji2];unfold mx;(repeat' split) <;> omega)))
 (try (have hji2m : 0 ≤ ji2 := by omega))
 have hji2_ : (if a0 < 1 then 1 else a0) = ji2 := hji2
 obtain ⟨ji3,hji3⟩ : ∃ j_ : Int,(mn (ji2) 65535) = j_ := ⟨_,rfl⟩
 replace H : (some ji3) = some r := by first | (rw [hji3] at H;exact H) | (simp only [hji3] at H ⊢;exact H)
 have hji3_ : (if 65535 < (ji2) then 65535 else (ji2)) = ji3 := hji3
 obtain rfl := Option.some.inj H
 go_enter Tryd.func43,Tryd.ntmps43
 go_wp2
 go_ret
 exact ⟨by first | rfl | (simp [errW_none,errW_some] <;> rfl) | (simp only [← hji2,← hji3];first | rfl | (simp [errW_none,errW_some] <;> rfl)) | (simp [*,errW_none,errW_some] <;> rfl),au0⟩
end Go.Proofs.YtnpjaaldppemlaaDoor.U
end
section
namespace Go.Proofs.YtnpjaaldppemlaaDoor.U
open Go.RowKit Go.Proofs.YtnpjaaldppemlaaDoorW.PrintWords Go.Proofs.YtnpjaaldppemlaaDoorW.PrintLast Go.Proofs.YtnpjaaldppemlaaDoorW.PrintMore
set_option linter.unusedVariables false
set_option linter.unusedSimpArgs false
theorem al_size1 (w : World) (o : Obj) : (w.alloc o).heap.size = w.heap.size + 1 := by unfold World.alloc;simp
/-- A row of one empty row,made by itself. -/
theorem one_row (W : World) (base : Nat) (hb : base ≤ W.heap.size) (ok : Nat → Prop) (hok : ok W.heap.size) :
  Kd.S kRow 33 (W.alloc (.cells #[.slice none 0 0] 33 (0,0))) base ok (.slice (some ⟨W.heap.size,0,none⟩) 1 1) [[]] := by
 refine Kd.S_bare ⟨fun k hk => ?_,[.slice none 0 0],?_,?_⟩
 ·have : W.heap.size = k := by simpa [Value.ownBlock] using hk
  subst this
  exact hok
 ·have h2 := World.ownsRow_lit (base := base) (e := 33) (size := 1) W #[.slice none 0 0] 1 hb (by decide) rfl
  exact (by simpa using h2 : (W.alloc (.cells #[.slice none 0 0] 33 (0,0))).ownsRow base 33 1 (.slice (some ⟨W.heap.size,0,none⟩) 1 1) 1 [.slice none 0 0])
 ·exact Reps.one (Kd.M_row (Kd.R_nil _ _ _ _ _)) (Reps.none _ _)
set_option maxRecDepth 100000 in
set_option maxHeartbeats 4000000 in
theorem new_grid (width m : Int) (W : World) (hm : layout_held.f width = some m) :
  Calls Tryd.prog 51 #[.int .i64 width] W fun e w' => ∃ p,e = .returned (.pointer (some ⟨p,0,none⟩)) ∧ W.heap.size ≤ p ∧ LyAt 65 W.heap.size p (fun k => k ≠ p) w' m ([],[]) ∧ Below W.heap.size W w' := by
 go_enter Tryd.func51,Tryd.ntmps51
 go_wp2_with (go_at_call 43;refine (layout_held.calls width m _ hm).mono ?_;rintro e w1 ⟨rfl,hb1⟩)
 have hb2 : Below W.heap.size W ((w1.alloc (.cells #[.slice none 0 0] 33 (0,0))).alloc (.cells #[.int .i64 m,.slice (some ⟨w1.heap.size,0,none⟩) 1 1,.int .i64 0,.int .i64 0] 65 (0,0))) := below_alloc (below_alloc hb1 _) _
 have hp := World.alloc_heap_new (w1.alloc (.cells #[.slice none 0 0] 33 (0,0))) (.cells #[.int .i64 m,.slice (some ⟨w1.heap.size,0,none⟩) 1 1,.int .i64 0,.int .i64 0] 65 (0,0))
 rw [al_size1] at hp
 refine (by (try simp only [Exit.inBlock,Exit.then]);refine bodyPost_ret (results_tmp rfl _ _ _) rfl ?_;exact ⟨w1.heap.size + 1,rfl,Nat.le_succ_of_le hb1.size,⟨⟨_,hp,Kd.S_alloc (one_row w1 W.heap.size hb1.size (fun k => k ≠ w1.heap.size + 1) (by omega)) _⟩,Nat.le_succ_of_le hb1.size,fun h => h rfl⟩,hb2⟩)
end Go.Proofs.YtnpjaaldppemlaaDoor.U
end
section
namespace Go.Proofs.YtnpjaaldppemlaaDoor.U
open Go.RowKit Go.Proofs.YtnpjaaldppemlaaDoor.Rg Go.Proofs.YtnpjaaldppemlaaDoorW.PrintWords Go.Proofs.YtnpjaaldppemlaaDoorW.PrintLast Go.Proofs.YtnpjaaldppemlaaDoorW.PrintMore
set_option linter.unusedVariables false
set_option linter.unusedSimpArgs false
/-- A grid where every block of cells that is its own stands as it stood. -/
theorem LyAt.moveC {T base p : Nat} {ok : Nat → Prop} {W w1 : World} {wd : Int} {s : Ly} (h : LyAt T base p ok W wd s) (hm : ∀ (k : Nat) (o : Obj),W.heap[k]? = some o → o.isCells = true → (ok k ∨ k = p) → w1.heap[k]? = some o) : LyAt T base p ok w1 wd s := by
 obtain ⟨⟨rv,h1,h2⟩,h3,h4⟩ := h
 refine ⟨⟨rv,hm p _ h1 rfl (.inr rfl),?_⟩,h3,h4⟩
 refine Kd.S_mono (Kd.S_move (Kd.S_bound h2) (fun k hk => ?_)) (fun k hk => hk.1)
 obtain ⟨hk1,_,_,q,_,cs,hc⟩ := hk
 rw [hm k _ hc rfl (.inl hk1),hc]
theorem LyAt.boundC {T base p : Nat} {ok : Nat → Prop} {W : World} {wd : Int} {s : Ly} (h : LyAt T base p ok W wd s) : LyAt T base p (fun k => ok k ∧ ∃ o,W.heap[k]? = some o ∧ o.isCells = true) W wd s := by
 obtain ⟨⟨rv,h1,h2⟩,h3,h4⟩ := h
 refine ⟨⟨rv,h1,Kd.S_mono (Kd.S_bound h2) (fun k hk => ?_)⟩,h3,fun h => h4 h.1⟩
 obtain ⟨hk1,_,_,q,_,cs,hc⟩ := hk
 exact ⟨hk1,_,hc,rfl⟩
theorem LyAt.cells {T base p : Nat} {ok : Nat → Prop} {W : World} {wd : Int} {s : Ly} (h : LyAt T base p ok W wd s) : ∃ o,W.heap[p]? = some o ∧ o.isCells = true := by
 obtain ⟨⟨rv,h1,h2⟩,h3,h4⟩ := h
 exact ⟨_,h1,rfl⟩
/-- The grid's blocks ahead of a laying: cells below B,or new;none of nb. -/
def layOk (B p : Nat) (nb : Nat → Prop) (W : World) (k : Nat) : Prop := ((k < B ∧ ∃ o,W.heap[k]? = some o ∧ o.isCells = true) ∨ W.heap.size ≤ k) ∧ ¬ nb k ∧ k ≠ p
/-- A grid among the variables of a function that ranges over a function: its own blocks lie below B,none is of nb (the variables' boxes). -/
def GrIn (T n₀ p : Nat) (nb : Nat → Prop) (B : Nat) (W : World) (wd : Int) (s : Ly) : Prop := LyAt T n₀ p (fun k => k < B ∧ ¬ nb k ∧ k ≠ p) W wd s ∧ p < B
theorem GrIn.mono {T n₀ p B B' : Nat} {nb : Nat → Prop} {W : World} {wd : Int} {s : Ly} (h : GrIn T n₀ p nb B W wd s) (hB : B ≤ B') : GrIn T n₀ p nb B' W wd s :=
 ⟨h.1.mono (fun k hk => ⟨Nat.lt_of_lt_of_le hk.1 hB,hk.2⟩) (fun hk => hk.2.2 rfl),Nat.lt_of_lt_of_le h.2 hB⟩
theorem GrIn.below {T n₀ p B : Nat} {nb : Nat → Prop} {W w1 : World} {wd : Int} {s : Ly} (h : GrIn T n₀ p nb B W wd s) (hb : Below W.heap.size W w1) : GrIn T n₀ p nb B w1 wd s := ⟨h.1.below hb,h.2⟩
theorem GrIn.grow {T n₀ p B : Nat} {nb : Nat → Prop} {W w1 : World} {wd : Int} {s : Ly} {row : Option Nat} (h : GrIn T n₀ p nb B W wd s) (hg : W.grownBy w1 row) (hr : ∀ r,row = some r → ∃ o : Obj,W.heap[r]? = some o ∧ o.isCells = false) : GrIn T n₀ p nb B w1 wd s := by
 refine ⟨h.1.moveC (fun k o ho hc _ => (hg.block k (Array.getElem?_eq_some_iff.1 ho).1 (fun e => ?_)).trans ho),h.2⟩
 obtain ⟨o',ho',hc'⟩ := hr k e.symm
 rw [ho] at ho'
 cases ho'
 rw [hc] at hc'
 cases hc'
theorem GrIn.other {T n₀ p B b : Nat} {nb : Nat → Prop} {W : World} {wd : Int} {s : Ly} (h : GrIn T n₀ p nb B W wd s) (hb : nb b) (hp : b ≠ p) (j : Nat) (v : Value) : GrIn T n₀ p nb B (W.setCell ⟨b,j,none⟩ v) wd s := by
 refine ⟨h.1.moveC (fun k o ho hc hk => (Below.heap_setCell W ⟨b,j,none⟩ v k (fun (e : k = b) => ?_)).trans ho),h.2⟩
 subst e
 rcases hk with hk | hk
 ·exact hk.2.1 hb
 ·exact hp hk
/-- What is handed to a laying. -/
theorem GrIn.ahead {T n₀ p B : Nat} {nb : Nat → Prop} {W : World} {wd : Int} {s : Ly} (h : GrIn T n₀ p nb B W wd s) : LyAt T n₀ p (layOk B p nb W) W wd s :=
 h.1.boundC.mono (fun k hk => ⟨.inl ⟨hk.1.1,hk.2⟩,hk.1.2⟩) (fun hk => hk.2.2 rfl)
theorem layOk_new {B p : Nat} {nb : Nat → Prop} {W : World} (hn : ∀ k,nb k → k < W.heap.size) (hp : p < W.heap.size) : ∀ k,W.heap.size ≤ k → layOk B p nb W k := fun k hk => ⟨.inr hk,fun h => by have := hn k h;omega,by omega⟩
/-- What a laying leaves. -/
theorem GrIn.behind {T n₀ p B : Nat} {nb : Nat → Prop} {W w1 : World} {wd : Int} {s : Ly} (h : LyAt T n₀ p (layOk B p nb W) w1 wd s) : GrIn T n₀ p nb w1.heap.size w1 wd s :=
 ⟨h.bound.mono (fun k hk => ⟨hk.2,hk.1.2⟩) (fun hk => hk.2.2 rfl),h.lt⟩
theorem lay_keeps {n₀ p B C : Nat} {nb Pr : Nat → Prop} {W w1 : World} (hK : Kept W w1 (fun k => layOk B p nb W k ∨ k = p)) (hb : Below n₀ W w1) (hp : ∃ o,W.heap[p]? = some o ∧ o.isCells = true) (hpB : p < B) (hPr : ∀ k,Pr k → nb k ∧ k ≠ p) : KeepsFrom C W w1 ∧ KeepB n₀ Pr B W w1 := by
 refine ⟨⟨hK.1,fun k o _ ho hc => (hK.2 k (Array.getElem?_eq_some_iff.1 ho).1 (fun h => ?_)).trans ho⟩,hb,fun k o hk ho hc => (hK.2 k (Array.getElem?_eq_some_iff.1 ho).1 (fun h => ?_)).trans ho⟩
 ·rcases h with h | rfl
  ·rcases h.1 with ⟨_,o',ho',hc'⟩ | h1
   ·rw [ho] at ho';cases ho';rw [hc] at hc';cases hc'
   ·have := (Array.getElem?_eq_some_iff.1 ho).1;omega
  ·obtain ⟨o',ho',hc'⟩ := hp
   rw [ho] at ho';cases ho';rw [hc] at hc';cases hc'
 ·rcases h with h | h
  ·rcases hk with hk | hk
   ·exact h.2.1 (hPr k hk).1
   ·rcases h.1 with ⟨h1,_⟩ | h1
    ·omega
    ·have := (Array.getElem?_eq_some_iff.1 ho).1;omega
  ·rcases hk with hk | hk
   ·exact (hPr k hk).2 h
   ·omega
end Go.Proofs.YtnpjaaldppemlaaDoor.U
end
section
namespace Go.Proofs.YtnpjaaldppemlaaDoor.U
open Go.RowKit Go.Shelf Go.Proofs.YtnpjaaldppemlaaDoor.Mu Go.Proofs.YtnpjaaldppemlaaDoor.Pu Go.Proofs.YtnpjaaldppemlaaDoor.Rg Go.Proofs.YtnpjaaldppemlaaDoorW.PrintWords Go.Proofs.YtnpjaaldppemlaaDoorW.PrintLast Go.Proofs.YtnpjaaldppemlaaDoorW.PrintMore
attribute [local go_sem] Oper.semAt_some
set_option linter.unusedVariables false
set_option linter.unusedSimpArgs false
/-- What is laid of a text's clusters. -/
def layC (wd : Int) (t : ByteArray) (st : Ly) (c : S60) : Ly := st.lay wd c.f2 c.f3 (drawnS (t.extract c.f0.toNat c.f1.toNat)) (Lib.decodeGo (drawnS (t.extract c.f0.toNat c.f1.toNat))).2
def layL (wd : Int) (t : ByteArray) (st : Ly) (cs : List S60) : Ly := cs.foldl (layC wd t) st
theorem layL_snoc (wd : Int) (t : ByteArray) (st : Ly) (cs : List S60) (c : S60) : layL wd t st (cs ++ [c]) = layC wd t (layL wd t st cs) c := by unfold layL;rw [List.foldl_append];rfl
theorem layL_fit (wd : Int) (t : ByteArray) (cs : List S60) : ∀ (st : Ly),st.Fit wd → (layL wd t st cs).Fit wd := by
 induction cs with
 | nil => intro st h;exact h
 | cons c cs ih => intro st h;exact ih _ (h.lay _ _ _ _)
theorem layL_len (wd : Int) (t : ByteArray) (cs : List S60) : ∀ (st : Ly),(layL wd t st cs).1.length ≤ st.1.length + 3 * cs.length := by
 induction cs with
 | nil => intro st;exact Nat.le_add_right _ _
 | cons c cs ih =>
  intro st
  have h1 := ih (layC wd t st c)
  have h2 : (layC wd t st c).1.length ≤ st.1.length + 3 := Ly.len_lay wd st _ _ _ _
  show (layL wd t (layC wd t st c) cs).1.length ≤ _
  rw [List.length_cons]
  omega
theorem LyAt.lower {T base base' p : Nat} {ok : Nat → Prop} {W : World} {wd : Int} {s : Ly} (h : LyAt T base p ok W wd s) (hb : base' ≤ base) : LyAt T base' p (fun k => ok k ∧ base ≤ k ∧ k < W.heap.size) W wd s := by
 obtain ⟨⟨rv,h1,h2⟩,h3,h4⟩ := h
 exact ⟨⟨rv,h1,Kd.S_lower (Kd.S_mono (Kd.S_bound h2) (fun k hk => ⟨hk.1,hk.2.1,hk.2.2.1⟩)) hb⟩,Nat.le_trans hb h3,fun h => h4 h.1⟩
theorem decodeGo_le (s : ByteArray) : (Lib.decodeGo s).2 ≤ s.size := by
 by_cases h : 0 < s.size
 ·have h1 := decodeGo_extract s 0 h
  rw [ByteArray.extract_zero_size] at h1
  rw [h1]
  have h2 := uN_le s 0 h
  unfold uN at h2
  omega
 ·have h0 : s.size = 0 := by omega
  unfold Lib.decodeGo
  rw [if_pos h0]
  exact Nat.zero_le _
/-- What prompted's variables hold behind the clusters pre. -/
structure PrInv (w : World) (t : ByteArray) (m : Int) (p bg bc : Nat) (st : Ly) (B : Nat) (W : World) : Prop where
 gr : GrIn 65 w.heap.size p (fun k => k = w.heap.size ∨ k = bg ∨ k = bc) B W m st
 txt : Boxed W w.heap.size 9 (.string t)
 ptr : Boxed W bg 62 (.pointer (some ⟨p,0,none⟩))
 cls : Boxed W bc 9 (.string t)
 bel : Below w.heap.size w W
theorem PrInv.grow {w : World} {t : ByteArray} {m : Int} {p bg bc : Nat} {st : Ly} {B : Nat} {X Y : World} {row : Option Nat} (h : PrInv w t m p bg bc st B X) (hg : X.grownBy Y row) (hr : ∀ r,row = some r → w.heap.size ≤ r ∧ ∃ o : Obj,X.heap[r]? = some o ∧ o.isCells = false) : PrInv w t m p bg bc st B Y := by
 have hr' : ∀ r,row = some r → ∃ o : Obj,X.heap[r]? = some o ∧ o.isCells = false := fun r e => (hr r e).2
 exact ⟨h.gr.grow hg hr',boxed_grow h.txt hg hr',boxed_grow h.ptr hg hr',boxed_grow h.cls hg hr',h.bel.grown hg h.bel.size (fun k e => (hr k e).1)⟩
theorem PrInv.below {w : World} {t : ByteArray} {m : Int} {p bg bc : Nat} {st : Ly} {B : Nat} {X Y : World} (h : PrInv w t m p bg bc st B X) (hb : Below X.heap.size X Y) : PrInv w t m p bg bc st B Y :=
 ⟨h.gr.below hb,boxed_below h.txt hb,boxed_below h.ptr hb,boxed_below h.cls hb,h.bel.trans (hb.mono h.bel.size)⟩
set_option maxRecDepth 100000 in
set_option maxHeartbeats 4000000 in
theorem prompted_any (t : ByteArray) (width m : Int) (w : World) (hs : t.size ≤ 68719476736) (hm : layout_held.f width = some m) (hT : Lib.Utf8Tabs 0 1 w) :
  Calls Tryd.prog 34 #[.string t,.int .i64 width] w fun e w' => ∃ p,e = .returned (.pointer (some ⟨p,0,none⟩)) ∧ w.heap.size ≤ p ∧ LyAt 65 w.heap.size p (fun k => k ≠ p) w' m (layL m t ([],[]) (clusL t)) ∧ Below w.heap.size w w' := by
 have hlen : (clusL t).length ≤ t.size := clusL_length t
 refine (callsIn_wide (n := 6)).1 ?_
 refine callsIn_of_wp_marks Tryd.func34 rfl trivial ?_ rfl
 simp only [Tryd.ntmps34,List.size_toArray,List.length_cons,List.length_nil,Nat.reduceAdd,Nat.reduceSub,Array.replicate_succ,Array.replicate_zero,List.push_toArray,List.append_toArray,List.nil_append,List.cons_append]
 gi_wp2_with (first | (refine ⟨trivial,?_⟩;gi_at_call 51;refine (callsIn_wide.2 (new_grid width m _ hm)).mono ?_;rintro e w1 ⟨p,rfl,hp,hG,hb1⟩;have bt := boxed_below (Boxed.new w 9 (.string t)) hb1;have ct := bt.cell;have clt := bt.lt) | (refine ⟨trivial,?_⟩;gi_at_call 35;refine (callsIn_wide.2 (cwalk_calls t _)).mono ?_;rintro e w' ⟨rfl,rfl⟩))
 have hsz1 : w1.heap.size ≥ w.heap.size + 1 := clt
 have hb0 : Below w.heap.size w w1 := (below_alloc (Below.refl w.heap.size w) (.cells #[.string t] 9 (0,0))).trans (hb1.mono (by simp))
 rw [World.size_alloc] at hp hG
 have hplt := hG.lt
 have hGr : GrIn 65 w.heap.size p (fun k => k = w.heap.size ∨ k = w1.heap.size ∨ k = w1.heap.size + 1) w1.heap.size w1 m ([],[]) :=
  ⟨(hG.lower (base' := w.heap.size) (by omega)).mono (fun k hk => ⟨hk.2.2,fun h => by have := hk.2.1;have := hk.2.2;omega,hk.1⟩) (fun hk => hk.2.2 rfl),hplt⟩
 obtain ⟨W0,hW0⟩ : ∃ W0,(w1.alloc (.cells #[.pointer (some ⟨p,0,none⟩)] 62)).alloc (.cells #[.string t] 9) = W0 := ⟨_,rfl⟩
 rw [hW0]
 have hsz : W0.heap.size = w1.heap.size + 2 := by rw [← hW0];simp
 have hI0 : PrInv w t m p w1.heap.size (w1.heap.size + 1) ([],[]) (w1.heap.size + 2) W0 := by
  rw [← hW0]
  have hb2 : Below w1.heap.size w1 ((w1.alloc (.cells #[.pointer (some ⟨p,0,none⟩)] 62)).alloc (.cells #[.string t] 9)) := below_alloc (below_alloc (Below.refl _ _) _) _
  refine ⟨(hGr.below hb2).mono (by omega),boxed_below bt hb2,(Boxed.new w1 _ _).alloc _,?_,hb0.trans (hb2.mono hb0.size)⟩
  have := Boxed.new (w1.alloc (.cells #[.pointer (some ⟨p,0,none⟩)] 62)) 9 (.string t)
  rw [World.size_alloc] at this
  exact this
 clear hW0 hGr hG hb0 hb1 bt ct clt
 generalize w1.heap.size = bg at hplt hsz1 hsz hI0 ⊢
 clear w1
 have hF0 : Ly.Fit m ([],[]) := by
  unfold layout_held.f at hm
  have hm2 := Option.some.inj hm
  have h1 : 1 ≤ m ∧ m ≤ 65535 := by rw [← hm2];unfold mn mx;split <;> split <;> omega
  exact ⟨h1.1,h1.2,by simpa using (by omega : (0 : Int) < m)⟩
 refine range_outer (α := S60) rfl (by omega) (gf := 52) (lb := #[.pointer (some ⟨bg + 1,0,none⟩)]) rfl trivial (enters_of Tryd.func52 (by kernel_rfl) rfl)
  (cwalk1_seq 5 (by omega) w W0 t (bg + 1) (by omega) hT hI0.bel hI0.cls) (Below.refl _ _) (fun _ => rfl) (by omega)
  (fun (B : Nat) (pre : List S60) (W : World) => PrInv w t m p bg (bg + 1) (layL m t ([],[]) pre) B W)
  (fun _ _ _ => False)
  (fun B pre X Y row h hg hr => h.grow hg (fun r e => ⟨by have := (hr r e).1;omega,(hr r e).2⟩))
  (fun B B' pre W hBB h => ⟨h.gr.mono hBB,h.txt,h.ptr,h.cls,h.bel⟩)
  (fun _ _ _ _ _ hs _ _ => hs)
  (by rw [hsz];exact hI0)
  (fun (x : S60) (a' : Act) (W : World) => ∃ Bx,Hid (W.heap[Bx]? = some (.cells #[.int .i64 x.f0,.int .i64 x.f1,.int .i64 x.f2,.int .i64 x.f3] 60 (0,0))) ∧ a' = { tmps := #[.string t,.int .i64 width,.pointer (some ⟨w.heap.size,0,none⟩),undef,.pointer none,.pointer (some ⟨bg,0,none⟩),.pointer (some ⟨Bx,0,none⟩),.int .i64 width,.pointer (some ⟨p,0,none⟩),.string t,.func (.func 52) #[] #[.pointer (some ⟨bg + 1,0,none⟩)],.agg #[.int .i64 x.f0,.int .i64 x.f1,.int .i64 x.f2,.int .i64 x.f3],undef,undef,undef,undef,undef],defers := [] })
  (fun x a' _ X Y row hs hg hr => by
   obtain ⟨Bx,h1,h2⟩ := hs
   refine ⟨Bx,?_,h2⟩
   refine (hg.block Bx (Array.getElem?_eq_some_iff.1 h1).1 (fun e => ?_)).trans h1
   obtain ⟨_,o,ho,hc⟩ := hr Bx e.symm
   rw [show X.heap[Bx]? = _ from h1] at ho;cases ho;cases hc)
  ?assign ?body ?done ?stop
 case assign =>
  rintro l B pre x W K hCW hBW hI hK
  have hsz1 := hI.bel.size
  gi_wp2
  exact hK _ _ ((KeepsOthers.alloc _ _).from _) (KeepB.of_below hsz1 ((Below.refl _ W).alloc (Nat.le_refl _) _)) (hI.below ((Below.refl _ W).alloc (Nat.le_refl _) _)) ⟨W.heap.size,Lib.hid (World.alloc_heap_new W _),rfl⟩
 case body =>
  rintro l B pre x a' W hl hCW hr hBW hI ⟨Bx,hBx,rfl⟩ hlt hpx
  obtain ⟨i,hci,hiS,hxe⟩ : ∃ i : Nat,CB t i ∧ i < t.size ∧ x = clAt t i := clus_mem t t.size 0 (cb_zero t) x (hpx.subset (by simp))
  have hx0 : 0 ≤ x.f0 := by rw [hxe];exact Int.natCast_nonneg _
  have hx1 : x.f0 ≤ x.f1 := by rw [hxe];have := nxt_up t _ i (Nat.le_refl _) hiS;show (i : Int) ≤ (nxt t i : Int);omega
  have hx2 : x.f1 ≤ t.size := by rw [hxe];have := nxt_le t i hci.1 hiS;show (nxt t i : Int) ≤ (t.size : Int);omega
  have hst : Hid (layL m t ([],[]) (pre ++ [x]) = layC m t (layL m t ([],[]) pre) x) := Lib.hid (layL_snoc _ _ _ _ _)
  have hFt := layL_fit m t pre _ hF0
  have hLn := layL_len m t pre ([],[])
  have hlt2 : pre.length < t.size := Nat.lt_of_lt_of_le hlt hlen
  have hL2 : (layL m t ([],[]) pre).1.length ≤ 549755813888 := by simp at hLn;omega
  generalize layL m t ([],[]) pre = st at hI hst hFt hL2 ⊢
  have hTw := tabs_below hT hI.bel
  have cp := hI.ptr.cell
  have ct := hI.txt.cell
  have hpW := hI.gr.1.lt
  have hnb : ∀ k,(k = w.heap.size ∨ k = bg ∨ k = bg + 1) → k < W.heap.size := by
   rintro k (rfl | rfl | rfl)
   ·exact hI.txt.lt
   ·exact hI.ptr.lt
   ·exact hI.cls.lt
  obtain ⟨x0,x1,x2,x3⟩ := x
  have b0 : W.cell? ⟨Bx,0,none⟩ = some (.int .i64 x0) := by simp [World.cell?,show W.heap[Bx]? = _ from hBx.out]
  have b1 : W.cell? ⟨Bx,1,none⟩ = some (.int .i64 x1) := by simp [World.cell?,show W.heap[Bx]? = _ from hBx.out]
  have b2 : W.cell? ⟨Bx,2,none⟩ = some (.int .i64 x2) := by simp [World.cell?,show W.heap[Bx]? = _ from hBx.out]
  have b3 : W.cell? ⟨Bx,3,none⟩ = some (.int .i64 x3) := by simp [World.cell?,show W.heap[Bx]? = _ from hBx.out]
  have hu60 := Tryd.underlying60
  have hnW : 2 ≤ w.heap.size := by
   have h1 := (hT.2 0 (by decide)).2
   have := World.block_lt_of_cell? w ⟨1,_,none⟩ h1
   exact this
  have hsub : (t.extract x0.toNat x1.toNat).size ≤ 1099511627776 := by simp [ByteArray.size_extract];omega
  dsimp only
  gi_wp2_with (refine ⟨trivial,?_⟩;gi_at_call 36;refine (callsIn_wide.2 (gr_lay hI.gr.ahead (layOk_new hnb hpW) hI.bel.size hnW hTw hFt hL2 t ⟨x0,x1,x2,x3⟩ hx0 hx1 hx2 (drawnS (t.extract x0.toNat x1.toNat)) (by unfold cluster_Drawn.f;exact if_pos hsub) _ rfl (decodeGo_le _))).mono ?_;rintro e w2 ⟨rfl,hG2,hB2,hK2⟩)
  have hk := fun C => lay_keeps (C := C) (Pr := fun k => k = bg + 1) hK2 hB2 hI.gr.1.cells hI.gr.2 (fun k hk => ⟨.inr (.inr hk),by omega⟩)
  have hb3 : ∀ k,(k = w.heap.size ∨ k = bg ∨ k = bg + 1) → k ≠ p → w2.heap[k]? = W.heap[k]? := fun k hk hp2 => hK2.2 k (hnb k hk) (fun h => h.elim (fun h => h.2.1 hk) hp2)
  have e1 := hb3 w.heap.size (.inl rfl) (by omega)
  have e2 := hb3 bg (.inr (.inl rfl)) (by omega)
  have e3 := hb3 (bg + 1) (.inr (.inr rfl)) (by omega)
  have hn3 : W0.heap.size = bg + 2 := hsz
  refine ⟨(hk _).1,(hk 0).2,?_⟩
  show PrInv w t m p bg (bg + 1) (layL m t ([],[]) _) _ _
  rw [hst.out]
  exact ⟨GrIn.behind hG2,e1.trans hI.txt,e2.trans hI.ptr,e3.trans hI.cls,hI.bel.trans hB2⟩
 case done =>
  rintro D ys W hD hys hI hK
  have cp := hI.ptr.cell
  gi_wp2
  refine ⟨by simp,.inl ⟨_,_,rfl,run_takeDeferred hK,?_⟩⟩
  refine ⟨_,results_tmp rfl _ _ _,p,rfl,by omega,?_,hI.bel.trans (belowK_b (w := w) (Nat.le_refl _) W D _ _ (by omega) hK rfl rfl)⟩
  have hg := hI.gr.grow (grownBy_putObj' W D (.deferred none)) (fun r e => by cases e;exact ⟨_,hK,rfl⟩)
  rw [show ys = clusL t from hys] at hg
  exact hg.1.mono (fun k hk => hk.2.2) (fun h => h rfl)
 case stop =>
  rintro D c pre W _ _ h _
  exact h.elim
end Go.Proofs.YtnpjaaldppemlaaDoor.U
end
section
namespace Go.Proofs.YtnpjaaldppemlaaDoor.U
open Go.RowKit Go.Proofs.YtnpjaaldppemlaaDoorW.PrintWords Go.Proofs.YtnpjaaldppemlaaDoorW.PrintLast Go.Proofs.YtnpjaaldppemlaaDoorW.PrintMore
set_option linter.unusedVariables false
set_option linter.unusedSimpArgs false
theorem no_row (W : World) (base : Nat) (hb : base ≤ W.heap.size) : Kd.R k35 35 (W.alloc (.cells #[] 35 (0,0))) base (fun _ => True) (.slice (some ⟨W.heap.size,0,none⟩) 0 0) [] := by
 refine ⟨fun _ _ => trivial,[],?_,Reps.none _ _⟩
 have h2 := World.ownsRow_lit (base := base) (e := 35) (size := 2) W #[] 0 hb (by decide) rfl
 exact (by simpa using h2 : (W.alloc (.cells #[] 35 (0,0))).ownsRow base 35 2 (.slice (some ⟨W.heap.size,0,none⟩) 0 0) 0 [])
set_option maxRecDepth 100000 in
set_option maxHeartbeats 4000000 in
theorem clone_any (A : Option Addr) (n c : Nat) (xs : List Cl) (W : World) (hC : Kd.C k35 W A n xs) (hl : n ≤ 1099511627776) :
  Calls Tryd.prog 58 #[.slice A n c] W fun e w' => ∃ v',e = .returned v' ∧ Kd.R k35 35 w' W.heap.size (fun _ => True) v' xs ∧ Below W.heap.size W w' := by
 have hn : xs.length = n := hC.1
 have q22 : ∀ (w : World) (a : Option Addr) (n c n' c' : Nat),(binOp .eql 33 (.slice a n c) (.slice none n' c')).run Tryd.prog w = .ok (.bool a.isNone) w := fun w a n c n' c' => Lib.run_eql_slice_nil w _ _ a n c n' c' Tryd.underlying33
 cases A with
 | none =>
  have h0 : n = 0 := by
   rcases Nat.eq_zero_or_pos n with h0 | h0
   ·exact h0
   ·obtain ⟨ad,h,_⟩ := hC.2.2 h0
    cases h
  subst h0
  have hx : xs = [] := List.eq_nil_of_length_eq_zero hn
  subst hx
  go_enter Tryd.func58,Tryd.ntmps58
  go_wp2
  go_ret
  exact ⟨_,rfl,Kd.R_nil _ _ _ _ _,Below.refl _ _⟩
 | some ad =>
  go_enter Tryd.func58,Tryd.ntmps58
  go_wp2_with ((with_reducible refine gate_builtin (b := .append) (xs := #[.tmp 5,.tmp 6]) rfl ?_);at_builtin;(refine Kd.R_append_rows k35 (Rr := k35.K _) (w0 := W) W.heap.size rfl (.tmp 5) (.tmp 6) 33 35 (.agg #[.string ⟨#[]⟩,.int .i64 0]) 24 rfl Tryd.underlying33 info35 rfl (by decide) (by decide) (.slice (some ⟨W.heap.size,0,none⟩) 0 0) [] xs (some ad) n c (fun _ => True) (fun _ => False) rfl rfl (no_row W W.heap.size (Nat.le_refl _)) (Kd.C_below hC (below_alloc (Below.refl _ _) _)) (fun x cs h => by rw [k35_open h];exact k35_mkM _ _ _ x) (fun _ hk => hk.elim) (fun _ _ => trivial) (below_alloc (Below.refl _ _) _) (by rw [World.size_alloc];omega) (by simp;omega) ?_;intro v1 w1 hR1 hB1 hg1 hat1))
  go_ret
  exact ⟨_,rfl,hR1,hB1⟩
end Go.Proofs.YtnpjaaldppemlaaDoor.U
end
section
namespace Go.Proofs.YtnpjaaldppemlaaDoor.U
open Go.RowKit Go.Proofs.YtnpjaaldppemlaaDoorW.PrintWords Go.Proofs.YtnpjaaldppemlaaDoorW.PrintLast Go.Proofs.YtnpjaaldppemlaaDoorW.PrintMore
set_option linter.unusedVariables false
set_option linter.unusedSimpArgs false
/-- Is it a blank cell? -/
def isBl (x : Cl) : Bool := (x.f0.toList == ([32] : List UInt8) && (x.f1 == 1))
/-- How many of the first n cells stay. -/
def trimN (row : List Cl) : Nat → Nat
 | 0 => 0
 | n + 1 => if isBl (rd_T35 row (n : Int)) then trimN row n else n + 1
theorem trimN_le (row : List Cl) : ∀ n,trimN row n ≤ n
 | 0 => Nat.le_refl _
 | n + 1 => by unfold trimN;split;exact Nat.le_succ_of_le (trimN_le row n);exact Nat.le_refl _
def trimR (row : List Cl) : List Cl := row.take (trimN row row.length)
theorem cell_eq (d : Nat) (w : World) (x0 y0 : ByteArray) (x1 y1 : Int) :
  (Op.equalIn (d + 2) 35 (.agg #[.string x0,.int .i64 x1]) (.agg #[.string y0,.int .i64 y1])).run Tryd.prog w = .ok (x0.toList == y0.toList && (x1 == y1)) w := by
 refine eqA_of Tryd.underlying35 (by kernel_rfl) ?_
 refine eqf_cons (by rfl) (by go_simp;rfl) (by go_simp;rfl) (by go_simp) ?_
 exact eqf_last (by rfl) (by go_simp;rfl) (by go_simp;rfl) (by go_simp)
attribute [local go_sem high] cell_eq
def trim2.T : Bool × List (List Nat × List Nat) := (true,[([],[]),([0],[0]),([1],[1]),([2],[2]),([2],[2]),([4,2],[2,4]),([3,5,2],[2,3,5]),([6,2],[2,6]),([2,2],[2]),([7,8,2],[2,7,8]),([2,9],[2,9])])
def trim2.B : List Nat := [0,1,3,7,7,23,63,127,7,511,1023]
theorem trim2.tab : rtab .any (opsOf Tryd.f33 2) = trim2.T := by kernel_rfl
theorem trim2.bits : waitsOk trim2.T.2 trim2.B = true := by kernel_rfl
end Go.Proofs.YtnpjaaldppemlaaDoor.U
end
section
namespace Go.Proofs.YtnpjaaldppemlaaDoor.U
open Go.RowKit Go.Proofs.YtnpjaaldppemlaaDoorW.PrintWords Go.Proofs.YtnpjaaldppemlaaDoorW.PrintLast Go.Proofs.YtnpjaaldppemlaaDoorW.PrintMore
attribute [local go_sem] max2_int min2_int max_two min_two max_three min_three max_four min_four   -- for this text's walks alone
set_option linter.unusedVariables false
set_option linter.unusedSimpArgs false
def layout_blank.f  : Option (ByteArray × Int) := some ((⟨#[32]⟩ : ByteArray),1)
set_option maxHeartbeats 8000000 in
set_option maxRecDepth 100000 in
theorem layout_blank.calls  (r1 : ByteArray) (r2 : Int) (w : World) (h : layout_blank.f  = some (r1,r2)) :
  Calls Tryd.prog 57 #[] w fun e w' => e = .returned (.agg #[.string r1,.int .i64 r2]) ∧ Below w.heap.size w w' := by
 have hu35 := Tryd.underlying35
 have HB := Aside0.mk (Below.refl w.heap.size w)
 have H : (some ((⟨#[32]⟩ : ByteArray),1)) = some (r1,r2) := h
 clear h
 simp only [Option.some.injEq,Prod.mk.injEq] at H
 obtain ⟨rfl,rfl⟩ := H
 go_enter Tryd.func57,Tryd.ntmps57
 go_wp2_with (first | ((with_reducible refine gate_dst (N := 0) rfl ?_);refine box_event ?hg (N := 0) ?hd (cs := #[.string (⟨#[]⟩ : ByteArray),.int .i64 0]) (t := 35) ?hr ?_;(case hd => rfl);(case hg => rfl);(case hr => first | (go_simp;done) | (go_simp;rfl));intro gb433 hg w1 hbox hb;have n0_ := Aside0.mk (below_step au0 hb);have n1_ := Aside0.mk (hbox);have n2_ := Aside0.mk ((by rw [hg];exact (below_size au0) : w.heap.size ≤ gb433));have n3_ := Aside0.mk ((by rw [hg];exact (below_size au0) : w.heap.size ≤ gb433));clear HB;have HB := n0_;have BK433 := n1_;have GW433 := n2_;have GE433 := n3_;clear n0_ n1_ n2_ n3_;clear hb hbox hg;have hcz2_0 : w1.cell? ⟨gb433,0,none⟩ = some (.string (⟨#[]⟩ : ByteArray)) := (blk_cell BK433.out 0).trans rfl;have hcz2_1 : w1.cell? ⟨gb433,1,none⟩ = some (.int .i64 0) := (blk_cell BK433.out 1).trans rfl;have hfz2_0 := blk_frozen BK433.out 0;have hfz2_1 := blk_frozen BK433.out 1))
 refine bodyPost_ret (results_cell_row rfl _ _ gb433 35 #[.string (⟨#[32]⟩ : ByteArray),.int .i64 1] (0,0) _ rfl (by (with_reducible repeat (first | refine blk_drewN ?_ _ | refine blk_drew ?_ | refine blk_alloc ?_ _));refine blk_put (cs := #[.string (⟨#[32]⟩ : ByteArray),.int .i64 0]) ?_ 1 _ rfl;(with_reducible repeat (first | refine blk_drewN ?_ _ | refine blk_drew ?_ | refine blk_alloc ?_ _));refine blk_put (cs := #[.string (⟨#[]⟩ : ByteArray),.int .i64 0]) ?_ 0 _ rfl;(with_reducible repeat (first | refine blk_drewN ?_ _ | refine blk_drew ?_ | refine blk_alloc ?_ _));exact BK433.out) Tryd.underlying35 rfl (by kernel_rfl)) rfl ?_
 exact ⟨au2,by repeat (first | (with_reducible first | exact HB.out | apply below_alloc | apply pw_below_drewN | apply below_drew1 | refine below_set ?_ GE433.out) | exact HB.out)⟩
end Go.Proofs.YtnpjaaldppemlaaDoor.U
end
