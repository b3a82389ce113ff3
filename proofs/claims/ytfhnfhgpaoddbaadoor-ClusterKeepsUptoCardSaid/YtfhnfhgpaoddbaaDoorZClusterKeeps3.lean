/- What the law ClusterKeeps reaches of this seat's own texts, merged; what nothing uses is left out. -/
import Derived.Test.YtfhnfhgpaoddbaaDoorZClusterKeeps0
import Derived.Test.YtfhnfhgpaoddbaaDoorZClusterKeeps1
import Derived.Test.YtfhnfhgpaoddbaaDoorZClusterKeeps2
section
namespace Go.Proofs.YtfhnfhgpaoddbaaDoor.U
open Go.RowKit Go.Shelf Go.Proofs.YtfhnfhgpaoddbaaDoor.Mu Go.Proofs.YtfhnfhgpaoddbaaDoor.Pu Go.Proofs.YtfhnfhgpaoddbaaDoor.Rg Go.Proofs.YtfhnfhgpaoddbaaDoorW.PrintWords Go.Proofs.YtfhnfhgpaoddbaaDoorW.PrintLast Go.Proofs.YtfhnfhgpaoddbaaDoorW.PrintMore
attribute [local go_sem] Oper.semAt_some
set_option linter.unusedVariables false
set_option linter.unusedSimpArgs false
abbrev encC (c : S53) : Array Value := #[.agg #[.int .i64 c.f0,.int .i64 c.f1,.int .i64 c.f2,.int .i64 c.f3]]
set_option maxRecDepth 100000 in
set_option maxHeartbeats 2000000 in
/-- cluster.Walk's inner function: its contract. -/
theorem cwalk1_seq (n : Nat) (hn : 1 ≤ n) (w₀ w : World) (s : ByteArray) (Bs : Nat) (hs : s.size ≤ 1099511627776) (hT : Lib.Utf8Tabs 0 1 w₀) (hb : Below w₀.heap.size w₀ w) (hc : Boxed w Bs 9 (.string s)) :
  SeqB Fence.wide n Tryd.prog 83 #[.pointer (some ⟨Bs,0,none⟩)] encC w₀.heap.size (fun k => k = Bs) (fun xs => Hid (xs = clusL s)) (fun pre => pre <+: clusL s) (clusL s).length w := by
 intro l J Jx W hW hJ hJx hY h0
 refine callsIn_of_wp Tryd.func83 rfl trivial ?_ rfl
 simp only [Tryd.ntmps83,List.size_toArray,List.length_cons,List.length_nil,Nat.reduceAdd,Nat.reduceSub,Array.replicate_succ,Array.replicate_zero,List.push_toArray,List.append_toArray,List.nil_append,List.cons_append]
 gi_wp2
 gi_loopw [3] (fun v wr => ∃ (i : Nat) (pre : List S53),v = .int .i64 i ∧ i ≤ s.size ∧ Hid (CB s i) ∧ Hid (clusL s = pre ++ ctl s i) ∧ J pre wr ∧ Boxed wr Bs 9 (.string s) ∧ Below w₀.heap.size w₀ wr)
  (fun v _ => s.size - (intOf v).toNat)
 case atStart =>
  exact ⟨0,[],rfl,Nat.zero_le _,Lib.hid (cb_zero s),Lib.hid rfl,h0,(hW.block Bs hc.lt).trans hc,hb.trans (hW.mono hb.size)⟩
 case round =>
  obtain ⟨i,pre,rfl,hi,hcb0,hx,hJs,hbx,hbl⟩ := hrel
  have hcb := hbx.cell
  by_cases hlt : i < s.size
  ·have hlt' : (i : Int) < (s.size : Int) := by omega
   obtain ⟨t,ht⟩ : ∃ t,nxt s i = t := ⟨_,rfl⟩
   have ht1 : i < t := ht ▸ nxt_pos s i hlt
   have ht2 : t ≤ s.size := ht ▸ nxt_le s i hcb0.out.1 hlt
   obtain ⟨k1,hk1⟩ := Ev.rounds (cnext_ev hs (nxtS s i hcb0.out.1 hlt i (Int.le_refl _) (by rw [ht];omega)))
   rw [ht] at hk1
   have hk1 := Lib.hid hk1
   obtain ⟨k2,hk2⟩ := Ev.rounds (made_ans s hs i hcb0.out.1 hlt (t : Int))
   have hcl : Hid (clAt s i = ⟨(i : Int),(t : Int),clsAt s i,celAt s i⟩) := Lib.hid (by unfold clAt;rw [ht])
   obtain ⟨q2,hq2⟩ : ∃ q2,clsAt s i = q2 := ⟨_,rfl⟩
   obtain ⟨q3,hq3⟩ : ∃ q3,celAt s i = q3 := ⟨_,rfl⟩
   rw [hq2,hq3] at hk2 hcl
   have hk2 := Lib.hid hk2
   have hcbt : Hid (CB s t) := Lib.hid (ht ▸ nxt_cb s i hcb0.out.1 hlt)
   have hx2 : Hid (clusL s = pre ++ (⟨(i : Int),(t : Int),q2,q3⟩ : S53) :: ctl s t) := Lib.hid (by
    have := hx.out;rw [ctl_go s i hlt,hcl.out,ht] at this;exact this)
   clear hx hcl hq2 hq3 ht hcb0
   have hTw := tabs_below hT hbl
   gi_wp2_with (refine ⟨trivial,?_⟩;gi_at_call 46;refine (callsIn_wide.2 (cluster_Next.calls k1 s i t wr hTw hk1.out)).mono ?_;rintro e w1 ⟨rfl,hb1⟩;have hbx1 : Boxed w1 Bs 9 (.string s) := (hb1.block Bs hbx.lt).trans hbx;have hcb1 := hbx1.cell;have hT1 := tabs_below hTw hb1)
   gi_wp2_with (refine ⟨trivial,?_⟩;gi_at_call 84;refine (callsIn_wide.2 (cluster_made.calls k2 s i t i t q2 q3 w1 hT1 hk2.out)).mono ?_;rintro e w2 ⟨rfl,hb2⟩;have hb12 : Below wr.heap.size wr w2 := hb1.trans (hb2.mono hb1.size);obtain ⟨fn,tmps,assign,body,hy,hR⟩ := hY pre (⟨(i : Int),(t : Int),q2,q3⟩ : S53) wr w2 hJs hb12 (by rw [hx2.out];simp) ⟨ctl s t,by rw [hx2.out];simp⟩)
   refine hR.mono ?_
   rintro e W3 (⟨rfl,hJ3,hk3⟩ | ⟨rfl,hJx3⟩)
   ·have hbx3 : Boxed W3 Bs 9 (.string s) := hk3.2 Bs _ (.inl rfl) ((hb12.block Bs hbx.lt).trans hbx) rfl
    have hbl3 : Below w₀.heap.size w₀ W3 := (hbl.trans (hb12.mono hbl.size)).trans hk3.1
    gi_wp2
    go_roundw
    case rel => exact ⟨t,pre ++ [(⟨(i : Int),(t : Int),q2,q3⟩ : S53)],rfl,ht2,hcbt,Lib.hid (by rw [hx2.out];simp),hJ3,hbx3,hbl3⟩
    case measure => simp [intOf];omega
   ·gi_wp2
    refine bodyPost_ret (results_none rfl _ _ _) rfl ?_
    exact ⟨⟨_,rfl⟩,.inr ⟨_,⟨ctl s t,by rw [hx2.out];simp⟩,hJx3⟩⟩
  ·have hge : ¬ ((i : Int) < (s.size : Int)) := by omega
   gi_wp2
   go_end0
   have hz : ctl s i = [] := ctl_end s i (by omega)
   exact ⟨⟨_,rfl⟩,.inl ⟨pre,Lib.hid (by rw [hx.out,hz,List.append_nil]),hJs⟩⟩
theorem cwalk_calls (s : ByteArray) (w : World) :
  Calls Tryd.prog 41 #[.string s] w fun e w' => e = .returned (.func (.func 83) #[] #[.pointer (some ⟨w.heap.size,0,none⟩)]) ∧ w' = w.alloc (.cells #[.string s] 9) := by
 go_enter Tryd.func41,Tryd.ntmps41
 go_wp2
 go_ret
 exact ⟨rfl,rfl⟩
def cellsC : List S53 → List Value
 | [] => []
 | c :: cs => .int .i64 c.f0 :: .int .i64 c.f1 :: .int .i64 c.f2 :: .int .i64 c.f3 :: cellsC cs
theorem cellsC_snoc (cs : List S53) (c : S53) : cellsC (cs ++ [c]) = cellsC cs ++ [.int .i64 c.f0,.int .i64 c.f1,.int .i64 c.f2,.int .i64 c.f3] := by
 induction cs with
 | nil => rfl
 | cons x xs ih => simp [cellsC,ih]
theorem reps_cellsC (w : World) (base : Nat) (ok : Nat → Prop) : ∀ cs : List S53,Reps (k53.M w base ok) 4 cs (cellsC cs)
 | [] => Reps.none _ _
 | c :: cs => Reps.c4 (k53_mkM w base ok c) (reps_cellsC w base ok cs)
theorem cells_four_new (w : World) (x y z v : Value) (t : TypeId) : ∀ j u,[x,y,z,v][j]? = some u → (w.alloc (.cells #[x,y,z,v] t)).cell? ((⟨w.heap.size,0,none⟩ : Addr).add j) = some u := by
 intro j u hj
 match j,hj with
 | 0,hj => simp at hj;subst hj;simp [Addr.add]
 | 1,hj => simp at hj;subst hj;simp [Addr.add]
 | 2,hj => simp at hj;subst hj;simp [Addr.add]
 | 3,hj => simp at hj;subst hj;simp [Addr.add]
 | (j + 4),hj => simp at hj
set_option maxRecDepth 100000 in
set_option maxHeartbeats 4000000 in
theorem clist_any (s : ByteArray) (w : World) (hs : s.size ≤ 1099511627776) (hT : Lib.Utf8Tabs 0 1 w) :
  Calls Tryd.prog 43 #[.string s] w fun e w' => ∃ v0_ : Value,e = .returned v0_ ∧ Kd.R k53 53 w' w.heap.size (fun _ => True) v0_ (clusL s) ∧ Below w.heap.size w w' := by
 have hlen : (clusL s).length ≤ s.size := clusL_length s
 obtain ⟨i0,hi,hz0,hz1,hz2⟩ := info_parts info53
 refine (callsIn_wide (n := 6)).1 ?_
 refine callsIn_of_wp_marks Tryd.func43 rfl trivial ?_ rfl
 simp only [Tryd.ntmps43,List.size_toArray,List.length_cons,List.length_nil,Nat.reduceAdd,Nat.reduceSub,Array.replicate_succ,Array.replicate_zero,List.push_toArray,List.append_toArray,List.nil_append,List.cons_append]
 gi_wp2_with (refine ⟨trivial,?_⟩;gi_at_call 41;refine (callsIn_wide.2 (cwalk_calls s _)).mono ?_;rintro e w' ⟨rfl,rfl⟩)
 have bO := (Boxed.new w 46 (.slice none 0 0)).alloc (.cells #[.string s] 9)
 have bS := Boxed.new (w.alloc (.cells #[.slice none 0 0] 46)) 9 (.string s)
 rw [World.size_alloc] at bS
 have hB0 : Below w.heap.size w ((w.alloc (.cells #[.slice none 0 0] 46)).alloc (.cells #[.string s] 9)) := ((Below.refl _ w).alloc (Nat.le_refl _) _).alloc (by simp) _
 have hsz : ((w.alloc (.cells #[.slice none 0 0] 46)).alloc (.cells #[.string s] 9)).heap.size = w.heap.size + 2 := by simp
 obtain ⟨W0,hW0⟩ : ∃ W0,(w.alloc (.cells #[.slice none 0 0] 46)).alloc (.cells #[.string s] 9) = W0 := ⟨_,rfl⟩
 rw [hW0] at bO bS hB0 hsz ⊢
 clear hW0
 refine range_outer (α := S53) rfl (by omega) (gf := 83) (lb := #[.pointer (some ⟨w.heap.size + 1,0,none⟩)]) rfl trivial (enters_of Tryd.func83 (by kernel_rfl) rfl)
  (cwalk1_seq 5 (by omega) w W0 s (w.heap.size + 1) hs hT hB0 bS) (Below.refl _ _) (fun _ => rfl) (by omega)
  (fun (B : Nat) (pre : List S53) (W : World) => (((∃ v,Boxed W w.heap.size 46 v ∧ W.ownsRow w.heap.size 53 4 v pre.length (cellsC pre) ∧ (∀ g,v.ownBlock = some g → g < B)) ∧ Boxed W (w.heap.size + 1) 9 (.string s)) ∧ Below w.heap.size w W) ∧ w.heap.size < B)
  (fun _ _ _ => False)
  (fun B => OwnFrom.and (OwnFrom.and (OwnFrom.and (Own.from (holdsRow_own w.heap.size w.heap.size 46 53 4 (fun (pre : List S53) => pre.length) (fun pre => cellsC pre) (fun _ v => ∀ g,v.ownBlock = some g → g < B)) _) (Own.from (boxed_own _ _ _) _)) (ownFrom_below (Nat.le_refl _) (by omega))) (ownFrom_pure _ (fun _ => w.heap.size < B)))
  (fun B B' pre W hBB h => ⟨⟨⟨by obtain ⟨v,h1,h2,h3⟩ := h.1.1.1;exact ⟨v,h1,h2,fun g hg => Nat.lt_of_lt_of_le (h3 g hg) hBB⟩,h.1.1.2⟩,h.1.2⟩,Nat.lt_of_lt_of_le h.2 hBB⟩)
  (fun _ _ _ _ _ hs _ _ => hs)
  ⟨⟨⟨⟨_,bO,World.ownsRow_nil _ _ _ _,by simp [Value.ownBlock]⟩,bS⟩,hB0⟩,by omega⟩
  (fun (x : S53) (a' : Act) (W : World) => ∃ Bx,Hid (W.heap[Bx]? = some (.cells #[.int .i64 x.f0,.int .i64 x.f1,.int .i64 x.f2,.int .i64 x.f3] 53 (0,0))) ∧ a' = { tmps := #[.string s,undef,.slice none 0 0,.pointer (some ⟨w.heap.size,0,none⟩),.pointer (some ⟨Bx,0,none⟩),.string s,.func (.func 83) #[] #[.pointer (some ⟨w.heap.size + 1,0,none⟩)],.agg #[.int .i64 x.f0,.int .i64 x.f1,.int .i64 x.f2,.int .i64 x.f3],undef,undef,undef,undef,undef],defers := [] })
  (fun x a' _ X Y row hs hg hr => by
   obtain ⟨Bx,h1,h2⟩ := hs
   refine ⟨Bx,?_,h2⟩
   refine (hg.block Bx (Array.getElem?_eq_some_iff.1 h1).1 (fun e => ?_)).trans h1
   obtain ⟨_,o,ho,hc⟩ := hr Bx e.symm
   rw [show X.heap[Bx]? = _ from h1] at ho;cases ho;cases hc)
  ?assign ?body ?done ?stop
 case assign =>
  rintro l B pre x W K hCW hBW hI hK
  have hsz1 := hI.1.2.size
  gi_wp2
  exact hK _ _ ((KeepsOthers.alloc _ _).from _) (KeepB.of_below hsz1 ((Below.refl _ W).alloc (Nat.le_refl _) _)) ⟨⟨⟨by obtain ⟨v,h1,h2,h3⟩ := hI.1.1.1;exact ⟨v,h1.alloc _,h2.alloc _,h3⟩,hI.1.1.2.alloc _⟩,hI.1.2.alloc hsz1 _⟩,hI.2⟩ ⟨W.heap.size,Lib.hid (World.alloc_heap_new W _),rfl⟩
 case body =>
  rintro l B pre x a' W hl hCW hr hBW ⟨⟨⟨⟨v,hv,hrow,hvB⟩,hbs⟩,hB⟩,hoB⟩ ⟨Bx,hBx,rfl⟩ hlt hpx
  have hc := hv.cell
  have hsz1 := hB.size
  have hcx0 : W.cell? ⟨Bx,0,none⟩ = some (.int .i64 x.f0) := by simp [World.cell?,show W.heap[Bx]? = _ from hBx]
  have hcx1 : W.cell? ⟨Bx,1,none⟩ = some (.int .i64 x.f1) := by simp [World.cell?,show W.heap[Bx]? = _ from hBx]
  have hcx2 : W.cell? ⟨Bx,2,none⟩ = some (.int .i64 x.f2) := by simp [World.cell?,show W.heap[Bx]? = _ from hBx]
  have hcx3 : W.cell? ⟨Bx,3,none⟩ = some (.int .i64 x.f3) := by simp [World.cell?,show W.heap[Bx]? = _ from hBx]
  have hu := Tryd.underlying53
  gi_wp2_with (gi_at_builtin;refine wpListIn_append_own _ rfl _ _ 46 rfl w.heap.size 53 i0 _ 4 32 Tryd.underlying46 hi hz0 hz1 hz2 rfl (by decide) _ _ _ rfl (hrow.alloc _) ⟨W.heap.size,0,none⟩ 1 1 [.int .i64 x.f0,.int .i64 x.f1,.int .i64 x.f2,.int .i64 x.f3] rfl rfl (cells_four_new _ _ _ _ _ _) (by simp [Value.oneCell']) (by unfold maxLen;omega) (by omega) (by simp;omega) ?_;intro v' w1 hown' hgrow _;obtain ⟨g',cap',rfl⟩ := ownsRow_succ hown';obtain ⟨hv1,hv2,hr2,hk2,hb2⟩ := hv.appended (by decide) hrow hsz1 (Nat.le_refl _) hown' hgrow;have hkb := appended_keepB (v' := .slice (some ⟨g',0,none⟩) (pre.length + 1) cap') (Pr := fun k => k = w.heap.size + 1) hgrow hoB (fun k hk => ⟨by omega,by rw [hk];exact hbs.not_row (by decide) hrow⟩) hvB;have hbs2 : Boxed (w1.setCell ⟨w.heap.size,0,none⟩ (.slice (some ⟨g',0,none⟩) (pre.length + 1) cap')) (w.heap.size + 1) 9 (.string s) := hkb _ _ (.inl rfl) hbs rfl;have hc1 := hv1.cell;have hf1 := hv1.frozen)
  have hsz2 : w.heap.size < (w1.setCell ⟨w.heap.size,0,none⟩ (.slice (some ⟨g',0,none⟩) (pre.length + 1) cap')).heap.size := hv2.lt
  exact ⟨hk2.from _,⟨hb2,hkb⟩,⟨⟨⟨_,hv2,by rw [cellsC_snoc,List.length_append];exact hr2,fun g hg => own_lt hr2 g hg⟩,hbs2⟩,hB.trans hb2⟩,hsz2⟩
 case done =>
  rintro D ys W hD hys ⟨⟨⟨⟨v,hv,hrow,_⟩,_⟩,hB⟩,_⟩ hK
  have hc := hv.cell
  gi_wp2
  refine ⟨by simp,.inl ⟨_,_,rfl,run_takeDeferred hK,?_⟩⟩
  refine ⟨_,results_tmp rfl _ _ _,v,rfl,⟨fun _ _ => trivial,cellsC (clusL s),?_,reps_cellsC _ _ _ _⟩,hB.trans (belowK_b (w := w) (Nat.le_refl _) W D _ _ (by omega) hK rfl rfl)⟩
  have e : ys = clusL s := hys
  have h2 := ownsRow_putObj hrow (.deferred none) hK rfl
  rw [e] at h2
  exact h2
 case stop =>
  rintro D c pre W _ _ h _
  exact h.elim
def cluster_List.f (a0 : ByteArray) : Option (List (S53)) := if a0.size ≤ 1099511627776 then some (clusL a0) else none
theorem cluster_List.calls (a0 : ByteArray) (r : List (S53)) (w : World) (hT : Lib.Utf8Tabs 0 1 w) (h : cluster_List.f a0 = some r) :
  Calls Tryd.prog 43 #[.string a0] w fun e w' => ∃ v0_ : Value,e = .returned (v0_) ∧ Kd.R k53 53 w' w.heap.size (fun _ => True) v0_ r ∧ Below w.heap.size w w' := by
 unfold cluster_List.f at h
 split at h
 ·obtain rfl := Option.some.inj h
  rename_i hs
  exact clist_any a0 w hs hT
 ·cases h
end Go.Proofs.YtfhnfhgpaoddbaaDoor.U
end
section
namespace Go.Proofs.YtfhnfhgpaoddbaaDoor.U
open Go.RowKit Go.Shelf Go.Proofs.YtfhnfhgpaoddbaaDoor.Mu Go.Proofs.YtfhnfhgpaoddbaaDoor.Pu Go.Proofs.YtfhnfhgpaoddbaaDoor.Rg Go.Proofs.YtfhnfhgpaoddbaaDoorW.PrintWords Go.Proofs.YtfhnfhgpaoddbaaDoorW.PrintLast Go.Proofs.YtfhnfhgpaoddbaaDoorW.PrintMore
set_option linter.unusedVariables false
set_option linter.unusedSimpArgs false
theorem bld_size : (Tryd.prog.info? 85).map (·.size) = some 2 := by kernel_rfl
theorem bld_lies : liesAt Tryd.prog Tryd.prog.depth 85 (2 / Tryd.prog.cellsOf 85) 0 85 1 = true := by kernel_rfl
theorem byte_info : (Tryd.prog.info? 5).map (fun i => (i.zero,i.size,i.bytes)) = some (some (.int .u8 0),1,1) := by kernel_rfl
set_option maxHeartbeats 1000000 in
set_option maxRecDepth 100000 in
theorem copyCheck_used (b : Nat) (w : World) (h0 : w.cell? ⟨b,0,none⟩ = some (.pointer (some ⟨b,0,none⟩))) :
  Calls Tryd.prog 99 #[.pointer (some ⟨b,0,none⟩)] w fun e w' => e = .returned (.tuple #[]) ∧ w' = w := by
 obtain ⟨j,hj,_⟩ := Option.map_eq_some_iff.1 bld_size
 have hu := Tryd.underlying85
 go_enter Tryd.func99,Tryd.ntmps99
 go_wp2
 rw [Lib.run_neq_ptr_same w _ Tryd.underlying83 hj]
 go_wp2
 go_end0
 exact ⟨rfl,rfl⟩
set_option maxHeartbeats 1000000 in
set_option maxRecDepth 100000 in
theorem copyCheck_fresh (b : Nat) (w : World) (h0 : w.cell? ⟨b,0,none⟩ = some (.pointer none)) (hsh : w.shape? b = some (85,2)) (hfz : w.frozen? ⟨b,0,none⟩ = false) :
  Calls Tryd.prog 99 #[.pointer (some ⟨b,0,none⟩)] w fun e w' => e = .returned (.tuple #[]) ∧ w' = w.setCell ⟨b,0,none⟩ (.pointer (some ⟨b,0,none⟩)) := by
 obtain ⟨j,hj,hjs⟩ := Option.map_eq_some_iff.1 bld_size
 have hu := Tryd.underlying85
 go_enter Tryd.func99,Tryd.ntmps99
 go_wp2
 rw [Lib.run_to_unsafe w ⟨b,0,none⟩ Tryd.underlying83 Tryd.underlying110 hj (by rw [hjs];decide) hsh (Nat.zero_lt_succ 1)]
 simp only [Result.andThen]
 rw [Oper.upon_value]
 go_wp2
 rw [run_callFunc_extern Tryd.func106 (by kernel_rfl) (by kernel_rfl) (by kernel_rfl) (e := Extern.AbiNoEscape.same) (by kernel_rfl)]
 rw [Lib.run_noEscape]
 simp only [Result.andThen]
 rw [Oper.upon_value]
 go_wp2
 rw [Lib.run_from_unsafe w ⟨b,0,none⟩ Tryd.underlying110 Tryd.underlying83 hj hsh bld_lies]
 simp only [Result.andThen]
 rw [Oper.upon_value]
 go_wp2
 go_end0
 exact ⟨rfl,rfl⟩
/-- The builder in block b holds bs;v is its buffer. -/
def BldAt (n₀ b : Nat) (bs : List Value) (v : Value) (W : World) : Prop :=
 ∃ p,(p = .pointer none ∨ p = .pointer (some ⟨b,0,none⟩)) ∧ W.heap[b]? = some (.cells #[p,v] 85 (0,0)) ∧ W.ownsRowF n₀ 5 1 v bs.length bs ∧ v.ownBlock ≠ some b
/-- What a write turns. -/
structure Wrote (n₀ b : Nat) (v : Value) (W W' : World) : Prop where
 below : Below n₀ W W'
 others : KeepsOthers W W'
 keep : ∀ (k : Nat),k < W.heap.size → k ≠ b → some k ≠ v.ownBlock → W'.heap[k]? = W.heap[k]?
theorem ownsRowF_cells {w : World} {B : Nat} {e : TypeId} {v : Value} {n : Nat} {xs : List Value} (h : w.ownsRowF B e 1 v n xs) : ∀ g,v.ownBlock = some g → ∃ o,w.heap[g]? = some o ∧ o.isCells = true := by
 intro g hg
 obtain ⟨c,fz,hc⟩ := Lib.ownsRowF_kind h g hg
 exact ⟨_,hc,rfl⟩
theorem BldAt.kept {n₀ b : Nat} {bs : List Value} {v : Value} {X Y : World} {row : Option Nat} (h : BldAt n₀ b bs v X) (hg : X.grownBy Y row) (hb : row ≠ some b) (hv : v.ownBlock = none ∨ v.ownBlock ≠ row) : BldAt n₀ b bs v Y := by
 obtain ⟨p,hp,hk,hr,hne⟩ := h
 exact ⟨p,hp,(hg.block b (Array.getElem?_eq_some_iff.1 hk).1 (fun e => hb e.symm)).trans hk,hr.kept hg hv,hne⟩
theorem BldAt.grow {n₀ b : Nat} {bs : List Value} {v : Value} {X Y : World} {row : Option Nat} (h : BldAt n₀ b bs v X) (hg : X.grownBy Y row) (hr : ∀ r,row = some r → ∃ o : Obj,X.heap[r]? = some o ∧ o.isCells = false) : BldAt n₀ b bs v Y := by
 refine h.kept hg (fun e => ?_) ?_
 ·obtain ⟨p,_,hk,_⟩ := h
  obtain ⟨o,ho,hc⟩ := hr b e
  rw [hk] at ho;cases ho;cases hc
 ·cases hv : v.ownBlock with
  | none => exact .inl rfl
  | some g =>
   refine .inr (fun e => ?_)
   obtain ⟨p,_,_,hrow,_⟩ := h
   obtain ⟨o,ho,hc⟩ := ownsRowF_cells hrow g hv
   obtain ⟨o',ho',hc'⟩ := hr g e.symm
   rw [ho] at ho';cases ho';rw [hc] at hc';cases hc'
theorem BldAt.is {n₀ b : Nat} {bs : List Value} {v : Value} {W : World} (h : BldAt n₀ b bs v W) (hb : n₀ ≤ b) : Lib.IsBuilderF 85 5 n₀ b bs W := by
 obtain ⟨p,hp | hp,hk,hr,hne⟩ := h
 ·exact .inl ⟨hb,v,hp ▸ hk,hr,hne⟩
 ·exact .inr ⟨hb,v,hp ▸ hk,hr,hne⟩
theorem BldAt.lt {n₀ b : Nat} {bs : List Value} {v : Value} {W : World} (h : BldAt n₀ b bs v W) : b < W.heap.size := by
 obtain ⟨p,_,hk,_⟩ := h;exact (Array.getElem?_eq_some_iff.1 hk).1
theorem Wrote.setCell {n₀ b j : Nat} {v : Value} {W W' : World} (h : Wrote n₀ b v W W') (hb : n₀ ≤ b) (u : Value) : Wrote n₀ b v W (W'.setCell ⟨b,j,none⟩ u) :=
 ⟨h.below.setCell (p := ⟨b,j,none⟩) hb u,h.others.trans (KeepsOthers.setCell W' _ u),fun k hk hb hv => (Below.heap_setCell W' ⟨b,j,none⟩ u k hb).trans (h.keep k hk hb hv)⟩
theorem Wrote.refl (n₀ b : Nat) (v : Value) (W : World) : Wrote n₀ b v W W := ⟨Below.refl _ _,KeepsOthers.refl _,fun _ _ _ _ => rfl⟩
set_option maxHeartbeats 2000000 in
set_option maxRecDepth 100000 in
theorem writeString_calls (n₀ b : Nat) (bs : List Value) (v : Value) (s : ByteArray) (w : World) (h : BldAt n₀ b bs v w) (hn : n₀ ≤ w.heap.size) (hb : n₀ ≤ b) (hlen : bs.length + s.size ≤ 140737488355328) :
  Calls Tryd.prog 87 #[.pointer (some ⟨b,0,none⟩),.string s] w fun e w' => e = .returned (.tuple #[.int .i64 s.size,.nilIface]) ∧ ∃ v',BldAt n₀ b (bs ++ Lib.strCells s) v' w' ∧ Wrote n₀ b v w w' := by
 obtain ⟨i0,hi,hz0,hz1,hz2⟩ := info_parts byte_info
 have hu := Tryd.underlying85
 obtain ⟨p,hp,hk,hr,hne⟩ := h
 have hcc : Calls Tryd.prog 99 #[.pointer (some ⟨b,0,none⟩)] w fun e w' => e = .returned (.tuple #[]) ∧ (w'.heap[b]? = some (.cells #[.pointer (some ⟨b,0,none⟩),v] 85 (0,0)) ∧ w'.ownsRowF n₀ 5 1 v bs.length bs ∧ Wrote n₀ b v w w') := by
  rcases hp with rfl | rfl
  ·have h0 : w.cell? ⟨b,0,none⟩ = some (.pointer none) := (blk_cell hk 0).trans rfl
   refine (copyCheck_fresh b w h0 (by simp [World.shape?,hk]) (blk_frozen hk 0)).mono ?_
   rintro e w' ⟨rfl,rfl⟩
   exact ⟨rfl,blk_put hk 0 _ rfl,hr.kept (grownBy_setCell' w b _) (.inr hne),(Wrote.refl _ _ _ _).setCell hb _⟩
  ·have h0 : w.cell? ⟨b,0,none⟩ = some (.pointer (some ⟨b,0,none⟩)) := (blk_cell hk 0).trans rfl
   refine (copyCheck_used b w h0).mono ?_
   rintro e w' ⟨rfl,rfl⟩
   exact ⟨rfl,hk,hr,Wrote.refl _ _ _ _⟩
 clear hk hr hp
 go_enter Tryd.func87,Tryd.ntmps87
 go_wp2_with (go_at_call 99;refine hcc.mono ?_)
 rintro e w1 ⟨rfl,hbk,hown,hW⟩
 have c0 : w1.cell? ⟨b,0,none⟩ = some (.pointer (some ⟨b,0,none⟩)) := (blk_cell hbk 0).trans rfl
 have c1 : w1.cell? ⟨b,1,none⟩ = some v := (blk_cell hbk 1).trans rfl
 go_wp2_with (at_builtin;go_must (refine Lib.wpList_append_own_stringF _ rfl _ _ 73 9 rfl n₀ 5 i0 Tryd.underlying73 Tryd.underlying9 hi hz0 hz1 hz2 _ _ _ rfl hown s rfl ?c3 ?c4 ?c5 ?_))
 case c3 => unfold maxLen;omega
 case c4 => omega
 case c5 => have := hW.below.size;omega
 intro v' w2 hown' hgrow _
 have hlt : b < w1.heap.size := (Array.getElem?_eq_some_iff.1 hbk).1
 have hb2 : w2.heap[b]? = some (.cells #[.pointer (some ⟨b,0,none⟩),v] 85 (0,0)) := by
  rw [hgrow.block b hlt (fun e => hne e.symm)]
  exact hbk
 have d0 : w2.cell? ⟨b,0,none⟩ = some (.pointer (some ⟨b,0,none⟩)) := (blk_cell hb2 0).trans rfl
 have d1 : w2.cell? ⟨b,1,none⟩ = some v := (blk_cell hb2 1).trans rfl
 have f1 : w2.frozen? ⟨b,1,none⟩ = false := blk_frozen hb2 1
 have hne' : v'.ownBlock ≠ some b := Lib.ownBlock_neF hown' hb2 (by decide)
 have hW2 : Wrote n₀ b v w w2 := by
  refine ⟨hW.below.trans (((Below.refl n₀ w1).grown hgrow (by have := hW.below.size;omega) (fun k hk => (hown.lt k hk).1))),hW.others.trans (KeepsOthers.of_grownBy hgrow fun j o ej hj => ?_),fun k hk h1 h2 => ?_⟩
  ·obtain ⟨o',ho',hc'⟩ := ownsRowF_cells hown j ej
   rw [hj] at ho';cases ho';exact hc'
  ·exact (hgrow.block k (Nat.lt_of_lt_of_le hk hW.below.size) h2).trans (hW.keep k hk h1 h2)
 obtain ⟨ao,n',cap,rfl⟩ : ∃ ao n' cap,v' = .slice ao n' cap := by
  rcases hown'.2 with ⟨hv,_⟩ | ⟨g,cap,cur,fz,hv,_⟩
  ·exact ⟨_,_,_,hv⟩
  ·exact ⟨_,_,_,hv⟩
 go_wp2
 go_ret2
 refine ⟨rfl,_,⟨_,.inr rfl,blk_put hb2 1 _ rfl,?_,hne'⟩,hW2.setCell hb _⟩
 have hg1 : w2.grownBy (w2.setCell ⟨b,1,none⟩ (.slice ao n' cap)) (some b) := ⟨rfl,rfl,rfl,by simp [World.setCell],fun k _ hk => Below.heap_setCell _ _ _ _ (fun e => hk (by simp [e]))⟩
 have := hown'.kept hg1 (.inr hne')
 rw [List.length_append,Lib.strCells_length]
 exact this
end Go.Proofs.YtfhnfhgpaoddbaaDoor.U
end
section
namespace Go.Proofs.YtfhnfhgpaoddbaaDoor.Pu
open Go Go.RowKit Go.Proofs.YtfhnfhgpaoddbaaDoor.Mu Go.Proofs.YtfhnfhgpaoddbaaDoor.U Go.Proofs.YtfhnfhgpaoddbaaDoorW.PrintWords Go.Proofs.YtfhnfhgpaoddbaaDoorW.PrintLast Go.Proofs.YtfhnfhgpaoddbaaDoorW.PrintMore
theorem bt_byt (t : ByteArray) (i : Nat) (h : i < t.size) : bt t i = (byt t i : Int) := by
 unfold bt byt
 rw [dif_pos (by simpa using h)]
 simp only [Int.toNat_natCast]
 rw [get!_eq,List.getD_eq_getElem?_getD,List.getElem?_eq_getElem (by rw [← Lib.size_eq];exact h)]
 rfl
section
variable (t : ByteArray) (ht : t.size ≤ 1099511627776)
include ht
omit ht
include ht
end
end Go.Proofs.YtfhnfhgpaoddbaaDoor.Pu
end
section
namespace Go.Proofs.YtfhnfhgpaoddbaaDoor.U
open Go.RowKit Go.Shelf Go.Proofs.YtfhnfhgpaoddbaaDoor.Mu Go.Proofs.YtfhnfhgpaoddbaaDoor.Pu Go.Proofs.YtfhnfhgpaoddbaaDoor.Rg Go.Proofs.YtfhnfhgpaoddbaaDoorW.PrintWords Go.Proofs.YtfhnfhgpaoddbaaDoorW.PrintLast Go.Proofs.YtfhnfhgpaoddbaaDoorW.PrintMore
attribute [local go_sem] Oper.semAt_some
set_option linter.unusedVariables false
set_option linter.unusedSimpArgs false
/-- What is drawn of a cluster. -/
def drawB (s : ByteArray) (c : S53) : ByteArray :=
 if c.f2 = 1 then ⟨#[]⟩ else if c.f2 = 2 then (if byt s c.f0.toNat = 127 then ⟨#[94,63]⟩ else if byt s c.f0.toNat < 128 then (⟨#[94]⟩ : ByteArray) ++ Utf8.encode ((byt s c.f0.toNat : Int) + 64) else ⟨#[239,191,189]⟩)
 else if c.f2 = 3 then (⟨#[32]⟩ : ByteArray) ++ s.extract c.f0.toNat c.f1.toNat else if c.f2 = 5 then (⟨#[239,191,189]⟩ : ByteArray) ++ (s.extract c.f0.toNat c.f1.toNat).extract 1 (s.extract c.f0.toNat c.f1.toNat).size
 else s.extract c.f0.toNat c.f1.toNat
def drawU (s : ByteArray) (cs : List S53) : List UInt8 := cs.flatMap fun c => (drawB s c).data.toList
def drawnS (s : ByteArray) : ByteArray := ⟨(drawU s (clusL s)).toArray⟩
theorem drawU_snoc (s : ByteArray) (cs : List S53) (c : S53) : drawU s (cs ++ [c]) = drawU s cs ++ (drawB s c).data.toList := by simp [drawU]
theorem clus_mem (s : ByteArray) : ∀ k x,CB s x → ∀ c ∈ cluL s k x,∃ i,CB s i ∧ i < s.size ∧ c = clAt s i
 | 0,_,_,c,h => by simp [cluL] at h
 | k + 1,x,hx,c,h => by
  rw [cluL] at h
  split at h
  ·rename_i hlt
   rcases List.mem_cons.1 h with rfl | h
   ·exact ⟨x,hx,hlt,rfl⟩
   ·exact clus_mem s k _ (nxt_cb s x hx.1 hlt) c h
  ·simp at h
theorem encode_low (k : Nat) (h : k < 128) : (Utf8.encode ((k : Int) + 64)).size ≤ 2 := by
 have hv : Utf8.valid ((k : Int) + 64) = true := by unfold Utf8.valid;simp;omega
 unfold Utf8.encode
 simp only [hv,if_true]
 have : ((k : Int) + 64).toNat = k + 64 := by omega
 rw [this]
 split
 ·exact Nat.le_succ 1
 ·rw [if_pos (by omega)];exact Nat.le_refl 2
theorem drawB_size (s : ByteArray) (i : Nat) (hc : CB s i) (hi : i < s.size) : (drawB s (clAt s i)).size + 3 * i ≤ 3 * nxt s i := by
 have h1 := nxt_pos s i hi
 have h2 := nxt_le s i hc.1 hi
 have h3 : (s.extract i (nxt s i)).size = nxt s i - i := size_extract _ _ _ h2
 have e0 : (clAt s i).f0.toNat = i := by unfold clAt;exact Int.toNat_natCast i
 have e1 : (clAt s i).f1.toNat = nxt s i := by unfold clAt;exact Int.toNat_natCast _
 have hl := encode_low (byt s i)
 unfold drawB
 rw [e0,e1]
 split
 ·show 0 + _ ≤ _;omega
 split
 ·split
  ·show 2 + _ ≤ _;omega
  split
  ·rw [ByteArray.size_append];have := hl (by assumption);show 1 + _ + _ ≤ _;omega
  ·show 3 + _ ≤ _;omega
 split
 ·rw [ByteArray.size_append,h3];show 1 + _ + _ ≤ _;omega
 split
 ·rw [ByteArray.size_append,size_extract _ _ _ (Nat.le_refl _),h3];show 3 + _ + _ ≤ _;omega
 ·omega
theorem draw_size (s : ByteArray) : ∀ (pre : List S53) (i : Nat),CB s i → i ≤ s.size → pre <+: ctl s i → (drawU s pre).length + 3 * i ≤ 3 * s.size
 | [],i,_,hi,_ => by simp [drawU];omega
 | c :: pre,i,hc,hi,h => by
  by_cases hlt : i < s.size
  ·rw [ctl_go s i hlt,List.cons_prefix_cons] at h
   obtain ⟨rfl,h⟩ := h
   have h1 := draw_size s pre (nxt s i) (nxt_cb s i hc.1 hlt) (nxt_le s i hc.1 hlt) h
   have h2 := drawB_size s i hc hlt
   have e : (drawU s (clAt s i :: pre)).length = (drawB s (clAt s i)).size + (drawU s pre).length := by
    simp only [drawU,List.flatMap_cons,List.length_append];rfl
   omega
  ·rw [ctl_end s i (by omega)] at h
   have := h.length_le
   simp at this
theorem cells_app (l : List UInt8) (t : ByteArray) : Lib.byteCells l ++ Lib.strCells t = Lib.byteCells (l ++ t.data.toList) := by
 rw [Lib.strCells_eq];unfold Lib.byteCells;rw [List.map_append]
theorem ctl_low (s : ByteArray) (i : Nat) (h : clsAt s i = 2) : byt s i < 32 ∨ 127 ≤ byt s i := by
 unfold clsAt at h
 split at h
 ·omega
 ·have hr := uC_cases s i
  unfold cls at h
  split at h
  ·omega
  split at h
  ·omega
  split at h
  ·have := byt_lt s i
   omega
  split at h
  ·omega
  split at h <;> omega
set_option maxRecDepth 100000 in
set_option maxHeartbeats 2000000 in
theorem cdrawn_any (s : ByteArray) (w : World) (hs : s.size ≤ 1099511627776) (hT : Lib.Utf8Tabs 0 1 w) :
  Calls Tryd.prog 56 #[.string s] w fun e w' => e = .returned (.string (drawnS s)) ∧ Below w.heap.size w w' := by
 have hlen : (clusL s).length ≤ s.size := clusL_length s
 have hu := Tryd.underlying53
 have hub := Tryd.underlying85
 refine (callsIn_wide (n := 6)).1 ?_
 refine callsIn_of_wp_marks Tryd.func56 rfl trivial ?_ rfl
 simp only [Tryd.ntmps56,List.size_toArray,List.length_cons,List.length_nil,Nat.reduceAdd,Nat.reduceSub,Array.replicate_succ,Array.replicate_zero,List.push_toArray,List.append_toArray,List.nil_append,List.cons_append]
 gi_wp2_with (refine ⟨trivial,?_⟩;gi_at_call 41;refine (callsIn_wide.2 (cwalk_calls s _)).mono ?_;rintro e w' ⟨rfl,rfl⟩)
 simp only [Nat.add_assoc,Nat.reduceAdd]
 have bS0 := ((Boxed.new w 9 (.string s)).alloc (.cells #[.pointer none,.slice none 0 0] 85)).alloc (.cells #[.string s] 9)
 have bS := Boxed.new ((w.alloc (.cells #[.string s] 9)).alloc (.cells #[.pointer none,.slice none 0 0] 85)) 9 (.string s)
 rw [World.size_alloc,World.size_alloc] at bS
 have bB : (((w.alloc (.cells #[.string s] 9)).alloc (.cells #[.pointer none,.slice none 0 0] 85)).alloc (.cells #[.string s] 9)).heap[w.heap.size + 1]? = some (.cells #[.pointer none,.slice none 0 0] 85 (0,0)) := by
  have := World.alloc_heap_new (w.alloc (.cells #[.string s] 9)) (.cells #[.pointer none,.slice none 0 0] 85)
  rw [World.size_alloc] at this
  exact (Below.heap_alloc _ _ _ (by simp)).trans this
 have hB0 : Below w.heap.size w (((w.alloc (.cells #[.string s] 9)).alloc (.cells #[.pointer none,.slice none 0 0] 85)).alloc (.cells #[.string s] 9)) := (((Below.refl _ w).alloc (Nat.le_refl _) _).alloc (by simp) _).alloc (by simp;omega) _
 have hsz : (((w.alloc (.cells #[.string s] 9)).alloc (.cells #[.pointer none,.slice none 0 0] 85)).alloc (.cells #[.string s] 9)).heap.size = w.heap.size + 3 := by simp
 obtain ⟨W0,hW0⟩ : ∃ W0,((w.alloc (.cells #[.string s] 9)).alloc (.cells #[.pointer none,.slice none 0 0] 85)).alloc (.cells #[.string s] 9) = W0 := ⟨_,rfl⟩
 rw [hW0] at bS0 bS bB hB0 hsz ⊢
 clear hW0
 refine range_outer (α := S53) rfl (by omega) (gf := 83) (lb := #[.pointer (some ⟨w.heap.size + 2,0,none⟩)]) rfl trivial (enters_of Tryd.func83 (by kernel_rfl) rfl)
  (cwalk1_seq 5 (by omega) w W0 s (w.heap.size + 2) hs hT hB0 bS) (Below.refl _ _) (fun _ => rfl) (by omega)
  (fun (B : Nat) (pre : List S53) (W : World) => (((∃ v,BldAt w.heap.size (w.heap.size + 1) (Lib.byteCells (drawU s pre)) v W ∧ (∀ g,v.ownBlock = some g → g < B)) ∧ Boxed W w.heap.size 9 (.string s)) ∧ Boxed W (w.heap.size + 2) 9 (.string s)) ∧ Below w.heap.size w W ∧ (w.heap.size + 2 < B ∧ pre <+: clusL s))
  (fun _ _ _ => False)
  (fun B pre X Y row h hg hr => ⟨⟨⟨by obtain ⟨v,h1,h2⟩ := h.1.1.1;exact ⟨v,h1.grow hg (fun r e => (hr r e).2),h2⟩,boxed_grow h.1.1.2 hg (fun r e => (hr r e).2)⟩,boxed_grow h.1.2 hg (fun r e => (hr r e).2)⟩,h.2.1.grown hg h.2.1.size (fun k e => by have := (hr k e).1;omega),h.2.2⟩)
  (fun B B' pre W hBB h => ⟨⟨⟨by obtain ⟨v,h1,h2⟩ := h.1.1.1;exact ⟨v,h1,fun g hg => Nat.lt_of_lt_of_le (h2 g hg) hBB⟩,h.1.1.2⟩,h.1.2⟩,h.2.1,by omega,h.2.2.2⟩)
  (fun _ _ _ _ _ hs _ _ => hs)
  ⟨⟨⟨⟨_,⟨_,.inl rfl,bB,World.ownsRowF_of (World.ownsRow_nil _ _ _ _),by simp [Value.ownBlock]⟩,by simp [Value.ownBlock]⟩,bS0⟩,bS⟩,hB0,by omega,List.nil_prefix⟩
  (fun (x : S53) (a' : Act) (W : World) => ∃ Bx,Hid (W.heap[Bx]? = some (.cells #[.int .i64 x.f0,.int .i64 x.f1,.int .i64 x.f2,.int .i64 x.f3] 53 (0,0))) ∧ a' = { tmps := #[.string s,.pointer (some ⟨w.heap.size,0,none⟩),.string ⟨#[]⟩,.pointer (some ⟨w.heap.size + 1,0,none⟩),.pointer (some ⟨Bx,0,none⟩),undef,undef,.string s,.func (.func 83) #[] #[.pointer (some ⟨w.heap.size + 2,0,none⟩)],.agg #[.int .i64 x.f0,.int .i64 x.f1,.int .i64 x.f2,.int .i64 x.f3],undef,undef,undef,undef,undef,undef,undef,undef,undef,undef,undef,undef,undef,undef,undef,undef,undef,undef,undef,undef,undef,undef,undef,undef,undef,undef,undef,undef,undef,undef,undef,undef,undef,undef,undef,undef,undef,undef,undef,undef,undef,undef],defers := [] })
  (fun x a' _ X Y row hs hg hr => by
   obtain ⟨Bx,h1,h2⟩ := hs
   refine ⟨Bx,?_,h2⟩
   refine (hg.block Bx (Array.getElem?_eq_some_iff.1 h1).1 (fun e => ?_)).trans h1
   obtain ⟨_,o,ho,hc⟩ := hr Bx e.symm
   rw [show X.heap[Bx]? = _ from h1] at ho;cases ho;cases hc)
  ?assign ?body ?done ?stop
 case assign =>
  rintro l B pre x W K hCW hBW hI hK
  have hsz1 := hI.2.1.size
  gi_wp2
  exact hK _ _ ((KeepsOthers.alloc _ _).from _) (KeepB.of_below hsz1 ((Below.refl _ W).alloc (Nat.le_refl _) _)) ⟨⟨⟨by obtain ⟨v,h1,h2⟩ := hI.1.1.1;exact ⟨v,h1.grow (World.grownBy_alloc W _ none) (fun r e => by cases e),h2⟩,hI.1.1.2.alloc _⟩,hI.1.2.alloc _⟩,hI.2.1.alloc hsz1 _,hI.2.2⟩ ⟨W.heap.size,Lib.hid (World.alloc_heap_new W _),rfl⟩
 case body =>
  rintro l B pre x a' W hl hCW hr hBW ⟨⟨⟨⟨v,hv,hvB⟩,hb0⟩,hb2⟩,hB,hoB,hpp⟩ ⟨Bx,hBx,rfl⟩ hlt hpx
  have hsz1 := hB.size
  have hrun : (drawU s (pre ++ [x])).length ≤ 3 * s.size := by have := draw_size s (pre ++ [x]) 0 (cb_zero s) (Nat.zero_le _) hpx;omega
  rw [drawU_snoc,List.length_append] at hrun
  have hfin : ∀ (C : Nat) (t : ByteArray) (v' : Value) (W' : World),drawB s x = t → BldAt w.heap.size (w.heap.size + 1) (Lib.byteCells (drawU s pre) ++ Lib.strCells t) v' W' → Wrote w.heap.size (w.heap.size + 1) v W W' →
    KeepsFrom C W W' ∧ KeepB w.heap.size (fun k => k = w.heap.size + 2) B W W' ∧ (((∃ v,BldAt w.heap.size (w.heap.size + 1) (Lib.byteCells (drawU s (pre ++ [x]))) v W' ∧ (∀ g,v.ownBlock = some g → g < W'.heap.size)) ∧ Boxed W' w.heap.size 9 (.string s)) ∧ Boxed W' (w.heap.size + 2) 9 (.string s)) ∧ Below w.heap.size w W' ∧ (w.heap.size + 2 < W'.heap.size ∧ (pre ++ [x]) <+: clusL s) := by
   rintro C t v' W' rfl hb' hw
   obtain ⟨_,_,_,hrow,_⟩ := hv
   have hkeep : ∀ (k : Nat) (o : Obj),(k = w.heap.size + 2 ∨ k = w.heap.size ∨ B ≤ k) → W.heap[k]? = some o → (∀ g,v.ownBlock = some g → k ≠ g) → W'.heap[k]? = some o := fun k o hk ho hne =>
    (hw.keep k (Array.getElem?_eq_some_iff.1 ho).1 (by omega) (fun e => hne k e.symm rfl)).trans ho
   have hnot : ∀ k,Boxed W k 9 (.string s) → ∀ g,v.ownBlock = some g → k ≠ g := by
    rintro k hk g hg rfl
    obtain ⟨c,fz,hc⟩ := Lib.ownsRowF_kind hrow k hg
    rw [show W.heap[k]? = _ from hk] at hc
    injection hc with hc;injection hc with _ h2 _
    exact absurd h2 (by decide)
   refine ⟨hw.others.from _,⟨hw.below,fun k o hk ho _ => ?_⟩,⟨⟨⟨v',?_,?_⟩,?_⟩,?_⟩,hB.trans hw.below,?_,hpx⟩
   ·rcases hk with hk | hk
    ·have hk : k = w.heap.size + 2 := hk
     exact hkeep k o (.inl hk) ho (by rw [hk];exact hnot _ hb2)
    ·exact hkeep k o (.inr (.inr hk)) ho (fun g hg => by have := hvB g hg;omega)
   ·rw [drawU_snoc,← cells_app];exact hb'
   ·intro g hg;obtain ⟨_,_,_,hrow',_⟩ := hb';exact (hrow'.lt g hg).2
   ·exact hkeep _ _ (.inr (.inl rfl)) hb0 (hnot _ hb0)
   ·exact hkeep _ _ (.inl rfl) hb2 (hnot _ hb2)
   ·have := hw.below.size;have := hw.others.size;omega
  have hwr : ∀ t : ByteArray,drawB s x = t → Calls Tryd.prog 87 #[.pointer (some ⟨w.heap.size + 1,0,none⟩),.string t] W fun e w' => e = .returned (.tuple #[.int .i64 t.size,.nilIface]) ∧ ∃ v',BldAt w.heap.size (w.heap.size + 1) (Lib.byteCells (drawU s pre) ++ Lib.strCells t) v' w' ∧ Wrote w.heap.size (w.heap.size + 1) v W w' := by
   rintro t rfl
   refine writeString_calls w.heap.size (w.heap.size + 1) _ v _ W hv hsz1 (by omega) ?_
   rw [Lib.byteCells_length]
   have e : (drawB s x).data.toList.length = (drawB s x).size := rfl
   omega
  obtain ⟨i,hci,hilt,hxi⟩ := clus_mem s s.size 0 (cb_zero s) x (hpx.subset (by simp))
  have hcl : x.f2 = 2 → byt s i < 32 ∨ 127 ≤ byt s i := by rw [hxi];exact ctl_low s i
  obtain ⟨t,ht⟩ : ∃ t,nxt s i = t := ⟨_,rfl⟩
  have ht1 : i < t := ht ▸ nxt_pos s i hilt
  have ht2 : t ≤ s.size := ht ▸ nxt_le s i hci.1 hilt
  obtain ⟨x0,x1,x2,x3⟩ := x
  injection hxi with e0 e1 e2 e3
  subst e0
  rw [ht] at e1
  subst e1
  clear e2 e3 ht
  have hd : drawB s ⟨(i : Int),(t : Int),x2,x3⟩ = (if x2 = 1 then ⟨#[]⟩ else if x2 = 2 then (if byt s i = 127 then ⟨#[94,63]⟩ else if byt s i < 128 then (⟨#[94]⟩ : ByteArray) ++ Utf8.encode ((byt s i : Int) + 64) else ⟨#[239,191,189]⟩)
   else if x2 = 3 then (⟨#[32]⟩ : ByteArray) ++ s.extract i t else if x2 = 5 then (⟨#[239,191,189]⟩ : ByteArray) ++ (s.extract i t).extract 1 (s.extract i t).size else s.extract i t) := by unfold drawB;rw [Int.toNat_natCast,Int.toNat_natCast]
  have c0 := hb0.cell
  have hcx0 : W.cell? ⟨Bx,0,none⟩ = some (.int .i64 (i : Int)) := by simp [World.cell?,show W.heap[Bx]? = _ from hBx]
  have hcx1 : W.cell? ⟨Bx,1,none⟩ = some (.int .i64 (t : Int)) := by simp [World.cell?,show W.heap[Bx]? = _ from hBx]
  have hcx2 : W.cell? ⟨Bx,2,none⟩ = some (.int .i64 x2) := by simp [World.cell?,show W.heap[Bx]? = _ from hBx]
  have hv' := Lib.hid hv
  have hl0 : (i : Int) ≤ (t : Int) := by omega
  have hl1 : (t : Int) ≤ (s.size : Int) := by omega
  have hl2 : (0 : Int) ≤ (i : Int) := by omega
  obtain ⟨c,hc⟩ : ∃ c,s.extract i t = c := ⟨_,rfl⟩
  have hcs : c.size = t - i := by rw [← hc];exact size_extract _ _ _ ht2
  have hkb : byt c 0 = byt s i := by rw [← hc];exact byt_extract s i t 0 (by omega) ht2
  obtain ⟨kk,hkk⟩ : ∃ kk : Int,(byt s i : Int) = kk := ⟨_,rfl⟩
  have hk0 : 0 ≤ kk ∧ kk ≤ 255 := by have := byt_lt s i;omega
  have hx6 : ∀ h : 0 < c.size,((c[0]'h).toNat : Int) = kk := fun h => by rw [← hkk,← hkb,← bt_byt c 0 h];exact bt_at c 0 h
  have hq0 : (0 < (c.size : Int)) = True := eq_true (by omega)
  have hq1 : (0 < c.size) = True := eq_true (by omega)
  have hq2 : (1 ≤ (c.size : Int)) = True := eq_true (by omega)
  rw [hc] at hd
  have hdk : Hid (byt s i = 127 ↔ kk = 127) := Lib.hid (by omega)
  have hdl : Hid (byt s i < 128 ↔ kk < 128) := Lib.hid (by omega)
  have hde : Hid ((byt s i : Int) = kk) := Lib.hid hkk
  have hs1 : decide (1 + c.size ≤ 9223372036854775807) = true := decide_eq_true (by omega)
  have hs1b : (9223372036854775807 < 1 + c.size) = False := eq_false (by omega)
  obtain ⟨c1,hc1⟩ : ∃ c1,c.extract 1 c.size = c1 := ⟨_,rfl⟩
  have hcs1 : c1.size = c.size - 1 := by rw [← hc1];exact size_extract _ _ _ (Nat.le_refl _)
  rw [hc1] at hd
  have hs3 : decide (3 + c1.size ≤ 9223372036854775807) = true := decide_eq_true (by omega)
  have hs3b : (9223372036854775807 < 3 + c1.size) = False := eq_false (by omega)
  have hd := Lib.hid hd
  have hfin := Lib.hid hfin
  have hwr := Lib.hid hwr
  clear hrun hBx hv hvB hb0 hb2 hB hpp hpx hlt hr hci hkk hkb hilt ht1 ht2 hcs hcs1
  by_cases h1 : x2 = 1
  ·have h1b : (x2 == 1) = true := by simpa using h1
   have hq := Lib.hid (hd.out.trans (if_pos h1))
   clear h1
   gi_wp2
   exact hfin.out _ ⟨#[]⟩ v W hq.out (by rw [show Lib.strCells ⟨#[]⟩ = [] from rfl,List.append_nil];exact hv'.out) (Wrote.refl _ _ _ _)
  ·have h1b : (x2 == 1) = false := by simpa using h1
   have hd1 := Lib.hid (hd.out.trans (if_neg h1))
   clear h1
   by_cases h2 : x2 = 2
   ·have h2b : (x2 == 2) = true := by simpa using h2
    have hd2 := Lib.hid (hd1.out.trans (if_pos h2))
    clear h2 hcl
    by_cases h7 : kk = 127
    ·have h7b : (kk == 127) = true := by simpa using h7
     have hq := Lib.hid (hd2.out.trans (if_pos (hdk.out.2 h7)))
     clear h7 hk0
     gi_wp2_with (refine ⟨trivial,?_⟩;gi_at_call 87;refine (callsIn_wide.2 (hwr.out (⟨#[94,63]⟩) hq.out)).mono ?_;rintro e W' ⟨rfl,v',hb',hw'⟩)
     exact hfin.out _ (⟨#[94,63]⟩) v' W' hq.out hb' hw'
    ·have h7b : (kk == 127) = false := by simpa using h7
     have hd3 := Lib.hid (hd2.out.trans (if_neg (fun h => h7 (hdk.out.1 h))))
     clear h7
     by_cases h8 : kk < 128
     ·have h8b : decide (kk < 128) = true := decide_eq_true h8
      have hq := Lib.hid (hd3.out.trans (if_pos (hdl.out.2 h8)))
      rw [hde.out] at hq
      have hw1 : IntKind.i32.wrap kk = kk := (i32_w _).trans (w32 (by omega) (by omega))
      have hw2 : IntKind.i32.wrap (kk + 64) = kk + 64 := (i32_w _).trans (w32 (by omega) (by omega))
      have hes2 : (Utf8.encode (kk + 64)).size ≤ 2 := by have := encode_low (byt s i) (hdl.out.2 h8);rwa [hde.out] at this
      obtain ⟨es,hes⟩ : ∃ es,Utf8.encode (kk + 64) = es := ⟨_,rfl⟩
      rw [hes] at hq hes2
      have he1 : decide (1 + es.size ≤ 9223372036854775807) = true := decide_eq_true (by omega)
      have he2 : (9223372036854775807 < 1 + es.size) = False := eq_false (by omega)
      have hq := Lib.hid hq
      clear h8 hk0 hes2
      gi_wp2_with (refine ⟨trivial,?_⟩;gi_at_call 87;refine (callsIn_wide.2 (hwr.out ((⟨#[94]⟩ : ByteArray) ++ es) hq.out)).mono ?_;rintro e W' ⟨rfl,v',hb',hw'⟩)
      exact hfin.out _ ((⟨#[94]⟩ : ByteArray) ++ es) v' W' hq.out hb' hw'
     ·have h8b : decide (kk < 128) = false := decide_eq_false h8
      have hq := Lib.hid (hd3.out.trans (if_neg (fun h => h8 (hdl.out.1 h))))
      clear h8 hk0
      gi_wp2_with (refine ⟨trivial,?_⟩;gi_at_call 87;refine (callsIn_wide.2 (hwr.out (⟨#[239,191,189]⟩) hq.out)).mono ?_;rintro e W' ⟨rfl,v',hb',hw'⟩)
      exact hfin.out _ (⟨#[239,191,189]⟩) v' W' hq.out hb' hw'
   ·have h2b : (x2 == 2) = false := by simpa using h2
    have hd2 := Lib.hid (hd1.out.trans (if_neg h2))
    clear h2 hcl hk0
    by_cases h3 : x2 = 3
    ·have h3b : (x2 == 3) = true := by simpa using h3
     have hq := Lib.hid (hd2.out.trans (if_pos h3))
     clear h3
     gi_wp2_with (refine ⟨trivial,?_⟩;gi_at_call 87;refine (callsIn_wide.2 (hwr.out ((⟨#[32]⟩ : ByteArray) ++ c) hq.out)).mono ?_;rintro e W' ⟨rfl,v',hb',hw'⟩)
     exact hfin.out _ ((⟨#[32]⟩ : ByteArray) ++ c) v' W' hq.out hb' hw'
    ·have h3b : (x2 == 3) = false := by simpa using h3
     have hd3 := Lib.hid (hd2.out.trans (if_neg h3))
     clear h3
     by_cases h5 : x2 = 5
     ·have h5b : (x2 == 5) = true := by simpa using h5
      have hq := Lib.hid (hd3.out.trans (if_pos h5))
      clear h5
      gi_wp2_with (refine ⟨trivial,?_⟩;gi_at_call 87;refine (callsIn_wide.2 (hwr.out ((⟨#[239,191,189]⟩ : ByteArray) ++ c1) hq.out)).mono ?_;rintro e W' ⟨rfl,v',hb',hw'⟩)
      exact hfin.out _ ((⟨#[239,191,189]⟩ : ByteArray) ++ c1) v' W' hq.out hb' hw'
     ·have h5b : (x2 == 5) = false := by simpa using h5
      have hq := Lib.hid (hd3.out.trans (if_neg h5))
      clear h5
      gi_wp2_with (refine ⟨trivial,?_⟩;gi_at_call 87;refine (callsIn_wide.2 (hwr.out (c) hq.out)).mono ?_;rintro e W' ⟨rfl,v',hb',hw'⟩)
      exact hfin.out _ (c) v' W' hq.out hb' hw'
 case done =>
  rintro D ys W hD hys ⟨⟨⟨⟨v,hv,_⟩,_⟩,_⟩,hB,_⟩ hK
  obtain rfl : ys = clusL s := hys
  have hsz1 := hB.size
  gi_wp2_with (refine ⟨trivial,?_⟩;gi_at_call 88;refine (callsIn_wide.2 (Tryd.Builder_String_any_k w.heap.size (w.heap.size + 1) (drawU s (clusL s)) W (hv.is (by omega)) hsz1)).mono ?_;rintro e W' ⟨rfl,_,hbw,hok⟩)
  have hK' : W'.heap[D]? = some (.deferred (some [])) := hok D _ hK (fun e => by injection e with e;omega) (fun c fz e => by cases e)
  refine ⟨by simp,.inl ⟨_,_,rfl,run_takeDeferred hK',?_⟩⟩
  exact ⟨_,results_tmp rfl _ _ _,rfl,(hB.trans hbw).trans (belowK_b (w := w) (Nat.le_refl _) W' D _ _ (by omega) hK' rfl rfl)⟩
 case stop =>
  rintro D c pre W _ _ h _
  exact h.elim
def cluster_Drawn.f (a0 : ByteArray) : Option ByteArray := if a0.size ≤ 1099511627776 then some (drawnS a0) else none
theorem cluster_Drawn.calls (a0 : ByteArray) (r : ByteArray) (w : World) (hT : Lib.Utf8Tabs 0 1 w) (h : cluster_Drawn.f a0 = some r) :
  Calls Tryd.prog 56 #[.string a0] w fun e w' => e = .returned (.string r) ∧ Below w.heap.size w w' := by
 unfold cluster_Drawn.f at h
 split at h
 ·obtain rfl := Option.some.inj h
  rename_i hs
  exact cdrawn_any a0 w hs hT
 ·cases h
end Go.Proofs.YtfhnfhgpaoddbaaDoor.U
end
section
namespace Go.Proofs.YtfhnfhgpaoddbaaDoor.U
open Go.RowKit Go.Proofs.YtfhnfhgpaoddbaaDoorW.PrintWords Go.Proofs.YtfhnfhgpaoddbaaDoorW.PrintLast Go.Proofs.YtfhnfhgpaoddbaaDoorW.PrintMore
set_option linter.unusedVariables false
set_option linter.unusedSimpArgs false
theorem steps_next : cluster_Next.f 100 ⟨#[97]⟩ 0 = some 1 := by kernel_rfl
theorem steps_snap : cluster_Snap.f 100 ⟨#[97]⟩ 1 = some 1 := by kernel_rfl
theorem cwalk_not_nil (a : Addr) (W : World) : (binOp .neq 49 (.func (.func 83) #[] #[.pointer (some a)]) .nilFunc).run Tryd.prog W = .ok (.bool true) W := by kernel_rfl
set_option maxRecDepth 100000 in
set_option maxHeartbeats 2000000 in
theorem steps_any (w : World) (hT : Lib.Utf8Tabs 0 1 w) :
  Calls Tryd.prog 79 #[] w fun e w' => e = .returned (.bool true) ∧ Below w.heap.size w w' := by
 have hnn := cwalk_not_nil
 go_enter Tryd.func79,Tryd.ntmps79
 go_wp2_with (go_at_call 46;refine (cluster_Next.calls 100 ⟨#[97]⟩ 0 1 _ hT steps_next).mono ?_)
 rintro e w1 ⟨rfl,hb1⟩
 have hT1 := tabs_below hT hb1
 go_wp2_with (go_at_call 50;refine (cluster_Snap.calls 100 ⟨#[97]⟩ 1 1 _ hT1 steps_snap).mono ?_)
 rintro e w2 ⟨rfl,hb2⟩
 have hB := hb1.trans (hb2.mono hb1.size)
 go_wp2_with (go_at_call 41;refine (cwalk_calls _ _).mono ?_;rintro e w' ⟨rfl,rfl⟩)
 go_ret
 exact ⟨rfl,hB.alloc hB.size _⟩
def bodkinlaw03_steps.f : Option (Bool) := some true
theorem bodkinlaw03_steps.calls (r : Bool) (w : World) (hT : Lib.Utf8Tabs 0 1 w) (h : bodkinlaw03_steps.f = some r) :
  Calls Tryd.prog 79 #[] w fun e w' => e = .returned (.bool r) ∧ Below w.heap.size w w' := by
 obtain rfl := Option.some.inj h
 exact steps_any w hT
end Go.Proofs.YtfhnfhgpaoddbaaDoor.U
end
section
namespace Go.Proofs.YtfhnfhgpaoddbaaDoor.U
open Go.RowKit Go.Proofs.YtfhnfhgpaoddbaaDoorW.PrintWords Go.Proofs.YtfhnfhgpaoddbaaDoorW.PrintLast Go.Proofs.YtfhnfhgpaoddbaaDoorW.PrintMore
attribute [local go_sem] max2_int min2_int max_two min_two max_three min_three max_four min_four   -- for this text's walks alone
set_option linter.unusedVariables false
set_option linter.unusedSimpArgs false
attribute [local go_sem high] eqA53
def bodkinlaw03_fixed.f (k : Nat)  : Option (Bool) := (bodkinlaw03_steps.f).bind fun t258 => (if t258 = true then ((cluster_List.f (⟨#[97,204,129,13,10,228,184,128,255]⟩ : ByteArray)).bind fun t259 => (if (t259.length : Int) = 4 then (if 0 < (t259.length : Int) then (if (((rd_T53 t259 0).f0) == 0 && (((rd_T53 t259 0).f1) == 3 && (((rd_T53 t259 0).f2) == 0 && (((rd_T53 t259 0).f3) == 1)))) = true then (if 1 < (t259.length : Int) then (if (((rd_T53 t259 1).f0) == 3 && (((rd_T53 t259 1).f1) == 5 && (((rd_T53 t259 1).f2) == 1 && (((rd_T53 t259 1).f3) == 0)))) = true then (if 2 < (t259.length : Int) then (if (((rd_T53 t259 2).f0) == 5 && (((rd_T53 t259 2).f1) == 8 && (((rd_T53 t259 2).f2) == 4 && (((rd_T53 t259 2).f3) == 2)))) = true then (if 3 < (t259.length : Int) then (if (((rd_T53 t259 3).f0) == 8 && (((rd_T53 t259 3).f1) == 9 && (((rd_T53 t259 3).f2) == 5 && (((rd_T53 t259 3).f3) == 1)))) = true then ((cluster_Next.f k (⟨#[97,204,129,98]⟩ : ByteArray) 0).bind fun t266 => (if t266 = 3 then ((cluster_Boundary.f k (⟨#[97,204,129,98]⟩ : ByteArray) 1).bind fun t267 => (if t267 = true then (some false) else ((cluster_Boundary.f k (⟨#[]⟩ : ByteArray) 0).bind fun t268 => (if t268 = true then ((cluster_Drawn.f (⟨#[1]⟩ : ByteArray)).bind fun t269 => (some (t269.toList == ([94,65] : List UInt8)))) else (some false))))) else (some false))) else (some false)) else (none)) else (some false)) else (none)) else (some false)) else (none)) else (some false)) else (none)) else (some false))) else (some false))
theorem bodkinlaw03_fixed.mono : ∀ k,LeO (bodkinlaw03_fixed.f k ) (bodkinlaw03_fixed.f (k + 1) ) := by
 intro  k
 unfold bodkinlaw03_fixed.f
 repeat' first
   | (with_reducible exact cluster_Boundary.mono _ _ _)
   | (with_reducible exact cluster_Next.mono _ _ _)
   | (with_reducible exact LeO.refl _)
   | (with_reducible exact LeO.none _)
   | (with_reducible refine LeO.ite ?_ ?_)
   | (with_reducible refine LeO.bind ?_ (fun _ => ?_))
   | exact cluster_Boundary.mono _ _ _
   | exact cluster_Next.mono _ _ _
   | exact LeO.none _
   | refine LeO.ite ?_ ?_
   | refine LeO.bind ?_ (fun _ => ?_)
set_option maxHeartbeats 8000000 in
set_option maxRecDepth 100000 in
theorem bodkinlaw03_fixed.calls (k : Nat)  (r : Bool) (hr_ : r = true) (w : World) (hT : Lib.Utf8Tabs 0 1 w) (h : bodkinlaw03_fixed.f k  = some r) :
  Calls Tryd.prog 39 #[] w fun e w' => e = .returned (.bool r) ∧ Below w.heap.size w w' := by
 have hu53 := Tryd.underlying53
 have HT := Aside0.mk hT
 clear hT
 have HB := Aside0.mk (Below.refl w.heap.size w)
 have H : ((bodkinlaw03_steps.f).bind fun t258 => (if t258 = true then ((cluster_List.f (⟨#[97,204,129,13,10,228,184,128,255]⟩ : ByteArray)).bind fun t259 => (if (t259.length : Int) = 4 then (if 0 < (t259.length : Int) then (if (((rd_T53 t259 0).f0) == 0 && (((rd_T53 t259 0).f1) == 3 && (((rd_T53 t259 0).f2) == 0 && (((rd_T53 t259 0).f3) == 1)))) = true then (if 1 < (t259.length : Int) then (if (((rd_T53 t259 1).f0) == 3 && (((rd_T53 t259 1).f1) == 5 && (((rd_T53 t259 1).f2) == 1 && (((rd_T53 t259 1).f3) == 0)))) = true then (if 2 < (t259.length : Int) then (if (((rd_T53 t259 2).f0) == 5 && (((rd_T53 t259 2).f1) == 8 && (((rd_T53 t259 2).f2) == 4 && (((rd_T53 t259 2).f3) == 2)))) = true then (if 3 < (t259.length : Int) then (if (((rd_T53 t259 3).f0) == 8 && (((rd_T53 t259 3).f1) == 9 && (((rd_T53 t259 3).f2) == 5 && (((rd_T53 t259 3).f3) == 1)))) = true then ((cluster_Next.f k (⟨#[97,204,129,98]⟩ : ByteArray) 0).bind fun t266 => (if t266 = 3 then ((cluster_Boundary.f k (⟨#[97,204,129,98]⟩ : ByteArray) 1).bind fun t267 => (if t267 = true then (some false) else ((cluster_Boundary.f k (⟨#[]⟩ : ByteArray) 0).bind fun t268 => (if t268 = true then ((cluster_Drawn.f (⟨#[1]⟩ : ByteArray)).bind fun t269 => (some (t269.toList == ([94,65] : List UInt8)))) else (some false))))) else (some false))) else (some false)) else (none)) else (some false)) else (none)) else (some false)) else (none)) else (some false)) else (none)) else (some false))) else (some false))) = some r := h
 clear h
 replace H := Option.bind_eq_some_iff.mp H
 obtain ⟨t258,A10,H⟩ := H
 replace H : (if t258 = true then ((cluster_List.f (⟨#[97,204,129,13,10,228,184,128,255]⟩ : ByteArray)).bind fun t259 => (if (t259.length : Int) = 4 then (if 0 < (t259.length : Int) then (if (((rd_T53 t259 0).f0) == 0 && (((rd_T53 t259 0).f1) == 3 && (((rd_T53 t259 0).f2) == 0 && (((rd_T53 t259 0).f3) == 1)))) = true then (if 1 < (t259.length : Int) then (if (((rd_T53 t259 1).f0) == 3 && (((rd_T53 t259 1).f1) == 5 && (((rd_T53 t259 1).f2) == 1 && (((rd_T53 t259 1).f3) == 0)))) = true then (if 2 < (t259.length : Int) then (if (((rd_T53 t259 2).f0) == 5 && (((rd_T53 t259 2).f1) == 8 && (((rd_T53 t259 2).f2) == 4 && (((rd_T53 t259 2).f3) == 2)))) = true then (if 3 < (t259.length : Int) then (if (((rd_T53 t259 3).f0) == 8 && (((rd_T53 t259 3).f1) == 9 && (((rd_T53 t259 3).f2) == 5 && (((rd_T53 t259 3).f3) == 1)))) = true then ((cluster_Next.f k (⟨#[97,204,129,98]⟩ : ByteArray) 0).bind fun t266 => (if t266 = 3 then ((cluster_Boundary.f k (⟨#[97,204,129,98]⟩ : ByteArray) 1).bind fun t267 => (if t267 = true then (some false) else ((cluster_Boundary.f k (⟨#[]⟩ : ByteArray) 0).bind fun t268 => (if t268 = true then ((cluster_Drawn.f (⟨#[1]⟩ : ByteArray)).bind fun t269 => (some (t269.toList == ([94,65] : List UInt8)))) else (some false))))) else (some false))) else (some false)) else (none)) else (some false)) else (none)) else (some false)) else (none)) else (some false)) else (none)) else (some false))) else (some false)) = some r := H
 have A1 := Aside0.mk A10
 clear A10
 by_cases c2 : t258 = true
 ·subst c2
  have H1 : ((cluster_List.f (⟨#[97,204,129,13,10,228,184,128,255]⟩ : ByteArray)).bind fun t259 => (if (t259.length : Int) = 4 then (if 0 < (t259.length : Int) then (if (((rd_T53 t259 0).f0) == 0 && (((rd_T53 t259 0).f1) == 3 && (((rd_T53 t259 0).f2) == 0 && (((rd_T53 t259 0).f3) == 1)))) = true then (if 1 < (t259.length : Int) then (if (((rd_T53 t259 1).f0) == 3 && (((rd_T53 t259 1).f1) == 5 && (((rd_T53 t259 1).f2) == 1 && (((rd_T53 t259 1).f3) == 0)))) = true then (if 2 < (t259.length : Int) then (if (((rd_T53 t259 2).f0) == 5 && (((rd_T53 t259 2).f1) == 8 && (((rd_T53 t259 2).f2) == 4 && (((rd_T53 t259 2).f3) == 2)))) = true then (if 3 < (t259.length : Int) then (if (((rd_T53 t259 3).f0) == 8 && (((rd_T53 t259 3).f1) == 9 && (((rd_T53 t259 3).f2) == 5 && (((rd_T53 t259 3).f3) == 1)))) = true then ((cluster_Next.f k (⟨#[97,204,129,98]⟩ : ByteArray) 0).bind fun t266 => (if t266 = 3 then ((cluster_Boundary.f k (⟨#[97,204,129,98]⟩ : ByteArray) 1).bind fun t267 => (if t267 = true then (some false) else ((cluster_Boundary.f k (⟨#[]⟩ : ByteArray) 0).bind fun t268 => (if t268 = true then ((cluster_Drawn.f (⟨#[1]⟩ : ByteArray)).bind fun t269 => (some (t269.toList == ([94,65] : List UInt8)))) else (some false))))) else (some false))) else (some false)) else (none)) else (some false)) else (none)) else (some false)) else (none)) else (some false)) else (none)) else (some false))) = some r := by rw [if_pos rfl] at H;exact H
  clear H
  have H := H1
  clear H1
  replace H := Option.bind_eq_some_iff.mp H
  obtain ⟨t259,A30,H⟩ := H
  replace H : (if (t259.length : Int) = 4 then (if 0 < (t259.length : Int) then (if (((rd_T53 t259 0).f0) == 0 && (((rd_T53 t259 0).f1) == 3 && (((rd_T53 t259 0).f2) == 0 && (((rd_T53 t259 0).f3) == 1)))) = true then (if 1 < (t259.length : Int) then (if (((rd_T53 t259 1).f0) == 3 && (((rd_T53 t259 1).f1) == 5 && (((rd_T53 t259 1).f2) == 1 && (((rd_T53 t259 1).f3) == 0)))) = true then (if 2 < (t259.length : Int) then (if (((rd_T53 t259 2).f0) == 5 && (((rd_T53 t259 2).f1) == 8 && (((rd_T53 t259 2).f2) == 4 && (((rd_T53 t259 2).f3) == 2)))) = true then (if 3 < (t259.length : Int) then (if (((rd_T53 t259 3).f0) == 8 && (((rd_T53 t259 3).f1) == 9 && (((rd_T53 t259 3).f2) == 5 && (((rd_T53 t259 3).f3) == 1)))) = true then ((cluster_Next.f k (⟨#[97,204,129,98]⟩ : ByteArray) 0).bind fun t266 => (if t266 = 3 then ((cluster_Boundary.f k (⟨#[97,204,129,98]⟩ : ByteArray) 1).bind fun t267 => (if t267 = true then (some false) else ((cluster_Boundary.f k (⟨#[]⟩ : ByteArray) 0).bind fun t268 => (if t268 = true then ((cluster_Drawn.f (⟨#[1]⟩ : ByteArray)).bind fun t269 => (some (t269.toList == ([94,65] : List UInt8)))) else (some false))))) else (some false))) else (some false)) else (none)) else (some false)) else (none)) else (some false)) else (none)) else (some false)) else (none)) else (some false)) = some r := H
  have A3 := Aside0.mk A30
  clear A30
  by_cases c4 : (t259.length : Int) = 4
  ·rw [if_pos c4] at H
   have c4b0 : ((t259.length : Int) == 4) = true := beq_iff_eq.mpr c4
   have c4b1 : ((t259.length : Int) != 4) = false := bne_eq_false_iff_eq.mpr c4
   clear c4
   by_cases c5 : 0 < (t259.length : Int)
   ·rw [if_pos c5] at H
    have c5b0 : decide (0 < (t259.length : Int)) = true := decide_eq_true c5
    have c5b1 : decide (0 < t259.length) = true := decide_eq_true (by omega)
    clear c5
    by_cases c6 : (((rd_T53 t259 0).f0) == 0 && (((rd_T53 t259 0).f1) == 3 && (((rd_T53 t259 0).f2) == 0 && (((rd_T53 t259 0).f3) == 1)))) = true
    ·rw [if_pos c6] at H
     have c6b0 : (((rd_T53 t259 0).f0) == 0 && (((rd_T53 t259 0).f1) == 3 && (((rd_T53 t259 0).f2) == 0 && (((rd_T53 t259 0).f3) == 1)))) = true := c6
     (try (have c6b1 : decide (((rd_T53 t259 0).f0) = 0 && (((rd_T53 t259 0).f1) == 3 && (((rd_T53 t259 0).f2) == 0 && (((rd_T53 t259 0).f3) == 1)))) = true := by simpa using c6))
     (try (have c6b2 : (((rd_T53 t259 0).f0) == 0 && (((rd_T53 t259 0).f1) == 3 && (((rd_T53 t259 0).f2) == 0 && (((rd_T53 t259 0).f3) == 1)))) = true := by simpa using c6))
     clear c6
     by_cases c7 : 1 < (t259.length : Int)
     ·rw [if_pos c7] at H
      have c7b0 : decide (1 < (t259.length : Int)) = true := decide_eq_true c7
      have c7b1 : decide (1 < t259.length) = true := decide_eq_true (by omega)
      clear c7
      by_cases c8 : (((rd_T53 t259 1).f0) == 3 && (((rd_T53 t259 1).f1) == 5 && (((rd_T53 t259 1).f2) == 1 && (((rd_T53 t259 1).f3) == 0)))) = true
      ·rw [if_pos c8] at H
       have c8b0 : (((rd_T53 t259 1).f0) == 3 && (((rd_T53 t259 1).f1) == 5 && (((rd_T53 t259 1).f2) == 1 && (((rd_T53 t259 1).f3) == 0)))) = true := c8
       (try (have c8b1 : decide (((rd_T53 t259 1).f0) = 3 && (((rd_T53 t259 1).f1) == 5 && (((rd_T53 t259 1).f2) == 1 && (((rd_T53 t259 1).f3) == 0)))) = true := by simpa using c8))
       (try (have c8b2 : (((rd_T53 t259 1).f0) == 3 && (((rd_T53 t259 1).f1) == 5 && (((rd_T53 t259 1).f2) == 1 && (((rd_T53 t259 1).f3) == 0)))) = true := by simpa using c8))
       clear c8
       by_cases c9 : 2 < (t259.length : Int)
       ·rw [if_pos c9] at H
        have c9b0 : decide (2 < (t259.length : Int)) = true := decide_eq_true c9
        have c9b1 : decide (2 < t259.length) = true := decide_eq_true (by omega)
        clear c9
        by_cases c10 : (((rd_T53 t259 2).f0) == 5 && (((rd_T53 t259 2).f1) == 8 && (((rd_T53 t259 2).f2) == 4 && (((rd_T53 t259 2).f3) == 2)))) = true
        ·rw [if_pos c10] at H
         have c10b0 : (((rd_T53 t259 2).f0) == 5 && (((rd_T53 t259 2).f1) == 8 && (((rd_T53 t259 2).f2) == 4 && (((rd_T53 t259 2).f3) == 2)))) = true := c10
         (try (have c10b1 : decide (((rd_T53 t259 2).f0) = 5 && (((rd_T53 t259 2).f1) == 8 && (((rd_T53 t259 2).f2) == 4 && (((rd_T53 t259 2).f3) == 2)))) = true := by simpa using c10))
         (try (have c10b2 : (((rd_T53 t259 2).f0) == 5 && (((rd_T53 t259 2).f1) == 8 && (((rd_T53 t259 2).f2) == 4 && (((rd_T53 t259 2).f3) == 2)))) = true := by simpa using c10))
         clear c10
         by_cases c11 : 3 < (t259.length : Int)
         ·rw [if_pos c11] at H
          have c11b0 : decide (3 < (t259.length : Int)) = true := decide_eq_true c11
          have c11b1 : decide (3 < t259.length) = true := decide_eq_true (by omega)
          clear c11
          by_cases c12 : (((rd_T53 t259 3).f0) == 8 && (((rd_T53 t259 3).f1) == 9 && (((rd_T53 t259 3).f2) == 5 && (((rd_T53 t259 3).f3) == 1)))) = true
          ·rw [if_pos c12] at H
           have c12b0 : (((rd_T53 t259 3).f0) == 8 && (((rd_T53 t259 3).f1) == 9 && (((rd_T53 t259 3).f2) == 5 && (((rd_T53 t259 3).f3) == 1)))) = true := c12
           (try (have c12b1 : decide (((rd_T53 t259 3).f0) = 8 && (((rd_T53 t259 3).f1) == 9 && (((rd_T53 t259 3).f2) == 5 && (((rd_T53 t259 3).f3) == 1)))) = true := by simpa using c12))
           (try (have c12b2 : (((rd_T53 t259 3).f0) == 8 && (((rd_T53 t259 3).f1) == 9 && (((rd_T53 t259 3).f2) == 5 && (((rd_T53 t259 3).f3) == 1)))) = true := by simpa using c12))
           clear c12
           replace H := Option.bind_eq_some_iff.mp H
           obtain ⟨t266,A130,H⟩ := H
           replace H : (if t266 = 3 then ((cluster_Boundary.f k (⟨#[97,204,129,98]⟩ : ByteArray) 1).bind fun t267 => (if t267 = true then (some false) else ((cluster_Boundary.f k (⟨#[]⟩ : ByteArray) 0).bind fun t268 => (if t268 = true then ((cluster_Drawn.f (⟨#[1]⟩ : ByteArray)).bind fun t269 => (some (t269.toList == ([94,65] : List UInt8)))) else (some false))))) else (some false)) = some r := H
           have A13 := Aside0.mk A130
           clear A130
           by_cases c14 : t266 = 3
           ·rw [if_pos c14] at H
            have c14b0 : (t266 == 3) = true := beq_iff_eq.mpr c14
            have c14b1 : (t266 != 3) = false := bne_eq_false_iff_eq.mpr c14
            clear c14
            replace H := Option.bind_eq_some_iff.mp H
            obtain ⟨t267,A150,H⟩ := H
            replace H : (if t267 = true then (some false) else ((cluster_Boundary.f k (⟨#[]⟩ : ByteArray) 0).bind fun t268 => (if t268 = true then ((cluster_Drawn.f (⟨#[1]⟩ : ByteArray)).bind fun t269 => (some (t269.toList == ([94,65] : List UInt8)))) else (some false)))) = some r := H
            have A15 := Aside0.mk A150
            clear A150
            by_cases c16 : t267 = true
            ·subst c16
             have H1 : (some false) = some r := by rw [if_pos rfl] at H;exact H
             clear H
             have H := H1
             clear H1
             obtain rfl := Option.some.inj H
             cases hr_
            ·replace c16 := Bool.eq_false_iff.mpr c16
             subst c16
             have H1 : ((cluster_Boundary.f k (⟨#[]⟩ : ByteArray) 0).bind fun t268 => (if t268 = true then ((cluster_Drawn.f (⟨#[1]⟩ : ByteArray)).bind fun t269 => (some (t269.toList == ([94,65] : List UInt8)))) else (some false))) = some r := by rw [if_neg (show ¬ (false = true) by decide)] at H;exact H
             clear H
             have H := H1
             clear H1
             replace H := Option.bind_eq_some_iff.mp H
             obtain ⟨t268,A220,H⟩ := H
             replace H : (if t268 = true then ((cluster_Drawn.f (⟨#[1]⟩ : ByteArray)).bind fun t269 => (some (t269.toList == ([94,65] : List UInt8)))) else (some false)) = some r := H
             have A22 := Aside0.mk A220
             clear A220
             by_cases c23 : t268 = true
             ·subst c23
              have H1 : ((cluster_Drawn.f (⟨#[1]⟩ : ByteArray)).bind fun t269 => (some (t269.toList == ([94,65] : List UInt8)))) = some r := by rw [if_pos rfl] at H;exact H
              clear H
              have H := H1
              clear H1
              replace H := Option.bind_eq_some_iff.mp H
              obtain ⟨t269,A240,H⟩ := H
              replace H : (some (t269.toList == ([94,65] : List UInt8))) = some r := H
              have A24 := Aside0.mk A240
              clear A240
              obtain rfl := Option.some.inj H
              go_enter Tryd.func39,Tryd.ntmps39
              go_wp2_with (first | ((with_reducible refine gate_callee (f := 79) rfl ?_);refine goesL_ (some 2) rfl rfl Tryd.func79 (by kernel_rfl) rfl #[] rfl au1 ?_;(with_reducible refine (bodkinlaw03_steps.calls  true _ ?side1 A1.out).mono ?_);(case side1 => exact tabs_below HT.out au0);rintro e w25 ⟨rfl,hb⟩;refine ⟨_,rfl,?_⟩;have n0_ := Aside0.mk (below_step au0 hb);clear HB;have HB := n0_;clear n0_;(try clear hb);(try clear hb2);(try clear hk);(try clear hi)) | ((with_reducible refine gate_callee (f := 43) rfl ?_);refine goesL_ (some 4) rfl rfl Tryd.func43 (by kernel_rfl) rfl #[.string (⟨#[97,204,129,13,10,228,184,128,255]⟩ : ByteArray)] rfl au1 ?_;(with_reducible refine (cluster_List.calls (⟨#[97,204,129,13,10,228,184,128,255]⟩ : ByteArray) t259 _ ?side1 A3.out).mono ?_);(case side1 => exact tabs_below HT.out au0);rintro e w26 ⟨v260,rfl,ho0,hb⟩;refine ⟨_,rfl,?_⟩;have n0_ := Aside0.mk (Kd.R_lower ho0 (below_size au0));have n1_ := Aside0.mk (below_step au0 hb);clear HB;have HO261 := n0_;have HB := n1_;clear n0_ n1_;(try clear hb);(try clear hb2);(try clear hk);(try clear hi);(try clear ho0);obtain ⟨Ao27,co27,eo27⟩ := Kd.R_slice HO261.out;subst eo27;have p262 : 0 ≤ (0 : Int) := (by omega);have q262 : 0 < (t259.length : Int) := of_decide_eq_true au15;obtain ⟨ad262,e262,hx262_0,hx262_1,hx262_2,hx262_3⟩ := at_T53 (Kd.R_reads' HO261.out).2.2 0 p262 q262;cases e262;have qi262 : (0 < t259.length) = True := eq_true (by omega);(try rw [show ((0 : Int)).toNat = 0 from rfl] at hx262_0);(try rw [show 0 * 4 = 0 from rfl] at hx262_0);(try rw [Addr.add_zero'] at hx262_0);(try rw [show ((0 : Int)).toNat = 0 from rfl] at hx262_1);(try rw [show 0 * 4 = 0 from rfl] at hx262_1);(try rw [Addr.add_zero'] at hx262_1);(try rw [show ((0 : Int)).toNat = 0 from rfl] at hx262_2);(try rw [show 0 * 4 = 0 from rfl] at hx262_2);(try rw [Addr.add_zero'] at hx262_2);(try rw [show ((0 : Int)).toNat = 0 from rfl] at hx262_3);(try rw [show 0 * 4 = 0 from rfl] at hx262_3);(try rw [Addr.add_zero'] at hx262_3);replace p262 := eq_true p262;replace q262 := eq_true q262;have p263 : 0 ≤ (1 : Int) := (by omega);have q263 : 1 < (t259.length : Int) := of_decide_eq_true au15;obtain ⟨ad263,e263,hx263_0,hx263_1,hx263_2,hx263_3⟩ := at_T53 (Kd.R_reads' HO261.out).2.2 1 p263 q263;obtain rfl : ad262 = ad263 := (by injection e263);(try simp only [show (1 : Int).toNat = 1 from rfl,Nat.reduceMul,Nat.reduceEqDiff,Go.Addr.add,↓reduceIte] at hx263_0);(try simp only [show (1 : Int).toNat = 1 from rfl,Nat.reduceMul,Nat.reduceEqDiff,Go.Addr.add,↓reduceIte] at hx263_1);(try simp only [show (1 : Int).toNat = 1 from rfl,Nat.reduceMul,Nat.reduceEqDiff,Go.Addr.add,↓reduceIte] at hx263_2);(try simp only [show (1 : Int).toNat = 1 from rfl,Nat.reduceMul,Nat.reduceEqDiff,Go.Addr.add,↓reduceIte] at hx263_3);have qi263 : (1 < t259.length) = True := eq_true (by omega);(try rw [show ((1 : Int)).toNat = 1 from rfl] at hx263_0);(try rw [show 1 * 4 = 4 from rfl] at hx263_0);(try rw [show ((1 : Int)).toNat = 1 from rfl] at hx263_1);(try rw [show 1 * 4 = 4 from rfl] at hx263_1);(try rw [show ((1 : Int)).toNat = 1 from rfl] at hx263_2);(try rw [show 1 * 4 = 4 from rfl] at hx263_2);(try rw [show ((1 : Int)).toNat = 1 from rfl] at hx263_3);(try rw [show 1 * 4 = 4 from rfl] at hx263_3);replace p263 := eq_true p263;replace q263 := eq_true q263;have p264 : 0 ≤ (2 : Int) := (by omega);have q264 : 2 < (t259.length : Int) := of_decide_eq_true au15;obtain ⟨ad264,e264,hx264_0,hx264_1,hx264_2,hx264_3⟩ := at_T53 (Kd.R_reads' HO261.out).2.2 2 p264 q264;obtain rfl : ad262 = ad264 := (by injection e264);(try simp only [show (2 : Int).toNat = 2 from rfl,Nat.reduceMul,Nat.reduceEqDiff,Go.Addr.add,↓reduceIte] at hx264_0);(try simp only [show (2 : Int).toNat = 2 from rfl,Nat.reduceMul,Nat.reduceEqDiff,Go.Addr.add,↓reduceIte] at hx264_1);(try simp only [show (2 : Int).toNat = 2 from rfl,Nat.reduceMul,Nat.reduceEqDiff,Go.Addr.add,↓reduceIte] at hx264_2);(try simp only [show (2 : Int).toNat = 2 from rfl,Nat.reduceMul,Nat.reduceEqDiff,Go.Addr.add,↓reduceIte] at hx264_3);have qi264 : (2 < t259.length) = True := eq_true (by omega);(try rw [show ((2 : Int)).toNat = 2 from rfl] at hx264_0);(try rw [show 2 * 4 = 8 from rfl] at hx264_0);(try rw [show ((2 : Int)).toNat = 2 from rfl] at hx264_1);(try rw [show 2 * 4 = 8 from rfl] at hx264_1);(try rw [show ((2 : Int)).toNat = 2 from rfl] at hx264_2);(try rw [show 2 * 4 = 8 from rfl] at hx264_2);(try rw [show ((2 : Int)).toNat = 2 from rfl] at hx264_3);(try rw [show 2 * 4 = 8 from rfl] at hx264_3);replace p264 := eq_true p264;replace q264 := eq_true q264;have p265 : 0 ≤ (3 : Int) := (by omega);have q265 : 3 < (t259.length : Int) := of_decide_eq_true au15;obtain ⟨ad265,e265,hx265_0,hx265_1,hx265_2,hx265_3⟩ := at_T53 (Kd.R_reads' HO261.out).2.2 3 p265 q265;obtain rfl : ad262 = ad265 := (by injection e265);(try simp only [show (3 : Int).toNat = 3 from rfl,Nat.reduceMul,Nat.reduceEqDiff,Go.Addr.add,↓reduceIte] at hx265_0);(try simp only [show (3 : Int).toNat = 3 from rfl,Nat.reduceMul,Nat.reduceEqDiff,Go.Addr.add,↓reduceIte] at hx265_1);(try simp only [show (3 : Int).toNat = 3 from rfl,Nat.reduceMul,Nat.reduceEqDiff,Go.Addr.add,↓reduceIte] at hx265_2);(try simp only [show (3 : Int).toNat = 3 from rfl,Nat.reduceMul,Nat.reduceEqDiff,Go.Addr.add,↓reduceIte] at hx265_3);have qi265 : (3 < t259.length) = True := eq_true (by omega);(try rw [show ((3 : Int)).toNat = 3 from rfl] at hx265_0);(try rw [show 3 * 4 = 12 from rfl] at hx265_0);(try rw [show ((3 : Int)).toNat = 3 from rfl] at hx265_1);(try rw [show 3 * 4 = 12 from rfl] at hx265_1);(try rw [show ((3 : Int)).toNat = 3 from rfl] at hx265_2);(try rw [show 3 * 4 = 12 from rfl] at hx265_2);(try rw [show ((3 : Int)).toNat = 3 from rfl] at hx265_3);(try rw [show 3 * 4 = 12 from rfl] at hx265_3);replace p265 := eq_true p265;replace q265 := eq_true q265) | (go_at_call 46;(with_reducible refine (cluster_Next.calls k (⟨#[97,204,129,98]⟩ : ByteArray) 0 t266 _ ?side1 A13.out).mono ?_);(case side1 => exact tabs_below HT.out au0);rintro e w28 ⟨rfl,hb⟩;have n0_ := Aside0.mk (Kd.R_below (by (with_reducible repeat (first | apply Kd.R_alloc | apply Kd.R_drewN | apply Kd.R_drew));exact HO261.out) hb);have n1_ := Aside0.mk (below_step au0 hb);clear HO261;clear HB;have HO261 := n0_;have HB := n1_;clear n0_ n1_;(try clear hb);(try clear hb2);(try clear hk);(try clear hi)) | (go_at_call 42;(with_reducible refine (cluster_Boundary.calls k (⟨#[97,204,129,98]⟩ : ByteArray) 1 false _ ?side1 A15.out).mono ?_);(case side1 => exact tabs_below HT.out au0);rintro e w29 ⟨rfl,hb⟩;have n0_ := Aside0.mk (Kd.R_below (by (with_reducible repeat (first | apply Kd.R_alloc | apply Kd.R_drewN | apply Kd.R_drew));exact HO261.out) hb);have n1_ := Aside0.mk (below_step au0 hb);clear HO261;clear HB;have HO261 := n0_;have HB := n1_;clear n0_ n1_;(try clear hb);(try clear hb2);(try clear hk);(try clear hi)) | (go_at_call 42;(with_reducible refine (cluster_Boundary.calls k (⟨#[]⟩ : ByteArray) 0 true _ ?side1 A22.out).mono ?_);(case side1 => exact tabs_below HT.out au0);rintro e w30 ⟨rfl,hb⟩;have n0_ := Aside0.mk (Kd.R_below (by (with_reducible repeat (first | apply Kd.R_alloc | apply Kd.R_drewN | apply Kd.R_drew));exact HO261.out) hb);have n1_ := Aside0.mk (below_step au0 hb);clear HO261;clear HB;have HO261 := n0_;have HB := n1_;clear n0_ n1_;(try clear hb);(try clear hb2);(try clear hk);(try clear hi)) | (go_at_call 56;(with_reducible refine (cluster_Drawn.calls (⟨#[1]⟩ : ByteArray) t269 _ ?side1 A24.out).mono ?_);(case side1 => exact tabs_below HT.out au0);rintro e w31 ⟨rfl,hb⟩;have n0_ := Aside0.mk (Kd.R_below (by (with_reducible repeat (first | apply Kd.R_alloc | apply Kd.R_drewN | apply Kd.R_drew));exact HO261.out) hb);have n1_ := Aside0.mk (below_step au0 hb);clear HO261;clear HB;have HO261 := n0_;have HB := n1_;clear n0_ n1_;(try clear hb);(try clear hb2);(try clear hk);(try clear hi)))
              go_ret
              exact ⟨au2,au0⟩
             ·replace c23 := Bool.eq_false_iff.mpr c23
              subst c23
              have H1 : (some false) = some r := by rw [if_neg (show ¬ (false = true) by decide)] at H;exact H
              clear H
              have H := H1
              clear H1
              obtain rfl := Option.some.inj H
              cases hr_
           ·rw [if_neg c14] at H
            have c14b0 : (t266 == 3) = false := beq_eq_false_iff_ne.mpr c14
            have c14b1 : (t266 != 3) = true := bne_iff_ne.mpr c14
            obtain rfl := Option.some.inj H
            cases hr_
          ·rw [if_neg c12] at H
           have c12b0 : (((rd_T53 t259 3).f0) == 8 && (((rd_T53 t259 3).f1) == 9 && (((rd_T53 t259 3).f2) == 5 && (((rd_T53 t259 3).f3) == 1)))) = false := by simpa using c12
           (try (have c12b1 : decide (((rd_T53 t259 3).f0) = 8 && (((rd_T53 t259 3).f1) == 9 && (((rd_T53 t259 3).f2) == 5 && (((rd_T53 t259 3).f3) == 1)))) = false := by simpa using c12))
           (try (have c12b2 : (((rd_T53 t259 3).f0) == 8 && (((rd_T53 t259 3).f1) == 9 && (((rd_T53 t259 3).f2) == 5 && (((rd_T53 t259 3).f3) == 1)))) = false := by simpa using c12))
           (try (have c12b3 : ¬ (((rd_T53 t259 3).f0) = 8 && (((rd_T53 t259 3).f1) == 9 && (((rd_T53 t259 3).f2) == 5 && (((rd_T53 t259 3).f3) == 1)))) := by simpa using c12))
           clear c12
           obtain rfl := Option.some.inj H
           cases hr_
         ·rw [if_neg c11] at H
          exact absurd H (by simp)
        ·rw [if_neg c10] at H
         have c10b0 : (((rd_T53 t259 2).f0) == 5 && (((rd_T53 t259 2).f1) == 8 && (((rd_T53 t259 2).f2) == 4 && (((rd_T53 t259 2).f3) == 2)))) = false := by simpa using c10
         (try (have c10b1 : decide (((rd_T53 t259 2).f0) = 5 && (((rd_T53 t259 2).f1) == 8 && (((rd_T53 t259 2).f2) == 4 && (((rd_T53 t259 2).f3) == 2)))) = false := by simpa using c10))
         (try (have c10b2 : (((rd_T53 t259 2).f0) == 5 && (((rd_T53 t259 2).f1) == 8 && (((rd_T53 t259 2).f2) == 4 && (((rd_T53 t259 2).f3) == 2)))) = false := by simpa using c10))
         (try (have c10b3 : ¬ (((rd_T53 t259 2).f0) = 5 && (((rd_T53 t259 2).f1) == 8 && (((rd_T53 t259 2).f2) == 4 && (((rd_T53 t259 2).f3) == 2)))) := by simpa using c10))
         clear c10
         obtain rfl := Option.some.inj H
         cases hr_
       ·rw [if_neg c9] at H
        exact absurd H (by simp)
      ·rw [if_neg c8] at H
       have c8b0 : (((rd_T53 t259 1).f0) == 3 && (((rd_T53 t259 1).f1) == 5 && (((rd_T53 t259 1).f2) == 1 && (((rd_T53 t259 1).f3) == 0)))) = false := by simpa using c8
       (try (have c8b1 : decide (((rd_T53 t259 1).f0) = 3 && (((rd_T53 t259 1).f1) == 5 && (((rd_T53 t259 1).f2) == 1 && (((rd_T53 t259 1).f3) == 0)))) = false := by simpa using c8))
       (try (have c8b2 : (((rd_T53 t259 1).f0) == 3 && (((rd_T53 t259 1).f1) == 5 && (((rd_T53 t259 1).f2) == 1 && (((rd_T53 t259 1).f3) == 0)))) = false := by simpa using c8))
       (try (have c8b3 : ¬ (((rd_T53 t259 1).f0) = 3 && (((rd_T53 t259 1).f1) == 5 && (((rd_T53 t259 1).f2) == 1 && (((rd_T53 t259 1).f3) == 0)))) := by simpa using c8))
       clear c8
       obtain rfl := Option.some.inj H
       cases hr_
     ·rw [if_neg c7] at H
      exact absurd H (by simp)
    ·rw [if_neg c6] at H
     have c6b0 : (((rd_T53 t259 0).f0) == 0 && (((rd_T53 t259 0).f1) == 3 && (((rd_T53 t259 0).f2) == 0 && (((rd_T53 t259 0).f3) == 1)))) = false := by simpa using c6
     (try (have c6b1 : decide (((rd_T53 t259 0).f0) = 0 && (((rd_T53 t259 0).f1) == 3 && (((rd_T53 t259 0).f2) == 0 && (((rd_T53 t259 0).f3) == 1)))) = false := by simpa using c6))
     (try (have c6b2 : (((rd_T53 t259 0).f0) == 0 && (((rd_T53 t259 0).f1) == 3 && (((rd_T53 t259 0).f2) == 0 && (((rd_T53 t259 0).f3) == 1)))) = false := by simpa using c6))
     (try (have c6b3 : ¬ (((rd_T53 t259 0).f0) = 0 && (((rd_T53 t259 0).f1) == 3 && (((rd_T53 t259 0).f2) == 0 && (((rd_T53 t259 0).f3) == 1)))) := by simpa using c6))
     clear c6
     obtain rfl := Option.some.inj H
     cases hr_
   ·rw [if_neg c5] at H
    exact absurd H (by simp)
  ·rw [if_neg c4] at H
   have c4b0 : ((t259.length : Int) == 4) = false := beq_eq_false_iff_ne.mpr c4
   have c4b1 : ((t259.length : Int) != 4) = true := bne_iff_ne.mpr c4
   obtain rfl := Option.some.inj H
   cases hr_
 ·replace c2 := Bool.eq_false_iff.mpr c2
  subst c2
  have H1 : (some false) = some r := by rw [if_neg (show ¬ (false = true) by decide)] at H;exact H
  clear H
  have H := H1
  clear H1
  obtain rfl := Option.some.inj H
  cases hr_
end Go.Proofs.YtfhnfhgpaoddbaaDoor.U
end
section
namespace Go.Proofs.YtfhnfhgpaoddbaaDoor.Pu
open Go Go.RowKit Go.Proofs.YtfhnfhgpaoddbaaDoor.Mu Go.Proofs.YtfhnfhgpaoddbaaDoor.U Go.Proofs.YtfhnfhgpaoddbaaDoorW.PrintWords Go.Proofs.YtfhnfhgpaoddbaaDoorW.PrintLast Go.Proofs.YtfhnfhgpaoddbaaDoorW.PrintMore
theorem fixed_ans : Ev (fun k => bodkinlaw03_fixed.f k) true := Ev.of (fun k => bodkinlaw03_fixed.mono k) (k := 200) (by kernel_rfl)
end Go.Proofs.YtfhnfhgpaoddbaaDoor.Pu
end
section
namespace Go.Proofs.YtfhnfhgpaoddbaaDoor.U
open Go.RowKit Go.Proofs.YtfhnfhgpaoddbaaDoor.Mu Go.Proofs.YtfhnfhgpaoddbaaDoor.Pu Go.Proofs.YtfhnfhgpaoddbaaDoorW.PrintWords Go.Proofs.YtfhnfhgpaoddbaaDoorW.PrintLast Go.Proofs.YtfhnfhgpaoddbaaDoorW.PrintMore
set_option linter.unusedVariables false
set_option linter.unusedSimpArgs false
/-- The numbers that are written. -/
def numZ (m : Nat) : Int := 1099511627776 + (m : Int)
theorem numZ_next (m : Nat) (h : m ≤ 1099511627776) : IntKind.i64.wrap (numZ m + 1) = numZ (m + 1) ∧ wrap64 (numZ m + 1) = numZ (m + 1) := by
 have e : wrap64 (numZ m + 1) = numZ (m + 1) := by unfold numZ wrap64;omega
 exact ⟨(i64_w _).trans e,e⟩
/-- How many cells the first i rows have. -/
def offN (FL : List (List V)) (i : Nat) : Nat := ((FL.take i).map List.length).sum
theorem offN_succ (FL : List (List V)) (i : Nat) (h : i < FL.length) : offN FL (i + 1) = offN FL i + (FL.getD i []).length := by
 unfold offN
 rw [List.take_add_one,List.map_append,List.sum_append,List.getElem?_eq_getElem h,List.getD_eq_getElem?_getD,List.getElem?_eq_getElem h]
 simp
/-- The first i rows,and k cells of the next one,bear their numbers;nothing is longer or shorter. -/
structure Nb (FX FL : List (List V)) (i k : Nat) : Prop where
 n : FX.length = FL.length
 l : ∀ j,(FX.getD j []).length = (FL.getD j []).length
 d : ∀ j,j < i → ∀ c,c < (FX.getD j []).length → (gC (FX.getD j []) c).f0 = numZ (offN FL j + c + 1)
 p : ∀ c,c < k → (gC (FX.getD i []) c).f0 = numZ (offN FL i + c + 1)
theorem rwV_set (rows : List (List V)) (i : Nat) (x : List V) (j : Nat) (h : i < rows.length) : (rows.set i x).getD j [] = if j = i then x else rows.getD j [] := by
 rw [List.getD_eq_getElem?_getD,List.getD_eq_getElem?_getD]
 by_cases hj : j = i
 ·subst hj
  rw [if_pos rfl,List.getElem?_set_self h]
  rfl
 ·rw [if_neg hj,List.getElem?_set_ne (fun e => hj e.symm)]
theorem setV_same (FX : List (List V)) (i : Nat) : FX.set i (FX.getD i []) = FX := by
 by_cases h : i < FX.length
 ·rw [List.getD_eq_getElem?_getD,List.getElem?_eq_getElem h]
  exact List.set_getElem_self h
 ·exact List.set_eq_of_length_le (by omega)
theorem Nb.cell {FX FL : List (List V)} {i k : Nat} (h : Nb FX FL i k) (hi : i < FX.length) (hk : k < (FX.getD i []).length) (x : V) (hx : x.f0 = numZ (offN FL i + k + 1)) : Nb (FX.set i ((FX.getD i []).set k x)) FL i (k + 1) := by
 have hg : ∀ j,(FX.set i ((FX.getD i []).set k x)).getD j [] = if j = i then (FX.getD i []).set k x else FX.getD j [] := fun j => rwV_set _ _ _ _ hi
 refine ⟨by rw [List.length_set];exact h.n,fun j => ?_,fun j hj c hc => ?_,fun c hc => ?_⟩
 ·rw [hg]
  split
  ·rename_i e;rw [List.length_set,← e];exact h.l j
  ·exact h.l j
 ·rw [hg,if_neg (by omega)] at hc ⊢
  exact h.d j hj c hc
 ·rw [hg,if_pos rfl,gC_set _ _ _ _ hk]
  split
  ·rename_i e;rw [e];exact hx
  ·exact h.p c (by omega)
theorem Nb.next {FX FL : List (List V)} {i k : Nat} (h : Nb FX FL i k) (hk : k = (FX.getD i []).length) : Nb FX FL (i + 1) 0 :=
 ⟨h.n,h.l,fun j hj c hc => by
  by_cases e : j = i
  ·subst e;exact h.p c (by omega)
  ·exact h.d j (by omega) c hc,fun c hc => absurd hc (Nat.not_lt_zero c)⟩
theorem vsame_loop (l : List V) (hl : l.length ≤ 1099511627776) : ∀ n i : Nat,i + n = l.length → Ev (fun k => bodkinlaw03_same.l0 k l l (i : Int)) true := by
 intro n
 induction n with
 | zero => intro i hi;exact Ev.step (fun k => bodkinlaw03_same.l0.eq_2 ..) (ev_neg (by omega) (Ev.now _))
 | succ n ih =>
  intro i hi
  refine Ev.step (fun k => bodkinlaw03_same.l0.eq_2 ..) (ev_pos (by omega) (ev_pos (by omega) (ev_pos (by omega) (ev_neg (by simp) ?_))))
  rw [show wrap64 ((i : Int) + 1) = ((i + 1 : Nat) : Int) by unfold wrap64;omega]
  exact ih (i + 1) (by omega)
theorem vsame_refl (l : List V) (hl : l.length ≤ 1099511627776) : Ev (fun k => bodkinlaw03_same.f k l l) true := by
 unfold bodkinlaw03_same.f
 exact ev_pos rfl (vsame_loop l hl l.length 0 (by omega))
/-- What the law holds: three lists under one slice,two more aside. -/
structure Kp (B gA n1 n4 n6 : Nat) (W w : World) (LS LT : List V) (FX : List (List V)) (D E : Option Addr) (cd ce : Nat) : Prop where
 all : Kd.S kRow 46 w B (fun k => (n1 ≤ k ∧ k < n4) ∨ k = gA) (.slice (some ⟨gA,0,none⟩) 3 3) FX
 wa : RowAt B (fun k => n4 ≤ k ∧ k < n6) w (.slice D LS.length cd) LS
 wc : RowAt B (fun k => n4 ≤ k ∧ k < n6) w (.slice E LT.length ce) LT
 below : Below B W w
 lt : B ≤ n1 ∧ n1 ≤ n4 ∧ n4 ≤ n6 ∧ n6 ≤ gA ∧ gA < w.heap.size
theorem Kp.turn {B gA n1 n4 n6 : Nat} {W w w1 : World} {LS LT : List V} {FX FY : List (List V)} {D E : Option Addr} {cd ce : Nat} (h : Kp B gA n1 n4 n6 W w LS LT FX D E cd ce) (hk : Kept w w1 (fun k => (n1 ≤ k ∧ k < n4) ∨ k = gA)) (hB : Below B w w1)
  (hS : Kd.S kRow 46 w1 B (fun k => (n1 ≤ k ∧ k < n4) ∨ k = gA) (.slice (some ⟨gA,0,none⟩) 3 3) FY) : Kp B gA n1 n4 n6 W w1 LS LT FY D E cd ce := by
 obtain ⟨l1,l2,l3,l4,l5⟩ := h.lt
 exact ⟨hS,Kd.R_kept h.wa hk (fun k h1 h2 => by rcases h2 with h2 | h2 <;> omega),Kd.R_kept h.wc hk (fun k h1 h2 => by rcases h2 with h2 | h2 <;> omega),h.below.trans hB,l1,l2,l3,l4,Nat.lt_of_lt_of_le l5 hk.1⟩
theorem tabs_base {base : Nat} {w0 w : World} (h : Lib.Utf8Tabs 0 1 w0) (hb : Below base w0 w) (h2 : 2 ≤ base) : Lib.Utf8Tabs 0 1 w :=
 ⟨fun c hc => (hb.cell (p := ⟨0,c,none⟩) (by show 0 < base;omega)).trans (h.1 c hc),fun i hi => ⟨(hb.cell (p := ⟨1,2 * i,none⟩) (by show 1 < base;omega)).trans (h.2 i hi).1,(hb.cell (p := ⟨1,2 * i + 1,none⟩) (by show 1 < base;omega)).trans (h.2 i hi).2⟩⟩
theorem row_span {n m B : Nat} {ok : Nat → Prop} {w : World} {v : Value} {L : List V} (h : RowAt n ok w v L) (hok : ∀ k,ok k → k < m) (hB : B ≤ n) : RowAt B (fun k => n ≤ k ∧ k < m) w v L := Kd.R_lower (Kd.R_mono (Kd.R_bound h) (fun k hk => ⟨hk.2.1,hok k hk.1⟩)) hB
set_option maxRecDepth 100000 in
set_option maxHeartbeats 8000000 in
theorem keeps_any (s t : ByteArray) (W : World) (hs : s.size ≤ 1048576) (ht : t.size ≤ 1048576) (hT : Lib.Utf8Tabs 0 1 W) :
  Calls Tryd.prog 15 #[.string s,.string t] W fun e w' => e = .returned (.bool true) ∧ Below W.heap.size W w' := by
 have h2 : 2 ≤ W.heap.size := World.block_lt_of_cell? W _ (hT.2 0 (by decide)).1
 obtain ⟨kf,hkf'⟩ := fixed_ans
 have hkf := hkf' kf (Nat.le_refl _)
 have hlS := clusL_length s
 have hlT := clusL_length t
 obtain ⟨kS,hkS'⟩ := vsame_refl (clusL s) (by omega)
 obtain ⟨kT,hkT'⟩ := vsame_refl (clusL t) (by omega)
 have hkS := hkS' kS (Nat.le_refl _)
 have hkT := hkT' kT (Nat.le_refl _)
 clear hkf' hkS' hkT'
 have hLS : ∀ w : World,Lib.Utf8Tabs 0 1 w → Calls Tryd.prog 43 #[.string s] w fun e w' => ∃ v0_ : Value,e = .returned v0_ ∧ Kd.R k53 53 w' w.heap.size (fun _ => True) v0_ (clusL s) ∧ Below w.heap.size w w' := fun w h => clist_any s w (by omega) h
 have hLT : ∀ w : World,Lib.Utf8Tabs 0 1 w → Calls Tryd.prog 43 #[.string t] w fun e w' => ∃ v0_ : Value,e = .returned v0_ ∧ Kd.R k53 53 w' w.heap.size (fun _ => True) v0_ (clusL t) ∧ Below w.heap.size w w' := fun w h => clist_any t w (by omega) h
 generalize clusL s = LS at hkS hlS hLS
 generalize clusL t = LT at hkT hlT hLT
 go_enter Tryd.func15,Tryd.ntmps15
 go_upto_region 3 with (go_at_call 39;refine (bodkinlaw03_fixed.calls kf true rfl _ hT hkf).mono ?_;rintro e w1 ⟨rfl,hb1⟩)
 have hN1 := hb1
 go_upto_region 4 with (first | (go_at_call 43;(with_reducible refine (hLT _ (tabs_base hT hN3 h2)).mono ?_);rintro e w4 ⟨v2,rfl,hC4,hb4⟩;have hA4 := Kd.R_below hA3 hb4;have hB4 := Kd.R_old hB3 hb4;have hN4 := hN3.trans (hb4.mono hN3.size)) | (go_at_call 43;(with_reducible refine (hLS _ (tabs_base hT hN2 h2)).mono ?_);rintro e w3 ⟨v1,rfl,hB3,hb3⟩;have hA3 := Kd.R_old hA2 hb3;have hN3 := hN2.trans (hb3.mono hN2.size)) | (go_at_call 43;(with_reducible refine (hLS _ (tabs_base hT hN1 h2)).mono ?_);rintro e w2 ⟨v0,rfl,hA2,hb2⟩;have hN2 := hN1.trans (hb2.mono hN1.size)))
 go_upto_region 5 with (first | (go_at_call 43;(with_reducible refine (hLT _ (tabs_base hT hN5 h2)).mono ?_);rintro e w6 ⟨v4,rfl,hE6,hb6⟩;have hA6 := Kd.R_below hA5 hb6;have hB6 := Kd.R_below hB5 hb6;have hC6 := Kd.R_below hC5 hb6;have hD6 := Kd.R_old hD5 hb6;have hN6 := hN5.trans (hb6.mono hN5.size)) | (go_at_call 43;(with_reducible refine (hLS _ (tabs_base hT hN4 h2)).mono ?_);rintro e w5 ⟨v3,rfl,hD5,hb5⟩;have hA5 := Kd.R_below hA4 hb5;have hB5 := Kd.R_below hB4 hb5;have hC5 := Kd.R_old hC4 hb5;have hN5 := hN4.trans (hb5.mono hN4.size)))
 have z1 := hN1.size
 have z2 := hb2.size
 have z3 := hb3.size
 have z4 := hb4.size
 have z5 := hb5.size
 have z6 := hb6.size
 have rA := row_span hA6 (fun k hk => hk.2) z1
 have rB := row_span hB6 (fun k hk => hk.2) (Nat.le_trans z1 z2)
 have rC := row_span hC6 (fun k hk => hk.2) (Nat.le_trans z1 (Nat.le_trans z2 z3))
 have rD := row_span hD6 (fun k hk => hk.2) (Nat.le_trans z1 (Nat.le_trans z2 (Nat.le_trans z3 z4)))
 have rE := row_span (Kd.R_bound hE6) (fun k hk => hk.2.2.1) (Nat.le_trans z1 (Nat.le_trans z2 (Nat.le_trans z3 (Nat.le_trans z4 z5))))
 clear hA2 hA3 hA4 hA5 hA6 hB3 hB4 hB5 hB6 hC4 hC5 hC6 hD5 hD6 hE6 hb1 hb2 hb3 hb4 hb5 hb6 hN1 hN2 hN3 hN4 hN5 hkf
 obtain ⟨A0,c0,rfl⟩ := Kd.R_slice rA
 obtain ⟨A1,c1,rfl⟩ := Kd.R_slice rB
 obtain ⟨A2,c2,rfl⟩ := Kd.R_slice rC
 obtain ⟨A3,c3,rfl⟩ := Kd.R_slice rD
 obtain ⟨A4,c4,rfl⟩ := Kd.R_slice rE
 generalize w1.heap.size = n1 at rA z1 z2
 generalize w2.heap.size = n2 at rA rB z2 z3
 generalize w3.heap.size = n3 at rB rC z3 z4
 generalize w4.heap.size = n4 at rC rD z4 z5
 generalize w5.heap.size = n5 at rD rE z5 z6
 have hbs := hN6.size
 go_upto_region 7 with (first | (go_at_call 44;(with_reducible refine (bodkinlaw03_same.calls kT A2 c2 LT A4 c4 LT true _ (Kd.R_reads' rC8).2.2 (Kd.R_reads' rC8).2.1 (Kd.R_reads' rE8).2.2 (Kd.R_reads' rE8).2.1 hkT).mono ?_);rintro e w9 ⟨rfl,hd9⟩;have b9 := hd9.below;have rA9 := Kd.R_below rA8 b9;have rB9 := Kd.R_below rB8 b9;have rC9 := Kd.R_below rC8 b9;have rD9 := Kd.R_below rD8 b9;have rE9 := Kd.R_below rE8 b9;have hN9 := hN8.trans (b9.mono hN8.size)) | (go_at_call 44;(with_reducible refine (bodkinlaw03_same.calls kS A1 c1 LS A3 c3 LS true _ (Kd.R_reads' rB7).2.2 (Kd.R_reads' rB7).2.1 (Kd.R_reads' rD7).2.2 (Kd.R_reads' rD7).2.1 hkS).mono ?_);rintro e w8 ⟨rfl,hd8⟩;have b8 := hd8.below;have rA8 := Kd.R_below rA7 b8;have rB8 := Kd.R_below rB7 b8;have rC8 := Kd.R_below rC7 b8;have rD8 := Kd.R_below rD7 b8;have rE8 := Kd.R_below rE7 b8;have hN8 := hN7.trans (b8.mono hN7.size)) | (go_at_call 44;(with_reducible refine (bodkinlaw03_same.calls kS A0 c0 LS A3 c3 LS true _ (Kd.R_reads' rA).2.2 (Kd.R_reads' rA).2.1 (Kd.R_reads' rD).2.2 (Kd.R_reads' rD).2.1 hkS).mono ?_);rintro e w7 ⟨rfl,hd7⟩;have b7 := hd7.below;have rA7 := Kd.R_below rA b7;have rB7 := Kd.R_below rB b7;have rC7 := Kd.R_below rC b7;have rD7 := Kd.R_below rD b7;have rE7 := Kd.R_below rE b7;have hN7 := hN6.trans (b7.mono hbs)))
 have z9 := hN9.size
 have z69 : n5 ≤ w9.heap.size := by have := hd7.below.size;have := hd8.below.size;have := hd9.below.size;omega
 have hgA : w6.heap.size ≤ w9.heap.size := by have := hd7.below.size;have := hd8.below.size;have := hd9.below.size;omega
 have hS := S_three rA9 rB9 rC9 (fun k h1 h2 => by have := h1.2;have := h2.1;omega) (fun k h1 h2 => by have := h1.2;have := h2.1;omega) (fun k h1 h2 => by have := h1.2;have := h2.1;omega) z9 (ok := fun k => (n1 ≤ k ∧ k < n4) ∨ k = w9.heap.size) (fun k hk => .inl ⟨hk.1,by have := hk.2;omega⟩) (fun k hk => .inl ⟨by have := hk.1;omega,by have := hk.2;omega⟩) (fun k hk => .inl ⟨by have := hk.1;omega,hk.2⟩) (.inr rfl)
 have hal := below_alloc (Below.refl _ w9) (.cells #[.slice A0 LS.length c0,.slice A1 LS.length c1,.slice A2 LT.length c2] 46 (0,0))
 have hK : Kp W.heap.size w9.heap.size n1 n4 w6.heap.size W (w9.alloc (.cells #[.slice A0 LS.length c0,.slice A1 LS.length c1,.slice A2 LT.length c2] 46 (0,0))) LS LT [LS,LS,LT] A3 A4 c3 c4 :=
  ⟨hS,Kd.R_mono (Kd.R_below rD9 hal) (fun k hk => ⟨hk.1,by have := hk.2;omega⟩),Kd.R_mono (Kd.R_below rE9 hal) (fun k hk => ⟨by have := hk.1;omega,hk.2⟩),hN9.trans (hal.mono z9),z1,by omega,by omega,hgA,by rw [World.size_alloc];omega⟩
 go_upto_region 9 with (fail)
 generalize w9.alloc (.cells #[.slice A0 LS.length c0,.slice A1 LS.length c1,.slice A2 LT.length c2] 46 (0,0)) = wS at hK ⊢
 generalize w9.heap.size = gA at hK ⊢
 generalize w6.heap.size = n6 at hK
 clear hS hal rA rB rC rD rE rA7 rB7 rC7 rD7 rE7 rA8 rB8 rC8 rD8 rE8 rA9 rB9 rC9 rD9 rE9 b7 b8 b9 hd7 hd8 hd9 hN6 hN7 hN8 hN9 z1 z2 z3 z4 z5 z6 z9 z69 hgA hbs
 have hF3 : ([LS,LS,LT] : List (List V)).length = 3 := rfl
 have hoff : ∀ i,i ≤ 3 → offN [LS,LS,LT] i ≤ 3145728 := fun i hi => by
  rcases (show i = 0 ∨ i = 1 ∨ i = 2 ∨ i = 3 by omega) with rfl | rfl | rfl | rfl <;> simp [offN] <;> omega
 have hFr : ∀ j,(([LS,LS,LT] : List (List V)).getD j []).length ≤ 1048576 := fun j => by
  rcases (show j = 0 ∨ j = 1 ∨ j = 2 ∨ 3 ≤ j by omega) with rfl | rfl | rfl | h
  ·show LS.length ≤ _;omega
  ·show LS.length ≤ _;omega
  ·show LT.length ≤ _;omega
  ·rw [List.getD_eq_getElem?_getD,List.getElem?_eq_none (by rw [hF3];exact h)];exact Nat.zero_le _
 have hNb0 : Nb [LS,LS,LT] [LS,LS,LT] 0 0 := ⟨rfl,fun _ => rfl,fun j hj => absurd hj (Nat.not_lt_zero j),fun c hc => absurd hc (Nat.not_lt_zero c)⟩
 have hosc := offN_succ [LS,LS,LT]
 have ho0 : offN [LS,LS,LT] 0 = 0 := rfl
 generalize ([LS,LS,LT] : List (List V)) = FL at hK hF3 hoff hFr hNb0 hosc ho0
 have hFH := Lib.hid hF3
 clear hF3
 go_wp2_with (fail)
 go_loopw [10,12] (fun v10 v12 wr => ∃ (i : Nat) (FX : List (List V)),v12 = .int .i64 i ∧ v10 = .int .i64 (numZ (offN FL i)) ∧ i ≤ 3 ∧ Kp W.heap.size gA n1 n4 n6 W wr LS LT FX A3 A4 c3 c4 ∧ Nb FX FL i 0) (fun _ v _ => 3 - (intOf v).toNat)
 case atStart => exact ⟨0,FL,rfl,by rw [ho0];rfl,by omega,hK,hNb0⟩
 case round =>
  obtain ⟨i,FX,rfl,rfl,hi,hKi,hNi⟩ := hrel
  clear hK hNb0
  by_cases hlt : i < 3
  ·have hlt' : (i : Int) < 3 := by omega
   have hX3 : FX.length = 3 := hNi.n.trans hFH.out
   have hnl := hNi.l i
   have hni := hFr i
   generalize hLe : (FX.getD i []).length = n at hnl
   have hn2 : n ≤ 1048576 := by omega
   have hLeH := Lib.hid hLe
   have hX3H := Lib.hid hX3
   have hsucc := Lib.hid (hosc i (by rw [hFH.out];exact hlt))
   have hnlH := Lib.hid hnl
   have ho1 := hoff i (by omega)
   have ho2 : offN FL i + n ≤ 3145728 := by have := hoff (i + 1) (by omega);have := hsucc.out;omega
   clear hLe hX3 hnl hni
   go_wp2_with (fail)
   go_loopw [10,13] (fun v10 v13 wq => ∃ (k : Nat) (FY : List (List V)),v13 = .int .i64 k ∧ v10 = .int .i64 (numZ (offN FL i + k)) ∧ k ≤ n ∧ Hid ((FY.getD i []).length = n) ∧ Hid (FY.length = 3) ∧ Kp W.heap.size gA n1 n4 n6 W wq LS LT FY A3 A4 c3 c4 ∧ Nb FY FL i k) (fun _ v _ => n - (intOf v).toNat)
   case atStart => exact ⟨0,FX,rfl,rfl,Nat.zero_le _,hLeH,hX3H,hKi,hNi⟩
   case round =>
    obtain ⟨k,FY,rfl,rfl,hk,hLY,hY3,hKk,hNk⟩ := hrel
    clear hKi hNi
    have hSk := hKk.all
    by_cases hkl : k < n
    ·have hkl' : (k : Int) < (n : Int) := by omega
     obtain ⟨gi,c9,r0,hcc,hgk,hgb,hgne,⟨x0,x1,x2,x3⟩,yf,hS2⟩ := S_cell (cap := 3) (rows := FY) (by rw [hY3.out];exact hSk) i (by rw [hY3.out];exact hlt) k (by rw [hLY.out];exact hkl) ⟨numZ (offN FL i + k + 1),0,0,0⟩
     have f0 : wr.frozen? ⟨gi,k * 4,none⟩ = false := yf 0 (by decide)
     have f1 := yf 1 (by decide)
     have f2 := yf 2 (by decide)
     have f3 := yf 3 (by decide)
     have hO2 := hNk.cell (by rw [hY3.out];exact hlt) (by rw [hLY.out];exact hkl) ⟨numZ (offN FL i + k + 1),0,0,0⟩ rfl
     have hl2 : Hid (((FY.set i ((FY.getD i []).set k ⟨numZ (offN FL i + k + 1),0,0,0⟩)).getD i []).length = n) := Lib.hid (by
      rw [rwV_set _ _ _ _ (by rw [hY3.out];exact hlt),if_pos rfl,List.length_set]
      exact hLY.out)
     have hl3 : Hid ((FY.set i ((FY.getD i []).set k ⟨numZ (offN FL i + k + 1),0,0,0⟩)).length = 3) := Lib.hid (by rw [List.length_set];exact hY3.out)
     rw [hLY.out] at r0 hcc
     rw [hY3.out] at hS2
     obtain ⟨hBp,hKp⟩ := kept_put (base := W.heap.size) (g := gi) (S := fun b => (n1 ≤ b ∧ b < n4) ∨ b = gA) k ⟨numZ (offN FL i + k + 1),0,0,0⟩ hgb hgk (Below.refl _ wr) (Kept.refl wr _)
     have hK2 := hKk.turn hKp hBp hS2
     obtain ⟨hw1,hw2⟩ := numZ_next (offN FL i + k) (by omega)
     clear hSk hS2 hBp hKp yf hKk hNk
     go_wp2_with (fail)
     go_roundw
     case rel => exact ⟨k + 1,_,by go_num,rfl,by omega,hl2,hl3,hK2,hO2⟩
     case measure => simp [intOf];omega
    ·have hkl' := eq_false (show ¬ (k : Int) < (n : Int) by omega)
     have hkn := Lib.hid (show k = n by omega)
     obtain ⟨oki,A,c9,hR,r0,_,_,_⟩ := row_of (cap := 3) (rows := FY) (by rw [hY3.out];exact hSk) i (by rw [hY3.out];exact hlt)
     rw [hLY.out] at r0
     go_wp2_with (fail)
     go_roundw
     case rel => exact ⟨i + 1,FY,by go_num,by rw [hsucc.out,hnlH.out.symm,hkn.out],by omega,hKk,hNk.next (by rw [hLY.out];exact hkn.out)⟩
     case measure => simp [intOf];omega
  ·have hie := Lib.hid (show i = 3 by omega)
   have hlt' := eq_false (show ¬ (i : Int) < 3 by omega)
   have hX3 : Hid (FX.length = 3) := Lib.hid (hNi.n.trans hFH.out)
   have hNH : Nb FX FL 3 0 := hie.out ▸ hNi
   go_wp2_with (fail)
   clear hNi hie hlt'
   go_loopw [14] (fun v wr => ∃ i2 : Nat,v = .int .i64 i2 ∧ i2 ≤ 3 ∧ Kp W.heap.size gA n1 n4 n6 W wr LS LT FX A3 A4 c3 c4) (fun v _ => 3 - (intOf v).toNat)
   case atStart => exact ⟨0,rfl,by omega,hKi⟩
   case round =>
    obtain ⟨i2,rfl,hi2,hK2⟩ := hrel
    clear hKi
    by_cases hlt : i2 < 3
    ·have hlt' : (i2 : Int) < 3 := by omega
     obtain ⟨oki,A,c9,hR,r0,_,hoki,hH⟩ := row_of (cap := 3) (rows := FX) (by rw [hX3.out];exact hK2.all) i2 (by rw [hX3.out];exact hlt)
     have hll : (FX.getD i2 []).length ≤ 1048576 := by rw [hNH.l];exact hFr i2
     generalize hLe : FX.getD i2 [] = L at hR r0 hH hll
     have hLeH := Lib.hid hLe
     clear hLe
     have hPr := Pr.start hR (Nat.le_refl _)
     have hbAw : W.heap.size ≤ wr.heap.size := hK2.below.size
     go_upto_block 6 with (fail)
     generalize hws : wr = ws at hK2 hR hH hPr hbAw r0 ⊢
     go_wp2_with (fail)
     go_loopw [15,16] (fun v15 v16 wr => ∃ (j : Nat) (X : List V) (rv : Value),v15 = rv ∧ v16 = .int .i64 j ∧ j ≤ 20 ∧ X.length = L.length + j ∧ Pr W.heap.size ws.heap.size oki wr (.slice A L.length c9) rv L X ∧ Kept ws wr oki ∧ Below W.heap.size ws wr) (fun _ v _ => 20 - (intOf v).toNat)
     case atStart => exact ⟨0,L,_,rfl,rfl,Nat.zero_le _,rfl,hPr,Kept.refl _ _,Below.refl _ _⟩
     case round =>
      obtain ⟨j,X,rv,rfl,rfl,hj,hXl,hP,hK,hB⟩ := hrel
      by_cases hj2 : j < 20
      ·have hj' : (j : Int) < 20 := by omega
       have hsz := hK.1
       have hXb : X.length ≤ 1099511627776 := by omega
       have hXH := Lib.hid hXl
       clear hXl
       go_wp2_with ((with_reducible refine gate_builtin (b := .append) (xs := #[.tmp 90,.tmp 92]) rfl ?_);at_builtin;(refine pr_append (w0 := ws) W.heap.size rfl (.tmp 90) (.tmp 92) rfl (⟨-1,0,0,0⟩ : V) rfl rfl hP hsz hB (Nat.le_trans hbAw hsz) hXb ?_;intro v1 w1 hP1 hB1 hg1))
       have hK1 := Kept.of_grown hg1 hK (fun b hb => by
        rcases hP.fr with he | hf
        ·exact .inl (hP.s.1 b (he ▸ hb))
        ·exact .inr (hf b hb))
       go_roundw
       case rel => exact ⟨j + 1,_,_,rfl,by go_num,by omega,by rw [List.length_append,hXH.out];rfl,hP1,hK1,hB1⟩
       case measure => simp [intOf];omega
      ·have hj' := eq_false (show ¬ (j : Int) < 20 by omega)
       have hH3 := Kd.H_kept hH hK (fun b _ hn he => hn he)
       have hS3 := Kd.H_back hH3 (Kd.M_row hP.s) (fun b hb => hb)
       rw [Int.toNat_natCast,← hLeH.out,setV_same,hX3.out] at hS3
       have hK3 := hK2.turn (hK.mono (fun b hb => (hoki b hb).1)) hB hS3
       go_wp2_with (fail)
       go_roundw
       case rel => exact ⟨i2 + 1,by go_num,by omega,hK3⟩
       case measure => simp [intOf];omega
    ·have hlt' := eq_false (show ¬ (i2 : Int) < 3 by omega)
     go_wp2_with (fail)
     clear hlt' hlt
     go_loopw [10,17] (fun v10 v17 wr => ∃ i3 : Nat,v17 = .int .i64 i3 ∧ v10 = .int .i64 (numZ (offN FL i3)) ∧ i3 ≤ 3 ∧ Kp W.heap.size gA n1 n4 n6 W wr LS LT FX A3 A4 c3 c4) (fun _ v _ => 3 - (intOf v).toNat)
     case atStart => exact ⟨0,rfl,by rw [ho0];rfl,by omega,hK2⟩
     case round =>
      obtain ⟨i3,rfl,rfl,hi3,hK3⟩ := hrel
      clear hK2
      by_cases hlt : i3 < 3
      ·have hlt' : (i3 : Int) < 3 := by omega
       have hni := hFr i3
       rw [← hNH.l] at hni
       have hsucc := Lib.hid (hosc i3 (by rw [hFH.out];exact hlt))
       have hnl := Lib.hid (hNH.l i3)
       have ho1 := hoff i3 (by omega)
       have ho2 : offN FL i3 + (FL.getD i3 []).length ≤ 3145728 := by have := hoff (i3 + 1) (by omega);have := hsucc.out;omega
       rw [← hnl.out] at ho2
       have hd9 := hNH.d i3 hlt
       generalize hLe : (FX.getD i3 []).length = n at hni ho2 hd9
       have hLeH := Lib.hid hLe
       clear hLe
       go_wp2_with (fail)
       go_loopw [10,18] (fun v10 v18 wq => ∃ k : Nat,v18 = .int .i64 k ∧ v10 = .int .i64 (numZ (offN FL i3 + k)) ∧ k ≤ n ∧ Kp W.heap.size gA n1 n4 n6 W wq LS LT FX A3 A4 c3 c4) (fun _ v _ => n - (intOf v).toNat)
       case atStart => exact ⟨0,rfl,rfl,Nat.zero_le _,hK3⟩
       case round =>
        obtain ⟨k,rfl,rfl,hk,hKk⟩ := hrel
        clear hK3
        have hSk := hKk.all
        by_cases hkl : k < n
        ·have hkl' : (k : Int) < (n : Int) := by omega
         obtain ⟨gi,c9,r0,hcc,hgk,hgb,hgne,⟨x0,x1,x2,x3⟩,yf,hS2⟩ := S_cell (cap := 3) (rows := FX) (by rw [hX3.out];exact hSk) i3 (by rw [hX3.out];exact hlt) k (by rw [hLeH.out];exact hkl) no
         rw [hLeH.out] at r0 hcc
         rw [hd9 k hkl] at x0
         obtain ⟨hw1,hw2⟩ := numZ_next (offN FL i3 + k) (by omega)
         clear hSk hS2 yf hgk hgb hgne
         go_wp2_with (fail)
         go_roundw
         case rel => exact ⟨k + 1,by go_num,rfl,by omega,hKk⟩
         case measure => simp [intOf];omega
        ·have hkl' := eq_false (show ¬ (k : Int) < (n : Int) by omega)
         have hkn := Lib.hid (show k = n by omega)
         obtain ⟨oki,A,c9,hR,r0,_,_,_⟩ := row_of (cap := 3) (rows := FX) (by rw [hX3.out];exact hSk) i3 (by rw [hX3.out];exact hlt)
         rw [hLeH.out] at r0
         go_wp2_with (fail)
         go_roundw
         case rel => exact ⟨i3 + 1,by go_num,by rw [hsucc.out,hnl.out.symm,hLeH.out,hkn.out],by omega,hKk⟩
         case measure => simp [intOf];omega
      ·have hlt' := eq_false (show ¬ (i3 : Int) < 3 by omega)
       have hNz := hK3.below
       have hwa := hK3.wa
       have hwc := hK3.wc
       have hzz := hNz.size
       go_wp2_with (first | (go_at_call 44;(with_reducible refine (bodkinlaw03_same.calls kT A4 c4 LT A8 c8 LT true _ (Kd.R_reads' hwc22).2.2 (Kd.R_reads' hwc22).2.1 (Kd.R_reads' hT22).2.2 (Kd.R_reads' hT22).2.1 hkT).mono ?_);rintro e w23 ⟨rfl,hd23⟩;have hN23 := hN22.trans (hd23.below.mono hN22.size)) | (go_at_call 43;(with_reducible refine (hLT _ (tabs_base hT hN21 h2)).mono ?_);rintro e w22 ⟨v22,rfl,hT22,hb22⟩;obtain ⟨A8,c8,rfl⟩ := Kd.R_slice hT22;have hwc22 := Kd.R_below hwc21 hb22;have hN22 := hN21.trans (hb22.mono hN21.size)) | (go_at_call 44;(with_reducible refine (bodkinlaw03_same.calls kS A3 c3 LS A7 c7 LS true _ (Kd.R_reads' hwa20).2.2 (Kd.R_reads' hwa20).2.1 (Kd.R_reads' hS20).2.2 (Kd.R_reads' hS20).2.1 hkS).mono ?_);rintro e w21 ⟨rfl,hd21⟩;have hwc21 := Kd.R_below hwc20 hd21.below;have hN21 := hN20.trans (hd21.below.mono hN20.size)) | (go_at_call 43;(with_reducible refine (hLS _ (tabs_base hT hNz h2)).mono ?_);rintro e w20 ⟨v20,rfl,hS20,hb20⟩;obtain ⟨A7,c7,rfl⟩ := Kd.R_slice hS20;have hwa20 := Kd.R_below hwa hb20;have hwc20 := Kd.R_below hwc hb20;have hN20 := hNz.trans (hb20.mono hzz)))
       go_ret
       exact ⟨rfl,hN23⟩
def bodkinlaw03_ClusterKeeps.f (a0 a1 : ByteArray) : Option Bool := if a0.size ≤ 1048576 ∧ a1.size ≤ 1048576 then some true else none
theorem bodkinlaw03_ClusterKeeps.calls (a0 a1 : ByteArray) (r : Bool) (w : World) (hT : Lib.Utf8Tabs 0 1 w) (h : bodkinlaw03_ClusterKeeps.f a0 a1 = some r) :
  Calls Tryd.prog 15 #[.string a0,.string a1] w fun e w' => e = .returned (.bool r) ∧ Below w.heap.size w w' := by
 unfold bodkinlaw03_ClusterKeeps.f at h
 split at h
 ·rename_i hs
  obtain rfl := Option.some.inj h
  exact keeps_any a0 a1 w hs.1 hs.2 hT
 ·cases h
end Go.Proofs.YtfhnfhgpaoddbaaDoor.U
end
section
namespace Go.Proofs.YtfhnfhgpaoddbaaDoor.Pure
open Go Go.RowKit Go.Proofs.YtfhnfhgpaoddbaaDoor.U
theorem ClusterKeeps (a0 a1 : ByteArray) (u0 : a0.size ≤ 1048576) (u1 : a1.size ≤ 1048576) : bodkinlaw03_ClusterKeeps.f a0 a1 = some true := if_pos ⟨u0,u1⟩
end Go.Proofs.YtfhnfhgpaoddbaaDoor.Pure
end
section
namespace Go.Proofs.YtfhnfhgpaoddbaaDoor.Lf
open Go.Lib Go.Proofs
theorem own : ownKnob Tryd.prog.godebug = none := by kernel_rfl
theorem extra : U8Extra Tryd.prog Tryd.lays260_ren := {
 n3 := by kernel_rfl
 n4 := by kernel_rfl
 y3 := by kernel_rfl
 y4 := by kernel_rfl
 c5 := by kernel_rfl
 c119 := by kernel_rfl
 c138 := by kernel_rfl }
theorem first_eq : Rows.laid_unicode_utf8_first = Lib.firstData := by kernel_rfl
theorem accept_eq : (Rows.laid_unicode_utf8_acceptRanges : DataW Unit) = Lib.acceptData := by kernel_rfl
abbrev laid : List (String × DataW Unit) := [("unicode/utf8.acceptRanges", Rows.laid_unicode_utf8_acceptRanges), ("unicode/utf8.first", Rows.laid_unicode_utf8_first)]
/-- The two tables lie as the contracts ask. -/
theorem tabs {W : World} (h : laidMetH Tryd.prog laid W) : Lib.Utf8Tabs 0 1 W := by
  rw [MakeChecks.laidMetH_plain _ _ _ (by kernel_rfl)] at h
  have h3 := laidMet.reads h (n := "unicode/utf8.first") (d := Rows.laid_unicode_utf8_first) (List.mem_cons_of_mem _ List.mem_cons_self)
  have h4 := laidMet.reads h (n := "unicode/utf8.acceptRanges") (d := Rows.laid_unicode_utf8_acceptRanges) List.mem_cons_self
  rw [first_eq] at h3
  rw [accept_eq] at h4
  exact utf8Tabs_of_reads Tryd.lays260 extra h3 h4
/-- The world of the witness: the settled one,the tables laid. -/
noncomputable abbrev wit (os : Os) : World := World.laidAll Tryd.prog os laid
theorem wit_laid (os : Os) (args : Array Value) : laidMetH Tryd.prog laid ((wit os).forCall (fun _ _ => 0) ⟨#[],args,[]⟩).memory := by
 rw [MakeChecks.laidMetH_plain _ _ _ (by kernel_rfl)]
 exact laidMet_laidAll _ (by kernel_rfl) (by kernel_rfl)
theorem wit_shaped (os : Os) (args : Array Value) : ((wit os).forCall (fun _ _ => 0) ⟨#[],args,[]⟩).Shaped Tryd.prog :=
 World.shaped_of_ZipB (by kernel_rfl) (by kernel_rfl)
end Go.Proofs.YtfhnfhgpaoddbaaDoor.Lf
end
