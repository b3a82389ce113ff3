/- What the law ChangeCases reaches of this seat's own texts, merged; what nothing uses is left out. -/
import Derived.Test.YtfmnmjoofnbnfaaDoorZChangeCases0
import Derived.Test.YtfmnmjoofnbnfaaDoorZChangeCases4
import Derived.Test.YtfmnmjoofnbnfaaDoorZChangeCases9
section
namespace Go.Proofs.YtfmnmjoofnbnfaaDoor.U
open Go.RowKit Go.Shelf Go.Proofs.YtfmnmjoofnbnfaaDoor.Mu Go.Proofs.YtfmnmjoofnbnfaaDoor.Pu Go.Proofs.YtfmnmjoofnbnfaaDoor.Rg Go.Proofs.YtfmnmjoofnbnfaaDoorW.PrintWords Go.Proofs.YtfmnmjoofnbnfaaDoorW.PrintLast Go.Proofs.YtfmnmjoofnbnfaaDoorW.PrintMore
set_option linter.unusedVariables false
set_option linter.unusedSimpArgs false
/-- What a command makes: where,how much is cut,what is put,the cursor,what is killed,ahead;the error. -/
abbrev Res := Int × Int × ByteArray × Int × ByteArray × Bool × Int
def resV (r : Res) : Value := .tuple #[.agg #[.int .i64 r.1,.int .i64 r.2.1,.string r.2.2.1,.int .i64 r.2.2.2.1,.string r.2.2.2.2.1,.bool r.2.2.2.2.2.1],.int .i64 r.2.2.2.2.2.2]
def cutZ (s : ByteArray) (k f : Bool) (i j : Int) : Res := if i = j then (0,0,⟨#[]⟩,0,⟨#[]⟩,false,8) else (i,j - i,⟨#[]⟩,i,if k = true then s.extract i.toNat j.toNat else ⟨#[]⟩,k && f,0)
/-- What lies at these blocks. -/
def Sees (L : List (Nat × Obj)) (w : World) : Prop := ∀ p ∈ L,w.heap[p.1]? = some p.2
theorem Sees.below {L : List (Nat × Obj)} {w w' : World} (h : Sees L w) (hb : Below w.heap.size w w') : Sees L w' := fun p hp => work_kept (h p hp) hb
def cutL (q : Wk) (k f : Bool) (g0 g1 b0 b1 b2 b3 B : Nat) : List (Nat × Obj) :=
 [(b0,.cells #[fnV g0] 77 (0,0)),(b1,.cells #[fnV g1] 77 (0,0)),(b2,.cells #[.bool k] 4 (0,0)),(b3,.cells #[.bool f] 4 (0,0)),
  (B,.cells #[.string q.text,.int .i64 q.at0,.int .i64 q.region,.int .i64 q.n] 52 (0,0))]
theorem put6 {w : World} {g : Nat} {t : TypeId} {c0 c1 c2 c3 c4 c5 : Value} (h : w.heap[g]? = some (.cells #[c0,c1,c2,c3,c4,c5] t (0,0))) (u0 u1 u2 u3 u4 u5 : Value) :
  ((((((w.setCell ⟨g,0,none⟩ u0).setCell ⟨g,1,none⟩ u1).setCell ⟨g,2,none⟩ u2).setCell ⟨g,3,none⟩ u3).setCell ⟨g,4,none⟩ u4).setCell ⟨g,5,none⟩ u5).heap[g]? = some (.cells #[u0,u1,u2,u3,u4,u5] t (0,0)) :=
 blk_put (cs := #[u0,u1,u2,u3,u4,c5]) (blk_put (cs := #[u0,u1,u2,u3,c4,c5]) (blk_put (cs := #[u0,u1,u2,c3,c4,c5]) (blk_put (cs := #[u0,u1,c2,c3,c4,c5]) (blk_put (cs := #[u0,c1,c2,c3,c4,c5]) (blk_put h 0 u0 rfl) 1 u1 rfl) 2 u2 rfl) 3 u3 rfl) 4 u4 rfl) 5 u5 rfl
theorem below6 {w W : World} {g : Nat} (h : Below w.heap.size w W) (hg : w.heap.size ≤ g) (u0 u1 u2 u3 u4 u5 : Value) :
  Below w.heap.size w ((((((W.setCell ⟨g,0,none⟩ u0).setCell ⟨g,1,none⟩ u1).setCell ⟨g,2,none⟩ u2).setCell ⟨g,3,none⟩ u3).setCell ⟨g,4,none⟩ u4).setCell ⟨g,5,none⟩ u5) :=
 below_set (below_set (below_set (below_set (below_set (below_set h hg) hg) hg) hg) hg) hg
theorem Sees.set {L : List (Nat × Obj)} {w : World} {g : Nat} (h : Sees L w) (hL : ∀ p ∈ L,p.1 < g) (j : Nat) (v : Value) : Sees L (w.setCell ⟨g,j,none⟩ v) := fun p hp => (Below.heap_setCell w ⟨g,j,none⟩ v p.1 (by have := hL p hp;show p.1 ≠ g;omega)).trans (h p hp)
theorem cell_one {W : World} {b : Nat} {v : Value} {t : TypeId} (h : W.heap[b]? = some (.cells #[v] t (0,0))) : W.cell? ⟨b,0,none⟩ = some v := by simp [World.cell?,h]
theorem cut_start (q : Wk) (k f : Bool) (g0 g1 b0 b1 b2 b3 : Nat) (W : World)
  (h0 : W.heap[b0]? = some (.cells #[fnV g0] 77 (0,0))) (h1 : W.heap[b1]? = some (.cells #[fnV g1] 77 (0,0))) (h2 : W.heap[b2]? = some (.cells #[.bool k] 4 (0,0))) (h3 : W.heap[b3]? = some (.cells #[.bool f] 4 (0,0))) (o : Obj) :
  Sees (cutL q k f g0 g1 b0 b1 b2 b3 W.heap.size) ((W.alloc (.cells #[.string q.text,.int .i64 q.at0,.int .i64 q.region,.int .i64 q.n] 52)).alloc o) ∧
  ((W.alloc (.cells #[.string q.text,.int .i64 q.at0,.int .i64 q.region,.int .i64 q.n] 52)).alloc o).heap[W.heap.size + 1]? = some o ∧
  Below W.heap.size W ((W.alloc (.cells #[.string q.text,.int .i64 q.at0,.int .i64 q.region,.int .i64 q.n] 52)).alloc o) ∧
  ((W.alloc (.cells #[.string q.text,.int .i64 q.at0,.int .i64 q.region,.int .i64 q.n] 52)).alloc o).heap.size = W.heap.size + 2 := by
 refine ⟨?_,al_next _ _ _,((Below.refl _ W).alloc (Nat.le_refl _) _).alloc (by rw [World.size_alloc];omega) _,by rw [World.size_alloc,World.size_alloc]⟩
 intro p hp
 simp only [cutL,List.mem_cons,List.not_mem_nil,or_false] at hp
 rcases hp with rfl | rfl | rfl | rfl | rfl
 ·exact al_kept (al_kept h0 _) _
 ·exact al_kept (al_kept h1 _) _
 ·exact al_kept (al_kept h2 _) _
 ·exact al_kept (al_kept h3 _) _
 ·exact al_kept (World.alloc_heap_new _ _) _
theorem cut_cells {q : Wk} {k f : Bool} {g0 g1 b0 b1 b2 b3 B : Nat} {w : World} (h : Sees (cutL q k f g0 g1 b0 b1 b2 b3 B) w) :
  w.cell? ⟨b0,0,none⟩ = some (fnV g0) ∧ w.cell? ⟨b1,0,none⟩ = some (fnV g1) ∧ w.cell? ⟨b2,0,none⟩ = some (.bool k) ∧ w.cell? ⟨b3,0,none⟩ = some (.bool f) ∧
  w.cell? ⟨B,0,none⟩ = some (.string q.text) ∧ w.cell? ⟨B,1,none⟩ = some (.int .i64 q.at0) ∧ w.cell? ⟨B,2,none⟩ = some (.int .i64 q.region) ∧ w.cell? ⟨B,3,none⟩ = some (.int .i64 q.n) :=
 ⟨cell_one (h _ (.head _)),cell_one (h _ (.tail _ (.head _))),cell_one (h _ (.tail _ (.tail _ (.head _)))),cell_one (h _ (.tail _ (.tail _ (.tail _ (.head _))))),work_cells (h _ (.tail _ (.tail _ (.tail _ (.tail _ (.head _))))))⟩
def cut1.T : Bool × List (List Nat × List Nat) := (true,[([],[]),([],[]),([0,1],[0,1]),([],[]),([],[]),([3,4,2],[3,4]),([2,5,0,1,2],[2]),([5,6,0,1,2,3,4,5,6],[5])])
def cut1.B : List Nat := [0,0,3,0,0,31,63,127]
theorem cut1.tab : rtab .any (opsOf Tryd.f46 1) = cut1.T := by kernel_rfl
theorem cut1.bits : waitsOk cut1.T.2 cut1.B = true := by kernel_rfl
def cut6.T : Bool × List (List Nat × List Nat) := (true,[([],[]),([0],[0]),([],[]),([],[]),([1,2,3],[1,2,3]),([],[]),([0,1,2,3,4],[]),([6,4,0,1,2,3,4],[4,6]),([0,1,2,3,4,5,6,7],[]),([8,5,7,0,1,2,3,4,5,6,7],[5,8])])
def cut6.B : List Nat := [0,1,0,0,15,0,31,95,255,511]
theorem cut6.tab : rtab .any (opsOf Tryd.f46 6) = cut6.T := by kernel_rfl
theorem cut6.bits : waitsOk cut6.T.2 cut6.B = true := by kernel_rfl
set_option maxRecDepth 100000 in
set_option maxHeartbeats 4000000 in
theorem cut_calls (q : Wk) (k f : Bool) (g0 g1 b0 b1 b2 b3 : Nat) (i j : Int) (W : World) (hT : Lib.Utf8Tabs 1 2 W)
  (h0 : W.heap[b0]? = some (.cells #[fnV g0] 77 (0,0))) (h1 : W.heap[b1]? = some (.cells #[fnV g1] 77 (0,0))) (h2 : W.heap[b2]? = some (.cells #[.bool k] 4 (0,0))) (h3 : W.heap[b3]? = some (.cells #[.bool f] 4 (0,0)))
  (e0 : ∀ args w,(callFunc g0 args).run Tryd.prog w = .ok (.enter g0 args) w) (e1 : ∀ args w,(callFunc g1 args).run Tryd.prog w = .ok (.enter g1 args) w) (l0 : Leads g0 q i) (l1 : Leads g1 q j) (hij : 0 ≤ i ∧ i ≤ j ∧ j ≤ q.text.size) (hs : q.text.size ≤ 1099511627776) :
  Calls Tryd.prog 46 #[.agg #[.string q.text,.int .i64 q.at0,.int .i64 q.region,.int .i64 q.n],.pointer (some ⟨b0,0,none⟩),.pointer (some ⟨b1,0,none⟩),.pointer (some ⟨b2,0,none⟩),.pointer (some ⟨b3,0,none⟩)] W fun e w' => e = .returned (resV (cutZ q.text k f i j)) ∧ Below W.heap.size W w' := by
 have hu := Tryd.underlying52
 have hu2 := Tryd.underlying30
 have hu3 := Tryd.underlying28
 go_enter Tryd.func46,Tryd.ntmps46
 go_upto_region 1 with (fail)
 obtain ⟨hL,hZ,hB,hsz⟩ := cut_start q k f g0 g1 b0 b1 b2 b3 W h0 h1 h2 h3 (.cells #[.int .i64 0,.int .i64 0,.string (⟨#[]⟩ : ByteArray),.int .i64 0,.string (⟨#[]⟩ : ByteArray),.bool false] 30)
 generalize (W.alloc (.cells #[.string q.text,.int .i64 q.at0,.int .i64 q.region,.int .i64 q.n] 52)).alloc (.cells #[.int .i64 0,.int .i64 0,.string (⟨#[]⟩ : ByteArray),.int .i64 0,.string (⟨#[]⟩ : ByteArray),.bool false] 30) = W1 at hL hZ hB hsz ⊢
 have hL1 : Sees (cutL q k f g0 g1 b0 b1 b2 b3 W.heap.size) W1.drew := hL
 have hZ1 : W1.drew.heap[W.heap.size + 1]? = _ := hZ
 have HB := below_drew1 hB
 have hsz1 : W1.drew.heap.size = W.heap.size + 2 := hsz
 refine start_ (n := 8) (S := Sees (cutL q k f g0 g1 b0 b1 b2 b3 W.heap.size)) (ds := []) #[false,false,false,false,false,false,false,false] (by kernel_rfl) rfl rfl hL1 (fun hHeld => ?_);refine with_tabW cut1.tab cut1.bits (fun HT_ HW_ => ?_)
 generalize W1.drew = W2 at hL1 hZ1 HB hsz1 hHeld ⊢
 clear hL hZ hB hsz h0 h1 h2 h3
 refine take_ (i := 0) (N := (some 11)) (v := ?_) (a' := ?_) #[true,false,false,false,false,false,false,false] rfl rfl (take_ofW HT_.out HW_.out (by kernel_rfl)) (fun _ _ _ h => h) (Or.inl ⟨by rfl,?_⟩) hHeld ?_ ?_
 rotate_left
 ·intro w' hS_
  obtain ⟨s0,s1,s2,s3,s4,s5,s6,s7⟩ := cut_cells hS_
  go_simp
  with_reducible rfl
 rotate_left
 ·simp only [Act.put,List.setIfInBounds_toArray,List.set_cons_zero,List.set_cons_succ,i64_w,i32_w]
  rfl
 refine take_ (i := 1) (N := (some 12)) (v := ?_) (a' := ?_) #[true,true,false,false,false,false,false,false] rfl rfl (take_ofW HT_.out HW_.out (by kernel_rfl)) (fun _ _ _ h => h) (Or.inl ⟨by rfl,?_⟩) hHeld ?_ ?_
 rotate_left
 ·intro w' hS_
  obtain ⟨s0,s1,s2,s3,s4,s5,s6,s7⟩ := cut_cells hS_
  go_simp
  with_reducible rfl
 rotate_left
 ·simp only [Act.put,List.setIfInBounds_toArray,List.set_cons_zero,List.set_cons_succ,i64_w,i32_w]
  rfl
 refine take_ (i := 3) (N := (some 14)) (v := ?_) (a' := ?_) #[true,true,false,true,false,false,false,false] rfl rfl (take_ofW HT_.out HW_.out (by kernel_rfl)) (fun _ _ _ h => h) (Or.inl ⟨by rfl,?_⟩) hHeld ?_ ?_
 rotate_left
 ·intro w' hS_
  obtain ⟨s0,s1,s2,s3,s4,s5,s6,s7⟩ := cut_cells hS_
  go_simp
  with_reducible rfl
 rotate_left
 ·simp only [Act.put,List.setIfInBounds_toArray,List.set_cons_zero,List.set_cons_succ,i64_w,i32_w]
  rfl
 refine take_ (i := 4) (N := (some 15)) (v := ?_) (a' := ?_) #[true,true,false,true,true,false,false,false] rfl rfl (take_ofW HT_.out HW_.out (by kernel_rfl)) (fun _ _ _ h => h) (Or.inl ⟨by rfl,?_⟩) hHeld ?_ ?_
 rotate_left
 ·intro w' hS_
  obtain ⟨s0,s1,s2,s3,s4,s5,s6,s7⟩ := cut_cells hS_
  go_simp
  with_reducible rfl
 rotate_left
 ·simp only [Act.put,List.setIfInBounds_toArray,List.set_cons_zero,List.set_cons_succ,i64_w,i32_w]
  rfl
 refine one_ (i := 2) (N := (some 13)) #[true,true,true,true,true,false,false,false] rfl rfl (one_of HT_.out (by kernel_rfl)) (by decide) (fun K hK => ?_)
 refine call_ g0 #[.agg #[.string q.text,.int .i64 q.at0,.int .i64 q.region,.int .i64 q.n]] (by rfl) rfl (by unfold execOp;simp [resolve,Deferred.ofValue,invoke,Act.eval,fnV,e0]) ?_
 refine (l0 _ (tabs_below hT HB)).mono ?_
 rintro e W3 ⟨rfl,hb⟩
 have hL2 := hL1.below hb
 have hZ2 := work_kept hZ1 hb
 have HB2 := HB.trans (hb.mono HB.size)
 have hs2 := hb.size
 refine ⟨_,rfl,?_⟩
 refine hK.out _ _ hL2 (fun hHeld => ?_)
 clear hK K hL1 hZ1 HB
 have hL1 := hL2
 have hZ1 := hZ2
 have HB := HB2
 clear hL2 hZ2 HB2 hb
 refine norm_ (a' := ?_) ?_ ?_
 rotate_left
 ·show Act.put _ (some 13) _ = _
  simp only [Act.put,List.setIfInBounds_toArray,List.set_cons_zero,List.set_cons_succ,i64_w,i32_w]
  rfl
 refine one_ (i := 5) (N := (some 16)) #[true,true,true,true,true,true,false,false] rfl rfl (one_of HT_.out (by kernel_rfl)) (by decide) (fun K hK => ?_)
 refine call_ g1 #[.agg #[.string q.text,.int .i64 q.at0,.int .i64 q.region,.int .i64 q.n]] (by rfl) rfl (by unfold execOp;simp [resolve,Deferred.ofValue,invoke,Act.eval,fnV,e1]) ?_
 refine (l1 _ (tabs_below hT HB)).mono ?_
 rintro e W4 ⟨rfl,hb⟩
 have hL2 := hL1.below hb
 have hZ2 := work_kept hZ1 hb
 have HB2 := HB.trans (hb.mono HB.size)
 have hs2 := hb.size
 refine ⟨_,rfl,?_⟩
 refine hK.out _ _ hL2 (fun hHeld => ?_)
 clear hK K hL1 hZ1 HB
 have hL1 := hL2
 have hZ1 := hZ2
 have HB := HB2
 clear hL2 hZ2 HB2 hb
 refine norm_ (a' := ?_) ?_ ?_
 rotate_left
 ·show Act.put _ (some 16) _ = _
  simp only [Act.put,List.setIfInBounds_toArray,List.set_cons_zero,List.set_cons_succ,i64_w,i32_w]
  rfl
 refine pure_ (i := 6) (N := (some 8)) (v := ?_) (a' := ?_) #[true,true,true,true,true,true,true,false] rfl rfl (any_of HT_.out (by kernel_rfl)) (fun _ _ _ h => h) (Or.inl ⟨by rfl,?_⟩) ?_ ?_
 rotate_left
 ·intro w'
  go_simp
  with_reducible rfl
 rotate_left
 ·simp only [Act.put,List.setIfInBounds_toArray,List.set_cons_zero,List.set_cons_succ,i64_w,i32_w]
  rfl
 refine pure_ (i := 7) (N := (some 9)) (v := ?_) (a' := ?_) #[true,true,true,true,true,true,true,true] rfl rfl (any_of HT_.out (by kernel_rfl)) (fun _ _ _ h => h) (Or.inl ⟨by rfl,?_⟩) ?_ ?_
 rotate_left
 ·intro w'
  go_simp
  with_reducible rfl
 rotate_left
 ·simp only [Act.put,List.setIfInBounds_toArray,List.set_cons_zero,List.set_cons_succ,i64_w,i32_w]
  rfl
 refine done_ (done_of HT_.out (by kernel_rfl)) ?_

 by_cases hq : i = j
 ·subst hq
  have hqb : (i == i) = true := beq_self_eq_true i
  have hf0 := blk_frozen hZ1 0
  have hf1 := blk_frozen hZ1 1
  have hf2 := blk_frozen hZ1 2
  have hf3 := blk_frozen hZ1 3
  have hf4 := blk_frozen hZ1 4
  have hf5 := blk_frozen hZ1 5
  have hz0 := blk_cell hZ1 0
  have hz1 := blk_cell hZ1 1
  have hz2 := blk_cell hZ1 2
  have hz3 := blk_cell hZ1 3
  have hz4 := blk_cell hZ1 4
  have hz5 := blk_cell hZ1 5
  go_wp2
  refine bodyPost_ret (results_ct rfl _ _ (W.heap.size + 1) 30 #[.int .i64 0,.int .i64 0,.string (⟨#[]⟩ : ByteArray),.int .i64 0,.string (⟨#[]⟩ : ByteArray),.bool false] (0,0) _ rfl (put6 hZ1 _ _ _ _ _ _) Tryd.underlying30 rfl (by kernel_rfl)) rfl ?_
  exact ⟨by unfold cutZ;rw [if_pos rfl];rfl,below6 HB (by omega) _ _ _ _ _ _⟩
 ·have hqb : (i == j) = false := beq_eq_false_iff_ne.mpr hq
  have hL5 := hL1.below ((Below.refl _ W4).alloc (Nat.le_refl _) (.cells #[.int .i64 i,.int .i64 (j - i),.string (⟨#[]⟩ : ByteArray),.int .i64 i,.string (⟨#[]⟩ : ByteArray),.bool false] 30 (0,0)))
  have hN5 := World.alloc_heap_new W4 (.cells #[.int .i64 i,.int .i64 (j - i),.string (⟨#[]⟩ : ByteArray),.int .i64 i,.string (⟨#[]⟩ : ByteArray),.bool false] 30 (0,0))
  have hZ5 := al_kept hZ1 (.cells #[.int .i64 i,.int .i64 (j - i),.string (⟨#[]⟩ : ByteArray),.int .i64 i,.string (⟨#[]⟩ : ByteArray),.bool false] 30 (0,0))
  have HB5 := HB.alloc HB.size (.cells #[.int .i64 i,.int .i64 (j - i),.string (⟨#[]⟩ : ByteArray),.int .i64 i,.string (⟨#[]⟩ : ByteArray),.bool false] 30 (0,0))
  obtain ⟨s0,s1,s2,s3,s4,s5,s6,s7⟩ := cut_cells hL5
  have hf0 := blk_frozen hZ5 0
  have hf1 := blk_frozen hZ5 1
  have hf2 := blk_frozen hZ5 2
  have hf3 := blk_frozen hZ5 3
  have hf4 := blk_frozen hZ5 4
  have hf5 := blk_frozen hZ5 5
  have hz0 := blk_cell hZ5 0
  have hz1 := blk_cell hZ5 1
  have hz2 := blk_cell hZ5 2
  have hz3 := blk_cell hZ5 3
  have hz4 := blk_cell hZ5 4
  have hz5 := blk_cell hZ5 5
  have hn0 := blk_cell hN5 0
  have hm0 := blk_frozen hN5 0
  have hn1 := blk_cell hN5 1
  have hm1 := blk_frozen hN5 1
  have hn2 := blk_cell hN5 2
  have hm2 := blk_frozen hN5 2
  have hn3 := blk_cell hN5 3
  have hm3 := blk_frozen hN5 3
  have hn4 := blk_cell hN5 4
  have hm4 := blk_frozen hN5 4
  have hn5 := blk_cell hN5 5
  have hm5 := blk_frozen hN5 5
  cases k with
  | false =>
   go_wp2
   refine bodyPost_ret (results_ct rfl _ _ (W.heap.size + 1) 30 #[.int .i64 i,.int .i64 (j - i),.string (⟨#[]⟩ : ByteArray),.int .i64 i,.string (⟨#[]⟩ : ByteArray),.bool false] (0,0) _ rfl (put6 hZ5 _ _ _ _ _ _) Tryd.underlying30 rfl (by kernel_rfl)) rfl ?_
   exact ⟨by unfold cutZ;rw [if_neg hq];rfl,below6 HB5 (by omega) _ _ _ _ _ _⟩
  | true =>
   go_upto_region 6 with (fail)
   have hL6 : Sees (cutL q true f g0 g1 b0 b1 b2 b3 W.heap.size) (W4.alloc (.cells #[.int .i64 i,.int .i64 (j - i),.string (⟨#[]⟩ : ByteArray),.int .i64 i,.string (⟨#[]⟩ : ByteArray),.bool false] 30 (0,0))).drew := hL5
   have hN6 : (W4.alloc (.cells #[.int .i64 i,.int .i64 (j - i),.string (⟨#[]⟩ : ByteArray),.int .i64 i,.string (⟨#[]⟩ : ByteArray),.bool false] 30 (0,0))).drew.heap[W4.heap.size]? = some (.cells #[.int .i64 i,.int .i64 (j - i),.string (⟨#[]⟩ : ByteArray),.int .i64 i,.string (⟨#[]⟩ : ByteArray),.bool false] 30 (0,0)) := hN5
   have hZ6 : (W4.alloc (.cells #[.int .i64 i,.int .i64 (j - i),.string (⟨#[]⟩ : ByteArray),.int .i64 i,.string (⟨#[]⟩ : ByteArray),.bool false] 30 (0,0))).drew.heap[W.heap.size + 1]? = _ := hZ5
   have HB6 := below_drew1 HB5
   have hlt : ∀ p ∈ cutL q true f g0 g1 b0 b1 b2 b3 W.heap.size,p.1 < W4.heap.size := fun p hp => (Array.getElem?_eq_some_iff.1 (hL1 p hp)).1
   refine start_ (n := 10) (S := Sees (cutL q true f g0 g1 b0 b1 b2 b3 W.heap.size)) (ds := []) #[false,false,false,false,false,false,false,false,false,false] (by kernel_rfl) rfl rfl hL6 (fun hHeld => ?_);refine with_tabW cut6.tab cut6.bits (fun HT_ HW_ => ?_)
   generalize (W4.alloc (.cells #[.int .i64 i,.int .i64 (j - i),.string (⟨#[]⟩ : ByteArray),.int .i64 i,.string (⟨#[]⟩ : ByteArray),.bool false] 30 (0,0))).drew = W6 at hL6 hN6 hZ6 HB6 hHeld ⊢
   clear hf0 hz0 hn0 hm0 hf1 hz1 hn1 hm1 hf2 hz2 hn2 hm2 hf3 hz3 hn3 hm3 hf4 hz4 hn4 hm4 hf5 hz5 hn5 hm5 hL5 hN5 hZ5 HB5 s0 s1 s2 s3 s4 s5 s6 s7
   refine pure_ (i := 0) (N := (some 29)) (v := ?_) (a' := ?_) #[true,false,false,false,false,false,false,false,false,false] rfl rfl (any_of HT_.out (by kernel_rfl)) (fun _ _ _ h => h) (Or.inl ⟨by rfl,?_⟩) ?_ ?_
   rotate_left
   ·intro w'
    go_simp
    with_reducible rfl
   rotate_left
   ·simp only [Act.put,List.setIfInBounds_toArray,List.set_cons_zero,List.set_cons_succ,i64_w,i32_w]
    rfl
   refine take_ (i := 1) (N := (some 30)) (v := ?_) (a' := ?_) #[true,true,false,false,false,false,false,false,false,false] rfl rfl (take_ofW HT_.out HW_.out (by kernel_rfl)) (fun _ _ _ h => h) (Or.inl ⟨by rfl,?_⟩) hHeld ?_ ?_
   rotate_left
   ·intro w' hS_
    obtain ⟨s0,s1,s2,s3,s4,s5,s6,s7⟩ := cut_cells hS_
    go_simp
    with_reducible rfl
   rotate_left
   ·simp only [Act.put,List.setIfInBounds_toArray,List.set_cons_zero,List.set_cons_succ,i64_w,i32_w]
    rfl
   refine pure_ (i := 2) (N := (some 31)) (v := ?_) (a' := ?_) #[true,true,true,false,false,false,false,false,false,false] rfl rfl (any_of HT_.out (by kernel_rfl)) (fun _ _ _ h => h) (Or.inl ⟨by rfl,?_⟩) ?_ ?_
   rotate_left
   ·intro w'
    go_simp
    with_reducible rfl
   rotate_left
   ·simp only [Act.put,List.setIfInBounds_toArray,List.set_cons_zero,List.set_cons_succ,i64_w,i32_w]
    rfl
   refine pure_ (i := 3) (N := (some 32)) (v := ?_) (a' := ?_) #[true,true,true,true,false,false,false,false,false,false] rfl rfl (any_of HT_.out (by kernel_rfl)) (fun _ _ _ h => h) (Or.inl ⟨by rfl,?_⟩) ?_ ?_
   rotate_left
   ·intro w'
    go_simp
    with_reducible rfl
   rotate_left
   ·simp only [Act.put,List.setIfInBounds_toArray,List.set_cons_zero,List.set_cons_succ,i64_w,i32_w]
    rfl
   refine pure_ (i := 4) (N := (some 33)) (v := ?_) (a' := ?_) #[true,true,true,true,true,false,false,false,false,false] rfl rfl (any_of HT_.out (by kernel_rfl)) (fun _ _ _ h => h) (Or.inl ⟨by rfl,?_⟩) ?_ ?_
   rotate_left
   ·intro w'
    go_simp
    with_reducible rfl
   rotate_left
   ·simp only [Act.put,List.setIfInBounds_toArray,List.set_cons_zero,List.set_cons_succ,i64_w,i32_w]
    rfl
   refine take_ (i := 5) (N := (some 34)) (v := ?_) (a' := ?_) #[true,true,true,true,true,true,false,false,false,false] rfl rfl (take_ofW HT_.out HW_.out (by kernel_rfl)) (fun _ _ _ h => h) (Or.inl ⟨by rfl,?_⟩) hHeld ?_ ?_
   rotate_left
   ·intro w' hS_
    obtain ⟨s0,s1,s2,s3,s4,s5,s6,s7⟩ := cut_cells hS_
    go_simp
    with_reducible rfl
   rotate_left
   ·simp only [Act.put,List.setIfInBounds_toArray,List.set_cons_zero,List.set_cons_succ,i64_w,i32_w]
    rfl
   refine pure_ (i := 6) (N := (some 35)) (v := ?_) (a' := ?_) #[true,true,true,true,true,true,true,false,false,false] rfl rfl (any_of HT_.out (by kernel_rfl)) (fun _ _ _ h => h) (Or.inl ⟨by rfl,?_⟩) ?_ ?_
   rotate_left
   ·intro w'
    go_simp
    with_reducible rfl
   rotate_left
   ·simp only [Act.put,List.setIfInBounds_toArray,List.set_cons_zero,List.set_cons_succ,i64_w,i32_w]
    rfl
   refine one_ (i := 7) (N := none) #[true,true,true,true,true,true,true,true,false,false] rfl rfl (one_of HT_.out (by kernel_rfl)) (by decide) (fun K hK => ?_)
   have hn4 := blk_cell hN6 4
   have hm4 := blk_frozen hN6 4
   refine skip_ (w1 := ?_) (by rfl) rfl ?_ ?_
   rotate_left
   ·go_simp
    rfl
   refine hK.out _ _ (hL6.set hlt 4 _) (fun hHeld => ?_)
   clear hK K
   refine pure_ (i := 8) (N := (some 36)) (v := ?_) (a' := ?_) #[true,true,true,true,true,true,true,true,true,false] rfl rfl (any_of HT_.out (by kernel_rfl)) (fun _ _ _ h => h) (Or.inl ⟨by rfl,?_⟩) ?_ ?_
   rotate_left
   ·intro w'
    go_simp
    with_reducible rfl
   rotate_left
   ·simp only [Act.put,List.setIfInBounds_toArray,List.set_cons_zero,List.set_cons_succ,i64_w,i32_w]
    rfl
   refine one_ (i := 9) (N := none) #[true,true,true,true,true,true,true,true,true,true] rfl rfl (one_of HT_.out (by kernel_rfl)) (by decide) (fun K hK => ?_)
   have hn5 := blk_cell hN6 5
   have hm5 := blk_frozen hN6 5
   refine skip_ (w1 := ?_) (by rfl) rfl ?_ ?_
   rotate_left
   ·go_simp
    rfl
   refine hK.out _ _ ((hL6.set hlt 4 _).set hlt 5 _) (fun hHeld => ?_)
   clear hK K
   refine done_ (done_of HT_.out (by kernel_rfl)) ?_
   have hf0 := blk_frozen hZ6 0
   have hz0 := blk_cell hZ6 0
   have hn0 := blk_cell hN6 0
   have hm0 := blk_frozen hN6 0
   have hf1 := blk_frozen hZ6 1
   have hz1 := blk_cell hZ6 1
   have hn1 := blk_cell hN6 1
   have hm1 := blk_frozen hN6 1
   have hf2 := blk_frozen hZ6 2
   have hz2 := blk_cell hZ6 2
   have hn2 := blk_cell hN6 2
   have hm2 := blk_frozen hN6 2
   have hf3 := blk_frozen hZ6 3
   have hz3 := blk_cell hZ6 3
   have hn3 := blk_cell hN6 3
   have hm3 := blk_frozen hN6 3
   have hf4 := blk_frozen hZ6 4
   have hz4 := blk_cell hZ6 4
   have hn4 := blk_cell hN6 4
   have hm4 := blk_frozen hN6 4
   have hf5 := blk_frozen hZ6 5
   have hz5 := blk_cell hZ6 5
   have hn5 := blk_cell hN6 5
   have hm5 := blk_frozen hN6 5
   go_wp2
   have hne : W.heap.size + 1 ≠ W4.heap.size := by
    have := (Array.getElem?_eq_some_iff.1 hZ1).1
    omega
   have hge : W.heap.size ≤ W4.heap.size := HB.size
   have hZ7 := (Below.heap_setCell (W6.setCell ⟨W4.heap.size,4,none⟩ (.string (q.text.extract i.toNat j.toNat))) ⟨W4.heap.size,5,none⟩ (.bool f) (W.heap.size + 1) hne).trans ((Below.heap_setCell W6 ⟨W4.heap.size,4,none⟩ (.string (q.text.extract i.toNat j.toNat)) (W.heap.size + 1) hne).trans hZ6)
   refine bodyPost_ret (results_ct rfl _ _ (W.heap.size + 1) 30 #[.int .i64 i,.int .i64 (j - i),.string (⟨#[]⟩ : ByteArray),.int .i64 i,.string (q.text.extract i.toNat j.toNat),.bool f] (0,0) _ rfl (put6 hZ7 _ _ _ _ _ _) Tryd.underlying30 rfl (by kernel_rfl)) rfl ?_
   exact ⟨by unfold cutZ;rw [if_neg hq];rfl,below6 (below_set (below_set HB6 hge) hge) (by omega) _ _ _ _ _ _⟩
def caseZ (s : ByteArray) (at0 tz : Int) (put : ByteArray) : Res := if at0 = s.size then (0,0,⟨#[]⟩,0,⟨#[]⟩,false,8) else (at0,tz - at0,put,at0 + put.size,⟨#[]⟩,false,0)
def caseL (q : Wk) (ga g1 ba bo B : Nat) : List (Nat × Obj) :=
 [(ba,.cells #[fnV ga] 77 (0,0)),(bo,.cells #[fnV g1] 37 (0,0)),(B,.cells #[.string q.text,.int .i64 q.at0,.int .i64 q.region,.int .i64 q.n] 52 (0,0))]
theorem case_start (q : Wk) (ga g1 ba bo : Nat) (W : World) (h0 : W.heap[ba]? = some (.cells #[fnV ga] 77 (0,0))) (h1 : W.heap[bo]? = some (.cells #[fnV g1] 37 (0,0))) (o : Obj) :
  Sees (caseL q ga g1 ba bo W.heap.size) ((W.alloc (.cells #[.string q.text,.int .i64 q.at0,.int .i64 q.region,.int .i64 q.n] 52)).alloc o) ∧
  ((W.alloc (.cells #[.string q.text,.int .i64 q.at0,.int .i64 q.region,.int .i64 q.n] 52)).alloc o).heap[W.heap.size + 1]? = some o ∧
  Below W.heap.size W ((W.alloc (.cells #[.string q.text,.int .i64 q.at0,.int .i64 q.region,.int .i64 q.n] 52)).alloc o) := by
 refine ⟨?_,al_next _ _ _,((Below.refl _ W).alloc (Nat.le_refl _) _).alloc (by rw [World.size_alloc];omega) _⟩
 intro p hp
 simp only [caseL,List.mem_cons,List.not_mem_nil,or_false] at hp
 rcases hp with rfl | rfl | rfl
 ·exact al_kept (al_kept h0 _) _
 ·exact al_kept (al_kept h1 _) _
 ·exact al_kept (World.alloc_heap_new _ _) _
theorem case_cells {q : Wk} {ga g1 ba bo B : Nat} {w : World} (h : Sees (caseL q ga g1 ba bo B) w) :
  w.cell? ⟨ba,0,none⟩ = some (.func (.func ga) #[] #[]) ∧ w.cell? ⟨bo,0,none⟩ = some (.func (.func g1) #[] #[]) ∧
  w.cell? ⟨B,0,none⟩ = some (.string q.text) ∧ w.cell? ⟨B,1,none⟩ = some (.int .i64 q.at0) ∧ w.cell? ⟨B,2,none⟩ = some (.int .i64 q.region) ∧ w.cell? ⟨B,3,none⟩ = some (.int .i64 q.n) :=
 ⟨cell_one (h _ (.head _)),cell_one (h _ (.tail _ (.head _))),work_cells (h _ (.tail _ (.tail _ (.head _))))⟩
def case4.T : Bool × List (List Nat × List Nat) := (true,[([],[]),([],[]),([1],[1]),([],[]),([3],[3]),([],[]),([2,4,5],[2,4,5]),([0,6],[0,6]),([7,7,0,1,2,3,4,5,6,7],[7])])
def case4.B : List Nat := [0,0,2,0,8,0,62,127,255]
theorem case4.tab : rtab .any (opsOf Tryd.f44 4) = case4.T := by kernel_rfl
theorem case4.bits : waitsOk case4.T.2 case4.B = true := by kernel_rfl
set_option maxRecDepth 100000 in
set_option maxHeartbeats 4000000 in
theorem case_calls (q : Wk) (ga g1 ba bo : Nat) (tz : Int) (put : ByteArray) (W : World) (hT : Lib.Utf8Tabs 1 2 W)
  (h0 : W.heap[ba]? = some (.cells #[fnV ga] 77 (0,0))) (h1 : W.heap[bo]? = some (.cells #[fnV g1] 37 (0,0)))
  (ea : ∀ args w,(callFunc ga args).run Tryd.prog w = .ok (.enter ga args) w) (e1 : ∀ args w,(callFunc g1 args).run Tryd.prog w = .ok (.enter g1 args) w) (la : Leads ga q tz) (hto : 0 ≤ q.at0 ∧ q.at0 ≤ tz ∧ tz ≤ q.text.size) (hs : q.text.size ≤ 1099511627776) (hp : put.size ≤ 4398046511104)
  (l1 : ∀ W' : World,Lib.Utf8Tabs 1 2 W' → Calls Tryd.prog g1 #[.string (q.text.extract q.at0.toNat tz.toNat)] W' fun e w' => e = .returned (.string put) ∧ Below W'.heap.size W' w') :
  Calls Tryd.prog 44 #[.agg #[.string q.text,.int .i64 q.at0,.int .i64 q.region,.int .i64 q.n],.pointer (some ⟨ba,0,none⟩),.pointer (some ⟨bo,0,none⟩)] W fun e w' => e = .returned (resV (caseZ q.text q.at0 tz put)) ∧ Below W.heap.size W w' := by
 have hu := Tryd.underlying52
 have hu2 := Tryd.underlying30
 have hu3 := Tryd.underlying28
 go_enter Tryd.func44,Tryd.ntmps44
 go_upto_region 1 with (fail)
 obtain ⟨hL1,hZ1,HB⟩ := case_start q ga g1 ba bo W h0 h1 (.cells #[.int .i64 0,.int .i64 0,.string (⟨#[]⟩ : ByteArray),.int .i64 0,.string (⟨#[]⟩ : ByteArray),.bool false] 30)
 generalize (W.alloc (.cells #[.string q.text,.int .i64 q.at0,.int .i64 q.region,.int .i64 q.n] 52)).alloc (.cells #[.int .i64 0,.int .i64 0,.string (⟨#[]⟩ : ByteArray),.int .i64 0,.string (⟨#[]⟩ : ByteArray),.bool false] 30) = W1 at hL1 hZ1 HB ⊢
 obtain ⟨s0,s1,s2,s3,s4,s5⟩ := case_cells hL1
 by_cases hq : q.at0 = q.text.size
 ·have hqb : (q.at0 == (q.text.size : Int)) = true := beq_iff_eq.mpr hq
  have hf0 := blk_frozen hZ1 0
  have hz0 := blk_cell hZ1 0
  have hf1 := blk_frozen hZ1 1
  have hz1 := blk_cell hZ1 1
  have hf2 := blk_frozen hZ1 2
  have hz2 := blk_cell hZ1 2
  have hf3 := blk_frozen hZ1 3
  have hz3 := blk_cell hZ1 3
  have hf4 := blk_frozen hZ1 4
  have hz4 := blk_cell hZ1 4
  have hf5 := blk_frozen hZ1 5
  have hz5 := blk_cell hZ1 5
  go_wp2
  refine bodyPost_ret (results_ct rfl _ _ (W.heap.size + 1) 30 #[.int .i64 0,.int .i64 0,.string (⟨#[]⟩ : ByteArray),.int .i64 0,.string (⟨#[]⟩ : ByteArray),.bool false] (0,0) _ rfl (put6 hZ1 _ _ _ _ _ _) Tryd.underlying30 rfl (by kernel_rfl)) rfl ?_
  exact ⟨by unfold caseZ;rw [if_pos hq];rfl,below6 HB (by omega) _ _ _ _ _ _⟩
 ·have hqb : (q.at0 == (q.text.size : Int)) = false := beq_eq_false_iff_ne.mpr hq
  go_wp2_with (fail)
  refine (la _ (tabs_below hT HB)).mono ?_
  rintro e W2 ⟨rfl,hb⟩
  have hL2 := hL1.below hb
  have hZ2 := work_kept hZ1 hb
  have HB2 := HB.trans (hb.mono HB.size)
  clear s0 s1 s2 s3 s4 s5 hL1 hZ1 HB hb
  obtain ⟨s0,s1,s2,s3,s4,s5⟩ := case_cells hL2
  go_upto_region 4 with (fail)
  have hL3 : Sees (caseL q ga g1 ba bo W.heap.size) W2.drew := hL2
  have hZ3 : W2.drew.heap[W.heap.size + 1]? = _ := hZ2
  have HB3 := below_drew1 HB2
  refine start_ (n := 9) (S := Sees (caseL q ga g1 ba bo W.heap.size)) (ds := []) #[false,false,false,false,false,false,false,false,false] (by kernel_rfl) rfl rfl hL3 (fun hHeld => ?_);refine with_tabW case4.tab case4.bits (fun HT_ HW_ => ?_)
  generalize W2.drew = W3 at hL3 hZ3 HB3 hHeld ⊢
  clear s0 s1 s2 s3 s4 s5 hL2 hZ2 HB2
  refine take_ (i := 0) (N := (some 18)) (v := ?_) (a' := ?_) #[true,false,false,false,false,false,false,false,false] rfl rfl (take_ofW HT_.out HW_.out (by kernel_rfl)) (fun _ _ _ h => h) (Or.inl ⟨by rfl,?_⟩) hHeld ?_ ?_
  rotate_left
  ·intro w' hS_
   obtain ⟨s0,s1,s2,s3,s4,s5⟩ := case_cells hS_
   go_simp
   with_reducible rfl
  rotate_left
  ·simp only [Act.put,List.setIfInBounds_toArray,List.set_cons_zero,List.set_cons_succ,i64_w,i32_w]
   rfl
  refine pure_ (i := 1) (N := (some 19)) (v := ?_) (a' := ?_) #[true,true,false,false,false,false,false,false,false] rfl rfl (any_of HT_.out (by kernel_rfl)) (fun _ _ _ h => h) (Or.inl ⟨by rfl,?_⟩) ?_ ?_
  rotate_left
  ·intro w'
   go_simp
   with_reducible rfl
  rotate_left
  ·simp only [Act.put,List.setIfInBounds_toArray,List.set_cons_zero,List.set_cons_succ,i64_w,i32_w]
   rfl
  refine take_ (i := 2) (N := (some 20)) (v := ?_) (a' := ?_) #[true,true,true,false,false,false,false,false,false] rfl rfl (take_ofW HT_.out HW_.out (by kernel_rfl)) (fun _ _ _ h => h) (Or.inl ⟨by rfl,?_⟩) hHeld ?_ ?_
  rotate_left
  ·intro w' hS_
   obtain ⟨s0,s1,s2,s3,s4,s5⟩ := case_cells hS_
   go_simp
   with_reducible rfl
  rotate_left
  ·simp only [Act.put,List.setIfInBounds_toArray,List.set_cons_zero,List.set_cons_succ,i64_w,i32_w]
   rfl
  refine pure_ (i := 3) (N := (some 21)) (v := ?_) (a' := ?_) #[true,true,true,true,false,false,false,false,false] rfl rfl (any_of HT_.out (by kernel_rfl)) (fun _ _ _ h => h) (Or.inl ⟨by rfl,?_⟩) ?_ ?_
  rotate_left
  ·intro w'
   go_simp
   with_reducible rfl
  rotate_left
  ·simp only [Act.put,List.setIfInBounds_toArray,List.set_cons_zero,List.set_cons_succ,i64_w,i32_w]
   rfl
  refine take_ (i := 4) (N := (some 22)) (v := ?_) (a' := ?_) #[true,true,true,true,true,false,false,false,false] rfl rfl (take_ofW HT_.out HW_.out (by kernel_rfl)) (fun _ _ _ h => h) (Or.inl ⟨by rfl,?_⟩) hHeld ?_ ?_
  rotate_left
  ·intro w' hS_
   obtain ⟨s0,s1,s2,s3,s4,s5⟩ := case_cells hS_
   go_simp
   with_reducible rfl
  rotate_left
  ·simp only [Act.put,List.setIfInBounds_toArray,List.set_cons_zero,List.set_cons_succ,i64_w,i32_w]
   rfl
  refine pure_ (i := 5) (N := (some 23)) (v := ?_) (a' := ?_) #[true,true,true,true,true,true,false,false,false] rfl rfl (any_of HT_.out (by kernel_rfl)) (fun _ _ _ h => h) (Or.inl ⟨by rfl,?_⟩) ?_ ?_
  rotate_left
  ·intro w'
   go_simp
   with_reducible rfl
  rotate_left
  ·simp only [Act.put,List.setIfInBounds_toArray,List.set_cons_zero,List.set_cons_succ,i64_w,i32_w]
   rfl
  refine pure_ (i := 6) (N := (some 24)) (v := ?_) (a' := ?_) #[true,true,true,true,true,true,true,false,false] rfl rfl (any_of HT_.out (by kernel_rfl)) (fun _ _ _ h => h) (Or.inl ⟨by rfl,?_⟩) ?_ ?_
  rotate_left
  ·intro w'
   go_simp
   with_reducible rfl
  rotate_left
  ·simp only [Act.put,List.setIfInBounds_toArray,List.set_cons_zero,List.set_cons_succ,i64_w,i32_w]
   rfl
  refine one_ (i := 7) (N := (some 25)) #[true,true,true,true,true,true,true,true,false] rfl rfl (one_of HT_.out (by kernel_rfl)) (by decide) (fun K hK => ?_)
  refine call_ g1 #[.string (q.text.extract q.at0.toNat tz.toNat)] (by rfl) rfl (by unfold execOp;simp [resolve,Deferred.ofValue,invoke,Act.eval,fnV,e1]) ?_
  refine (l1 _ (tabs_below hT HB3)).mono ?_
  rintro e W4 ⟨rfl,hb⟩
  have hL4 := hL3.below hb
  have hZ1 := work_kept hZ3 hb
  have HB := HB3.trans (hb.mono HB3.size)
  refine ⟨_,rfl,?_⟩
  refine hK.out _ _ hL4 (fun hHeld => ?_)
  clear hK K hL3 hZ3 HB3 hb
  refine norm_ (a' := ?_) ?_ ?_
  rotate_left
  ·show Act.put _ (some 25) _ = _
   simp only [Act.put,List.setIfInBounds_toArray,List.set_cons_zero,List.set_cons_succ,i64_w,i32_w]
   rfl
  refine pure_ (i := 8) (N := (some 7)) (v := ?_) (a' := ?_) #[true,true,true,true,true,true,true,true,true] rfl rfl (any_of HT_.out (by kernel_rfl)) (fun _ _ _ h => h) (Or.inl ⟨by rfl,?_⟩) ?_ ?_
  rotate_left
  ·intro w'
   go_simp
   with_reducible rfl
  rotate_left
  ·simp only [Act.put,List.setIfInBounds_toArray,List.set_cons_zero,List.set_cons_succ,i64_w,i32_w]
   rfl
  refine done_ (done_of HT_.out (by kernel_rfl)) ?_
  obtain ⟨s0,s1,s2,s3,s4,s5⟩ := case_cells hL4
  have hw1 : IntKind.i64.wrap (q.at0 + (put.size : Int)) = q.at0 + (put.size : Int) := (i64_w _).trans (by unfold wrap64;omega)
  have hw2 : IntKind.i64.wrap (tz - q.at0) = tz - q.at0 := (i64_w _).trans (by unfold wrap64;omega)
  have hf0 := blk_frozen hZ1 0
  have hz0 := blk_cell hZ1 0
  have hf1 := blk_frozen hZ1 1
  have hz1 := blk_cell hZ1 1
  have hf2 := blk_frozen hZ1 2
  have hz2 := blk_cell hZ1 2
  have hf3 := blk_frozen hZ1 3
  have hz3 := blk_cell hZ1 3
  have hf4 := blk_frozen hZ1 4
  have hz4 := blk_cell hZ1 4
  have hf5 := blk_frozen hZ1 5
  have hz5 := blk_cell hZ1 5
  go_wp2
  refine bodyPost_ret (results_ct rfl _ _ (W.heap.size + 1) 30 #[.int .i64 q.at0,.int .i64 (tz - q.at0),.string put,.int .i64 (q.at0 + put.size),.string (⟨#[]⟩ : ByteArray),.bool false] (0,0) _ rfl (put6 hZ1 _ _ _ _ _ _) Tryd.underlying30 rfl (by kernel_rfl)) rfl ?_
  exact ⟨by unfold caseZ;rw [if_neg hq];rfl,below6 HB (by omega) _ _ _ _ _ _⟩
end Go.Proofs.YtfmnmjoofnbnfaaDoor.U
end
section
namespace Go.Proofs.YtfmnmjoofnbnfaaDoor.U
open Go.RowKit Go.Shelf Go.Proofs.YtfmnmjoofnbnfaaDoor.Mu Go.Proofs.YtfmnmjoofnbnfaaDoor.Pu Go.Proofs.YtfmnmjoofnbnfaaDoor.Rg Go.Proofs.YtfmnmjoofnbnfaaDoorW.PrintWords Go.Proofs.YtfmnmjoofnbnfaaDoorW.PrintLast Go.Proofs.YtfmnmjoofnbnfaaDoorW.PrintMore
set_option linter.unusedVariables false
set_option linter.unusedSimpArgs false
attribute [local go_sem] run_store_func
def cutB (g0 g1 : Nat) (k f : Bool) (n : Nat) : List (Nat × Obj) := [(n,.cells #[fnV g0] 77 (0,0)),(n + 1,.cells #[fnV g1] 77 (0,0)),(n + 2,.cells #[.bool k] 4 (0,0)),(n + 3,.cells #[.bool f] 4 (0,0))]
def oneB (g n : Nat) : List (Nat × Obj) := [(n,.cells #[fnV g] 37 (0,0))]
def funB (g n : Nat) : List (Nat × Obj) := [(n,.cells #[fnV g] 77 (0,0))]
theorem sees_one {w : World} {x : Nat × Obj} (h : w.heap[x.1]? = some x.2) : Sees [x] w := fun p hp => by rw [List.mem_singleton.1 hp];exact h
theorem sees_four {w : World} {x0 x1 x2 x3 : Nat × Obj} (h0 : w.heap[x0.1]? = some x0.2) (h1 : w.heap[x1.1]? = some x1.2) (h2 : w.heap[x2.1]? = some x2.2) (h3 : w.heap[x3.1]? = some x3.2) : Sees [x0,x1,x2,x3] w := by
 intro p hp
 simp only [List.mem_cons,List.not_mem_nil,or_false] at hp
 rcases hp with rfl | rfl | rfl | rfl <;> assumption
theorem sees_alloc {L : List (Nat × Obj)} {w : World} (h : Sees L w) (x : Obj) : Sees L (w.alloc x) := fun p hp => al_kept (h p hp) x
/-- The rules' row,and what its closures hold. -/
def RulesAt (w : World) (N ba : Nat) (n : Nat → Nat) : Prop :=
 w.heap[N]? = some (.cells #[.int .i64 14,.func (.func 46) #[] #[.pointer (some ⟨(n 0),0,none⟩),.pointer (some ⟨(n 0) + 1,0,none⟩),.pointer (some ⟨(n 0) + 2,0,none⟩),.pointer (some ⟨(n 0) + 3,0,none⟩)],.int .i64 15,.func (.func 46) #[] #[.pointer (some ⟨(n 1),0,none⟩),.pointer (some ⟨(n 1) + 1,0,none⟩),.pointer (some ⟨(n 1) + 2,0,none⟩),.pointer (some ⟨(n 1) + 3,0,none⟩)],.int .i64 16,.func (.func 46) #[] #[.pointer (some ⟨(n 2),0,none⟩),.pointer (some ⟨(n 2) + 1,0,none⟩),.pointer (some ⟨(n 2) + 2,0,none⟩),.pointer (some ⟨(n 2) + 3,0,none⟩)],.int .i64 17,.func (.func 46) #[] #[.pointer (some ⟨(n 3),0,none⟩),.pointer (some ⟨(n 3) + 1,0,none⟩),.pointer (some ⟨(n 3) + 2,0,none⟩),.pointer (some ⟨(n 3) + 3,0,none⟩)],.int .i64 18,.func (.func 46) #[] #[.pointer (some ⟨(n 4),0,none⟩),.pointer (some ⟨(n 4) + 1,0,none⟩),.pointer (some ⟨(n 4) + 2,0,none⟩),.pointer (some ⟨(n 4) + 3,0,none⟩)],.int .i64 19,.func (.func 46) #[] #[.pointer (some ⟨(n 5),0,none⟩),.pointer (some ⟨(n 5) + 1,0,none⟩),.pointer (some ⟨(n 5) + 2,0,none⟩),.pointer (some ⟨(n 5) + 3,0,none⟩)],.int .i64 20,.func (.func 55) #[] #[],.int .i64 21,.func (.func 56) #[] #[],.int .i64 24,.func (.func 57) #[] #[],.int .i64 25,.func (.func 58) #[] #[],.int .i64 26,.func (.func 44) #[] #[.pointer (some ⟨ba,0,none⟩),.pointer (some ⟨(n 6),0,none⟩)],.int .i64 27,.func (.func 44) #[] #[.pointer (some ⟨ba,0,none⟩),.pointer (some ⟨(n 7),0,none⟩)],.int .i64 28,.func (.func 44) #[] #[.pointer (some ⟨ba,0,none⟩),.pointer (some ⟨(n 8),0,none⟩)]] 57 (0,0)) ∧ Sees (funB 38 ba) w ∧
 Sees (cutB 47 48 false false (n 0)) w ∧ Sees (cutB 49 47 false false (n 1)) w ∧ Sees (cutB 47 38 true false (n 2)) w ∧ Sees (cutB 41 47 true true (n 3)) w ∧ Sees (cutB 47 51 true false (n 4)) w ∧ Sees (cutB 53 47 true true (n 5)) w ∧ Sees (oneB 10 (n 6)) w ∧ Sees (oneB 11 (n 7)) w ∧ Sees (oneB 12 (n 8)) w
def rules8.T : Bool × List (List Nat × List Nat) := (true,[([],[]),([],[]),([],[]),([0,1,2],[0,1,2]),([3],[3]),([],[]),([],[]),([],[]),([5,6,7,3],[5,6,7]),([8],[8]),([],[]),([],[]),([],[]),([10,11,12,8],[10,11,12]),([13],[13]),([],[]),([],[]),([],[]),([15,16,17,13],[15,16,17]),([18],[18]),([],[]),([],[]),([20,21,18],[20,21]),([22],[22]),([],[]),([],[]),([24,25,22],[24,25]),([26],[26]),([],[]),([],[]),([],[]),([],[]),([],[]),([32,26],[32]),([33],[33]),([],[]),([35,33],[35]),([36],[36]),([],[]),([38,36],[38]),([39],[39]),([4,9,14,19,23,27,28,29,30,31,34,37,40],[4,9,14,19,23,27,28,29,30,31,34,37,40]),([41,39,0,1,2,3,4,5,6,7,8,9,10,11,12,13,14,15,16,17,18,19,20,21,22,23,24,25,26,27,28,29,30,31,32,33,34,35,36,37,38,39,40,41],[41])])
def rules8.B : List Nat := [0,0,0,7,15,0,0,0,239,495,0,0,0,7663,15855,0,0,0,245231,507375,0,0,3653103,7847407,0,0,58179055,125287919,0,0,0,0,0,4420255215,13010189807,0,47369928175,116089404911,0,390967311855,940723125743,2199023255551,4398046511103]
theorem rules8.tab : rtab .any (opsOf Tryd.f24 8) = rules8.T := by kernel_rfl
theorem rules8.bits : waitsOk rules8.T.2 rules8.B = true := by kernel_rfl
set_option maxRecDepth 100000 in
set_option maxHeartbeats 8000000 in
theorem rules_calls (W : World) : Calls Tryd.prog 24 #[] W fun e w' => ∃ (N ba : Nat) (n : Nat → Nat),e = .returned (.slice (some ⟨N,0,none⟩) 13 13) ∧ RulesAt w' N ba n ∧ Below W.heap.size W w' := by
 have e4 := enters_of Tryd.func45 (by kernel_rfl) rfl
 have e3 := enters_of Tryd.func43 (by kernel_rfl) rfl
 go_enter Tryd.func24,Tryd.ntmps24
 go_upto_region 8 with (fail)
 have hS : Sees (funB 38 W.heap.size) (W.alloc (.cells #[.func (.func 38) #[] #[]] 77 (0,0))).drew := sees_one (World.alloc_heap_new W _)
 have HB := below_drew1 ((Below.refl _ W).alloc (Nat.le_refl _) (.cells #[.func (.func 38) #[] #[]] 77 (0,0)))
 refine start_ (n := 43) (S := Sees (funB 38 W.heap.size)) (ds := []) #[false,false,false,false,false,false,false,false,false,false,false,false,false,false,false,false,false,false,false,false,false,false,false,false,false,false,false,false,false,false,false,false,false,false,false,false,false,false,false,false,false,false,false] (by kernel_rfl) rfl rfl hS (fun hHeld => ?_);refine with_tabW rules8.tab rules8.bits (fun HT_ HW_ => ?_)
 generalize (W.alloc (.cells #[.func (.func 38) #[] #[]] 77 (0,0))).drew = w0 at hS HB hHeld ⊢
 refine pure_ (i := 0) (N := (some 9)) (v := ?_) (a' := ?_) #[true,false,false,false,false,false,false,false,false,false,false,false,false,false,false,false,false,false,false,false,false,false,false,false,false,false,false,false,false,false,false,false,false,false,false,false,false,false,false,false,false,false,false] rfl rfl (any_of HT_.out (by kernel_rfl)) (fun _ _ _ h => h) (Or.inl ⟨by rfl,?_⟩) ?_ ?_
 rotate_left
 ·intro w'
  go_simp
  with_reducible rfl
 rotate_left
 ·simp only [Act.put,List.setIfInBounds_toArray,List.set_cons_zero,List.set_cons_succ,i64_w,i32_w]
  rfl
 refine pure_ (i := 1) (N := (some 10)) (v := ?_) (a' := ?_) #[true,true,false,false,false,false,false,false,false,false,false,false,false,false,false,false,false,false,false,false,false,false,false,false,false,false,false,false,false,false,false,false,false,false,false,false,false,false,false,false,false,false,false] rfl rfl (any_of HT_.out (by kernel_rfl)) (fun _ _ _ h => h) (Or.inl ⟨by rfl,?_⟩) ?_ ?_
 rotate_left
 ·intro w'
  go_simp
  with_reducible rfl
 rotate_left
 ·simp only [Act.put,List.setIfInBounds_toArray,List.set_cons_zero,List.set_cons_succ,i64_w,i32_w]
  rfl
 refine pure_ (i := 2) (N := (some 11)) (v := ?_) (a' := ?_) #[true,true,true,false,false,false,false,false,false,false,false,false,false,false,false,false,false,false,false,false,false,false,false,false,false,false,false,false,false,false,false,false,false,false,false,false,false,false,false,false,false,false,false] rfl rfl (any_of HT_.out (by kernel_rfl)) (fun _ _ _ h => h) (Or.inl ⟨by rfl,?_⟩) ?_ ?_
 rotate_left
 ·intro w'
  go_simp
  with_reducible rfl
 rotate_left
 ·simp only [Act.put,List.setIfInBounds_toArray,List.set_cons_zero,List.set_cons_succ,i64_w,i32_w]
  rfl
 refine pure_ (i := 5) (N := (some 14)) (v := ?_) (a' := ?_) #[true,true,true,false,false,true,false,false,false,false,false,false,false,false,false,false,false,false,false,false,false,false,false,false,false,false,false,false,false,false,false,false,false,false,false,false,false,false,false,false,false,false,false] rfl rfl (any_of HT_.out (by kernel_rfl)) (fun _ _ _ h => h) (Or.inl ⟨by rfl,?_⟩) ?_ ?_
 rotate_left
 ·intro w'
  go_simp
  with_reducible rfl
 rotate_left
 ·simp only [Act.put,List.setIfInBounds_toArray,List.set_cons_zero,List.set_cons_succ,i64_w,i32_w]
  rfl
 refine pure_ (i := 6) (N := (some 15)) (v := ?_) (a' := ?_) #[true,true,true,false,false,true,true,false,false,false,false,false,false,false,false,false,false,false,false,false,false,false,false,false,false,false,false,false,false,false,false,false,false,false,false,false,false,false,false,false,false,false,false] rfl rfl (any_of HT_.out (by kernel_rfl)) (fun _ _ _ h => h) (Or.inl ⟨by rfl,?_⟩) ?_ ?_
 rotate_left
 ·intro w'
  go_simp
  with_reducible rfl
 rotate_left
 ·simp only [Act.put,List.setIfInBounds_toArray,List.set_cons_zero,List.set_cons_succ,i64_w,i32_w]
  rfl
 refine pure_ (i := 7) (N := (some 16)) (v := ?_) (a' := ?_) #[true,true,true,false,false,true,true,true,false,false,false,false,false,false,false,false,false,false,false,false,false,false,false,false,false,false,false,false,false,false,false,false,false,false,false,false,false,false,false,false,false,false,false] rfl rfl (any_of HT_.out (by kernel_rfl)) (fun _ _ _ h => h) (Or.inl ⟨by rfl,?_⟩) ?_ ?_
 rotate_left
 ·intro w'
  go_simp
  with_reducible rfl
 rotate_left
 ·simp only [Act.put,List.setIfInBounds_toArray,List.set_cons_zero,List.set_cons_succ,i64_w,i32_w]
  rfl
 refine pure_ (i := 10) (N := (some 19)) (v := ?_) (a' := ?_) #[true,true,true,false,false,true,true,true,false,false,true,false,false,false,false,false,false,false,false,false,false,false,false,false,false,false,false,false,false,false,false,false,false,false,false,false,false,false,false,false,false,false,false] rfl rfl (any_of HT_.out (by kernel_rfl)) (fun _ _ _ h => h) (Or.inl ⟨by rfl,?_⟩) ?_ ?_
 rotate_left
 ·intro w'
  go_simp
  with_reducible rfl
 rotate_left
 ·simp only [Act.put,List.setIfInBounds_toArray,List.set_cons_zero,List.set_cons_succ,i64_w,i32_w]
  rfl
 refine pure_ (i := 11) (N := (some 20)) (v := ?_) (a' := ?_) #[true,true,true,false,false,true,true,true,false,false,true,true,false,false,false,false,false,false,false,false,false,false,false,false,false,false,false,false,false,false,false,false,false,false,false,false,false,false,false,false,false,false,false] rfl rfl (any_of HT_.out (by kernel_rfl)) (fun _ _ _ h => h) (Or.inl ⟨by rfl,?_⟩) ?_ ?_
 rotate_left
 ·intro w'
  go_simp
  with_reducible rfl
 rotate_left
 ·simp only [Act.put,List.setIfInBounds_toArray,List.set_cons_zero,List.set_cons_succ,i64_w,i32_w]
  rfl
 refine pure_ (i := 15) (N := (some 24)) (v := ?_) (a' := ?_) #[true,true,true,false,false,true,true,true,false,false,true,true,false,false,false,true,false,false,false,false,false,false,false,false,false,false,false,false,false,false,false,false,false,false,false,false,false,false,false,false,false,false,false] rfl rfl (any_of HT_.out (by kernel_rfl)) (fun _ _ _ h => h) (Or.inl ⟨by rfl,?_⟩) ?_ ?_
 rotate_left
 ·intro w'
  go_simp
  with_reducible rfl
 rotate_left
 ·simp only [Act.put,List.setIfInBounds_toArray,List.set_cons_zero,List.set_cons_succ,i64_w,i32_w]
  rfl
 refine pure_ (i := 16) (N := (some 25)) (v := ?_) (a' := ?_) #[true,true,true,false,false,true,true,true,false,false,true,true,false,false,false,true,true,false,false,false,false,false,false,false,false,false,false,false,false,false,false,false,false,false,false,false,false,false,false,false,false,false,false] rfl rfl (any_of HT_.out (by kernel_rfl)) (fun _ _ _ h => h) (Or.inl ⟨by rfl,?_⟩) ?_ ?_
 rotate_left
 ·intro w'
  go_simp
  with_reducible rfl
 rotate_left
 ·simp only [Act.put,List.setIfInBounds_toArray,List.set_cons_zero,List.set_cons_succ,i64_w,i32_w]
  rfl
 refine pure_ (i := 17) (N := (some 26)) (v := ?_) (a' := ?_) #[true,true,true,false,false,true,true,true,false,false,true,true,false,false,false,true,true,true,false,false,false,false,false,false,false,false,false,false,false,false,false,false,false,false,false,false,false,false,false,false,false,false,false] rfl rfl (any_of HT_.out (by kernel_rfl)) (fun _ _ _ h => h) (Or.inl ⟨by rfl,?_⟩) ?_ ?_
 rotate_left
 ·intro w'
  go_simp
  with_reducible rfl
 rotate_left
 ·simp only [Act.put,List.setIfInBounds_toArray,List.set_cons_zero,List.set_cons_succ,i64_w,i32_w]
  rfl
 refine pure_ (i := 20) (N := (some 29)) (v := ?_) (a' := ?_) #[true,true,true,false,false,true,true,true,false,false,true,true,false,false,false,true,true,true,false,false,true,false,false,false,false,false,false,false,false,false,false,false,false,false,false,false,false,false,false,false,false,false,false] rfl rfl (any_of HT_.out (by kernel_rfl)) (fun _ _ _ h => h) (Or.inl ⟨by rfl,?_⟩) ?_ ?_
 rotate_left
 ·intro w'
  go_simp
  with_reducible rfl
 rotate_left
 ·simp only [Act.put,List.setIfInBounds_toArray,List.set_cons_zero,List.set_cons_succ,i64_w,i32_w]
  rfl
 refine pure_ (i := 21) (N := (some 30)) (v := ?_) (a' := ?_) #[true,true,true,false,false,true,true,true,false,false,true,true,false,false,false,true,true,true,false,false,true,true,false,false,false,false,false,false,false,false,false,false,false,false,false,false,false,false,false,false,false,false,false] rfl rfl (any_of HT_.out (by kernel_rfl)) (fun _ _ _ h => h) (Or.inl ⟨by rfl,?_⟩) ?_ ?_
 rotate_left
 ·intro w'
  go_simp
  with_reducible rfl
 rotate_left
 ·simp only [Act.put,List.setIfInBounds_toArray,List.set_cons_zero,List.set_cons_succ,i64_w,i32_w]
  rfl
 refine pure_ (i := 24) (N := (some 33)) (v := ?_) (a' := ?_) #[true,true,true,false,false,true,true,true,false,false,true,true,false,false,false,true,true,true,false,false,true,true,false,false,true,false,false,false,false,false,false,false,false,false,false,false,false,false,false,false,false,false,false] rfl rfl (any_of HT_.out (by kernel_rfl)) (fun _ _ _ h => h) (Or.inl ⟨by rfl,?_⟩) ?_ ?_
 rotate_left
 ·intro w'
  go_simp
  with_reducible rfl
 rotate_left
 ·simp only [Act.put,List.setIfInBounds_toArray,List.set_cons_zero,List.set_cons_succ,i64_w,i32_w]
  rfl
 refine pure_ (i := 25) (N := (some 34)) (v := ?_) (a' := ?_) #[true,true,true,false,false,true,true,true,false,false,true,true,false,false,false,true,true,true,false,false,true,true,false,false,true,true,false,false,false,false,false,false,false,false,false,false,false,false,false,false,false,false,false] rfl rfl (any_of HT_.out (by kernel_rfl)) (fun _ _ _ h => h) (Or.inl ⟨by rfl,?_⟩) ?_ ?_
 rotate_left
 ·intro w'
  go_simp
  with_reducible rfl
 rotate_left
 ·simp only [Act.put,List.setIfInBounds_toArray,List.set_cons_zero,List.set_cons_succ,i64_w,i32_w]
  rfl
 refine pure_ (i := 28) (N := (some 37)) (v := ?_) (a' := ?_) #[true,true,true,false,false,true,true,true,false,false,true,true,false,false,false,true,true,true,false,false,true,true,false,false,true,true,false,false,true,false,false,false,false,false,false,false,false,false,false,false,false,false,false] rfl rfl (any_of HT_.out (by kernel_rfl)) (fun _ _ _ h => h) (Or.inl ⟨by rfl,?_⟩) ?_ ?_
 rotate_left
 ·intro w'
  go_simp
  with_reducible rfl
 rotate_left
 ·simp only [Act.put,List.setIfInBounds_toArray,List.set_cons_zero,List.set_cons_succ,i64_w,i32_w]
  rfl
 refine pure_ (i := 29) (N := (some 38)) (v := ?_) (a' := ?_) #[true,true,true,false,false,true,true,true,false,false,true,true,false,false,false,true,true,true,false,false,true,true,false,false,true,true,false,false,true,true,false,false,false,false,false,false,false,false,false,false,false,false,false] rfl rfl (any_of HT_.out (by kernel_rfl)) (fun _ _ _ h => h) (Or.inl ⟨by rfl,?_⟩) ?_ ?_
 rotate_left
 ·intro w'
  go_simp
  with_reducible rfl
 rotate_left
 ·simp only [Act.put,List.setIfInBounds_toArray,List.set_cons_zero,List.set_cons_succ,i64_w,i32_w]
  rfl
 refine pure_ (i := 30) (N := (some 39)) (v := ?_) (a' := ?_) #[true,true,true,false,false,true,true,true,false,false,true,true,false,false,false,true,true,true,false,false,true,true,false,false,true,true,false,false,true,true,true,false,false,false,false,false,false,false,false,false,false,false,false] rfl rfl (any_of HT_.out (by kernel_rfl)) (fun _ _ _ h => h) (Or.inl ⟨by rfl,?_⟩) ?_ ?_
 rotate_left
 ·intro w'
  go_simp
  with_reducible rfl
 rotate_left
 ·simp only [Act.put,List.setIfInBounds_toArray,List.set_cons_zero,List.set_cons_succ,i64_w,i32_w]
  rfl
 refine pure_ (i := 31) (N := (some 40)) (v := ?_) (a' := ?_) #[true,true,true,false,false,true,true,true,false,false,true,true,false,false,false,true,true,true,false,false,true,true,false,false,true,true,false,false,true,true,true,true,false,false,false,false,false,false,false,false,false,false,false] rfl rfl (any_of HT_.out (by kernel_rfl)) (fun _ _ _ h => h) (Or.inl ⟨by rfl,?_⟩) ?_ ?_
 rotate_left
 ·intro w'
  go_simp
  with_reducible rfl
 rotate_left
 ·simp only [Act.put,List.setIfInBounds_toArray,List.set_cons_zero,List.set_cons_succ,i64_w,i32_w]
  rfl
 refine pure_ (i := 32) (N := (some 41)) (v := ?_) (a' := ?_) #[true,true,true,false,false,true,true,true,false,false,true,true,false,false,false,true,true,true,false,false,true,true,false,false,true,true,false,false,true,true,true,true,true,false,false,false,false,false,false,false,false,false,false] rfl rfl (any_of HT_.out (by kernel_rfl)) (fun _ _ _ h => h) (Or.inl ⟨by rfl,?_⟩) ?_ ?_
 rotate_left
 ·intro w'
  go_simp
  with_reducible rfl
 rotate_left
 ·simp only [Act.put,List.setIfInBounds_toArray,List.set_cons_zero,List.set_cons_succ,i64_w,i32_w]
  rfl
 refine pure_ (i := 35) (N := (some 44)) (v := ?_) (a' := ?_) #[true,true,true,false,false,true,true,true,false,false,true,true,false,false,false,true,true,true,false,false,true,true,false,false,true,true,false,false,true,true,true,true,true,false,false,true,false,false,false,false,false,false,false] rfl rfl (any_of HT_.out (by kernel_rfl)) (fun _ _ _ h => h) (Or.inl ⟨by rfl,?_⟩) ?_ ?_
 rotate_left
 ·intro w'
  go_simp
  with_reducible rfl
 rotate_left
 ·simp only [Act.put,List.setIfInBounds_toArray,List.set_cons_zero,List.set_cons_succ,i64_w,i32_w]
  rfl
 refine pure_ (i := 38) (N := (some 47)) (v := ?_) (a' := ?_) #[true,true,true,false,false,true,true,true,false,false,true,true,false,false,false,true,true,true,false,false,true,true,false,false,true,true,false,false,true,true,true,true,true,false,false,true,false,false,true,false,false,false,false] rfl rfl (any_of HT_.out (by kernel_rfl)) (fun _ _ _ h => h) (Or.inl ⟨by rfl,?_⟩) ?_ ?_
 rotate_left
 ·intro w'
  go_simp
  with_reducible rfl
 rotate_left
 ·simp only [Act.put,List.setIfInBounds_toArray,List.set_cons_zero,List.set_cons_succ,i64_w,i32_w]
  rfl
 refine take_ (i := 12) (N := (some 21)) (v := ?_) (a' := ?_) #[true,true,true,false,false,true,true,true,false,false,true,true,true,false,false,true,true,true,false,false,true,true,false,false,true,true,false,false,true,true,true,true,true,false,false,true,false,false,true,false,false,false,false] rfl rfl (take_ofW HT_.out HW_.out (by kernel_rfl)) (fun _ _ _ h => h) (Or.inl ⟨by rfl,?_⟩) hHeld ?_ ?_
 rotate_left
 ·intro w' hS_
  have s0 := cell_one (hS_ _ (.head _))
  unfold fnV at s0
  go_simp
  with_reducible rfl
 rotate_left
 ·simp only [Act.put,List.setIfInBounds_toArray,List.set_cons_zero,List.set_cons_succ,i64_w,i32_w]
  rfl
 refine one_ (i := 3) (N := (some 12)) #[true,true,true,true,false,true,true,true,false,false,true,true,true,false,false,true,true,true,false,false,true,true,false,false,true,true,false,false,true,true,true,true,true,false,false,true,false,false,true,false,false,false,false] rfl rfl (one_of HT_.out (by kernel_rfl)) (by decide) (fun K hK => ?_)
 refine call_ 45 #[.func (.func 47) #[] #[],.func (.func 48) #[] #[],.bool false,.bool false] (by rfl) rfl (by unfold execOp;simp [resolve,Deferred.ofValue,invoke,Act.eval,e4]) ?_
 refine (cutmk_calls 47 48 false false w0).mono ?_
 rintro e w1 ⟨rfl,m0,m1,m2,m3,hb⟩
 obtain ⟨n0,hn⟩ : ∃ n,w0.heap.size = n := ⟨_,rfl⟩
 have hc : Sees (cutB 47 48 false false n0) w1 := hn ▸ sees_four m0 m1 m2 m3
 have hb' := hb
 rw [hn]
 replace hS := hS.below hb'
 replace HB := HB.trans (hb'.mono HB.size)
 have hc0 := hc
 refine ⟨_,rfl,?_⟩
 refine hK.out _ _ hS (fun hHeld => ?_)
 clear hK K hb hb' hc hn m0 m1 m2 m3
 refine norm_ (a' := ?_) ?_ ?_
 rotate_left
 ·show Act.put _ (some 12) _ = _
  simp only [Act.put,List.setIfInBounds_toArray,List.set_cons_zero,List.set_cons_succ,i64_w,i32_w]
  rfl
 refine pure_ (i := 4) (N := (some 13)) (v := ?_) (a' := ?_) #[true,true,true,true,true,true,true,true,false,false,true,true,true,false,false,true,true,true,false,false,true,true,false,false,true,true,false,false,true,true,true,true,true,false,false,true,false,false,true,false,false,false,false] rfl rfl (any_of HT_.out (by kernel_rfl)) (fun _ _ _ h => h) (Or.inl ⟨by rfl,?_⟩) ?_ ?_
 rotate_left
 ·intro w'
  go_simp
  with_reducible rfl
 rotate_left
 ·simp only [Act.put,List.setIfInBounds_toArray,List.set_cons_zero,List.set_cons_succ,i64_w,i32_w]
  rfl
 refine one_ (i := 8) (N := (some 17)) #[true,true,true,true,true,true,true,true,true,false,true,true,true,false,false,true,true,true,false,false,true,true,false,false,true,true,false,false,true,true,true,true,true,false,false,true,false,false,true,false,false,false,false] rfl rfl (one_of HT_.out (by kernel_rfl)) (by decide) (fun K hK => ?_)
 refine call_ 45 #[.func (.func 49) #[] #[],.func (.func 47) #[] #[],.bool false,.bool false] (by rfl) rfl (by unfold execOp;simp [resolve,Deferred.ofValue,invoke,Act.eval,e4]) ?_
 refine (cutmk_calls 49 47 false false w1).mono ?_
 rintro e w2 ⟨rfl,m0,m1,m2,m3,hb⟩
 obtain ⟨n1,hn⟩ : ∃ n,w1.heap.size = n := ⟨_,rfl⟩
 have hc : Sees (cutB 49 47 false false n1) w2 := hn ▸ sees_four m0 m1 m2 m3
 have hb' := hb
 rw [hn]
 replace hS := hS.below hb'
 replace HB := HB.trans (hb'.mono HB.size)
 replace hc0 := hc0.below hb'
 have hc1 := hc
 refine ⟨_,rfl,?_⟩
 refine hK.out _ _ hS (fun hHeld => ?_)
 clear hK K hb hb' hc hn m0 m1 m2 m3
 refine norm_ (a' := ?_) ?_ ?_
 rotate_left
 ·show Act.put _ (some 17) _ = _
  simp only [Act.put,List.setIfInBounds_toArray,List.set_cons_zero,List.set_cons_succ,i64_w,i32_w]
  rfl
 refine pure_ (i := 9) (N := (some 18)) (v := ?_) (a' := ?_) #[true,true,true,true,true,true,true,true,true,true,true,true,true,false,false,true,true,true,false,false,true,true,false,false,true,true,false,false,true,true,true,true,true,false,false,true,false,false,true,false,false,false,false] rfl rfl (any_of HT_.out (by kernel_rfl)) (fun _ _ _ h => h) (Or.inl ⟨by rfl,?_⟩) ?_ ?_
 rotate_left
 ·intro w'
  go_simp
  with_reducible rfl
 rotate_left
 ·simp only [Act.put,List.setIfInBounds_toArray,List.set_cons_zero,List.set_cons_succ,i64_w,i32_w]
  rfl
 refine one_ (i := 13) (N := (some 22)) #[true,true,true,true,true,true,true,true,true,true,true,true,true,true,false,true,true,true,false,false,true,true,false,false,true,true,false,false,true,true,true,true,true,false,false,true,false,false,true,false,false,false,false] rfl rfl (one_of HT_.out (by kernel_rfl)) (by decide) (fun K hK => ?_)
 refine call_ 45 #[.func (.func 47) #[] #[],.func (.func 38) #[] #[],.bool true,.bool false] (by rfl) rfl (by unfold execOp;simp [resolve,Deferred.ofValue,invoke,Act.eval,e4]) ?_
 refine (cutmk_calls 47 38 true false w2).mono ?_
 rintro e w3 ⟨rfl,m0,m1,m2,m3,hb⟩
 obtain ⟨n2,hn⟩ : ∃ n,w2.heap.size = n := ⟨_,rfl⟩
 have hc : Sees (cutB 47 38 true false n2) w3 := hn ▸ sees_four m0 m1 m2 m3
 have hb' := hb
 rw [hn]
 replace hS := hS.below hb'
 replace HB := HB.trans (hb'.mono HB.size)
 replace hc0 := hc0.below hb'
 replace hc1 := hc1.below hb'
 have hc2 := hc
 refine ⟨_,rfl,?_⟩
 refine hK.out _ _ hS (fun hHeld => ?_)
 clear hK K hb hb' hc hn m0 m1 m2 m3
 refine norm_ (a' := ?_) ?_ ?_
 rotate_left
 ·show Act.put _ (some 22) _ = _
  simp only [Act.put,List.setIfInBounds_toArray,List.set_cons_zero,List.set_cons_succ,i64_w,i32_w]
  rfl
 refine pure_ (i := 14) (N := (some 23)) (v := ?_) (a' := ?_) #[true,true,true,true,true,true,true,true,true,true,true,true,true,true,true,true,true,true,false,false,true,true,false,false,true,true,false,false,true,true,true,true,true,false,false,true,false,false,true,false,false,false,false] rfl rfl (any_of HT_.out (by kernel_rfl)) (fun _ _ _ h => h) (Or.inl ⟨by rfl,?_⟩) ?_ ?_
 rotate_left
 ·intro w'
  go_simp
  with_reducible rfl
 rotate_left
 ·simp only [Act.put,List.setIfInBounds_toArray,List.set_cons_zero,List.set_cons_succ,i64_w,i32_w]
  rfl
 refine one_ (i := 18) (N := (some 27)) #[true,true,true,true,true,true,true,true,true,true,true,true,true,true,true,true,true,true,true,false,true,true,false,false,true,true,false,false,true,true,true,true,true,false,false,true,false,false,true,false,false,false,false] rfl rfl (one_of HT_.out (by kernel_rfl)) (by decide) (fun K hK => ?_)
 refine call_ 45 #[.func (.func 41) #[] #[],.func (.func 47) #[] #[],.bool true,.bool true] (by rfl) rfl (by unfold execOp;simp [resolve,Deferred.ofValue,invoke,Act.eval,e4]) ?_
 refine (cutmk_calls 41 47 true true w3).mono ?_
 rintro e w4 ⟨rfl,m0,m1,m2,m3,hb⟩
 obtain ⟨n3,hn⟩ : ∃ n,w3.heap.size = n := ⟨_,rfl⟩
 have hc : Sees (cutB 41 47 true true n3) w4 := hn ▸ sees_four m0 m1 m2 m3
 have hb' := hb
 rw [hn]
 replace hS := hS.below hb'
 replace HB := HB.trans (hb'.mono HB.size)
 replace hc0 := hc0.below hb'
 replace hc1 := hc1.below hb'
 replace hc2 := hc2.below hb'
 have hc3 := hc
 refine ⟨_,rfl,?_⟩
 refine hK.out _ _ hS (fun hHeld => ?_)
 clear hK K hb hb' hc hn m0 m1 m2 m3
 refine norm_ (a' := ?_) ?_ ?_
 rotate_left
 ·show Act.put _ (some 27) _ = _
  simp only [Act.put,List.setIfInBounds_toArray,List.set_cons_zero,List.set_cons_succ,i64_w,i32_w]
  rfl
 refine pure_ (i := 19) (N := (some 28)) (v := ?_) (a' := ?_) #[true,true,true,true,true,true,true,true,true,true,true,true,true,true,true,true,true,true,true,true,true,true,false,false,true,true,false,false,true,true,true,true,true,false,false,true,false,false,true,false,false,false,false] rfl rfl (any_of HT_.out (by kernel_rfl)) (fun _ _ _ h => h) (Or.inl ⟨by rfl,?_⟩) ?_ ?_
 rotate_left
 ·intro w'
  go_simp
  with_reducible rfl
 rotate_left
 ·simp only [Act.put,List.setIfInBounds_toArray,List.set_cons_zero,List.set_cons_succ,i64_w,i32_w]
  rfl
 refine one_ (i := 22) (N := (some 31)) #[true,true,true,true,true,true,true,true,true,true,true,true,true,true,true,true,true,true,true,true,true,true,true,false,true,true,false,false,true,true,true,true,true,false,false,true,false,false,true,false,false,false,false] rfl rfl (one_of HT_.out (by kernel_rfl)) (by decide) (fun K hK => ?_)
 refine call_ 45 #[.func (.func 47) #[] #[],.func (.func 51) #[] #[],.bool true,.bool false] (by rfl) rfl (by unfold execOp;simp [resolve,Deferred.ofValue,invoke,Act.eval,e4]) ?_
 refine (cutmk_calls 47 51 true false w4).mono ?_
 rintro e w5 ⟨rfl,m0,m1,m2,m3,hb⟩
 obtain ⟨n4,hn⟩ : ∃ n,w4.heap.size = n := ⟨_,rfl⟩
 have hc : Sees (cutB 47 51 true false n4) w5 := hn ▸ sees_four m0 m1 m2 m3
 have hb' := hb
 rw [hn]
 replace hS := hS.below hb'
 replace HB := HB.trans (hb'.mono HB.size)
 replace hc0 := hc0.below hb'
 replace hc1 := hc1.below hb'
 replace hc2 := hc2.below hb'
 replace hc3 := hc3.below hb'
 have hc4 := hc
 refine ⟨_,rfl,?_⟩
 refine hK.out _ _ hS (fun hHeld => ?_)
 clear hK K hb hb' hc hn m0 m1 m2 m3
 refine norm_ (a' := ?_) ?_ ?_
 rotate_left
 ·show Act.put _ (some 31) _ = _
  simp only [Act.put,List.setIfInBounds_toArray,List.set_cons_zero,List.set_cons_succ,i64_w,i32_w]
  rfl
 refine pure_ (i := 23) (N := (some 32)) (v := ?_) (a' := ?_) #[true,true,true,true,true,true,true,true,true,true,true,true,true,true,true,true,true,true,true,true,true,true,true,true,true,true,false,false,true,true,true,true,true,false,false,true,false,false,true,false,false,false,false] rfl rfl (any_of HT_.out (by kernel_rfl)) (fun _ _ _ h => h) (Or.inl ⟨by rfl,?_⟩) ?_ ?_
 rotate_left
 ·intro w'
  go_simp
  with_reducible rfl
 rotate_left
 ·simp only [Act.put,List.setIfInBounds_toArray,List.set_cons_zero,List.set_cons_succ,i64_w,i32_w]
  rfl
 refine one_ (i := 26) (N := (some 35)) #[true,true,true,true,true,true,true,true,true,true,true,true,true,true,true,true,true,true,true,true,true,true,true,true,true,true,true,false,true,true,true,true,true,false,false,true,false,false,true,false,false,false,false] rfl rfl (one_of HT_.out (by kernel_rfl)) (by decide) (fun K hK => ?_)
 refine call_ 45 #[.func (.func 53) #[] #[],.func (.func 47) #[] #[],.bool true,.bool true] (by rfl) rfl (by unfold execOp;simp [resolve,Deferred.ofValue,invoke,Act.eval,e4]) ?_
 refine (cutmk_calls 53 47 true true w5).mono ?_
 rintro e w6 ⟨rfl,m0,m1,m2,m3,hb⟩
 obtain ⟨n5,hn⟩ : ∃ n,w5.heap.size = n := ⟨_,rfl⟩
 have hc : Sees (cutB 53 47 true true n5) w6 := hn ▸ sees_four m0 m1 m2 m3
 have hb' := hb
 rw [hn]
 replace hS := hS.below hb'
 replace HB := HB.trans (hb'.mono HB.size)
 replace hc0 := hc0.below hb'
 replace hc1 := hc1.below hb'
 replace hc2 := hc2.below hb'
 replace hc3 := hc3.below hb'
 replace hc4 := hc4.below hb'
 have hc5 := hc
 refine ⟨_,rfl,?_⟩
 refine hK.out _ _ hS (fun hHeld => ?_)
 clear hK K hb hb' hc hn m0 m1 m2 m3
 refine norm_ (a' := ?_) ?_ ?_
 rotate_left
 ·show Act.put _ (some 35) _ = _
  simp only [Act.put,List.setIfInBounds_toArray,List.set_cons_zero,List.set_cons_succ,i64_w,i32_w]
  rfl
 refine pure_ (i := 27) (N := (some 36)) (v := ?_) (a' := ?_) #[true,true,true,true,true,true,true,true,true,true,true,true,true,true,true,true,true,true,true,true,true,true,true,true,true,true,true,true,true,true,true,true,true,false,false,true,false,false,true,false,false,false,false] rfl rfl (any_of HT_.out (by kernel_rfl)) (fun _ _ _ h => h) (Or.inl ⟨by rfl,?_⟩) ?_ ?_
 rotate_left
 ·intro w'
  go_simp
  with_reducible rfl
 rotate_left
 ·simp only [Act.put,List.setIfInBounds_toArray,List.set_cons_zero,List.set_cons_succ,i64_w,i32_w]
  rfl
 refine one_ (i := 33) (N := (some 42)) #[true,true,true,true,true,true,true,true,true,true,true,true,true,true,true,true,true,true,true,true,true,true,true,true,true,true,true,true,true,true,true,true,true,true,false,true,false,false,true,false,false,false,false] rfl rfl (one_of HT_.out (by kernel_rfl)) (by decide) (fun K hK => ?_)
 refine call_ 43 #[.func (.func 10) #[] #[],.pointer (some ⟨W.heap.size,0,none⟩)] (by rfl) rfl (by unfold execOp;simp [resolve,Deferred.ofValue,invoke,Act.eval,e3]) ?_
 refine (casemk_calls 10 W.heap.size w6).mono ?_
 rintro e w7 ⟨rfl,m0,hb⟩
 obtain ⟨n6,hn⟩ : ∃ n,w6.heap.size = n := ⟨_,rfl⟩
 have hc : Sees (oneB 10 n6) w7 := hn ▸ sees_one (x := (_,_)) m0
 have hb' := hb
 rw [hn]
 replace hS := hS.below hb'
 replace HB := HB.trans (hb'.mono HB.size)
 replace hc0 := hc0.below hb'
 replace hc1 := hc1.below hb'
 replace hc2 := hc2.below hb'
 replace hc3 := hc3.below hb'
 replace hc4 := hc4.below hb'
 replace hc5 := hc5.below hb'
 have hc6 := hc
 refine ⟨_,rfl,?_⟩
 refine hK.out _ _ hS (fun hHeld => ?_)
 clear hK K hb hb' hc hn m0
 refine norm_ (a' := ?_) ?_ ?_
 rotate_left
 ·show Act.put _ (some 42) _ = _
  simp only [Act.put,List.setIfInBounds_toArray,List.set_cons_zero,List.set_cons_succ,i64_w,i32_w]
  rfl
 refine pure_ (i := 34) (N := (some 43)) (v := ?_) (a' := ?_) #[true,true,true,true,true,true,true,true,true,true,true,true,true,true,true,true,true,true,true,true,true,true,true,true,true,true,true,true,true,true,true,true,true,true,true,true,false,false,true,false,false,false,false] rfl rfl (any_of HT_.out (by kernel_rfl)) (fun _ _ _ h => h) (Or.inl ⟨by rfl,?_⟩) ?_ ?_
 rotate_left
 ·intro w'
  go_simp
  with_reducible rfl
 rotate_left
 ·simp only [Act.put,List.setIfInBounds_toArray,List.set_cons_zero,List.set_cons_succ,i64_w,i32_w]
  rfl
 refine one_ (i := 36) (N := (some 45)) #[true,true,true,true,true,true,true,true,true,true,true,true,true,true,true,true,true,true,true,true,true,true,true,true,true,true,true,true,true,true,true,true,true,true,true,true,true,false,true,false,false,false,false] rfl rfl (one_of HT_.out (by kernel_rfl)) (by decide) (fun K hK => ?_)
 refine call_ 43 #[.func (.func 11) #[] #[],.pointer (some ⟨W.heap.size,0,none⟩)] (by rfl) rfl (by unfold execOp;simp [resolve,Deferred.ofValue,invoke,Act.eval,e3]) ?_
 refine (casemk_calls 11 W.heap.size w7).mono ?_
 rintro e w8 ⟨rfl,m0,hb⟩
 obtain ⟨n7,hn⟩ : ∃ n,w7.heap.size = n := ⟨_,rfl⟩
 have hc : Sees (oneB 11 n7) w8 := hn ▸ sees_one (x := (_,_)) m0
 have hb' := hb
 rw [hn]
 replace hS := hS.below hb'
 replace HB := HB.trans (hb'.mono HB.size)
 replace hc0 := hc0.below hb'
 replace hc1 := hc1.below hb'
 replace hc2 := hc2.below hb'
 replace hc3 := hc3.below hb'
 replace hc4 := hc4.below hb'
 replace hc5 := hc5.below hb'
 replace hc6 := hc6.below hb'
 have hc7 := hc
 refine ⟨_,rfl,?_⟩
 refine hK.out _ _ hS (fun hHeld => ?_)
 clear hK K hb hb' hc hn m0
 refine norm_ (a' := ?_) ?_ ?_
 rotate_left
 ·show Act.put _ (some 45) _ = _
  simp only [Act.put,List.setIfInBounds_toArray,List.set_cons_zero,List.set_cons_succ,i64_w,i32_w]
  rfl
 refine pure_ (i := 37) (N := (some 46)) (v := ?_) (a' := ?_) #[true,true,true,true,true,true,true,true,true,true,true,true,true,true,true,true,true,true,true,true,true,true,true,true,true,true,true,true,true,true,true,true,true,true,true,true,true,true,true,false,false,false,false] rfl rfl (any_of HT_.out (by kernel_rfl)) (fun _ _ _ h => h) (Or.inl ⟨by rfl,?_⟩) ?_ ?_
 rotate_left
 ·intro w'
  go_simp
  with_reducible rfl
 rotate_left
 ·simp only [Act.put,List.setIfInBounds_toArray,List.set_cons_zero,List.set_cons_succ,i64_w,i32_w]
  rfl
 refine one_ (i := 39) (N := (some 48)) #[true,true,true,true,true,true,true,true,true,true,true,true,true,true,true,true,true,true,true,true,true,true,true,true,true,true,true,true,true,true,true,true,true,true,true,true,true,true,true,true,false,false,false] rfl rfl (one_of HT_.out (by kernel_rfl)) (by decide) (fun K hK => ?_)
 refine call_ 43 #[.func (.func 12) #[] #[],.pointer (some ⟨W.heap.size,0,none⟩)] (by rfl) rfl (by unfold execOp;simp [resolve,Deferred.ofValue,invoke,Act.eval,e3]) ?_
 refine (casemk_calls 12 W.heap.size w8).mono ?_
 rintro e w9 ⟨rfl,m0,hb⟩
 obtain ⟨n8,hn⟩ : ∃ n,w8.heap.size = n := ⟨_,rfl⟩
 have hc : Sees (oneB 12 n8) w9 := hn ▸ sees_one (x := (_,_)) m0
 have hb' := hb
 rw [hn]
 replace hS := hS.below hb'
 replace HB := HB.trans (hb'.mono HB.size)
 replace hc0 := hc0.below hb'
 replace hc1 := hc1.below hb'
 replace hc2 := hc2.below hb'
 replace hc3 := hc3.below hb'
 replace hc4 := hc4.below hb'
 replace hc5 := hc5.below hb'
 replace hc6 := hc6.below hb'
 replace hc7 := hc7.below hb'
 have hc8 := hc
 refine ⟨_,rfl,?_⟩
 refine hK.out _ _ hS (fun hHeld => ?_)
 clear hK K hb hb' hc hn m0
 refine norm_ (a' := ?_) ?_ ?_
 rotate_left
 ·show Act.put _ (some 48) _ = _
  simp only [Act.put,List.setIfInBounds_toArray,List.set_cons_zero,List.set_cons_succ,i64_w,i32_w]
  rfl
 refine pure_ (i := 40) (N := (some 49)) (v := ?_) (a' := ?_) #[true,true,true,true,true,true,true,true,true,true,true,true,true,true,true,true,true,true,true,true,true,true,true,true,true,true,true,true,true,true,true,true,true,true,true,true,true,true,true,true,true,false,false] rfl rfl (any_of HT_.out (by kernel_rfl)) (fun _ _ _ h => h) (Or.inl ⟨by rfl,?_⟩) ?_ ?_
 rotate_left
 ·intro w'
  go_simp
  with_reducible rfl
 rotate_left
 ·simp only [Act.put,List.setIfInBounds_toArray,List.set_cons_zero,List.set_cons_succ,i64_w,i32_w]
  rfl
 refine one_ (i := 41) (N := (some 50)) #[true,true,true,true,true,true,true,true,true,true,true,true,true,true,true,true,true,true,true,true,true,true,true,true,true,true,true,true,true,true,true,true,true,true,true,true,true,true,true,true,true,true,false] rfl rfl (one_of HT_.out (by kernel_rfl)) (by decide) (fun K hK => ?_)
 rw [if_pos (by rfl)]
 refine wp_buildSlice 53 57 13 _ rfl #[.int .i64 14,.func (.func 46) #[] #[.pointer (some ⟨n0,0,none⟩),.pointer (some ⟨n0 + 1,0,none⟩),.pointer (some ⟨n0 + 2,0,none⟩),.pointer (some ⟨n0 + 3,0,none⟩)],.int .i64 15,.func (.func 46) #[] #[.pointer (some ⟨n1,0,none⟩),.pointer (some ⟨n1 + 1,0,none⟩),.pointer (some ⟨n1 + 2,0,none⟩),.pointer (some ⟨n1 + 3,0,none⟩)],.int .i64 16,.func (.func 46) #[] #[.pointer (some ⟨n2,0,none⟩),.pointer (some ⟨n2 + 1,0,none⟩),.pointer (some ⟨n2 + 2,0,none⟩),.pointer (some ⟨n2 + 3,0,none⟩)],.int .i64 17,.func (.func 46) #[] #[.pointer (some ⟨n3,0,none⟩),.pointer (some ⟨n3 + 1,0,none⟩),.pointer (some ⟨n3 + 2,0,none⟩),.pointer (some ⟨n3 + 3,0,none⟩)],.int .i64 18,.func (.func 46) #[] #[.pointer (some ⟨n4,0,none⟩),.pointer (some ⟨n4 + 1,0,none⟩),.pointer (some ⟨n4 + 2,0,none⟩),.pointer (some ⟨n4 + 3,0,none⟩)],.int .i64 19,.func (.func 46) #[] #[.pointer (some ⟨n5,0,none⟩),.pointer (some ⟨n5 + 1,0,none⟩),.pointer (some ⟨n5 + 2,0,none⟩),.pointer (some ⟨n5 + 3,0,none⟩)],.int .i64 20,.func (.func 55) #[] #[],.int .i64 21,.func (.func 56) #[] #[],.int .i64 24,.func (.func 57) #[] #[],.int .i64 25,.func (.func 58) #[] #[],.int .i64 26,.func (.func 44) #[] #[.pointer (some ⟨W.heap.size,0,none⟩),.pointer (some ⟨n6,0,none⟩)],.int .i64 27,.func (.func 44) #[] #[.pointer (some ⟨W.heap.size,0,none⟩),.pointer (some ⟨n7,0,none⟩)],.int .i64 28,.func (.func 44) #[] #[.pointer (some ⟨W.heap.size,0,none⟩),.pointer (some ⟨n8,0,none⟩)]] _ _ Tryd.underlying53 (by rfl) (by rfl) (by decide) (by decide) (by kernel_rfl) ?_
 refine hK.out _ _ (sees_alloc hS _) (fun hHeld => ?_)
 clear hK K
 refine norm_ (a' := ?_) ?_ ?_
 rotate_left
 ·show Act.put _ (some 50) _ = _
  simp only [Act.put,List.setIfInBounds_toArray,List.set_cons_zero,List.set_cons_succ,i64_w,i32_w]
  rfl
 refine pure_ (i := 42) (N := (some 0)) (v := ?_) (a' := ?_) #[true,true,true,true,true,true,true,true,true,true,true,true,true,true,true,true,true,true,true,true,true,true,true,true,true,true,true,true,true,true,true,true,true,true,true,true,true,true,true,true,true,true,true] rfl rfl (any_of HT_.out (by kernel_rfl)) (fun _ _ _ h => h) (Or.inl ⟨by rfl,?_⟩) ?_ ?_
 rotate_left
 ·intro w'
  go_simp
  with_reducible rfl
 rotate_left
 ·simp only [Act.put,List.setIfInBounds_toArray,List.set_cons_zero,List.set_cons_succ,i64_w,i32_w]
  rfl
 refine done_ (done_of HT_.out (by kernel_rfl)) ?_
 go_wp2
 go_ret
 exact ⟨w9.heap.size,W.heap.size,fun i => match i with | 0 => n0 | 1 => n1 | 2 => n2 | 3 => n3 | 4 => n4 | 5 => n5 | 6 => n6 | 7 => n7 | _ => n8,rfl,
  ⟨World.alloc_heap_new _ _,sees_alloc hS _,sees_alloc hc0 _,sees_alloc hc1 _,sees_alloc hc2 _,sees_alloc hc3 _,sees_alloc hc4 _,sees_alloc hc5 _,sees_alloc hc6 _,sees_alloc hc7 _,sees_alloc hc8 _⟩,HB.alloc HB.size _⟩
end Go.Proofs.YtfmnmjoofnbnfaaDoor.U
end
section
namespace Go.Proofs.YtfmnmjoofnbnfaaDoor.U
open Go.RowKit Go.Shelf Go.Proofs.YtfmnmjoofnbnfaaDoor.Mu Go.Proofs.YtfmnmjoofnbnfaaDoor.Pu Go.Proofs.YtfmnmjoofnbnfaaDoor.Rg Go.Proofs.YtfmnmjoofnbnfaaDoorW.PrintWords Go.Proofs.YtfmnmjoofnbnfaaDoorW.PrintLast Go.Proofs.YtfmnmjoofnbnfaaDoorW.PrintMore
set_option linter.unusedVariables false
set_option linter.unusedSimpArgs false
attribute [local go_sem] run_store_func
/-- The kinds,in the rules' order. -/
def kd : Nat → Int
 | 0 => 14
 | 1 => 15
 | 2 => 16
 | 3 => 17
 | 4 => 18
 | 5 => 19
 | 6 => 20
 | 7 => 21
 | 8 => 24
 | 9 => 25
 | 10 => 26
 | 11 => 27
 | _ => 28
/-- What a rule's function value holds: the function,and what it has caught. -/
def rg (ba : Nat) (n : Nat → Nat) : Nat → Nat × Array Value
 | 0 => (46,#[.pointer (some ⟨(n 0),0,none⟩),.pointer (some ⟨(n 0) + 1,0,none⟩),.pointer (some ⟨(n 0) + 2,0,none⟩),.pointer (some ⟨(n 0) + 3,0,none⟩)])
 | 1 => (46,#[.pointer (some ⟨(n 1),0,none⟩),.pointer (some ⟨(n 1) + 1,0,none⟩),.pointer (some ⟨(n 1) + 2,0,none⟩),.pointer (some ⟨(n 1) + 3,0,none⟩)])
 | 2 => (46,#[.pointer (some ⟨(n 2),0,none⟩),.pointer (some ⟨(n 2) + 1,0,none⟩),.pointer (some ⟨(n 2) + 2,0,none⟩),.pointer (some ⟨(n 2) + 3,0,none⟩)])
 | 3 => (46,#[.pointer (some ⟨(n 3),0,none⟩),.pointer (some ⟨(n 3) + 1,0,none⟩),.pointer (some ⟨(n 3) + 2,0,none⟩),.pointer (some ⟨(n 3) + 3,0,none⟩)])
 | 4 => (46,#[.pointer (some ⟨(n 4),0,none⟩),.pointer (some ⟨(n 4) + 1,0,none⟩),.pointer (some ⟨(n 4) + 2,0,none⟩),.pointer (some ⟨(n 4) + 3,0,none⟩)])
 | 5 => (46,#[.pointer (some ⟨(n 5),0,none⟩),.pointer (some ⟨(n 5) + 1,0,none⟩),.pointer (some ⟨(n 5) + 2,0,none⟩),.pointer (some ⟨(n 5) + 3,0,none⟩)])
 | 6 => (55,#[])
 | 7 => (56,#[])
 | 8 => (57,#[])
 | 9 => (58,#[])
 | 10 => (44,#[.pointer (some ⟨ba,0,none⟩),.pointer (some ⟨(n 6),0,none⟩)])
 | 11 => (44,#[.pointer (some ⟨ba,0,none⟩),.pointer (some ⟨(n 7),0,none⟩)])
 | _ => (44,#[.pointer (some ⟨ba,0,none⟩),.pointer (some ⟨(n 8),0,none⟩)])
theorem RulesAt.below {w w' : World} {N ba : Nat} {n : Nat → Nat} (h : RulesAt w N ba n) (hb : Below w.heap.size w w') : RulesAt w' N ba n := by
 obtain ⟨h0,h1,h2,h3,h4,h5,h6,h7,h8,h9,h10⟩ := h
 exact ⟨work_kept h0 hb,h1.below hb,h2.below hb,h3.below hb,h4.below hb,h5.below hb,h6.below hb,h7.below hb,h8.below hb,h9.below hb,h10.below hb⟩
theorem rules_cell {w : World} {N ba : Nat} {n : Nat → Nat} (h : RulesAt w N ba n) : ∀ i : Nat,i < 13 → w.cell? ⟨N,i * 2,none⟩ = some (.int .i64 (kd i)) ∧ w.cell? ⟨N,i * 2 + 1,none⟩ = some (.func (.func (rg ba n i).1) #[] (rg ba n i).2) := by
 intro i hi
 have h0 := h.1
 match i,hi with
 | 0,_ => exact ⟨blk_cell h0 0,blk_cell h0 1⟩
 | 1,_ => exact ⟨blk_cell h0 2,blk_cell h0 3⟩
 | 2,_ => exact ⟨blk_cell h0 4,blk_cell h0 5⟩
 | 3,_ => exact ⟨blk_cell h0 6,blk_cell h0 7⟩
 | 4,_ => exact ⟨blk_cell h0 8,blk_cell h0 9⟩
 | 5,_ => exact ⟨blk_cell h0 10,blk_cell h0 11⟩
 | 6,_ => exact ⟨blk_cell h0 12,blk_cell h0 13⟩
 | 7,_ => exact ⟨blk_cell h0 14,blk_cell h0 15⟩
 | 8,_ => exact ⟨blk_cell h0 16,blk_cell h0 17⟩
 | 9,_ => exact ⟨blk_cell h0 18,blk_cell h0 19⟩
 | 10,_ => exact ⟨blk_cell h0 20,blk_cell h0 21⟩
 | 11,_ => exact ⟨blk_cell h0 22,blk_cell h0 23⟩
 | 12,_ => exact ⟨blk_cell h0 24,blk_cell h0 25⟩
/-- Is it one of the kinds from number i on? -/
def doesB (k : Int) : Nat → Nat → Bool
 | 0,_ => false
 | m + 1,i => kd i == k || doesB k m (i + 1)
def change_Does.f (a0 : Int) : Option Bool := some (doesB a0 13 0)
set_option maxRecDepth 100000 in
set_option maxHeartbeats 4000000 in
theorem change_Does.calls (a0 : Int) (r : Bool) (w : World) (h : change_Does.f a0 = some r) :
  Calls Tryd.prog 16 #[.int .i64 a0] w fun e w' => e = .returned (.bool r) ∧ Below w.heap.size w w' := by
 cases h
 have hu := Tryd.underlying57
 have hu2 := Tryd.underlying53
 go_enter Tryd.func16,Tryd.ntmps16
 go_wp2_with (go_at_call 24;refine (rules_calls _).mono ?_;rintro e w2 ⟨N,ba,n,rfl,hR,hb2⟩)
 go_loopw [4,7] (fun v4 v7 wr => ∃ (i : Nat),v7 = .int .i64 i ∧ i ≤ 13 ∧ Hid (doesB a0 13 0 = doesB a0 (13 - i) i) ∧ RulesAt wr N ba n ∧ Below w.heap.size w wr)
  (fun _ v _ => 13 - (intOf v).toNat)
 case atStart => exact ⟨0,rfl,Nat.zero_le _,Lib.hid rfl,hR,hb2⟩
 case round =>
  obtain ⟨i,rfl,hi,hA,hR,hb⟩ := hrel
  clear hb2
  by_cases hlt : i < 13
  ·have hlt' : (i : Int) < 13 := by omega
   obtain ⟨c0,c1⟩ := rules_cell hR i hlt
   have hA := Lib.hid (hA.out.trans (by rw [show 13 - i = (13 - (i + 1)) + 1 by omega,doesB]))
   have hw2 : IntKind.i64.wrap ((i : Int) + 1) = ((i + 1 : Nat) : Int) := (i64_w _).trans (by unfold wrap64;omega)
   obtain ⟨kk,hk⟩ : ∃ x,kd i = x := ⟨_,rfl⟩
   obtain ⟨⟨g,lb⟩,hg⟩ : ∃ x,rg ba n i = x := ⟨_,rfl⟩
   rw [hk] at c0 hA
   rw [hg] at c1
   have hR' := hR.below ((Below.refl _ wr).alloc (Nat.le_refl _) (.cells #[.int .i64 kk,.func (.func g) #[] lb] 57 (0,0)))
   have hb' := hb.alloc hb.size (.cells #[.int .i64 kk,.func (.func g) #[] lb] 57 (0,0))
   clear hk hg
   by_cases he : kk = a0
   ·have he' : (kk == a0) = true := beq_iff_eq.mpr he
    have hA := Lib.hid (hA.out.trans (by rw [he',Bool.true_or]))
    go_wp2
    go_ret
    exact ⟨by rw [hA.out];rfl,he ▸ hb'⟩
   ·have he' : (kk == a0) = false := beq_eq_false_iff_ne.mpr he
    have hA := Lib.hid (hA.out.trans (by rw [he',Bool.false_or]))
    go_wp2
    go_roundw
    case rel => exact ⟨i + 1,by go_num,by omega,hA,hR',hb'⟩
    case measure => (try clear hw2);simp [intOf];omega
  ·have hge : ¬ ((i : Int) < 13) := by omega
   have hA := Lib.hid (hA.out.trans (by rw [show 13 - i = 0 by omega,doesB]))
   go_wp2
   go_ret
   exact ⟨by rw [hA.out];rfl,hb⟩
end Go.Proofs.YtfmnmjoofnbnfaaDoor.U
end
section
namespace Go.Proofs.YtfmnmjoofnbnfaaDoor.U
open Go.RowKit Go.Shelf Go.Proofs.YtfmnmjoofnbnfaaDoor.Mu Go.Proofs.YtfmnmjoofnbnfaaDoor.Pu Go.Proofs.YtfmnmjoofnbnfaaDoor.Rg Go.Proofs.YtfmnmjoofnbnfaaDoorW.PrintWords Go.Proofs.YtfmnmjoofnbnfaaDoorW.PrintLast Go.Proofs.YtfmnmjoofnbnfaaDoorW.PrintMore
set_option linter.unusedVariables false
set_option linter.unusedSimpArgs false
attribute [local go_sem] run_store_func max2_int min2_int max_two min_two
/-- The first rule of the kind;none: the kind is none that changes something. -/
def ofB (k : Int) (Z : Nat → Res) : Nat → Nat → Res
 | 0,_ => (0,0,⟨#[]⟩,0,⟨#[]⟩,false,13)
 | m + 1,i => if kd i = k then Z i else ofB k Z m (i + 1)
def ofL (kind count mark : Int) (tx : ByteArray) (B : Nat) : List (Nat × Obj) := [(B,(.cells #[.int .i64 kind,.int .i64 count,.string tx,.int .u8 mark] 35 (0,0))),(B + 1,(.cells #[.int .i64 0,.int .i64 0,.string (⟨#[]⟩ : ByteArray),.int .i64 0,.string (⟨#[]⟩ : ByteArray),.bool false] 30 (0,0)))]
theorem of_start (kind count mark : Int) (tx : ByteArray) (w : World) : Sees (ofL kind count mark tx w.heap.size) ((w.alloc (.cells #[.int .i64 kind,.int .i64 count,.string tx,.int .u8 mark] 35 (0,0))).alloc (.cells #[.int .i64 0,.int .i64 0,.string (⟨#[]⟩ : ByteArray),.int .i64 0,.string (⟨#[]⟩ : ByteArray),.bool false] 30 (0,0))) ∧ Below w.heap.size w ((w.alloc (.cells #[.int .i64 kind,.int .i64 count,.string tx,.int .u8 mark] 35 (0,0))).alloc (.cells #[.int .i64 0,.int .i64 0,.string (⟨#[]⟩ : ByteArray),.int .i64 0,.string (⟨#[]⟩ : ByteArray),.bool false] 30 (0,0))) := by
 refine ⟨?_,((Below.refl _ w).alloc (Nat.le_refl _) _).alloc (by rw [World.size_alloc];omega) _⟩
 intro p hp
 simp only [ofL,List.mem_cons,List.not_mem_nil,or_false] at hp
 rcases hp with rfl | rfl
 ·exact al_kept (World.alloc_heap_new _ _) _
 ·exact al_next _ _ _
theorem put4 {w : World} {g : Nat} {t : TypeId} {c0 c1 c2 c3 : Value} (h : w.heap[g]? = some (.cells #[c0,c1,c2,c3] t (0,0))) (u0 u1 u2 u3 : Value) :
  ((((w.setCell ⟨g,0,none⟩ u0).setCell ⟨g,1,none⟩ u1).setCell ⟨g,2,none⟩ u2).setCell ⟨g,3,none⟩ u3).heap[g]? = some (.cells #[u0,u1,u2,u3] t (0,0)) :=
 blk_put (cs := #[u0,u1,u2,c3]) (blk_put (cs := #[u0,u1,c2,c3]) (blk_put (cs := #[u0,c1,c2,c3]) (blk_put h 0 u0 rfl) 1 u1 rfl) 2 u2 rfl) 3 u3 rfl
theorem of_lt {kind count mark : Int} {tx : ByteArray} {B g : Nat} (h : B + 2 ≤ g) : ∀ p ∈ ofL kind count mark tx B,p.1 < g := by
 intro p hp
 simp only [ofL,List.mem_cons,List.not_mem_nil,or_false] at hp
 rcases hp with rfl | rfl <;> dsimp only <;> omega
theorem of_cells {kind count mark : Int} {tx : ByteArray} {B : Nat} {w : World} (h : Sees (ofL kind count mark tx B) w) : w.cell? ⟨B,0,none⟩ = some (.int .i64 kind) ∧ w.cell? ⟨B,1,none⟩ = some (.int .i64 count) :=
 ⟨blk_cell (h _ (.head _)) 0,blk_cell (h _ (.head _)) 1⟩
def of1.T : Bool × List (List Nat × List Nat) := (true,[([],[]),([],[]),([],[]),([1,2],[1,2]),([],[]),([4],[4]),([5],[5]),([6],[6]),([0,3,7],[0,3,7]),([],[]),([9,8,3,0,1,2,3,4,5,6,7,8,9],[8,9])])
def of1.B : List Nat := [0,0,0,6,0,16,48,112,255,0,1023]
theorem of1.tab : rtab .any (opsOf Tryd.f9 1) = of1.T := by kernel_rfl
theorem of1.bits : waitsOk of1.T.2 of1.B = true := by kernel_rfl
set_option maxRecDepth 100000 in
set_option maxHeartbeats 4000000 in
theorem of_walk (kind count mark : Int) (tx text : ByteArray) (at_ region : Int) (hs : text.size ≤ 1099511627776) (q : Wk) (hq0 : q.text = text) (hq1 : q.at0 = snZ text at_) (hq2 : q.region = if region ≥ 0 then snZ text region else -1) (hq3 : (q.n : Int) = if 1000 < (if count < 1 then 1 else count) then 1000 else (if count < 1 then 1 else count)) (Z : Nat → Res) (w : World)
  (hT : Lib.Utf8Tabs 1 2 w) (he : ∀ (i ba : Nat) (n : Nat → Nat),i < 13 → ∀ args w,(callFunc (rg ba n i).1 args).run Tryd.prog w = .ok (.enter (rg ba n i).1 args) w)
  (hZ : ∀ (i : Nat),i < 13 → ∀ (W : World) (N ba : Nat) (n : Nat → Nat),RulesAt W N ba n → Lib.Utf8Tabs 1 2 W →
   Calls Tryd.prog (rg ba n i).1 (#[.agg #[.string q.text,.int .i64 q.at0,.int .i64 q.region,.int .i64 q.n]] ++ (rg ba n i).2) W fun e w' => e = .returned (resV (Z i)) ∧ Below W.heap.size W w') :
  Calls Tryd.prog 9 #[.agg #[.int .i64 kind,.int .i64 count,.string tx,.int .u8 mark],.string text,.int .i64 at_,.int .i64 region] w fun e w' => e = .returned (resV (ofB kind Z 13 0)) ∧ Below w.heap.size w w' := by
 have hu := Tryd.underlying52
 have hu2 := Tryd.underlying30
 have hu3 := Tryd.underlying28
 have hu4 := Tryd.underlying35
 have hu5 := Tryd.underlying57
 have hu6 := Tryd.underlying53
 go_enter Tryd.func9,Tryd.ntmps9
 go_upto_region 1 with (fail)
 obtain ⟨hL,HB⟩ := of_start kind count mark tx w
 have hL1 : Sees (ofL kind count mark tx w.heap.size) ((w.alloc (.cells #[.int .i64 kind,.int .i64 count,.string tx,.int .u8 mark] 35 (0,0))).alloc (.cells #[.int .i64 0,.int .i64 0,.string (⟨#[]⟩ : ByteArray),.int .i64 0,.string (⟨#[]⟩ : ByteArray),.bool false] 30 (0,0))).drew := hL
 have HB1 := below_drew1 HB
 obtain ⟨k0,hk0⟩ := Ev.rounds (snZ_ans text hs at_)
 obtain ⟨at1,ha1⟩ : ∃ x,snZ text at_ = x := ⟨_,rfl⟩
 rw [ha1] at hk0 hq1
 refine start_ (n := 11) (S := Sees (ofL kind count mark tx w.heap.size)) (ds := []) #[false,false,false,false,false,false,false,false,false,false,false] (by kernel_rfl) rfl rfl hL1 (fun hHeld => ?_);refine with_tabW of1.tab of1.bits (fun HT_ HW_ => ?_)
 generalize ((w.alloc (.cells #[.int .i64 kind,.int .i64 count,.string tx,.int .u8 mark] 35 (0,0))).alloc (.cells #[.int .i64 0,.int .i64 0,.string (⟨#[]⟩ : ByteArray),.int .i64 0,.string (⟨#[]⟩ : ByteArray),.bool false] 30 (0,0))).drew = w1 at hL1 HB1 hHeld ⊢
 clear hL HB
 refine pure_ (i := 0) (N := (some 13)) (v := ?_) (a' := ?_) #[true,false,false,false,false,false,false,false,false,false,false] rfl rfl (any_of HT_.out (by kernel_rfl)) (fun _ _ _ h => h) (Or.inl ⟨by rfl,?_⟩) ?_ ?_
 rotate_left
 ·intro w'
  go_simp
  with_reducible rfl
 rotate_left
 ·simp only [Act.put,List.setIfInBounds_toArray,List.set_cons_zero,List.set_cons_succ,i64_w,i32_w]
  rfl
 refine pure_ (i := 1) (N := (some 14)) (v := ?_) (a' := ?_) #[true,true,false,false,false,false,false,false,false,false,false] rfl rfl (any_of HT_.out (by kernel_rfl)) (fun _ _ _ h => h) (Or.inl ⟨by rfl,?_⟩) ?_ ?_
 rotate_left
 ·intro w'
  go_simp
  with_reducible rfl
 rotate_left
 ·simp only [Act.put,List.setIfInBounds_toArray,List.set_cons_zero,List.set_cons_succ,i64_w,i32_w]
  rfl
 refine pure_ (i := 2) (N := (some 15)) (v := ?_) (a' := ?_) #[true,true,true,false,false,false,false,false,false,false,false] rfl rfl (any_of HT_.out (by kernel_rfl)) (fun _ _ _ h => h) (Or.inl ⟨by rfl,?_⟩) ?_ ?_
 rotate_left
 ·intro w'
  go_simp
  with_reducible rfl
 rotate_left
 ·simp only [Act.put,List.setIfInBounds_toArray,List.set_cons_zero,List.set_cons_succ,i64_w,i32_w]
  rfl
 refine pure_ (i := 4) (N := (some 17)) (v := ?_) (a' := ?_) #[true,true,true,false,true,false,false,false,false,false,false] rfl rfl (any_of HT_.out (by kernel_rfl)) (fun _ _ _ h => h) (Or.inl ⟨by rfl,?_⟩) ?_ ?_
 rotate_left
 ·intro w'
  go_simp
  with_reducible rfl
 rotate_left
 ·simp only [Act.put,List.setIfInBounds_toArray,List.set_cons_zero,List.set_cons_succ,i64_w,i32_w]
  rfl
 refine take_ (i := 5) (N := (some 18)) (v := ?_) (a' := ?_) #[true,true,true,false,true,true,false,false,false,false,false] rfl rfl (take_ofW HT_.out HW_.out (by kernel_rfl)) (fun _ _ _ h => h) (Or.inl ⟨by rfl,?_⟩) hHeld ?_ ?_
 rotate_left
 ·intro w' hS_
  obtain ⟨s0,s1⟩ := of_cells hS_
  go_simp
  with_reducible rfl
 rotate_left
 ·simp only [Act.put,List.setIfInBounds_toArray,List.set_cons_zero,List.set_cons_succ,i64_w,i32_w]
  rfl
 refine pure_ (i := 6) (N := (some 19)) (v := ?_) (a' := ?_) #[true,true,true,false,true,true,true,false,false,false,false] rfl rfl (any_of HT_.out (by kernel_rfl)) (fun _ _ _ h => h) (Or.inl ⟨by rfl,?_⟩) ?_ ?_
 rotate_left
 ·intro w'
  go_simp
  with_reducible rfl
 rotate_left
 ·simp only [Act.put,List.setIfInBounds_toArray,List.set_cons_zero,List.set_cons_succ,i64_w,i32_w]
  rfl
 refine pure_ (i := 7) (N := (some 20)) (v := ?_) (a' := ?_) #[true,true,true,false,true,true,true,true,false,false,false] rfl rfl (any_of HT_.out (by kernel_rfl)) (fun _ _ _ h => h) (Or.inl ⟨by rfl,?_⟩) ?_ ?_
 rotate_left
 ·intro w'
  go_simp
  with_reducible rfl
 rotate_left
 ·simp only [Act.put,List.setIfInBounds_toArray,List.set_cons_zero,List.set_cons_succ,i64_w,i32_w]
  rfl
 refine join_ (σ := Nat) 1 #[true,true,true,true,true,true,true,true,true,true,false] (fun s_ => [(16,.int .i64 at1),(10,.pointer (some ⟨s_,0,none⟩)),(21,.agg #[.string text,.int .i64 at1,.int .i64 (-1),.int .i64 (if 1000 < (if count < 1 then 1 else count) then 1000 else (if count < 1 then 1 else count))])]) (fun s_ w' => Sees (ofL kind count mark tx w.heap.size) w' ∧ w'.heap[s_]? = some (.cells #[.string (⟨#[]⟩ : ByteArray),.int .i64 0,.int .i64 0,.int .i64 0] 52 (0,0)) ∧ w.heap.size + 2 ≤ s_ ∧ Below w.heap.size w w') ?_ ?_
 rotate_left
 ·intro hCont
  refine two_ (i := 3) (j := 9) (Ni := some 16) (Nj := some 10) #[true,true,true,true,true,true,true,true,false,false,false] #[true,true,true,false,true,true,true,true,false,true,false] rfl rfl rfl rfl (two_of HT_.out (by kernel_rfl)) (by decide) (by decide) (fun K hK => ?_) (fun K hK => ?_)
  ·skip
   refine goes_ Tryd.func23 (by kernel_rfl) rfl #[.string text,.int .i64 at_] (by rfl) rfl rfl (by (try simp only [List.map_toArray,List.map_cons,List.map_nil]);first | done | rfl) ?_
   refine (cluster_Snap.calls k0 text at_ at1 _ (tabs_below hT HB1) hk0).mono ?_
   rintro e w2 ⟨rfl,hb⟩
   have hL2 := hL1.below hb
   have HB2 := HB1.trans (hb.mono HB1.size)
   refine ⟨_,rfl,?_⟩
   refine hK.out _ _ hL2 (fun hHeld => ?_)
   clear hK K hb
   refine norm_ (a' := ?_) ?_ ?_
   rotate_left
   ·show Act.put _ (some 16) _ = _
    simp only [Act.put,List.setIfInBounds_toArray,List.set_cons_zero,List.set_cons_succ,i64_w,i32_w]
    rfl
   refine pure_ (i := 8) (N := some 21) (v := ?_) (a' := ?_) #[true,true,true,true,true,true,true,true,true,false,false] rfl rfl (any_of HT_.out (by kernel_rfl)) (fun _ _ _ h => h) (Or.inl ⟨by rfl,?_⟩) ?_ ?_
   rotate_left
   ·intro w'
    go_simp
    with_reducible rfl
   rotate_left
   ·simp only [Act.put,List.setIfInBounds_toArray,List.set_cons_zero,List.set_cons_succ,i64_w,i32_w]
    rfl
   refine one_ (i := 9) (N := some 10) #[true,true,true,true,true,true,true,true,true,true,false] rfl rfl (one_of HT_.out (by kernel_rfl)) (by decide) (fun K hK => ?_)
   refine box_step ?hg (N := 10) ?hd (cs := #[.string (⟨#[]⟩ : ByteArray),.int .i64 0,.int .i64 0,.int .i64 0]) (t := 52) ?hr ?_;(case hd => rfl);(case hg => rfl);(case hr => first | (go_simp;done) | (go_simp;rfl))
   intro g hg w3 hbox' hb
   have hlt : w.heap.size + 2 ≤ w2.heap.size := (Array.getElem?_eq_some_iff.1 (hL2 _ (.tail _ (.head _)))).1
   rw [← hg] at hlt
   have hL3 := hL2.below hb
   have HB3 := HB2.trans (hb.mono HB2.size)
   refine hK.out _ _ hL3 (fun hHeld => ?_)
   clear hK K
   refine norm_ (a' := ?_) ?_ ?_
   rotate_left
   ·show Act.put _ (some 10) _ = _
    simp only [Act.put,List.setIfInBounds_toArray,List.set_cons_zero,List.set_cons_succ,i64_w,i32_w]
    rfl
   exact norm_ au39 (hCont g _ ⟨hL3,hbox',hlt,HB3⟩)
  ·skip
   refine box_step ?hg (N := 10) ?hd (cs := #[.string (⟨#[]⟩ : ByteArray),.int .i64 0,.int .i64 0,.int .i64 0]) (t := 52) ?hr ?_;(case hd => rfl);(case hg => rfl);(case hr => first | (go_simp;done) | (go_simp;rfl))
   intro g hg w2 hbox hb
   have hlt : w.heap.size + 2 ≤ w1.heap.size := (Array.getElem?_eq_some_iff.1 (hL1 _ (.tail _ (.head _)))).1
   rw [← hg] at hlt
   have hL2 := hL1.below hb
   have HB2 := HB1.trans (hb.mono HB1.size)
   refine hK.out _ _ hL2 (fun hHeld => ?_)
   clear hK K hb
   refine norm_ (a' := ?_) ?_ ?_
   rotate_left
   ·show Act.put _ (some 10) _ = _
    simp only [Act.put,List.setIfInBounds_toArray,List.set_cons_zero,List.set_cons_succ,i64_w,i32_w]
    rfl
   refine one_ (i := 3) (N := some 16) #[true,true,true,true,true,true,true,true,false,true,false] rfl rfl (one_of HT_.out (by kernel_rfl)) (by decide) (fun K hK => ?_)
   refine goes_ Tryd.func23 (by kernel_rfl) rfl #[.string text,.int .i64 at_] (by rfl) rfl rfl (by (try simp only [List.map_toArray,List.map_cons,List.map_nil]);first | done | rfl) ?_
   refine (cluster_Snap.calls k0 text at_ at1 _ (tabs_below hT HB2) hk0).mono ?_
   rintro e w3 ⟨rfl,hb⟩
   have hL3 := hL2.below hb
   have HB3 := HB2.trans (hb.mono HB2.size)
   have hbox' := work_kept hbox hb
   refine ⟨_,rfl,?_⟩
   refine hK.out _ _ hL3 (fun hHeld => ?_)
   clear hK K hb
   refine norm_ (a' := ?_) ?_ ?_
   rotate_left
   ·show Act.put _ (some 16) _ = _
    simp only [Act.put,List.setIfInBounds_toArray,List.set_cons_zero,List.set_cons_succ,i64_w,i32_w]
    rfl
   refine pure_ (i := 8) (N := some 21) (v := ?_) (a' := ?_) #[true,true,true,true,true,true,true,true,true,true,false] rfl rfl (any_of HT_.out (by kernel_rfl)) (fun _ _ _ h => h) (Or.inl ⟨by rfl,?_⟩) ?_ ?_
   rotate_left
   ·intro w'
    go_simp
    with_reducible rfl
   rotate_left
   ·simp only [Act.put,List.setIfInBounds_toArray,List.set_cons_zero,List.set_cons_succ,i64_w,i32_w]
    rfl
   exact norm_ au39 (hCont g _ ⟨hL3,hbox',hlt,HB3⟩)
 intro g w4 ⟨hL4,hG4,hg4,HB4⟩
 clear hL1 HB1 hHeld
 simp only [putAll,Act.put,List.setIfInBounds_toArray,List.set_cons_zero,List.set_cons_succ]
 have hf0 := blk_frozen hG4 0
 have hf1 := blk_frozen hG4 1
 have hf2 := blk_frozen hG4 2
 have hf3 := blk_frozen hG4 3
 have hz0 := blk_cell hG4 0
 have hz1 := blk_cell hG4 1
 have hz2 := blk_cell hG4 2
 have hz3 := blk_cell hG4 3
 have hlt := of_lt (kind := kind) (count := count) (mark := mark) (tx := tx) hg4
 refine one_ (i := 10) (N := none) #[true,true,true,true,true,true,true,true,true,true,true] rfl rfl (one_of HT_.out (by kernel_rfl)) (by decide) (fun K hK => ?_)
 refine skip_ (w1 := ?_) (by rfl) rfl ?_ ?_
 rotate_left
 ·go_simp
  rfl
 have hL5 := (((hL4.set hlt 0 (.string text)).set hlt 1 (.int .i64 at1)).set hlt 2 (.int .i64 (-1))).set hlt 3 (.int .i64 (if 1000 < (if count < 1 then 1 else count) then 1000 else (if count < 1 then 1 else count)))
 have hG5 := put4 hG4 (.string text) (.int .i64 at1) (.int .i64 (-1)) (.int .i64 (if 1000 < (if count < 1 then 1 else count) then 1000 else (if count < 1 then 1 else count)))
 have hgw : w.heap.size ≤ g := by omega
 have HB5 := below_set (j := 3) (v := .int .i64 (if 1000 < (if count < 1 then 1 else count) then 1000 else (if count < 1 then 1 else count))) (below_set (j := 2) (v := .int .i64 (-1)) (below_set (j := 1) (v := .int .i64 at1) (below_set (j := 0) (v := .string text) HB4 hgw) hgw) hgw) hgw
 refine hK.out _ _ hL5 (fun hHeld => ?_)
 clear hK K hf0 hf1 hf2 hf3 hz0 hz1 hz2 hz3
 generalize ((((w4.setCell ⟨g,0,none⟩ (.string text)).setCell ⟨g,1,none⟩ (.int .i64 at1)).setCell ⟨g,2,none⟩ (.int .i64 (-1))).setCell ⟨g,3,none⟩ (.int .i64 (if 1000 < (if count < 1 then 1 else count) then 1000 else (if count < 1 then 1 else count)))) = w5 at hL5 hG5 HB5 hHeld ⊢
 refine done_ (done_of HT_.out (by kernel_rfl)) ?_
 clear hL4 hG4 HB4 hHeld HT_ HW_
 rw [← hq3] at hG5
 generalize (if 1000 < (if count < 1 then 1 else count) then 1000 else (if count < 1 then 1 else count)) = m2
 generalize (if count < 1 then (1 : Int) else count) = m1
 have hc0 := (blk_cell hG5 2)
 have hc1 := (blk_frozen hG5 2)
 obtain ⟨k1,hk1⟩ := Ev.rounds (snZ_ans text hs region)
 by_cases hr : 0 ≤ region
 ·have hr' := eq_true hr
  have hq2' : q.region = snZ text region := hq2.trans (if_pos hr)
  go_wp2_with (first | (go_at_call 23;refine (cluster_Snap.calls k1 text region _ _ (tabs_below hT HB5) hk1).mono ?_;rintro e w6 ⟨rfl,hb⟩;have hG6 := work_kept hG5 hb;have hL6 := hL5.below hb;have HB6 := HB5.trans (hb.mono HB5.size);have hc2 := (blk_cell hG6 2);have hc3 := (blk_frozen hG6 2)) | (go_at_call 24;refine (rules_calls _).mono ?_;rintro e w7 ⟨N,ba,n,rfl,hR,hb7⟩))
  ·skip
   have hb1 : Below w.heap.size w w7 := (below_set (j := 2) (v := .int .i64 (snZ text region)) HB6 hgw).trans (hb7.mono (below_set (j := 2) (v := .int .i64 (snZ text region)) HB6 hgw).size)
   have hG7 : w7.heap[g]? = some (.cells #[.string q.text,.int .i64 q.at0,.int .i64 q.region,.int .i64 q.n] 52 (0,0)) := by rw [hq0,hq1,hq2'];exact work_kept (blk_put hG6 2 (.int .i64 (snZ text region)) rfl) hb7
   have hL7 := (hL6.set hlt 2 (.int .i64 (snZ text region))).below hb7
   clear hG5 hL5 HB5 hc0 hc1 hq0 hq1 hq2 hq2' hq3
   go_loopw [12,30] (fun v12 v30 wr => ∃ (i : Nat),v30 = .int .i64 i ∧ i ≤ 13 ∧ Hid (ofB kind Z 13 0 = ofB kind Z (13 - i) i) ∧ RulesAt wr N ba n ∧ wr.heap[g]? = some (.cells #[.string q.text,.int .i64 q.at0,.int .i64 q.region,.int .i64 q.n] 52 (0,0)) ∧ Sees (ofL kind count mark tx w.heap.size) wr ∧ Below w.heap.size w wr)
    (fun _ v _ => 13 - (intOf v).toNat)
   case atStart => exact ⟨0,rfl,Nat.zero_le _,Lib.hid rfl,hR,hG7,hL7,hb1⟩
   case round =>
    obtain ⟨i,rfl,hi,hA,hR,hG,hL,hb⟩ := hrel
    clear hG7 hL7 hb1
    by_cases hlt13 : i < 13
    ·have hlt' : (i : Int) < 13 := by omega
     obtain ⟨c0,c1⟩ := rules_cell hR i hlt13
     have hA := Lib.hid (hA.out.trans (by rw [show 13 - i = (13 - (i + 1)) + 1 by omega,ofB]))
     have hw2 : IntKind.i64.wrap ((i : Int) + 1) = ((i + 1 : Nat) : Int) := (i64_w _).trans (by unfold wrap64;omega)
     obtain ⟨kk,hk⟩ : ∃ x,kd i = x := ⟨_,rfl⟩
     have eg := he i ba n hlt13
     have hR' := hR.below ((Below.refl _ wr).alloc (Nat.le_refl _) (.cells #[.int .i64 kk,.func (.func (rg ba n i).1) #[] (rg ba n i).2] 57 (0,0)))
     have hb' := hb.alloc hb.size (.cells #[.int .i64 kk,.func (.func (rg ba n i).1) #[] (rg ba n i).2] 57 (0,0))
     have hG' := al_kept hG (.cells #[.int .i64 kk,.func (.func (rg ba n i).1) #[] (rg ba n i).2] 57 (0,0))
     have hL' := sees_alloc hL (.cells #[.int .i64 kk,.func (.func (rg ba n i).1) #[] (rg ba n i).2] 57 (0,0))
     have hz := hZ i hlt13 _ N ba n hR' (tabs_below hT hb')
     obtain ⟨⟨gg,lb⟩,hg⟩ : ∃ x,rg ba n i = x := ⟨_,rfl⟩
     rw [hk] at c0 hA
     rw [hg] at c1 eg hR' hb' hG' hL' hz
     dsimp only at c1 eg hR' hb' hG' hL' hz
     have d0 := (of_cells hL').1
     obtain ⟨d1,d2,d3,d4⟩ := work_cells hG'
     obtain ⟨⟨r0,r1,r2,r3,r4,r5,r6⟩,hZi⟩ : ∃ x,Z i = x := ⟨_,rfl⟩
     rw [hZi] at hz hA
     simp only [resV] at hz
     by_cases he0 : kk = kind
     ·have he' : (kk == kind) = true := beq_iff_eq.mpr he0
      have hA := Lib.hid (hA.out.trans (if_pos he0))
      subst he0
      go_wp2_with (fail)
      refine hz.mono ?_
      rintro e w8 ⟨rfl,hb8⟩
      have hL8 := hL'.below hb8
      have hb9 := hb'.trans (hb8.mono hb'.size)
      have hC8 := hL8 _ (.tail _ (.head _))
      dsimp only at hC8
      have hf0 := blk_frozen hC8 0
      have hz0 := blk_cell hC8 0
      have hf1 := blk_frozen hC8 1
      have hz1 := blk_cell hC8 1
      have hf2 := blk_frozen hC8 2
      have hz2 := blk_cell hC8 2
      have hf3 := blk_frozen hC8 3
      have hz3 := blk_cell hC8 3
      have hf4 := blk_frozen hC8 4
      have hz4 := blk_cell hC8 4
      have hf5 := blk_frozen hC8 5
      have hz5 := blk_cell hC8 5
      go_wp2
      refine bodyPost_ret (results_ct rfl _ _ (w.heap.size + 1) 30 #[.int .i64 r0,.int .i64 r1,.string r2,.int .i64 r3,.string r4,.bool r5] (0,0) _ rfl (put6 hC8 _ _ _ _ _ _) Tryd.underlying30 rfl (by kernel_rfl)) rfl ?_
      exact ⟨by rw [hA.out];rfl,below6 hb9 (by omega) _ _ _ _ _ _⟩
     ·have he' : (kk == kind) = false := beq_eq_false_iff_ne.mpr he0
      have hA := Lib.hid (hA.out.trans (if_neg he0))
      go_wp2
      go_roundw
      case rel => exact ⟨i + 1,by go_num,by omega,hA,hR',hG',hL',hb'⟩
      case measure => (try clear hw2);simp [intOf];omega
    ·have hge : ¬ ((i : Int) < 13) := by omega
     have hA := Lib.hid (hA.out.trans (by rw [show 13 - i = 0 by omega,ofB]))
     have hC8 := hL _ (.tail _ (.head _))
     dsimp only at hC8
     have hf0 := blk_frozen hC8 0
     have hz0 := blk_cell hC8 0
     have hf1 := blk_frozen hC8 1
     have hz1 := blk_cell hC8 1
     have hf2 := blk_frozen hC8 2
     have hz2 := blk_cell hC8 2
     have hf3 := blk_frozen hC8 3
     have hz3 := blk_cell hC8 3
     have hf4 := blk_frozen hC8 4
     have hz4 := blk_cell hC8 4
     have hf5 := blk_frozen hC8 5
     have hz5 := blk_cell hC8 5
     go_wp2
     refine bodyPost_ret (results_ct rfl _ _ (w.heap.size + 1) 30 #[.int .i64 0,.int .i64 0,.string (⟨#[]⟩ : ByteArray),.int .i64 0,.string (⟨#[]⟩ : ByteArray),.bool false] (0,0) _ rfl (put6 hC8 _ _ _ _ _ _) Tryd.underlying30 rfl (by kernel_rfl)) rfl ?_
     exact ⟨by rw [hA.out];rfl,below6 hb (by omega) _ _ _ _ _ _⟩
 ·have hr' := eq_false hr
  have hq2' : q.region = -1 := hq2.trans (if_neg hr)
  go_wp2_with (go_at_call 24;refine (rules_calls _).mono ?_;rintro e w7 ⟨N,ba,n,rfl,hR,hb7⟩)
  ·skip
   have hb1 : Below w.heap.size w w7 := HB5.trans (hb7.mono HB5.size)
   have hG7 : w7.heap[g]? = some (.cells #[.string q.text,.int .i64 q.at0,.int .i64 q.region,.int .i64 q.n] 52 (0,0)) := by rw [hq0,hq1,hq2'];exact work_kept hG5 hb7
   have hL7 := hL5.below hb7
   clear hG5 hL5 HB5 hc0 hc1 hq0 hq1 hq2 hq2' hq3
   go_loopw [12,30] (fun v12 v30 wr => ∃ (i : Nat),v30 = .int .i64 i ∧ i ≤ 13 ∧ Hid (ofB kind Z 13 0 = ofB kind Z (13 - i) i) ∧ RulesAt wr N ba n ∧ wr.heap[g]? = some (.cells #[.string q.text,.int .i64 q.at0,.int .i64 q.region,.int .i64 q.n] 52 (0,0)) ∧ Sees (ofL kind count mark tx w.heap.size) wr ∧ Below w.heap.size w wr)
    (fun _ v _ => 13 - (intOf v).toNat)
   case atStart => exact ⟨0,rfl,Nat.zero_le _,Lib.hid rfl,hR,hG7,hL7,hb1⟩
   case round =>
    obtain ⟨i,rfl,hi,hA,hR,hG,hL,hb⟩ := hrel
    clear hG7 hL7 hb1
    by_cases hlt13 : i < 13
    ·have hlt' : (i : Int) < 13 := by omega
     obtain ⟨c0,c1⟩ := rules_cell hR i hlt13
     have hA := Lib.hid (hA.out.trans (by rw [show 13 - i = (13 - (i + 1)) + 1 by omega,ofB]))
     have hw2 : IntKind.i64.wrap ((i : Int) + 1) = ((i + 1 : Nat) : Int) := (i64_w _).trans (by unfold wrap64;omega)
     obtain ⟨kk,hk⟩ : ∃ x,kd i = x := ⟨_,rfl⟩
     have eg := he i ba n hlt13
     have hR' := hR.below ((Below.refl _ wr).alloc (Nat.le_refl _) (.cells #[.int .i64 kk,.func (.func (rg ba n i).1) #[] (rg ba n i).2] 57 (0,0)))
     have hb' := hb.alloc hb.size (.cells #[.int .i64 kk,.func (.func (rg ba n i).1) #[] (rg ba n i).2] 57 (0,0))
     have hG' := al_kept hG (.cells #[.int .i64 kk,.func (.func (rg ba n i).1) #[] (rg ba n i).2] 57 (0,0))
     have hL' := sees_alloc hL (.cells #[.int .i64 kk,.func (.func (rg ba n i).1) #[] (rg ba n i).2] 57 (0,0))
     have hz := hZ i hlt13 _ N ba n hR' (tabs_below hT hb')
     obtain ⟨⟨gg,lb⟩,hg⟩ : ∃ x,rg ba n i = x := ⟨_,rfl⟩
     rw [hk] at c0 hA
     rw [hg] at c1 eg hR' hb' hG' hL' hz
     dsimp only at c1 eg hR' hb' hG' hL' hz
     have d0 := (of_cells hL').1
     obtain ⟨d1,d2,d3,d4⟩ := work_cells hG'
     obtain ⟨⟨r0,r1,r2,r3,r4,r5,r6⟩,hZi⟩ : ∃ x,Z i = x := ⟨_,rfl⟩
     rw [hZi] at hz hA
     simp only [resV] at hz
     by_cases he0 : kk = kind
     ·have he' : (kk == kind) = true := beq_iff_eq.mpr he0
      have hA := Lib.hid (hA.out.trans (if_pos he0))
      subst he0
      go_wp2_with (fail)
      refine hz.mono ?_
      rintro e w8 ⟨rfl,hb8⟩
      have hL8 := hL'.below hb8
      have hb9 := hb'.trans (hb8.mono hb'.size)
      have hC8 := hL8 _ (.tail _ (.head _))
      dsimp only at hC8
      have hf0 := blk_frozen hC8 0
      have hz0 := blk_cell hC8 0
      have hf1 := blk_frozen hC8 1
      have hz1 := blk_cell hC8 1
      have hf2 := blk_frozen hC8 2
      have hz2 := blk_cell hC8 2
      have hf3 := blk_frozen hC8 3
      have hz3 := blk_cell hC8 3
      have hf4 := blk_frozen hC8 4
      have hz4 := blk_cell hC8 4
      have hf5 := blk_frozen hC8 5
      have hz5 := blk_cell hC8 5
      go_wp2
      refine bodyPost_ret (results_ct rfl _ _ (w.heap.size + 1) 30 #[.int .i64 r0,.int .i64 r1,.string r2,.int .i64 r3,.string r4,.bool r5] (0,0) _ rfl (put6 hC8 _ _ _ _ _ _) Tryd.underlying30 rfl (by kernel_rfl)) rfl ?_
      exact ⟨by rw [hA.out];rfl,below6 hb9 (by omega) _ _ _ _ _ _⟩
     ·have he' : (kk == kind) = false := beq_eq_false_iff_ne.mpr he0
      have hA := Lib.hid (hA.out.trans (if_neg he0))
      go_wp2
      go_roundw
      case rel => exact ⟨i + 1,by go_num,by omega,hA,hR',hG',hL',hb'⟩
      case measure => (try clear hw2);simp [intOf];omega
    ·have hge : ¬ ((i : Int) < 13) := by omega
     have hA := Lib.hid (hA.out.trans (by rw [show 13 - i = 0 by omega,ofB]))
     have hC8 := hL _ (.tail _ (.head _))
     dsimp only at hC8
     have hf0 := blk_frozen hC8 0
     have hz0 := blk_cell hC8 0
     have hf1 := blk_frozen hC8 1
     have hz1 := blk_cell hC8 1
     have hf2 := blk_frozen hC8 2
     have hz2 := blk_cell hC8 2
     have hf3 := blk_frozen hC8 3
     have hz3 := blk_cell hC8 3
     have hf4 := blk_frozen hC8 4
     have hz4 := blk_cell hC8 4
     have hf5 := blk_frozen hC8 5
     have hz5 := blk_cell hC8 5
     go_wp2
     refine bodyPost_ret (results_ct rfl _ _ (w.heap.size + 1) 30 #[.int .i64 0,.int .i64 0,.string (⟨#[]⟩ : ByteArray),.int .i64 0,.string (⟨#[]⟩ : ByteArray),.bool false] (0,0) _ rfl (put6 hC8 _ _ _ _ _ _) Tryd.underlying30 rfl (by kernel_rfl)) rfl ?_
     exact ⟨by rw [hA.out];rfl,below6 hb (by omega) _ _ _ _ _ _⟩
end Go.Proofs.YtfmnmjoofnbnfaaDoor.U
end
