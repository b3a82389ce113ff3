/- What the law ScreenNone reaches of this seat's own texts, merged; what nothing uses is left out. -/
import Derived.Test.YtgdpnmikcopkmaaDoorZScreenNone0
import Derived.Test.YtgdpnmikcopkmaaDoorZScreenNone4
import Derived.Test.YtgdpnmikcopkmaaDoorZScreenNone6
section
namespace Go.Proofs.YtgdpnmikcopkmaaDoor.U
open Go.RowKit Go.Proofs.YtgdpnmikcopkmaaDoor.Mu Go.Proofs.YtgdpnmikcopkmaaDoor.Pu Go.Proofs.YtgdpnmikcopkmaaDoorW.PrintWords Go.Proofs.YtgdpnmikcopkmaaDoorW.PrintLast Go.Proofs.YtgdpnmikcopkmaaDoorW.PrintMore
set_option linter.unusedVariables false
set_option linter.unusedSimpArgs false
set_option maxRecDepth 100000
def rfC : Array Value := #[.int .i64 1,.int .i64 1,.slice none 0 0,.int .i64 0,.int .i64 0,.bool false,.string ⟨#[]⟩,.bool false,.int .i64 0,.int .i64 0]
def RfAt (r : Nat) (w : World) : Prop := w.heap[r]? = some (.cells rfC 74 (0,0))
section
variable {r : Nat} {W w : World}
theorem RfAt.below (h : RfAt r W) (hb : Below W.heap.size W w) : RfAt r w := blk_below h hb
theorem RfAt.cell (h : RfAt r W) (j : Nat) : W.cell? ⟨r,j,none⟩ = rfC[j]? := blk_cell h j
theorem rf_new (W : World) : Calls Tryd.prog 15 #[.int .i64 1,.int .i64 1] W fun e w' => ∃ r,e = .returned (.pointer (some ⟨r,0,none⟩)) ∧ W.heap.size ≤ r ∧ RfAt r w' ∧ Below W.heap.size W w' := by
 go_enter Tryd.func15,Tryd.ntmps15
 go_wp2_with (first | (go_at_call 41;refine (bodkinref22_size.calls 1 1 _ rfl).mono ?_;rintro e w2 ⟨rfl,hd2⟩;have hboth := And.intro hd1 hd2) | (go_at_call 41;refine (bodkinref22_size.calls 1 1 _ rfl).mono ?_;rintro e w1 ⟨rfl,hd1⟩))
 go_ret
 have hb := hd1.below.trans (hd2.below.mono hd1.below.size)
 exact ⟨w2.heap.size,rfl,hb.size,World.alloc_heap_new w2 _,hb.trans ((below_alloc (Below.refl _ w2) _).mono hb.size)⟩
theorem rf_width (h : RfAt r W) : Calls Tryd.prog 50 #[.pointer (some ⟨r,0,none⟩)] W fun e w' => e = .returned (.int .i64 1) ∧ Below W.heap.size W w' := by
 have c0 : W.cell? ⟨r,0,none⟩ = some (.int .i64 1) := h.cell 0
 go_enter Tryd.func50,Tryd.ntmps50
 go_wp2
 go_ret
 exact ⟨rfl,Below.refl _ _⟩
theorem rf_height (h : RfAt r W) : Calls Tryd.prog 51 #[.pointer (some ⟨r,0,none⟩)] W fun e w' => e = .returned (.int .i64 1) ∧ Below W.heap.size W w' := by
 have c0 : W.cell? ⟨r,1,none⟩ = some (.int .i64 1) := h.cell 1
 go_enter Tryd.func51,Tryd.ntmps51
 go_wp2
 go_ret
 exact ⟨rfl,Below.refl _ _⟩
theorem rf_held (h : RfAt r W) : Calls Tryd.prog 52 #[.pointer (some ⟨r,0,none⟩)] W fun e w' => e = .returned (.int .i64 0) ∧ Below W.heap.size W w' := by
 have c0 : W.cell? ⟨r,6,none⟩ = some (.string ⟨#[]⟩) := h.cell 6
 go_enter Tryd.func52,Tryd.ntmps52
 go_wp2
 go_ret
 exact ⟨rfl,Below.refl _ _⟩
theorem rf_full (h : RfAt r W) : Calls Tryd.prog 53 #[.pointer (some ⟨r,0,none⟩)] W fun e w' => e = .returned (.bool false) ∧ Below W.heap.size W w' := by
 have c0 : W.cell? ⟨r,5,none⟩ = some (.bool false) := h.cell 5
 go_enter Tryd.func53,Tryd.ntmps53
 go_wp2
 go_ret
 exact ⟨rfl,Below.refl _ _⟩
theorem rf_trimmed (h : RfAt r W) : Calls Tryd.prog 74 #[.pointer (some ⟨r,0,none⟩),.int .i64 0] W fun e w' => e = .returned (.slice none 0 0) ∧ Below W.heap.size W w' := by
 have c0 : W.cell? ⟨r,2,none⟩ = some (.slice none 0 0) := h.cell 2
 go_enter Tryd.func74,Tryd.ntmps74
 go_wp2
 go_ret
 exact ⟨rfl,Below.refl _ _⟩
theorem rf_rows (h : RfAt r W) : Calls Tryd.prog 47 #[.pointer (some ⟨r,0,none⟩)] W fun e w' => e = .returned (.int .i64 1) ∧ Below W.heap.size W w' := by
 have c0 : W.cell? ⟨r,2,none⟩ = some (.slice none 0 0) := h.cell 2
 have c1 : W.cell? ⟨r,3,none⟩ = some (.int .i64 0) := h.cell 3
 go_enter Tryd.func47,Tryd.ntmps47
 go_wp2_with (fail)
 go_loopw [3,4] (fun v3 v4 wr => v3 = .int .i64 1 ∧ v4 = .int .i64 1 ∧ wr = W) (fun _ _ _ => 0)
 case atStart => exact ⟨rfl,rfl,rfl⟩
 case round =>
  obtain ⟨rfl,rfl,rfl⟩ := hrel
  go_wp2_with (fail)
  go_ret
  exact ⟨rfl,Below.refl _ _⟩
end
def rc1.T : Bool × List (List Nat × List Nat) := (true,[([],[]),([0],[0]),([1],[1]),([2],[2]),([],[]),([4],[4]),([5],[5]),([6],[6]),([3,7],[3,7]),([8,0,1,2,3,4,5,6,7,8],[8])])
def rc1.B : List Nat := [0,1,3,7,0,16,48,112,255,511]
theorem rc1.tab : rtab .any (opsOf Tryd.f54 1) = rc1.T := by kernel_rfl
theorem rc1.bits : waitsOk rc1.T.2 rc1.B = true := by kernel_rfl
def rf1.T : Bool × List (List Nat × List Nat) := (true,[([],[]),([0],[0]),([1],[1]),([2],[2]),([],[]),([4],[4]),([3,5],[3,5]),([],[]),([7,6,5,0,1,2,3,4,5,6,7],[6,7])])
def rf1.B : List Nat := [0,1,3,7,0,16,63,0,255]
theorem rf1.tab : rtab .any (opsOf Tryd.f48 1) = rf1.T := by kernel_rfl
theorem rf1.bits : waitsOk rf1.T.2 rf1.B = true := by kernel_rfl
theorem rf_cursor {r : Nat} {W : World} (h : RfAt r W) : Calls Tryd.prog 54 #[.pointer (some ⟨r,0,none⟩)] W fun e w' => e = .returned (.agg #[.int .i64 0,.int .i64 0]) ∧ Below W.heap.size W w' := by
 go_enter Tryd.func54,Tryd.ntmps54
 go_upto_region 1 with (fail)
 have hal := below_alloc (Below.refl W.heap.size W) (.cells #[.int .i64 0,.int .i64 0] 24 (0,0))
 have h1 := h.below hal
 have hq := World.alloc_heap_new W (.cells #[.int .i64 0,.int .i64 0] 24 (0,0))
 generalize W.alloc (.cells #[.int .i64 0,.int .i64 0] 24 (0,0)) = w1 at hal h1 hq ⊢
 have c3 : w1.cell? ⟨r,3,none⟩ = some (.int .i64 0) := h1.cell 3
 have c4 : w1.cell? ⟨r,4,none⟩ = some (.int .i64 0) := h1.cell 4
 refine start_ (n := 10) (S := fun w' => w'.cell? ⟨r,3,none⟩ = some (.int .i64 0) ∧ w'.cell? ⟨r,4,none⟩ = some (.int .i64 0)) (ds := [9]) #[false,false,false,false,false,false,false,false,false,false] (by kernel_rfl) rfl rfl ⟨c3,c4⟩ (fun hHeld => ?_);refine with_tabW rc1.tab rc1.bits (fun HT_ HW_ => ?_)
 have hal2 := hal.trans (below_drew (Below.refl W.heap.size w1))
 have hq2 : w1.drew.heap[W.heap.size]? = _ := hq
 generalize w1.drew = w2 at hal2 hq2 hHeld ⊢
 clear hal hq h1
 refine pure_ (i := 0) (N := (some 3)) (v := ?_) (a' := ?_) #[true,false,false,false,false,false,false,false,false,false] rfl rfl (any_of HT_.out (by kernel_rfl)) (fun _ _ _ h => h) (Or.inl ⟨by rfl,?_⟩) ?_ ?_
 rotate_left
 ·intro w'
  go_simp
  with_reducible rfl
 rotate_left
 ·simp only [Act.put,List.setIfInBounds_toArray,List.set_cons_zero,List.set_cons_succ,i64_w,i32_w]
  rfl
 refine pure_ (i := 1) (N := (some 4)) (v := ?_) (a' := ?_) #[true,true,false,false,false,false,false,false,false,false] rfl rfl (any_of HT_.out (by kernel_rfl)) (fun _ _ _ h => h) (Or.inl ⟨by rfl,?_⟩) ?_ ?_
 rotate_left
 ·intro w'
  go_simp
  with_reducible rfl
 rotate_left
 ·simp only [Act.put,List.setIfInBounds_toArray,List.set_cons_zero,List.set_cons_succ,i64_w,i32_w]
  rfl
 refine pure_ (i := 2) (N := (some 5)) (v := ?_) (a' := ?_) #[true,true,true,false,false,false,false,false,false,false] rfl rfl (any_of HT_.out (by kernel_rfl)) (fun _ _ _ h => h) (Or.inl ⟨by rfl,?_⟩) ?_ ?_
 rotate_left
 ·intro w'
  go_simp
  with_reducible rfl
 rotate_left
 ·simp only [Act.put,List.setIfInBounds_toArray,List.set_cons_zero,List.set_cons_succ,i64_w,i32_w]
  rfl
 refine take_ (i := 3) (N := (some 6)) (v := ?_) (a' := ?_) #[true,true,true,true,false,false,false,false,false,false] rfl rfl (take_ofW HT_.out HW_.out (by kernel_rfl)) (fun _ _ _ h => h) (Or.inl ⟨by rfl,?_⟩) hHeld ?_ ?_
 rotate_left
 ·rintro w' ⟨s1,s2⟩
  go_simp
  with_reducible rfl
 rotate_left
 ·simp only [Act.put,List.setIfInBounds_toArray,List.set_cons_zero,List.set_cons_succ,i64_w,i32_w]
  rfl
 refine pure_ (i := 4) (N := (some 7)) (v := ?_) (a' := ?_) #[true,true,true,true,true,false,false,false,false,false] rfl rfl (any_of HT_.out (by kernel_rfl)) (fun _ _ _ h => h) (Or.inl ⟨by rfl,?_⟩) ?_ ?_
 rotate_left
 ·intro w'
  go_simp
  with_reducible rfl
 rotate_left
 ·simp only [Act.put,List.setIfInBounds_toArray,List.set_cons_zero,List.set_cons_succ,i64_w,i32_w]
  rfl
 refine pure_ (i := 5) (N := (some 8)) (v := ?_) (a' := ?_) #[true,true,true,true,true,true,false,false,false,false] rfl rfl (any_of HT_.out (by kernel_rfl)) (fun _ _ _ h => h) (Or.inl ⟨by rfl,?_⟩) ?_ ?_
 rotate_left
 ·intro w'
  go_simp
  with_reducible rfl
 rotate_left
 ·simp only [Act.put,List.setIfInBounds_toArray,List.set_cons_zero,List.set_cons_succ,i64_w,i32_w]
  rfl
 refine pure_ (i := 6) (N := (some 9)) (v := ?_) (a' := ?_) #[true,true,true,true,true,true,true,false,false,false] rfl rfl (any_of HT_.out (by kernel_rfl)) (fun _ _ _ h => h) (Or.inl ⟨by rfl,?_⟩) ?_ ?_
 rotate_left
 ·intro w'
  go_simp
  with_reducible rfl
 rotate_left
 ·simp only [Act.put,List.setIfInBounds_toArray,List.set_cons_zero,List.set_cons_succ,i64_w,i32_w]
  rfl
 refine take_ (i := 7) (N := (some 10)) (v := ?_) (a' := ?_) #[true,true,true,true,true,true,true,true,false,false] rfl rfl (take_ofW HT_.out HW_.out (by kernel_rfl)) (fun _ _ _ h => h) (Or.inl ⟨by rfl,?_⟩) hHeld ?_ ?_
 rotate_left
 ·rintro w' ⟨s1,s2⟩
  go_simp
  with_reducible rfl
 rotate_left
 ·simp only [Act.put,List.setIfInBounds_toArray,List.set_cons_zero,List.set_cons_succ,i64_w,i32_w]
  rfl
 refine pure_ (i := 8) (N := (some 11)) (v := ?_) (a' := ?_) #[true,true,true,true,true,true,true,true,true,false] rfl rfl (any_of HT_.out (by kernel_rfl)) (fun _ _ _ h => h) (Or.inl ⟨by rfl,?_⟩) ?_ ?_
 rotate_left
 ·intro w'
  go_simp
  with_reducible rfl
 rotate_left
 ·simp only [Act.put,List.setIfInBounds_toArray,List.set_cons_zero,List.set_cons_succ,i64_w,i32_w]
  rfl
 refine last_ (i := 9) (N := none) #[true,true,true,true,true,true,true,true,true,true] rfl rfl (one_of HT_.out (by kernel_rfl)) (by decide) (fun K hK => ?_)
 have z0 := blk_cell hq2 0
 have z1 := blk_cell hq2 1
 have f0 := blk_frozen hq2 0
 have f1 := blk_frozen hq2 1
 refine skip_ (w1 := ?_) (by rfl) rfl ?_ ?_
 rotate_left
 ·go_simp
  rfl
 refine hK.out _ _ ?_
 clear hK K
 refine done_ (done_of HT_.out (by kernel_rfl)) ?_
 clear HT_ HW_
 go_wp2_with (fail)
 refine bodyPost_ret (results_cell_row rfl _ _ W.heap.size 24 #[.int .i64 0,.int .i64 0] (0,0) _ rfl (blk_put (cs := #[.int .i64 0,.int .i64 0]) (blk_put (cs := #[.int .i64 0,.int .i64 0]) hq2 0 _ rfl) 1 _ rfl) Tryd.underlying24 rfl (by kernel_rfl)) rfl ?_
 exact ⟨rfl,(hal2.setCell (p := ⟨W.heap.size,0,none⟩) (Nat.le_refl _) _).setCell (p := ⟨W.heap.size,1,none⟩) (Nat.le_refl _) _⟩
set_option maxHeartbeats 8000000 in
theorem rf_frame {r : Nat} {W : World} (h : RfAt r W) : Calls Tryd.prog 48 #[.pointer (some ⟨r,0,none⟩),.int .i64 1] W fun e w' => ∃ rv,e = .returned (.agg #[.int .i64 1,rv,.int .i64 0,.int .i64 0]) ∧ Kd.S kRow 36 w' W.heap.size (fun k => W.heap.size ≤ k) rv [[]] ∧ Below W.heap.size W w' := by
 go_enter Tryd.func48,Tryd.ntmps48
 go_upto_region 1 with (fail)
 have hal := below_alloc (Below.refl W.heap.size W) (.cells #[.int .i64 0,.slice none 0 0,.int .i64 0,.int .i64 0] 26 (0,0))
 have h1 := h.below hal
 have hz1 := World.alloc_heap_new W (.cells #[.int .i64 0,.slice none 0 0,.int .i64 0,.int .i64 0] 26 (0,0))
 generalize W.alloc (.cells #[.int .i64 0,.slice none 0 0,.int .i64 0,.int .i64 0] 26 (0,0)) = w1 at hal h1 hz1 ⊢
 have c0 : w1.cell? ⟨r,0,none⟩ = some (.int .i64 1) := h1.cell 0
 go_cut [5] from 8 to 15 (fun v5 w5 => ∃ q,v5 = .pointer (some ⟨q,0,none⟩) ∧ W.heap.size < q ∧ RfAt r w5 ∧ w5.heap[W.heap.size]? = some (.cells #[.int .i64 0,.slice none 0 0,.int .i64 0,.int .i64 0] 26 (0,0)) ∧ w5.heap[q]? = some (.cells #[.int .i64 1,.slice none 0 0,.int .i64 0,.int .i64 0] 26 (0,0)) ∧ Below W.heap.size W w5)
 case first =>
  refine start_ (n := 9) (S := fun w' => w'.cell? ⟨r,0,none⟩ = some (.int .i64 1)) (ds := [8]) #[false,false,false,false,false,false,false,false,false] (by kernel_rfl) rfl rfl c0 (fun hHeld => ?_);refine with_tabW rf1.tab rf1.bits (fun HT_ HW_ => ?_)
  have hb2 := hal.trans (below_drew (Below.refl W.heap.size w1))
  have hz2 : w1.drew.heap[W.heap.size]? = _ := hz1
  have h2 : RfAt r w1.drew := h1
  generalize w1.drew = w2 at hb2 hz2 h2 hHeld ⊢
  clear hal hz1 h1 c0
  refine pure_ (i := 0) (N := (some 8)) (v := ?_) (a' := ?_) #[true,false,false,false,false,false,false,false,false] rfl rfl (any_of HT_.out (by kernel_rfl)) (fun _ _ _ h => h) (Or.inl ⟨by rfl,?_⟩) ?_ ?_
  rotate_left
  ·intro w'
   go_simp
   with_reducible rfl
  rotate_left
  ·simp only [Act.put,List.setIfInBounds_toArray,List.set_cons_zero,List.set_cons_succ,i64_w,i32_w]
   rfl
  refine pure_ (i := 1) (N := (some 9)) (v := ?_) (a' := ?_) #[true,true,false,false,false,false,false,false,false] rfl rfl (any_of HT_.out (by kernel_rfl)) (fun _ _ _ h => h) (Or.inl ⟨by rfl,?_⟩) ?_ ?_
  rotate_left
  ·intro w'
   go_simp
   with_reducible rfl
  rotate_left
  ·simp only [Act.put,List.setIfInBounds_toArray,List.set_cons_zero,List.set_cons_succ,i64_w,i32_w]
   rfl
  refine pure_ (i := 2) (N := (some 10)) (v := ?_) (a' := ?_) #[true,true,true,false,false,false,false,false,false] rfl rfl (any_of HT_.out (by kernel_rfl)) (fun _ _ _ h => h) (Or.inl ⟨by rfl,?_⟩) ?_ ?_
  rotate_left
  ·intro w'
   go_simp
   with_reducible rfl
  rotate_left
  ·simp only [Act.put,List.setIfInBounds_toArray,List.set_cons_zero,List.set_cons_succ,i64_w,i32_w]
   rfl
  refine take_ (i := 3) (N := (some 11)) (v := ?_) (a' := ?_) #[true,true,true,true,false,false,false,false,false] rfl rfl (take_ofW HT_.out HW_.out (by kernel_rfl)) (fun _ _ _ h => h) (Or.inl ⟨by rfl,?_⟩) hHeld ?_ ?_
  rotate_left
  ·rintro w' s1
   go_simp
   with_reducible rfl
  rotate_left
  ·simp only [Act.put,List.setIfInBounds_toArray,List.set_cons_zero,List.set_cons_succ,i64_w,i32_w]
   rfl
  refine pure_ (i := 4) (N := (some 12)) (v := ?_) (a' := ?_) #[true,true,true,true,true,false,false,false,false] rfl rfl (any_of HT_.out (by kernel_rfl)) (fun _ _ _ h => h) (Or.inl ⟨by rfl,?_⟩) ?_ ?_
  rotate_left
  ·intro w'
   go_simp
   with_reducible rfl
  rotate_left
  ·simp only [Act.put,List.setIfInBounds_toArray,List.set_cons_zero,List.set_cons_succ,i64_w,i32_w]
   rfl
  refine two_ (i := 5) (j := 7) (Ni := some 13) (Nj := some 5) #[true,true,true,true,true,true,false,false,false] #[true,true,true,true,true,false,false,true,false] rfl rfl rfl rfl (by kernel_rfl) (by decide) (by decide) (fun K hK => ?_) (fun K hK => ?_)
  ·refine call_ 54 #[.pointer (some ⟨r,0,none⟩)] (by rfl) rfl au5 ?_
   refine (rf_cursor h2).mono ?_
   rintro e w3 ⟨rfl,hbc⟩
   have h3 := h2.below hbc
   have hz3 := blk_below hz2 hbc
   have hb3 := hb2.trans (hbc.mono hb2.size)
   refine ⟨_,rfl,hK.out _ _ (cell_below hHeld hbc) (fun hHeld => ?_)⟩
   clear hK K h2 hz2 hb2 hbc
   refine norm_ (a' := ?_) ?_ ?_
   rotate_left
   ·show Act.put _ (some 13) _ = _
    simp only [Act.put,List.setIfInBounds_toArray,List.set_cons_zero,List.set_cons_succ,i64_w,i32_w]
    rfl
   refine pure_ (i := 6) (N := (some 14)) (v := ?_) (a' := ?_) #[true,true,true,true,true,true,true,false,false] rfl rfl (any_of HT_.out (by kernel_rfl)) (fun _ _ _ h => h) (Or.inl ⟨by rfl,?_⟩) ?_ ?_
   rotate_left
   ·intro w'
    go_simp
    with_reducible rfl
   rotate_left
   ·simp only [Act.put,List.setIfInBounds_toArray,List.set_cons_zero,List.set_cons_succ,i64_w,i32_w]
    rfl
   refine one_ (i := 7) (N := (some 5)) #[true,true,true,true,true,true,true,true,false] rfl rfl (one_of HT_.out (by kernel_rfl)) (by decide) (fun K hK => ?_)
   refine value_ (w1 := ?_) (v := ?_) (by rfl) rfl ?_ ?_
   rotate_left 2
   ·go_simp
    constructor
    ·rfl
    ·rfl
   have hal := below_alloc (Below.refl _ w3) (.cells #[.int .i64 0,.slice none 0 0,.int .i64 0,.int .i64 0] 26 (0,0))
   refine hK.out _ _ (cell_below hHeld hal) (fun hHeld => ?_)
   clear hK K
   have h4 := h3.below hal
   have hz4 := blk_below hz3 hal
   have hq4 := World.alloc_heap_new w3 (.cells #[.int .i64 0,.slice none 0 0,.int .i64 0,.int .i64 0] 26 (0,0))
   have hqW : W.heap.size < w3.heap.size := blk_lt hz3
   have hb4 := hb3.trans (hal.mono hb3.size)
   generalize hqe : w3.heap.size = q at hq4 hqW ⊢
   generalize w3.alloc (.cells #[.int .i64 0,.slice none 0 0,.int .i64 0,.int .i64 0] 26 (0,0)) = w4 at h4 hz4 hq4 hb4 hHeld ⊢
   clear h3 hz3 hb3 hal hqe
   refine norm_ (a' := ?_) ?_ ?_
   rotate_left
   ·show Act.put _ (some 5) _ = _
    simp only [Act.put,List.setIfInBounds_toArray,List.set_cons_zero,List.set_cons_succ,i64_w,i32_w]
    rfl
   refine last_ (i := 8) (N := none) #[true,true,true,true,true,true,true,true,true] rfl rfl (one_of HT_.out (by kernel_rfl)) (by decide) (fun K hK => ?_)
   have f0 := blk_cell hq4 0
   have f1 := blk_cell hq4 1
   have f2 := blk_cell hq4 2
   have f3 := blk_cell hq4 3
   have ff := fun j => blk_frozen hq4 j
   refine skip_ (w1 := ?_) (by rfl) rfl ?_ ?_
   rotate_left
   ·go_simp
    rfl
   refine hK.out _ _ ?_
   clear hK K
   have hq5 := put4 (b0 := .int .i64 1) (b1 := .slice none 0 0) (b2 := .int .i64 0) (b3 := .int .i64 0) hq4
   have hz5 := far4 (b := W.heap.size) (q := q) (by omega) hz4 (.int .i64 1) (.slice none 0 0) (.int .i64 0) (.int .i64 0)
   have hrq : r ≠ q := blk_ne h4 hq4 (by decide)
   have h5 : RfAt r ((((w4.setCell ⟨q,0,none⟩ (.int .i64 1)).setCell ⟨q,1,none⟩ (.slice none 0 0)).setCell ⟨q,2,none⟩ (.int .i64 0)).setCell ⟨q,3,none⟩ (.int .i64 0)) := far4 hrq h4 (.int .i64 1) (.slice none 0 0) (.int .i64 0) (.int .i64 0)
   have hb5 := (((hb4.setCell (p := ⟨q,0,none⟩) (Nat.le_of_lt hqW) (.int .i64 1)).setCell (p := ⟨q,1,none⟩) (Nat.le_of_lt hqW) (.slice none 0 0)).setCell (p := ⟨q,2,none⟩) (Nat.le_of_lt hqW) (.int .i64 0)).setCell (p := ⟨q,3,none⟩) (Nat.le_of_lt hqW) (.int .i64 0)
   generalize (((w4.setCell ⟨q,0,none⟩ (.int .i64 1)).setCell ⟨q,1,none⟩ (.slice none 0 0)).setCell ⟨q,2,none⟩ (.int .i64 0)).setCell ⟨q,3,none⟩ (.int .i64 0) = w5 at h5 hz5 hq5 hb5 ⊢
   clear h4 hz4 hq4 hb4 hHeld f0 f1 f2 f3 ff
   refine done_ (done_of HT_.out (by kernel_rfl)) ?_
   clear HT_ HW_
   go_wp2_with (fail)
   go_meet
   case rel => exact ⟨q,rfl,hqW,h5,hz5,hq5,hb5⟩
  ·refine value_ (w1 := ?_) (v := ?_) (by rfl) rfl ?_ ?_
   rotate_left 2
   ·go_simp
    constructor
    ·rfl
    ·rfl
   have hal := below_alloc (Below.refl _ w2) (.cells #[.int .i64 0,.slice none 0 0,.int .i64 0,.int .i64 0] 26 (0,0))
   refine hK.out _ _ (cell_below hHeld hal) (fun hHeld => ?_)
   clear hK K
   have h3 := h2.below hal
   have hz3 := blk_below hz2 hal
   have hq3 := World.alloc_heap_new w2 (.cells #[.int .i64 0,.slice none 0 0,.int .i64 0,.int .i64 0] 26 (0,0))
   have hqW : W.heap.size < w2.heap.size := blk_lt hz2
   have hb3 := hb2.trans (hal.mono hb2.size)
   generalize hqe : w2.heap.size = q at hq3 hqW ⊢
   generalize w2.alloc (.cells #[.int .i64 0,.slice none 0 0,.int .i64 0,.int .i64 0] 26 (0,0)) = w3 at h3 hz3 hq3 hb3 hHeld ⊢
   clear h2 hz2 hb2 hal hqe
   refine norm_ (a' := ?_) ?_ ?_
   rotate_left
   ·show Act.put _ (some 5) _ = _
    simp only [Act.put,List.setIfInBounds_toArray,List.set_cons_zero,List.set_cons_succ,i64_w,i32_w]
    rfl
   refine one_ (i := 5) (N := (some 13)) #[true,true,true,true,true,true,false,true,false] rfl rfl (one_of HT_.out (by kernel_rfl)) (by decide) (fun K hK => ?_)
   refine call_ 54 #[.pointer (some ⟨r,0,none⟩)] (by rfl) rfl au5 ?_
   refine (rf_cursor h3).mono ?_
   rintro e w4 ⟨rfl,hbc⟩
   have h4 := h3.below hbc
   have hz4 := blk_below hz3 hbc
   have hq4 := blk_below hq3 hbc
   have hb4 := hb3.trans (hbc.mono hb3.size)
   refine ⟨_,rfl,hK.out _ _ (cell_below hHeld hbc) (fun hHeld => ?_)⟩
   clear hK K h3 hz3 hb3 hbc hq3
   refine norm_ (a' := ?_) ?_ ?_
   rotate_left
   ·show Act.put _ (some 13) _ = _
    simp only [Act.put,List.setIfInBounds_toArray,List.set_cons_zero,List.set_cons_succ,i64_w,i32_w]
    rfl
   refine pure_ (i := 6) (N := (some 14)) (v := ?_) (a' := ?_) #[true,true,true,true,true,true,true,true,false] rfl rfl (any_of HT_.out (by kernel_rfl)) (fun _ _ _ h => h) (Or.inl ⟨by rfl,?_⟩) ?_ ?_
   rotate_left
   ·intro w'
    go_simp
    with_reducible rfl
   rotate_left
   ·simp only [Act.put,List.setIfInBounds_toArray,List.set_cons_zero,List.set_cons_succ,i64_w,i32_w]
    rfl
   refine last_ (i := 8) (N := none) #[true,true,true,true,true,true,true,true,true] rfl rfl (one_of HT_.out (by kernel_rfl)) (by decide) (fun K hK => ?_)
   have f0 := blk_cell hq4 0
   have f1 := blk_cell hq4 1
   have f2 := blk_cell hq4 2
   have f3 := blk_cell hq4 3
   have ff := fun j => blk_frozen hq4 j
   refine skip_ (w1 := ?_) (by rfl) rfl ?_ ?_
   rotate_left
   ·go_simp
    rfl
   refine hK.out _ _ ?_
   clear hK K
   have hq5 := put4 (b0 := .int .i64 1) (b1 := .slice none 0 0) (b2 := .int .i64 0) (b3 := .int .i64 0) hq4
   have hz5 := far4 (b := W.heap.size) (q := q) (by omega) hz4 (.int .i64 1) (.slice none 0 0) (.int .i64 0) (.int .i64 0)
   have hrq : r ≠ q := blk_ne h4 hq4 (by decide)
   have h5 : RfAt r ((((w4.setCell ⟨q,0,none⟩ (.int .i64 1)).setCell ⟨q,1,none⟩ (.slice none 0 0)).setCell ⟨q,2,none⟩ (.int .i64 0)).setCell ⟨q,3,none⟩ (.int .i64 0)) := far4 hrq h4 (.int .i64 1) (.slice none 0 0) (.int .i64 0) (.int .i64 0)
   have hb5 := (((hb4.setCell (p := ⟨q,0,none⟩) (Nat.le_of_lt hqW) (.int .i64 1)).setCell (p := ⟨q,1,none⟩) (Nat.le_of_lt hqW) (.slice none 0 0)).setCell (p := ⟨q,2,none⟩) (Nat.le_of_lt hqW) (.int .i64 0)).setCell (p := ⟨q,3,none⟩) (Nat.le_of_lt hqW) (.int .i64 0)
   generalize (((w4.setCell ⟨q,0,none⟩ (.int .i64 1)).setCell ⟨q,1,none⟩ (.slice none 0 0)).setCell ⟨q,2,none⟩ (.int .i64 0)).setCell ⟨q,3,none⟩ (.int .i64 0) = w5 at h5 hz5 hq5 hb5 ⊢
   clear h4 hz4 hq4 hb4 hHeld f0 f1 f2 f3 ff
   refine done_ (done_of HT_.out (by kernel_rfl)) ?_
   clear HT_ HW_
   go_wp2_with (fail)
   go_meet
   case rel => exact ⟨q,rfl,hqW,h5,hz5,hq5,hb5⟩
 case rest =>
  obtain ⟨q,rfl,hqW,h5,hz5,hq5,hb5⟩ := hcut
  clear hal h1 hz1 c0
  generalize wc = w5 at h5 hz5 hq5 hb5 ⊢
  have e1 : w5.cell? ⟨r,1,none⟩ = some (.int .i64 1) := h5.cell 1
  go_wp2_with (fail)
  clear e1
  go_loopw [6] (fun v wr => ∃ (i : Nat) (fv : Value),v = .int .i64 i ∧ i ≤ 1 ∧ RfAt r wr ∧ wr.heap[W.heap.size]? = some (.cells #[.int .i64 0,.slice none 0 0,.int .i64 0,.int .i64 0] 26 (0,0)) ∧ wr.heap[q]? = some (.cells #[.int .i64 1,fv,.int .i64 0,.int .i64 0] 26 (0,0)) ∧ Kd.S kRow 36 wr W.heap.size (fun k => q < k) fv (List.replicate i []) ∧ Below W.heap.size W wr) (fun v _ => 1 - (intOf v).toNat)
  case atStart => exact ⟨0,_,rfl,Nat.zero_le _,h5,hz5,hq5,Kd.S_nil _ _ _ _ _,hb5⟩
  case round =>
   obtain ⟨i,fv,rfl,hi,hR,hz,hq,hS,hb⟩ := hrel
   clear h5 hz5 hq5 hb5
   obtain ⟨A1,c1,rfl⟩ := Kd.R_slice (Kd.S_R hS)
   match i,hi with
   | 0,_ =>
    have e1 := blk_cell hq 1
    have hrlt := blk_lt h
    go_upto_region 10 with (go_at_call 74;refine (rf_trimmed hR).mono ?_;rintro e w7 ⟨rfl,hb7⟩)
    have hR7 := hR.below hb7
    have hz7 := blk_below hz hb7
    have hq7 := blk_below hq hb7
    have hS7 := Kd.S_below hS hb7
    have hb7' := hb.trans (hb7.mono hb.size)
    have hq7l := blk_lt hq7
    have e1 := blk_cell hq7 1
    clear hR hz hq hS hb hb7
    go_wp2_with ((with_reducible refine gate_builtin (b := .append) (xs := #[.tmp 36,.tmp 38]) rfl ?_);at_builtin;(refine Kd.S_append kRow (w0 := W) W.heap.size rfl (.tmp 36) (.tmp 38) 22 36 (.slice none 0 0) 24 rfl Tryd.underlying22 info36 rfl (by decide) (by decide) _ (List.replicate 0 []) [] [.slice none 0 0] (fun k => q < k) (fun _ => False) rfl rfl (Kd.M_row (Kd.R_nil _ _ _ _ _)) (fun _ hk => hk.elim) (fun k hk => by omega) (Kd.S_mono hS7 (fun k hk => ⟨hk,fun h => h⟩)) hb7' hb7'.size (by decide) ?_;intro v8 w8 hS8 hB8 hg8 hat8;have hown := fun k hk => (own_in hS7 k hk).1;have hR8 := blk_grown hR7 hg8 (fun he => by have := hown r he.symm;omega);have hz8 := blk_grown hz7 hg8 (fun he => by have := hown W.heap.size he.symm;omega);have hq8 := blk_grown hq7 hg8 (fun he => by have := hown q he.symm;omega);obtain ⟨A8,c8,rfl⟩ := Kd.R_slice (Kd.S_R hS8);have e2 := blk_cell hq8 1;have g2 := blk_frozen hq8 1))
    go_roundw
    case rel => exact ⟨1,_,rfl,Nat.le_refl _,(Below.heap_setCell w8 ⟨q,1,none⟩ _ r (by show r ≠ q;omega)).trans hR8,(Below.heap_setCell w8 ⟨q,1,none⟩ _ W.heap.size (by show W.heap.size ≠ q;omega)).trans hz8,blk_put hq8 1 _ rfl,Kd.S_far (p := ⟨q,1,none⟩) hS8 (fun k hk (he : k = q) => by omega) _,hB8.setCell (p := ⟨q,1,none⟩) (Nat.le_of_lt hqW) _⟩
    case measure => simp [intOf]
   | 1,_ =>
    have e0 := blk_cell hq 0
    have e1 := blk_cell hq 1
    have e2 := blk_cell hq 2
    have e3 := blk_cell hq 3
    have z0 := blk_cell hz 0
    have z1 := blk_cell hz 1
    have z2 := blk_cell hz 2
    have z3 := blk_cell hz 3
    have ff := fun j => blk_frozen hz j
    go_wp2_with (fail)
    refine bodyPost_ret (results_cell_row rfl _ _ W.heap.size 26 #[.int .i64 1,.slice A1 1 c1,.int .i64 0,.int .i64 0] (0,0) _ rfl (put4 hz) Tryd.underlying26 rfl (by kernel_rfl)) rfl ?_
    have hS2 := Kd.S_far (p := ⟨W.heap.size,3,none⟩) (Kd.S_far (p := ⟨W.heap.size,2,none⟩) (Kd.S_far (p := ⟨W.heap.size,1,none⟩) (Kd.S_far (p := ⟨W.heap.size,0,none⟩) hS (fun k hk (he : k = W.heap.size) => by omega) (.int .i64 1)) (fun k hk (he : k = W.heap.size) => by omega) (.slice A1 1 c1)) (fun k hk (he : k = W.heap.size) => by omega) (.int .i64 0)) (fun k hk (he : k = W.heap.size) => by omega) (.int .i64 0)
    exact ⟨_,rfl,Kd.S_mono hS2 (fun k hk => by omega),(((hb.setCell (p := ⟨W.heap.size,0,none⟩) (Nat.le_refl _) _).setCell (p := ⟨W.heap.size,1,none⟩) (Nat.le_refl _) _).setCell (p := ⟨W.heap.size,2,none⟩) (Nat.le_refl _) _).setCell (p := ⟨W.heap.size,3,none⟩) (Nat.le_refl _) _⟩
end Go.Proofs.YtgdpnmikcopkmaaDoor.U
end
section
namespace Go.Proofs.YtgdpnmikcopkmaaDoor.U
open Go.RowKit Go.Proofs.YtgdpnmikcopkmaaDoor.Mu Go.Proofs.YtgdpnmikcopkmaaDoor.Pu Go.Proofs.YtgdpnmikcopkmaaDoorW.PrintWords Go.Proofs.YtgdpnmikcopkmaaDoorW.PrintLast Go.Proofs.YtgdpnmikcopkmaaDoorW.PrintMore
set_option linter.unusedVariables false
set_option linter.unusedSimpArgs false
/-- A step keeps the measures. -/
structure Kin (s t : Sc) : Prop where
 w : t.w = s.w
 h : t.h = s.h
theorem Kin.refl (s : Sc) : Kin s s := ⟨rfl,rfl⟩
theorem Kin.trans {s t u : Sc} (a : Kin s t) (b : Kin t u) : Kin s u := ⟨b.w.trans a.w,b.h.trans a.h⟩
end Go.Proofs.YtgdpnmikcopkmaaDoor.U
end
section
namespace Go.Proofs.YtgdpnmikcopkmaaDoor.U
open Go.RowKit Go.Proofs.YtgdpnmikcopkmaaDoor.Mu Go.Proofs.YtgdpnmikcopkmaaDoor.Pu Go.Proofs.YtgdpnmikcopkmaaDoorW.PrintWords Go.Proofs.YtgdpnmikcopkmaaDoorW.PrintLast Go.Proofs.YtgdpnmikcopkmaaDoorW.PrintMore
set_option linter.unusedVariables false
set_option linter.unusedSimpArgs false
theorem rw_nil (rows : List (List Cl)) (i : Nat) (h : rows.length ≤ i) : rows.getD i [] = [] := by
 rw [List.getD_eq_getElem?_getD,List.getElem?_eq_none h]
 rfl
theorem rw_set (rows : List (List Cl)) (i : Nat) (x : List Cl) (j : Nat) (h : i < rows.length) : (rows.set i x).getD j [] = if j = i then x else rows.getD j [] := by
 rw [List.getD_eq_getElem?_getD,List.getD_eq_getElem?_getD]
 by_cases hj : j = i
 ·subst hj
  rw [if_pos rfl,List.getElem?_set_self h]
  rfl
 ·rw [if_neg hj,List.getElem?_set_ne (fun e => hj e.symm)]
theorem rw_more (rows : List (List Cl)) (n j : Nat) : (rows ++ List.replicate n []).getD j [] = rows.getD j [] := by
 rw [List.getD_eq_getElem?_getD,List.getD_eq_getElem?_getD]
 by_cases hj : j < rows.length
 ·rw [List.getElem?_append_left hj]
 ·rw [List.getElem?_append_right (by omega),List.getElem?_eq_none (l := rows) (by omega),List.getElem?_replicate]
  split <;> rfl
theorem rw_drop (rows : List (List Cl)) (j : Nat) : (rows.drop 1).getD j [] = rows.getD (j + 1) [] := by
 rw [List.getD_eq_getElem?_getD,List.getD_eq_getElem?_getD,List.getElem?_drop,Nat.add_comm 1 j]
theorem rw_take (rows : List (List Cl)) (n j : Nat) : (rows.take n).getD j [] = if j < n then rows.getD j [] else [] := by
 rw [List.getD_eq_getElem?_getD,List.getD_eq_getElem?_getD,List.getElem?_take]
 split <;> rfl
/-- The same look: the same but for empty rows at the end,and for where a mark would go when none may. -/
def Eqv (s t : Sc) : Prop := ∃ R L C,t = { s with rows := R,lr := L,lc := C } ∧ (s.marks = true → L = s.lr ∧ C = s.lc) ∧ ∀ i,R.getD i [] = s.rows.getD i []
theorem Eqv.refl (s : Sc) : Eqv s s := ⟨s.rows,s.lr,s.lc,rfl,fun _ => ⟨rfl,rfl⟩,fun _ => rfl⟩
theorem clrR_alt (s : Sc) (i col : Nat) : s.clrR i col = if (s.rows.getD i []).length ≤ col then s else { s with rows := s.rows.set i ((clrH (s.rows.getD i []) col).take col) } := by
 unfold Sc.clrR
 by_cases h : (s.rows.getD i []).length ≤ col
 ·rw [if_pos h,if_pos (.inr h)]
 ·rw [if_neg h,if_neg]
  intro h2
  rcases h2 with h2 | h2
  ·rw [rw_nil _ _ h2] at h
   exact h (Nat.zero_le _)
  ·exact h h2
theorem rw_lt (rows : List (List Cl)) (i col : Nat) (h : ¬ (rows.getD i []).length ≤ col) : i < rows.length := by
 rcases Nat.lt_or_ge i rows.length with h2 | h2
 ·exact h2
 ·rw [rw_nil _ _ h2] at h
  exact absurd (Nat.zero_le _) h
theorem Eqv.clrR {s t : Sc} (h : Eqv s t) (i col : Nat) : Eqv (s.clrR i col) (t.clrR i col) := by
 obtain ⟨R,L,C,rfl,hm,hg⟩ := h
 rw [clrR_alt,clrR_alt]
 dsimp only
 rw [hg i]
 split
 ·exact ⟨R,L,C,rfl,hm,hg⟩
 ·rename_i hc
  have hc2 : ¬ (R.getD i []).length ≤ col := by rw [hg i];exact hc
  refine ⟨_,L,C,rfl,hm,fun j => ?_⟩
  show (R.set i _).getD j [] = (s.rows.set i _).getD j []
  rw [rw_set _ _ _ _ (rw_lt _ _ _ hc),rw_set _ _ _ _ (rw_lt _ _ _ hc2),hg j]
theorem down_alt (s : Sc) : s.down = if s.r + 1 < s.h then { s with r := s.r + 1 } else { s with rows := if s.rows.length = s.h then s.rows.drop 1 ++ [[]] else s.rows.drop 1 } := by
 unfold Sc.down
 split
 ·rfl
 ·split <;> rfl
theorem rw_down (rows : List (List Cl)) (h j : Nat) : (if rows.length = h then rows.drop 1 ++ [[]] else rows.drop 1).getD j [] = rows.getD (j + 1) [] := by
 split
 ·rw [show rows.drop 1 ++ [[]] = rows.drop 1 ++ List.replicate 1 [] from rfl,rw_more,rw_drop]
 ·rw [rw_drop]
theorem Eqv.down {s t : Sc} (h : Eqv s t) : Eqv s.down t.down := by
 obtain ⟨R,L,C,rfl,hm,hg⟩ := h
 rw [down_alt,down_alt]
 dsimp only
 split
 ·exact ⟨R,L,C,rfl,hm,hg⟩
 ·refine ⟨_,L,C,rfl,hm,fun j => ?_⟩
  show (if R.length = s.h then R.drop 1 ++ [[]] else R.drop 1).getD j [] = (if s.rows.length = s.h then s.rows.drop 1 ++ [[]] else s.rows.drop 1).getD j []
  rw [rw_down,rw_down,hg]
theorem Eqv.at_ {s t : Sc} (h : Eqv s t) (r c : Nat) (full : Bool) : Eqv { s with r := r,c := c,full := full } { t with r := r,c := c,full := full } := by
 obtain ⟨R,L,C,rfl,hm,hg⟩ := h
 exact ⟨R,L,C,rfl,hm,hg⟩
theorem Eqv.unmark {s t : Sc} (h : Eqv s t) : Eqv { s with marks := false } { t with marks := false } := by
 obtain ⟨R,L,C,rfl,hm,hg⟩ := h
 exact ⟨R,L,C,rfl,(fun hq => by cases hq),hg⟩
theorem Eqv.fields {s t : Sc} (h : Eqv s t) : t.w = s.w ∧ t.h = s.h ∧ t.r = s.r ∧ t.c = s.c ∧ t.full = s.full ∧ t.marks = s.marks := by
 obtain ⟨R,L,C,rfl,hm,hg⟩ := h
 exact ⟨rfl,rfl,rfl,rfl,rfl,rfl⟩
def Sc.front (s : Sc) (span : Nat) : Sc := if s.full = true ∨ (span = 2 ∧ s.c + 1 = s.w) then { s.down with c := 0,full := false } else s
def Sc.put (s : Sc) (t : ByteArray) (span : Nat) : Sc := { s with rows := (padR s.rows (s.r + 1)).set s.r (putC ((padR s.rows (s.r + 1)).getD s.r []) s.c span t),lr := s.r,lc := s.c,marks := true }
theorem write_alt (s : Sc) (t : ByteArray) (span : Nat) : s.write t span = if s.w ≤ (Sc.front s span).c + span then { Sc.put (Sc.front s span) t span with c := s.w - 1,full := true } else { Sc.put (Sc.front s span) t span with c := (Sc.front s span).c + span } := rfl
theorem Eqv.front {s t : Sc} (h : Eqv s t) (span : Nat) : Eqv (Sc.front s span) (Sc.front t span) := by
 obtain ⟨h1,h2,h3,h4,h5,h6⟩ := h.fields
 unfold Sc.front
 rw [h5,h4,h1]
 split
 ·have h7 := h.down
  obtain ⟨R,L,C,e,hm,hg⟩ := h7
  rw [e]
  exact ⟨R,L,C,rfl,hm,hg⟩
 ·exact h
theorem Eqv.put {s t : Sc} (h : Eqv s t) (x : ByteArray) (span : Nat) : Eqv (Sc.put s x span) (Sc.put t x span) := by
 obtain ⟨R,L,C,rfl,hm,hg⟩ := h
 refine ⟨_,_,_,rfl,fun _ => ⟨rfl,rfl⟩,fun j => ?_⟩
 show ((padR R (s.r + 1)).set s.r (putC ((padR R (s.r + 1)).getD s.r []) s.c span x)).getD j [] = ((padR s.rows (s.r + 1)).set s.r (putC ((padR s.rows (s.r + 1)).getD s.r []) s.c span x)).getD j []
 rw [rw_set _ _ _ _ (by rw [padR_length];omega),rw_set _ _ _ _ (by rw [padR_length];omega)]
 unfold padR
 rw [rw_more,rw_more,rw_more,rw_more,hg,hg]
theorem Eqv.write {s t : Sc} (h : Eqv s t) (x : ByteArray) (span : Nat) : Eqv (s.write x span) (t.write x span) := by
 have h1 := (h.front span).put x span
 obtain ⟨f1,f2,f3,f4,f5,f6⟩ := h.fields
 obtain ⟨g1,g2,g3,g4,g5,g6⟩ := (h.front span).fields
 rw [write_alt,write_alt,f1,g4]
 obtain ⟨R,L,C,e,hm,hg⟩ := h1
 rw [e]
 split
 ·exact ⟨R,L,C,rfl,hm,hg⟩
 ·exact ⟨R,L,C,rfl,hm,hg⟩
theorem Eqv.mark {s t : Sc} (h : Eqv s t) (hs : s.Ok) (ht : t.Ok) (x : ByteArray) : Eqv (s.mark x) (t.mark x) := by
 obtain ⟨R,L,C,rfl,hm,hg⟩ := h
 unfold Sc.mark
 dsimp only
 split
 ·rename_i hk
  obtain ⟨rfl,rfl⟩ := hm hk
  refine ⟨_,_,_,rfl,fun _ => ⟨rfl,rfl⟩,fun j => ?_⟩
  have h1 := (hs.ma hk).1
  have h2 : s.lr < R.length := (ht.ma hk).1
  show (R.set s.lr _).getD j [] = (s.rows.set s.lr _).getD j []
  rw [rw_set _ _ _ _ h1,rw_set _ _ _ _ h2,hg,hg]
 ·exact ⟨R,L,C,rfl,hm,hg⟩
theorem Eqv.control {s t : Sc} (h : Eqv s t) (b : Nat) : Eqv (s.control b) (t.control b) := by
 have h1 : Eqv { s with full := false,marks := false } { t with full := false,marks := false } := by
  obtain ⟨R,L,C,rfl,hm,hg⟩ := h
  exact ⟨R,L,C,rfl,(fun hq => by cases hq),hg⟩
 unfold Sc.control
 dsimp only
 by_cases h8 : b = 8
 ·rw [if_pos h8,if_pos h8]
  obtain ⟨R,L,C,rfl,hm,hg⟩ := h
  exact ⟨R,L,C,rfl,(fun hq => by cases hq),hg⟩
 rw [if_neg h8,if_neg h8]
 by_cases h10 : b = 10
 ·rw [if_pos h10,if_pos h10]
  exact h1.down
 rw [if_neg h10,if_neg h10]
 by_cases h13 : b = 13
 ·rw [if_pos h13,if_pos h13]
  obtain ⟨R,L,C,rfl,hm,hg⟩ := h
  exact ⟨R,L,C,rfl,(fun hq => by cases hq),hg⟩
 rw [if_neg h13,if_neg h13]
 exact h1
theorem Eqv.carry {s t : Sc} (h : Eqv s t) (e : Nat) (l : List Int) (ok : Bool) : Eqv (s.carry e l ok) (t.carry e l ok) := by
 obtain ⟨f1,f2,f3,f4,f5,f6⟩ := h.fields
 have h1 := h.clrR s.r s.c
 unfold Sc.carry
 dsimp only
 rw [f1,f2,f3,f4]
 split
 ·split
  ·obtain ⟨R,L,C,e,hm,hg⟩ := h1
   rw [e]
   refine ⟨_,L,C,rfl,hm,fun j => ?_⟩
   show (R.take _).getD j [] = ((s.clrR s.r s.c).rows.take _).getD j []
   rw [rw_take,rw_take,hg]
  ·exact h
 split
 ·split
  ·exact h1
  ·exact h
 split
 ·exact h
 split
 ·obtain ⟨R,L,C,rfl,hm,hg⟩ := h
  exact ⟨R,L,C,rfl,hm,hg⟩
 ·obtain ⟨R,L,C,rfl,hm,hg⟩ := h
  exact ⟨R,L,C,rfl,hm,hg⟩
theorem Eqv.escape {s t : Sc} (h : Eqv s t) (all : ByteArray) : Eqv (s.escape all).1 (t.escape all).1 ∧ (t.escape all).2 = (s.escape all).2 := by
 have h1 := h.unmark
 unfold Sc.escape
 repeat' split
 all_goals first | exact ⟨h,rfl⟩ | exact ⟨h1,rfl⟩ | exact ⟨h1.carry _ _ _,rfl⟩
theorem Eqv.unit {s t : Sc} (h : Eqv s t) (hs : s.Ok) (ht : t.Ok) (cl : Int) (x : ByteArray) : Eqv (s.unit cl x) (t.unit cl x) := by
 obtain ⟨f1,f2,f3,f4,f5,f6⟩ := h.fields
 unfold Sc.unit
 rw [f1]
 repeat' split
 all_goals first | exact h.mark hs ht _ | exact h.write _ _ | skip
 obtain ⟨R,L,C,rfl,hm,hg⟩ := h
 exact ⟨R,L,C,rfl,(fun hq => by cases hq),hg⟩
theorem Eqv.step {s t : Sc} (h : Eqv s t) (hs : s.Ok) (ht : t.Ok) (all : ByteArray) : Eqv (s.step all).1 (t.step all).1 ∧ (t.step all).2 = (s.step all).2 := by
 unfold Sc.step
 split
 ·exact h.escape all
 split
 ·exact ⟨h.control _,rfl⟩
 split
 ·exact ⟨h,rfl⟩
 ·exact ⟨h.unit hs ht _ _,rfl⟩
theorem Eqv.feedN : ∀ (k : Nat) {s t : Sc} (h : Eqv s t) (hs : s.Ok) (ht : t.Ok) (all : ByteArray),Eqv (Sc.feedN k s all).1 (Sc.feedN k t all).1 ∧ (Sc.feedN k t all).2 = (Sc.feedN k s all).2
 | 0,s,t,h,hs,ht,all => ⟨h,rfl⟩
 | k + 1,s,t,h,hs,ht,all => by
  obtain ⟨h1,h2⟩ := h.step hs ht all
  unfold Sc.feedN
  rw [h2]
  split
  ·exact ⟨h,rfl⟩
  split
  ·exact ⟨h1,rfl⟩
  ·exact Eqv.feedN k h1 (hs.step all) (ht.step all) _
structure EqvS (S T : Sc × ByteArray) : Prop where
 s : Eqv S.1 T.1
 held : T.2 = S.2
 o1 : S.1.Ok
 o2 : T.1.Ok
theorem EqvS.feed {S T : Sc × ByteArray} (h : EqvS S T) (b : ByteArray) : EqvS (feedS S b) (feedS T b) := by
 have h1 := Eqv.feedN (S.2 ++ b).size h.s h.o1 h.o2 (S.2 ++ b)
 refine ⟨?_,?_,feedS_ok h.o1 b,feedS_ok h.o2 b⟩
 ·unfold feedS;rw [h.held];exact h1.1
 ·unfold feedS;rw [h.held];exact h1.2
/-- What is seen is the same. -/
theorem lastN_more (rows : List (List Cl)) : ∀ k,lastN rows (rows.length + k) = lastN rows rows.length
 | 0 => rfl
 | k + 1 => by
  show (if (trimR (rows.getD (rows.length + k) [])).length = 0 then lastN rows (rows.length + k) else _) = _
  rw [rw_nil _ _ (by omega),if_pos (by rfl),lastN_more rows k]
theorem lastN_eq {rows R : List (List Cl)} (h : ∀ i,R.getD i [] = rows.getD i []) : ∀ n,lastN R n = lastN rows n
 | 0 => rfl
 | n + 1 => by
  unfold lastN
  rw [h n,lastN_eq h n]
theorem Eqv.nrows {s t : Sc} (h : Eqv s t) : t.nrows = s.nrows := by
 obtain ⟨R,L,C,rfl,hm,hg⟩ := h
 show max (lastN R R.length) (s.r + 1) = max (lastN s.rows s.rows.length) (s.r + 1)
 have h1 := lastN_more R s.rows.length
 have h2 := lastN_more s.rows R.length
 rw [lastN_eq hg,Nat.add_comm] at h1
 rw [← h1,h2]
theorem Eqv.frames {s t : Sc} (h : Eqv s t) (n : Int) : frameL t.rows (t.frameN n) = frameL s.rows (s.frameN n) := by
 obtain ⟨R,L,C,rfl,hm,hg⟩ := h
 unfold frameL
 show List.map _ (List.range (s.frameN n)) = _
 congr 1
 funext i
 rw [hg i]
end Go.Proofs.YtgdpnmikcopkmaaDoor.U
end
section
namespace Go.Proofs.YtgdpnmikcopkmaaDoor.U
open Go.RowKit Go.Proofs.YtgdpnmikcopkmaaDoor.Mu Go.Proofs.YtgdpnmikcopkmaaDoor.Pu Go.Proofs.YtgdpnmikcopkmaaDoorW.PrintWords Go.Proofs.YtgdpnmikcopkmaaDoorW.PrintLast Go.Proofs.YtgdpnmikcopkmaaDoorW.PrintMore
set_option linter.unusedVariables false
set_option linter.unusedSimpArgs false
theorem EqvS.many {S T : Sc × ByteArray} (h : EqvS S T) (b : ByteArray) : ∀ n,EqvS (feedI S b n) (feedI T b n)
 | 0 => h
 | n + 1 => (EqvS.many h b n).feed b
section
variable {base p : Nat} {O : Nat → Prop} {w : World} {S S2 : Sc × ByteArray}
theorem scr_rows' (h : Scr base p O w S2) (hb : base ≤ w.heap.size) (he : EqvS S S2) :
  Calls Tryd.prog 21 #[.pointer (some ⟨p,0,none⟩)] w fun e w' => e = .returned (.int .i64 (S.1.nrows : Nat)) ∧ Made base p O O w w' S2 :=
 (scr_rows h hb he.o2).mono fun e w' hh => by rw [he.s.nrows] at hh;exact hh
theorem scr_frame' (h : Scr base p O w S2) (hb : base ≤ w.heap.size) (he : EqvS S S2) (n : Int) :
  Calls Tryd.prog 20 #[.pointer (some ⟨p,0,none⟩),.int .i64 n] w fun e w' => ∃ rv,e = .returned (.agg #[.int .i64 S.1.w,rv,.int .i64 S.1.r,.int .i64 S.1.c]) ∧ Kd.S kRow 36 w' w.heap.size (fun k => w.heap.size ≤ k) rv (frameL S.1.rows (S.1.frameN n)) ∧ Made base p O O w w' S2 :=
 (scr_frame h hb he.o2 n).mono fun e w' hh => by
  obtain ⟨h1,h2,h3,h4,h5,h6⟩ := he.s.fields
  rw [he.s.frames n,h1,h3,h4] at hh
  exact hh
theorem scr_held' (h : Scr base p O w S2) (hb : base ≤ w.heap.size) (he : EqvS S S2) : Calls Tryd.prog 24 #[.pointer (some ⟨p,0,none⟩)] w fun e w' => e = .returned (.int .i64 (S.2.size : Nat)) ∧ Below w.heap.size w w' :=
 (scr_held h hb).mono fun e w' hh => by rw [he.held] at hh;exact hh
theorem scr_full' (h : Scr base p O w S2) (hb : base ≤ w.heap.size) (he : EqvS S S2) : Calls Tryd.prog 25 #[.pointer (some ⟨p,0,none⟩)] w fun e w' => e = .returned (.bool S.1.full) ∧ Below w.heap.size w w' :=
 (scr_full h hb).mono fun e w' hh => by rw [he.s.fields.2.2.2.2.1] at hh;exact hh
end
end Go.Proofs.YtgdpnmikcopkmaaDoor.U
end
section
namespace Go.Proofs.YtgdpnmikcopkmaaDoor.U
open Go.RowKit Go.Proofs.YtgdpnmikcopkmaaDoor.Mu Go.Proofs.YtgdpnmikcopkmaaDoor.Pu Go.Proofs.YtgdpnmikcopkmaaDoorW.PrintWords Go.Proofs.YtgdpnmikcopkmaaDoorW.PrintLast Go.Proofs.YtgdpnmikcopkmaaDoorW.PrintMore
set_option linter.unusedVariables false
set_option linter.unusedSimpArgs false
theorem Eqv.symm {s t : Sc} (h : Eqv s t) : Eqv t s := by
 obtain ⟨R,L,C,rfl,hm,hg⟩ := h
 exact ⟨s.rows,s.lr,s.lc,rfl,fun hq => ⟨(hm hq).1.symm,(hm hq).2.symm⟩,fun i => (hg i).symm⟩
theorem EqvS.symm {S T : Sc × ByteArray} (h : EqvS S T) : EqvS T S := ⟨h.s.symm,h.held.symm,h.o2,h.o1⟩
end Go.Proofs.YtgdpnmikcopkmaaDoor.U
end
section
namespace Go.Proofs.YtgdpnmikcopkmaaDoor.U
open Go.RowKit Go.Proofs.YtgdpnmikcopkmaaDoor.Mu Go.Proofs.YtgdpnmikcopkmaaDoor.Pu Go.Proofs.YtgdpnmikcopkmaaDoorW.PrintWords Go.Proofs.YtgdpnmikcopkmaaDoorW.PrintLast Go.Proofs.YtgdpnmikcopkmaaDoorW.PrintMore
set_option linter.unusedVariables false
set_option linter.unusedSimpArgs false
section
variable {base p : Nat} {O : Nat → Prop} {w : World} {T : Sc × ByteArray} {a b : Int}
theorem obs_held (h : Scr base p O w T) (hb : base ≤ w.heap.size) (he : EqvS (newSc a b,⟨#[]⟩) T) : Calls Tryd.prog 24 #[.pointer (some ⟨p,0,none⟩)] w fun e w' => e = .returned (.int .i64 0) ∧ Below w.heap.size w w' := scr_held' h hb he
theorem obs_full (h : Scr base p O w T) (hb : base ≤ w.heap.size) (he : EqvS (newSc a b,⟨#[]⟩) T) : Calls Tryd.prog 25 #[.pointer (some ⟨p,0,none⟩)] w fun e w' => e = .returned (.bool false) ∧ Below w.heap.size w w' := scr_full' h hb he
theorem obs_rows (h : Scr base p O w T) (hb : base ≤ w.heap.size) (he : EqvS (newSc a b,⟨#[]⟩) T) : Calls Tryd.prog 21 #[.pointer (some ⟨p,0,none⟩)] w fun e w' => e = .returned (.int .i64 1) ∧ Made base p O O w w' T := scr_rows' h hb he
theorem obs_cursor (h : Scr base p O w T) (he : EqvS (newSc a b,⟨#[]⟩) T) : Calls Tryd.prog 26 #[.pointer (some ⟨p,0,none⟩)] w fun e w' => e = .returned (.agg #[.int .i64 0,.int .i64 0]) ∧ Below w.heap.size w w' :=
 (sc_cursor h.at_).mono fun e w' hh => by
  obtain ⟨h1,h2,h3,h4,h5,h6⟩ := he.s.fields
  rw [h3,h4] at hh
  exact hh
theorem obs_frame (h : Scr base p O w T) (hb : base ≤ w.heap.size) (he : EqvS (newSc a b,⟨#[]⟩) T) :
  Calls Tryd.prog 20 #[.pointer (some ⟨p,0,none⟩),.int .i64 1] w fun e w' => ∃ rv,e = .returned (.agg #[.int .i64 (cntI a),rv,.int .i64 0,.int .i64 0]) ∧ Kd.S kRow 36 w' w.heap.size (fun k => w.heap.size ≤ k) rv [[]] ∧ Made base p O O w w' T :=
 (scr_frame' h hb he 1).mono fun e w' hh => by
  obtain ⟨rv,h1,h2,h3⟩ := hh
  refine ⟨rv,h1,?_,h3⟩
  have hb := cntI_bd b
  have e1 : (newSc a b).frameN 1 = 1 := by
   show (min (max (1 : Int) 1) (cntI b : Int)).toNat = 1
   omega
  rw [show frameL (newSc a b,(⟨#[]⟩ : ByteArray)).1.rows ((newSc a b,(⟨#[]⟩ : ByteArray)).1.frameN 1) = [[]] from by show frameL [] ((newSc a b).frameN 1) = [[]];rw [e1];rfl] at h2
  exact h2
end
/-- A frame with one empty row,and its own block. -/
structure FrB (w : World) (b0 g : Nat) (cs : Array Value) (rv : Value) : Prop where
 blk : w.heap[g]? = some (.cells cs 26 (0,0))
 rows : Kd.S kRow 36 w b0 (fun k => b0 ≤ k) rv [[]]
 gb : b0 ≤ g
theorem FrB.kept {w w' : World} {b0 g : Nat} {cs : Array Value} {rv : Value} {Q : Nat → Prop} (h : FrB w b0 g cs rv) (hk : Kept w w' Q) (hq : ∀ k,Q k → k < b0) : FrB w' b0 g cs rv :=
 ⟨blk_kept h.blk hk (fun he => by have := hq g he;have := h.gb;omega),Kd.S_kept h.rows hk (fun k hk2 he => by have := hq k he;omega),h.gb⟩
theorem FrB.below {w w' : World} {b0 g : Nat} {cs : Array Value} {rv : Value} (h : FrB w b0 g cs rv) (hb : Below w.heap.size w w') : FrB w' b0 g cs rv := h.kept (Kept.of_below hb (fun _ => False)) (fun k hk => hk.elim)
theorem FrB.cells {w : World} {b0 g : Nat} {x y z : Value} {FA : Option Addr} {fc : Nat} (h : FrB w b0 g #[x,.slice FA 1 fc,y,z] (.slice FA 1 fc)) :
  ∃ ad A0 c0,FA = some ad ∧ w.cell? ⟨g,1,none⟩ = some (.slice FA 1 fc) ∧ w.cell? ad = some (.slice A0 0 c0) := by
 obtain ⟨ad,A0,c0,h1,h2,_⟩ := at_L3 (Kd.S_reads' h.rows).2.2 0 (by omega) (by decide)
 have e : ad.add ((0 : Int).toNat) = ad := by cases ad;rfl
 rw [e] at h2
 exact ⟨ad,A0,c0,h1,blk_cell h.blk 1,h2⟩
end Go.Proofs.YtgdpnmikcopkmaaDoor.U
end
section
namespace Go.Proofs.YtgdpnmikcopkmaaDoor.U
open Go.RowKit Go.Proofs.YtgdpnmikcopkmaaDoor.Mu Go.Proofs.YtgdpnmikcopkmaaDoor.Pu Go.Proofs.YtgdpnmikcopkmaaDoorW.PrintWords Go.Proofs.YtgdpnmikcopkmaaDoorW.PrintLast Go.Proofs.YtgdpnmikcopkmaaDoorW.PrintMore
set_option linter.unusedVariables false
set_option linter.unusedSimpArgs false
set_option maxRecDepth 100000
abbrev nSc : Sc × ByteArray := (newSc 1 1,⟨#[]⟩)
abbrev noO : Nat → Prop := fun _ => False
theorem nSc_refl : EqvS nSc nSc := ⟨Eqv.refl _,rfl,newSc_ok 1 1,newSc_ok 1 1⟩
/-- Ours and the reference's,both fresh. -/
structure Zr (base p r : Nat) (W w : World) : Prop where
 scr : Scr base p noO w nSc
 rf : RfAt r w
 ne : r ≠ p
 below : Below base W w
 bs : base ≤ w.heap.size
 kept : Kept W w (fun k => noO k ∨ k = p)
theorem Zr.more {base p r : Nat} {W w w1 : World} (h : Zr base p r W w) (hb : Below w.heap.size w w1) : Zr base p r W w1 :=
 ⟨h.scr.below hb,h.rf.below hb,h.ne,h.below.trans (hb.mono h.bs),Nat.le_trans h.bs hb.size,h.kept.below hb⟩
theorem Zr.made {base p r : Nat} {W w w1 : World} (h : Zr base p r W w) (hm : Made base p noO noO w w1 nSc) : Zr base p r W w1 :=
 ⟨hm.scr,blk_kept h.rf hm.kept (fun he => he.elim id h.ne),h.ne,h.below.trans hm.below,Nat.le_trans h.bs hm.kept.1,h.kept.then_ hm.kept (fun k hk => .inl hk)⟩
section
variable {base p r : Nat} {W w : World}
theorem z_height (h : Scr base p noO w nSc) (hb : base ≤ w.heap.size) : Calls Tryd.prog 32 #[.pointer (some ⟨p,0,none⟩)] w fun e w' => e = .returned (.int .i64 1) ∧ Made base p noO noO w w' nSc := scr_height h hb (newSc_ok 1 1)
theorem z_frame (h : Scr base p noO w nSc) (hb : base ≤ w.heap.size) : Calls Tryd.prog 20 #[.pointer (some ⟨p,0,none⟩),.int .i64 1] w fun e w' => ∃ rv,e = .returned (.agg #[.int .i64 1,rv,.int .i64 0,.int .i64 0]) ∧ Kd.S kRow 36 w' w.heap.size (fun k => w.heap.size ≤ k) rv [[]] ∧ Made base p noO noO w w' nSc := obs_frame h hb nSc_refl
theorem z_held (h : Scr base p noO w nSc) (hb : base ≤ w.heap.size) : Calls Tryd.prog 24 #[.pointer (some ⟨p,0,none⟩)] w fun e w' => e = .returned (.int .i64 0) ∧ Below w.heap.size w w' := obs_held h hb nSc_refl
theorem z_full (h : Scr base p noO w nSc) (hb : base ≤ w.heap.size) : Calls Tryd.prog 25 #[.pointer (some ⟨p,0,none⟩)] w fun e w' => e = .returned (.bool false) ∧ Below w.heap.size w w' := obs_full h hb nSc_refl
theorem z_rows (h : Scr base p noO w nSc) (hb : base ≤ w.heap.size) : Calls Tryd.prog 21 #[.pointer (some ⟨p,0,none⟩)] w fun e w' => e = .returned (.int .i64 1) ∧ Made base p noO noO w w' nSc := obs_rows h hb nSc_refl
theorem z_cursor (h : Scr base p noO w nSc) : Calls Tryd.prog 26 #[.pointer (some ⟨p,0,none⟩)] w fun e w' => e = .returned (.agg #[.int .i64 0,.int .i64 0]) ∧ Below w.heap.size w w' := obs_cursor h nSc_refl
def zSc : Sc := ⟨0,0,[],0,0,false,0,0,false⟩
theorem z_width (h : ScrAt base p noO w zSc ⟨#[]⟩) (hb : base ≤ w.heap.size) : Calls Tryd.prog 22 #[.pointer (some ⟨p,0,none⟩)] w fun e w' => e = .returned (.int .i64 1) ∧ Made base p noO noO w w' nSc :=
 (sc_width h.bound hb).mono fun e w' hh => ⟨hh.1,Made.of_same (S' := nSc) (fun k hk => hk.elim) hh.2⟩
end
attribute [local go_sem high] place_eq
set_option maxHeartbeats 8000000 in
theorem agree_zero {base p r : Nat} {W : World} (h : ScrAt base p noO W zSc ⟨#[]⟩) (hb : base ≤ W.heap.size) (hr : RfAt r W) (hne : r ≠ p) :
  Calls Tryd.prog 30 #[.pointer (some ⟨p,0,none⟩),.pointer (some ⟨r,0,none⟩),.int .i64 1] W fun e w' => e = .returned (.bool true) ∧ Zr base p r W w' := by
 have hq := run_eql_ptr_nil (tp := 28) (te := 69) W (some ⟨p,0,none⟩) Tryd.underlying28 (j := _) rfl
 obtain ⟨kS,hSF'⟩ := sframe_refl 1 0 0 [[]] (by decide) (by intro row hm;simp at hm;subst hm;exact Nat.zero_le _)
 have hSF := hSF' kS (Nat.le_refl _)
 clear hSF'
 go_enter Tryd.func30,Tryd.ntmps30
 go_upto_region 3 with (first | (go_at_call 47;refine (rf_rows z11.rf).mono ?_;rintro e w12 ⟨rfl,hM⟩;have z12 := z11.more hM;clear z11 hM) | (go_at_call 21;refine (z_rows z10.scr z10.bs).mono ?_;rintro e w11 ⟨rfl,hM⟩;have z11 := z10.made hM;clear z10 hM) | (go_at_call 54;refine (rf_cursor z9.rf).mono ?_;rintro e w10 ⟨rfl,hM⟩;have z10 := z9.more hM;clear z9 hM) | (go_at_call 26;refine (z_cursor z8.scr).mono ?_;rintro e w9 ⟨rfl,hM⟩;have z9 := z8.more hM;clear z8 hM) | (go_at_call 53;refine (rf_full z7.rf).mono ?_;rintro e w8 ⟨rfl,hM⟩;have z8 := z7.more hM;clear z7 hM) | (go_at_call 25;refine (z_full z6.scr z6.bs).mono ?_;rintro e w7 ⟨rfl,hM⟩;have z7 := z6.more hM;clear z6 hM) | (go_at_call 52;refine (rf_held z5.rf).mono ?_;rintro e w6 ⟨rfl,hM⟩;have z6 := z5.more hM;clear z5 hM) | (go_at_call 24;refine (z_held z4.scr z4.bs).mono ?_;rintro e w5 ⟨rfl,hM⟩;have z5 := z4.more hM;clear z4 hM) | (go_at_call 51;refine (rf_height z3.rf).mono ?_;rintro e w4 ⟨rfl,hM⟩;have z4 := z3.more hM;clear z3 hM) | (go_at_call 32;refine (z_height z2.scr z2.bs).mono ?_;rintro e w3 ⟨rfl,hM⟩;have z3 := z2.made hM;clear z2 hM) | (go_at_call 50;refine (rf_width z1.rf).mono ?_;rintro e w2 ⟨rfl,hM⟩;have z2 := z1.more hM;clear z1 hM) | (go_at_call 22;refine (z_width h hb).mono ?_;rintro e w1 ⟨rfl,hM⟩;have z1 : Zr base p r W w1 := ⟨hM.scr,blk_kept hr hM.kept (fun he => he.elim id hne),hne,hM.below,Nat.le_trans hb hM.kept.1,hM.kept⟩;clear hM))
 go_wp2_with (first | (go_at_call 29;refine (bodkinref22_SameFrame.calls kS _ FA2 fc2 _ _ _ _ GA2 gc2 _ _ _ true _ (Kd.S_reads' hF19).2.2 (Kd.S_reads' hF19).2.1 (Kd.S_reads' hG19).2.2 (Kd.S_reads' hG19).2.1 hSF).mono ?_;rintro e w20 ⟨rfl,hM⟩;have z20 := z19.more hM;clear z19 hM hF19 hG19) | (go_at_call 48;refine (rf_frame z18.rf).mono ?_;rintro e w19 ⟨rv,rfl,hG19,hM⟩;have z19 := z18.more hM;have hF19 := Kd.S_below hF18 hM;obtain ⟨GA2,gc2,rfl⟩ := Kd.R_slice (Kd.S_R hG19);clear z18 hM hF18) | (go_at_call 20;refine (z_frame z17.scr z17.bs).mono ?_;rintro e w18 ⟨rv,rfl,hF18,hM⟩;have z18 := z17.made hM;obtain ⟨FA2,fc2,rfl⟩ := Kd.R_slice (Kd.S_R hF18);clear z17 hM) | (go_at_call 29;refine (bodkinref22_SameFrame.calls kS _ FA fc _ _ _ _ GA gc _ _ _ true _ (Kd.S_reads' hF16).2.2 (Kd.S_reads' hF16).2.1 (Kd.S_reads' hG16).2.2 (Kd.S_reads' hG16).2.1 hSF).mono ?_;rintro e w17 ⟨rfl,hM⟩;have z17 := z16.more hM;clear z16 hM hF16 hG16) | (go_at_call 48;refine (rf_frame z15.rf).mono ?_;rintro e w16 ⟨rv,rfl,hG16,hM⟩;have z16 := z15.more hM;have hF16 := Kd.S_below hF15 hM;obtain ⟨GA,gc,rfl⟩ := Kd.R_slice (Kd.S_R hG16);clear z15 hM hF15) | (go_at_call 47;refine (rf_rows z14.rf).mono ?_;rintro e w15 ⟨rfl,hM⟩;have z15 := z14.more hM;have hF15 := Kd.S_below hF14 hM;clear z14 hM hF14) | (go_at_call 20;refine (z_frame z13.scr z13.bs).mono ?_;rintro e w14 ⟨rv,rfl,hF14,hM⟩;have z14 := z13.made hM;obtain ⟨FA,fc,rfl⟩ := Kd.R_slice (Kd.S_R hF14);clear z13 hM) | (go_at_call 47;refine (rf_rows z12.rf).mono ?_;rintro e w13 ⟨rfl,hM⟩;have z13 := z12.more hM;clear z12 hM))
 go_ret
 exact ⟨rfl,z20⟩
end Go.Proofs.YtgdpnmikcopkmaaDoor.U
end
section
namespace Go.Proofs.YtgdpnmikcopkmaaDoor.U
open Go.RowKit Go.Proofs.YtgdpnmikcopkmaaDoor.Mu Go.Proofs.YtgdpnmikcopkmaaDoor.Pu Go.Proofs.YtgdpnmikcopkmaaDoorW.PrintWords Go.Proofs.YtgdpnmikcopkmaaDoorW.PrintLast Go.Proofs.YtgdpnmikcopkmaaDoorW.PrintMore
set_option linter.unusedVariables false
set_option linter.unusedSimpArgs false
/-- Two frames that lie there. -/
structure Nn (W w : World) (b0 g : Nat) (fs : Array Value) : Prop where
 below : Below W.heap.size W w
 f : w.heap[b0]? = some (.cells fs 26 (0,0))
 g : w.heap[g]? = some (.cells #[.int .i64 0,.slice none 0 0,.int .i64 0,.int .i64 0] 26 (0,0))
theorem Nn.more {W w w1 : World} {b0 g : Nat} {fs : Array Value} (h : Nn W w b0 g fs) (hb : Below w.heap.size w w1) : Nn W w1 b0 g fs := ⟨h.below.trans (hb.mono h.below.size),blk_below h.f hb,blk_below h.g hb⟩
theorem Nn.fc {W w : World} {b0 g : Nat} {a b c d : Value} (h : Nn W w b0 g #[a,b,c,d]) : w.cell? ⟨b0,0,none⟩ = some a ∧ w.cell? ⟨b0,1,none⟩ = some b ∧ w.cell? ⟨b0,2,none⟩ = some c ∧ w.cell? ⟨b0,3,none⟩ = some d := ⟨blk_cell h.f 0,blk_cell h.f 1,blk_cell h.f 2,blk_cell h.f 3⟩
theorem Nn.gc {W w : World} {b0 g : Nat} {fs : Array Value} (h : Nn W w b0 g fs) : w.cell? ⟨g,0,none⟩ = some (.int .i64 0) ∧ w.cell? ⟨g,1,none⟩ = some (.slice none 0 0) ∧ w.cell? ⟨g,2,none⟩ = some (.int .i64 0) ∧ w.cell? ⟨g,3,none⟩ = some (.int .i64 0) := ⟨blk_cell h.g 0,blk_cell h.g 1,blk_cell h.g 2,blk_cell h.g 3⟩
set_option maxRecDepth 100000 in
set_option maxHeartbeats 8000000 in
theorem none_any (bytes : ByteArray) (a1 f0 f2 f3 : Int) (FA : Option Addr) (fn fc : Nat) (W : World) (hz : bytes.size ≤ 1048576) (hT : Lib.Utf8Tabs 0 1 W) :
  Calls Tryd.prog 12 #[.string bytes,.int .i64 a1,.agg #[.int .i64 f0,.slice FA fn fc,.int .i64 f2,.int .i64 f3]] W fun e w' => e = .returned (.bool true) ∧ Below W.heap.size W w' := by
 have h2 := tabs_two hT
 have hq := fun w => run_eql_ptr_nil (tp := 28) (te := 69) w none Tryd.underlying28 (j := _) rfl
 have hal0 := below_alloc (Below.refl W.heap.size W) (.cells #[.int .i64 f0,.slice FA fn fc,.int .i64 f2,.int .i64 f3] 26 (0,0))
 have hf0 := World.alloc_heap_new W (.cells #[.int .i64 f0,.slice FA fn fc,.int .i64 f2,.int .i64 f3] 26 (0,0))
 go_enter Tryd.func12,Tryd.ntmps12
 go_upto_region 1 with (fail)
 generalize W.alloc (.cells #[.int .i64 f0,.slice FA fn fc,.int .i64 f2,.int .i64 f3] 26 (0,0)) = w0 at hal0 hf0 ⊢
 go_upto_region 7 with (first | (go_at_call 20;refine (nil_frame _ 3).mono ?_;rintro e w4 ⟨rfl,hb⟩;have hB4 := hB3.trans (hb.mono hB3.size);have hf4 := blk_below hf3 hb;clear hB3 hf3 hb) | (go_at_call 31;refine (nil_resize _ a1).mono ?_;rintro e w3 ⟨rfl,hb⟩;have hB3 := hB2.trans (hb.mono hB2.size);have hf3 := blk_below hf2 hb;clear hB2 hf2 hb) | (go_at_call 16;refine (nil_feed _ bytes).mono ?_;rintro e w2 ⟨rfl,hb⟩;have hB2 := hB1.trans (hb.mono hB1.size);have hf2 := blk_below hf1 hb;clear hB1 hf1 hb) | (go_at_call 13;refine (law_shows _ (tabs_base hT hal0 h2) (Nat.le_trans h2 hal0.size)).mono ?_;rintro e w1 ⟨rfl,hb⟩;have hB1 := hal0.trans (hb.mono hal0.size);have hf1 := blk_below hf0 hb;clear hal0 hf0 hb))
 have hal := below_alloc (Below.refl _ w4) (.cells #[.int .i64 0,.slice none 0 0,.int .i64 0,.int .i64 0] 26 (0,0))
 have n5 : Nn W (w4.alloc (.cells #[.int .i64 0,.slice none 0 0,.int .i64 0,.int .i64 0] 26 (0,0))) W.heap.size w4.heap.size #[.int .i64 f0,.slice FA fn fc,.int .i64 f2,.int .i64 f3] :=
  ⟨hB4.trans (hal.mono hB4.size),blk_below hf4 hal,World.alloc_heap_new w4 _⟩
 generalize w4.alloc (.cells #[.int .i64 0,.slice none 0 0,.int .i64 0,.int .i64 0] 26 (0,0)) = w5 at n5 ⊢
 clear hal hB4 hf4
 go_upto_region 9 with (first | (go_at_call 28;refine (nil_clone _).mono ?_;rintro e w13 ⟨rfl,hb⟩;have n13 := n12.more hb;obtain ⟨y0,y1,y2,y3⟩ := n13.gc;clear n12 hb) | (go_at_call 18;refine (nil_shows _ _ _ _ _).mono ?_;rintro e w12 ⟨rfl,hb⟩;have n12 := n11.more hb;clear n11 hb) | (go_at_call 21;refine (nil_rows _).mono ?_;rintro e w11 ⟨rfl,hb⟩;have n11 := n10.more hb;obtain ⟨x0,x1,x2,x3⟩ := n11.fc;clear n10 hb) | (go_at_call 26;refine (nil_cursor _).mono ?_;rintro e w10 ⟨rfl,hb⟩;have n10 := n9.more hb;clear n9 hb) | (go_at_call 25;refine (nil_full _).mono ?_;rintro e w9 ⟨rfl,hb⟩;have n9 := n8.more hb;clear n8 hb) | (go_at_call 24;refine (nil_held _).mono ?_;rintro e w8 ⟨rfl,hb⟩;have n8 := n7.more hb;clear n7 hb) | (go_at_call 32;refine (nil_height _).mono ?_;rintro e w7 ⟨rfl,hb⟩;have n7 := n6.more hb;clear n6 hb) | (go_at_call 22;refine (nil_width _).mono ?_;rintro e w6 ⟨rfl,hb⟩;have n6 := n5.more hb;clear n5 hb))
 have hal := below_alloc (Below.refl _ w13) (.cells #[.int .i64 0,.int .i64 0,.slice none 0 0,.int .i64 0,.int .i64 0,.bool false,.int .i64 0,.int .i64 0,.bool false,.string ⟨#[]⟩] 69 (0,0))
 have hz0 : ScrAt W.heap.size w13.heap.size noO (w13.alloc (.cells #[.int .i64 0,.int .i64 0,.slice none 0 0,.int .i64 0,.int .i64 0,.bool false,.int .i64 0,.int .i64 0,.bool false,.string ⟨#[]⟩] 69 (0,0))) zSc ⟨#[]⟩ := ⟨⟨.slice none 0 0,World.alloc_heap_new w13 _,Kd.S_nil _ _ _ _ _⟩,n13.below.size,fun hk => hk⟩
 have hB13 := n13.below
 have hlt13 : w13.heap.size < (w13.alloc (.cells #[.int .i64 0,.int .i64 0,.slice none 0 0,.int .i64 0,.int .i64 0,.bool false,.int .i64 0,.int .i64 0,.bool false,.string ⟨#[]⟩] 69 (0,0))).heap.size := by rw [World.size_alloc];omega
 have hB14 := hB13.trans (hal.mono hB13.size)
 go_upto_region 10 with (go_at_call 14;refine (scr_new 1 1 _).mono ?_;rintro e w15 ⟨po,rfl,hpo,hSo,hb15⟩;have hO15 := hSo W.heap.size hB14.size;have hz15 := hz0.below hb15;have hB15 := hB14.trans (hb15.mono hB14.size))
 generalize w13.heap.size = pz at hz0 hz15 hlt13 ⊢
 have hpz : pz < po := Nat.lt_of_lt_of_le hlt13 hpo
 clear hal hz0 hSo hb15 hB14 hB13 n13 y0 y1 y2 y3 x0 x1 x2 x3 hlt13 hpo
 go_wp2_with (first | (go_at_call 23;refine (law_same hTw h2 (tabs_base hT hB17 h2) (fit_new 1 1) bytes (by omega)).mono ?_;rintro e w18 ⟨rfl,Oa,Ob,hTw2⟩;have hB18 := hB17.trans hTw2.below) | (go_at_call 30;refine (agree_zero hz16 hB16.size hr16 hne).mono ?_;rintro e w17 ⟨rfl,hZ⟩;have hB17 := hB16.trans hZ.below;have hap : Apart pz noO po noO := ⟨Nat.ne_of_lt hpz,fun h => h,fun h => h,fun k h => h.elim⟩;have hO17 := hO16.other hap hZ.kept;have hTw := Two.start hZ.scr hO17 hap hZ.bs) | (go_at_call 15;refine (rf_new _).mono ?_;rintro e w16 ⟨r,rfl,hrr,hr16,hb16⟩;have hz16 := hz15.below hb16;have hO16 := hO15.below hb16;have hB16 := hB15.trans (hb16.mono hB15.size);have hne : r ≠ pz := by have := hz15.lt;omega))
 go_ret
 exact ⟨rfl,hB18⟩
def bodkinlaw22_ScreenNone.f (a0 : ByteArray) (a1 a2_0 : Int) (l2_1 : List (List S38)) (a2_2 a2_3 : Int) : Option Bool := if a0.size ≤ 1048576 then some true else none
theorem bodkinlaw22_ScreenNone.calls (a0 : ByteArray) (a1 a2_0 : Int) (A2_1 : Option Addr) (c2_1 : Nat) (l2_1 : List (List S38)) (a2_2 a2_3 : Int) (r : Bool) (w : World) (hr2_1 : Kd.C (Kd.slice 38 k38) w A2_1 l2_1.length l2_1) (hc2_1 : l2_1.length ≤ c2_1) (hT : Lib.Utf8Tabs 0 1 w) (h : bodkinlaw22_ScreenNone.f a0 a1 a2_0 l2_1 a2_2 a2_3 = some r) :
  Calls Tryd.prog 12 #[.string a0,.int .i64 a1,.agg #[.int .i64 a2_0,.slice A2_1 l2_1.length c2_1,.int .i64 a2_2,.int .i64 a2_3]] w fun e w' => e = .returned (.bool r) ∧ Below w.heap.size w w' := by
 unfold bodkinlaw22_ScreenNone.f at h
 split at h
 ·rename_i hs
  obtain rfl := Option.some.inj h
  exact none_any a0 a1 a2_0 a2_2 a2_3 A2_1 l2_1.length c2_1 w hs hT
 ·cases h
end Go.Proofs.YtgdpnmikcopkmaaDoor.U
end
section
namespace Go.Proofs.YtgdpnmikcopkmaaDoor.Pure
open Go Go.RowKit Go.Proofs.YtgdpnmikcopkmaaDoor.U
theorem ScreenNone (a0 : ByteArray) (a1 a2_0 : Int) (l2_1 : List (List S38)) (a2_2 a2_3 : Int) (u0 : a0.size ≤ 1048576) (_w1 : (Lit.int .i64 a1).wf = true) (_u2 : l2_1.length ≤ 1048576) : bodkinlaw22_ScreenNone.f a0 a1 a2_0 l2_1 a2_2 a2_3 = some true := by
 unfold bodkinlaw22_ScreenNone.f
 rw [if_pos u0]
end Go.Proofs.YtgdpnmikcopkmaaDoor.Pure
end
section
namespace Go.Proofs.YtgdpnmikcopkmaaDoor.Lf
open Go.Lib Go.Proofs
theorem own : ownKnob Tryd.prog.godebug = none := by kernel_rfl
theorem laidOut : laidOutB Tryd.prog = true := by kernel_rfl
theorem extra : U8Extra Tryd.prog Tryd.lays260_ren := {
 n3 := by kernel_rfl
 n4 := by kernel_rfl
 y3 := by kernel_rfl
 y4 := by kernel_rfl
 c5 := by kernel_rfl
 c119 := by kernel_rfl
 c138 := by kernel_rfl }
theorem first_eq : Rows.laid_unicode_utf8_first = Lib.firstData := by kernel_rfl
theorem accept_eq : (Rows.laid_unicode_utf8_acceptRanges : DataW Unit) = Lib.acceptData := by kernel_rfl
abbrev laid : List (String × DataW Unit) := [("unicode/utf8.acceptRanges", Rows.laid_unicode_utf8_acceptRanges), ("unicode/utf8.first", Rows.laid_unicode_utf8_first)]
/-- The two tables lie as the contracts ask. -/
theorem tabs {W : World} (h : laidMetH Tryd.prog laid W) : Lib.Utf8Tabs 0 1 W := by
  rw [MakeChecks.laidMetH_plain _ _ _ (by kernel_rfl)] at h
  have h3 := laidMet.reads h (n := "unicode/utf8.first") (d := Rows.laid_unicode_utf8_first) (List.mem_cons_of_mem _ List.mem_cons_self)
  have h4 := laidMet.reads h (n := "unicode/utf8.acceptRanges") (d := Rows.laid_unicode_utf8_acceptRanges) List.mem_cons_self
  rw [first_eq] at h3
  rw [accept_eq] at h4
  exact utf8Tabs_of_reads Tryd.lays260 extra h3 h4
/-- The world of the witness: the settled one,the tables laid. -/
noncomputable abbrev wit (os : Os) : World := World.laidAll Tryd.prog os laid
theorem wit_laid (os : Os) (args : Array Value) : laidMetH Tryd.prog laid ((wit os).forCall (fun _ _ => 0) ⟨#[],args,[]⟩).memory := by
 rw [MakeChecks.laidMetH_plain _ _ _ (by kernel_rfl)]
 exact laidMet_laidAll _ (by kernel_rfl) (by kernel_rfl)
theorem wit_shaped (os : Os) (args : Array Value) : ((wit os).forCall (fun _ _ => 0) ⟨#[],args,[]⟩).Shaped Tryd.prog :=
 World.shaped_of_ZipB (by kernel_rfl) (by kernel_rfl)
end Go.Proofs.YtgdpnmikcopkmaaDoor.Lf
end
section
namespace Go.Proofs.YtgdpnmikcopkmaaDoor.Lf
open Go Go.RowKit
theorem bulk_one {H : Type} (d : DataW H) : 1 ≤ Rows.uptoBulk d := by
 cases d with
 | lit l => cases l <;> simp [Rows.uptoBulk]
 | nil => simp [Rows.uptoBulk]
 | ptr d => simp [Rows.uptoBulk]
 | slice elems spare => simp [Rows.uptoBulk]
 | agg parts => simp [Rows.uptoBulk]
 | iface t d => simp [Rows.uptoBulk]
 | map entries => simp [Rows.uptoBulk]
 | held h => simp [Rows.uptoBulk]
theorem bulk_len {H : Type} (l : List (DataW H)) : l.length ≤ Rows.uptoBulkAll l := by
 induction l with
 | nil => simp [Rows.uptoBulkAll]
 | cons x r ih => have := bulk_one x;simp only [Rows.uptoBulkAll,List.length_cons];omega
theorem bulk_mem {H : Type} {x : DataW H} : ∀ {l : List (DataW H)},x ∈ l → Rows.uptoBulk x ≤ Rows.uptoBulkAll l
 | y :: r,h => by
  simp only [Rows.uptoBulkAll]
  rcases List.mem_cons.1 h with rfl | h
  ·omega
  ·have := bulk_mem h;omega
end Go.Proofs.YtgdpnmikcopkmaaDoor.Lf
end
section
namespace Go.Proofs.YtgdpnmikcopkmaaDoor.Lf
open Go Go.RowKit Go.ChangeShapes Go.WideShapes Go.Proofs.YtgdpnmikcopkmaaDoor.U Go.Proofs.YtgdpnmikcopkmaaDoorW.PrintWords Go.Proofs.YtgdpnmikcopkmaaDoorW.PrintLast Go.Proofs.YtgdpnmikcopkmaaDoorW.PrintMore
set_option linter.unusedVariables false
set_option linter.unusedSimpArgs false
theorem fr_gen {H : Type} {enc : TypeId × Value → H} {P : Program} {w : World} {base : Nat} {sp : Nat → Bool} {held : Bool} {t : TypeId} {p0 p1 p2 r0 r1 : Field} (ht : P.underlying t = some (.struct #[p0,p1,p2])) (ce : P.cellsOf t = 4)
  (o0 : p0.offset = 0) (c0 : P.cellsOf p0.type = 1) (u0 : P.underlying p0.type = some (.int .i64)) (o1 : p1.offset = 1) (c1 : P.cellsOf p1.type = 1) (o2 : p2.offset = 2) (c2 : P.cellsOf p2.type = 2) (u2 : P.underlying p2.type = some (.struct #[r0,r1])) (z0 : r0.offset = 0) (e0 : P.cellsOf r0.type = 1) (w0 : P.underlying r0.type = some (.int .i64)) (z1 : r1.offset = 1) (e1 : P.cellsOf r1.type = 1) (w1 : P.underlying r1.type = some (.int .i64))
  {fuel : Nat} {cs : List Value} {x : DataW H × List MemPlace} (h : DataW.trod enc P w base sp held fuel t cs = some x) : ∃ (x0 : Int) (v1 : Value) (x2 x3 : Int) (y : DataW H × List MemPlace) (n : Nat),cs = [.int .i64 x0,v1,.int .i64 x2,.int .i64 x3] ∧ DataW.trod enc P w base sp held n p1.type [v1] = some y ∧ Rows.uptoBulk y.1 ≤ Rows.uptoBulk x.1 := by
 obtain ⟨xs,n,_,rfl,hl,hlen,hf⟩ := DataW.trod_struct ht h
 rw [ce] at hl
 match xs,hlen,cs,hl with
 | [y0,y1,y2],_,[v0,v1,v2,v3],_ =>
  have g0 := hf 0 p0 rfl
  have g1 := hf 1 p1 rfl
  have g2 := hf 2 p2 rfl
  simp [o0,c0,o1,c1,o2,c2] at g0 g1 g2
  obtain ⟨x0,q0,f0,_⟩ := DataW.trod_int u0 g0
  injection q0 with q0
  subst q0
  obtain ⟨ys,m,_,rfl,hl2,hlen2,hf2⟩ := DataW.trod_struct u2 g2
  match ys,hlen2 with
  | [s0,s1],_ =>
   have k0 := hf2 0 r0 rfl
   have k1 := hf2 1 r1 rfl
   simp [z0,e0,z1,e1] at k0 k1
   obtain ⟨x2,q2,f2,_⟩ := DataW.trod_int w0 k0
   injection q2 with q2
   subst q2
   obtain ⟨x3,q3,f3,_⟩ := DataW.trod_int w1 k1
   injection q3 with q3
   subst q3
   refine ⟨x0,v1,x2,x3,y1,_,rfl,g1,?_⟩
   simp only [List.map_cons,List.map_nil,Rows.uptoBulk,Rows.uptoBulkAll]
   omega
theorem cells_read {H : Type} {enc : TypeId × Value → H} {w : World} {base : Nat} {held : Bool} {sp : Nat → Bool} {fuel : Nat} {cs : List Value} {x : DataW H × List MemPlace}
  (h : DataW.trod enc Tryd.prog w base sp held fuel 36 cs = some x) :
  ∃ (a : Option Addr) (cap : Nat) (l : List S38),cs = [.slice a l.length cap] ∧ l.length ≤ cap ∧ Kd.C k38 w a l.length l ∧ l.length ≤ Rows.uptoBulk x.1 := by
 rcases Deep.open_slice_pairs Tryd.underlying36 Tryd.underlying38 (by kernel_rfl) rfl rfl (by kernel_rfl) (by kernel_rfl) h with ⟨hcs,hx⟩ | ⟨ad,len,cap,m,n,V0,V1,D0,D1,P0,P1,hcs,_,hl,hm,hmm,hx,hc⟩
 ·exact ⟨none,0,[],hcs,Nat.le_refl _,Kd.C_nil _ _,Nat.zero_le _⟩
 ·have hlm : len ≤ m := by rw [hmm];split <;> omega
  have hv : ∀ i,i < len → ∃ q : S38,V0 i = .string q.f0 ∧ V1 i = .int .i64 q.f1 := by
   intro i hi
   obtain ⟨_,_,h0,h1⟩ := hc i (by omega)
   obtain ⟨s,e0,e1,_⟩ := DataW.trod_string Tryd.underlying9 h0
   obtain ⟨k,f0,f1,_⟩ := DataW.trod_int Tryd.underlying3 h1
   injection e0 with e0
   injection f0 with f0
   exact ⟨⟨s,k⟩,e0,f0⟩
  haveI : Inhabited S38 := ⟨z38⟩
  obtain ⟨q,hq⟩ := Deep.choose_lt hv
  have hb : Rows.uptoBulkAll ((List.range len).map fun i => (.agg [D0 i,D1 i] : DataW H)) ≤ Rows.uptoBulk x.1 := by
   rw [hx]
   simp only [Rows.uptoBulk]
   omega
  have hlen : ((List.range len).map q).length = len := by simp
  refine ⟨some ad,cap,(List.range len).map q,by rw [hlen];exact hcs,by rw [hlen];exact hl,⟨rfl,by rw [hlen];unfold maxLen at hm;omega,fun _ => ⟨ad,rfl,fun j p hj => ?_⟩⟩,?_⟩
  ·rw [List.getElem?_map] at hj
   by_cases hjl : j < len
   ·rw [List.getElem?_range hjl] at hj
    obtain rfl := Option.some.inj hj
    obtain ⟨c0,c1,_⟩ := hc j (by omega)
    obtain ⟨e0,e1⟩ := hq j hjl
    refine ⟨_,rfl,k38_mk w (q j),fun i u hu => ?_⟩
    match i,hu with
    | 0,hu => obtain rfl := Option.some.inj hu;rw [e0] at c0;exact c0
    | 1,hu => obtain rfl := Option.some.inj hu;rw [e1] at c1;exact c1
    | (i + 2),hu => simp at hu
   ·rw [List.getElem?_eq_none (by simpa using hjl)] at hj
    cases hj
  ·refine Nat.le_trans ?_ hb
   refine Nat.le_trans (Nat.le_of_eq ?_) (bulk_len _)
   simp
theorem rows_read {H : Type} {enc : TypeId × Value → H} {w : World} {base : Nat} {held : Bool} {sp : Nat → Bool} {fuel : Nat} {cs : List Value} {x : DataW H × List MemPlace}
  (h : DataW.trod enc Tryd.prog w base sp held fuel 22 cs = some x) :
  ∃ (a : Option Addr) (cap : Nat) (L : List (List S38)),cs = [.slice a L.length cap] ∧ L.length ≤ cap ∧ Kd.C (Kd.slice 38 k38) w a L.length L ∧ L.length ≤ Rows.uptoBulk x.1 ∧ ∀ l ∈ L,l.length ≤ Rows.uptoBulk x.1 := by
 rcases Deep.open_slice Tryd.underlying22 h with ⟨hcs,hx⟩ | ⟨ad,len,cap,m,n,D,Pl,hcs,_,hl,hm,hmm,hx,hc⟩
 ·exact ⟨none,0,[],hcs,Nat.le_refl _,Kd.C_nil _ _,Nat.zero_le _,by simp⟩
 ·have hlm : len ≤ m := by rw [hmm];split <;> omega
  have ce : Tryd.prog.cellsOf 36 = 1 := by kernel_rfl
  have hv : ∀ i,i < len → ∃ q : List S38,(∃ A c,w.cell? (ad.add i) = some (.slice A q.length c) ∧ q.length ≤ c ∧ Kd.C k38 w A q.length q) ∧ q.length ≤ Rows.uptoBulk (D i) := by
   intro i hi
   obtain ⟨cs',h1,h2⟩ := hc i (by omega)
   obtain ⟨A,c,q,rfl,hqc,hq,hqb⟩ := cells_read h2
   obtain ⟨_,_,hcell⟩ := World.cells?_some h1
   rw [ce] at hcell
   have h0 := hcell 0 (by omega)
   rw [Deep.add_add,Nat.mul_one,Nat.add_zero] at h0
   exact ⟨q,⟨A,c,h0,hqc,hq⟩,hqb⟩
  haveI : Inhabited (List S38) := ⟨[]⟩
  obtain ⟨q,hq⟩ := Deep.choose_lt hv
  have hb : Rows.uptoBulkAll ((List.range len).map D) ≤ Rows.uptoBulk x.1 := by
   rw [hx]
   simp only [Rows.uptoBulk]
   omega
  have hlen : ((List.range len).map q).length = len := by simp
  refine ⟨some ad,cap,(List.range len).map q,by rw [hlen];exact hcs,by rw [hlen];exact hl,⟨rfl,by rw [hlen];unfold maxLen at hm;omega,fun _ => ⟨ad,rfl,fun j p hj => ?_⟩⟩,?_,fun l hl' => ?_⟩
  ·rw [List.getElem?_map] at hj
   by_cases hjl : j < len
   ·rw [List.getElem?_range hjl] at hj
    obtain rfl := Option.some.inj hj
    obtain ⟨⟨A,c,h0,hqc,hqk⟩,_⟩ := hq j hjl
    refine ⟨_,rfl,⟨A,c,rfl,hqc,hqk⟩,fun i u hu => ?_⟩
    match i,hu with
    | 0,hu => obtain rfl := Option.some.inj hu;exact (congrArg (fun y => w.cell? (ad.add y)) (show j * 1 + 0 = j by omega)).trans h0
    | (i + 1),hu => simp at hu
   ·rw [List.getElem?_eq_none (by simpa using hjl)] at hj
    cases hj
  ·refine Nat.le_trans ?_ hb
   refine Nat.le_trans (Nat.le_of_eq ?_) (bulk_len _)
   simp
  ·obtain ⟨i,hi,rfl⟩ := List.mem_map.1 hl'
   have hi := List.mem_range.1 hi
   have h1 := bulk_mem (l := (List.range len).map D) (List.mem_map_of_mem (List.mem_range.2 hi))
   have h2 := (hq i hi).2
   omega
set_option maxRecDepth 100000 in
theorem fr_open {W : World} {r : Reach} {b0 : Nat} {H : Type} {enc : TypeId × Value → H} {w : World} {base : Nat} {sp : Nat → Bool} {held : Bool} {v : Value} {d : DataW H} {ps : List MemPlace} (hval : Value.okWide Tryd.prog W r b0 26 v) (hd : DataW.Trod enc Tryd.prog w base sp held 26 v d ps) :
  ∃ (x0 : Int) (A : Option Addr) (c : Nat) (L : List (List S38)) (x2 x3 : Int),v = .agg #[.int .i64 x0,.slice A L.length c,.int .i64 x2,.int .i64 x3] ∧ Kd.C (Kd.slice 38 k38) w A L.length L ∧ L.length ≤ c ∧ L.length ≤ Rows.uptoBulk d ∧ ∀ l ∈ L,l.length ≤ Rows.uptoBulk d := by
 obtain ⟨cs,rfl,_⟩ := okWide_struct Tryd.underlying26 hval
 obtain ⟨fuel,hf⟩ := hd
 obtain ⟨x0,v1,x2,x3,y,n,e,hy,hb⟩ := fr_gen Tryd.underlying26 (by kernel_rfl) rfl (by kernel_rfl) Tryd.underlying3 rfl (by kernel_rfl) rfl (by kernel_rfl) Tryd.underlying24 rfl (by kernel_rfl) Tryd.underlying3 rfl (by kernel_rfl) Tryd.underlying3 hf
 obtain ⟨A,c,L,e1,hc,hr,hb1,hb2⟩ := rows_read hy
 injection e1 with e1
 subst e1
 refine ⟨x0,A,c,L,x2,x3,?_,hr,hc,Nat.le_trans hb1 hb,fun l hl => Nat.le_trans (hb2 l hl) hb⟩
 have e2 : cs.toList = [.int .i64 x0,.slice A L.length c,.int .i64 x2,.int .i64 x3] := e
 rw [← Array.toArray_toList (xs := cs),e2]
theorem fr_rb {L : List (List S38)} {m : Nat} (h : L.length ≤ m ∧ ∀ l ∈ L,l.length ≤ m) (hm : m ≤ 1048576) : L.length ≤ 1048576 := Nat.le_trans h.1 hm
end Go.Proofs.YtgdpnmikcopkmaaDoor.Lf
end
