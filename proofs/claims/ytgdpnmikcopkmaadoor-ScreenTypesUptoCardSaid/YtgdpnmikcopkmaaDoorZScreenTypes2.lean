/- What the law ScreenTypes reaches of this seat's own texts, merged; what nothing uses is left out. -/
import Derived.Test.YtgdpnmikcopkmaaDoorZScreenTypes0
import Derived.Test.YtgdpnmikcopkmaaDoorZScreenTypes1
section
namespace Go.Proofs.YtgdpnmikcopkmaaDoor.U
open Go.RowKit Go.Proofs.YtgdpnmikcopkmaaDoor.Pu Go.Proofs.YtgdpnmikcopkmaaDoorW.PrintWords Go.Proofs.YtgdpnmikcopkmaaDoorW.PrintLast Go.Proofs.YtgdpnmikcopkmaaDoorW.PrintMore
set_option linter.unusedVariables false
set_option linter.unusedSimpArgs false
def cntN (n : Nat) : Nat := min (max n 1) 65535
theorem cnt_eq (n : Nat) : screen_counted.f (n : Int) = some ((cntN n : Nat) : Int) := by
 unfold screen_counted.f mn mx cntN
 split <;> split <;> (congr 1;omega)
theorem cnt_ok {n : Nat} (h : 1 ≤ n) (h2 : n ≤ 65535) : cntN n = n := by unfold cntN;omega
def _root_.Go.Proofs.YtgdpnmikcopkmaaDoor.Pu.Sc.rdy (s : Sc) : Sc := { s with w := cntN s.w,h := cntN s.h }
theorem rdy_ok {s : Sc} (h : s.Ok) : s.rdy = s := by
 unfold Sc.rdy
 rw [cnt_ok h.w1 h.w2,cnt_ok h.h1 h.h2]
def rdy3.T : Bool × List (List Nat × List Nat) := (true,[([],[]),([],[]),([],[]),([2],[2]),([3],[3]),([4],[4]),([5],[5]),([],[]),([7],[7]),([8],[8]),([9],[9]),([10,6],[10]),([0,0,2,3,4,5,6,10,11],[0]),([12,0,2,3,4,5,6,10,11],[12]),([13,6,11,0,2,3,4,5,6,10,11],[6,13]),([1,0,1,2,3,4,5,6,7,8,9,10,11,12,13,14],[1]),([15,0,1,2,3,4,5,6,7,8,9,10,11,12,13,14],[15]),([16,11,14,0,1,2,3,4,5,6,7,8,9,10,11,12,13,14],[11,16])])
def rdy3.B : List Nat := [0,0,0,4,12,28,60,0,128,384,896,2044,4093,8189,16381,32767,65535,131071]
theorem rdy3.tab : rtab .any (opsOf Tryd.f42 3) = rdy3.T := by kernel_rfl
theorem rdy3.bits : waitsOk rdy3.T.2 rdy3.B = true := by kernel_rfl
set_option maxRecDepth 100000 in
set_option maxHeartbeats 4000000 in
theorem sc_ready {base p : Nat} {ok : Nat → Prop} {W : World} {s : Sc} {hd : ByteArray} (h : ScrAt base p ok W s hd) (hb : base ≤ W.heap.size) :
  Calls Tryd.prog 42 #[.pointer (some ⟨p,0,none⟩)] W fun e w' => e = .returned (.bool true) ∧ Stp base p ok W w' s.rdy hd := by
 have hq := run_eql_ptr_nil (tp := 28) (te := 69) W (some ⟨p,0,none⟩) Tryd.underlying28 (j := _) rfl
 have hs := Stp.start h
 obtain ⟨rv,⟨c0,c1,_⟩,_⟩ := h.cells
 go_enter Tryd.func42,Tryd.ntmps42
 go_upto_region 3 with (fail)
 refine start_ (n := 18) (S := fun w' => w'.cell? ⟨p,0,none⟩ = some (.int .i64 s.w) ∧ w'.cell? ⟨p,1,none⟩ = some (.int .i64 s.h)) (ds := [14,17]) #[false,false,false,false,false,false,false,false,false,false,false,false,false,false,false,false,false,false] (by kernel_rfl) rfl rfl ⟨c0,c1⟩ (fun hHeld => ?_);refine with_tabW rdy3.tab rdy3.bits (fun HT_ HW_ => ?_)
 have hs0 := hs.more (below_drew (Below.refl _ _)) hb
 generalize W.drew = w0 at hs0 hHeld ⊢
 clear hs
 refine pure_ (i := 0) (N := (some 5)) (v := ?_) (a' := ?_) #[true,false,false,false,false,false,false,false,false,false,false,false,false,false,false,false,false,false] rfl rfl (any_of HT_.out (by kernel_rfl)) (fun _ _ _ h => h) (Or.inl ⟨by rfl,?_⟩) ?_ ?_
 rotate_left
 ·intro w'
  go_simp
  with_reducible rfl
 rotate_left
 ·simp only [Act.put,List.setIfInBounds_toArray,List.set_cons_zero,List.set_cons_succ,i64_w,i32_w]
  rfl
 refine pure_ (i := 1) (N := (some 6)) (v := ?_) (a' := ?_) #[true,true,false,false,false,false,false,false,false,false,false,false,false,false,false,false,false,false] rfl rfl (any_of HT_.out (by kernel_rfl)) (fun _ _ _ h => h) (Or.inl ⟨by rfl,?_⟩) ?_ ?_
 rotate_left
 ·intro w'
  go_simp
  with_reducible rfl
 rotate_left
 ·simp only [Act.put,List.setIfInBounds_toArray,List.set_cons_zero,List.set_cons_succ,i64_w,i32_w]
  rfl
 refine pure_ (i := 2) (N := (some 7)) (v := ?_) (a' := ?_) #[true,true,true,false,false,false,false,false,false,false,false,false,false,false,false,false,false,false] rfl rfl (any_of HT_.out (by kernel_rfl)) (fun _ _ _ h => h) (Or.inl ⟨by rfl,?_⟩) ?_ ?_
 rotate_left
 ·intro w'
  go_simp
  with_reducible rfl
 rotate_left
 ·simp only [Act.put,List.setIfInBounds_toArray,List.set_cons_zero,List.set_cons_succ,i64_w,i32_w]
  rfl
 refine pure_ (i := 3) (N := (some 8)) (v := ?_) (a' := ?_) #[true,true,true,true,false,false,false,false,false,false,false,false,false,false,false,false,false,false] rfl rfl (any_of HT_.out (by kernel_rfl)) (fun _ _ _ h => h) (Or.inl ⟨by rfl,?_⟩) ?_ ?_
 rotate_left
 ·intro w'
  go_simp
  with_reducible rfl
 rotate_left
 ·simp only [Act.put,List.setIfInBounds_toArray,List.set_cons_zero,List.set_cons_succ,i64_w,i32_w]
  rfl
 refine pure_ (i := 4) (N := (some 9)) (v := ?_) (a' := ?_) #[true,true,true,true,true,false,false,false,false,false,false,false,false,false,false,false,false,false] rfl rfl (any_of HT_.out (by kernel_rfl)) (fun _ _ _ h => h) (Or.inl ⟨by rfl,?_⟩) ?_ ?_
 rotate_left
 ·intro w'
  go_simp
  with_reducible rfl
 rotate_left
 ·simp only [Act.put,List.setIfInBounds_toArray,List.set_cons_zero,List.set_cons_succ,i64_w,i32_w]
  rfl
 refine take_ (i := 5) (N := (some 10)) (v := ?_) (a' := ?_) #[true,true,true,true,true,true,false,false,false,false,false,false,false,false,false,false,false,false] rfl rfl (take_ofW HT_.out HW_.out (by kernel_rfl)) (fun _ _ _ h => h) (Or.inl ⟨by rfl,?_⟩) hHeld ?_ ?_
 rotate_left
 ·rintro w' ⟨s1,s2⟩
  go_simp
  with_reducible rfl
 rotate_left
 ·simp only [Act.put,List.setIfInBounds_toArray,List.set_cons_zero,List.set_cons_succ,i64_w,i32_w]
  rfl
 refine pure_ (i := 7) (N := (some 12)) (v := ?_) (a' := ?_) #[true,true,true,true,true,true,false,true,false,false,false,false,false,false,false,false,false,false] rfl rfl (any_of HT_.out (by kernel_rfl)) (fun _ _ _ h => h) (Or.inl ⟨by rfl,?_⟩) ?_ ?_
 rotate_left
 ·intro w'
  go_simp
  with_reducible rfl
 rotate_left
 ·simp only [Act.put,List.setIfInBounds_toArray,List.set_cons_zero,List.set_cons_succ,i64_w,i32_w]
  rfl
 refine pure_ (i := 8) (N := (some 13)) (v := ?_) (a' := ?_) #[true,true,true,true,true,true,false,true,true,false,false,false,false,false,false,false,false,false] rfl rfl (any_of HT_.out (by kernel_rfl)) (fun _ _ _ h => h) (Or.inl ⟨by rfl,?_⟩) ?_ ?_
 rotate_left
 ·intro w'
  go_simp
  with_reducible rfl
 rotate_left
 ·simp only [Act.put,List.setIfInBounds_toArray,List.set_cons_zero,List.set_cons_succ,i64_w,i32_w]
  rfl
 refine pure_ (i := 9) (N := (some 14)) (v := ?_) (a' := ?_) #[true,true,true,true,true,true,false,true,true,true,false,false,false,false,false,false,false,false] rfl rfl (any_of HT_.out (by kernel_rfl)) (fun _ _ _ h => h) (Or.inl ⟨by rfl,?_⟩) ?_ ?_
 rotate_left
 ·intro w'
  go_simp
  with_reducible rfl
 rotate_left
 ·simp only [Act.put,List.setIfInBounds_toArray,List.set_cons_zero,List.set_cons_succ,i64_w,i32_w]
  rfl
 refine take_ (i := 10) (N := (some 15)) (v := ?_) (a' := ?_) #[true,true,true,true,true,true,false,true,true,true,true,false,false,false,false,false,false,false] rfl rfl (take_ofW HT_.out HW_.out (by kernel_rfl)) (fun _ _ _ h => h) (Or.inl ⟨by rfl,?_⟩) hHeld ?_ ?_
 rotate_left
 ·rintro w' ⟨s1,s2⟩
  go_simp
  with_reducible rfl
 rotate_left
 ·simp only [Act.put,List.setIfInBounds_toArray,List.set_cons_zero,List.set_cons_succ,i64_w,i32_w]
  rfl
 refine one_ (i := 6) (N := (some 11)) #[true,true,true,true,true,true,true,true,true,true,true,false,false,false,false,false,false,false] rfl rfl (one_of HT_.out (by kernel_rfl)) (by decide) (fun K hK => ?_)
 refine call_ 40 #[.int .i64 s.w] (by rfl) rfl au10 ?_
 refine (screen_counted.calls _ _ _ (cnt_eq s.w)).mono ?_
 rintro e w1 ⟨rfl,hb1⟩
 have hs1 := hs0.more hb1 hb
 refine ⟨_,rfl,hK.out _ _ ⟨cell_below hHeld.1 hb1,cell_below hHeld.2 hb1⟩ (fun hHeld => ?_)⟩
 clear hK K hs0 hb1
 refine norm_ (a' := ?_) ?_ ?_
 rotate_left
 ·show Act.put _ (some 11) _ = _
  simp only [Act.put,List.setIfInBounds_toArray,List.set_cons_zero,List.set_cons_succ,i64_w,i32_w]
  rfl
 refine one_ (i := 11) (N := (some 16)) #[true,true,true,true,true,true,true,true,true,true,true,true,false,false,false,false,false,false] rfl rfl (one_of HT_.out (by kernel_rfl)) (by decide) (fun K hK => ?_)
 refine call_ 40 #[.int .i64 s.h] (by rfl) rfl au10 ?_
 refine (screen_counted.calls _ _ _ (cnt_eq s.h)).mono ?_
 rintro e w2 ⟨rfl,hb2⟩
 have hs2 := hs1.more hb2 hb
 refine ⟨_,rfl,hK.out _ _ ⟨cell_below hHeld.1 hb2,cell_below hHeld.2 hb2⟩ (fun hHeld => ?_)⟩
 clear hK K hs1 hb2
 have c0 := hHeld.1
 have g0 := hs2.at_.frozen 0
 refine norm_ (a' := ?_) ?_ ?_
 rotate_left
 ·show Act.put _ (some 16) _ = _
  simp only [Act.put,List.setIfInBounds_toArray,List.set_cons_zero,List.set_cons_succ,i64_w,i32_w]
  rfl
 refine pure_ (i := 12) (N := (some 17)) (v := ?_) (a' := ?_) #[true,true,true,true,true,true,true,true,true,true,true,true,true,false,false,false,false,false] rfl rfl (any_of HT_.out (by kernel_rfl)) (fun _ _ _ h => h) (Or.inl ⟨by rfl,?_⟩) ?_ ?_
 rotate_left
 ·intro w'
  go_simp
  with_reducible rfl
 rotate_left
 ·simp only [Act.put,List.setIfInBounds_toArray,List.set_cons_zero,List.set_cons_succ,i64_w,i32_w]
  rfl
 refine pure_ (i := 13) (N := (some 18)) (v := ?_) (a' := ?_) #[true,true,true,true,true,true,true,true,true,true,true,true,true,true,false,false,false,false] rfl rfl (any_of HT_.out (by kernel_rfl)) (fun _ _ _ h => h) (Or.inl ⟨by rfl,?_⟩) ?_ ?_
 rotate_left
 ·intro w'
  go_simp
  with_reducible rfl
 rotate_left
 ·simp only [Act.put,List.setIfInBounds_toArray,List.set_cons_zero,List.set_cons_succ,i64_w,i32_w]
  rfl
 refine last_ (i := 14) (N := none) #[true,true,true,true,true,true,true,true,true,true,true,true,true,true,true,false,false,false] rfl rfl (one_of HT_.out (by kernel_rfl)) (by decide) (fun K hK => ?_)
 refine skip_ (w1 := ?_) (by rfl) rfl ?_ ?_
 rotate_left
 ·go_simp
  rfl
 refine hK.out _ _ ?_
 clear hK K
 have hs3 := hs2.put (s' := { s with w := cntN s.w }) 0 (.int .i64 (cntN s.w : Nat)) rfl (fun _ => rfl)
 obtain ⟨_,⟨_,c1,_⟩,_⟩ := hs3.at_.cells
 generalize w2.setCell ⟨p,0,none⟩ (.int .i64 (cntN s.w : Nat)) = w3 at hs3 c1 ⊢
 clear hs2 c0 g0 hHeld
 have g1 := hs3.at_.frozen 1
 refine pure_ (i := 15) (N := (some 19)) (v := ?_) (a' := ?_) #[true,true,true,true,true,true,true,true,true,true,true,true,true,true,true,true,false,false] rfl rfl (any_of HT_.out (by kernel_rfl)) (fun _ _ _ h => h) (Or.inl ⟨by rfl,?_⟩) ?_ ?_
 rotate_left
 ·intro w'
  go_simp
  with_reducible rfl
 rotate_left
 ·simp only [Act.put,List.setIfInBounds_toArray,List.set_cons_zero,List.set_cons_succ,i64_w,i32_w]
  rfl
 refine pure_ (i := 16) (N := (some 20)) (v := ?_) (a' := ?_) #[true,true,true,true,true,true,true,true,true,true,true,true,true,true,true,true,true,false] rfl rfl (any_of HT_.out (by kernel_rfl)) (fun _ _ _ h => h) (Or.inl ⟨by rfl,?_⟩) ?_ ?_
 rotate_left
 ·intro w'
  go_simp
  with_reducible rfl
 rotate_left
 ·simp only [Act.put,List.setIfInBounds_toArray,List.set_cons_zero,List.set_cons_succ,i64_w,i32_w]
  rfl
 refine last_ (i := 17) (N := none) #[true,true,true,true,true,true,true,true,true,true,true,true,true,true,true,true,true,true] rfl rfl (one_of HT_.out (by kernel_rfl)) (by decide) (fun K hK => ?_)
 refine skip_ (w1 := ?_) (by rfl) rfl ?_ ?_
 rotate_left
 ·go_simp
  rfl
 refine hK.out _ _ ?_
 clear hK K
 have hs4 := hs3.put (s' := s.rdy) 1 (.int .i64 (cntN s.h : Nat)) rfl (fun _ => rfl)
 generalize w3.setCell ⟨p,1,none⟩ (.int .i64 (cntN s.h : Nat)) = w4 at hs4 ⊢
 clear hs3 c1 g1
 refine done_ (done_of HT_.out (by kernel_rfl)) ?_
 clear HT_ HW_
 go_wp2
 go_ret
 exact ⟨rfl,hs4⟩
set_option maxRecDepth 100000 in
set_option maxHeartbeats 4000000 in
theorem sc_full {base p : Nat} {ok : Nat → Prop} {W : World} {s : Sc} {hd : ByteArray} (h : ScrAt base p ok W s hd) :
  Calls Tryd.prog 25 #[.pointer (some ⟨p,0,none⟩)] W fun e w' => e = .returned (.bool s.full) ∧ Below W.heap.size W w' := by
 have hq := run_eql_ptr_nil (tp := 28) (te := 69) W (some ⟨p,0,none⟩) Tryd.underlying28 (j := _) rfl
 obtain ⟨rv,⟨c0,c1,c2,c3,c4,c5,c6,c7,c8,c9⟩,_⟩ := h.cells
 go_enter Tryd.func25,Tryd.ntmps25
 go_wp2
 go_ret
 exact ⟨rfl,Below.refl _ _⟩
set_option maxRecDepth 100000 in
set_option maxHeartbeats 4000000 in
theorem sc_cursor {base p : Nat} {ok : Nat → Prop} {W : World} {s : Sc} {hd : ByteArray} (h : ScrAt base p ok W s hd) :
  Calls Tryd.prog 26 #[.pointer (some ⟨p,0,none⟩)] W fun e w' => e = .returned (.agg #[.int .i64 s.r,.int .i64 s.c]) ∧ Below W.heap.size W w' := by
 have hq := run_eql_ptr_nil (tp := 28) (te := 69) W (some ⟨p,0,none⟩) Tryd.underlying28 (j := _) rfl
 obtain ⟨rv,⟨c0,c1,c2,c3,c4,c5,c6,c7,c8,c9⟩,_⟩ := h.cells
 go_enter Tryd.func26,Tryd.ntmps26
 have d3 : ∀ o,(W.alloc o).cell? ⟨p,3,none⟩ = some (.int .i64 s.r) := fun o => cell_below c3 (below_alloc (Below.refl _ _) o)
 have d4 : ∀ o,(W.alloc o).cell? ⟨p,4,none⟩ = some (.int .i64 s.c) := fun o => cell_below c4 (below_alloc (Below.refl _ _) o)
 go_wp2
 refine bodyPost_ret (results_cell_row rfl _ _ W.heap.size 24 #[.int .i64 s.r,.int .i64 s.c] (0,0) _ rfl (World.alloc_heap_new W _) Tryd.underlying24 rfl (by kernel_rfl)) rfl ?_
 exact ⟨rfl,below_alloc (Below.refl _ _) _⟩
end Go.Proofs.YtgdpnmikcopkmaaDoor.U
end
section
namespace Go.Proofs.YtgdpnmikcopkmaaDoor.U
open Go.RowKit Go.Proofs.YtgdpnmikcopkmaaDoorW.PrintWords Go.Proofs.YtgdpnmikcopkmaaDoorW.PrintLast Go.Proofs.YtgdpnmikcopkmaaDoorW.PrintMore
attribute [local go_sem] max2_int min2_int max_two min_two max_three min_three max_four min_four   -- for this text's walks alone
set_option linter.unusedVariables false
set_option linter.unusedSimpArgs false
def screen_blank.f  : Option (ByteArray × Int) := some ((⟨#[32]⟩ : ByteArray),1)
set_option maxHeartbeats 8000000 in
set_option maxRecDepth 100000 in
theorem screen_blank.calls  (r1 : ByteArray) (r2 : Int) (w : World) (h : screen_blank.f  = some (r1,r2)) :
  Calls Tryd.prog 55 #[] w fun e w' => e = .returned (.agg #[.string r1,.int .i64 r2]) ∧ Below w.heap.size w w' := by
 have hu38 := Tryd.underlying38
 have HB := Aside0.mk (Below.refl w.heap.size w)
 have H : (some ((⟨#[32]⟩ : ByteArray),1)) = some (r1,r2) := h
 clear h
 simp only [Option.some.injEq,Prod.mk.injEq] at H
 obtain ⟨rfl,rfl⟩ := H
 go_enter Tryd.func55,Tryd.ntmps55
 go_wp2_with (first | ((with_reducible refine gate_dst (N := 0) rfl ?_);refine box_event ?hg (N := 0) ?hd (cs := #[.string (⟨#[]⟩ : ByteArray),.int .i64 0]) (t := 38) ?hr ?_;(case hd => rfl);(case hg => rfl);(case hr => first | (go_simp;done) | (go_simp;rfl));intro gb126 hg w1 hbox hb;have n0_ := Aside0.mk (below_step au0 hb);have n1_ := Aside0.mk (hbox);have n2_ := Aside0.mk ((by rw [hg];exact (below_size au0) : w.heap.size ≤ gb126));have n3_ := Aside0.mk ((by rw [hg];exact (below_size au0) : w.heap.size ≤ gb126));clear HB;have HB := n0_;have BK126 := n1_;have GW126 := n2_;have GE126 := n3_;clear n0_ n1_ n2_ n3_;clear hb hbox hg;have hcz2_0 : w1.cell? ⟨gb126,0,none⟩ = some (.string (⟨#[]⟩ : ByteArray)) := (blk_cell BK126.out 0).trans rfl;have hcz2_1 : w1.cell? ⟨gb126,1,none⟩ = some (.int .i64 0) := (blk_cell BK126.out 1).trans rfl;have hfz2_0 := blk_frozen BK126.out 0;have hfz2_1 := blk_frozen BK126.out 1))
 refine bodyPost_ret (results_cell_row rfl _ _ gb126 38 #[.string (⟨#[32]⟩ : ByteArray),.int .i64 1] (0,0) _ rfl (by (with_reducible repeat (first | refine blk_drewN ?_ _ | refine blk_drew ?_ | refine blk_alloc ?_ _));refine blk_put (cs := #[.string (⟨#[32]⟩ : ByteArray),.int .i64 0]) ?_ 1 _ rfl;(with_reducible repeat (first | refine blk_drewN ?_ _ | refine blk_drew ?_ | refine blk_alloc ?_ _));refine blk_put (cs := #[.string (⟨#[]⟩ : ByteArray),.int .i64 0]) ?_ 0 _ rfl;(with_reducible repeat (first | refine blk_drewN ?_ _ | refine blk_drew ?_ | refine blk_alloc ?_ _));exact BK126.out) Tryd.underlying38 rfl (by kernel_rfl)) rfl ?_
 exact ⟨au2,by repeat (first | (with_reducible first | exact HB.out | apply below_alloc | apply pw_below_drewN | apply below_drew1 | refine below_set ?_ GE126.out) | exact HB.out)⟩
end Go.Proofs.YtgdpnmikcopkmaaDoor.U
end
section
namespace Go.Proofs.YtgdpnmikcopkmaaDoor.U
open Go.RowKit Go.Proofs.YtgdpnmikcopkmaaDoor.Pu Go.Proofs.YtgdpnmikcopkmaaDoorW.PrintWords Go.Proofs.YtgdpnmikcopkmaaDoorW.PrintLast Go.Proofs.YtgdpnmikcopkmaaDoorW.PrintMore
set_option linter.unusedVariables false
set_option linter.unusedSimpArgs false
abbrev RowAt (base : Nat) (ok : Nat → Prop) (W : World) (v : Value) (row : List Cl) : Prop := Kd.R k38 38 W base ok v row
section
variable {base g n cap : Nat} {ok : Nat → Prop} {W : World} {row : List Cl}
theorem row_cells (h : RowAt base ok W (.slice (some ⟨g,0,none⟩) n cap) row) (i : Nat) (hi : i < row.length) : W.cell? ⟨g,i * 2,none⟩ = some (.string (gC row i).f0) ∧ W.cell? ⟨g,i * 2 + 1,none⟩ = some (.int .i64 (gC row i).f1) ∧ W.frozen? ⟨g,i * 2,none⟩ = false ∧ W.frozen? ⟨g,i * 2 + 1,none⟩ = false := by
 have hn := (Kd.R_reads' h).1
 obtain ⟨c,hcl,hM,hcc,hf⟩ := Kd.R_elem h noC (i : Int) (by omega) (by omega)
 rw [Int.toNat_natCast] at hM hcc hf
 have hM' : k38.M W base (fun k => ok k ∧ k ≠ g) (gC row i) c := hM
 obtain rfl := k38_openM hM'
 exact ⟨hcc 0 _ rfl,hcc 1 _ rfl,hf 0,hf 1⟩
theorem row_put (h : RowAt base ok W (.slice (some ⟨g,0,none⟩) n cap) row) (i : Nat) (hi : i < row.length) (x : Cl) : RowAt base ok ((W.setCell ⟨g,i * 2,none⟩ (.string x.f0)).setCell ⟨g,i * 2 + 1,none⟩ (.int .i64 x.f1)) (.slice (some ⟨g,0,none⟩) n cap) (row.set i x) := by
 have hn := (Kd.R_reads' h).1
 obtain ⟨c,hcl,hM,hcc,hf⟩ := Kd.R_elem h noC (i : Int) (by omega) (by omega)
 have hc2 : c.length = 2 := hcl
 have hh := (Kd.R_seg h (i : Int) (by omega) (by omega) (seg := [.string x.f0,.int .i64 x.f1]) (j := 0) (okp := fun _ => False) hcl hcc (Nat.le_refl 2) (x' := x) (by
  rw [List.take_zero,List.nil_append,List.drop_eq_nil_of_le (by rw [hc2];exact Nat.le_refl _),List.append_nil]
  exact k38_mkM _ _ _ x) (fun _ hk => hk.elim)).1
 rw [Int.toNat_natCast] at hh
 exact hh
end
theorem kept_put {base g : Nat} {W w : World} (i : Nat) (u v : Value) (hg : base ≤ g) (hB : Below base W w) (hK : Kept W w (fun k => k = g)) : Below base W ((w.setCell ⟨g,i * 2,none⟩ u).setCell ⟨g,i * 2 + 1,none⟩ v) ∧ Kept W ((w.setCell ⟨g,i * 2,none⟩ u).setCell ⟨g,i * 2 + 1,none⟩ v) (fun k => k = g) :=
 ⟨(hB.setCell (p := ⟨g,i * 2,none⟩) hg u).setCell (p := ⟨g,i * 2 + 1,none⟩) hg v,(hK.setCell (p := ⟨g,i * 2,none⟩) (.inl rfl) u).setCell (p := ⟨g,i * 2 + 1,none⟩) (.inl rfl) v⟩
theorem wrapN {x : Int} (h : -1099511627776 ≤ x) (h2 : x ≤ 1099511627776) : IntKind.i64.wrap x = x := (i64_w _).trans (by unfold wrap64;omega)
theorem blank_eq : screen_blank.f = some (blC.f0,blC.f1) := rfl
theorem gC_set (row : List Cl) (i j : Nat) (x : Cl) (h : i ≠ j) : gC (row.set i x) j = gC row j := by
 unfold gC
 rw [List.getD_eq_getElem?_getD,List.getD_eq_getElem?_getD,List.getElem?_set_ne h]
theorem clrH_left (row : List Cl) (col : Nat) (hc : col < row.length) (hz : (gC row col).f1 = 0) (hp : 0 < col) : clrH row col = row.set (col - 1) blC := by
 unfold clrH
 rw [if_neg (by omega)]
 simp only [if_pos (show (gC row col).f1 = 0 ∧ 0 < col from ⟨hz,hp⟩)]
 rw [if_neg]
 intro h
 rw [gC_set row _ _ _ (by omega),hz] at h
 exact absurd h.1 (by decide)
theorem clrH_none (row : List Cl) (col : Nat) (hc : col < row.length) (hz : (gC row col).f1 = 0 → col = 0) (h2 : (gC row col).f1 = 2 → row.length ≤ col + 1) : clrH row col = row := by
 unfold clrH
 rw [if_neg (by omega)]
 simp only [if_neg (show ¬ ((gC row col).f1 = 0 ∧ 0 < col) from fun h => by have := hz h.1;omega)]
 rw [if_neg (fun h => by have := h2 h.1;omega)]
theorem clrH_right (row : List Cl) (col : Nat) (hc : col < row.length) (hz : (gC row col).f1 = 2) (hp : col + 1 < row.length) : clrH row col = row.set (col + 1) blC := by
 unfold clrH
 rw [if_neg (by omega)]
 simp only [if_neg (show ¬ ((gC row col).f1 = 0 ∧ 0 < col) from fun h => by have := h.1;omega)]
 rw [if_pos ⟨hz,hp⟩]
set_option maxRecDepth 100000 in
set_option maxHeartbeats 4000000 in
theorem clear_half {base g cap : Nat} {ok : Nat → Prop} {W : World} {row : List Cl} {col : Nat} (hR : RowAt base ok W (.slice (some ⟨g,0,none⟩) row.length cap) row) (hb : base ≤ W.heap.size) (hl : row.length ≤ 1099511627776) (hc : col < row.length) :
  Calls Tryd.prog 86 #[.slice (some ⟨g,0,none⟩) row.length cap,.int .i64 col] W fun e w' => e = .returned (.tuple #[]) ∧ RowAt base ok w' (.slice (some ⟨g,0,none⟩) row.length cap) (clrH row col) ∧ Below base W w' ∧ Kept W w' (fun k => k = g) := by
 have hg : base ≤ g := Kd.R_base hR g rfl
 have hcap := (Kd.R_reads' hR).2.1
 obtain ⟨c0,c1,_,_⟩ := row_cells hR col hc
 have hlt : (col : Int) < (row.length : Int) := by omega
 have hge := eq_false (show ¬ (row.length : Int) ≤ (col : Int) by omega)
 by_cases hz : (gC row col).f1 = 0
 ·by_cases hp : 0 < col
  ·have hc0 := clrH_left row col hc hz hp
   obtain ⟨m,rfl⟩ : ∃ m,col = m + 1 := ⟨col - 1,by omega⟩
   have hH := Lib.hid hc0
   clear hc0
   have hw : IntKind.i64.wrap (((m + 1 : Nat) : Int) - 1) = (m : Int) := (wrapN (by omega) (by omega)).trans (by omega)
   have hp' : (0 : Int) < ((m + 1 : Nat) : Int) := by omega
   go_enter Tryd.func86,Tryd.ntmps86
   go_upto_region 1 with (fail)
   go_upto_region 3 with (go_at_call 55;refine (screen_blank.calls _ _ _ blank_eq).mono ?_;rintro e w1 ⟨rfl,hb1⟩;have hR1 := Kd.R_below hR hb1;obtain ⟨d0,d1,f0,f1⟩ := row_cells hR1 m (by omega))
   have hR2 := row_put hR1 m (by omega) blC
   obtain ⟨hB2,hK2⟩ := kept_put m (.string blC.f0) (.int .i64 blC.f1) hg (hb1.mono hb) (Kept.of_below hb1 (fun k => k = g))
   generalize (w1.setCell ⟨g,m * 2,none⟩ (.string blC.f0)).setCell ⟨g,m * 2 + 1,none⟩ (.int .i64 blC.f1) = w2 at hR2 hB2 hK2 ⊢
   clear c0 c1 d0 d1 f0 f1 hR1 hb1
   obtain ⟨c0,c1,_,_⟩ := row_cells hR2 (m + 1) (by rw [List.length_set];exact hc)
   rw [gC_set _ _ _ _ (by omega)] at c0 c1
   go_wp2
   refine bodyPost_end (results_none rfl _ _ _) rfl ?_
   exact ⟨rfl,by rw [hH.out];exact hR2,hB2,hK2⟩
  ·have hp' := eq_false (show ¬ (0 : Int) < (col : Int) by omega)
   have hH := Lib.hid (clrH_none row col hc (fun _ => by omega) (fun h => by rw [hz] at h;exact absurd h (by decide)))
   have hp2 := eq_false hp
   have hp3 : decide (0 < col) = false := decide_eq_false hp
   go_enter Tryd.func86,Tryd.ntmps86
   go_wp2
   refine bodyPost_end (results_none rfl _ _ _) rfl ?_
   exact ⟨rfl,by rw [hH.out];exact hR,Below.refl _ _,Kept.refl _ _⟩
 ·have hz' := eq_false hz
  by_cases h2 : (gC row col).f1 = 2
  ·have hw : IntKind.i64.wrap ((col : Int) + 1) = ((col + 1 : Nat) : Int) := (wrapN (by omega) (by omega)).trans (by omega)
   by_cases hp : col + 1 < row.length
   ·have hp' : ((col + 1 : Nat) : Int) < (row.length : Int) := by omega
    have hH := Lib.hid (clrH_right row col hc h2 hp)
    go_enter Tryd.func86,Tryd.ntmps86
    go_upto_region 4 with (fail)
    go_wp2_with (go_at_call 55;refine (screen_blank.calls _ _ _ blank_eq).mono ?_;rintro e w1 ⟨rfl,hb1⟩;have hR1 := Kd.R_below hR hb1;obtain ⟨d0,d1,f0,f1⟩ := row_cells hR1 (col + 1) (by omega))
    have hR2 := row_put hR1 (col + 1) (by omega) blC
    obtain ⟨hB2,hK2⟩ := kept_put (col + 1) (.string blC.f0) (.int .i64 blC.f1) hg (hb1.mono hb) (Kept.of_below hb1 (fun k => k = g))
    refine bodyPost_end (results_none rfl _ _ _) rfl ?_
    exact ⟨rfl,by rw [hH.out];exact hR2,hB2,hK2⟩
   ·have hp' := eq_false (show ¬ ((col + 1 : Nat) : Int) < (row.length : Int) by omega)
    have hH := Lib.hid (clrH_none row col hc (fun h => absurd h hz) (fun _ => by omega))
    go_enter Tryd.func86,Tryd.ntmps86
    go_wp2
    refine bodyPost_end (results_none rfl _ _ _) rfl ?_
    exact ⟨rfl,by rw [hH.out];exact hR,Below.refl _ _,Kept.refl _ _⟩
  ·have h2' := eq_false h2
   have hH := Lib.hid (clrH_none row col hc (fun h => absurd h hz) (fun h => absurd h h2))
   go_enter Tryd.func86,Tryd.ntmps86
   go_wp2
   refine bodyPost_end (results_none rfl _ _ _) rfl ?_
   exact ⟨rfl,by rw [hH.out];exact hR,Below.refl _ _,Kept.refl _ _⟩
end Go.Proofs.YtgdpnmikcopkmaaDoor.U
end
section
namespace Go.Proofs.YtgdpnmikcopkmaaDoor.U
open Go.RowKit Go.Proofs.YtgdpnmikcopkmaaDoor.Pu Go.Proofs.YtgdpnmikcopkmaaDoorW.PrintWords Go.Proofs.YtgdpnmikcopkmaaDoorW.PrintLast Go.Proofs.YtgdpnmikcopkmaaDoorW.PrintMore
set_option linter.unusedVariables false
set_option linter.unusedSimpArgs false
theorem no_row (W : World) (base : Nat) (hb : base ≤ W.heap.size) : Kd.R k38 38 (W.alloc (.cells #[] 38 (0,0))) base (fun _ => True) (.slice (some ⟨W.heap.size,0,none⟩) 0 0) [] := by
 refine ⟨fun _ _ => trivial,[],?_,Reps.none _ _⟩
 have h2 := World.ownsRow_lit (base := base) (e := 38) (size := 2) W #[] 0 hb (by decide) rfl
 exact (by simpa using h2 : (W.alloc (.cells #[] 38 (0,0))).ownsRow base 38 2 (.slice (some ⟨W.heap.size,0,none⟩) 0 0) 0 [])
theorem no_rows (f : Nat → Nat) (W : World) (base : Nat) (ok : Nat → Prop) (hk : ok W.heap.size) (hb : base ≤ W.heap.size) : (Kd.tag f kRow).R 36 (W.alloc (.cells #[] 36 (0,0))) base ok (.slice (some ⟨W.heap.size,0,none⟩) 0 0) [] := by
 refine ⟨fun k h => by simp [Value.ownBlock] at h;subst h;exact hk,[],?_,Reps.none _ _⟩
 have h2 := World.ownsRow_lit (base := base) (e := 36) (size := 1) W #[] 0 hb (by decide) rfl
 exact (by simpa using h2 : (W.alloc (.cells #[] 36 (0,0))).ownsRow base 36 1 (.slice (some ⟨W.heap.size,0,none⟩) 0 0) 0 [])
set_option maxRecDepth 100000 in
set_option maxHeartbeats 4000000 in
theorem clone_any (A : Option Addr) (n c : Nat) (xs : List Cl) (W : World) (hC : Kd.C k38 W A n xs) (hl : n ≤ 1099511627776) :
  Calls Tryd.prog 49 #[.slice A n c] W fun e w' => ∃ v',e = .returned v' ∧ Kd.R k38 38 w' W.heap.size (fun _ => True) v' xs ∧ Below W.heap.size W w' := by
 have hn : xs.length = n := hC.1
 have q22 : ∀ (w : World) (a : Option Addr) (n c n' c' : Nat),(binOp .eql 36 (.slice a n c) (.slice none n' c')).run Tryd.prog w = .ok (.bool a.isNone) w := fun w a n c n' c' => Lib.run_eql_slice_nil w _ _ a n c n' c' Tryd.underlying36
 cases A with
 | none =>
  have h0 : n = 0 := by
   rcases Nat.eq_zero_or_pos n with h0 | h0
   ·exact h0
   ·obtain ⟨ad,h,_⟩ := hC.2.2 h0
    cases h
  subst h0
  have hx : xs = [] := List.eq_nil_of_length_eq_zero hn
  subst hx
  go_enter Tryd.func49,Tryd.ntmps49
  go_wp2
  go_ret
  exact ⟨_,rfl,Kd.R_nil _ _ _ _ _,Below.refl _ _⟩
 | some ad =>
  go_enter Tryd.func49,Tryd.ntmps49
  go_wp2_with ((with_reducible refine gate_builtin (b := .append) (xs := #[.tmp 5,.tmp 6]) rfl ?_);at_builtin;(refine Kd.R_append_rows k38 (Rr := k38.K _) (w0 := W) W.heap.size rfl (.tmp 5) (.tmp 6) 36 38 (.agg #[.string ⟨#[]⟩,.int .i64 0]) 24 rfl Tryd.underlying36 info38 rfl (by decide) (by decide) (.slice (some ⟨W.heap.size,0,none⟩) 0 0) [] xs (some ad) n c (fun _ => True) (fun _ => False) rfl rfl (no_row W W.heap.size (Nat.le_refl _)) (Kd.C_below hC (below_alloc (Below.refl _ _) _)) (fun x cs h => by rw [k38_open h];exact k38_mkM _ _ _ x) (fun _ hk => hk.elim) (fun _ _ => trivial) (below_alloc (Below.refl _ _) _) (by rw [World.size_alloc];omega) (by simp;omega) ?_;intro v1 w1 hR1 hB1 hg1 hat1))
  go_ret
  exact ⟨_,rfl,hR1,hB1⟩
/-- The rows behind the first,as they are read. -/
theorem tail_reads {base g n cap : Nat} {ok : Nat → Prop} {W : World} {rows : List (List Cl)} {f : Nat → Nat} (h : (Kd.tag f kRow).R 36 W base ok (.slice (some ⟨g,0,none⟩) n cap) rows.zipIdx) (A : Option Addr) (hA : 1 < n → A = some ⟨g,1,none⟩) (w : World) (hb : Below W.heap.size W w) :
  ReadsRow ((Kd.tag (fun k => f k - 1) kRow).M w base (fun k => ok k ∧ k < W.heap.size)) 1 w A (n - 1) (rows.drop 1).zipIdx := by
 have hn := (Kd.R_reads' h).1
 have hmx := (Kd.R_reads' h).2.2.2.1
 rw [List.length_zipIdx] at hn hmx
 refine ⟨by rw [List.length_zipIdx,List.length_drop,hn],by omega,fun h0 => ⟨_,hA (by omega),fun j p hj => ?_⟩⟩
 rw [List.getElem?_zipIdx,Nat.zero_add,List.getElem?_drop] at hj
 obtain ⟨q,hq,rfl⟩ := Option.map_eq_some_iff.1 hj
 have hlt : 1 + j < rows.length := (List.getElem?_eq_some_iff.1 hq).1
 obtain ⟨c,hcl,hM,hcc,_⟩ := Kd.R_elem h (q,0) ((1 + j : Nat) : Int) (by omega) (by omega)
 rw [Int.toNat_natCast] at hM hcc
 have hz : rows.zipIdx.getD (1 + j) (q,0) = (q,1 + j) := by
  rw [List.getD_eq_getElem?_getD,List.getElem?_zipIdx,hq]
  simp
 rw [hz] at hM
 refine ⟨c,hcl,?_,fun i u hu => ?_⟩
 ·have hM' : kRow.M W base (fun k => (ok k ∧ k ≠ g) ∧ f k = 1 + j) q c := hM
  show kRow.M w base (fun k => (ok k ∧ k < W.heap.size) ∧ f k - 1 = j) q c
  have hM2 := kRow.M_mono (fun k hk => (show ((ok k ∧ k < W.heap.size) ∧ f k - 1 = j) from ⟨⟨hk.1.1.1,hk.2.2.1⟩,by have := hk.1.2;omega⟩)) (kRow.M_bound hM')
  exact kRow.M_move (fun k hk => hb.block k hk.1.2) hM2
 ·have hcell := hcc i u hu
  have := cell_below hcell hb
  rw [add_at]
  have e : (⟨g,1 + (j * 1 + i),none⟩ : Addr) = ⟨g,(1 + j) * (Kd.tag f kRow).sz + i,none⟩ := by
   show (⟨g,1 + (j * 1 + i),none⟩ : Addr) = ⟨g,(1 + j) * 1 + i,none⟩
   congr 1
   omega
  rw [e]
  exact this
set_option maxRecDepth 100000 in
set_option maxHeartbeats 4000000 in
theorem clone_rows (A : Option Addr) (hA : A.isSome = true) (n c : Nat) (rows : List (List Cl)) (f : Nat → Nat) (base : Nat) (ok okp : Nat → Prop) (W : World)
  (hC : ∀ o,ReadsRow ((Kd.tag f kRow).M (W.alloc o) base okp) 1 (W.alloc o) A n rows.zipIdx) (hokp : ∀ k,okp k → ok k ∧ k < W.heap.size) (hf : ∀ k,W.heap.size ≤ k → ok k) (hb : base ≤ W.heap.size) (hl : n ≤ 1099511627776) :
  Calls Tryd.prog 103 #[.slice A n c] W fun e w' => ∃ v',e = .returned v' ∧ Kd.S kRow 36 w' base ok v' rows ∧ Below W.heap.size W w' := by
 obtain ⟨ad,rfl⟩ := Option.isSome_iff_exists.1 hA
 have q22 : ∀ (w : World) (a : Option Addr) (n c n' c' : Nat),(binOp .eql 22 (.slice a n c) (.slice none n' c')).run Tryd.prog w = .ok (.bool a.isNone) w := fun w a n c n' c' => Lib.run_eql_slice_nil w _ _ a n c n' c' Tryd.underlying22
 go_enter Tryd.func103,Tryd.ntmps103
 go_wp2_with ((with_reducible refine gate_builtin (b := .append) (xs := #[.tmp 5,.tmp 6]) rfl ?_);at_builtin;(refine Kd.R_append_rows (Kd.tag f kRow) (Rr := (Kd.tag f kRow).M _ base okp) (w0 := W) base rfl (.tmp 5) (.tmp 6) 22 36 (.slice none 0 0) 24 rfl Tryd.underlying22 info36 rfl (show 0 < 1 from by decide) (by decide) (.slice (some ⟨W.heap.size,0,none⟩) 0 0) [] rows.zipIdx (some ad) n c ok okp rfl rfl (no_rows f W base ok (hf _ (Nat.le_refl _)) hb) (hC _) (fun x cs h => h) (fun k hk => ⟨(hokp k hk).1,fun he => by have := (hokp k hk).2;simp [Value.ownBlock] at he;omega⟩) (fun k hk => hf k (by rw [World.size_alloc] at hk;omega)) ((below_alloc (Below.refl _ W) _).mono hb) (by rw [World.size_alloc];omega) (by simp;omega) ?_;intro v1 w1 hR1 hB1 hg1 hat1))
 go_ret
 have hB2 : Below W.heap.size W w1 := Below.grown (below_alloc (Below.refl W.heap.size W) (.cells #[] 36 (0,0))) hg1 (by rw [World.size_alloc];omega) (fun k hk => by simp [Value.ownBlock] at hk;omega)
 exact ⟨_,rfl,⟨f,by rw [List.nil_append] at hR1;exact hR1⟩,hB2⟩
end Go.Proofs.YtgdpnmikcopkmaaDoor.U
end
section
namespace Go.Proofs.YtgdpnmikcopkmaaDoor.U
open Go.RowKit Go.Proofs.YtgdpnmikcopkmaaDoor.Pu Go.Proofs.YtgdpnmikcopkmaaDoorW.PrintWords Go.Proofs.YtgdpnmikcopkmaaDoorW.PrintLast Go.Proofs.YtgdpnmikcopkmaaDoorW.PrintMore
set_option linter.unusedVariables false
set_option linter.unusedSimpArgs false
/-- Is it a blank cell? -/
def isBl (x : Cl) : Bool := (x.f0.toList == ([32] : List UInt8) && (x.f1 == 1))
/-- How many of the first n cells stay. -/
def trimN (row : List Cl) : Nat → Nat
 | 0 => 0
 | n + 1 => if isBl (rd_T38 row (n : Int)) then trimN row n else n + 1
theorem trimN_le (row : List Cl) : ∀ n,trimN row n ≤ n
 | 0 => Nat.le_refl _
 | n + 1 => by unfold trimN;split;exact Nat.le_succ_of_le (trimN_le row n);exact Nat.le_refl _
def trimR (row : List Cl) : List Cl := row.take (trimN row row.length)
theorem cell_eq (d : Nat) (w : World) (x0 y0 : ByteArray) (x1 y1 : Int) :
  (Op.equalIn (d + 2) 38 (.agg #[.string x0,.int .i64 x1]) (.agg #[.string y0,.int .i64 y1])).run Tryd.prog w = .ok (x0.toList == y0.toList && (x1 == y1)) w := by
 refine eqA_of Tryd.underlying38 (by kernel_rfl) ?_
 refine eqf_cons (by rfl) (by go_simp;rfl) (by go_simp;rfl) (by go_simp) ?_
 exact eqf_last (by rfl) (by go_simp;rfl) (by go_simp;rfl) (by go_simp)
attribute [local go_sem high] cell_eq
def trim2.T : Bool × List (List Nat × List Nat) := (true,[([],[]),([0],[0]),([1],[1]),([2],[2]),([2],[2]),([4,2],[2,4]),([3,5,2],[2,3,5]),([6,2],[2,6]),([2,2],[2]),([7,8,2],[2,7,8]),([2,9],[2,9])])
def trim2.B : List Nat := [0,1,3,7,7,23,63,127,7,511,1023]
theorem trim2.tab : rtab .any (opsOf Tryd.f73 2) = trim2.T := by kernel_rfl
theorem trim2.bits : waitsOk trim2.T.2 trim2.B = true := by kernel_rfl
set_option maxRecDepth 100000 in
set_option maxHeartbeats 4000000 in
theorem trimmed_any (A : Option Addr) (n c : Nat) (xs : List Cl) (W : World) (hC : Kd.C k38 W A n xs) (hl : n ≤ 1099511627776) (hc : n ≤ c) (hA : A = none → c = 0) :
  Calls Tryd.prog 73 #[.slice A n c] W fun e w' => e = .returned (.slice A (trimN xs n) c) ∧ Below W.heap.size W w' := by
 have hn : xs.length = n := hC.1
 go_enter Tryd.func73,Tryd.ntmps73
 go_wp2
 go_loopw [3] (fun v3 wr => ∃ (m : Nat),v3 = .int .i64 m ∧ m ≤ n ∧ Hid (trimN xs n = trimN xs m) ∧ Below W.heap.size W wr)
  (fun v _ => (intOf v).toNat)
 case atStart => exact ⟨n,rfl,Nat.le_refl _,Lib.hid rfl,Below.refl _ _⟩
 case round =>
  obtain ⟨m,rfl,hm,hT,hB⟩ := hrel
  cases m with
  | zero =>
   go_upto_region 2 with (fail)
   refine start_ (n := 11) (S := fun w' => True) (ds := []) #[false,false,false,false,false,false,false,false,false,false,false] (by kernel_rfl) rfl rfl trivial (fun hHeld => ?_);refine with_tabW trim2.tab trim2.bits (fun HT_ HW_ => ?_)
   have hB1 := below_drew1 hB
   generalize wr.drew = w1 at hB1 hHeld ⊢
   clear hB
   refine pure_ (i := 0) (N := (some 6)) (v := ?_) (a' := ?_) #[true,false,false,false,false,false,false,false,false,false,false] rfl rfl (any_of HT_.out (by kernel_rfl)) (fun _ _ _ h => h) (Or.inl ⟨by rfl,?_⟩) ?_ ?_
   rotate_left
   ·intro w'
    go_simp
    with_reducible rfl
   rotate_left
   ·simp only [Act.put,List.setIfInBounds_toArray,List.set_cons_zero,List.set_cons_succ,i64_w,i32_w]
    rfl
   refine pure_ (i := 1) (N := (some 7)) (v := ?_) (a' := ?_) #[true,true,false,false,false,false,false,false,false,false,false] rfl rfl (any_of HT_.out (by kernel_rfl)) (fun _ _ _ h => h) (Or.inl ⟨by rfl,?_⟩) ?_ ?_
   rotate_left
   ·intro w'
    go_simp
    with_reducible rfl
   rotate_left
   ·simp only [Act.put,List.setIfInBounds_toArray,List.set_cons_zero,List.set_cons_succ,i64_w,i32_w]
    rfl
   refine pure_ (i := 2) (N := (some 8)) (v := ?_) (a' := ?_) #[true,true,true,false,false,false,false,false,false,false,false] rfl rfl (any_of HT_.out (by kernel_rfl)) (fun _ _ _ h => h) (Or.inl ⟨by rfl,?_⟩) ?_ ?_
   rotate_left
   ·intro w'
    go_simp
    with_reducible rfl
   rotate_left
   ·simp only [Act.put,List.setIfInBounds_toArray,List.set_cons_zero,List.set_cons_succ,i64_w,i32_w]
    rfl
   refine pure_ (i := 3) (N := (some 9)) (v := undef) (a' := ?_) #[true,true,true,true,false,false,false,false,false,false,false] rfl rfl (any_of HT_.out (by kernel_rfl)) (fun _ _ _ h => h) (Or.inr ⟨by rfl,rfl⟩) ?_ ?_
   rotate_left
   ·simp only [Act.put,List.setIfInBounds_toArray,List.set_cons_zero,List.set_cons_succ,i64_w,i32_w]
    rfl
   refine pure_ (i := 4) (N := (some 10)) (v := undef) (a' := ?_) #[true,true,true,true,true,false,false,false,false,false,false] rfl rfl (any_of HT_.out (by kernel_rfl)) (fun _ _ _ h => h) (Or.inr ⟨by rfl,rfl⟩) ?_ ?_
   rotate_left
   ·simp only [Act.put,List.setIfInBounds_toArray,List.set_cons_zero,List.set_cons_succ,i64_w,i32_w]
    rfl
   refine pure_ (i := 5) (N := (some 11)) (v := undef) (a' := ?_) #[true,true,true,true,true,true,false,false,false,false,false] rfl rfl (any_of HT_.out (by kernel_rfl)) (fun _ _ _ h => h) (Or.inr ⟨by rfl,rfl⟩) ?_ ?_
   rotate_left
   ·simp only [Act.put,List.setIfInBounds_toArray,List.set_cons_zero,List.set_cons_succ,i64_w,i32_w]
    rfl
   refine pure_ (i := 6) (N := (some 12)) (v := undef) (a' := ?_) #[true,true,true,true,true,true,true,false,false,false,false] rfl rfl (any_of HT_.out (by kernel_rfl)) (fun _ _ _ h => h) (Or.inr ⟨by rfl,rfl⟩) ?_ ?_
   rotate_left
   ·simp only [Act.put,List.setIfInBounds_toArray,List.set_cons_zero,List.set_cons_succ,i64_w,i32_w]
    rfl
   refine pure_ (i := 7) (N := (some 13)) (v := undef) (a' := ?_) #[true,true,true,true,true,true,true,true,false,false,false] rfl rfl (any_of HT_.out (by kernel_rfl)) (fun _ _ _ h => h) (Or.inr ⟨by rfl,rfl⟩) ?_ ?_
   rotate_left
   ·simp only [Act.put,List.setIfInBounds_toArray,List.set_cons_zero,List.set_cons_succ,i64_w,i32_w]
    rfl
   refine pure_ (i := 8) (N := (some 14)) (v := undef) (a' := ?_) #[true,true,true,true,true,true,true,true,true,false,false] rfl rfl (any_of HT_.out (by kernel_rfl)) (fun _ _ _ h => h) (Or.inr ⟨by rfl,rfl⟩) ?_ ?_
   rotate_left
   ·simp only [Act.put,List.setIfInBounds_toArray,List.set_cons_zero,List.set_cons_succ,i64_w,i32_w]
    rfl
   refine pure_ (i := 9) (N := (some 15)) (v := undef) (a' := ?_) #[true,true,true,true,true,true,true,true,true,true,false] rfl rfl (any_of HT_.out (by kernel_rfl)) (fun _ _ _ h => h) (Or.inr ⟨by rfl,rfl⟩) ?_ ?_
   rotate_left
   ·simp only [Act.put,List.setIfInBounds_toArray,List.set_cons_zero,List.set_cons_succ,i64_w,i32_w]
    rfl
   refine pure_ (i := 10) (N := (some 16)) (v := ?_) (a' := ?_) #[true,true,true,true,true,true,true,true,true,true,true] rfl rfl (any_of HT_.out (by kernel_rfl)) (fun _ _ _ h => h) (Or.inl ⟨by rfl,?_⟩) ?_ ?_
   rotate_left
   ·intro w'
    go_simp
    with_reducible rfl
   rotate_left
   ·simp only [Act.put,List.setIfInBounds_toArray,List.set_cons_zero,List.set_cons_succ,i64_w,i32_w]
    rfl
   refine done_ (done_of HT_.out (by kernel_rfl)) ?_
   clear HT_ HW_
   go_wp2
   go_ret
   exact ⟨by rw [hT.out];rfl,hB1⟩
  | succ m =>
   have hw : IntKind.i64.wrap (((m + 1 : Nat) : Int) - 1) = (m : Int) := (i64_w _).trans (by unfold wrap64;omega)
   have hw2 : wrap64 (m : Int) = (m : Int) := by unfold wrap64;omega
   have hpos := decide_eq_true (show (0 : Int) < ((m + 1 : Nat) : Int) by omega)
   have hlt : (m : Int) < (n : Int) := by omega
   obtain ⟨ad,rfl,c0,c1⟩ := at_T38 (Kd.C_below hC (below_drew1 hB)) (m : Int) (by omega) hlt
   obtain ⟨b,hb⟩ : ∃ b,isBl (rd_T38 xs (m : Int)) = b := ⟨_,rfl⟩
   have hT := Lib.hid (hT.out.trans (by rw [trimN,hb]))
   unfold isBl at hb
   generalize rd_T38 xs (m : Int) = x at c0 c1 hb
   rw [Int.toNat_natCast] at c0 c1
   clear hC hn
   go_upto_region 2 with (fail)
   refine start_ (n := 11) (S := fun w' => w'.cell? (ad.add (m * 2)) = some (.string x.f0) ∧ w'.cell? ⟨(ad.add (m * 2)).block,(ad.add (m * 2)).off + 1,none⟩ = some (.int .i64 x.f1)) (ds := []) #[false,false,false,false,false,false,false,false,false,false,false] (by kernel_rfl) rfl rfl ⟨c0,c1⟩ (fun hHeld => ?_);refine with_tabW trim2.tab trim2.bits (fun HT_ HW_ => ?_)
   have hB1 := below_drew1 hB
   generalize wr.drew = w1 at hB1 c0 c1 hHeld ⊢
   clear hB
   refine pure_ (i := 0) (N := (some 6)) (v := ?_) (a' := ?_) #[true,false,false,false,false,false,false,false,false,false,false] rfl rfl (any_of HT_.out (by kernel_rfl)) (fun _ _ _ h => h) (Or.inl ⟨by rfl,?_⟩) ?_ ?_
   rotate_left
   ·intro w'
    go_simp
    with_reducible rfl
   rotate_left
   ·simp only [Act.put,List.setIfInBounds_toArray,List.set_cons_zero,List.set_cons_succ,i64_w,i32_w]
    rfl
   refine pure_ (i := 1) (N := (some 7)) (v := ?_) (a' := ?_) #[true,true,false,false,false,false,false,false,false,false,false] rfl rfl (any_of HT_.out (by kernel_rfl)) (fun _ _ _ h => h) (Or.inl ⟨by rfl,?_⟩) ?_ ?_
   rotate_left
   ·intro w'
    go_simp
    with_reducible rfl
   rotate_left
   ·simp only [Act.put,List.setIfInBounds_toArray,List.set_cons_zero,List.set_cons_succ,i64_w,i32_w]
    rfl
   refine pure_ (i := 2) (N := (some 8)) (v := ?_) (a' := ?_) #[true,true,true,false,false,false,false,false,false,false,false] rfl rfl (any_of HT_.out (by kernel_rfl)) (fun _ _ _ h => h) (Or.inl ⟨by rfl,?_⟩) ?_ ?_
   rotate_left
   ·intro w'
    go_simp
    with_reducible rfl
   rotate_left
   ·simp only [Act.put,List.setIfInBounds_toArray,List.set_cons_zero,List.set_cons_succ,i64_w,i32_w]
    rfl
   refine pure_ (i := 3) (N := (some 9)) (v := ?_) (a' := ?_) #[true,true,true,true,false,false,false,false,false,false,false] rfl rfl (any_of HT_.out (by kernel_rfl)) (fun _ _ _ h => h) (Or.inl ⟨by rfl,?_⟩) ?_ ?_
   rotate_left
   ·intro w'
    go_simp
    with_reducible rfl
   rotate_left
   ·simp only [Act.put,List.setIfInBounds_toArray,List.set_cons_zero,List.set_cons_succ,i64_w,i32_w]
    rfl
   refine pure_ (i := 4) (N := (some 10)) (v := ?_) (a' := ?_) #[true,true,true,true,true,false,false,false,false,false,false] rfl rfl (any_of HT_.out (by kernel_rfl)) (fun _ _ _ h => h) (Or.inl ⟨by rfl,?_⟩) ?_ ?_
   rotate_left
   ·intro w'
    go_simp
    with_reducible rfl
   rotate_left
   ·simp only [Act.put,List.setIfInBounds_toArray,List.set_cons_zero,List.set_cons_succ,i64_w,i32_w]
    rfl
   refine pure_ (i := 5) (N := (some 11)) (v := ?_) (a' := ?_) #[true,true,true,true,true,true,false,false,false,false,false] rfl rfl (any_of HT_.out (by kernel_rfl)) (fun _ _ _ h => h) (Or.inl ⟨by rfl,?_⟩) ?_ ?_
   rotate_left
   ·intro w'
    go_simp
    with_reducible rfl
   rotate_left
   ·simp only [Act.put,List.setIfInBounds_toArray,List.set_cons_zero,List.set_cons_succ,i64_w,i32_w]
    rfl
   refine pure_ (i := 6) (N := (some 12)) (v := ?_) (a' := ?_) #[true,true,true,true,true,true,true,false,false,false,false] rfl rfl (any_of HT_.out (by kernel_rfl)) (fun _ _ _ h => h) (Or.inl ⟨by rfl,?_⟩) ?_ ?_
   rotate_left
   ·intro w'
    go_simp
    with_reducible rfl
   rotate_left
   ·simp only [Act.put,List.setIfInBounds_toArray,List.set_cons_zero,List.set_cons_succ,i64_w,i32_w]
    rfl
   refine take_ (i := 7) (N := (some 13)) (v := ?_) (a' := ?_) #[true,true,true,true,true,true,true,true,false,false,false] rfl rfl (take_ofW HT_.out HW_.out (by kernel_rfl)) (fun _ _ _ h => h) (Or.inl ⟨by rfl,?_⟩) hHeld ?_ ?_
   rotate_left
   ·rintro w' ⟨s1,s2⟩
    go_simp
    with_reducible rfl
   rotate_left
   ·simp only [Act.put,List.setIfInBounds_toArray,List.set_cons_zero,List.set_cons_succ,i64_w,i32_w]
    rfl
   refine one_ (i := 8) (N := (some 14)) #[true,true,true,true,true,true,true,true,true,false,false] rfl rfl (one_of HT_.out (by kernel_rfl)) (by decide) (fun K hK => ?_)
   refine goes_ Tryd.func55 (by kernel_rfl) rfl #[] (by rfl) rfl rfl (by (try simp only [List.map_toArray,List.map_cons,List.map_nil]);first | done | rfl) ?_
   refine (screen_blank.calls _ _ _ rfl).mono ?_
   rintro e w2 ⟨rfl,hb2⟩
   have hB2 := hB1.trans (hb2.mono hB1.size)
   have s1_ := cell_below hHeld.1 hb2
   have s2_ := cell_below hHeld.2 hb2
   refine ⟨_,rfl,?_⟩
   refine hK.out _ _ ⟨s1_,s2_⟩ (fun hHeld => ?_)
   clear hK K
   refine norm_ (a' := ?_) ?_ ?_
   rotate_left
   ·show Act.put _ (some 14) _ = _
    simp only [Act.put,List.setIfInBounds_toArray,List.set_cons_zero,List.set_cons_succ,i64_w,i32_w]
    rfl
   refine pure_ (i := 9) (N := (some 15)) (v := ?_) (a' := ?_) #[true,true,true,true,true,true,true,true,true,true,false] rfl rfl (any_of HT_.out (by kernel_rfl)) (fun _ _ _ h => h) (Or.inl ⟨by rfl,?_⟩) ?_ ?_
   rotate_left
   ·intro w'
    go_simp
    with_reducible rfl
   rotate_left
   ·simp only [Act.put,List.setIfInBounds_toArray,List.set_cons_zero,List.set_cons_succ,i64_w,i32_w]
    rfl
   refine pure_ (i := 10) (N := (some 16)) (v := ?_) (a' := ?_) #[true,true,true,true,true,true,true,true,true,true,true] rfl rfl (any_of HT_.out (by kernel_rfl)) (fun _ _ _ h => h) (Or.inl ⟨by rfl,?_⟩) ?_ ?_
   rotate_left
   ·intro w'
    go_simp
    with_reducible rfl
   rotate_left
   ·simp only [Act.put,List.setIfInBounds_toArray,List.set_cons_zero,List.set_cons_succ,i64_w,i32_w]
    rfl
   refine done_ (done_of HT_.out (by kernel_rfl)) ?_
   clear HT_ HW_
   cases b
   ·go_wp2
    go_ret
    exact ⟨by rw [hT.out];rfl,hB2⟩
   ·go_wp2
    go_roundw
    case rel => exact ⟨m,by go_num,by omega,hT,hB2⟩
    case measure => (try clear hw);simp [intOf]
end Go.Proofs.YtgdpnmikcopkmaaDoor.U
end
section
namespace Go.Proofs.YtgdpnmikcopkmaaDoor.U
open Go.RowKit Go.Proofs.YtgdpnmikcopkmaaDoor.Pu Go.Proofs.YtgdpnmikcopkmaaDoorW.PrintWords Go.Proofs.YtgdpnmikcopkmaaDoorW.PrintLast Go.Proofs.YtgdpnmikcopkmaaDoorW.PrintMore
set_option linter.unusedVariables false
set_option linter.unusedSimpArgs false
theorem Stp.drewN {base p : Nat} {ok : Nat → Prop} {W w : World} {s : Sc} {hd : ByteArray} (h : Stp base p ok W w s hd) (hb : base ≤ W.heap.size) (n : Nat) : Stp base p ok W (w.drewN n) s hd := h.more (pw_below_drewN (Below.refl _ _) n) hb
/-- What a screen's methods ask for. -/
structure Room (base : Nat) (ok : Nat → Prop) (W : World) : Prop where
 fr : ∀ k,W.heap.size ≤ k → ok k
 bs : base ≤ W.heap.size
theorem Stp.room {base p : Nat} {ok : Nat → Prop} {W w : World} {s : Sc} {hd : ByteArray} (h : Stp base p ok W w s hd) (hr : Room base ok W) : Room base ok w := ⟨h.fresh hr.fr,h.bs hr.bs⟩
/-- A screen but for its rows. -/
structure Hdr (base p : Nat) (ok : Nat → Prop) (W w : World) (s : Sc) (hd : ByteArray) : Prop where
 blk : ∃ rv,w.heap[p]? = some (.cells (scC s rv hd) 69 (0,0))
 low : base ≤ p
 ne : ¬ ok p
 below : Below base W w
 kept : Kept W w (fun k => ok k ∨ k = p)
section
variable {base p : Nat} {ok : Nat → Prop} {W w w1 : World} {s : Sc} {hd : ByteArray}
theorem Stp.hdr (h : Stp base p ok W w s hd) : Hdr base p ok W w s hd := by
 obtain ⟨⟨⟨rv,h1,h2⟩,h3,h4⟩,h5,h6⟩ := h
 exact ⟨⟨rv,h1⟩,h3,h4,h5,h6⟩
theorem Hdr.grown (h : Hdr base p ok W w s hd) {row : Option Nat} (hg : w.grownBy w1 row) (hr : ∀ k,row = some k → ok k ∧ base ≤ k) (hb : base ≤ W.heap.size) : Hdr base p ok W w1 s hd := by
 obtain ⟨⟨rv,h1⟩,h3,h4,h5,h6⟩ := h
 exact ⟨⟨rv,blk_grown h1 hg (fun he => h4 (hr p he.symm).1)⟩,h3,h4,h5.grown hg (Nat.le_trans hb h6.1) (fun k hk => (hr k hk).2),Kept.of_grown hg h6 (fun k hk => .inl (.inl (hr k hk).1))⟩
theorem Hdr.more (h : Hdr base p ok W w s hd) (hb : Below w.heap.size w w1) (hbs : base ≤ W.heap.size) : Hdr base p ok W w1 s hd := by
 obtain ⟨⟨rv,h1⟩,h3,h4,h5,h6⟩ := h
 exact ⟨⟨rv,(hb.block p (blk_lt h1)).trans h1⟩,h3,h4,h5.trans (hb.mono (Nat.le_trans hbs h6.1)),h6.below hb⟩
theorem Hdr.cells (h : Hdr base p ok W w s hd) : ∃ rv,(w.cell? ⟨p,0,none⟩ = some (.int .i64 s.w) ∧ w.cell? ⟨p,1,none⟩ = some (.int .i64 s.h) ∧ w.cell? ⟨p,2,none⟩ = some rv ∧ w.cell? ⟨p,3,none⟩ = some (.int .i64 s.r) ∧ w.cell? ⟨p,4,none⟩ = some (.int .i64 s.c) ∧ w.cell? ⟨p,5,none⟩ = some (.bool s.full) ∧ w.cell? ⟨p,6,none⟩ = some (.int .i64 s.lr) ∧ w.cell? ⟨p,7,none⟩ = some (.int .i64 s.lc) ∧ w.cell? ⟨p,8,none⟩ = some (.bool s.marks) ∧ w.cell? ⟨p,9,none⟩ = some (.string hd)) := by
 obtain ⟨⟨rv,h1⟩,_⟩ := h
 exact ⟨rv,sc_cells h1⟩
theorem Hdr.frozen (h : Hdr base p ok W w s hd) (j : Nat) : w.frozen? ⟨p,j,none⟩ = false := by
 obtain ⟨⟨rv,h1⟩,_⟩ := h
 exact blk_frozen h1 j
theorem Hdr.rows (h : Hdr base p ok W w s hd) (v : Value) (rows : List (List Cl)) (hS : Kd.S kRow 36 w base ok v rows) : Stp base p ok W (w.setCell ⟨p,2,none⟩ v) { s with rows := rows } hd := by
 obtain ⟨⟨rv,h1⟩,h3,h4,h5,h6⟩ := h
 exact ⟨⟨⟨v,blk_put h1 2 _ rfl,Kd.S_far (p := ⟨p,2,none⟩) hS (fun k hk (he : k = p) => h4 (he ▸ hk)) v⟩,h3,h4⟩,h5.setCell (p := ⟨p,2,none⟩) h3 v,h6.setCell (p := ⟨p,2,none⟩) (.inl (.inr rfl)) v⟩
end
theorem own_in {base : Nat} {ok : Nat → Prop} {w : World} {v : Value} {rows : List (List Cl)} (h : Kd.S kRow 36 w base ok v rows) : ∀ k,v.ownBlock = some k → ok k ∧ base ≤ k := fun k hk => ⟨h.own_ok k hk,Kd.S_base h k hk⟩
theorem down_row (s : Sc) (h : s.r + 1 < s.h) : s.down = { s with r := s.r + 1 } := by unfold Sc.down;rw [if_pos h]
theorem down_full (s : Sc) (h : ¬ s.r + 1 < s.h) (h2 : s.rows.length = s.h) : s.down = { s with rows := s.rows.drop 1 ++ [[]] } := by unfold Sc.down;rw [if_neg h,if_pos h2]
theorem down_some (s : Sc) (h : ¬ s.r + 1 < s.h) (h2 : ¬ s.rows.length = s.h) : s.down = { s with rows := s.rows.drop 1 } := by unfold Sc.down;rw [if_neg h,if_neg h2]
/-- The rows behind the first are cloned. -/
theorem clone_tail {base g cap : Nat} {ok : Nat → Prop} {W : World} {rows : List (List Cl)} (hS : Kd.S kRow 36 W base ok (.slice (some ⟨g,0,none⟩) rows.length cap) rows) (hr : Room base ok W) (h0 : 0 < rows.length) (hl : rows.length ≤ 1099511627776) (A : Addr) (n c : Nat) (hn : n = rows.length - 1) {R : List (List Cl)} (hRR : Hid (rows.drop 1 = R)) (hA : 1 < rows.length → A = ⟨g,1,none⟩) :
  Calls Tryd.prog 103 #[.slice (some A) n c] W fun e w' => ∃ v',e = .returned v' ∧ Kd.S kRow 36 w' base ok v' R ∧ Below W.heap.size W w' := by
 obtain ⟨f,hR⟩ := hS
 subst hn
 obtain rfl := hRR.out
 exact clone_rows (some A) rfl (rows.length - 1) c (rows.drop 1) (fun k => f k - 1) base ok (fun k => ok k ∧ k < W.heap.size) W (fun o => tail_reads hR (some A) (fun h => by rw [hA h]) (W.alloc o) (below_alloc (Below.refl _ _) o)) (fun k hk => hk) hr.fr hr.bs (by omega)
theorem len_snoc (R : List (List Cl)) : (R ++ [[]]).length = R.length + 1 := by simp
theorem sc_same (s : Sc) (h : s.rows = []) : ({ s with rows := s.rows.drop 1 } : Sc) = s := by
 cases s
 dsimp only at h ⊢
 subst h
 rfl
set_option maxRecDepth 100000 in
set_option maxHeartbeats 4000000 in
theorem sc_down {base p : Nat} {ok : Nat → Prop} {W : World} {s : Sc} {hd : ByteArray} (h : ScrAt base p ok W s hd) (hr : Room base ok W) (hh1 : 1 ≤ s.h) (hh : s.h ≤ 65535) (hrr : s.r ≤ 65535) (hl : s.rows.length ≤ s.h) :
  Calls Tryd.prog 81 #[.pointer (some ⟨p,0,none⟩)] W fun e w' => e = .returned (.tuple #[]) ∧ Stp base p ok W w' s.down hd := by
 have hs := Stp.start h
 obtain ⟨rv,⟨c0,c1,c2,c3,c4,c5,c6,c7,c8,c9⟩,hS⟩ := h.cells
 obtain ⟨A1,cc1,rfl⟩ := Kd.R_slice (Kd.S_R hS)
 have hw : IntKind.i64.wrap ((s.h : Int) - 1) = (s.h : Int) - 1 := wrapN (by omega) (by omega)
 by_cases hlt : s.r + 1 < s.h
 ·have hD := Lib.hid (down_row s hlt)
  have hlt' : (s.r : Int) < (s.h : Int) - 1 := by omega
  have hw2 : IntKind.i64.wrap ((s.r : Int) + 1) = ((s.r + 1 : Nat) : Int) := (wrapN (by omega) (by omega)).trans (by omega)
  go_enter Tryd.func81,Tryd.ntmps81
  go_upto_region 0 with (fail)
  go_quiet (fail)
  have hs1 := hs.drewN hr.bs nq
  generalize W.drewN nq = w1 at hs1 ⊢
  obtain ⟨rv,⟨d0,d1,d2,d3,_⟩,_⟩ := hs1.at_.cells
  have g3 := hs1.at_.frozen 3
  go_wp2
  have hs2 := hs1.put (s' := { s with r := s.r + 1 }) 3 (.int .i64 ((s.r + 1 : Nat) : Int)) rfl (fun _ => rfl)
  first | refine bodyPost_ret (results_none rfl _ _ _) rfl ?_ | ((try simp only [Exit.inBlock,Exit.then]);refine bodyPost_ret (results_none rfl _ _ _) rfl ?_)
  exact ⟨rfl,by rw [hD.out];exact hs2⟩
 have hlt' := eq_false (show ¬ (s.r : Int) < (s.h : Int) - 1 by omega)
 by_cases he0 : s.rows = []
 ·have hD := Lib.hid (down_some s hlt (by rw [he0];show ¬ 0 = s.h;omega))
  have hl0 : s.rows.length = 0 := by rw [he0];rfl
  have he' := eq_false (show ¬ (0 : Int) = (s.h : Int) by omega)
  go_enter Tryd.func81,Tryd.ntmps81
  go_upto_region 0 with (fail)
  go_quiet (fail)
  have hs1 := hs.drewN hr.bs nq
  generalize W.drewN nq = w1 at hs1 ⊢
  clear hs hS c0 c1 c2 c3 c4 c5 c6 c7 c8 c9
  obtain ⟨rv,⟨d0,d1,d2,d3,_⟩,hS⟩ := hs1.at_.cells
  obtain ⟨A1,cc1,rfl⟩ := Kd.R_slice (Kd.S_R hS)
  go_upto_region 2 with (fail)
  go_quiet (fail)
  have hs2 := hs1.drewN hr.bs nq
  generalize w1.drewN nq = w2 at hs2 ⊢
  clear hs1 hS d0 d1 d2 d3
  obtain ⟨rv,⟨d0,d1,d2,d3,_⟩,hS⟩ := hs2.at_.cells
  obtain ⟨A1,cc1,rfl⟩ := Kd.R_slice (Kd.S_R hS)
  go_wp2
  refine bodyPost_end (results_none rfl _ _ _) rfl ?_
  exact ⟨rfl,by rw [hD.out,sc_same s he0];exact hs2⟩
 have hpos : 0 < s.rows.length := by
  cases hrows : s.rows with
  | nil => exact absurd hrows he0
  | cons a l => simp
 clear he0
 by_cases he : s.rows.length = s.h
 ·have hD := Lib.hid (down_full s hlt he)
  have hRl : (s.rows.drop 1).length ≤ 65535 := by rw [List.length_drop];omega
  obtain ⟨R,hR0⟩ : ∃ R,s.rows.drop 1 = R := ⟨_,rfl⟩
  rw [hR0] at hD hRl
  have hRR := Lib.hid hR0
  clear hR0
  have he' : ((s.rows.length : Nat) : Int) = (s.h : Int) := by omega
  have hbq : ((s.rows.length : Int) == (s.h : Int)) = true := by rw [he'];simp
  clear he he'
  go_enter Tryd.func81,Tryd.ntmps81
  go_upto_region 0 with (fail)
  go_quiet (fail)
  have hs1 := hs.drewN hr.bs nq
  generalize W.drewN nq = w1 at hs1 ⊢
  clear hs hS c0 c1 c2 c3 c4 c5 c6 c7 c8 c9
  obtain ⟨rv,⟨d0,d1,d2,d3,_⟩,hS⟩ := hs1.at_.cells
  obtain ⟨A1,cc1,rfl⟩ := Kd.R_slice (Kd.S_R hS)
  go_upto_region 2 with (fail)
  go_quiet (fail)
  have hs2 := hs1.drewN hr.bs nq
  generalize w1.drewN nq = w2 at hs2 ⊢
  clear hs1 hS d0 d1 d2 d3
  obtain ⟨rv,⟨d0,d1,d2,d3,_⟩,hS⟩ := hs2.at_.cells
  obtain ⟨g,cap,rfl,hg0,hglt,cells,hgc⟩ := Kd.S_form hS hpos
  have hcp := (Kd.S_reads' hS).2.1
  by_cases hcap : cap = 1
  ·subst hcap
   go_wp2_with (first | (go_at_call 103;refine (clone_tail hS (hs2.room hr) hpos (by omega) ⟨g,0,none⟩ 0 0 (by omega) hRR (fun h1 => by omega)).mono ?_;rintro e w3 ⟨v3,rfl,hS3,hB3⟩;have hs3 := hs2.more hB3 hr.bs;clear hS d0 d1 d2 d3;have hr3 := hs3.room hr;obtain ⟨A3,c3,rfl⟩ := Kd.R_slice (Kd.S_R hS3)) | ((with_reducible refine gate_builtin (b := .append) (xs := #[.tmp 38,.tmp 39]) rfl ?_);at_builtin;(refine Kd.S_append kRow (w0 := W) base rfl (.tmp 38) (.tmp 39) 22 36 (.slice none 0 0) 24 rfl Tryd.underlying22 info36 rfl (by decide) (by decide) (.slice A3 R.length c3) R [] [.slice none 0 0] ok (fun _ => False) rfl rfl (Kd.M_row (Kd.R_nil _ _ _ _ _)) (fun _ hk => hk.elim) (fun k hk => hr3.fr k hk) (Kd.S_mono hS3 (fun k hk => ⟨hk,fun h => h⟩)) hs3.below hr3.bs (by omega) ?_;intro v4 w4 hS4 hB4 hg4 hat4;have hh4 := hs3.hdr.grown hg4 (own_in hS3) hr.bs;obtain ⟨A4,c4,rfl⟩ := Kd.R_slice (Kd.S_R hS4);obtain ⟨rv4,⟨_,_,e2,_⟩⟩ := hh4.cells;have g2 := hh4.frozen 2)))
   rw [len_snoc] at hS4
   have hs5 := hh4.rows _ _ hS4
   refine bodyPost_end (results_none rfl _ _ _) rfl ?_
   exact ⟨rfl,by rw [hD.out];exact hs5⟩
  ·go_wp2_with (first | (go_at_call 103;refine (clone_tail hS (hs2.room hr) hpos (by omega) ⟨g,1,none⟩ _ _ (by omega) hRR (fun _ => rfl)).mono ?_;rintro e w3 ⟨v3,rfl,hS3,hB3⟩;have hs3 := hs2.more hB3 hr.bs;clear hS d0 d1 d2 d3;have hr3 := hs3.room hr;obtain ⟨A3,c3,rfl⟩ := Kd.R_slice (Kd.S_R hS3)) | ((with_reducible refine gate_builtin (b := .append) (xs := #[.tmp 38,.tmp 39]) rfl ?_);at_builtin;(refine Kd.S_append kRow (w0 := W) base rfl (.tmp 38) (.tmp 39) 22 36 (.slice none 0 0) 24 rfl Tryd.underlying22 info36 rfl (by decide) (by decide) (.slice A3 R.length c3) R [] [.slice none 0 0] ok (fun _ => False) rfl rfl (Kd.M_row (Kd.R_nil _ _ _ _ _)) (fun _ hk => hk.elim) (fun k hk => hr3.fr k hk) (Kd.S_mono hS3 (fun k hk => ⟨hk,fun h => h⟩)) hs3.below hr3.bs (by omega) ?_;intro v4 w4 hS4 hB4 hg4 hat4;have hh4 := hs3.hdr.grown hg4 (own_in hS3) hr.bs;obtain ⟨A4,c4,rfl⟩ := Kd.R_slice (Kd.S_R hS4);obtain ⟨rv4,⟨_,_,e2,_⟩⟩ := hh4.cells;have g2 := hh4.frozen 2)))
   rw [len_snoc] at hS4
   have hs5 := hh4.rows _ _ hS4
   refine bodyPost_end (results_none rfl _ _ _) rfl ?_
   exact ⟨rfl,by rw [hD.out];exact hs5⟩
 ·have hD := Lib.hid (down_some s hlt he)
  have hRl : (s.rows.drop 1).length ≤ 65535 := by rw [List.length_drop];omega
  obtain ⟨R,hR0⟩ : ∃ R,s.rows.drop 1 = R := ⟨_,rfl⟩
  rw [hR0] at hD hRl
  have hRR := Lib.hid hR0
  clear hR0
  have hbq : ((s.rows.length : Int) == (s.h : Int)) = false := by simp;omega
  have hpos' : (0 : Int) < (s.rows.length : Int) := by omega
  go_enter Tryd.func81,Tryd.ntmps81
  go_upto_region 0 with (fail)
  go_quiet (fail)
  have hs1 := hs.drewN hr.bs nq
  generalize W.drewN nq = w1 at hs1 ⊢
  clear hs hS c0 c1 c2 c3 c4 c5 c6 c7 c8 c9
  obtain ⟨rv,⟨d0,d1,d2,d3,_⟩,hS⟩ := hs1.at_.cells
  obtain ⟨A1,cc1,rfl⟩ := Kd.R_slice (Kd.S_R hS)
  go_upto_region 2 with (fail)
  go_quiet (fail)
  have hs2 := hs1.drewN hr.bs nq
  generalize w1.drewN nq = w2 at hs2 ⊢
  clear hs1 hS d0 d1 d2 d3
  obtain ⟨rv,⟨d0,d1,d2,d3,_⟩,hS⟩ := hs2.at_.cells
  obtain ⟨g,cap,rfl,hg0,hglt,cells,hgc⟩ := Kd.S_form hS hpos
  have hcp := (Kd.S_reads' hS).2.1
  by_cases hcap : cap = 1
  ·subst hcap
   go_wp2_with (go_at_call 103;refine (clone_tail hS (hs2.room hr) hpos (by omega) ⟨g,0,none⟩ 0 0 (by omega) hRR (fun h1 => by omega)).mono ?_;rintro e w3 ⟨v3,rfl,hS3,hB3⟩;have hs3 := hs2.more hB3 hr.bs;clear hS d0 d1 d2 d3;have hr3 := hs3.room hr;obtain ⟨A3,c3,rfl⟩ := Kd.R_slice (Kd.S_R hS3);obtain ⟨rv3,⟨_,_,e2,_⟩,_⟩ := hs3.at_.cells;have g2 := hs3.at_.frozen 2)
   have hs5 := hs3.rows _ _ hS3
   refine bodyPost_end (results_none rfl _ _ _) rfl ?_
   exact ⟨rfl,by rw [hD.out];exact hs5⟩
  ·go_wp2_with (go_at_call 103;refine (clone_tail hS (hs2.room hr) hpos (by omega) ⟨g,1,none⟩ _ _ (by omega) hRR (fun _ => rfl)).mono ?_;rintro e w3 ⟨v3,rfl,hS3,hB3⟩;have hs3 := hs2.more hB3 hr.bs;clear hS d0 d1 d2 d3;have hr3 := hs3.room hr;obtain ⟨A3,c3,rfl⟩ := Kd.R_slice (Kd.S_R hS3);obtain ⟨rv3,⟨_,_,e2,_⟩,_⟩ := hs3.at_.cells;have g2 := hs3.at_.frozen 2)
   have hs5 := hs3.rows _ _ hS3
   refine bodyPost_end (results_none rfl _ _ _) rfl ?_
   exact ⟨rfl,by rw [hD.out];exact hs5⟩
end Go.Proofs.YtgdpnmikcopkmaaDoor.U
end
section
namespace Go.Proofs.YtgdpnmikcopkmaaDoor.U
open Go.RowKit Go.Proofs.YtgdpnmikcopkmaaDoor.Pu Go.Proofs.YtgdpnmikcopkmaaDoorW.PrintWords Go.Proofs.YtgdpnmikcopkmaaDoorW.PrintLast Go.Proofs.YtgdpnmikcopkmaaDoorW.PrintMore
set_option linter.unusedVariables false
set_option linter.unusedSimpArgs false
/-- One row of a screen's rows: its slot,and the others beside it. -/
theorem row_of {base g cap : Nat} {ok : Nat → Prop} {w : World} {rows : List (List Cl)} (hS : Kd.S kRow 36 w base ok (.slice (some ⟨g,0,none⟩) rows.length cap) rows) (i : Nat) (hi : i < rows.length) :
  ∃ (oki : Nat → Prop) (A : Option Addr) (c : Nat),RowAt base oki w (.slice A (rows.getD i []).length c) (rows.getD i []) ∧ w.cell? ⟨g,i,none⟩ = some (.slice A (rows.getD i []).length c) ∧ w.frozen? ⟨g,i,none⟩ = false ∧ (∀ k,oki k → ok k ∧ k ≠ g) ∧ Kd.H kRow 36 w base ok (.slice (some ⟨g,0,none⟩) rows.length cap) rows (i : Int) oki [.slice A (rows.getD i []).length c] := by
 obtain ⟨oki,ce,hcl,hM,hcc,hfr,hoki,hH⟩ := Kd.S_elem hS [] (i : Int) (by omega) (by omega)
 rw [Int.toNat_natCast] at hM hcc hfr
 obtain ⟨iv,rfl,hIR⟩ := hM
 obtain ⟨A,c,rfl⟩ := Kd.R_slice hIR
 have h1 := hcc 0 _ rfl
 have h2 := hfr 0
 have hz : (kRow).sz = 1 := rfl
 rw [hz,Nat.mul_one,Nat.add_zero] at h1 h2
 exact ⟨oki,A,c,hIR,h1,h2,hoki,hH⟩
/-- The row is put into its slot anew. -/
theorem row_back {base g cap : Nat} {ok okT : Nat → Prop} {w : World} {rows : List (List Cl)} {i : Nat} {cs : List Value} {v1 : Value} {L : List Cl} (hH : Kd.H kRow 36 w base ok (.slice (some ⟨g,0,none⟩) rows.length cap) rows (i : Int) okT cs) (h1 : i < rows.length) (hc : cs.length = 1) (hR : RowAt base okT w v1 L) :
  Kd.S kRow 36 (w.setCell ⟨g,i,none⟩ v1) base ok (.slice (some ⟨g,0,none⟩) rows.length cap) (rows.set i L) := by
 obtain ⟨A1,c1,rfl⟩ := Kd.R_slice hR
 have h := (Kd.S_seg0 (seg := [.slice A1 L.length c1]) (j := 0) (x' := L) hH (by omega) (by omega) (Nat.le_refl 1) (by
  rw [List.take_zero,List.nil_append,List.drop_eq_nil_of_le (by rw [hc];exact Nat.le_refl _),List.append_nil]
  exact Kd.M_row hR) (fun k hk => hk)).1
 have hz : (kRow).sz = 1 := rfl
 rw [hz,Nat.mul_one,Nat.add_zero,Int.toNat_natCast] at h
 exact h
theorem clrR_none (s : Sc) (i col : Nat) (h : s.rows.length ≤ i ∨ (s.rows.getD i []).length ≤ col) : s.clrR i col = s := by unfold Sc.clrR;rw [if_pos h]
theorem clrR_some (s : Sc) (i col : Nat) (h1 : i < s.rows.length) (h2 : col < (s.rows.getD i []).length) : s.clrR i col = { s with rows := s.rows.set i ((clrH (s.rows.getD i []) col).take col) } := by unfold Sc.clrR;rw [if_neg (by omega)]
theorem kept_cell {w w1 : World} {S : Nat → Prop} {a : Addr} {v : Value} (h : w.cell? a = some v) (hk : Kept w w1 S) (hn : ¬ S a.block) : w1.cell? a = some v := by
 have := hk.2 a.block (World.block_lt_of_cell? w a h) hn
 simpa [World.cell?,this] using h
theorem Hdr.held_ {base p : Nat} {ok : Nat → Prop} {W w w1 : World} {s : Sc} {hd : ByteArray} (h : Hdr base p ok W w s hd) {S : Nat → Prop} (hk : Kept w w1 S) (hB : Below base w w1) (hS : ∀ k,S k → ok k) : Hdr base p ok W w1 s hd := by
 obtain ⟨⟨rv,h1⟩,h3,h4,h5,h6⟩ := h
 exact ⟨⟨rv,blk_kept h1 hk (fun he => h4 (hS p he))⟩,h3,h4,h5.trans hB,h6.then_ hk (fun k hk => .inl (.inl (hS k hk)))⟩
/-- One slot of the rows has been written. -/
theorem Hdr.slot {base p : Nat} {ok : Nat → Prop} {W w : World} {s : Sc} {hd : ByteArray} (h : Hdr base p ok W w s hd) {v0 : Value} (hc : w.cell? ⟨p,2,none⟩ = some v0) {g i : Nat} {v : Value} {rows : List (List Cl)} (hg : ok g ∧ base ≤ g) (hS : Kd.S kRow 36 (w.setCell ⟨g,i,none⟩ v) base ok v0 rows) : Stp base p ok W (w.setCell ⟨g,i,none⟩ v) { s with rows := rows } hd := by
 obtain ⟨⟨rv,h1⟩,h3,h4,h5,h6⟩ := h
 have hp : g ≠ p := fun he => h4 (he ▸ hg.1)
 have h2 : w.cell? ⟨p,2,none⟩ = some rv := (sc_cells h1).2.2.1
 rw [h2] at hc
 injection hc with hc
 subst hc
 exact ⟨⟨⟨rv,(Below.heap_setCell w ⟨g,i,none⟩ v p (Ne.symm hp)).trans h1,hS⟩,h3,h4⟩,h5.setCell (p := ⟨g,i,none⟩) hg.2 v,h6.setCell (p := ⟨g,i,none⟩) (.inl (.inl hg.1)) v⟩
def clr2.T : Bool × List (List Nat × List Nat) := (true,[([],[]),([0],[0]),([1],[1]),([2],[2]),([],[]),([],[]),([5],[5]),([6],[6]),([7],[7]),([],[]),([8,9],[8,9]),([10],[10]),([],[]),([11,12],[11,12]),([3,4,0,1,2,3,4,5,6,7,8,9,10,11,12,13],[3,4]),([14,13,0,1,2,3,4,5,6,7,8,9,10,11,12,13],[13,14])])
def clr2.B : List Nat := [0,1,3,7,0,0,32,96,224,0,992,2016,0,8160,16383,32767]
theorem clr2.tab : rtab .any (opsOf Tryd.f102 2) = clr2.T := by kernel_rfl
theorem clr2.bits : waitsOk clr2.T.2 clr2.B = true := by kernel_rfl
set_option maxRecDepth 100000 in
set_option maxHeartbeats 4000000 in
theorem sc_clearRow {base p : Nat} {ok : Nat → Prop} {W : World} {s : Sc} {hd : ByteArray} (h : ScrAt base p ok W s hd) (hr : Room base ok W) (i col : Nat) (hl : s.rows.length ≤ 65535) (hcl : ∀ row ∈ s.rows,row.length ≤ 65535) :
  Calls Tryd.prog 102 #[.pointer (some ⟨p,0,none⟩),.int .i64 i,.int .i64 col] W fun e w' => e = .returned (.tuple #[]) ∧ Stp base p ok W w' (s.clrR i col) hd := by
 have hs := Stp.start h
 obtain ⟨rv,⟨c0,c1,c2,c3,c4,c5,c6,c7,c8,c9⟩,hS⟩ := h.cells
 by_cases hi : i < s.rows.length
 ·obtain ⟨g,cap,rfl,hg0,hglt,cells,hgc⟩ := Kd.S_form hS (by omega)
  have hcp := (Kd.S_reads' hS).2.1
  have hil : (i : Int) < (s.rows.length : Int) := by omega
  have hige := eq_false (show ¬ (s.rows.length : Int) ≤ (i : Int) by omega)
  have hig := hs.at_.ne
  have hgp : g ≠ p := fun he => hig (he ▸ Kd.S.own_ok hS g rfl)
  obtain ⟨oki,A,c,hIR,r0,rf,hoki,hH⟩ := row_of hS i hi
  have hLm : (s.rows.getD i []).length ≤ 65535 := by
   refine hcl _ ?_
   rw [List.getD_eq_getElem?_getD,List.getElem?_eq_getElem hi]
   exact List.getElem_mem _
  by_cases hc : col < (s.rows.getD i []).length
  ·have hD := Lib.hid (clrR_some s i col hi hc)
   generalize s.rows.getD i [] = L at hIR r0 hH hc hLm hD
   obtain ⟨gi,ci,hv,hgi0,hgil,cells2,hgc2⟩ := Kd.R_form hIR (by omega)
   injection hv with hv1 _ hv3
   subst hv1;subst hv3
   have hcl2 : (col : Int) < (L.length : Int) := by omega
   have hcge := eq_false (show ¬ (L.length : Int) ≤ (col : Int) by omega)
   have hoi := hIR.1 gi rfl
   have hLc := (Kd.R_reads' hIR).2.1
   have hcc2 := eq_true (show col ≤ c by omega)
   have hgk := own_in hS g rfl
   go_enter Tryd.func102,Tryd.ntmps102
   go_upto_region 2 with (go_at_call 86;refine (clear_half hIR hr.bs (by omega) hc).mono ?_;rintro e w1 ⟨rfl,hR1,hB1,hK1⟩)
   have hh1 := hs.hdr.held_ hK1 hB1 (fun k hk => by subst hk;exact (hoki _ hoi).1)
   have hH1 := Kd.H_kept hH hK1 (fun k _ hn hk => by subst hk;exact hn hoi)
   have hp1 : w1.cell? ⟨p,2,none⟩ = some (.slice (some ⟨g,0,none⟩) s.rows.length cap) := kept_cell c2 hK1 (fun he => by have he : p = gi := he;subst he;exact hig (hoki _ hoi).1)
   have hr1 : w1.cell? ⟨g,i,none⟩ = some (.slice (some ⟨gi,0,none⟩) L.length c) := kept_cell r0 hK1 (fun he => by have he : g = gi := he;subst he;exact (hoki _ hoi).2 rfl)
   have hrf1 : w1.frozen? ⟨g,i,none⟩ = false := by
    obtain ⟨_,hf⟩ := Kd.H_at hH1 (by omega) hil
    have := hf 0
    have hz : (kRow).sz = 1 := rfl
    rwa [hz,Nat.mul_one,Nat.add_zero,Int.toNat_natCast] at this
   clear c0 c1 c2 c3 c4 c5 c6 c7 c8 c9 hS hs hgc hgc2 hH hIR r0 rf
   refine start_ (n := 16) (S := fun w' => w'.cell? ⟨p,2,none⟩ = some (.slice (some ⟨g,0,none⟩) s.rows.length cap) ∧ w'.cell? ⟨g,i,none⟩ = some (.slice (some ⟨gi,0,none⟩) L.length c)) (ds := [15]) #[false,false,false,false,false,false,false,false,false,false,false,false,false,false,false,false] (by kernel_rfl) rfl rfl ⟨hp1,hr1⟩ (fun hHeld => ?_);refine with_tabW clr2.tab clr2.bits (fun HT_ HW_ => ?_)
   have hh2 := hh1.more (below_drew (Below.refl _ _)) hr.bs
   have hR2 := Kd.R_below hR1 (below_drew (Below.refl _ _))
   have hH2 := Kd.H_drew hH1
   have hrf2 : w1.drew.frozen? ⟨g,i,none⟩ = false := hrf1
   generalize w1.drew = w2 at hh2 hR2 hH2 hrf2 hHeld ⊢
   clear hh1 hR1 hH1 hrf1 hp1 hr1 hB1 hK1
   refine pure_ (i := 0) (N := (some 34)) (v := ?_) (a' := ?_) #[true,false,false,false,false,false,false,false,false,false,false,false,false,false,false,false] rfl rfl (any_of HT_.out (by kernel_rfl)) (fun _ _ _ h => h) (Or.inl ⟨by rfl,?_⟩) ?_ ?_
   rotate_left
   ·intro w'
    go_simp
    with_reducible rfl
   rotate_left
   ·simp only [Act.put,List.setIfInBounds_toArray,List.set_cons_zero,List.set_cons_succ,i64_w,i32_w]
    rfl
   refine pure_ (i := 1) (N := (some 35)) (v := ?_) (a' := ?_) #[true,true,false,false,false,false,false,false,false,false,false,false,false,false,false,false] rfl rfl (any_of HT_.out (by kernel_rfl)) (fun _ _ _ h => h) (Or.inl ⟨by rfl,?_⟩) ?_ ?_
   rotate_left
   ·intro w'
    go_simp
    with_reducible rfl
   rotate_left
   ·simp only [Act.put,List.setIfInBounds_toArray,List.set_cons_zero,List.set_cons_succ,i64_w,i32_w]
    rfl
   refine pure_ (i := 2) (N := (some 36)) (v := ?_) (a' := ?_) #[true,true,true,false,false,false,false,false,false,false,false,false,false,false,false,false] rfl rfl (any_of HT_.out (by kernel_rfl)) (fun _ _ _ h => h) (Or.inl ⟨by rfl,?_⟩) ?_ ?_
   rotate_left
   ·intro w'
    go_simp
    with_reducible rfl
   rotate_left
   ·simp only [Act.put,List.setIfInBounds_toArray,List.set_cons_zero,List.set_cons_succ,i64_w,i32_w]
    rfl
   refine take_ (i := 3) (N := (some 37)) (v := ?_) (a' := ?_) #[true,true,true,true,false,false,false,false,false,false,false,false,false,false,false,false] rfl rfl (take_ofW HT_.out HW_.out (by kernel_rfl)) (fun _ _ _ h => h) (Or.inl ⟨by rfl,?_⟩) hHeld ?_ ?_
   rotate_left
   ·rintro w' ⟨s1,s2⟩
    go_simp
    with_reducible rfl
   rotate_left
   ·simp only [Act.put,List.setIfInBounds_toArray,List.set_cons_zero,List.set_cons_succ,i64_w,i32_w]
    rfl
   refine pure_ (i := 4) (N := (some 38)) (v := ?_) (a' := ?_) #[true,true,true,true,true,false,false,false,false,false,false,false,false,false,false,false] rfl rfl (any_of HT_.out (by kernel_rfl)) (fun _ _ _ h => h) (Or.inl ⟨by rfl,?_⟩) ?_ ?_
   rotate_left
   ·intro w'
    go_simp
    with_reducible rfl
   rotate_left
   ·simp only [Act.put,List.setIfInBounds_toArray,List.set_cons_zero,List.set_cons_succ,i64_w,i32_w]
    rfl
   refine pure_ (i := 5) (N := (some 39)) (v := ?_) (a' := ?_) #[true,true,true,true,true,true,false,false,false,false,false,false,false,false,false,false] rfl rfl (any_of HT_.out (by kernel_rfl)) (fun _ _ _ h => h) (Or.inl ⟨by rfl,?_⟩) ?_ ?_
   rotate_left
   ·intro w'
    go_simp
    with_reducible rfl
   rotate_left
   ·simp only [Act.put,List.setIfInBounds_toArray,List.set_cons_zero,List.set_cons_succ,i64_w,i32_w]
    rfl
   refine pure_ (i := 6) (N := (some 40)) (v := ?_) (a' := ?_) #[true,true,true,true,true,true,true,false,false,false,false,false,false,false,false,false] rfl rfl (any_of HT_.out (by kernel_rfl)) (fun _ _ _ h => h) (Or.inl ⟨by rfl,?_⟩) ?_ ?_
   rotate_left
   ·intro w'
    go_simp
    with_reducible rfl
   rotate_left
   ·simp only [Act.put,List.setIfInBounds_toArray,List.set_cons_zero,List.set_cons_succ,i64_w,i32_w]
    rfl
   refine pure_ (i := 7) (N := (some 41)) (v := ?_) (a' := ?_) #[true,true,true,true,true,true,true,true,false,false,false,false,false,false,false,false] rfl rfl (any_of HT_.out (by kernel_rfl)) (fun _ _ _ h => h) (Or.inl ⟨by rfl,?_⟩) ?_ ?_
   rotate_left
   ·intro w'
    go_simp
    with_reducible rfl
   rotate_left
   ·simp only [Act.put,List.setIfInBounds_toArray,List.set_cons_zero,List.set_cons_succ,i64_w,i32_w]
    rfl
   refine take_ (i := 8) (N := (some 42)) (v := ?_) (a' := ?_) #[true,true,true,true,true,true,true,true,true,false,false,false,false,false,false,false] rfl rfl (take_ofW HT_.out HW_.out (by kernel_rfl)) (fun _ _ _ h => h) (Or.inl ⟨by rfl,?_⟩) hHeld ?_ ?_
   rotate_left
   ·rintro w' ⟨s1,s2⟩
    go_simp
    with_reducible rfl
   rotate_left
   ·simp only [Act.put,List.setIfInBounds_toArray,List.set_cons_zero,List.set_cons_succ,i64_w,i32_w]
    rfl
   refine pure_ (i := 9) (N := (some 43)) (v := ?_) (a' := ?_) #[true,true,true,true,true,true,true,true,true,true,false,false,false,false,false,false] rfl rfl (any_of HT_.out (by kernel_rfl)) (fun _ _ _ h => h) (Or.inl ⟨by rfl,?_⟩) ?_ ?_
   rotate_left
   ·intro w'
    go_simp
    with_reducible rfl
   rotate_left
   ·simp only [Act.put,List.setIfInBounds_toArray,List.set_cons_zero,List.set_cons_succ,i64_w,i32_w]
    rfl
   refine pure_ (i := 10) (N := (some 44)) (v := ?_) (a' := ?_) #[true,true,true,true,true,true,true,true,true,true,true,false,false,false,false,false] rfl rfl (any_of HT_.out (by kernel_rfl)) (fun _ _ _ h => h) (Or.inl ⟨by rfl,?_⟩) ?_ ?_
   rotate_left
   ·intro w'
    go_simp
    with_reducible rfl
   rotate_left
   ·simp only [Act.put,List.setIfInBounds_toArray,List.set_cons_zero,List.set_cons_succ,i64_w,i32_w]
    rfl
   refine take_ (i := 11) (N := (some 45)) (v := ?_) (a' := ?_) #[true,true,true,true,true,true,true,true,true,true,true,true,false,false,false,false] rfl rfl (take_ofW HT_.out HW_.out (by kernel_rfl)) (fun _ _ _ h => h) (Or.inl ⟨by rfl,?_⟩) hHeld ?_ ?_
   rotate_left
   ·rintro w' ⟨s1,s2⟩
    go_simp
    with_reducible rfl
   rotate_left
   ·simp only [Act.put,List.setIfInBounds_toArray,List.set_cons_zero,List.set_cons_succ,i64_w,i32_w]
    rfl
   refine pure_ (i := 12) (N := (some 46)) (v := ?_) (a' := ?_) #[true,true,true,true,true,true,true,true,true,true,true,true,true,false,false,false] rfl rfl (any_of HT_.out (by kernel_rfl)) (fun _ _ _ h => h) (Or.inl ⟨by rfl,?_⟩) ?_ ?_
   rotate_left
   ·intro w'
    go_simp
    with_reducible rfl
   rotate_left
   ·simp only [Act.put,List.setIfInBounds_toArray,List.set_cons_zero,List.set_cons_succ,i64_w,i32_w]
    rfl
   refine pure_ (i := 13) (N := (some 47)) (v := ?_) (a' := ?_) #[true,true,true,true,true,true,true,true,true,true,true,true,true,true,false,false] rfl rfl (any_of HT_.out (by kernel_rfl)) (fun _ _ _ h => h) (Or.inl ⟨by rfl,?_⟩) ?_ ?_
   rotate_left
   ·intro w'
    go_simp
    with_reducible rfl
   rotate_left
   ·simp only [Act.put,List.setIfInBounds_toArray,List.set_cons_zero,List.set_cons_succ,i64_w,i32_w]
    rfl
   refine pure_ (i := 14) (N := (some 48)) (v := ?_) (a' := ?_) #[true,true,true,true,true,true,true,true,true,true,true,true,true,true,true,false] rfl rfl (any_of HT_.out (by kernel_rfl)) (fun _ _ _ h => h) (Or.inl ⟨by rfl,?_⟩) ?_ ?_
   rotate_left
   ·intro w'
    go_simp
    with_reducible rfl
   rotate_left
   ·simp only [Act.put,List.setIfInBounds_toArray,List.set_cons_zero,List.set_cons_succ,i64_w,i32_w]
    rfl
   refine last_ (i := 15) (N := none) #[true,true,true,true,true,true,true,true,true,true,true,true,true,true,true,true] rfl rfl (one_of HT_.out (by kernel_rfl)) (by decide) (fun K hK => ?_)
   have hr2 := hHeld.2
   refine skip_ (w1 := ?_) (by rfl) rfl ?_ ?_
   rotate_left
   ·go_simp
    rfl
   refine hK.out _ _ ?_
   clear hK K
   have hS3 := row_back hH2 hi rfl (Kd.R_take hR2 (m := col) (by rw [clrH_length];omega))
   have hs3 := hh2.slot hHeld.1 hgk hS3
   generalize w2.setCell ⟨g,i,none⟩ (.slice (some ⟨gi,0,none⟩) col c) = w3 at hs3 ⊢
   clear hS3 hh2 hR2 hH2 hrf2 hHeld hr2
   refine done_ (done_of HT_.out (by kernel_rfl)) ?_
   clear HT_ HW_
   refine bodyPost_end (results_none rfl _ _ _) rfl ?_
   exact ⟨rfl,by rw [hD.out];exact hs3⟩
  ·have hD := Lib.hid (clrR_none s i col (.inr (by omega)))
   have hcge := eq_true (show ((s.rows.getD i []).length : Int) ≤ (col : Int) by omega)
   generalize s.rows.getD i [] = L at hIR r0 hH hc hLm hcge
   go_enter Tryd.func102,Tryd.ntmps102
   go_wp2
   refine bodyPost_ret (results_none rfl _ _ _) rfl ?_
   exact ⟨rfl,by rw [hD.out];exact hs⟩
 ·have hD := Lib.hid (clrR_none s i col (.inl (by omega)))
  have hige := eq_true (show (s.rows.length : Int) ≤ (i : Int) by omega)
  obtain ⟨A,c,rfl⟩ := Kd.R_slice (Kd.S_R hS)
  go_enter Tryd.func102,Tryd.ntmps102
  go_wp2
  refine bodyPost_ret (results_none rfl _ _ _) rfl ?_
  exact ⟨rfl,by rw [hD.out];exact hs⟩
end Go.Proofs.YtgdpnmikcopkmaaDoor.U
end
section
namespace Go.Proofs.YtgdpnmikcopkmaaDoor.U
open Go.RowKit Go.Proofs.YtgdpnmikcopkmaaDoor.Pu Go.Proofs.YtgdpnmikcopkmaaDoorW.PrintWords Go.Proofs.YtgdpnmikcopkmaaDoorW.PrintLast Go.Proofs.YtgdpnmikcopkmaaDoorW.PrintMore
set_option linter.unusedVariables false
set_option linter.unusedSimpArgs false
def cntI (n : Int) : Nat := (mn (mx n 1) 65535).toNat
theorem cntI_bd (n : Int) : 1 ≤ cntI n ∧ cntI n ≤ 65535 := by unfold cntI mn mx;split <;> split <;> omega
theorem cntI_eq (n : Int) : screen_counted.f n = some ((cntI n : Nat) : Int) := by
 unfold screen_counted.f cntI mn mx
 congr 1
 split <;> split <;> omega
/-- A new screen. -/
def newSc (w h : Int) : Sc := ⟨cntI w,cntI h,[],0,0,false,0,0,false⟩
theorem newSc_ok (w h : Int) : (newSc w h).Ok := by
 have := cntI_bd w
 have := cntI_bd h
 exact ⟨(cntI_bd w).1,(cntI_bd w).2,(cntI_bd h).1,(cntI_bd h).2,Nat.zero_le _,(fun row hr => absurd hr List.not_mem_nil),(cntI_bd h).1,(cntI_bd w).1,(fun hq => by cases hq),(fun hq => by cases hq)⟩
set_option maxRecDepth 100000 in
set_option maxHeartbeats 4000000 in
theorem sc_new (a b : Int) (W : World) :
  Calls Tryd.prog 14 #[.int .i64 a,.int .i64 b] W fun e w' => ∃ p,e = .returned (.pointer (some ⟨p,0,none⟩)) ∧ W.heap.size ≤ p ∧ p < w'.heap.size ∧ (∀ base ok,base ≤ p → ¬ ok p → ScrAt base p ok w' (newSc a b) ⟨#[]⟩) ∧ Below W.heap.size W w' := by
 go_enter Tryd.func14,Tryd.ntmps14
 go_wp2_with (first | (go_at_call 40;(with_reducible refine (screen_counted.calls _ _ _ (cntI_eq b)).mono ?_);rintro e w2 ⟨rfl,hb2⟩) | (go_at_call 40;(with_reducible refine (screen_counted.calls _ _ _ (cntI_eq a)).mono ?_);rintro e w1 ⟨rfl,hb1⟩))
 go_ret
 exact ⟨w2.heap.size,rfl,(hb1.trans (hb2.mono hb1.size)).size,by rw [World.size_alloc];omega,fun base ok hbp hnk => ⟨⟨.slice none 0 0,World.alloc_heap_new w2 _,Kd.S_nil _ _ _ _ _⟩,hbp,hnk⟩,(hb1.trans (hb2.mono hb1.size)).trans ((below_alloc (Below.refl _ w2) _).mono (hb1.trans (hb2.mono hb1.size)).size)⟩
theorem none_cap {base n c : Nat} {ok : Nat → Prop} {w : World} {row : List Cl} (h : RowAt base ok w (.slice none n c) row) : c = 0 := by
 obtain ⟨_,inner,ho,hr⟩ := h
 rcases ho.2 with ⟨hv,_⟩ | ⟨g,cap',cur,hv,_⟩
 ·injection hv
 ·injection hv with ha
  cases ha
theorem trimR_len (row : List Cl) : (trimR row).length = trimN row row.length := by
 unfold trimR
 rw [List.length_take]
 have := trimN_le row row.length
 omega
theorem trimR_nil : trimR [] = [] := rfl
set_option maxRecDepth 100000 in
set_option maxHeartbeats 4000000 in
theorem sc_row {base p : Nat} {ok : Nat → Prop} {W : World} {s : Sc} {hd : ByteArray} (h : ScrAt base p ok W s hd) (i : Nat) (hl : s.rows.length ≤ 65535) (hc : ∀ row ∈ s.rows,row.length ≤ 65535) {ii : Int} (hi : ii = (i : Int)) :
  Calls Tryd.prog 46 #[.pointer (some ⟨p,0,none⟩),.int .i64 ii] W fun e w' => ∃ A c,e = .returned (.slice A (trimR (s.rows.getD i [])).length c) ∧ Kd.C k38 w' A (trimR (s.rows.getD i [])).length (trimR (s.rows.getD i [])) ∧ (trimR (s.rows.getD i [])).length ≤ c ∧ Below W.heap.size W w' := by
 subst hi
 obtain ⟨rv,⟨_,_,c2,_⟩,hS⟩ := h.cells
 by_cases hlt : i < s.rows.length
 ·obtain ⟨g,cap,rfl,_,_,_,_⟩ := Kd.S_form hS (by omega)
  have hcap := (Kd.S_reads' hS).2.1
  obtain ⟨oki,A,c,hIR,r0,_,_,_⟩ := row_of hS i hlt
  have hLm : (s.rows.getD i []).length ≤ 65535 := by
   refine hc _ ?_
   rw [List.getD_eq_getElem?_getD,List.getElem?_eq_getElem hlt]
   exact List.getElem_mem _
  generalize s.rows.getD i [] = L at hIR r0 hLm ⊢
  have hLc := (Kd.R_reads' hIR).2.1
  have hCC := (Kd.R_reads' hIR).2.2
  have hnc : A = none → c = 0 := fun he => by subst he;exact none_cap hIR
  have hlt' : (i : Int) < (s.rows.length : Int) := by omega
  have hge := eq_false (show ¬ (s.rows.length : Int) ≤ (i : Int) by omega)
  have hTL := trimR_len L
  have hTle := trimN_le L L.length
  have hTH := Lib.hid hTL
  clear hTL
  go_enter Tryd.func46,Tryd.ntmps46
  go_wp2_with (go_at_call 73;refine (trimmed_any A L.length c L _ hCC (by omega) hLc hnc).mono ?_;rintro e w1 ⟨rfl,hb1⟩)
  go_ret
  have hR2 := Kd.R_take (Kd.R_below hIR hb1) (m := trimN L L.length) hTle
  have hC2 := (Kd.R_reads' hR2).2.2
  refine ⟨A,c,by rw [hTH.out];rfl,?_,by rw [hTH.out];omega,hb1⟩
  exact hC2
 ·have hg : s.rows.getD i [] = [] := by rw [List.getD_eq_getElem?_getD,List.getElem?_eq_none (by omega)];rfl
  have hge := eq_true (show (s.rows.length : Int) ≤ (i : Int) by omega)
  obtain ⟨A,c,rfl⟩ := Kd.R_slice (Kd.S_R hS)
  rw [hg,trimR_nil]
  go_enter Tryd.func46,Tryd.ntmps46
  go_wp2
  go_ret
  exact ⟨none,0,rfl,Kd.C_nil _ _,Nat.le_refl _,Below.refl _ _⟩
/-- The last row of the first n that shows something,counted from 1. -/
def lastN (rows : List (List Cl)) : Nat → Nat
 | 0 => 0
 | n + 1 => if (trimR (rows.getD n [])).length = 0 then lastN rows n else n + 1
def _root_.Go.Proofs.YtgdpnmikcopkmaaDoor.Pu.Sc.nrows (s : Sc) : Nat := max (lastN s.rows s.rows.length) (s.r + 1)
theorem lastN_le (rows : List (List Cl)) : ∀ n,lastN rows n ≤ n
 | 0 => Nat.le_refl _
 | n + 1 => by unfold lastN;split;exact Nat.le_succ_of_le (lastN_le rows n);exact Nat.le_refl _
set_option maxRecDepth 100000 in
set_option maxHeartbeats 4000000 in
theorem sc_rows {base p : Nat} {ok : Nat → Prop} {W : World} {s : Sc} {hd : ByteArray} (h : ScrAt base p ok W s hd) (hb : base ≤ W.heap.size) (hO : s.Ok) :
  Calls Tryd.prog 21 #[.pointer (some ⟨p,0,none⟩)] W fun e w' => e = .returned (.int .i64 (s.nrows : Nat)) ∧ Stp base p ok W w' s hd := by
 have o4 := hO.h2
 have o5 := hO.rl
 have o6 := hO.rh
 have o2 := hO.w2
 have hcl : ∀ row ∈ s.rows,row.length ≤ 65535 := fun row hq => Nat.le_trans (hO.cl row hq) o2
 go_enter Tryd.func21,Tryd.ntmps21
 go_upto_block 0 with (go_at_call 42;refine (sc_ready h hb).mono ?_;rintro e w1 ⟨rfl,hs1⟩;rw [rdy_ok hO] at hs1;obtain ⟨rv,⟨_,_,c2,c3,_⟩,hS⟩ := hs1.at_.cells;obtain ⟨A1,cc1,rfl⟩ := Kd.R_slice (Kd.S_R hS))
 go_cut [3] from 4 to 23 (fun v w2 => v = .int .i64 (lastN s.rows s.rows.length : Nat) ∧ Stp base p ok W w2 s hd)
 case first =>
  go_wp2_with (fail)
  go_loopw [3] (fun v wr => ∃ n : Nat,v = .int .i64 n ∧ n ≤ s.rows.length ∧ Hid (lastN s.rows s.rows.length = lastN s.rows n) ∧ Stp base p ok W wr s hd) (fun v _ => (intOf v).toNat)
  case atStart => exact ⟨_,rfl,Nat.le_refl _,Lib.hid rfl,hs1⟩
  case round =>
   obtain ⟨n,rfl,hn,hJ,hsr⟩ := hrel
   clear hs1 c2 c3 hS
   cases n with
   | zero =>
    go_wp2
    go_meet
    case rel => exact ⟨by rw [hJ.out];rfl,hsr⟩
   | succ m =>
    have hw : IntKind.i64.wrap (((m + 1 : Nat) : Int) - 1) = (m : Int) := (wrapN (by omega) (by omega)).trans (by omega)
    have hpos : (0 : Int) < ((m + 1 : Nat) : Int) := by omega
    obtain ⟨tl,htl⟩ : ∃ tl,(trimR (s.rows.getD m [])).length = tl := ⟨_,rfl⟩
    have hcall := sc_row hsr.at_ m (by omega) hcl (ii := (m : Int)) rfl
    rw [htl] at hcall
    by_cases hz : tl = 0
    ·have hJ2 := Lib.hid (hJ.out.trans (by show (if (trimR (s.rows.getD m [])).length = 0 then lastN s.rows m else m + 1) = lastN s.rows m;rw [htl,if_pos hz]))
     have hzb : ((tl : Int) == 0) = true := by simp;omega
     clear hJ htl hz
     go_wp2_with (go_at_call 46;refine hcall.mono ?_;rintro e w3 ⟨A,c,rfl,_,_,hb3⟩)
     go_roundw
     case rel => exact ⟨m,by go_num,by omega,hJ2,hsr.more hb3 hb⟩
     case measure => (try clear hw);simp [intOf]
    ·have hJ2 := Lib.hid (hJ.out.trans (by show (if (trimR (s.rows.getD m [])).length = 0 then lastN s.rows m else m + 1) = m + 1;rw [htl,if_neg hz]))
     have hzb : ((tl : Int) == 0) = false := by simp;omega
     clear hJ htl hz
     go_wp2_with (go_at_call 46;refine hcall.mono ?_;rintro e w3 ⟨A,c,rfl,_,_,hb3⟩)
     go_meet
     case rel => exact ⟨by rw [hJ2.out];go_num,hsr.more hb3 hb⟩
 case rest =>
  obtain ⟨rfl,hs2⟩ := hcut
  have hle := lastN_le s.rows s.rows.length
  clear hs1 c2 c3 hS
  obtain ⟨rv,⟨_,_,c2,c3,_⟩,hS⟩ := hs2.at_.cells
  have hw : IntKind.i64.wrap ((s.r : Int) + 1) = (s.r : Int) + 1 := wrapN (by omega) (by omega)
  have hmx : ∀ (w : World),(Builtin.max_ #[3,3,3] 3 #[.int .i64 (lastN s.rows s.rows.length : Nat),.int .i64 ((s.r : Int) + 1),.int .i64 1]).run Tryd.prog w = .ok (.int .i64 (s.nrows : Nat)) w := fun w => by
   rw [run_max_int3]
   congr 2
   unfold Sc.nrows
   split <;> split <;> omega
  go_wp2
  go_ret
  exact ⟨rfl,hs2⟩
end Go.Proofs.YtgdpnmikcopkmaaDoor.U
end
section
namespace Go.Proofs.YtgdpnmikcopkmaaDoor.U
open Go.RowKit Go.Proofs.YtgdpnmikcopkmaaDoorW.PrintWords Go.Proofs.YtgdpnmikcopkmaaDoorW.PrintLast Go.Proofs.YtgdpnmikcopkmaaDoorW.PrintMore
attribute [local go_sem] max2_int min2_int max_two min_two max_three min_three max_four min_four   -- for this text's walks alone
set_option linter.unusedVariables false
set_option linter.unusedSimpArgs false
mutual
def screen_numbers.l0 : Nat → ByteArray → List Int → Int → Int → Option (List Int × Bool)
 | 0,_,_,_,_ => none
 | k + 1,x0,x4,x9,x10 => if x10 < x9 then (if 0 ≤ x10 then (if x10 < (x0.size : Int) then (if (bt x0 x10) ≥ 48 then (screen_numbers.j1 k x0 x4 (bt x0 x10) x9 x10 (decide ((bt x0 x10) ≤ 57))) else (screen_numbers.j1 k x0 x4 (bt x0 x10) x9 x10 false)) else (none)) else (none)) else (some (x4,true))
def screen_numbers.j1 : Nat → ByteArray → List Int → Int → Int → Int → Bool → Option (List Int × Bool)
 | 0,_,_,_,_,_,_ => none
 | k + 1,x0,x4,x6,x9,x10,x16 => if x16 = true then (if 0 ≤ (wrap64 ((x4.length : Int) - 1)) then (if (wrap64 ((x4.length : Int) - 1)) < (x4.length : Int) then (screen_numbers.l0 k x0 (x4.set ((wrap64 ((x4.length : Int) - 1)) : Int).toNat (mn (wrap64 ((wrap64 ((rd x4 (wrap64 ((x4.length : Int) - 1))) * 10)) + ((x6 - 48) % 256))) 65535)) x9 (wrap64 (x10 + 1))) else (none)) else (none)) else (if x6 = 59 then (if (x4.length : Int) = 1 then (if x4.length < 17592186044416 then (screen_numbers.l0 k x0 (x4 ++ [0]) x9 (wrap64 (x10 + 1))) else (none)) else (some (([] : List Int),false))) else (some (([] : List Int),false)))
end
def screen_numbers.f (k : Nat) (a0 : ByteArray) : Option (List Int × Bool) := screen_numbers.l0 k a0 (([0] : List Int)) (a0.size : Int) 0
set_option maxHeartbeats 8000000 in
set_option maxRecDepth 100000 in
theorem screen_numbers.calls (k : Nat) (a0 : ByteArray) (r1 : List Int) (r2 : Bool) (w : World) (h : screen_numbers.f k a0 = some (r1,r2)) :
  Calls Tryd.prog 101 #[.string a0] w fun e w' => ∃ v0_ : Value,e = .returned (.tuple #[v0_,.bool r2]) ∧ Kd.R (Kd.int .i64) 3 w' w.heap.size (fun _ => True) v0_ r1 ∧ Below w.heap.size w w' := by
 have HB := Aside0.mk (Below.refl w.heap.size w)
 have H : (screen_numbers.l0 k a0 (([0] : List Int)) (a0.size : Int) 0) = some (r1,r2) := h
 clear h
 obtain ⟨y118,hy118⟩ : ∃ y_ : List Int,y_ = (([0] : List Int)) := ⟨_,rfl⟩
 replace H : (screen_numbers.l0 k a0 y118 (a0.size : Int) 0) = some (r1,r2) := by first | (rw [hy118];with_reducible exact H) | (have H2_ := (Option.bind_some _ _).symm.trans H;rw [hy118];with_reducible exact H2_) | (have H2_ := (Option.bind_some _ _).symm.trans H;with_reducible exact H2_) | with_reducible exact H | (rw [hy118];exact H) | exact H
 have Ny118 := Aside0.mk hy118
 clear hy118
 have H' := Aside0.mk H
 clear H
 go_enter Tryd.func101,Tryd.ntmps101
 go_wp2_with (first | ((with_reducible refine gate_dst (N := 7) rfl ?_);(try (refine gate_guard (by rfl) ?_;dsimp only));refine Kd.R_lit (Kd.int .i64) _ 3 ?hg (N := 7) ?hd (xs := ([0] : List Int)) (inner := [.int .i64 0]) (ok := fun _ => True) (okp := fun _ => True) ?hr ?hp (fun _ hk => hk) trivial (Below.refl _ _) (Nat.le_refl _) (by simp) ?_;(case hd => rfl);(case hg => rfl);(case hr => first | (go_simp;done) | (go_simp;rfl));(case hp => exact (Reps.one (show Kd.M (Kd.int .i64) _ _ _ 0 [.int .i64 0] from rfl) (Reps.none _ _)));intro v119 w2 ho3 hb hg_ hnew_;clear hg_ hnew_;(first | rw [← Ny118.out] at ho3 | (simp only [Int.reduceToNat] at ho3;rw [← Ny118.out] at ho3));have n0_ := Aside0.mk (Kd.R_lower ho3 (below_size au0));have n1_ := Aside0.mk (below_step au0 hb);clear HB;have HO120 := n0_;have HB := n1_;clear n0_ n1_;clear hb ho3))
 go_loopg [4,10] k (fun kq v4 v10 w' => ∃ (x4_1 : List Int) (x10_1 : Int),v10 = .int .i64 x10_1 ∧ Aside0 (screen_numbers.l0 kq a0 x4_1 (a0.size : Int) x10_1 = some (r1,r2)) ∧ Aside0 (kq ≤ k) ∧ Aside0 (Kd.R (Kd.int .i64) 3 w' w.heap.size (fun _ => True) v4 x4_1) ∧ Aside0 (Below w.heap.size w w'))
 case atStart => exact ⟨(y118),(0),au7,H',⟨Nat.le_refl _⟩,⟨by (with_reducible repeat (first | apply Kd.R_alloc | apply Kd.R_drewN | apply Kd.R_drew));exact HO120.out⟩,⟨au0⟩⟩
 case round =>
  clear H'
  try clear c1
  try clear p2
  obtain ⟨x4_1,x10_1,rfl,HA,HK1,HO_4,HB⟩ := hrel
  cases gk with
  | zero => exact absurd HA.out (by simp [screen_numbers.l0])
  | succ k1 =>
   have H := HA.out
   clear HA
   simp only [screen_numbers.l0] at H
   by_cases c4 : x10_1 < (a0.size : Int)
   ·rw [if_pos c4] at H
    have c4b0 : decide (x10_1 < (a0.size : Int)) = true := decide_eq_true c4
    clear c4
    by_cases c5 : 0 ≤ x10_1
    ·rw [if_pos c5] at H
     have c5b0 : decide (0 ≤ x10_1) = true := decide_eq_true c5
     clear c5
     by_cases c6 : x10_1 < (a0.size : Int)
     ·rw [if_pos c6] at H
      have c6b0 : decide (x10_1 < (a0.size : Int)) = true := decide_eq_true c6
      clear c6
      have HC8 := Aside0.mk H
      clear H
      have p7 : 0 ≤ (x10_1 : Int) := of_decide_eq_true au8
      have q7 : x10_1 < (a0.size : Int) := of_decide_eq_true au8
      have hx7 := bt_at a0 x10_1
      replace p7 := eq_true p7
      replace q7 := eq_true q7
      go_upto_region 7 with (fail)
      go_cut [16] (fun v16 wc => ∃ (kq : Nat) (x16_7 : Bool),v16 = .bool x16_7 ∧ Aside0 (screen_numbers.j1 kq a0 x4_1 (bt a0 x10_1) (a0.size : Int) x10_1 x16_7 = some (r1,r2)) ∧ Aside0 (kq ≤ k1) ∧ Aside0 (Kd.R (Kd.int .i64) 3 wc w.heap.size (fun _ => True) u4 x4_1) ∧ Aside0 (Below w.heap.size w wc))
      case first =>
       have H := HC8.out
       clear HC8
       by_cases c9 : (bt a0 x10_1) ≥ 48
       ·rw [if_pos c9] at H
        have c9b0 : decide (48 ≤ (bt a0 x10_1)) = true := decide_eq_true c9
        clear c9
        (first | rw [c9b0] | (simp only [i64_w,i32_w];rw [c9b0]) | skip)
        have H' := Aside0.mk H
        clear H
        go_wp2
        go_meet
        case rel => exact ⟨_,(decide ((bt a0 x10_1) ≤ 57)),au7,H',⟨by have := HK1.out;first | omega | exact Nat.le_refl _⟩,⟨by (with_reducible repeat (first | apply Kd.R_alloc | apply Kd.R_drewN | apply Kd.R_drew));exact HO_4.out⟩,⟨au0⟩⟩
       ·rw [if_neg c9] at H
        have c9b0 : decide (48 ≤ (bt a0 x10_1)) = false := decide_eq_false c9
        clear c9
        (first | rw [c9b0] | (simp only [i64_w,i32_w];rw [c9b0]) | skip)
        have H' := Aside0.mk H
        clear H
        go_wp2
        go_meet
        case rel => exact ⟨_,(false),au7,H',⟨by have := HK1.out;first | omega | exact Nat.le_refl _⟩,⟨by (with_reducible repeat (first | apply Kd.R_alloc | apply Kd.R_drewN | apply Kd.R_drew));exact HO_4.out⟩,⟨au0⟩⟩
      case rest =>
       clear HC8
       try clear c1
       try clear p2
       try clear c4
       try clear c4b0
       try clear c5
       try clear c5b0
       try clear c6
       try clear c6b0
       try clear p7
       try clear q7
       try clear hx7
       try clear c9
       try clear c9b0
       try clear p2
       try clear p7
       try clear q7
       obtain ⟨kq,x16_7,rfl,HA,HJ7,HO_4,HB⟩ := hcut
       cases kq with
       | zero => exact absurd HA.out (by simp [screen_numbers.j1])
       | succ kj7 =>
        have H := HA.out
        clear HA
        simp only [screen_numbers.j1] at H
        by_cases c10 : x16_7 = true
        ·subst c10
         have H1 : (if 0 ≤ (wrap64 ((x4_1.length : Int) - 1)) then (if (wrap64 ((x4_1.length : Int) - 1)) < (x4_1.length : Int) then (screen_numbers.l0 kj7 a0 (x4_1.set ((wrap64 ((x4_1.length : Int) - 1)) : Int).toNat (mn (wrap64 ((wrap64 ((rd x4_1 (wrap64 ((x4_1.length : Int) - 1))) * 10)) + (((bt a0 x10_1) - 48) % 256))) 65535)) (a0.size : Int) (wrap64 (x10_1 + 1))) else (none)) else (none)) = some (r1,r2) := by rw [if_pos rfl] at H;exact H
         clear H
         have H := H1
         clear H1
         obtain ⟨ji11,hji11⟩ : ∃ j_ : Int,(wrap64 ((x4_1.length : Int) - 1)) = j_ := ⟨_,rfl⟩
         replace H : (if 0 ≤ (ji11) then (if (ji11) < (x4_1.length : Int) then (screen_numbers.l0 kj7 a0 (x4_1.set ((ji11) : Int).toNat (mn (wrap64 ((wrap64 ((rd x4_1 (ji11)) * 10)) + (((bt a0 x10_1) - 48) % 256))) 65535)) (a0.size : Int) (wrap64 (x10_1 + 1))) else (none)) else (none)) = some (r1,r2) := by first | (rw [hji11] at H;exact H) | (simp only [hji11] at H ⊢;exact H)
         have hji11w : (IntKind.i64.wrap ((x4_1.length : Int) - 1)) = ji11 := (i64_w _).trans hji11
         by_cases c12 : 0 ≤ (ji11)
         ·rw [if_pos c12] at H
          have c12b0 : decide (0 ≤ (ji11)) = true := decide_eq_true c12
          clear c12
          by_cases c13 : (ji11) < (x4_1.length : Int)
          ·rw [if_pos c13] at H
           have c13b0 : decide ((ji11) < (x4_1.length : Int)) = true := decide_eq_true c13
           clear c13
           obtain ⟨ji14,hji14⟩ : ∃ j_ : Int,(mn (wrap64 ((wrap64 ((rd x4_1 (ji11)) * 10)) + (((bt a0 x10_1) - 48) % 256))) 65535) = j_ := ⟨_,rfl⟩
           replace H : (screen_numbers.l0 kj7 a0 (x4_1.set ((ji11) : Int).toNat (ji14)) (a0.size : Int) (wrap64 (x10_1 + 1))) = some (r1,r2) := by first | (rw [hji14] at H;exact H) | (simp only [hji14] at H ⊢;exact H)
           have hji14_ : (if 65535 < (wrap64 ((wrap64 ((rd x4_1 (ji11)) * 10)) + (((bt a0 x10_1) - 48) % 256))) then 65535 else (wrap64 ((wrap64 ((rd x4_1 (ji11)) * 10)) + (((bt a0 x10_1) - 48) % 256)))) = ji14 := hji14
           obtain ⟨y122,hy122⟩ : ∃ y_ : List Int,y_ = (x4_1.set ((ji11) : Int).toNat (ji14)) := ⟨_,rfl⟩
           replace H : (screen_numbers.l0 kj7 a0 y122 (a0.size : Int) (wrap64 (x10_1 + 1))) = some (r1,r2) := by first | (rw [hy122];with_reducible exact H) | (have H2_ := (Option.bind_some _ _).symm.trans H;rw [hy122];with_reducible exact H2_) | (have H2_ := (Option.bind_some _ _).symm.trans H;with_reducible exact H2_) | with_reducible exact H | (rw [hy122];exact H) | exact H
           have Ny122 := Aside0.mk hy122
           clear hy122
           have H' := Aside0.mk H
           clear H
           obtain ⟨Ao16,co16,eo16⟩ := Kd.R_slice HO_4.out
           subst eo16
           have p121 : 0 ≤ ((ji11) : Int) := of_decide_eq_true au8
           have q121 : (ji11) < (x4_1.length : Int) := of_decide_eq_true au8
           obtain ⟨ad121,e121,hx121_0⟩ := Kd.at_int (Kd.R_reads' HO_4.out).2.2 (ji11) p121 q121
           cases e121
           replace p121 := eq_true p121
           replace q121 := eq_true q121
           have p15 : 0 ≤ ((ji11) : Int) := of_decide_eq_true au8
           have q15 : ((ji11) : Int) < ((x4_1.length : Int) : Int) := of_decide_eq_true au8
           obtain ⟨go15,co15,eo15,gb15,gl15,cl15,HG15⟩ := Kd.R_form HO_4.out (by omega)
           (first | cases eo15 | (injection eo15 with ea_ en_ ec_;(first | subst ea_ | (injection ea_ with ea_;subst ea_));subst ec_;clear en_))
           have GB15 := Aside0.mk gb15
           have GG15 := Aside0.mk HG15
           clear gb15 gl15 HG15
           (first | simp only [add_plain] at hx121_0 | skip)
           obtain ⟨hx15_0,hf15_0⟩ := Kd.R_celln 0 HO_4.out ((ji11) : Int) p15 q15
           replace p15 := eq_true p15
           replace q15 := eq_true q15
           have HP17 := Kd.R_putg HO_4.out ((ji11) : Int) ji14
           go_wp2_with (first | ((with_reducible refine gate_store (t := 3) (p := 39) rfl ?_);refine store_event (t := 3) (p := 39) (v := ?vo_w18) (w1 := (wc.setCell ⟨go15,((ji11) : Int).toNat,none⟩ (.int .i64 ji14))) ?hg ?ho ?hn ?hr ?_;(case ho => rfl);(case hg => rfl);(case hn => rfl);(case hr => first | (go_simp;done) | (go_simp;rfl));intro w18 hw;have hg : wc.grownBy w18 (some go15) := (by rw [hw];exact HP17.2);have hp_ : Kd.R (Kd.int .i64) 3 w18 w.heap.size (fun _ => True) (.slice (some ⟨go15,0,none⟩) x4_1.length co16) y122 := (by rw [hw,Ny122.out];exact HP17.1);clear HP17;have n0_ := Aside0.mk (hp_);have n1_ := Aside0.mk ((by rw [hw];exact below_set (HB.out) GB15.out : Below w.heap.size w w18));clear HO_4;clear HB;have HO_4 := n0_;have HB := n1_;clear n0_ n1_;clear hg hw hp_))
           go_roundg kj7
           case measure => have := HK1.out;have := HJ7.out;omega
           case rel => exact ⟨(y122),(wrap64 (x10_1 + 1)),au7,H',⟨by have := HK1.out;have := HJ7.out;omega⟩,⟨by (with_reducible repeat (first | apply Kd.R_alloc | apply Kd.R_drewN | apply Kd.R_drew));exact HO_4.out⟩,⟨au0⟩⟩
          ·rw [if_neg c13] at H
           exact absurd H (by simp)
         ·rw [if_neg c12] at H
          exact absurd H (by simp)
        ·replace c10 := Bool.eq_false_iff.mpr c10
         subst c10
         have H1 : (if (bt a0 x10_1) = 59 then (if (x4_1.length : Int) = 1 then (if x4_1.length < 17592186044416 then (screen_numbers.l0 kj7 a0 (x4_1 ++ [0]) (a0.size : Int) (wrap64 (x10_1 + 1))) else (none)) else (some (([] : List Int),false))) else (some (([] : List Int),false))) = some (r1,r2) := by rw [if_neg (show ¬ (false = true) by decide)] at H;exact H
         clear H
         have H := H1
         clear H1
         by_cases c19 : (bt a0 x10_1) = 59
         ·rw [if_pos c19] at H
          have c19b0 : ((bt a0 x10_1) == 59) = true := beq_iff_eq.mpr c19
          have c19b1 : ((bt a0 x10_1) != 59) = false := bne_eq_false_iff_eq.mpr c19
          clear c19
          by_cases c20 : (x4_1.length : Int) = 1
          ·rw [if_pos c20] at H
           have c20b0 : ((x4_1.length : Int) == 1) = true := beq_iff_eq.mpr c20
           have c20b1 : ((x4_1.length : Int) != 1) = false := bne_eq_false_iff_eq.mpr c20
           clear c20
           by_cases c21 : x4_1.length < 17592186044416
           ·rw [if_pos c21] at H
            have LMc21 := Aside0.mk c21
            clear c21
            obtain ⟨y123,hy123⟩ : ∃ y_ : List Int,y_ = (x4_1 ++ [0]) := ⟨_,rfl⟩
            replace H : (screen_numbers.l0 kj7 a0 y123 (a0.size : Int) (wrap64 (x10_1 + 1))) = some (r1,r2) := by first | (rw [hy123];with_reducible exact H) | (have H2_ := (Option.bind_some _ _).symm.trans H;rw [hy123];with_reducible exact H2_) | (have H2_ := (Option.bind_some _ _).symm.trans H;with_reducible exact H2_) | with_reducible exact H | (rw [hy123];exact H) | exact H
            have Ny123 := Aside0.mk hy123
            clear hy123
            have H' := Aside0.mk H
            clear H
            obtain ⟨Ao22,co22,eo22⟩ := Kd.R_slice HO_4.out
            subst eo22
            go_wp2_with (first | ((with_reducible refine gate_builtin (b := .append) (xs := #[.tmp 48,.tmp 49]) rfl ?_);(try (refine gate_guard (by rfl) ?_;dsimp only));at_builtin;refine Kd.R_append (Kd.int .i64) (w0 := w) w.heap.size rfl (.tmp 48) (.tmp 49) 48 3 (.int .i64 0) 8 rfl Tryd.underlying48 info3 rfl (by decide) (by omega) (.slice Ao22 x4_1.length co22) x4_1 0 [.int .i64 0] (fun _ => True) (fun _ => False) rfl rfl ?aP (fun _ hk => hk.elim) ?aF ?aO ?aB ?aS ?aL ?_;(case aP => exact rfl);(case aB => exact au0);(case aF => exact (fun _ _ => trivial));(case aO => exact (by (with_reducible repeat (first | apply Kd.R_alloc | apply Kd.R_drewN | apply Kd.R_drew));exact HO_4.out));(case aS => exact (below_size au0));(case aL => have := LMc21.out;omega);intro v124 w23 ho hb hg hat;rw [← Ny123.out] at ho;have n0_ := Aside0.mk (hb);have n1_ := Aside0.mk (ho);clear HB;clear HO_4;have HB := n0_;have HO125 := n1_;clear n0_ n1_;clear ho hb hg hat))
            go_roundg kj7
            case measure => have := HK1.out;have := HJ7.out;omega
            case rel => exact ⟨(y123),(wrap64 (x10_1 + 1)),au7,H',⟨by have := HK1.out;have := HJ7.out;omega⟩,⟨by (with_reducible repeat (first | apply Kd.R_alloc | apply Kd.R_drewN | apply Kd.R_drew));exact HO125.out⟩,⟨au0⟩⟩
           ·rw [if_neg c21] at H
            exact absurd H (by simp)
          ·rw [if_neg c20] at H
           have c20b0 : ((x4_1.length : Int) == 1) = false := beq_eq_false_iff_ne.mpr c20
           have c20b1 : ((x4_1.length : Int) != 1) = true := bne_iff_ne.mpr c20
           simp only [Option.some.injEq,Prod.mk.injEq] at H
           obtain ⟨rfl,rfl⟩ := H
           obtain ⟨Ao24,co24,eo24⟩ := Kd.R_slice HO_4.out
           subst eo24
           go_wp2
           go_ret2
           exact ⟨_,by first | rfl | (simp [errW_none,errW_some] <;> rfl) | (simp [*,errW_none,errW_some] <;> rfl),by first | exact Kd.R_nil _ _ _ _ _ | exact Kd.N_nil _ _ _ _ _ | exact Kd.V_nil _ _ _ _ _ | exact Kd.Q_nil _ _ _ _ _ | exact Kd.S_nil _ _ _ _ _,au0⟩
         ·rw [if_neg c19] at H
          have c19b0 : ((bt a0 x10_1) == 59) = false := beq_eq_false_iff_ne.mpr c19
          have c19b1 : ((bt a0 x10_1) != 59) = true := bne_iff_ne.mpr c19
          simp only [Option.some.injEq,Prod.mk.injEq] at H
          obtain ⟨rfl,rfl⟩ := H
          go_wp2
          go_ret2
          exact ⟨_,by first | rfl | (simp [errW_none,errW_some] <;> rfl) | (simp [*,errW_none,errW_some] <;> rfl),by first | exact Kd.R_nil _ _ _ _ _ | exact Kd.N_nil _ _ _ _ _ | exact Kd.V_nil _ _ _ _ _ | exact Kd.Q_nil _ _ _ _ _ | exact Kd.S_nil _ _ _ _ _,au0⟩
     ·rw [if_neg c6] at H
      exact absurd H (by simp)
    ·rw [if_neg c5] at H
     exact absurd H (by simp)
   ·rw [if_neg c4] at H
    have c4b0 : decide (x10_1 < (a0.size : Int)) = false := decide_eq_false c4
    clear c4
    simp only [Option.some.injEq,Prod.mk.injEq] at H
    obtain ⟨rfl,rfl⟩ := H
    go_wp2
    go_ret2
    exact ⟨_,by first | rfl | (simp [errW_none,errW_some] <;> rfl) | (simp [*,errW_none,errW_some] <;> rfl),by (with_reducible repeat (first | apply Kd.R_alloc | apply Kd.R_drewN | apply Kd.R_drew));exact HO_4.out,au0⟩
end Go.Proofs.YtgdpnmikcopkmaaDoor.U
end
section
namespace Go.Proofs.YtgdpnmikcopkmaaDoor.Pu
open Go Go.RowKit Go.Proofs.YtgdpnmikcopkmaaDoor.Mu Go.Proofs.YtgdpnmikcopkmaaDoor.U Go.Proofs.YtgdpnmikcopkmaaDoorW.PrintWords Go.Proofs.YtgdpnmikcopkmaaDoorW.PrintLast Go.Proofs.YtgdpnmikcopkmaaDoorW.PrintMore
set_option linter.unusedVariables false
def numsR (o : Option (List Int)) : List Int × Bool := (o.getD [],o.isSome)
theorem mn_min (a b : Int) : mn a b = min a b := by unfold mn;omega
theorem nums_go (s : ByteArray) (hs : s.size ≤ 1099511627776) : ∀ (l : List UInt8) (i : Nat) (acc : List Int),s.data.toList.drop i = l → (∀ x ∈ acc,0 ≤ x ∧ x ≤ 65535) → 1 ≤ acc.length → acc.length ≤ 2 →
  Ev (fun k => screen_numbers.l0 k s acc s.size i) (numsR (numsGo l acc)) := by
 intro l
 induction l with
 | nil =>
  intro i acc h ha h1 h2
  have hi : s.size ≤ i := by
   have := List.drop_eq_nil_iff.1 h
   have hl : s.data.toList.length = s.size := by rw [← Lib.size_eq]
   omega
  exact Ev.step (fun k => screen_numbers.l0.eq_2 ..) (ev_neg (by omega) (Ev.now _))
 | cons c l ih =>
  intro i acc h ha h1 h2
  have hl : s.data.toList.length = s.size := by rw [← Lib.size_eq]
  have hi : i < s.size := by
   rcases Nat.lt_or_ge i s.size with h3 | h3
   ·exact h3
   ·rw [List.drop_eq_nil_of_le (by omega)] at h;cases h
  rw [List.drop_eq_getElem_cons (by omega)] at h
  injection h with hc hd
  have hb : bt s (i : Int) = (c.toNat : Int) := by
   unfold bt
   simp only [Int.toNat_natCast]
   rw [dif_pos hi,← hc]
   rfl
  have hcl := c.toNat_lt
  have hw1 : wrap64 ((acc.length : Int) - 1) = ((acc.length - 1 : Nat) : Int) := by rw [w64 (by omega) (by omega)];omega
  have hget : 0 ≤ acc.getD (acc.length - 1) 0 ∧ acc.getD (acc.length - 1) 0 ≤ 65535 := by
   rw [List.getD_eq_getElem?_getD,List.getElem?_eq_getElem (by omega)]
   exact ha _ (List.getElem_mem _)
  have hj : ∀ b : Bool,b = decide (48 ≤ c.toNat ∧ c.toNat ≤ 57) → Ev (fun k => screen_numbers.j1 k s acc (bt s i) s.size i b) (numsR (numsGo (c :: l) acc)) := by
   intro b hbv
   refine Ev.step (fun k => screen_numbers.j1.eq_2 ..) ?_
   unfold numsGo
   by_cases hcc : 48 ≤ c.toNat ∧ c.toNat ≤ 57
   ·rw [if_pos hcc]
    refine ev_pos (by rw [hbv];exact decide_eq_true hcc) ?_
    rw [hw1]
    refine ev_pos (by omega) (ev_pos (by omega) ?_)
    rw [hb,w64 (x := (i : Int) + 1) (by omega) (by omega),Int.toNat_natCast]
    have hrd : rd acc ((acc.length - 1 : Nat) : Int) = acc.getD (acc.length - 1) 0 := by unfold rd;rw [Int.toNat_natCast]
    rw [hrd,w64 (x := acc.getD (acc.length - 1) 0 * 10) (by omega) (by omega),show ((c.toNat : Int) - 48) % 256 = (c.toNat : Int) - 48 by omega,w64 (by omega) (by omega),mn_min]
    have := ih (i + 1) (acc.set (acc.length - 1) (min (acc.getD (acc.length - 1) 0 * 10 + ((c.toNat : Int) - 48)) 65535)) hd ?_ (by rw [List.length_set];exact h1) (by rw [List.length_set];exact h2)
    ·rwa [show ((i + 1 : Nat) : Int) = (i : Int) + 1 by omega] at this
    ·intro x hx
     rcases List.mem_or_eq_of_mem_set hx with hx | rfl
     ·exact ha x hx
     ·omega
   ·rw [if_neg hcc]
    refine ev_neg (by rw [hbv,decide_eq_false hcc];decide) ?_
    rw [hb]
    by_cases h59 : c.toNat = 59
    ·refine ev_pos (by omega) ?_
     by_cases hl1 : acc.length = 1
     ·rw [if_pos ⟨h59,hl1⟩]
      refine ev_pos (by omega) (ev_pos (by omega) ?_)
      rw [w64 (x := (i : Int) + 1) (by omega) (by omega)]
      have := ih (i + 1) (acc ++ [0]) hd ?_ (by simp) (by simp;omega)
      ·rwa [show ((i + 1 : Nat) : Int) = (i : Int) + 1 by omega] at this
      ·intro x hx
       rcases List.mem_append.1 hx with hx | hx
       ·exact ha x hx
       ·obtain rfl := List.mem_singleton.1 hx;omega
     ·rw [if_neg (fun hq => hl1 hq.2)]
      exact ev_neg (by omega) (Ev.now _)
    ·rw [if_neg (fun hq => h59 hq.1)]
     exact ev_neg (by omega) (Ev.now _)
  refine Ev.step (fun k => screen_numbers.l0.eq_2 ..) (ev_pos (by omega) (ev_pos (by omega) (ev_pos (by omega) ?_)))
  by_cases h48 : 48 ≤ c.toNat
  ·refine ev_pos (by rw [hb];omega) (hj _ ?_)
   rw [hb,Bool.eq_iff_iff,decide_eq_true_eq,decide_eq_true_eq]
   omega
  ·refine ev_neg (by rw [hb];omega) (hj _ ?_)
   rw [decide_eq_false (by omega)]
theorem nums_ans (s : ByteArray) (hs : s.size ≤ 1099511627776) : Ev (fun k => screen_numbers.f k s) (numsL s,numsB s) :=
 nums_go s hs s.data.toList 0 [0] rfl (by simp) (by simp) (by simp)
theorem numsL_ok (s : ByteArray) (h : numsB s = true) : (∀ x ∈ numsL s,0 ≤ x ∧ x ≤ 65535) ∧ 1 ≤ (numsL s).length ∧ (numsL s).length ≤ 2 := by
 unfold numsB at h
 obtain ⟨r,hr⟩ := Option.isSome_iff_exists.1 h
 unfold numsL
 rw [hr]
 exact numsGo_ok _ _ r hr (by simp) (by simp) (by simp)
theorem numsL_none (s : ByteArray) (h : numsB s = false) : numsL s = [] := by
 unfold numsB at h
 unfold numsL
 rw [Option.isSome_eq_false_iff,Option.isNone_iff_eq_none] at h
 rw [h];rfl
end Go.Proofs.YtgdpnmikcopkmaaDoor.Pu
end
