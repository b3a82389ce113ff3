/- What the law LayoutLays reaches of this seat's own texts, merged; what nothing uses is left out. -/
import Derived.Test.YtnpjaaldppemlaaDoorZLayoutLays0
import Derived.Test.YtnpjaaldppemlaaDoorZLayoutLays1
import Derived.Test.YtnpjaaldppemlaaDoorZLayoutLays2
import Derived.Test.YtnpjaaldppemlaaDoorZLayoutLays3
import Derived.Test.YtnpjaaldppemlaaDoorZLayoutLays4
section
namespace Go.Proofs.YtnpjaaldppemlaaDoor.U
open Go.RowKit Go.Proofs.YtnpjaaldppemlaaDoorW.PrintWords Go.Proofs.YtnpjaaldppemlaaDoorW.PrintLast Go.Proofs.YtnpjaaldppemlaaDoorW.PrintMore
attribute [local go_sem] max2_int min2_int max_two min_two max_three min_three max_four min_four   -- for this text's walks alone
set_option linter.unusedVariables false
set_option linter.unusedSimpArgs false
def cluster_made.f (k : Nat) (a0 : ByteArray) (a1 : Int) (a2 : Int) : Option (Int × Int × Int × Int) := (unit_At.f k a0 a1).bind fun bt418 => ((width_Class.f k bt418.1).bind fun t422 => ((width_Cells.f k bt418.1).bind fun t423 => (if bt418.1 = 13 then (if 0 ≤ (wrap64 (a1 + 1)) then (if (wrap64 (a1 + 1)) ≤ (a0.size : Int) then ((strings_HasPrefix.f (a0.extract ((wrap64 (a1 + 1)) : Int).toNat a0.size) (⟨#[10]⟩ : ByteArray)).bind fun t425 => (if t425 = true then (some (a1,a2,1,0)) else (some (a1,a2,t422,t423)))) else (none)) else (none)) else (some (a1,a2,t422,t423)))))
def cluster_made.T2 : Bool × List (List Nat × List Nat) := (true,[([],[]),([],[]),([],[]),([2],[2]),([3],[3]),([],[]),([5],[5]),([6,4],[6]),([0,1,4,7],[0,1,4,7]),([],[]),([9,8,7,0,1,2,3,4,5,6,7,8,9],[8,9])])
def cluster_made.B2 : List Nat := [0,0,0,4,12,0,32,124,255,0,1023]
theorem cluster_made.tab2 : rtab .any (opsOf Tryd.f53 2) = cluster_made.T2 := by kernel_rfl
theorem cluster_made.bits2 : waitsOk cluster_made.T2.2 cluster_made.B2 = true := by kernel_rfl
set_option maxHeartbeats 8000000 in
set_option maxRecDepth 100000 in
theorem cluster_made.calls (k : Nat) (a0 : ByteArray) (a1 : Int) (a2 : Int) (r1 : Int) (r2 : Int) (r3 : Int) (r4 : Int) (w : World) (hT : Lib.Utf8Tabs 0 1 w) (h : cluster_made.f k a0 a1 a2 = some (r1,r2,r3,r4)) :
  Calls Tryd.prog 53 #[.string a0,.int .i64 a1,.int .i64 a2] w fun e w' => e = .returned (.agg #[.int .i64 r1,.int .i64 r2,.int .i64 r3,.int .i64 r4]) ∧ Below w.heap.size w w' := by
 have hu60 := Tryd.underlying60
 have hu87 := Tryd.underlying87
 have HT := Aside0.mk hT
 clear hT
 have HB := Aside0.mk (Below.refl w.heap.size w)
 have H : ((unit_At.f k a0 a1).bind fun bt418 => ((width_Class.f k bt418.1).bind fun t422 => ((width_Cells.f k bt418.1).bind fun t423 => (if bt418.1 = 13 then (if 0 ≤ (wrap64 (a1 + 1)) then (if (wrap64 (a1 + 1)) ≤ (a0.size : Int) then ((strings_HasPrefix.f (a0.extract ((wrap64 (a1 + 1)) : Int).toNat a0.size) (⟨#[10]⟩ : ByteArray)).bind fun t425 => (if t425 = true then (some (a1,a2,1,0)) else (some (a1,a2,t422,t423)))) else (none)) else (none)) else (some (a1,a2,t422,t423)))))) = some (r1,r2,r3,r4) := h
 clear h
 replace H := Option.bind_eq_some_iff.mp H
 obtain ⟨⟨t418,t419,t420⟩,A40,H⟩ := H
 replace H : ((width_Class.f k t418).bind fun t422 => ((width_Cells.f k t418).bind fun t423 => (if t418 = 13 then (if 0 ≤ (wrap64 (a1 + 1)) then (if (wrap64 (a1 + 1)) ≤ (a0.size : Int) then ((strings_HasPrefix.f (a0.extract ((wrap64 (a1 + 1)) : Int).toNat a0.size) (⟨#[10]⟩ : ByteArray)).bind fun t425 => (if t425 = true then (some (a1,a2,1,0)) else (some (a1,a2,t422,t423)))) else (none)) else (none)) else (some (a1,a2,t422,t423))))) = some (r1,r2,r3,r4) := H
 have A4 := Aside0.mk A40
 clear A40
 replace H := Option.bind_eq_some_iff.mp H
 obtain ⟨t422,A50,H⟩ := H
 replace H : ((width_Cells.f k t418).bind fun t423 => (if t418 = 13 then (if 0 ≤ (wrap64 (a1 + 1)) then (if (wrap64 (a1 + 1)) ≤ (a0.size : Int) then ((strings_HasPrefix.f (a0.extract ((wrap64 (a1 + 1)) : Int).toNat a0.size) (⟨#[10]⟩ : ByteArray)).bind fun t425 => (if t425 = true then (some (a1,a2,1,0)) else (some (a1,a2,t422,t423)))) else (none)) else (none)) else (some (a1,a2,t422,t423)))) = some (r1,r2,r3,r4) := H
 have A5 := Aside0.mk A50
 clear A50
 replace H := Option.bind_eq_some_iff.mp H
 obtain ⟨t423,A60,H⟩ := H
 replace H : (if t418 = 13 then (if 0 ≤ (wrap64 (a1 + 1)) then (if (wrap64 (a1 + 1)) ≤ (a0.size : Int) then ((strings_HasPrefix.f (a0.extract ((wrap64 (a1 + 1)) : Int).toNat a0.size) (⟨#[10]⟩ : ByteArray)).bind fun t425 => (if t425 = true then (some (a1,a2,1,0)) else (some (a1,a2,t422,t423)))) else (none)) else (none)) else (some (a1,a2,t422,t423))) = some (r1,r2,r3,r4) := H
 have A6 := Aside0.mk A60
 clear A60
 go_enter Tryd.func53,Tryd.ntmps53
 try go_wp2_with (first | ((with_reducible refine gate_dst (N := 6) rfl ?_);refine box_event ?hg (N := 6) ?hd (cs := #[.int .i64 0,.int .i64 0,.int .i64 0,.int .i64 0]) (t := 60) ?hr ?_;(case hd => rfl);(case hg => rfl);(case hr => first | (go_simp;done) | (go_simp;rfl));intro gb417 hg w13 hbox hb;have n0_ := Aside0.mk (below_step au0 hb);have n1_ := Aside0.mk (hbox);have n2_ := Aside0.mk ((by rw [hg];exact (below_size au0) : w.heap.size ≤ gb417));have n3_ := Aside0.mk ((by rw [hg];exact (below_size au0) : w.heap.size ≤ gb417));clear HB;have HB := n0_;have BK417 := n1_;have GW417 := n2_;have GE417 := n3_;clear n0_ n1_ n2_ n3_;clear hb hbox hg) | ((with_reducible refine gate_callee (f := 61) rfl ?_);refine goesL_ (some 13) rfl rfl Tryd.func61 (by kernel_rfl) rfl #[.string a0,.int .i64 a1] rfl au1 ?_;(with_reducible refine (unit_At.calls k a0 a1 t418 t419 t420 _ ?side1 A4.out).mono ?_);(case side1 => exact tabs_below HT.out au25);rintro e w14 ⟨rfl,hb⟩;refine ⟨_,rfl,?_⟩;have n0_ := Aside0.mk (blk_below (g := gb417) (o := .cells #[.int .i64 0,.int .i64 0,.int .i64 0,.int .i64 0] 60 (0,0)) au5 hb);have n1_ := Aside0.mk (below_step au25 hb);clear BK417;clear HB;have BK417 := n0_;have HB := n1_;clear n0_ n1_;(try clear hb);(try clear hb2);(try clear hk);(try clear hi)) | ((with_reducible refine gate_dst (N := 7) rfl ?_);refine box_event ?hg (N := 7) ?hd (cs := #[.int .i32 0,.int .i64 0]) (t := 87) ?hr ?_;(case hd => rfl);(case hg => rfl);(case hr => first | (go_simp;done) | (go_simp;rfl));intro gb421 hg w15 hbox hb;have n0_ := Aside0.mk (blk_below (g := gb417) (o := .cells #[.int .i64 0,.int .i64 0,.int .i64 0,.int .i64 0] 60 (0,0)) au5 hb);have n1_ := Aside0.mk (below_step au25 hb);have n2_ := Aside0.mk (hbox);have n3_ := Aside0.mk ((by rw [hg];exact (below_size au25) : w.heap.size ≤ gb421));have n4_ := Aside0.mk ((by rw [hg];exact (below_size au25) : w.heap.size ≤ gb421));have n5_ := Aside0.mk ((by rw [hg];exact Nat.ne_of_lt (blk_lt (g := gb417) (o := .cells #[.int .i64 0,.int .i64 0,.int .i64 0,.int .i64 0] 60 (0,0)) au5) : gb417 ≠ gb421));have n6_ := Aside0.mk ((by rw [hg];exact Nat.ne_of_gt (blk_lt (g := gb417) (o := .cells #[.int .i64 0,.int .i64 0,.int .i64 0,.int .i64 0] 60 (0,0)) au5) : gb421 ≠ gb417));clear BK417;clear HB;have BK417 := n0_;have HB := n1_;have BK421 := n2_;have GW421 := n3_;have GE421 := n4_;have NB417_421 := n5_;have NB421_417 := n6_;clear n0_ n1_ n2_ n3_ n4_ n5_ n6_;clear hb hbox hg;have hnb16 := NB421_417.out;have hnc16 := NB417_421.out;have hcz17_0 : w15.cell? ⟨gb421,0,none⟩ = some (.int .i32 0) := (blk_cell BK421.out 0).trans rfl;have hcz17_1 : w15.cell? ⟨gb421,1,none⟩ = some (.int .i64 0) := (blk_cell BK421.out 1).trans rfl;have hfz17_0 := blk_frozen BK421.out 0;have hfz17_1 := blk_frozen BK421.out 1))
 have n0_ : Aside0 (((w15.setCell ⟨gb421,0,none⟩ (.int .i32 t418)).setCell ⟨gb421,1,none⟩ (.int .i64 t419)).heap[gb417]? = some (.cells #[.int .i64 0,.int .i64 0,.int .i64 0,.int .i64 0] 60 (0,0))) := ⟨by (with_reducible repeat (first | refine blk_drewN ?_ _ | refine blk_drew ?_ | refine blk_alloc ?_ _));refine blk_far ?_ NB417_421.out _;(with_reducible repeat (first | refine blk_drewN ?_ _ | refine blk_drew ?_ | refine blk_alloc ?_ _));refine blk_far ?_ NB417_421.out _;(with_reducible repeat (first | refine blk_drewN ?_ _ | refine blk_drew ?_ | refine blk_alloc ?_ _));exact BK417.out⟩
 have n1_ : Aside0 (((w15.setCell ⟨gb421,0,none⟩ (.int .i32 t418)).setCell ⟨gb421,1,none⟩ (.int .i64 t419)).heap[gb421]? = some (.cells #[.int .i32 t418,.int .i64 t419] 87 (0,0))) := ⟨by (with_reducible repeat (first | refine blk_drewN ?_ _ | refine blk_drew ?_ | refine blk_alloc ?_ _));refine blk_put (cs := #[.int .i32 t418,.int .i64 0]) ?_ 1 _ rfl;(with_reducible repeat (first | refine blk_drewN ?_ _ | refine blk_drew ?_ | refine blk_alloc ?_ _));refine blk_put (cs := #[.int .i32 0,.int .i64 0]) ?_ 0 _ rfl;(with_reducible repeat (first | refine blk_drewN ?_ _ | refine blk_drew ?_ | refine blk_alloc ?_ _));exact BK421.out⟩
 have n2_ : Aside0 (Below w.heap.size w ((w15.setCell ⟨gb421,0,none⟩ (.int .i32 t418)).setCell ⟨gb421,1,none⟩ (.int .i64 t419))) := ⟨by repeat (first | (with_reducible first | exact HB.out | apply below_alloc | apply pw_below_drewN | apply below_drew1 | refine below_set ?_ GE417.out | refine below_set ?_ GE421.out) | exact HB.out)⟩
 (try clear BK417)
 (try clear BK421)
 (try clear HB)
 generalize ((w15.setCell ⟨gb421,0,none⟩ (.int .i32 t418)).setCell ⟨gb421,1,none⟩ (.int .i64 t419)) = w18 at n0_ n1_ n2_ ⊢
 have BK417 := n0_
 have BK421 := n1_
 have HB := n2_
 clear n0_ n1_ n2_
 have n0_ := Aside0.mk (blk_drew BK417.out)
 have n1_ := Aside0.mk (blk_drew BK421.out)
 have n2_ := Aside0.mk (below_drew1 HB.out)
 clear BK417
 clear BK421
 clear HB
 have BK417 := n0_
 have BK421 := n1_
 have HB := n2_
 clear n0_ n1_ n2_
 refine start_ (n := 11) (S := fun w' => w'.cell? ⟨gb421,0,none⟩ = some (.int .i32 t418) ∧ w'.cell? ⟨gb421,1,none⟩ = some (.int .i64 t419)) (ds := []) #[false,false,false,false,false,false,false,false,false,false,false] (by kernel_rfl) rfl rfl ⟨(blk_cell BK421.out 0).trans rfl,(blk_cell BK421.out 1).trans rfl⟩ (fun hHeld => ?_);refine with_tabW cluster_made.tab2 cluster_made.bits2 (fun HT_ HW_ => ?_)
 generalize w18.drew = w19 at BK417 BK421 HB hHeld ⊢
 refine pure_ (i := 0) (N := some 16) (v := ?_) (a' := ?_) #[true,false,false,false,false,false,false,false,false,false,false] rfl rfl (any_of HT_.out (by kernel_rfl)) (fun _ _ _ h => h) (Or.inl ⟨by rfl,?_⟩) ?_ ?_
 rotate_left
 ·intro w'
  go_simp
  with_reducible rfl
 rotate_left
 ·simp only [Act.put,List.setIfInBounds_toArray,List.set_cons_zero,List.set_cons_succ,i64_w,i32_w]
  rfl
 refine pure_ (i := 1) (N := some 17) (v := ?_) (a' := ?_) #[true,true,false,false,false,false,false,false,false,false,false] rfl rfl (any_of HT_.out (by kernel_rfl)) (fun _ _ _ h => h) (Or.inl ⟨by rfl,?_⟩) ?_ ?_
 rotate_left
 ·intro w'
  go_simp
  with_reducible rfl
 rotate_left
 ·simp only [Act.put,List.setIfInBounds_toArray,List.set_cons_zero,List.set_cons_succ,i64_w,i32_w]
  rfl
 refine pure_ (i := 2) (N := some 18) (v := ?_) (a' := ?_) #[true,true,true,false,false,false,false,false,false,false,false] rfl rfl (any_of HT_.out (by kernel_rfl)) (fun _ _ _ h => h) (Or.inl ⟨by rfl,?_⟩) ?_ ?_
 rotate_left
 ·intro w'
  go_simp
  with_reducible rfl
 rotate_left
 ·simp only [Act.put,List.setIfInBounds_toArray,List.set_cons_zero,List.set_cons_succ,i64_w,i32_w]
  rfl
 refine pure_ (i := 5) (N := some 21) (v := ?_) (a' := ?_) #[true,true,true,false,false,true,false,false,false,false,false] rfl rfl (any_of HT_.out (by kernel_rfl)) (fun _ _ _ h => h) (Or.inl ⟨by rfl,?_⟩) ?_ ?_
 rotate_left
 ·intro w'
  go_simp
  with_reducible rfl
 rotate_left
 ·simp only [Act.put,List.setIfInBounds_toArray,List.set_cons_zero,List.set_cons_succ,i64_w,i32_w]
  rfl
 refine take_ (i := 3) (N := some 19) (v := ?_) (a' := ?_) #[true,true,true,true,false,true,false,false,false,false,false] rfl rfl (take_ofW HT_.out HW_.out (by kernel_rfl)) (fun _ _ _ h => h) (Or.inl ⟨by rfl,?_⟩) hHeld ?_ ?_
 rotate_left
 ·rintro w' ⟨s0,s1⟩
  go_simp
  with_reducible rfl
 rotate_left
 ·simp only [Act.put,List.setIfInBounds_toArray,List.set_cons_zero,List.set_cons_succ,i64_w,i32_w]
  rfl
 refine take_ (i := 6) (N := some 22) (v := ?_) (a' := ?_) #[true,true,true,true,false,true,true,false,false,false,false] rfl rfl (take_ofW HT_.out HW_.out (by kernel_rfl)) (fun _ _ _ h => h) (Or.inl ⟨by rfl,?_⟩) hHeld ?_ ?_
 rotate_left
 ·rintro w' ⟨s0,s1⟩
  go_simp
  with_reducible rfl
 rotate_left
 ·simp only [Act.put,List.setIfInBounds_toArray,List.set_cons_zero,List.set_cons_succ,i64_w,i32_w]
  rfl
 refine join_ (σ := Nat) 1 #[true,true,true,true,true,true,true,true,true,true,false] (fun s_ => [(20,.int .i64 t422),(23,.int .i64 t423),(9,.pointer (some ⟨s_,0,none⟩)),(24,.agg #[.int .i64 a1,.int .i64 a2,.int .i64 t422,.int .i64 t423])]) (fun s_ w' => (w'.cell? ⟨gb421,0,none⟩ = some (.int .i32 t418) ∧ w'.cell? ⟨gb421,1,none⟩ = some (.int .i64 t419)) ∧ (w'.heap[gb417]? = some (.cells #[.int .i64 0,.int .i64 0,.int .i64 0,.int .i64 0] 60 (0,0))) ∧ (w'.heap[gb421]? = some (.cells #[.int .i32 t418,.int .i64 t419] 87 (0,0))) ∧ (w'.heap[s_]? = some (.cells #[.int .i64 0,.int .i64 0,.int .i64 0,.int .i64 0] 60 (0,0))) ∧ (w.heap.size ≤ s_) ∧ (w.heap.size ≤ s_) ∧ (gb417 ≠ s_) ∧ (s_ ≠ gb417) ∧ (gb421 ≠ s_) ∧ (s_ ≠ gb421) ∧ (Below w.heap.size w w')) ?_ ?_
 rotate_left
 ·intro hCont
  refine two_ (i := 4) (j := 9) (Ni := some 20) (Nj := some 9) #[true,true,true,true,true,true,true,false,false,false,false] #[true,true,true,true,false,true,true,false,false,true,false] rfl rfl rfl rfl (two_of HT_.out (by kernel_rfl)) (by decide) (by decide) (fun K hK => ?_) (fun K hK => ?_)
  ·skip
   refine goes_ Tryd.func71 (by kernel_rfl) rfl #[.int .i32 t418] (by rfl) rfl rfl au1 ?_
   with_reducible refine (width_Class.calls k t418 t422 _ A5.out).mono ?_
   rintro e w20 ⟨rfl,hb⟩
   refine ⟨_,rfl,?_⟩
   have n0_ := Aside0.mk (blk_below (g := gb417) (o := .cells #[.int .i64 0,.int .i64 0,.int .i64 0,.int .i64 0] 60 (0,0)) au5 hb)
   have n1_ := Aside0.mk (blk_below (g := gb421) (o := .cells #[.int .i32 t418,.int .i64 t419] 87 (0,0)) au7 hb)
   have n2_ := Aside0.mk (below_step au6 hb)
   clear BK417
   clear BK421
   clear HB
   have BK417 := n0_
   have BK421 := n1_
   have HB := n2_
   clear n0_ n1_ n2_
   (try clear hb)
   (try clear hb2)
   (try clear hk)
   (try clear hi)
   refine hK.out _ _ ⟨(blk_cell BK421.out 0).trans rfl,(blk_cell BK421.out 1).trans rfl⟩ (fun hHeld => ?_)
   clear hK K
   refine norm_ (a' := ?_) ?_ ?_
   rotate_left
   ·show Act.put _ (some 20) _ = _
    simp only [Act.put,List.setIfInBounds_toArray,List.set_cons_zero,List.set_cons_succ,i64_w,i32_w]
    rfl
   refine two_ (i := 7) (j := 9) (Ni := some 23) (Nj := some 9) #[true,true,true,true,true,true,true,true,false,false,false] #[true,true,true,true,true,true,true,false,false,true,false] rfl rfl rfl rfl (two_of HT_.out (by kernel_rfl)) (by decide) (by decide) (fun K hK => ?_) (fun K hK => ?_)
   ·skip
    refine goes_ Tryd.func72 (by kernel_rfl) rfl #[.int .i32 t418] (by rfl) rfl rfl au1 ?_
    with_reducible refine (width_Cells.calls k t418 t423 _ A6.out).mono ?_
    rintro e w21 ⟨rfl,hb⟩
    refine ⟨_,rfl,?_⟩
    have n0_ := Aside0.mk (blk_below (g := gb417) (o := .cells #[.int .i64 0,.int .i64 0,.int .i64 0,.int .i64 0] 60 (0,0)) au5 hb)
    have n1_ := Aside0.mk (blk_below (g := gb421) (o := .cells #[.int .i32 t418,.int .i64 t419] 87 (0,0)) au7 hb)
    have n2_ := Aside0.mk (below_step au6 hb)
    clear BK417
    clear BK421
    clear HB
    have BK417 := n0_
    have BK421 := n1_
    have HB := n2_
    clear n0_ n1_ n2_
    (try clear hb)
    (try clear hb2)
    (try clear hk)
    (try clear hi)
    refine hK.out _ _ ⟨(blk_cell BK421.out 0).trans rfl,(blk_cell BK421.out 1).trans rfl⟩ (fun hHeld => ?_)
    clear hK K
    refine norm_ (a' := ?_) ?_ ?_
    rotate_left
    ·show Act.put _ (some 23) _ = _
     simp only [Act.put,List.setIfInBounds_toArray,List.set_cons_zero,List.set_cons_succ,i64_w,i32_w]
     rfl
    refine pure_ (i := 8) (N := some 24) (v := ?_) (a' := ?_) #[true,true,true,true,true,true,true,true,true,false,false] rfl rfl (any_of HT_.out (by kernel_rfl)) (fun _ _ _ h => h) (Or.inl ⟨by rfl,?_⟩) ?_ ?_
    rotate_left
    ·intro w'
     go_simp
     with_reducible rfl
    rotate_left
    ·simp only [Act.put,List.setIfInBounds_toArray,List.set_cons_zero,List.set_cons_succ,i64_w,i32_w]
     rfl
    refine one_ (i := 9) (N := some 9) #[true,true,true,true,true,true,true,true,true,true,false] rfl rfl (one_of HT_.out (by kernel_rfl)) (by decide) (fun K hK => ?_)
    refine box_step ?hg (N := 9) ?hd (cs := #[.int .i64 0,.int .i64 0,.int .i64 0,.int .i64 0]) (t := 60) ?hr ?_;(case hd => rfl);(case hg => rfl);(case hr => first | (go_simp;done) | (go_simp;rfl))
    intro gb424 hg w22 hbox hb
    have n0_ := Aside0.mk (blk_below (g := gb417) (o := .cells #[.int .i64 0,.int .i64 0,.int .i64 0,.int .i64 0] 60 (0,0)) au5 hb)
    have n1_ := Aside0.mk (blk_below (g := gb421) (o := .cells #[.int .i32 t418,.int .i64 t419] 87 (0,0)) au7 hb)
    have n2_ := Aside0.mk (below_step au6 hb)
    have n3_ := Aside0.mk (hbox)
    have n4_ := Aside0.mk ((by rw [hg];exact (below_size au6) : w.heap.size ≤ gb424))
    have n5_ := Aside0.mk ((by rw [hg];exact (below_size au6) : w.heap.size ≤ gb424))
    have n6_ := Aside0.mk ((by rw [hg];exact Nat.ne_of_lt (blk_lt (g := gb417) (o := .cells #[.int .i64 0,.int .i64 0,.int .i64 0,.int .i64 0] 60 (0,0)) au5) : gb417 ≠ gb424))
    have n7_ := Aside0.mk ((by rw [hg];exact Nat.ne_of_gt (blk_lt (g := gb417) (o := .cells #[.int .i64 0,.int .i64 0,.int .i64 0,.int .i64 0] 60 (0,0)) au5) : gb424 ≠ gb417))
    have n8_ := Aside0.mk ((by rw [hg];exact Nat.ne_of_lt (blk_lt (g := gb421) (o := .cells #[.int .i32 t418,.int .i64 t419] 87 (0,0)) au7) : gb421 ≠ gb424))
    have n9_ := Aside0.mk ((by rw [hg];exact Nat.ne_of_gt (blk_lt (g := gb421) (o := .cells #[.int .i32 t418,.int .i64 t419] 87 (0,0)) au7) : gb424 ≠ gb421))
    clear BK417
    clear BK421
    clear HB
    have BK417 := n0_
    have BK421 := n1_
    have HB := n2_
    have BK424 := n3_
    have GW424 := n4_
    have GE424 := n5_
    have NB417_424 := n6_
    have NB424_417 := n7_
    have NB421_424 := n8_
    have NB424_421 := n9_
    clear n0_ n1_ n2_ n3_ n4_ n5_ n6_ n7_ n8_ n9_
    clear hb hbox hg
    refine hK.out _ _ ⟨(blk_cell BK421.out 0).trans rfl,(blk_cell BK421.out 1).trans rfl⟩ (fun hHeld => ?_)
    clear hK K
    refine norm_ (a' := ?_) ?_ ?_
    rotate_left
    ·show Act.put _ (some 9) _ = _
     simp only [Act.put,List.setIfInBounds_toArray,List.set_cons_zero,List.set_cons_succ,i64_w,i32_w]
     rfl
    exact norm_ (by simp only [putAll,Act.put,List.setIfInBounds_toArray,List.set_cons_zero,List.set_cons_succ]) (hCont (gb424) _ ⟨hHeld,au5,au7,au29,GW424.out,GE424.out,NB417_424.out,NB424_417.out,NB421_424.out,NB424_421.out,au10⟩)
   ·skip
    refine box_step ?hg (N := 9) ?hd (cs := #[.int .i64 0,.int .i64 0,.int .i64 0,.int .i64 0]) (t := 60) ?hr ?_;(case hd => rfl);(case hg => rfl);(case hr => first | (go_simp;done) | (go_simp;rfl))
    intro gb424 hg w21 hbox hb
    have n0_ := Aside0.mk (blk_below (g := gb417) (o := .cells #[.int .i64 0,.int .i64 0,.int .i64 0,.int .i64 0] 60 (0,0)) au5 hb)
    have n1_ := Aside0.mk (blk_below (g := gb421) (o := .cells #[.int .i32 t418,.int .i64 t419] 87 (0,0)) au7 hb)
    have n2_ := Aside0.mk (below_step au6 hb)
    have n3_ := Aside0.mk (hbox)
    have n4_ := Aside0.mk ((by rw [hg];exact (below_size au6) : w.heap.size ≤ gb424))
    have n5_ := Aside0.mk ((by rw [hg];exact (below_size au6) : w.heap.size ≤ gb424))
    have n6_ := Aside0.mk ((by rw [hg];exact Nat.ne_of_lt (blk_lt (g := gb417) (o := .cells #[.int .i64 0,.int .i64 0,.int .i64 0,.int .i64 0] 60 (0,0)) au5) : gb417 ≠ gb424))
    have n7_ := Aside0.mk ((by rw [hg];exact Nat.ne_of_gt (blk_lt (g := gb417) (o := .cells #[.int .i64 0,.int .i64 0,.int .i64 0,.int .i64 0] 60 (0,0)) au5) : gb424 ≠ gb417))
    have n8_ := Aside0.mk ((by rw [hg];exact Nat.ne_of_lt (blk_lt (g := gb421) (o := .cells #[.int .i32 t418,.int .i64 t419] 87 (0,0)) au7) : gb421 ≠ gb424))
    have n9_ := Aside0.mk ((by rw [hg];exact Nat.ne_of_gt (blk_lt (g := gb421) (o := .cells #[.int .i32 t418,.int .i64 t419] 87 (0,0)) au7) : gb424 ≠ gb421))
    clear BK417
    clear BK421
    clear HB
    have BK417 := n0_
    have BK421 := n1_
    have HB := n2_
    have BK424 := n3_
    have GW424 := n4_
    have GE424 := n5_
    have NB417_424 := n6_
    have NB424_417 := n7_
    have NB421_424 := n8_
    have NB424_421 := n9_
    clear n0_ n1_ n2_ n3_ n4_ n5_ n6_ n7_ n8_ n9_
    clear hb hbox hg
    refine hK.out _ _ ⟨(blk_cell BK421.out 0).trans rfl,(blk_cell BK421.out 1).trans rfl⟩ (fun hHeld => ?_)
    clear hK K
    refine norm_ (a' := ?_) ?_ ?_
    rotate_left
    ·show Act.put _ (some 9) _ = _
     simp only [Act.put,List.setIfInBounds_toArray,List.set_cons_zero,List.set_cons_succ,i64_w,i32_w]
     rfl
    refine one_ (i := 7) (N := some 23) #[true,true,true,true,true,true,true,true,false,true,false] rfl rfl (one_of HT_.out (by kernel_rfl)) (by decide) (fun K hK => ?_)
    refine goes_ Tryd.func72 (by kernel_rfl) rfl #[.int .i32 t418] (by rfl) rfl rfl au1 ?_
    with_reducible refine (width_Cells.calls k t418 t423 _ A6.out).mono ?_
    rintro e w22 ⟨rfl,hb⟩
    refine ⟨_,rfl,?_⟩
    have n0_ := Aside0.mk (blk_below (g := gb417) (o := .cells #[.int .i64 0,.int .i64 0,.int .i64 0,.int .i64 0] 60 (0,0)) au5 hb)
    have n1_ := Aside0.mk (blk_below (g := gb421) (o := .cells #[.int .i32 t418,.int .i64 t419] 87 (0,0)) au7 hb)
    have n2_ := Aside0.mk (blk_below (g := gb424) (o := .cells #[.int .i64 0,.int .i64 0,.int .i64 0,.int .i64 0] 60 (0,0)) au29 hb)
    have n3_ := Aside0.mk (below_step au10 hb)
    clear BK417
    clear BK421
    clear BK424
    clear HB
    have BK417 := n0_
    have BK421 := n1_
    have BK424 := n2_
    have HB := n3_
    clear n0_ n1_ n2_ n3_
    (try clear hb)
    (try clear hb2)
    (try clear hk)
    (try clear hi)
    refine hK.out _ _ ⟨(blk_cell BK421.out 0).trans rfl,(blk_cell BK421.out 1).trans rfl⟩ (fun hHeld => ?_)
    clear hK K
    refine norm_ (a' := ?_) ?_ ?_
    rotate_left
    ·show Act.put _ (some 23) _ = _
     simp only [Act.put,List.setIfInBounds_toArray,List.set_cons_zero,List.set_cons_succ,i64_w,i32_w]
     rfl
    refine pure_ (i := 8) (N := some 24) (v := ?_) (a' := ?_) #[true,true,true,true,true,true,true,true,true,true,false] rfl rfl (any_of HT_.out (by kernel_rfl)) (fun _ _ _ h => h) (Or.inl ⟨by rfl,?_⟩) ?_ ?_
    rotate_left
    ·intro w'
     go_simp
     with_reducible rfl
    rotate_left
    ·simp only [Act.put,List.setIfInBounds_toArray,List.set_cons_zero,List.set_cons_succ,i64_w,i32_w]
     rfl
    exact norm_ (by simp only [putAll,Act.put,List.setIfInBounds_toArray,List.set_cons_zero,List.set_cons_succ]) (hCont (gb424) _ ⟨hHeld,au5,au7,au29,GW424.out,GE424.out,NB417_424.out,NB424_417.out,NB421_424.out,NB424_421.out,au10⟩)
  ·skip
   refine box_step ?hg (N := 9) ?hd (cs := #[.int .i64 0,.int .i64 0,.int .i64 0,.int .i64 0]) (t := 60) ?hr ?_;(case hd => rfl);(case hg => rfl);(case hr => first | (go_simp;done) | (go_simp;rfl))
   intro gb424 hg w20 hbox hb
   have n0_ := Aside0.mk (blk_below (g := gb417) (o := .cells #[.int .i64 0,.int .i64 0,.int .i64 0,.int .i64 0] 60 (0,0)) au5 hb)
   have n1_ := Aside0.mk (blk_below (g := gb421) (o := .cells #[.int .i32 t418,.int .i64 t419] 87 (0,0)) au7 hb)
   have n2_ := Aside0.mk (below_step au6 hb)
   have n3_ := Aside0.mk (hbox)
   have n4_ := Aside0.mk ((by rw [hg];exact (below_size au6) : w.heap.size ≤ gb424))
   have n5_ := Aside0.mk ((by rw [hg];exact (below_size au6) : w.heap.size ≤ gb424))
   have n6_ := Aside0.mk ((by rw [hg];exact Nat.ne_of_lt (blk_lt (g := gb417) (o := .cells #[.int .i64 0,.int .i64 0,.int .i64 0,.int .i64 0] 60 (0,0)) au5) : gb417 ≠ gb424))
   have n7_ := Aside0.mk ((by rw [hg];exact Nat.ne_of_gt (blk_lt (g := gb417) (o := .cells #[.int .i64 0,.int .i64 0,.int .i64 0,.int .i64 0] 60 (0,0)) au5) : gb424 ≠ gb417))
   have n8_ := Aside0.mk ((by rw [hg];exact Nat.ne_of_lt (blk_lt (g := gb421) (o := .cells #[.int .i32 t418,.int .i64 t419] 87 (0,0)) au7) : gb421 ≠ gb424))
   have n9_ := Aside0.mk ((by rw [hg];exact Nat.ne_of_gt (blk_lt (g := gb421) (o := .cells #[.int .i32 t418,.int .i64 t419] 87 (0,0)) au7) : gb424 ≠ gb421))
   clear BK417
   clear BK421
   clear HB
   have BK417 := n0_
   have BK421 := n1_
   have HB := n2_
   have BK424 := n3_
   have GW424 := n4_
   have GE424 := n5_
   have NB417_424 := n6_
   have NB424_417 := n7_
   have NB421_424 := n8_
   have NB424_421 := n9_
   clear n0_ n1_ n2_ n3_ n4_ n5_ n6_ n7_ n8_ n9_
   clear hb hbox hg
   refine hK.out _ _ ⟨(blk_cell BK421.out 0).trans rfl,(blk_cell BK421.out 1).trans rfl⟩ (fun hHeld => ?_)
   clear hK K
   refine norm_ (a' := ?_) ?_ ?_
   rotate_left
   ·show Act.put _ (some 9) _ = _
    simp only [Act.put,List.setIfInBounds_toArray,List.set_cons_zero,List.set_cons_succ,i64_w,i32_w]
    rfl
   refine one_ (i := 4) (N := some 20) #[true,true,true,true,true,true,true,false,false,true,false] rfl rfl (one_of HT_.out (by kernel_rfl)) (by decide) (fun K hK => ?_)
   refine goes_ Tryd.func71 (by kernel_rfl) rfl #[.int .i32 t418] (by rfl) rfl rfl au1 ?_
   with_reducible refine (width_Class.calls k t418 t422 _ A5.out).mono ?_
   rintro e w21 ⟨rfl,hb⟩
   refine ⟨_,rfl,?_⟩
   have n0_ := Aside0.mk (blk_below (g := gb417) (o := .cells #[.int .i64 0,.int .i64 0,.int .i64 0,.int .i64 0] 60 (0,0)) au5 hb)
   have n1_ := Aside0.mk (blk_below (g := gb421) (o := .cells #[.int .i32 t418,.int .i64 t419] 87 (0,0)) au7 hb)
   have n2_ := Aside0.mk (blk_below (g := gb424) (o := .cells #[.int .i64 0,.int .i64 0,.int .i64 0,.int .i64 0] 60 (0,0)) au29 hb)
   have n3_ := Aside0.mk (below_step au10 hb)
   clear BK417
   clear BK421
   clear BK424
   clear HB
   have BK417 := n0_
   have BK421 := n1_
   have BK424 := n2_
   have HB := n3_
   clear n0_ n1_ n2_ n3_
   (try clear hb)
   (try clear hb2)
   (try clear hk)
   (try clear hi)
   refine hK.out _ _ ⟨(blk_cell BK421.out 0).trans rfl,(blk_cell BK421.out 1).trans rfl⟩ (fun hHeld => ?_)
   clear hK K
   refine norm_ (a' := ?_) ?_ ?_
   rotate_left
   ·show Act.put _ (some 20) _ = _
    simp only [Act.put,List.setIfInBounds_toArray,List.set_cons_zero,List.set_cons_succ,i64_w,i32_w]
    rfl
   refine one_ (i := 7) (N := some 23) #[true,true,true,true,true,true,true,true,false,true,false] rfl rfl (one_of HT_.out (by kernel_rfl)) (by decide) (fun K hK => ?_)
   refine goes_ Tryd.func72 (by kernel_rfl) rfl #[.int .i32 t418] (by rfl) rfl rfl au1 ?_
   with_reducible refine (width_Cells.calls k t418 t423 _ A6.out).mono ?_
   rintro e w22 ⟨rfl,hb⟩
   refine ⟨_,rfl,?_⟩
   have n0_ := Aside0.mk (blk_below (g := gb417) (o := .cells #[.int .i64 0,.int .i64 0,.int .i64 0,.int .i64 0] 60 (0,0)) au5 hb)
   have n1_ := Aside0.mk (blk_below (g := gb421) (o := .cells #[.int .i32 t418,.int .i64 t419] 87 (0,0)) au7 hb)
   have n2_ := Aside0.mk (blk_below (g := gb424) (o := .cells #[.int .i64 0,.int .i64 0,.int .i64 0,.int .i64 0] 60 (0,0)) au29 hb)
   have n3_ := Aside0.mk (below_step au10 hb)
   clear BK417
   clear BK421
   clear BK424
   clear HB
   have BK417 := n0_
   have BK421 := n1_
   have BK424 := n2_
   have HB := n3_
   clear n0_ n1_ n2_ n3_
   (try clear hb)
   (try clear hb2)
   (try clear hk)
   (try clear hi)
   refine hK.out _ _ ⟨(blk_cell BK421.out 0).trans rfl,(blk_cell BK421.out 1).trans rfl⟩ (fun hHeld => ?_)
   clear hK K
   refine norm_ (a' := ?_) ?_ ?_
   rotate_left
   ·show Act.put _ (some 23) _ = _
    simp only [Act.put,List.setIfInBounds_toArray,List.set_cons_zero,List.set_cons_succ,i64_w,i32_w]
    rfl
   refine pure_ (i := 8) (N := some 24) (v := ?_) (a' := ?_) #[true,true,true,true,true,true,true,true,true,true,false] rfl rfl (any_of HT_.out (by kernel_rfl)) (fun _ _ _ h => h) (Or.inl ⟨by rfl,?_⟩) ?_ ?_
   rotate_left
   ·intro w'
    go_simp
    with_reducible rfl
   rotate_left
   ·simp only [Act.put,List.setIfInBounds_toArray,List.set_cons_zero,List.set_cons_succ,i64_w,i32_w]
    rfl
   exact norm_ (by simp only [putAll,Act.put,List.setIfInBounds_toArray,List.set_cons_zero,List.set_cons_succ]) (hCont (gb424) _ ⟨hHeld,au5,au7,au29,GW424.out,GE424.out,NB417_424.out,NB424_417.out,NB421_424.out,NB424_421.out,au10⟩)
 rintro gb424 w23 ⟨hS_,h0_,h1_,h2_,h3_,h4_,h5_,h6_,h7_,h8_,h9_⟩
 have n0_ : Aside0 (w23.heap[gb417]? = some (.cells #[.int .i64 0,.int .i64 0,.int .i64 0,.int .i64 0] 60 (0,0))) := ⟨h0_⟩
 have n1_ : Aside0 (w23.heap[gb421]? = some (.cells #[.int .i32 t418,.int .i64 t419] 87 (0,0))) := ⟨h1_⟩
 have n2_ : Aside0 (w23.heap[gb424]? = some (.cells #[.int .i64 0,.int .i64 0,.int .i64 0,.int .i64 0] 60 (0,0))) := ⟨h2_⟩
 have n3_ : Aside0 (w.heap.size ≤ gb424) := ⟨h3_⟩
 have n4_ : Aside0 (w.heap.size ≤ gb424) := ⟨h4_⟩
 have n5_ : Aside0 (gb417 ≠ gb424) := ⟨h5_⟩
 have n6_ : Aside0 (gb424 ≠ gb417) := ⟨h6_⟩
 have n7_ : Aside0 (gb421 ≠ gb424) := ⟨h7_⟩
 have n8_ : Aside0 (gb424 ≠ gb421) := ⟨h8_⟩
 have n9_ : Aside0 (Below w.heap.size w w23) := ⟨h9_⟩
 clear BK417
 clear BK421
 clear HB
 clear h0_ h1_ h2_ h3_ h4_ h5_ h6_ h7_ h8_ h9_
 have BK417 := n0_
 have BK421 := n1_
 have BK424 := n2_
 have GW424 := n3_
 have GE424 := n4_
 have NB417_424 := n5_
 have NB424_417 := n6_
 have NB421_424 := n7_
 have NB424_421 := n8_
 have HB := n9_
 clear n0_ n1_ n2_ n3_ n4_ n5_ n6_ n7_ n8_ n9_
 have hHeld : w23.cell? ⟨gb421,0,none⟩ = some (.int .i32 t418) ∧ w23.cell? ⟨gb421,1,none⟩ = some (.int .i64 t419) := hS_
 refine norm_ (a' := ?_) ?_ ?_
 rotate_left
 ·simp only [putAll,Act.put,List.setIfInBounds_toArray,List.set_cons_zero,List.set_cons_succ]
  rfl
 refine one_ (i := 10) (N := none) #[true,true,true,true,true,true,true,true,true,true,true] rfl rfl (one_of HT_.out (by kernel_rfl)) (by decide) (fun K hK => ?_)
 have hs24 : w23.cell? ⟨gb424,0,none⟩ = some (.int .i64 0) := (blk_cell BK424.out 0).trans rfl
 have hfs24 := blk_frozen BK424.out 0
 have hns24_0 := NB417_424.out
 have hns24_1 := NB421_424.out
 have hms24_0 := NB424_417.out
 have hms24_1 := NB424_421.out
 have hs25 : w23.cell? ⟨gb424,1,none⟩ = some (.int .i64 0) := (blk_cell BK424.out 1).trans rfl
 have hfs25 := blk_frozen BK424.out 1
 have hns25_0 := NB417_424.out
 have hns25_1 := NB421_424.out
 have hms25_0 := NB424_417.out
 have hms25_1 := NB424_421.out
 have hs26 : w23.cell? ⟨gb424,2,none⟩ = some (.int .i64 0) := (blk_cell BK424.out 2).trans rfl
 have hfs26 := blk_frozen BK424.out 2
 have hns26_0 := NB417_424.out
 have hns26_1 := NB421_424.out
 have hms26_0 := NB424_417.out
 have hms26_1 := NB424_421.out
 have hs27 : w23.cell? ⟨gb424,3,none⟩ = some (.int .i64 0) := (blk_cell BK424.out 3).trans rfl
 have hfs27 := blk_frozen BK424.out 3
 have hns27_0 := NB417_424.out
 have hns27_1 := NB421_424.out
 have hms27_0 := NB424_417.out
 have hms27_1 := NB424_421.out
 refine skip_ (w1 := ?_) (by rfl) rfl ?_ ?_
 rotate_left
 ·go_simp
  rfl
 refine hK.out _ _ ⟨((cell_far (p := ⟨gb424,_,none⟩) NB421_424.out _).trans (((cell_far (p := ⟨gb424,_,none⟩) NB421_424.out _).trans (((cell_far (p := ⟨gb424,_,none⟩) NB421_424.out _).trans (((cell_far (p := ⟨gb424,_,none⟩) NB421_424.out _).trans (hHeld.1)))))))),((cell_far (p := ⟨gb424,_,none⟩) NB421_424.out _).trans (((cell_far (p := ⟨gb424,_,none⟩) NB421_424.out _).trans (((cell_far (p := ⟨gb424,_,none⟩) NB421_424.out _).trans (((cell_far (p := ⟨gb424,_,none⟩) NB421_424.out _).trans (hHeld.2))))))))⟩ (fun hHeld => ?_)
 clear hK K
 refine done_ (done_of HT_.out (by kernel_rfl)) ?_
 have m0 : ((((w23.setCell ⟨gb424,0,none⟩ (.int .i64 a1)).setCell ⟨gb424,1,none⟩ (.int .i64 a2)).setCell ⟨gb424,2,none⟩ (.int .i64 t422)).setCell ⟨gb424,3,none⟩ (.int .i64 t423)).heap[gb424]? = some (.cells #[.int .i64 a1,.int .i64 a2,.int .i64 t422,.int .i64 t423] 60 (0,0)) :=
  blk_put (cs := #[.int .i64 a1,.int .i64 a2,.int .i64 t422,.int .i64 0]) (blk_put (cs := #[.int .i64 a1,.int .i64 a2,.int .i64 0,.int .i64 0]) (blk_put (cs := #[.int .i64 a1,.int .i64 0,.int .i64 0,.int .i64 0]) (blk_put (cs := #[.int .i64 0,.int .i64 0,.int .i64 0,.int .i64 0]) BK424.out 0 _ rfl) 1 _ rfl) 2 _ rfl) 3 _ rfl
 have m1 : ((((w23.setCell ⟨gb424,0,none⟩ (.int .i64 a1)).setCell ⟨gb424,1,none⟩ (.int .i64 a2)).setCell ⟨gb424,2,none⟩ (.int .i64 t422)).setCell ⟨gb424,3,none⟩ (.int .i64 t423)).heap[gb421]? = some (.cells #[.int .i32 t418,.int .i64 t419] 87 (0,0)) :=
  blk_far (blk_far (blk_far (blk_far BK421.out NB421_424.out _) NB421_424.out _) NB421_424.out _) NB421_424.out _
 have m2 : ((((w23.setCell ⟨gb424,0,none⟩ (.int .i64 a1)).setCell ⟨gb424,1,none⟩ (.int .i64 a2)).setCell ⟨gb424,2,none⟩ (.int .i64 t422)).setCell ⟨gb424,3,none⟩ (.int .i64 t423)).heap[gb417]? = some (.cells #[.int .i64 0,.int .i64 0,.int .i64 0,.int .i64 0] 60 (0,0)) :=
  blk_far (blk_far (blk_far (blk_far BK417.out NB417_424.out _) NB417_424.out _) NB417_424.out _) NB417_424.out _
 have m3 : Below w.heap.size w ((((w23.setCell ⟨gb424,0,none⟩ (.int .i64 a1)).setCell ⟨gb424,1,none⟩ (.int .i64 a2)).setCell ⟨gb424,2,none⟩ (.int .i64 t422)).setCell ⟨gb424,3,none⟩ (.int .i64 t423)) :=
  below_set (below_set (below_set (below_set HB.out GE424.out) GE424.out) GE424.out) GE424.out
 have q1 := NB417_424.out
 have q2 := NB424_417.out
 have q3 := GE424.out
 have q4 := GE417.out
 generalize ((((w23.setCell ⟨gb424,0,none⟩ (.int .i64 a1)).setCell ⟨gb424,1,none⟩ (.int .i64 a2)).setCell ⟨gb424,2,none⟩ (.int .i64 t422)).setCell ⟨gb424,3,none⟩ (.int .i64 t423)) = W at m0 m1 m2 m3 ⊢
 (try clear HB)
 (try clear BK417)
 (try clear GW417)
 (try clear GE417)
 (try clear BK421)
 (try clear GW421)
 (try clear GE421)
 (try clear NB417_421)
 (try clear NB421_417)
 (try clear hnb16)
 (try clear hnc16)
 (try clear hcz17_0)
 (try clear hcz17_1)
 (try clear hfz17_0)
 (try clear hfz17_1)
 (try clear BK424)
 (try clear GW424)
 (try clear GE424)
 (try clear NB417_424)
 (try clear NB424_417)
 (try clear NB421_424)
 (try clear NB424_421)
 (try clear hs24)
 (try clear hfs24)
 (try clear hns24_0)
 (try clear hns24_1)
 (try clear hms24_0)
 (try clear hms24_1)
 (try clear hs25)
 (try clear hfs25)
 (try clear hns25_0)
 (try clear hns25_1)
 (try clear hms25_0)
 (try clear hms25_1)
 (try clear hs26)
 (try clear hfs26)
 (try clear hns26_0)
 (try clear hns26_1)
 (try clear hms26_0)
 (try clear hms26_1)
 (try clear hs27)
 (try clear hfs27)
 (try clear hns27_0)
 (try clear hns27_1)
 (try clear hms27_0)
 (try clear hms27_1)
 (try clear hS_)
 (try clear hHeld)
 (try clear HT_)
 (try clear HW_)
 (try clear hCont)
 have e0 : W.cell? ⟨gb421,0,none⟩ = some (.int .i32 t418) := (blk_cell m1 0).trans rfl
 have d0 : W.cell? ⟨gb424,0,none⟩ = some (.int .i64 a1) := (blk_cell m0 0).trans rfl
 have d1 : W.cell? ⟨gb424,1,none⟩ = some (.int .i64 a2) := (blk_cell m0 1).trans rfl
 have d2 : W.cell? ⟨gb424,2,none⟩ = some (.int .i64 t422) := (blk_cell m0 2).trans rfl
 have d3 : W.cell? ⟨gb424,3,none⟩ = some (.int .i64 t423) := (blk_cell m0 3).trans rfl
 have fd2 : W.frozen? ⟨gb424,2,none⟩ = false := blk_frozen m0 2
 have fd3 : W.frozen? ⟨gb424,3,none⟩ = false := blk_frozen m0 3
 have r0 : W.cell? ⟨gb417,0,none⟩ = some (.int .i64 0) := (blk_cell m2 0).trans rfl
 have r1_ : W.cell? ⟨gb417,1,none⟩ = some (.int .i64 0) := (blk_cell m2 1).trans rfl
 have r2_ : W.cell? ⟨gb417,2,none⟩ = some (.int .i64 0) := (blk_cell m2 2).trans rfl
 have r3_ : W.cell? ⟨gb417,3,none⟩ = some (.int .i64 0) := (blk_cell m2 3).trans rfl
 have fr0 : W.frozen? ⟨gb417,0,none⟩ = false := blk_frozen m2 0
 have fr1 : W.frozen? ⟨gb417,1,none⟩ = false := blk_frozen m2 1
 have fr2 : W.frozen? ⟨gb417,2,none⟩ = false := blk_frozen m2 2
 have fr3 : W.frozen? ⟨gb417,3,none⟩ = false := blk_frozen m2 3
 by_cases c7 : t418 = 13
 ·rw [if_pos c7] at H
  have c7b0 : (t418 == 13) = true := beq_iff_eq.mpr c7
  clear c7
  obtain ⟨j,hj⟩ : ∃ j_ : Int,wrap64 (a1 + 1) = j_ := ⟨_,rfl⟩
  rw [hj] at H
  have hjw : IntKind.i64.wrap (a1 + 1) = j := (i64_w _).trans hj
  clear hj
  by_cases c9 : 0 ≤ j
  ·rw [if_pos c9] at H
   have c9b0 := eq_true c9
   have c9b1 : decide (0 ≤ j) = true := decide_eq_true c9
   clear c9
   by_cases c10 : j ≤ (a0.size : Int)
   ·rw [if_pos c10] at H
    have c10b0 := eq_true c10
    have c10b1 : decide (j ≤ (a0.size : Int)) = true := decide_eq_true c10
    clear c10
    obtain ⟨b,hp,H⟩ := Option.bind_eq_some_iff.mp H
    have HP := Aside0.mk hp
    clear hp
    by_cases c12 : b = true
    ·subst c12
     rw [if_pos rfl] at H
     simp only [Option.some.injEq,Prod.mk.injEq] at H
     obtain ⟨rfl,rfl,rfl,rfl⟩ := H
     go_wp2_with (go_at_call 73;(with_reducible refine (strings_HasPrefix.calls (a0.extract (j : Int).toNat a0.size) (⟨#[10]⟩ : ByteArray) true _ HP.out).mono ?_);rintro e w' ⟨rfl,⟨nd,rfl⟩⟩)
     refine bodyPost_ret (results_cell_row rfl _ _ gb417 60 #[.int .i64 a1,.int .i64 a2,.int .i64 1,.int .i64 0] (0,0) _ rfl (blk_put (cs := #[.int .i64 a1,.int .i64 a2,.int .i64 1,.int .i64 0]) (blk_put (cs := #[.int .i64 a1,.int .i64 a2,.int .i64 0,.int .i64 0]) (blk_put (cs := #[.int .i64 a1,.int .i64 0,.int .i64 0,.int .i64 0]) (blk_put (cs := #[.int .i64 0,.int .i64 0,.int .i64 0,.int .i64 0]) (blk_far (blk_far (blk_drewN m2 nd) q1 _) q1 _) 0 _ rfl) 1 _ rfl) 2 _ rfl) 3 _ rfl) Tryd.underlying60 rfl (by kernel_rfl)) rfl ?_
     exact ⟨rfl,below_set (below_set (below_set (below_set (below_set (below_set (pw_below_drewN m3 nd) q3) q3) q4) q4) q4) q4⟩
    ·replace c12 := Bool.eq_false_iff.mpr c12
     subst c12
     rw [if_neg (by decide)] at H
     simp only [Option.some.injEq,Prod.mk.injEq] at H
     obtain ⟨rfl,rfl,rfl,rfl⟩ := H
     go_wp2_with (go_at_call 73;(with_reducible refine (strings_HasPrefix.calls (a0.extract (j : Int).toNat a0.size) (⟨#[10]⟩ : ByteArray) false _ HP.out).mono ?_);rintro e w' ⟨rfl,⟨nd,rfl⟩⟩)
     refine bodyPost_ret (results_cell_row rfl _ _ gb417 60 #[.int .i64 a1,.int .i64 a2,.int .i64 t422,.int .i64 t423] (0,0) _ rfl (blk_put (cs := #[.int .i64 a1,.int .i64 a2,.int .i64 t422,.int .i64 0]) (blk_put (cs := #[.int .i64 a1,.int .i64 a2,.int .i64 0,.int .i64 0]) (blk_put (cs := #[.int .i64 a1,.int .i64 0,.int .i64 0,.int .i64 0]) (blk_put (cs := #[.int .i64 0,.int .i64 0,.int .i64 0,.int .i64 0]) (blk_drewN m2 nd) 0 _ rfl) 1 _ rfl) 2 _ rfl) 3 _ rfl) Tryd.underlying60 rfl (by kernel_rfl)) rfl ?_
     exact ⟨rfl,below_set (below_set (below_set (below_set (pw_below_drewN m3 nd) q4) q4) q4) q4⟩
   ·rw [if_neg c10] at H;cases H
  ·rw [if_neg c9] at H;cases H
 ·rw [if_neg c7] at H
  have c7b0 : (t418 == 13) = false := by simpa using c7
  clear c7
  simp only [Option.some.injEq,Prod.mk.injEq] at H
  obtain ⟨rfl,rfl,rfl,rfl⟩ := H
  go_wp2
  refine bodyPost_ret (results_cell_row rfl _ _ gb417 60 #[.int .i64 a1,.int .i64 a2,.int .i64 t422,.int .i64 t423] (0,0) _ rfl (blk_put (cs := #[.int .i64 a1,.int .i64 a2,.int .i64 t422,.int .i64 0]) (blk_put (cs := #[.int .i64 a1,.int .i64 a2,.int .i64 0,.int .i64 0]) (blk_put (cs := #[.int .i64 a1,.int .i64 0,.int .i64 0,.int .i64 0]) (blk_put (cs := #[.int .i64 0,.int .i64 0,.int .i64 0,.int .i64 0]) m2 0 _ rfl) 1 _ rfl) 2 _ rfl) 3 _ rfl) Tryd.underlying60 rfl (by kernel_rfl)) rfl ?_
  exact ⟨rfl,below_set (below_set (below_set (below_set m3 q4) q4) q4) q4⟩
end Go.Proofs.YtnpjaaldppemlaaDoor.U
end
section
namespace Go.Proofs.YtnpjaaldppemlaaDoor.Rg
open Go Go.RowKit
/-- What a round keeps: what lies below n₀;the cells that lie from B on;and the cells of the blocks of Pr (what the iterator has captured). -/
def KeepB (n₀ : Nat) (Pr : Nat → Prop) (B : Nat) (W W' : World) : Prop :=
 Below n₀ W W' ∧ ∀ (k : Nat) (o : Obj),(Pr k ∨ B ≤ k) → W.heap[k]? = some o → o.isCells = true → W'.heap[k]? = some o
theorem KeepB.refl (n₀ : Nat) (Pr : Nat → Prop) (B : Nat) (W : World) : KeepB n₀ Pr B W W := ⟨Below.refl _ _,fun _ _ _ h _ => h⟩
theorem KeepB.trans {n₀ : Nat} {Pr : Nat → Prop} {B : Nat} {X Y Z : World} (h : KeepB n₀ Pr B X Y) (k : KeepB n₀ Pr B Y Z) : KeepB n₀ Pr B X Z :=
 ⟨h.1.trans k.1,fun i o hi ho hc => k.2 i o hi (h.2 i o hi ho hc) hc⟩
theorem KeepB.of_below {n₀ : Nat} {Pr : Nat → Prop} {B : Nat} {X Y : World} (hn : n₀ ≤ X.heap.size) (h : Below X.heap.size X Y) : KeepB n₀ Pr B X Y :=
 ⟨h.mono hn,fun k _o _ ho _ => (h.block k (Array.getElem?_eq_some_iff.1 ho).1).trans ho⟩
theorem KeepB.putObj {n₀ : Nat} {Pr : Nat → Prop} {B : Nat} {W : World} {l : Nat} {o : Obj} (o' : Obj) (hn : n₀ ≤ W.heap.size) (hl : n₀ ≤ l) (h : W.heap[l]? = some o) (ho : o.isCells = false) : KeepB n₀ Pr B W (W.putObj l o') :=
 ⟨(Below.refl n₀ W).grown (grownBy_putObj' W l o') hn (fun k e => by cases e;omega),fun k p _ hk hc => by
  refine (World.putObj_heap_other (fun e => ?_)).trans hk
  subst e;rw [h] at hk;cases hk;rw [ho] at hc;cases hc⟩
/-- The iterator's contract: at each call of yield it tells a world W0 in which the caller's word held,and what it has laid since. -/
def SeqB {α : Type} (F : Fence) (n : Nat) (P : Program) (g : Nat) (lb : Array Value) (encs : α → Array Value) (n₀ : Nat) (Pr : Nat → Prop) (S Sp : List α → Prop) (N : Nat) (w : World) : Prop :=
 ∀ (l : Nat) (J Jx : List α → World → Prop) (W : World),Below w.heap.size w W → AbidesFrom W.heap.size J → AbidesFrom W.heap.size Jx →
  (∀ pre x W0 W1,J pre W0 → Below W0.heap.size W0 W1 → pre.length < N → Sp (pre ++ [x]) → YieldAt F (n - 1) P l (encs x) W1 fun e W' =>
   (e = .returned (.bool true) ∧ J (pre ++ [x]) W' ∧ KeepB n₀ Pr W0.heap.size W1 W') ∨ (e = .returned (.bool false) ∧ Jx (pre ++ [x]) W')) →
  J [] W →
  CallsIn F n P g (#[.func (.yield l) #[] #[]] ++ lb) W fun e W' => (∃ v,e = .returned v) ∧ ((∃ xs,S xs ∧ J xs W') ∨ (∃ pre,Sp pre ∧ Jx pre W'))
theorem SeqB.inRound {α : Type} {F : Fence} {n : Nat} {P : Program} {g : Nat} {lb : Array Value} {encs : α → Array Value} {n₀ : Nat} {Pr : Nat → Prop} {S Sp : List α → Prop} {N : Nat} {w : World} (l : Nat)
  (h : SeqB F n P g lb encs n₀ Pr S Sp N w) : SeqB (F.inRound l) n P g lb encs n₀ Pr S Sp N w := h
/-- How a round may be left. -/
def PostB {α : Type} (C n₀ : Nat) (Pr : Nat → Prop) (B : Nat) (I : Nat → List α → World → Prop) (Ix : Code → List α → World → Prop) (xs : List α) (W : World) : Exit → Act → World → Prop
 | .normal,_,W' => KeepsFrom C W W' ∧ KeepB n₀ Pr B W W' ∧ I W'.heap.size xs W'
 | .ret,_,W' => KeepsFrom C W W' ∧ Ix .ret xs W'
 | .exit id,_,W' => KeepsFrom C W W' ∧ Ix (.exit id) xs W'
 | .goto t,_,W' => KeepsFrom C W W' ∧ Ix (.goto t) xs W'
 | .panic _,_,_ => False
 | .outgrown,_,_ => False
variable {F : Fence} {n : Nat} {P : Program}
/-- What of a loop's own book-keeping lasts through its rounds: its record,and the block for deferred calls,where there is one. -/
structure Book (dz : Option Nat) (L : Nat) (r : Loop) (W : World) : Prop where
 at_ : W.heap[L]? = some (.loop r)
 dz_ : ∀ d,dz = some d → W.heap[d]? = some (.deferred (some []))
theorem Book.walks {dz : Option Nat} {L : Nat} {r : Loop} {A B : World} {row : Option Nat} (h : Book dz L r A) (hg : A.grownBy B row) (hr : ∀ k,row = some k → ∃ o : Obj,A.heap[k]? = some o ∧ o.isWalk = true) : Book dz L r B :=
 ⟨(grownBy_keeps hg hr h.at_ rfl).trans h.at_,fun d e => (grownBy_keeps hg hr (h.dz_ d e) rfl).trans (h.dz_ d e)⟩
theorem Book.from_ {dz : Option Nat} {L C : Nat} {r : Loop} {A B : World} (h : Book dz L r A) (hL : C ≤ L) (hd : ∀ d,dz = some d → C ≤ d ∧ d ≠ L) (hk : KeepsFrom C A B) : Book dz L r B :=
 ⟨hk.same _ _ hL h.at_ rfl,fun d e => hk.same _ _ (hd d e).1 (h.dz_ d e) rfl⟩
theorem Book.put {dz : Option Nat} {L C : Nat} {r : Loop} {A : World} (h : Book dz L r A) (hd : ∀ d,dz = some d → C ≤ d ∧ d ≠ L) (r' : Loop) : Book dz L r' (A.putObj L (.loop r')) :=
 ⟨World.putObj_heap_same (Array.getElem?_eq_some_iff.1 h.at_).1,fun d e => (World.putObj_heap_other (hd d e).2).trans (h.dz_ d e)⟩
/-- The rounds,whichever way the loop was entered. -/
theorem rounds {α : Type} {fid : FuncId} {ps : Array Tmp} {assign body : Code} {tm : Array Value} {C n₀ L D gf : Nat} {Pr : Nat → Prop} {lb : Array Value} {W1 w0 : World} {dz : Option Nat}
  {encs : α → Array Value} {S Sp : List α → Prop} {N : Nat} (hfid : F.fn fid) (hseq : SeqB F (n - 1) P gf lb encs n₀ Pr S Sp N w0) (hb1 : Below w0.heap.size w0 W1) (hps : ∀ x,(encs x).size = ps.size)
  (rec : LoopState → Option Code → Loop) (hrec : rec = fun st pe => { state := st,pending := pe,fn := fid,tmps := tm,params := ps,assign,body,defers := D })
  (hnC : n₀ ≤ C) (hCL : C ≤ L) (hCW : C ≤ W1.heap.size) (hdz : ∀ d,dz = some d → C ≤ d ∧ d ≠ L) (hbk : Book dz L (rec .ready none) W1)
  (I : Nat → List α → World → Prop) (Ix : Code → List α → World → Prop) (hI : ∀ B,OwnFrom C (I B)) (hm : ∀ B B' pre W,B ≤ B' → I B pre W → I B' pre W) (hIx : ∀ c,OwnFrom C (Ix c)) (h0 : I W1.heap.size [] W1)
  (Ax : α → Act → World → Prop) (hAx : ∀ x a',OwnFrom C (fun (_ : Unit) W => Ax x a' W))
  (hassign : ∀ (B : Nat) (pre : List α) (x : α) (W : World) (K : Act → World → Prop),C ≤ W.heap.size → B ≤ W.heap.size → I B pre W → (∀ a' W',KeepsFrom C W W' → KeepB n₀ Pr B W W' → I B pre W' → Ax x a' W' → K a' W') →
   assign.wpIn (F.inRound L) (n - 1 - 1) P (Exit.then K (fun _ _ _ => False)) { tmps := (ps.zip (encs x)).foldl (fun t (p,v) => t.setIfInBounds p v) tm,defers := [] } W)
  (hbody : ∀ (B : Nat) (pre : List α) (x : α) (a' : Act) (W : World),C ≤ W.heap.size → (∃ r,W.heap[L]? = some (.loop r)) → B ≤ W.heap.size → I B pre W → Ax x a' W → pre.length < N → Sp (pre ++ [x]) → body.wpIn (F.inRound L) (n - 1 - 1) P (PostB C n₀ Pr B I Ix (pre ++ [x]) W) a' W) :
  CallsIn F (n - 1) P gf (#[.func (.yield L) #[] #[]] ++ lb) W1 fun e W' => (∃ v,e = .returned v) ∧
   ((∃ xs,S xs ∧ C ≤ W'.heap.size ∧ I W'.heap.size xs W' ∧ Book dz L (rec .ready none) W') ∨ (∃ pre c,Sp pre ∧ C ≤ W'.heap.size ∧ Ix c pre W' ∧ Book dz L (rec .done (some c)) W')) := by
 have hC0 : ∀ {A B : World} {row : Option Nat},(∀ r,row = some r → W1.heap.size ≤ r ∧ ∃ o : Obj,A.heap[r]? = some o ∧ o.isWalk = true) → (∀ r,row = some r → C ≤ r ∧ ∃ o : Obj,A.heap[r]? = some o ∧ o.isCells = false) :=
  fun hr r e => by obtain ⟨hB,o,ho,hw⟩ := hr r e;exact ⟨Nat.le_trans hCW hB,o,ho,Obj.not_cells_of_walk hw⟩
 refine (hseq L (fun pre W => I W.heap.size pre W ∧ Book dz L (rec .ready none) W ∧ C ≤ W.heap.size) (fun pre W => ∃ c,Ix c pre W ∧ Book dz L (rec .done (some c)) W ∧ C ≤ W.heap.size) W1 hb1 ?_ ?_ ?_ ⟨h0,hbk,hCW⟩).mono ?_
 ·rintro s A B row ⟨h1,h2,h3⟩ hg hr
  exact ⟨hm _ _ _ _ hg.size (hI _ s A B row h1 hg (hC0 (B := B) hr)),h2.walks hg (fun r e => (hr r e).2),Nat.le_trans h3 hg.size⟩
 ·rintro s A B row ⟨c,h1,h2,h3⟩ hg hr
  exact ⟨c,hIx c s A B row h1 hg (hC0 (B := B) hr),h2.walks hg (fun r e => (hr r e).2),Nat.le_trans h3 hg.size⟩
 ·rintro pre x W0 W ⟨hi0,hb0,hC⟩ hbel hlen hsp
  have hg : W0.grownBy W none := ⟨hbel.os,hbel.tape,hbel.output,hbel.size,fun i hi _ => hbel.block i hi⟩
  have hi : I W0.heap.size pre W := hI _ pre W0 W none hi0 hg (fun r e => by cases e)
  have hb : Book dz L (rec .ready none) W := hb0.walks hg (fun r e => by cases e)
  have hCW' : C ≤ W.heap.size := Nat.le_trans hC hbel.size
  have hy := run_yield (P := P) (args := encs x) hb.at_ (by rw [hrec];exact hps x)
  rw [hrec] at hy
  refine ⟨fid,_,assign,body,hy,roundIn_of_wpIn hfid (hassign W0.heap.size pre x W _ hCW' hbel.size hi ?_)⟩
  intro a' Wa hkf hkb hia hax
  have hba := hb.from_ hCL hdz hkf
  have hCa : C ≤ Wa.heap.size := Nat.le_trans hCW' hkf.size
  refine ⟨_,run_beginRound hba.at_ (by rw [hrec]),?_⟩
  have hba2 := hba.put (C := C) hdz { rec .ready none with state := .busy }
  have hkb2 : KeepB n₀ Pr W0.heap.size Wa (Wa.putObj L (.loop { rec .ready none with state := .busy })) := KeepB.putObj _ (Nat.le_trans hnC hCa) (Nat.le_trans hnC hCL) hba.at_ rfl
  have hsz2 : (Wa.putObj L (.loop { rec .ready none with state := .busy })).heap.size = Wa.heap.size := by simp
  refine wpIn_mono (hbody W0.heap.size pre x a' _ (by rw [hsz2];exact hCa) ⟨_,hba2.at_⟩ (by rw [hsz2];exact Nat.le_trans hbel.size hkf.size) ((hI _).putObj _ hia hCL hba.at_ rfl) ((hAx x a').putObj (s := ()) _ hax hCL hba.at_ rfl) hlen hsp) ?_
  have fin : ∀ (jump : Option Code) (W3 : World),KeepsFrom C (Wa.putObj L (.loop { rec .ready none with state := .busy })) W3 →
    (Instr.endRound L jump).run P W3 = .ok (.bool jump.isNone) (W3.putObj L (.loop (rec (if jump.isNone then .ready else .done) jump))) ∧
    W3.heap[L]? = some (.loop { rec .ready none with state := .busy }) ∧ Book dz L (rec (if jump.isNone then .ready else .done) jump) (W3.putObj L (.loop (rec (if jump.isNone then .ready else .done) jump))) ∧
    C ≤ (W3.putObj L (.loop (rec (if jump.isNone then .ready else .done) jump))).heap.size := fun jump W3 hk3 => by
   have hb3 := hba2.from_ hCL hdz hk3
   have he := run_endRound (P := P) jump hb3.at_
   refine ⟨?_,hb3.at_,hb3.put (C := C) hdz _,by have := hk3.size;rw [hsz2] at this;simp;omega⟩
   rw [hrec] at he ⊢
   exact he
  rintro e a3 W3 hp
  cases e with
  | normal =>
   obtain ⟨hk3,hkp3,hi3⟩ := hp
   obtain ⟨hr,hl3,hb4,hC4⟩ := fin none W3 hk3
   have hsz3 : n₀ ≤ W3.heap.size := Nat.le_trans hnC (by simpa using hC4)
   refine ⟨_,_,hr,.inl ⟨rfl,⟨?_,hb4,hC4⟩,((hkb.trans hkb2).trans hkp3).trans (KeepB.putObj _ hsz3 (Nat.le_trans hnC hCL) hl3 rfl)⟩⟩
   have hx := (hI _).putObj (.loop (rec .ready none)) hi3 hCL hl3 rfl
   simpa using hx
  | ret =>
   obtain ⟨hk3,hi3⟩ := hp
   obtain ⟨hr,hl3,hb4,hC4⟩ := fin (some .ret) W3 hk3
   exact ⟨_,_,hr,.inr ⟨rfl,.ret,(hIx _).putObj _ hi3 hCL hl3 rfl,hb4,hC4⟩⟩
  | exit id =>
   obtain ⟨hk3,hi3⟩ := hp
   obtain ⟨hr,hl3,hb4,hC4⟩ := fin (some (.exit id)) W3 hk3
   exact ⟨_,_,hr,.inr ⟨rfl,.exit id,(hIx _).putObj _ hi3 hCL hl3 rfl,hb4,hC4⟩⟩
  | goto t =>
   obtain ⟨hk3,hi3⟩ := hp
   obtain ⟨hr,hl3,hb4,hC4⟩ := fin (some (.goto t)) W3 hk3
   exact ⟨_,_,hr,.inr ⟨rfl,.goto t,(hIx _).putObj _ hi3 hCL hl3 rfl,hb4,hC4⟩⟩
  | panic ch => exact hp.elim
  | outgrown => exact hp.elim
 ·rintro e W2 ⟨⟨v,rfl⟩,(⟨xs,hS,hi,hb,hC⟩ | ⟨pre,hSp,c,hi,hb,hC⟩)⟩
  ·exact ⟨⟨v,rfl⟩,.inl ⟨xs,hS,hC,hi,hb⟩⟩
  ·exact ⟨⟨v,rfl⟩,.inr ⟨pre,c,hSp,hC,hi,hb⟩⟩
/-- A loop that stands in no round. -/
theorem range_outer {α : Type} {g : Operand} {ps : Array Tmp} {assign body : Code} {Q : Exit → Act → World → Prop} {a : Act} {w : World} {n₀ : Nat} {Pr : Nat → Prop}
  (hro : F.round = none) (h1 : 1 ≤ n) {gf : Nat} {lb : Array Value} (hg : a.eval g = .func (.func gf) #[] lb) (hFg : F.fn gf) (eg : ∀ args w,(callFunc gf args).run P w = .ok (.enter gf args) w)
  {encs : α → Array Value} {S Sp : List α → Prop} {N : Nat} {w0 : World} (hseq : SeqB F (n - 1) P gf lb encs n₀ Pr S Sp N w0) (hb0 : Below w0.heap.size w0 w) (hps : ∀ x,(encs x).size = ps.size) (hn₀ : n₀ ≤ w.heap.size)
  (I : Nat → List α → World → Prop) (Ix : Code → List α → World → Prop) (hI : ∀ B,OwnFrom w.heap.size (I B)) (hm : ∀ B B' pre W,B ≤ B' → I B pre W → I B' pre W) (hIx : ∀ c,OwnFrom w.heap.size (Ix c)) (h0 : I w.heap.size [] w)
  (Ax : α → Act → World → Prop) (hAx : ∀ x a',OwnFrom w.heap.size (fun (_ : Unit) W => Ax x a' W))
  (hassign : ∀ (l B : Nat) (pre : List α) (x : α) (W : World) (K : Act → World → Prop),w.heap.size ≤ W.heap.size → B ≤ W.heap.size → I B pre W → (∀ a' W',KeepsFrom w.heap.size W W' → KeepB n₀ Pr B W W' → I B pre W' → Ax x a' W' → K a' W') →
   assign.wpIn (F.inRound l) (n - 1 - 1) P (Exit.then K (fun _ _ _ => False)) { tmps := (ps.zip (encs x)).foldl (fun t (p,v) => t.setIfInBounds p v) a.tmps,defers := [] } W)
  (hbody : ∀ (l B : Nat) (pre : List α) (x : α) (a' : Act) (W : World),w.heap.size ≤ l → w.heap.size ≤ W.heap.size → (∃ r,W.heap[l]? = some (.loop r)) → B ≤ W.heap.size → I B pre W → Ax x a' W → pre.length < N → Sp (pre ++ [x]) → body.wpIn (F.inRound l) (n - 1 - 1) P (PostB w.heap.size n₀ Pr B I Ix (pre ++ [x]) W) a' W)
  (hdone : ∀ (D : Nat) (xs : List α) (W : World),w.heap.size ≤ D → S xs → I W.heap.size xs W → W.heap[D]? = some (.deferred (some [])) → Q .normal { a with defers := { target := .collected D,args := #[] } :: a.defers } W)
  (hstop : ∀ (D : Nat) (c : Code) (pre : List α) (W : World),w.heap.size ≤ D → Sp pre → Ix c pre W → W.heap[D]? = some (.deferred (some [])) → c.wpIn F n P Q { a with defers := { target := .collected D,args := #[] } :: a.defers } W) :
  (Code.rangeFunc g ps assign body).wpIn F n P Q a w := by
 refine wpIn_rangeFunc ?_
 intro fid hfid
 rw [hro]
 obtain ⟨rec,hrec⟩ : ∃ rec : LoopState → Option Code → Loop,rec = fun st pe => { state := st,pending := pe,fn := fid,tmps := a.tmps,params := ps,assign,body,defers := w.heap.size } := ⟨_,rfl⟩
 obtain ⟨W1,hW1⟩ : ∃ W1,(w.alloc (.deferred (some []))).alloc (.loop (rec .ready none)) = W1 := ⟨_,rfl⟩
 have hbk : Book (some w.heap.size) (w.heap.size + 1) (rec .ready none) W1 := by
  rw [← hW1]
  refine ⟨?_,fun d e => ?_⟩
  ·have := World.alloc_heap_new (w.alloc (.deferred (some []))) (.loop (rec .ready none));rwa [World.size_alloc] at this
  ·cases e;exact (Below.heap_alloc _ _ _ (by simp)).trans (World.alloc_heap_new w _)
 have hsz : W1.heap.size = w.heap.size + 2 := by rw [← hW1];simp
 have hI1 : I W1.heap.size [] W1 := hm w.heap.size W1.heap.size [] W1 (by omega) (by rw [← hW1];exact (hI w.heap.size).alloc _ ((hI w.heap.size).alloc _ h0))
 have hb1 : Below w0.heap.size w0 W1 := by
  rw [← hW1];exact hb0.trans ((((Below.refl _ w).alloc (Nat.le_refl _) _).alloc (by simp) _).mono hb0.size)
 refine ⟨w.heap.size + 1,[{ target := .collected w.heap.size,args := #[] }],W1,{ target := .fn (.func gf) lb,args := #[.func (.yield (w.heap.size + 1)) #[] #[]] },W1,gf,
  #[.func (.yield (w.heap.size + 1)) #[] #[]] ++ lb,W1,?_,?_,?_,?_,fun _ => h1,?_⟩
 ·rw [← hW1,hrec];exact run_enterLoop_outer _ _ _ _ _
 ·simp only [resolve,hg]
  simp [go_sem]
 ·intro f' hf';simp [Target.leads] at hf';subst hf';exact hFg
 ·simp [invoke,go_sem,eg]
 ·refine (rounds (C := w.heap.size) (dz := some w.heap.size) hfid hseq hb1 hps rec hrec hn₀ (by omega) (by omega) (fun d e => by cases e;exact ⟨Nat.le_refl _,by omega⟩) hbk I Ix hI hm hIx hI1 Ax hAx
   (fun B => hassign _ B) (fun B pre x a' W => hbody _ B pre x a' W (by omega))).mono ?_
  rintro e W2 ⟨⟨v,rfl⟩,(⟨xs,hS,hC,hi,hb⟩ | ⟨pre,c,hSp,hC,hi,hb⟩)⟩
  ·refine ⟨none,_,by have := run_endLoop (P := P) hb.at_ (by rw [hrec];simp);rw [hrec] at this;exact this,hdone w.heap.size xs _ (Nat.le_refl _) hS ?_ ((World.putObj_heap_other (by omega)).trans (hb.dz_ _ rfl))⟩
   have hx := (hI _).putObj (.loop { rec .ready none with state := .exhausted }) hi (by omega : w.heap.size ≤ w.heap.size + 1) hb.at_ rfl
   rw [hrec] at hx
   simpa using hx
  ·exact ⟨some c,_,by have := run_endLoop (P := P) hb.at_ (by rw [hrec];simp);rw [hrec] at this;exact this,hstop w.heap.size c pre _ (Nat.le_refl _) hSp ((hIx c).putObj _ hi (by omega) hb.at_ rfl) ((World.putObj_heap_other (by omega)).trans (hb.dz_ _ rfl))⟩
section
variable {ops : Array Oper} {md : Region.Mode} {C : World → Prop}
def noDefer : List Oper → Bool
 | [] => true
 | o :: l => (match o.op with | .defer _ => false | _ => true) && noDefer l
theorem noDefer_spec : ∀ {l : List Oper},noDefer l = true → ∀ (j : Nat) (o : Oper),l[j]? = some o → ∀ c,o.op ≠ Op.defer c
 | [],_,_,_,h,_ => by simp at h
 | p :: l,hn,j,o,h,c => by
  simp only [noDefer,Bool.and_eq_true] at hn
  cases j with
  | zero => simp at h;subst h;intro e;rw [e] at hn;simp at hn
  | succ j => exact noDefer_spec hn.2 j o (by simpa using h) c
end
end Go.Proofs.YtnpjaaldppemlaaDoor.Rg
end
section
namespace Go.Proofs.YtnpjaaldppemlaaDoor.U
open Go.RowKit Go.Shelf Go.Proofs.YtnpjaaldppemlaaDoor.Mu Go.Proofs.YtnpjaaldppemlaaDoor.Rg Go.Proofs.YtnpjaaldppemlaaDoorW.PrintWords Go.Proofs.YtnpjaaldppemlaaDoorW.PrintLast Go.Proofs.YtnpjaaldppemlaaDoorW.PrintMore
attribute [local go_sem] Oper.semAt_some
set_option linter.unusedVariables false
set_option linter.unusedSimpArgs false
theorem boxed_grow {X Y : World} {row : Option Nat} {B : Nat} {t : TypeId} {v : Value} (h : Boxed X B t v) (hg : X.grownBy Y row) (hr : ∀ r,row = some r → ∃ o : Obj,X.heap[r]? = some o ∧ o.isCells = false) : Boxed Y B t v :=
 boxed_own B t (fun _ : Unit => v) () X Y row h hg hr
theorem boxed_below {X Y : World} {B : Nat} {t : TypeId} {v : Value} (h : Boxed X B t v) (hb : Below X.heap.size X Y) : Boxed Y B t v := (hb.block B h.lt).trans h
end Go.Proofs.YtnpjaaldppemlaaDoor.U
end
