/- What the law ClusterKeeps reaches of this seat's own texts, merged; what nothing uses is left out. -/
import Derived.Test.YtfhnfhgpaoddbaaDoorZClusterKeeps0
import Derived.Test.YtfhnfhgpaoddbaaDoorZClusterKeeps1
section
namespace Go.Proofs.YtfhnfhgpaoddbaaDoor.U
open Go.RowKit Go.Proofs.YtfhnfhgpaoddbaaDoorW.PrintWords Go.Proofs.YtfhnfhgpaoddbaaDoorW.PrintLast Go.Proofs.YtfhnfhgpaoddbaaDoorW.PrintMore
attribute [local go_sem] max2_int min2_int max_two min_two max_three min_three max_four min_four   -- for this text's walks alone
set_option linter.unusedVariables false
set_option linter.unusedSimpArgs false
def cluster_Snap.f (k : Nat) (a0 : ByteArray) (a1 : Int) : Option (Int) := if a1 < 0 then (some 0) else ((cluster_Boundary.f k a0 a1).bind fun t372 => (if t372 = true then (some a1) else ((cluster_Next.f k a0 a1).bind fun t373 => (some t373))))
set_option maxHeartbeats 8000000 in
set_option maxRecDepth 100000 in
theorem cluster_Snap.calls (k : Nat) (a0 : ByteArray) (a1 : Int) (r : Int) (w : World) (hT : Lib.Utf8Tabs 0 1 w) (h : cluster_Snap.f k a0 a1 = some r) :
  Calls Tryd.prog 50 #[.string a0,.int .i64 a1] w fun e w' => e = .returned (.int .i64 r) ∧ Below w.heap.size w w' := by
 have HT := Aside0.mk hT
 clear hT
 have HB := Aside0.mk (Below.refl w.heap.size w)
 have H : (if a1 < 0 then (some 0) else ((cluster_Boundary.f k a0 a1).bind fun t372 => (if t372 = true then (some a1) else ((cluster_Next.f k a0 a1).bind fun t373 => (some t373))))) = some r := h
 clear h
 by_cases c3 : a1 < 0
 ·rw [if_pos c3] at H
  have c3b0 : decide (a1 < 0) = true := decide_eq_true c3
  clear c3
  obtain rfl := Option.some.inj H
  go_enter Tryd.func50,Tryd.ntmps50
  go_wp2
  go_ret
  exact ⟨au2,au0⟩
 ·rw [if_neg c3] at H
  have c3b0 : decide (a1 < 0) = false := decide_eq_false c3
  clear c3
  replace H := Option.bind_eq_some_iff.mp H
  obtain ⟨t372,A40,H⟩ := H
  replace H : (if t372 = true then (some a1) else ((cluster_Next.f k a0 a1).bind fun t373 => (some t373))) = some r := H
  have A4 := Aside0.mk A40
  clear A40
  by_cases c5 : t372 = true
  ·subst c5
   have H1 : (some a1) = some r := by rw [if_pos rfl] at H;exact H
   clear H
   have H := H1
   clear H1
   obtain rfl := Option.some.inj H
   go_enter Tryd.func50,Tryd.ntmps50
   go_wp2_with (first | ((with_reducible refine gate_callee (f := 42) rfl ?_);refine goesL_ (some 9) rfl rfl Tryd.func42 (by kernel_rfl) rfl #[.string a0,.int .i64 a1] rfl au1 ?_;(with_reducible refine (cluster_Boundary.calls k a0 a1 true _ ?side1 A4.out).mono ?_);(case side1 => exact tabs_below HT.out au0);rintro e w6 ⟨rfl,hb⟩;refine ⟨_,rfl,?_⟩;have n0_ := Aside0.mk (below_step au0 hb);clear HB;have HB := n0_;clear n0_;(try clear hb);(try clear hb2);(try clear hk);(try clear hi)))
   go_ret
   exact ⟨au2,au0⟩
  ·replace c5 := Bool.eq_false_iff.mpr c5
   subst c5
   have H1 : ((cluster_Next.f k a0 a1).bind fun t373 => (some t373)) = some r := by rw [if_neg (show ¬ (false = true) by decide)] at H;exact H
   clear H
   have H := H1
   clear H1
   replace H := Option.bind_eq_some_iff.mp H
   obtain ⟨t373,A70,H⟩ := H
   replace H : (some t373) = some r := H
   have A7 := Aside0.mk A70
   clear A70
   obtain rfl := Option.some.inj H
   go_enter Tryd.func50,Tryd.ntmps50
   go_wp2_with (first | ((with_reducible refine gate_callee (f := 42) rfl ?_);refine goesL_ (some 9) rfl rfl Tryd.func42 (by kernel_rfl) rfl #[.string a0,.int .i64 a1] rfl au1 ?_;(with_reducible refine (cluster_Boundary.calls k a0 a1 false _ ?side1 A4.out).mono ?_);(case side1 => exact tabs_below HT.out au0);rintro e w8 ⟨rfl,hb⟩;refine ⟨_,rfl,?_⟩;have n0_ := Aside0.mk (below_step au0 hb);clear HB;have HB := n0_;clear n0_;(try clear hb);(try clear hb2);(try clear hk);(try clear hi)) | ((with_reducible refine gate_callee (f := 46) rfl ?_);refine goesL_ (some 13) rfl rfl Tryd.func46 (by kernel_rfl) rfl #[.string a0,.int .i64 a1] rfl au1 ?_;(with_reducible refine (cluster_Next.calls k a0 a1 t373 _ ?side1 A7.out).mono ?_);(case side1 => exact tabs_below HT.out au0);rintro e w9 ⟨rfl,hb⟩;refine ⟨_,rfl,?_⟩;have n0_ := Aside0.mk (below_step au0 hb);clear HB;have HB := n0_;clear n0_;(try clear hb);(try clear hb2);(try clear hk);(try clear hi)))
   go_ret
   exact ⟨au2,au0⟩
def width_Cells.f (k : Nat) (a0 : Int) : Option (Int) := (width_Class.f k a0).bind fun t470 => (if t470 = 1 then (some 0) else (if t470 = 4 then (some 2) else (if t470 = 2 then (if a0 ≤ 127 then (some 2) else (some 1)) else (some 1))))
set_option maxHeartbeats 8000000 in
set_option maxRecDepth 100000 in
theorem width_Cells.calls (k : Nat) (a0 : Int) (r : Int) (w : World) (h : width_Cells.f k a0 = some r) :
  Calls Tryd.prog 97 #[.int .i32 a0] w fun e w' => e = .returned (.int .i64 r) ∧ Below w.heap.size w w' := by
 have HB := Aside0.mk (Below.refl w.heap.size w)
 have H : ((width_Class.f k a0).bind fun t470 => (if t470 = 1 then (some 0) else (if t470 = 4 then (some 2) else (if t470 = 2 then (if a0 ≤ 127 then (some 2) else (some 1)) else (some 1))))) = some r := h
 clear h
 replace H := Option.bind_eq_some_iff.mp H
 obtain ⟨t470,A20,H⟩ := H
 replace H : (if t470 = 1 then (some 0) else (if t470 = 4 then (some 2) else (if t470 = 2 then (if a0 ≤ 127 then (some 2) else (some 1)) else (some 1)))) = some r := H
 have A2 := Aside0.mk A20
 clear A20
 by_cases c3 : t470 = 1
 ·rw [if_pos c3] at H
  have c3b0 : (t470 == 1) = true := beq_iff_eq.mpr c3
  have c3b1 : (t470 != 1) = false := bne_eq_false_iff_eq.mpr c3
  clear c3
  obtain rfl := Option.some.inj H
  go_enter Tryd.func97,Tryd.ntmps97
  go_wp2_with (first | ((with_reducible refine gate_callee (f := 96) rfl ?_);refine goesL_ (some 4) rfl rfl Tryd.func96 (by kernel_rfl) rfl #[.int .i32 a0] rfl au1 ?_;(with_reducible refine (width_Class.calls k a0 t470 _ A2.out).mono ?_);rintro e w4 ⟨rfl,hb⟩;refine ⟨_,rfl,?_⟩;have n0_ := Aside0.mk (below_step au0 hb);clear HB;have HB := n0_;clear n0_;(try clear hb);(try clear hb2);(try clear hk);(try clear hi)))
  go_ret
  exact ⟨au2,au0⟩
 ·rw [if_neg c3] at H
  have c3b0 : (t470 == 1) = false := beq_eq_false_iff_ne.mpr c3
  have c3b1 : (t470 != 1) = true := bne_iff_ne.mpr c3
  by_cases c5 : t470 = 4
  ·rw [if_pos c5] at H
   have c5b0 : (t470 == 4) = true := beq_iff_eq.mpr c5
   have c5b1 : (t470 != 4) = false := bne_eq_false_iff_eq.mpr c5
   clear c5
   obtain rfl := Option.some.inj H
   go_enter Tryd.func97,Tryd.ntmps97
   go_wp2_with (first | ((with_reducible refine gate_callee (f := 96) rfl ?_);refine goesL_ (some 4) rfl rfl Tryd.func96 (by kernel_rfl) rfl #[.int .i32 a0] rfl au1 ?_;(with_reducible refine (width_Class.calls k a0 t470 _ A2.out).mono ?_);rintro e w6 ⟨rfl,hb⟩;refine ⟨_,rfl,?_⟩;have n0_ := Aside0.mk (below_step au0 hb);clear HB;have HB := n0_;clear n0_;(try clear hb);(try clear hb2);(try clear hk);(try clear hi)))
   go_ret
   exact ⟨au2,au0⟩
  ·rw [if_neg c5] at H
   have c5b0 : (t470 == 4) = false := beq_eq_false_iff_ne.mpr c5
   have c5b1 : (t470 != 4) = true := bne_iff_ne.mpr c5
   by_cases c7 : t470 = 2
   ·rw [if_pos c7] at H
    have c7b0 : (t470 == 2) = true := beq_iff_eq.mpr c7
    have c7b1 : (t470 != 2) = false := bne_eq_false_iff_eq.mpr c7
    clear c7
    by_cases c8 : a0 ≤ 127
    ·rw [if_pos c8] at H
     have c8b0 : decide (a0 ≤ 127) = true := decide_eq_true c8
     clear c8
     obtain rfl := Option.some.inj H
     go_enter Tryd.func97,Tryd.ntmps97
     go_wp2_with (first | ((with_reducible refine gate_callee (f := 96) rfl ?_);refine goesL_ (some 4) rfl rfl Tryd.func96 (by kernel_rfl) rfl #[.int .i32 a0] rfl au1 ?_;(with_reducible refine (width_Class.calls k a0 t470 _ A2.out).mono ?_);rintro e w9 ⟨rfl,hb⟩;refine ⟨_,rfl,?_⟩;have n0_ := Aside0.mk (below_step au0 hb);clear HB;have HB := n0_;clear n0_;(try clear hb);(try clear hb2);(try clear hk);(try clear hi)))
     go_ret
     exact ⟨au2,au0⟩
    ·rw [if_neg c8] at H
     have c8b0 : decide (a0 ≤ 127) = false := decide_eq_false c8
     clear c8
     obtain rfl := Option.some.inj H
     go_enter Tryd.func97,Tryd.ntmps97
     go_wp2_with (first | ((with_reducible refine gate_callee (f := 96) rfl ?_);refine goesL_ (some 4) rfl rfl Tryd.func96 (by kernel_rfl) rfl #[.int .i32 a0] rfl au1 ?_;(with_reducible refine (width_Class.calls k a0 t470 _ A2.out).mono ?_);rintro e w10 ⟨rfl,hb⟩;refine ⟨_,rfl,?_⟩;have n0_ := Aside0.mk (below_step au0 hb);clear HB;have HB := n0_;clear n0_;(try clear hb);(try clear hb2);(try clear hk);(try clear hi)))
     go_ret
     exact ⟨au2,au0⟩
   ·rw [if_neg c7] at H
    have c7b0 : (t470 == 2) = false := beq_eq_false_iff_ne.mpr c7
    have c7b1 : (t470 != 2) = true := bne_iff_ne.mpr c7
    obtain rfl := Option.some.inj H
    go_enter Tryd.func97,Tryd.ntmps97
    go_wp2_with (first | ((with_reducible refine gate_callee (f := 96) rfl ?_);refine goesL_ (some 4) rfl rfl Tryd.func96 (by kernel_rfl) rfl #[.int .i32 a0] rfl au1 ?_;(with_reducible refine (width_Class.calls k a0 t470 _ A2.out).mono ?_);rintro e w11 ⟨rfl,hb⟩;refine ⟨_,rfl,?_⟩;have n0_ := Aside0.mk (below_step au0 hb);clear HB;have HB := n0_;clear n0_;(try clear hb);(try clear hb2);(try clear hk);(try clear hi)))
    go_ret
    exact ⟨au2,au0⟩
end Go.Proofs.YtfhnfhgpaoddbaaDoor.U
end
section
namespace Go.Proofs.YtfhnfhgpaoddbaaDoor.U
open Go.RowKit Go.Proofs.YtfhnfhgpaoddbaaDoorW.PrintWords Go.Proofs.YtfhnfhgpaoddbaaDoorW.PrintLast Go.Proofs.YtfhnfhgpaoddbaaDoorW.PrintMore
attribute [local go_sem] max2_int min2_int max_two min_two max_three min_three max_four min_four   -- for this text's walks alone
set_option linter.unusedVariables false
set_option linter.unusedSimpArgs false
def cluster_made.f (k : Nat) (a0 : ByteArray) (a1 : Int) (a2 : Int) : Option (Int × Int × Int × Int) := (unit_At.f k a0 a1).bind fun bt473 => ((width_Class.f k bt473.1).bind fun t477 => ((width_Cells.f k bt473.1).bind fun t478 => (if bt473.1 = 13 then (if 0 ≤ (wrap64 (a1 + 1)) then (if (wrap64 (a1 + 1)) ≤ (a0.size : Int) then ((strings_HasPrefix.f (a0.extract ((wrap64 (a1 + 1)) : Int).toNat a0.size) (⟨#[10]⟩ : ByteArray)).bind fun t480 => (if t480 = true then (some (a1,a2,1,0)) else (some (a1,a2,t477,t478)))) else (none)) else (none)) else (some (a1,a2,t477,t478)))))
def cluster_made.T2 : Bool × List (List Nat × List Nat) := (true,[([],[]),([],[]),([],[]),([2],[2]),([3],[3]),([],[]),([5],[5]),([6,4],[6]),([0,1,4,7],[0,1,4,7]),([],[]),([9,8,7,0,1,2,3,4,5,6,7,8,9],[8,9])])
def cluster_made.B2 : List Nat := [0,0,0,4,12,0,32,124,255,0,1023]
theorem cluster_made.tab2 : rtab .any (opsOf Tryd.f84 2) = cluster_made.T2 := by kernel_rfl
theorem cluster_made.bits2 : waitsOk cluster_made.T2.2 cluster_made.B2 = true := by kernel_rfl
set_option maxHeartbeats 8000000 in
set_option maxRecDepth 100000 in
theorem cluster_made.calls (k : Nat) (a0 : ByteArray) (a1 : Int) (a2 : Int) (r1 : Int) (r2 : Int) (r3 : Int) (r4 : Int) (w : World) (hT : Lib.Utf8Tabs 0 1 w) (h : cluster_made.f k a0 a1 a2 = some (r1,r2,r3,r4)) :
  Calls Tryd.prog 84 #[.string a0,.int .i64 a1,.int .i64 a2] w fun e w' => e = .returned (.agg #[.int .i64 r1,.int .i64 r2,.int .i64 r3,.int .i64 r4]) ∧ Below w.heap.size w w' := by
 have hu53 := Tryd.underlying53
 have hu30 := Tryd.underlying30
 have HT := Aside0.mk hT
 clear hT
 have HB := Aside0.mk (Below.refl w.heap.size w)
 have H : ((unit_At.f k a0 a1).bind fun bt473 => ((width_Class.f k bt473.1).bind fun t477 => ((width_Cells.f k bt473.1).bind fun t478 => (if bt473.1 = 13 then (if 0 ≤ (wrap64 (a1 + 1)) then (if (wrap64 (a1 + 1)) ≤ (a0.size : Int) then ((strings_HasPrefix.f (a0.extract ((wrap64 (a1 + 1)) : Int).toNat a0.size) (⟨#[10]⟩ : ByteArray)).bind fun t480 => (if t480 = true then (some (a1,a2,1,0)) else (some (a1,a2,t477,t478)))) else (none)) else (none)) else (some (a1,a2,t477,t478)))))) = some (r1,r2,r3,r4) := h
 clear h
 replace H := Option.bind_eq_some_iff.mp H
 obtain ⟨⟨t473,t474,t475⟩,A40,H⟩ := H
 replace H : ((width_Class.f k t473).bind fun t477 => ((width_Cells.f k t473).bind fun t478 => (if t473 = 13 then (if 0 ≤ (wrap64 (a1 + 1)) then (if (wrap64 (a1 + 1)) ≤ (a0.size : Int) then ((strings_HasPrefix.f (a0.extract ((wrap64 (a1 + 1)) : Int).toNat a0.size) (⟨#[10]⟩ : ByteArray)).bind fun t480 => (if t480 = true then (some (a1,a2,1,0)) else (some (a1,a2,t477,t478)))) else (none)) else (none)) else (some (a1,a2,t477,t478))))) = some (r1,r2,r3,r4) := H
 have A4 := Aside0.mk A40
 clear A40
 replace H := Option.bind_eq_some_iff.mp H
 obtain ⟨t477,A50,H⟩ := H
 replace H : ((width_Cells.f k t473).bind fun t478 => (if t473 = 13 then (if 0 ≤ (wrap64 (a1 + 1)) then (if (wrap64 (a1 + 1)) ≤ (a0.size : Int) then ((strings_HasPrefix.f (a0.extract ((wrap64 (a1 + 1)) : Int).toNat a0.size) (⟨#[10]⟩ : ByteArray)).bind fun t480 => (if t480 = true then (some (a1,a2,1,0)) else (some (a1,a2,t477,t478)))) else (none)) else (none)) else (some (a1,a2,t477,t478)))) = some (r1,r2,r3,r4) := H
 have A5 := Aside0.mk A50
 clear A50
 replace H := Option.bind_eq_some_iff.mp H
 obtain ⟨t478,A60,H⟩ := H
 replace H : (if t473 = 13 then (if 0 ≤ (wrap64 (a1 + 1)) then (if (wrap64 (a1 + 1)) ≤ (a0.size : Int) then ((strings_HasPrefix.f (a0.extract ((wrap64 (a1 + 1)) : Int).toNat a0.size) (⟨#[10]⟩ : ByteArray)).bind fun t480 => (if t480 = true then (some (a1,a2,1,0)) else (some (a1,a2,t477,t478)))) else (none)) else (none)) else (some (a1,a2,t477,t478))) = some (r1,r2,r3,r4) := H
 have A6 := Aside0.mk A60
 clear A60
 go_enter Tryd.func84,Tryd.ntmps84
 try go_wp2_with (first | ((with_reducible refine gate_dst (N := 6) rfl ?_);refine box_event ?hg (N := 6) ?hd (cs := #[.int .i64 0,.int .i64 0,.int .i64 0,.int .i64 0]) (t := 53) ?hr ?_;(case hd => rfl);(case hg => rfl);(case hr => first | (go_simp;done) | (go_simp;rfl));intro gb472 hg w13 hbox hb;have n0_ := Aside0.mk (below_step au0 hb);have n1_ := Aside0.mk (hbox);have n2_ := Aside0.mk ((by rw [hg];exact (below_size au0) : w.heap.size ≤ gb472));have n3_ := Aside0.mk ((by rw [hg];exact (below_size au0) : w.heap.size ≤ gb472));clear HB;have HB := n0_;have BK472 := n1_;have GW472 := n2_;have GE472 := n3_;clear n0_ n1_ n2_ n3_;clear hb hbox hg) | ((with_reducible refine gate_callee (f := 65) rfl ?_);refine goesL_ (some 13) rfl rfl Tryd.func65 (by kernel_rfl) rfl #[.string a0,.int .i64 a1] rfl au1 ?_;(with_reducible refine (unit_At.calls k a0 a1 t473 t474 t475 _ ?side1 A4.out).mono ?_);(case side1 => exact tabs_below HT.out au12);rintro e w14 ⟨rfl,hb⟩;refine ⟨_,rfl,?_⟩;have n0_ := Aside0.mk (blk_below (g := gb472) (o := .cells #[.int .i64 0,.int .i64 0,.int .i64 0,.int .i64 0] 53 (0,0)) au3 hb);have n1_ := Aside0.mk (below_step au12 hb);clear BK472;clear HB;have BK472 := n0_;have HB := n1_;clear n0_ n1_;(try clear hb);(try clear hb2);(try clear hk);(try clear hi)) | ((with_reducible refine gate_dst (N := 7) rfl ?_);refine box_event ?hg (N := 7) ?hd (cs := #[.int .i32 0,.int .i64 0]) (t := 30) ?hr ?_;(case hd => rfl);(case hg => rfl);(case hr => first | (go_simp;done) | (go_simp;rfl));intro gb476 hg w15 hbox hb;have n0_ := Aside0.mk (blk_below (g := gb472) (o := .cells #[.int .i64 0,.int .i64 0,.int .i64 0,.int .i64 0] 53 (0,0)) au3 hb);have n1_ := Aside0.mk (below_step au12 hb);have n2_ := Aside0.mk (hbox);have n3_ := Aside0.mk ((by rw [hg];exact (below_size au12) : w.heap.size ≤ gb476));have n4_ := Aside0.mk ((by rw [hg];exact (below_size au12) : w.heap.size ≤ gb476));have n5_ := Aside0.mk ((by rw [hg];exact Nat.ne_of_lt (blk_lt (g := gb472) (o := .cells #[.int .i64 0,.int .i64 0,.int .i64 0,.int .i64 0] 53 (0,0)) au3) : gb472 ≠ gb476));have n6_ := Aside0.mk ((by rw [hg];exact Nat.ne_of_gt (blk_lt (g := gb472) (o := .cells #[.int .i64 0,.int .i64 0,.int .i64 0,.int .i64 0] 53 (0,0)) au3) : gb476 ≠ gb472));clear BK472;clear HB;have BK472 := n0_;have HB := n1_;have BK476 := n2_;have GW476 := n3_;have GE476 := n4_;have NB472_476 := n5_;have NB476_472 := n6_;clear n0_ n1_ n2_ n3_ n4_ n5_ n6_;clear hb hbox hg;have hnb16 := NB476_472.out;have hnc16 := NB472_476.out;have hcz17_0 : w15.cell? ⟨gb476,0,none⟩ = some (.int .i32 0) := (blk_cell BK476.out 0).trans rfl;have hcz17_1 : w15.cell? ⟨gb476,1,none⟩ = some (.int .i64 0) := (blk_cell BK476.out 1).trans rfl;have hfz17_0 := blk_frozen BK476.out 0;have hfz17_1 := blk_frozen BK476.out 1))
 have n0_ : Aside0 (((w15.setCell ⟨gb476,0,none⟩ (.int .i32 t473)).setCell ⟨gb476,1,none⟩ (.int .i64 t474)).heap[gb472]? = some (.cells #[.int .i64 0,.int .i64 0,.int .i64 0,.int .i64 0] 53 (0,0))) := ⟨by (with_reducible repeat (first | refine blk_drewN ?_ _ | refine blk_drew ?_ | refine blk_alloc ?_ _));refine blk_far ?_ NB472_476.out _;(with_reducible repeat (first | refine blk_drewN ?_ _ | refine blk_drew ?_ | refine blk_alloc ?_ _));refine blk_far ?_ NB472_476.out _;(with_reducible repeat (first | refine blk_drewN ?_ _ | refine blk_drew ?_ | refine blk_alloc ?_ _));exact BK472.out⟩
 have n1_ : Aside0 (((w15.setCell ⟨gb476,0,none⟩ (.int .i32 t473)).setCell ⟨gb476,1,none⟩ (.int .i64 t474)).heap[gb476]? = some (.cells #[.int .i32 t473,.int .i64 t474] 30 (0,0))) := ⟨by (with_reducible repeat (first | refine blk_drewN ?_ _ | refine blk_drew ?_ | refine blk_alloc ?_ _));refine blk_put (cs := #[.int .i32 t473,.int .i64 0]) ?_ 1 _ rfl;(with_reducible repeat (first | refine blk_drewN ?_ _ | refine blk_drew ?_ | refine blk_alloc ?_ _));refine blk_put (cs := #[.int .i32 0,.int .i64 0]) ?_ 0 _ rfl;(with_reducible repeat (first | refine blk_drewN ?_ _ | refine blk_drew ?_ | refine blk_alloc ?_ _));exact BK476.out⟩
 have n2_ : Aside0 (Below w.heap.size w ((w15.setCell ⟨gb476,0,none⟩ (.int .i32 t473)).setCell ⟨gb476,1,none⟩ (.int .i64 t474))) := ⟨by repeat (first | (with_reducible first | exact HB.out | apply below_alloc | apply pw_below_drewN | apply below_drew1 | refine below_set ?_ GE472.out | refine below_set ?_ GE476.out) | exact HB.out)⟩
 (try clear BK472)
 (try clear BK476)
 (try clear HB)
 generalize ((w15.setCell ⟨gb476,0,none⟩ (.int .i32 t473)).setCell ⟨gb476,1,none⟩ (.int .i64 t474)) = w18 at n0_ n1_ n2_ ⊢
 have BK472 := n0_
 have BK476 := n1_
 have HB := n2_
 clear n0_ n1_ n2_
 have n0_ := Aside0.mk (blk_drew BK472.out)
 have n1_ := Aside0.mk (blk_drew BK476.out)
 have n2_ := Aside0.mk (below_drew1 HB.out)
 clear BK472
 clear BK476
 clear HB
 have BK472 := n0_
 have BK476 := n1_
 have HB := n2_
 clear n0_ n1_ n2_
 refine start_ (n := 11) (S := fun w' => w'.cell? ⟨gb476,0,none⟩ = some (.int .i32 t473) ∧ w'.cell? ⟨gb476,1,none⟩ = some (.int .i64 t474)) (ds := []) #[false,false,false,false,false,false,false,false,false,false,false] (by kernel_rfl) rfl rfl ⟨(blk_cell BK476.out 0).trans rfl,(blk_cell BK476.out 1).trans rfl⟩ (fun hHeld => ?_);refine with_tabW cluster_made.tab2 cluster_made.bits2 (fun HT_ HW_ => ?_)
 generalize w18.drew = w19 at BK472 BK476 HB hHeld ⊢
 refine pure_ (i := 0) (N := some 16) (v := ?_) (a' := ?_) #[true,false,false,false,false,false,false,false,false,false,false] rfl rfl (any_of HT_.out (by kernel_rfl)) (fun _ _ _ h => h) (Or.inl ⟨by rfl,?_⟩) ?_ ?_
 rotate_left
 ·intro w'
  go_simp
  with_reducible rfl
 rotate_left
 ·simp only [Act.put,List.setIfInBounds_toArray,List.set_cons_zero,List.set_cons_succ,i64_w,i32_w]
  rfl
 refine pure_ (i := 1) (N := some 17) (v := ?_) (a' := ?_) #[true,true,false,false,false,false,false,false,false,false,false] rfl rfl (any_of HT_.out (by kernel_rfl)) (fun _ _ _ h => h) (Or.inl ⟨by rfl,?_⟩) ?_ ?_
 rotate_left
 ·intro w'
  go_simp
  with_reducible rfl
 rotate_left
 ·simp only [Act.put,List.setIfInBounds_toArray,List.set_cons_zero,List.set_cons_succ,i64_w,i32_w]
  rfl
 refine pure_ (i := 2) (N := some 18) (v := ?_) (a' := ?_) #[true,true,true,false,false,false,false,false,false,false,false] rfl rfl (any_of HT_.out (by kernel_rfl)) (fun _ _ _ h => h) (Or.inl ⟨by rfl,?_⟩) ?_ ?_
 rotate_left
 ·intro w'
  go_simp
  with_reducible rfl
 rotate_left
 ·simp only [Act.put,List.setIfInBounds_toArray,List.set_cons_zero,List.set_cons_succ,i64_w,i32_w]
  rfl
 refine pure_ (i := 5) (N := some 21) (v := ?_) (a' := ?_) #[true,true,true,false,false,true,false,false,false,false,false] rfl rfl (any_of HT_.out (by kernel_rfl)) (fun _ _ _ h => h) (Or.inl ⟨by rfl,?_⟩) ?_ ?_
 rotate_left
 ·intro w'
  go_simp
  with_reducible rfl
 rotate_left
 ·simp only [Act.put,List.setIfInBounds_toArray,List.set_cons_zero,List.set_cons_succ,i64_w,i32_w]
  rfl
 refine take_ (i := 3) (N := some 19) (v := ?_) (a' := ?_) #[true,true,true,true,false,true,false,false,false,false,false] rfl rfl (take_ofW HT_.out HW_.out (by kernel_rfl)) (fun _ _ _ h => h) (Or.inl ⟨by rfl,?_⟩) hHeld ?_ ?_
 rotate_left
 ·rintro w' ⟨s0,s1⟩
  go_simp
  with_reducible rfl
 rotate_left
 ·simp only [Act.put,List.setIfInBounds_toArray,List.set_cons_zero,List.set_cons_succ,i64_w,i32_w]
  rfl
 refine take_ (i := 6) (N := some 22) (v := ?_) (a' := ?_) #[true,true,true,true,false,true,true,false,false,false,false] rfl rfl (take_ofW HT_.out HW_.out (by kernel_rfl)) (fun _ _ _ h => h) (Or.inl ⟨by rfl,?_⟩) hHeld ?_ ?_
 rotate_left
 ·rintro w' ⟨s0,s1⟩
  go_simp
  with_reducible rfl
 rotate_left
 ·simp only [Act.put,List.setIfInBounds_toArray,List.set_cons_zero,List.set_cons_succ,i64_w,i32_w]
  rfl
 refine join_ (σ := Nat) 1 #[true,true,true,true,true,true,true,true,true,true,false] (fun s_ => [(20,.int .i64 t477),(23,.int .i64 t478),(9,.pointer (some ⟨s_,0,none⟩)),(24,.agg #[.int .i64 a1,.int .i64 a2,.int .i64 t477,.int .i64 t478])]) (fun s_ w' => (w'.cell? ⟨gb476,0,none⟩ = some (.int .i32 t473) ∧ w'.cell? ⟨gb476,1,none⟩ = some (.int .i64 t474)) ∧ (w'.heap[gb472]? = some (.cells #[.int .i64 0,.int .i64 0,.int .i64 0,.int .i64 0] 53 (0,0))) ∧ (w'.heap[gb476]? = some (.cells #[.int .i32 t473,.int .i64 t474] 30 (0,0))) ∧ (w'.heap[s_]? = some (.cells #[.int .i64 0,.int .i64 0,.int .i64 0,.int .i64 0] 53 (0,0))) ∧ (w.heap.size ≤ s_) ∧ (w.heap.size ≤ s_) ∧ (gb472 ≠ s_) ∧ (s_ ≠ gb472) ∧ (gb476 ≠ s_) ∧ (s_ ≠ gb476) ∧ (Below w.heap.size w w')) ?_ ?_
 rotate_left
 ·intro hCont
  refine two_ (i := 4) (j := 9) (Ni := some 20) (Nj := some 9) #[true,true,true,true,true,true,true,false,false,false,false] #[true,true,true,true,false,true,true,false,false,true,false] rfl rfl rfl rfl (two_of HT_.out (by kernel_rfl)) (by decide) (by decide) (fun K hK => ?_) (fun K hK => ?_)
  ·skip
   refine goes_ Tryd.func96 (by kernel_rfl) rfl #[.int .i32 t473] (by rfl) rfl rfl au1 ?_
   with_reducible refine (width_Class.calls k t473 t477 _ A5.out).mono ?_
   rintro e w20 ⟨rfl,hb⟩
   refine ⟨_,rfl,?_⟩
   have n0_ := Aside0.mk (blk_below (g := gb472) (o := .cells #[.int .i64 0,.int .i64 0,.int .i64 0,.int .i64 0] 53 (0,0)) au3 hb)
   have n1_ := Aside0.mk (blk_below (g := gb476) (o := .cells #[.int .i32 t473,.int .i64 t474] 30 (0,0)) au5 hb)
   have n2_ := Aside0.mk (below_step au4 hb)
   clear BK472
   clear BK476
   clear HB
   have BK472 := n0_
   have BK476 := n1_
   have HB := n2_
   clear n0_ n1_ n2_
   (try clear hb)
   (try clear hb2)
   (try clear hk)
   (try clear hi)
   refine hK.out _ _ ⟨(blk_cell BK476.out 0).trans rfl,(blk_cell BK476.out 1).trans rfl⟩ (fun hHeld => ?_)
   clear hK K
   refine norm_ (a' := ?_) ?_ ?_
   rotate_left
   ·show Act.put _ (some 20) _ = _
    simp only [Act.put,List.setIfInBounds_toArray,List.set_cons_zero,List.set_cons_succ,i64_w,i32_w]
    rfl
   refine two_ (i := 7) (j := 9) (Ni := some 23) (Nj := some 9) #[true,true,true,true,true,true,true,true,false,false,false] #[true,true,true,true,true,true,true,false,false,true,false] rfl rfl rfl rfl (two_of HT_.out (by kernel_rfl)) (by decide) (by decide) (fun K hK => ?_) (fun K hK => ?_)
   ·skip
    refine goes_ Tryd.func97 (by kernel_rfl) rfl #[.int .i32 t473] (by rfl) rfl rfl au1 ?_
    with_reducible refine (width_Cells.calls k t473 t478 _ A6.out).mono ?_
    rintro e w21 ⟨rfl,hb⟩
    refine ⟨_,rfl,?_⟩
    have n0_ := Aside0.mk (blk_below (g := gb472) (o := .cells #[.int .i64 0,.int .i64 0,.int .i64 0,.int .i64 0] 53 (0,0)) au3 hb)
    have n1_ := Aside0.mk (blk_below (g := gb476) (o := .cells #[.int .i32 t473,.int .i64 t474] 30 (0,0)) au5 hb)
    have n2_ := Aside0.mk (below_step au4 hb)
    clear BK472
    clear BK476
    clear HB
    have BK472 := n0_
    have BK476 := n1_
    have HB := n2_
    clear n0_ n1_ n2_
    (try clear hb)
    (try clear hb2)
    (try clear hk)
    (try clear hi)
    refine hK.out _ _ ⟨(blk_cell BK476.out 0).trans rfl,(blk_cell BK476.out 1).trans rfl⟩ (fun hHeld => ?_)
    clear hK K
    refine norm_ (a' := ?_) ?_ ?_
    rotate_left
    ·show Act.put _ (some 23) _ = _
     simp only [Act.put,List.setIfInBounds_toArray,List.set_cons_zero,List.set_cons_succ,i64_w,i32_w]
     rfl
    refine pure_ (i := 8) (N := some 24) (v := ?_) (a' := ?_) #[true,true,true,true,true,true,true,true,true,false,false] rfl rfl (any_of HT_.out (by kernel_rfl)) (fun _ _ _ h => h) (Or.inl ⟨by rfl,?_⟩) ?_ ?_
    rotate_left
    ·intro w'
     go_simp
     with_reducible rfl
    rotate_left
    ·simp only [Act.put,List.setIfInBounds_toArray,List.set_cons_zero,List.set_cons_succ,i64_w,i32_w]
     rfl
    refine one_ (i := 9) (N := some 9) #[true,true,true,true,true,true,true,true,true,true,false] rfl rfl (one_of HT_.out (by kernel_rfl)) (by decide) (fun K hK => ?_)
    refine box_step ?hg (N := 9) ?hd (cs := #[.int .i64 0,.int .i64 0,.int .i64 0,.int .i64 0]) (t := 53) ?hr ?_;(case hd => rfl);(case hg => rfl);(case hr => first | (go_simp;done) | (go_simp;rfl))
    intro gb479 hg w22 hbox hb
    have n0_ := Aside0.mk (blk_below (g := gb472) (o := .cells #[.int .i64 0,.int .i64 0,.int .i64 0,.int .i64 0] 53 (0,0)) au3 hb)
    have n1_ := Aside0.mk (blk_below (g := gb476) (o := .cells #[.int .i32 t473,.int .i64 t474] 30 (0,0)) au5 hb)
    have n2_ := Aside0.mk (below_step au4 hb)
    have n3_ := Aside0.mk (hbox)
    have n4_ := Aside0.mk ((by rw [hg];exact (below_size au4) : w.heap.size ≤ gb479))
    have n5_ := Aside0.mk ((by rw [hg];exact (below_size au4) : w.heap.size ≤ gb479))
    have n6_ := Aside0.mk ((by rw [hg];exact Nat.ne_of_lt (blk_lt (g := gb472) (o := .cells #[.int .i64 0,.int .i64 0,.int .i64 0,.int .i64 0] 53 (0,0)) au3) : gb472 ≠ gb479))
    have n7_ := Aside0.mk ((by rw [hg];exact Nat.ne_of_gt (blk_lt (g := gb472) (o := .cells #[.int .i64 0,.int .i64 0,.int .i64 0,.int .i64 0] 53 (0,0)) au3) : gb479 ≠ gb472))
    have n8_ := Aside0.mk ((by rw [hg];exact Nat.ne_of_lt (blk_lt (g := gb476) (o := .cells #[.int .i32 t473,.int .i64 t474] 30 (0,0)) au5) : gb476 ≠ gb479))
    have n9_ := Aside0.mk ((by rw [hg];exact Nat.ne_of_gt (blk_lt (g := gb476) (o := .cells #[.int .i32 t473,.int .i64 t474] 30 (0,0)) au5) : gb479 ≠ gb476))
    clear BK472
    clear BK476
    clear HB
    have BK472 := n0_
    have BK476 := n1_
    have HB := n2_
    have BK479 := n3_
    have GW479 := n4_
    have GE479 := n5_
    have NB472_479 := n6_
    have NB479_472 := n7_
    have NB476_479 := n8_
    have NB479_476 := n9_
    clear n0_ n1_ n2_ n3_ n4_ n5_ n6_ n7_ n8_ n9_
    clear hb hbox hg
    refine hK.out _ _ ⟨(blk_cell BK476.out 0).trans rfl,(blk_cell BK476.out 1).trans rfl⟩ (fun hHeld => ?_)
    clear hK K
    refine norm_ (a' := ?_) ?_ ?_
    rotate_left
    ·show Act.put _ (some 9) _ = _
     simp only [Act.put,List.setIfInBounds_toArray,List.set_cons_zero,List.set_cons_succ,i64_w,i32_w]
     rfl
    exact norm_ (by simp only [putAll,Act.put,List.setIfInBounds_toArray,List.set_cons_zero,List.set_cons_succ]) (hCont (gb479) _ ⟨hHeld,au3,au5,au14,GW479.out,GE479.out,NB472_479.out,NB479_472.out,NB476_479.out,NB479_476.out,au6⟩)
   ·skip
    refine box_step ?hg (N := 9) ?hd (cs := #[.int .i64 0,.int .i64 0,.int .i64 0,.int .i64 0]) (t := 53) ?hr ?_;(case hd => rfl);(case hg => rfl);(case hr => first | (go_simp;done) | (go_simp;rfl))
    intro gb479 hg w21 hbox hb
    have n0_ := Aside0.mk (blk_below (g := gb472) (o := .cells #[.int .i64 0,.int .i64 0,.int .i64 0,.int .i64 0] 53 (0,0)) au3 hb)
    have n1_ := Aside0.mk (blk_below (g := gb476) (o := .cells #[.int .i32 t473,.int .i64 t474] 30 (0,0)) au5 hb)
    have n2_ := Aside0.mk (below_step au4 hb)
    have n3_ := Aside0.mk (hbox)
    have n4_ := Aside0.mk ((by rw [hg];exact (below_size au4) : w.heap.size ≤ gb479))
    have n5_ := Aside0.mk ((by rw [hg];exact (below_size au4) : w.heap.size ≤ gb479))
    have n6_ := Aside0.mk ((by rw [hg];exact Nat.ne_of_lt (blk_lt (g := gb472) (o := .cells #[.int .i64 0,.int .i64 0,.int .i64 0,.int .i64 0] 53 (0,0)) au3) : gb472 ≠ gb479))
    have n7_ := Aside0.mk ((by rw [hg];exact Nat.ne_of_gt (blk_lt (g := gb472) (o := .cells #[.int .i64 0,.int .i64 0,.int .i64 0,.int .i64 0] 53 (0,0)) au3) : gb479 ≠ gb472))
    have n8_ := Aside0.mk ((by rw [hg];exact Nat.ne_of_lt (blk_lt (g := gb476) (o := .cells #[.int .i32 t473,.int .i64 t474] 30 (0,0)) au5) : gb476 ≠ gb479))
    have n9_ := Aside0.mk ((by rw [hg];exact Nat.ne_of_gt (blk_lt (g := gb476) (o := .cells #[.int .i32 t473,.int .i64 t474] 30 (0,0)) au5) : gb479 ≠ gb476))
    clear BK472
    clear BK476
    clear HB
    have BK472 := n0_
    have BK476 := n1_
    have HB := n2_
    have BK479 := n3_
    have GW479 := n4_
    have GE479 := n5_
    have NB472_479 := n6_
    have NB479_472 := n7_
    have NB476_479 := n8_
    have NB479_476 := n9_
    clear n0_ n1_ n2_ n3_ n4_ n5_ n6_ n7_ n8_ n9_
    clear hb hbox hg
    refine hK.out _ _ ⟨(blk_cell BK476.out 0).trans rfl,(blk_cell BK476.out 1).trans rfl⟩ (fun hHeld => ?_)
    clear hK K
    refine norm_ (a' := ?_) ?_ ?_
    rotate_left
    ·show Act.put _ (some 9) _ = _
     simp only [Act.put,List.setIfInBounds_toArray,List.set_cons_zero,List.set_cons_succ,i64_w,i32_w]
     rfl
    refine one_ (i := 7) (N := some 23) #[true,true,true,true,true,true,true,true,false,true,false] rfl rfl (one_of HT_.out (by kernel_rfl)) (by decide) (fun K hK => ?_)
    refine goes_ Tryd.func97 (by kernel_rfl) rfl #[.int .i32 t473] (by rfl) rfl rfl au1 ?_
    with_reducible refine (width_Cells.calls k t473 t478 _ A6.out).mono ?_
    rintro e w22 ⟨rfl,hb⟩
    refine ⟨_,rfl,?_⟩
    have n0_ := Aside0.mk (blk_below (g := gb472) (o := .cells #[.int .i64 0,.int .i64 0,.int .i64 0,.int .i64 0] 53 (0,0)) au3 hb)
    have n1_ := Aside0.mk (blk_below (g := gb476) (o := .cells #[.int .i32 t473,.int .i64 t474] 30 (0,0)) au5 hb)
    have n2_ := Aside0.mk (blk_below (g := gb479) (o := .cells #[.int .i64 0,.int .i64 0,.int .i64 0,.int .i64 0] 53 (0,0)) au14 hb)
    have n3_ := Aside0.mk (below_step au6 hb)
    clear BK472
    clear BK476
    clear BK479
    clear HB
    have BK472 := n0_
    have BK476 := n1_
    have BK479 := n2_
    have HB := n3_
    clear n0_ n1_ n2_ n3_
    (try clear hb)
    (try clear hb2)
    (try clear hk)
    (try clear hi)
    refine hK.out _ _ ⟨(blk_cell BK476.out 0).trans rfl,(blk_cell BK476.out 1).trans rfl⟩ (fun hHeld => ?_)
    clear hK K
    refine norm_ (a' := ?_) ?_ ?_
    rotate_left
    ·show Act.put _ (some 23) _ = _
     simp only [Act.put,List.setIfInBounds_toArray,List.set_cons_zero,List.set_cons_succ,i64_w,i32_w]
     rfl
    refine pure_ (i := 8) (N := some 24) (v := ?_) (a' := ?_) #[true,true,true,true,true,true,true,true,true,true,false] rfl rfl (any_of HT_.out (by kernel_rfl)) (fun _ _ _ h => h) (Or.inl ⟨by rfl,?_⟩) ?_ ?_
    rotate_left
    ·intro w'
     go_simp
     with_reducible rfl
    rotate_left
    ·simp only [Act.put,List.setIfInBounds_toArray,List.set_cons_zero,List.set_cons_succ,i64_w,i32_w]
     rfl
    exact norm_ (by simp only [putAll,Act.put,List.setIfInBounds_toArray,List.set_cons_zero,List.set_cons_succ]) (hCont (gb479) _ ⟨hHeld,au3,au5,au14,GW479.out,GE479.out,NB472_479.out,NB479_472.out,NB476_479.out,NB479_476.out,au6⟩)
  ·skip
   refine box_step ?hg (N := 9) ?hd (cs := #[.int .i64 0,.int .i64 0,.int .i64 0,.int .i64 0]) (t := 53) ?hr ?_;(case hd => rfl);(case hg => rfl);(case hr => first | (go_simp;done) | (go_simp;rfl))
   intro gb479 hg w20 hbox hb
   have n0_ := Aside0.mk (blk_below (g := gb472) (o := .cells #[.int .i64 0,.int .i64 0,.int .i64 0,.int .i64 0] 53 (0,0)) au3 hb)
   have n1_ := Aside0.mk (blk_below (g := gb476) (o := .cells #[.int .i32 t473,.int .i64 t474] 30 (0,0)) au5 hb)
   have n2_ := Aside0.mk (below_step au4 hb)
   have n3_ := Aside0.mk (hbox)
   have n4_ := Aside0.mk ((by rw [hg];exact (below_size au4) : w.heap.size ≤ gb479))
   have n5_ := Aside0.mk ((by rw [hg];exact (below_size au4) : w.heap.size ≤ gb479))
   have n6_ := Aside0.mk ((by rw [hg];exact Nat.ne_of_lt (blk_lt (g := gb472) (o := .cells #[.int .i64 0,.int .i64 0,.int .i64 0,.int .i64 0] 53 (0,0)) au3) : gb472 ≠ gb479))
   have n7_ := Aside0.mk ((by rw [hg];exact Nat.ne_of_gt (blk_lt (g := gb472) (o := .cells #[.int .i64 0,.int .i64 0,.int .i64 0,.int .i64 0] 53 (0,0)) au3) : gb479 ≠ gb472))
   have n8_ := Aside0.mk ((by rw [hg];exact Nat.ne_of_lt (blk_lt (g := gb476) (o := .cells #[.int .i32 t473,.int .i64 t474] 30 (0,0)) au5) : gb476 ≠ gb479))
   have n9_ := Aside0.mk ((by rw [hg];exact Nat.ne_of_gt (blk_lt (g := gb476) (o := .cells #[.int .i32 t473,.int .i64 t474] 30 (0,0)) au5) : gb479 ≠ gb476))
   clear BK472
   clear BK476
   clear HB
   have BK472 := n0_
   have BK476 := n1_
   have HB := n2_
   have BK479 := n3_
   have GW479 := n4_
   have GE479 := n5_
   have NB472_479 := n6_
   have NB479_472 := n7_
   have NB476_479 := n8_
   have NB479_476 := n9_
   clear n0_ n1_ n2_ n3_ n4_ n5_ n6_ n7_ n8_ n9_
   clear hb hbox hg
   refine hK.out _ _ ⟨(blk_cell BK476.out 0).trans rfl,(blk_cell BK476.out 1).trans rfl⟩ (fun hHeld => ?_)
   clear hK K
   refine norm_ (a' := ?_) ?_ ?_
   rotate_left
   ·show Act.put _ (some 9) _ = _
    simp only [Act.put,List.setIfInBounds_toArray,List.set_cons_zero,List.set_cons_succ,i64_w,i32_w]
    rfl
   refine one_ (i := 4) (N := some 20) #[true,true,true,true,true,true,true,false,false,true,false] rfl rfl (one_of HT_.out (by kernel_rfl)) (by decide) (fun K hK => ?_)
   refine goes_ Tryd.func96 (by kernel_rfl) rfl #[.int .i32 t473] (by rfl) rfl rfl au1 ?_
   with_reducible refine (width_Class.calls k t473 t477 _ A5.out).mono ?_
   rintro e w21 ⟨rfl,hb⟩
   refine ⟨_,rfl,?_⟩
   have n0_ := Aside0.mk (blk_below (g := gb472) (o := .cells #[.int .i64 0,.int .i64 0,.int .i64 0,.int .i64 0] 53 (0,0)) au3 hb)
   have n1_ := Aside0.mk (blk_below (g := gb476) (o := .cells #[.int .i32 t473,.int .i64 t474] 30 (0,0)) au5 hb)
   have n2_ := Aside0.mk (blk_below (g := gb479) (o := .cells #[.int .i64 0,.int .i64 0,.int .i64 0,.int .i64 0] 53 (0,0)) au14 hb)
   have n3_ := Aside0.mk (below_step au6 hb)
   clear BK472
   clear BK476
   clear BK479
   clear HB
   have BK472 := n0_
   have BK476 := n1_
   have BK479 := n2_
   have HB := n3_
   clear n0_ n1_ n2_ n3_
   (try clear hb)
   (try clear hb2)
   (try clear hk)
   (try clear hi)
   refine hK.out _ _ ⟨(blk_cell BK476.out 0).trans rfl,(blk_cell BK476.out 1).trans rfl⟩ (fun hHeld => ?_)
   clear hK K
   refine norm_ (a' := ?_) ?_ ?_
   rotate_left
   ·show Act.put _ (some 20) _ = _
    simp only [Act.put,List.setIfInBounds_toArray,List.set_cons_zero,List.set_cons_succ,i64_w,i32_w]
    rfl
   refine one_ (i := 7) (N := some 23) #[true,true,true,true,true,true,true,true,false,true,false] rfl rfl (one_of HT_.out (by kernel_rfl)) (by decide) (fun K hK => ?_)
   refine goes_ Tryd.func97 (by kernel_rfl) rfl #[.int .i32 t473] (by rfl) rfl rfl au1 ?_
   with_reducible refine (width_Cells.calls k t473 t478 _ A6.out).mono ?_
   rintro e w22 ⟨rfl,hb⟩
   refine ⟨_,rfl,?_⟩
   have n0_ := Aside0.mk (blk_below (g := gb472) (o := .cells #[.int .i64 0,.int .i64 0,.int .i64 0,.int .i64 0] 53 (0,0)) au3 hb)
   have n1_ := Aside0.mk (blk_below (g := gb476) (o := .cells #[.int .i32 t473,.int .i64 t474] 30 (0,0)) au5 hb)
   have n2_ := Aside0.mk (blk_below (g := gb479) (o := .cells #[.int .i64 0,.int .i64 0,.int .i64 0,.int .i64 0] 53 (0,0)) au14 hb)
   have n3_ := Aside0.mk (below_step au6 hb)
   clear BK472
   clear BK476
   clear BK479
   clear HB
   have BK472 := n0_
   have BK476 := n1_
   have BK479 := n2_
   have HB := n3_
   clear n0_ n1_ n2_ n3_
   (try clear hb)
   (try clear hb2)
   (try clear hk)
   (try clear hi)
   refine hK.out _ _ ⟨(blk_cell BK476.out 0).trans rfl,(blk_cell BK476.out 1).trans rfl⟩ (fun hHeld => ?_)
   clear hK K
   refine norm_ (a' := ?_) ?_ ?_
   rotate_left
   ·show Act.put _ (some 23) _ = _
    simp only [Act.put,List.setIfInBounds_toArray,List.set_cons_zero,List.set_cons_succ,i64_w,i32_w]
    rfl
   refine pure_ (i := 8) (N := some 24) (v := ?_) (a' := ?_) #[true,true,true,true,true,true,true,true,true,true,false] rfl rfl (any_of HT_.out (by kernel_rfl)) (fun _ _ _ h => h) (Or.inl ⟨by rfl,?_⟩) ?_ ?_
   rotate_left
   ·intro w'
    go_simp
    with_reducible rfl
   rotate_left
   ·simp only [Act.put,List.setIfInBounds_toArray,List.set_cons_zero,List.set_cons_succ,i64_w,i32_w]
    rfl
   exact norm_ (by simp only [putAll,Act.put,List.setIfInBounds_toArray,List.set_cons_zero,List.set_cons_succ]) (hCont (gb479) _ ⟨hHeld,au3,au5,au14,GW479.out,GE479.out,NB472_479.out,NB479_472.out,NB476_479.out,NB479_476.out,au6⟩)
 rintro gb479 w23 ⟨hS_,h0_,h1_,h2_,h3_,h4_,h5_,h6_,h7_,h8_,h9_⟩
 have n0_ : Aside0 (w23.heap[gb472]? = some (.cells #[.int .i64 0,.int .i64 0,.int .i64 0,.int .i64 0] 53 (0,0))) := ⟨h0_⟩
 have n1_ : Aside0 (w23.heap[gb476]? = some (.cells #[.int .i32 t473,.int .i64 t474] 30 (0,0))) := ⟨h1_⟩
 have n2_ : Aside0 (w23.heap[gb479]? = some (.cells #[.int .i64 0,.int .i64 0,.int .i64 0,.int .i64 0] 53 (0,0))) := ⟨h2_⟩
 have n3_ : Aside0 (w.heap.size ≤ gb479) := ⟨h3_⟩
 have n4_ : Aside0 (w.heap.size ≤ gb479) := ⟨h4_⟩
 have n5_ : Aside0 (gb472 ≠ gb479) := ⟨h5_⟩
 have n6_ : Aside0 (gb479 ≠ gb472) := ⟨h6_⟩
 have n7_ : Aside0 (gb476 ≠ gb479) := ⟨h7_⟩
 have n8_ : Aside0 (gb479 ≠ gb476) := ⟨h8_⟩
 have n9_ : Aside0 (Below w.heap.size w w23) := ⟨h9_⟩
 clear BK472
 clear BK476
 clear HB
 clear h0_ h1_ h2_ h3_ h4_ h5_ h6_ h7_ h8_ h9_
 have BK472 := n0_
 have BK476 := n1_
 have BK479 := n2_
 have GW479 := n3_
 have GE479 := n4_
 have NB472_479 := n5_
 have NB479_472 := n6_
 have NB476_479 := n7_
 have NB479_476 := n8_
 have HB := n9_
 clear n0_ n1_ n2_ n3_ n4_ n5_ n6_ n7_ n8_ n9_
 have hHeld : w23.cell? ⟨gb476,0,none⟩ = some (.int .i32 t473) ∧ w23.cell? ⟨gb476,1,none⟩ = some (.int .i64 t474) := hS_
 refine norm_ (a' := ?_) ?_ ?_
 rotate_left
 ·simp only [putAll,Act.put,List.setIfInBounds_toArray,List.set_cons_zero,List.set_cons_succ]
  rfl
 refine one_ (i := 10) (N := none) #[true,true,true,true,true,true,true,true,true,true,true] rfl rfl (one_of HT_.out (by kernel_rfl)) (by decide) (fun K hK => ?_)
 have hs24 : w23.cell? ⟨gb479,0,none⟩ = some (.int .i64 0) := (blk_cell BK479.out 0).trans rfl
 have hfs24 := blk_frozen BK479.out 0
 have hns24_0 := NB472_479.out
 have hns24_1 := NB476_479.out
 have hms24_0 := NB479_472.out
 have hms24_1 := NB479_476.out
 have hs25 : w23.cell? ⟨gb479,1,none⟩ = some (.int .i64 0) := (blk_cell BK479.out 1).trans rfl
 have hfs25 := blk_frozen BK479.out 1
 have hns25_0 := NB472_479.out
 have hns25_1 := NB476_479.out
 have hms25_0 := NB479_472.out
 have hms25_1 := NB479_476.out
 have hs26 : w23.cell? ⟨gb479,2,none⟩ = some (.int .i64 0) := (blk_cell BK479.out 2).trans rfl
 have hfs26 := blk_frozen BK479.out 2
 have hns26_0 := NB472_479.out
 have hns26_1 := NB476_479.out
 have hms26_0 := NB479_472.out
 have hms26_1 := NB479_476.out
 have hs27 : w23.cell? ⟨gb479,3,none⟩ = some (.int .i64 0) := (blk_cell BK479.out 3).trans rfl
 have hfs27 := blk_frozen BK479.out 3
 have hns27_0 := NB472_479.out
 have hns27_1 := NB476_479.out
 have hms27_0 := NB479_472.out
 have hms27_1 := NB479_476.out
 refine skip_ (w1 := ?_) (by rfl) rfl ?_ ?_
 rotate_left
 ·go_simp
  rfl
 refine hK.out _ _ ⟨((cell_far (p := ⟨gb479,_,none⟩) NB476_479.out _).trans (((cell_far (p := ⟨gb479,_,none⟩) NB476_479.out _).trans (((cell_far (p := ⟨gb479,_,none⟩) NB476_479.out _).trans (((cell_far (p := ⟨gb479,_,none⟩) NB476_479.out _).trans (hHeld.1)))))))),((cell_far (p := ⟨gb479,_,none⟩) NB476_479.out _).trans (((cell_far (p := ⟨gb479,_,none⟩) NB476_479.out _).trans (((cell_far (p := ⟨gb479,_,none⟩) NB476_479.out _).trans (((cell_far (p := ⟨gb479,_,none⟩) NB476_479.out _).trans (hHeld.2))))))))⟩ (fun hHeld => ?_)
 clear hK K
 refine done_ (done_of HT_.out (by kernel_rfl)) ?_
 have m0 : ((((w23.setCell ⟨gb479,0,none⟩ (.int .i64 a1)).setCell ⟨gb479,1,none⟩ (.int .i64 a2)).setCell ⟨gb479,2,none⟩ (.int .i64 t477)).setCell ⟨gb479,3,none⟩ (.int .i64 t478)).heap[gb479]? = some (.cells #[.int .i64 a1,.int .i64 a2,.int .i64 t477,.int .i64 t478] 53 (0,0)) :=
  blk_put (cs := #[.int .i64 a1,.int .i64 a2,.int .i64 t477,.int .i64 0]) (blk_put (cs := #[.int .i64 a1,.int .i64 a2,.int .i64 0,.int .i64 0]) (blk_put (cs := #[.int .i64 a1,.int .i64 0,.int .i64 0,.int .i64 0]) (blk_put (cs := #[.int .i64 0,.int .i64 0,.int .i64 0,.int .i64 0]) BK479.out 0 _ rfl) 1 _ rfl) 2 _ rfl) 3 _ rfl
 have m1 : ((((w23.setCell ⟨gb479,0,none⟩ (.int .i64 a1)).setCell ⟨gb479,1,none⟩ (.int .i64 a2)).setCell ⟨gb479,2,none⟩ (.int .i64 t477)).setCell ⟨gb479,3,none⟩ (.int .i64 t478)).heap[gb476]? = some (.cells #[.int .i32 t473,.int .i64 t474] 30 (0,0)) :=
  blk_far (blk_far (blk_far (blk_far BK476.out NB476_479.out _) NB476_479.out _) NB476_479.out _) NB476_479.out _
 have m2 : ((((w23.setCell ⟨gb479,0,none⟩ (.int .i64 a1)).setCell ⟨gb479,1,none⟩ (.int .i64 a2)).setCell ⟨gb479,2,none⟩ (.int .i64 t477)).setCell ⟨gb479,3,none⟩ (.int .i64 t478)).heap[gb472]? = some (.cells #[.int .i64 0,.int .i64 0,.int .i64 0,.int .i64 0] 53 (0,0)) :=
  blk_far (blk_far (blk_far (blk_far BK472.out NB472_479.out _) NB472_479.out _) NB472_479.out _) NB472_479.out _
 have m3 : Below w.heap.size w ((((w23.setCell ⟨gb479,0,none⟩ (.int .i64 a1)).setCell ⟨gb479,1,none⟩ (.int .i64 a2)).setCell ⟨gb479,2,none⟩ (.int .i64 t477)).setCell ⟨gb479,3,none⟩ (.int .i64 t478)) :=
  below_set (below_set (below_set (below_set HB.out GE479.out) GE479.out) GE479.out) GE479.out
 have q1 := NB472_479.out
 have q2 := NB479_472.out
 have q3 := GE479.out
 have q4 := GE472.out
 generalize ((((w23.setCell ⟨gb479,0,none⟩ (.int .i64 a1)).setCell ⟨gb479,1,none⟩ (.int .i64 a2)).setCell ⟨gb479,2,none⟩ (.int .i64 t477)).setCell ⟨gb479,3,none⟩ (.int .i64 t478)) = W at m0 m1 m2 m3 ⊢
 (try clear HB)
 (try clear BK472)
 (try clear GW472)
 (try clear GE472)
 (try clear BK476)
 (try clear GW476)
 (try clear GE476)
 (try clear NB472_476)
 (try clear NB476_472)
 (try clear hnb16)
 (try clear hnc16)
 (try clear hcz17_0)
 (try clear hcz17_1)
 (try clear hfz17_0)
 (try clear hfz17_1)
 (try clear BK479)
 (try clear GW479)
 (try clear GE479)
 (try clear NB472_479)
 (try clear NB479_472)
 (try clear NB476_479)
 (try clear NB479_476)
 (try clear hs24)
 (try clear hfs24)
 (try clear hns24_0)
 (try clear hns24_1)
 (try clear hms24_0)
 (try clear hms24_1)
 (try clear hs25)
 (try clear hfs25)
 (try clear hns25_0)
 (try clear hns25_1)
 (try clear hms25_0)
 (try clear hms25_1)
 (try clear hs26)
 (try clear hfs26)
 (try clear hns26_0)
 (try clear hns26_1)
 (try clear hms26_0)
 (try clear hms26_1)
 (try clear hs27)
 (try clear hfs27)
 (try clear hns27_0)
 (try clear hns27_1)
 (try clear hms27_0)
 (try clear hms27_1)
 (try clear hS_)
 (try clear hHeld)
 (try clear HT_)
 (try clear HW_)
 (try clear hCont)
 have e0 : W.cell? ⟨gb476,0,none⟩ = some (.int .i32 t473) := (blk_cell m1 0).trans rfl
 have d0 : W.cell? ⟨gb479,0,none⟩ = some (.int .i64 a1) := (blk_cell m0 0).trans rfl
 have d1 : W.cell? ⟨gb479,1,none⟩ = some (.int .i64 a2) := (blk_cell m0 1).trans rfl
 have d2 : W.cell? ⟨gb479,2,none⟩ = some (.int .i64 t477) := (blk_cell m0 2).trans rfl
 have d3 : W.cell? ⟨gb479,3,none⟩ = some (.int .i64 t478) := (blk_cell m0 3).trans rfl
 have fd2 : W.frozen? ⟨gb479,2,none⟩ = false := blk_frozen m0 2
 have fd3 : W.frozen? ⟨gb479,3,none⟩ = false := blk_frozen m0 3
 have r0 : W.cell? ⟨gb472,0,none⟩ = some (.int .i64 0) := (blk_cell m2 0).trans rfl
 have r1_ : W.cell? ⟨gb472,1,none⟩ = some (.int .i64 0) := (blk_cell m2 1).trans rfl
 have r2_ : W.cell? ⟨gb472,2,none⟩ = some (.int .i64 0) := (blk_cell m2 2).trans rfl
 have r3_ : W.cell? ⟨gb472,3,none⟩ = some (.int .i64 0) := (blk_cell m2 3).trans rfl
 have fr0 : W.frozen? ⟨gb472,0,none⟩ = false := blk_frozen m2 0
 have fr1 : W.frozen? ⟨gb472,1,none⟩ = false := blk_frozen m2 1
 have fr2 : W.frozen? ⟨gb472,2,none⟩ = false := blk_frozen m2 2
 have fr3 : W.frozen? ⟨gb472,3,none⟩ = false := blk_frozen m2 3
 by_cases c7 : t473 = 13
 ·rw [if_pos c7] at H
  have c7b0 : (t473 == 13) = true := beq_iff_eq.mpr c7
  clear c7
  obtain ⟨j,hj⟩ : ∃ j_ : Int,wrap64 (a1 + 1) = j_ := ⟨_,rfl⟩
  rw [hj] at H
  have hjw : IntKind.i64.wrap (a1 + 1) = j := (i64_w _).trans hj
  clear hj
  by_cases c9 : 0 ≤ j
  ·rw [if_pos c9] at H
   have c9b0 := eq_true c9
   have c9b1 : decide (0 ≤ j) = true := decide_eq_true c9
   clear c9
   by_cases c10 : j ≤ (a0.size : Int)
   ·rw [if_pos c10] at H
    have c10b0 := eq_true c10
    have c10b1 : decide (j ≤ (a0.size : Int)) = true := decide_eq_true c10
    clear c10
    obtain ⟨b,hp,H⟩ := Option.bind_eq_some_iff.mp H
    have HP := Aside0.mk hp
    clear hp
    by_cases c12 : b = true
    ·subst c12
     rw [if_pos rfl] at H
     simp only [Option.some.injEq,Prod.mk.injEq] at H
     obtain ⟨rfl,rfl,rfl,rfl⟩ := H
     go_wp2_with (go_at_call 98;(with_reducible refine (strings_HasPrefix.calls (a0.extract (j : Int).toNat a0.size) (⟨#[10]⟩ : ByteArray) true _ HP.out).mono ?_);rintro e w' ⟨rfl,⟨nd,rfl⟩⟩)
     refine bodyPost_ret (results_cell_row rfl _ _ gb472 53 #[.int .i64 a1,.int .i64 a2,.int .i64 1,.int .i64 0] (0,0) _ rfl (blk_put (cs := #[.int .i64 a1,.int .i64 a2,.int .i64 1,.int .i64 0]) (blk_put (cs := #[.int .i64 a1,.int .i64 a2,.int .i64 0,.int .i64 0]) (blk_put (cs := #[.int .i64 a1,.int .i64 0,.int .i64 0,.int .i64 0]) (blk_put (cs := #[.int .i64 0,.int .i64 0,.int .i64 0,.int .i64 0]) (blk_far (blk_far (blk_drewN m2 nd) q1 _) q1 _) 0 _ rfl) 1 _ rfl) 2 _ rfl) 3 _ rfl) Tryd.underlying53 rfl (by kernel_rfl)) rfl ?_
     exact ⟨rfl,below_set (below_set (below_set (below_set (below_set (below_set (pw_below_drewN m3 nd) q3) q3) q4) q4) q4) q4⟩
    ·replace c12 := Bool.eq_false_iff.mpr c12
     subst c12
     rw [if_neg (by decide)] at H
     simp only [Option.some.injEq,Prod.mk.injEq] at H
     obtain ⟨rfl,rfl,rfl,rfl⟩ := H
     go_wp2_with (go_at_call 98;(with_reducible refine (strings_HasPrefix.calls (a0.extract (j : Int).toNat a0.size) (⟨#[10]⟩ : ByteArray) false _ HP.out).mono ?_);rintro e w' ⟨rfl,⟨nd,rfl⟩⟩)
     refine bodyPost_ret (results_cell_row rfl _ _ gb472 53 #[.int .i64 a1,.int .i64 a2,.int .i64 t477,.int .i64 t478] (0,0) _ rfl (blk_put (cs := #[.int .i64 a1,.int .i64 a2,.int .i64 t477,.int .i64 0]) (blk_put (cs := #[.int .i64 a1,.int .i64 a2,.int .i64 0,.int .i64 0]) (blk_put (cs := #[.int .i64 a1,.int .i64 0,.int .i64 0,.int .i64 0]) (blk_put (cs := #[.int .i64 0,.int .i64 0,.int .i64 0,.int .i64 0]) (blk_drewN m2 nd) 0 _ rfl) 1 _ rfl) 2 _ rfl) 3 _ rfl) Tryd.underlying53 rfl (by kernel_rfl)) rfl ?_
     exact ⟨rfl,below_set (below_set (below_set (below_set (pw_below_drewN m3 nd) q4) q4) q4) q4⟩
   ·rw [if_neg c10] at H;cases H
  ·rw [if_neg c9] at H;cases H
 ·rw [if_neg c7] at H
  have c7b0 : (t473 == 13) = false := by simpa using c7
  clear c7
  simp only [Option.some.injEq,Prod.mk.injEq] at H
  obtain ⟨rfl,rfl,rfl,rfl⟩ := H
  go_wp2
  refine bodyPost_ret (results_cell_row rfl _ _ gb472 53 #[.int .i64 a1,.int .i64 a2,.int .i64 t477,.int .i64 t478] (0,0) _ rfl (blk_put (cs := #[.int .i64 a1,.int .i64 a2,.int .i64 t477,.int .i64 0]) (blk_put (cs := #[.int .i64 a1,.int .i64 a2,.int .i64 0,.int .i64 0]) (blk_put (cs := #[.int .i64 a1,.int .i64 0,.int .i64 0,.int .i64 0]) (blk_put (cs := #[.int .i64 0,.int .i64 0,.int .i64 0,.int .i64 0]) m2 0 _ rfl) 1 _ rfl) 2 _ rfl) 3 _ rfl) Tryd.underlying53 rfl (by kernel_rfl)) rfl ?_
  exact ⟨rfl,below_set (below_set (below_set (below_set m3 q4) q4) q4) q4⟩
end Go.Proofs.YtfhnfhgpaoddbaaDoor.U
end
section
namespace Go.Proofs.YtfhnfhgpaoddbaaDoor.Rg
open Go Go.RowKit
/-- What a round keeps: what lies below n₀;the cells that lie from B on;and the cells of the blocks of Pr (what the iterator has captured). -/
def KeepB (n₀ : Nat) (Pr : Nat → Prop) (B : Nat) (W W' : World) : Prop :=
 Below n₀ W W' ∧ ∀ (k : Nat) (o : Obj),(Pr k ∨ B ≤ k) → W.heap[k]? = some o → o.isCells = true → W'.heap[k]? = some o
theorem KeepB.refl (n₀ : Nat) (Pr : Nat → Prop) (B : Nat) (W : World) : KeepB n₀ Pr B W W := ⟨Below.refl _ _,fun _ _ _ h _ => h⟩
theorem KeepB.trans {n₀ : Nat} {Pr : Nat → Prop} {B : Nat} {X Y Z : World} (h : KeepB n₀ Pr B X Y) (k : KeepB n₀ Pr B Y Z) : KeepB n₀ Pr B X Z :=
 ⟨h.1.trans k.1,fun i o hi ho hc => k.2 i o hi (h.2 i o hi ho hc) hc⟩
theorem KeepB.of_below {n₀ : Nat} {Pr : Nat → Prop} {B : Nat} {X Y : World} (hn : n₀ ≤ X.heap.size) (h : Below X.heap.size X Y) : KeepB n₀ Pr B X Y :=
 ⟨h.mono hn,fun k _o _ ho _ => (h.block k (Array.getElem?_eq_some_iff.1 ho).1).trans ho⟩
theorem KeepB.putObj {n₀ : Nat} {Pr : Nat → Prop} {B : Nat} {W : World} {l : Nat} {o : Obj} (o' : Obj) (hn : n₀ ≤ W.heap.size) (hl : n₀ ≤ l) (h : W.heap[l]? = some o) (ho : o.isCells = false) : KeepB n₀ Pr B W (W.putObj l o') :=
 ⟨(Below.refl n₀ W).grown (grownBy_putObj' W l o') hn (fun k e => by cases e;omega),fun k p _ hk hc => by
  refine (World.putObj_heap_other (fun e => ?_)).trans hk
  subst e;rw [h] at hk;cases hk;rw [ho] at hc;cases hc⟩
/-- The iterator's contract: at each call of yield it tells a world W0 in which the caller's word held,and what it has laid since. -/
def SeqB {α : Type} (F : Fence) (n : Nat) (P : Program) (g : Nat) (lb : Array Value) (encs : α → Array Value) (n₀ : Nat) (Pr : Nat → Prop) (S Sp : List α → Prop) (N : Nat) (w : World) : Prop :=
 ∀ (l : Nat) (J Jx : List α → World → Prop) (W : World),Below w.heap.size w W → AbidesFrom W.heap.size J → AbidesFrom W.heap.size Jx →
  (∀ pre x W0 W1,J pre W0 → Below W0.heap.size W0 W1 → pre.length < N → Sp (pre ++ [x]) → YieldAt F (n - 1) P l (encs x) W1 fun e W' =>
   (e = .returned (.bool true) ∧ J (pre ++ [x]) W' ∧ KeepB n₀ Pr W0.heap.size W1 W') ∨ (e = .returned (.bool false) ∧ Jx (pre ++ [x]) W')) →
  J [] W →
  CallsIn F n P g (#[.func (.yield l) #[] #[]] ++ lb) W fun e W' => (∃ v,e = .returned v) ∧ ((∃ xs,S xs ∧ J xs W') ∨ (∃ pre,Sp pre ∧ Jx pre W'))
theorem SeqB.inRound {α : Type} {F : Fence} {n : Nat} {P : Program} {g : Nat} {lb : Array Value} {encs : α → Array Value} {n₀ : Nat} {Pr : Nat → Prop} {S Sp : List α → Prop} {N : Nat} {w : World} (l : Nat)
  (h : SeqB F n P g lb encs n₀ Pr S Sp N w) : SeqB (F.inRound l) n P g lb encs n₀ Pr S Sp N w := h
/-- How a round may be left. -/
def PostB {α : Type} (C n₀ : Nat) (Pr : Nat → Prop) (B : Nat) (I : Nat → List α → World → Prop) (Ix : Code → List α → World → Prop) (xs : List α) (W : World) : Exit → Act → World → Prop
 | .normal,_,W' => KeepsFrom C W W' ∧ KeepB n₀ Pr B W W' ∧ I W'.heap.size xs W'
 | .ret,_,W' => KeepsFrom C W W' ∧ Ix .ret xs W'
 | .exit id,_,W' => KeepsFrom C W W' ∧ Ix (.exit id) xs W'
 | .goto t,_,W' => KeepsFrom C W W' ∧ Ix (.goto t) xs W'
 | .panic _,_,_ => False
 | .outgrown,_,_ => False
variable {F : Fence} {n : Nat} {P : Program}
/-- What of a loop's own book-keeping lasts through its rounds: its record,and the block for deferred calls,where there is one. -/
structure Book (dz : Option Nat) (L : Nat) (r : Loop) (W : World) : Prop where
 at_ : W.heap[L]? = some (.loop r)
 dz_ : ∀ d,dz = some d → W.heap[d]? = some (.deferred (some []))
theorem Book.walks {dz : Option Nat} {L : Nat} {r : Loop} {A B : World} {row : Option Nat} (h : Book dz L r A) (hg : A.grownBy B row) (hr : ∀ k,row = some k → ∃ o : Obj,A.heap[k]? = some o ∧ o.isWalk = true) : Book dz L r B :=
 ⟨(grownBy_keeps hg hr h.at_ rfl).trans h.at_,fun d e => (grownBy_keeps hg hr (h.dz_ d e) rfl).trans (h.dz_ d e)⟩
theorem Book.from_ {dz : Option Nat} {L C : Nat} {r : Loop} {A B : World} (h : Book dz L r A) (hL : C ≤ L) (hd : ∀ d,dz = some d → C ≤ d ∧ d ≠ L) (hk : KeepsFrom C A B) : Book dz L r B :=
 ⟨hk.same _ _ hL h.at_ rfl,fun d e => hk.same _ _ (hd d e).1 (h.dz_ d e) rfl⟩
theorem Book.put {dz : Option Nat} {L C : Nat} {r : Loop} {A : World} (h : Book dz L r A) (hd : ∀ d,dz = some d → C ≤ d ∧ d ≠ L) (r' : Loop) : Book dz L r' (A.putObj L (.loop r')) :=
 ⟨World.putObj_heap_same (Array.getElem?_eq_some_iff.1 h.at_).1,fun d e => (World.putObj_heap_other (hd d e).2).trans (h.dz_ d e)⟩
/-- The rounds,whichever way the loop was entered. -/
theorem rounds {α : Type} {fid : FuncId} {ps : Array Tmp} {assign body : Code} {tm : Array Value} {C n₀ L D gf : Nat} {Pr : Nat → Prop} {lb : Array Value} {W1 w0 : World} {dz : Option Nat}
  {encs : α → Array Value} {S Sp : List α → Prop} {N : Nat} (hfid : F.fn fid) (hseq : SeqB F (n - 1) P gf lb encs n₀ Pr S Sp N w0) (hb1 : Below w0.heap.size w0 W1) (hps : ∀ x,(encs x).size = ps.size)
  (rec : LoopState → Option Code → Loop) (hrec : rec = fun st pe => { state := st,pending := pe,fn := fid,tmps := tm,params := ps,assign,body,defers := D })
  (hnC : n₀ ≤ C) (hCL : C ≤ L) (hCW : C ≤ W1.heap.size) (hdz : ∀ d,dz = some d → C ≤ d ∧ d ≠ L) (hbk : Book dz L (rec .ready none) W1)
  (I : Nat → List α → World → Prop) (Ix : Code → List α → World → Prop) (hI : ∀ B,OwnFrom C (I B)) (hm : ∀ B B' pre W,B ≤ B' → I B pre W → I B' pre W) (hIx : ∀ c,OwnFrom C (Ix c)) (h0 : I W1.heap.size [] W1)
  (Ax : α → Act → World → Prop) (hAx : ∀ x a',OwnFrom C (fun (_ : Unit) W => Ax x a' W))
  (hassign : ∀ (B : Nat) (pre : List α) (x : α) (W : World) (K : Act → World → Prop),C ≤ W.heap.size → B ≤ W.heap.size → I B pre W → (∀ a' W',KeepsFrom C W W' → KeepB n₀ Pr B W W' → I B pre W' → Ax x a' W' → K a' W') →
   assign.wpIn (F.inRound L) (n - 1 - 1) P (Exit.then K (fun _ _ _ => False)) { tmps := (ps.zip (encs x)).foldl (fun t (p,v) => t.setIfInBounds p v) tm,defers := [] } W)
  (hbody : ∀ (B : Nat) (pre : List α) (x : α) (a' : Act) (W : World),C ≤ W.heap.size → (∃ r,W.heap[L]? = some (.loop r)) → B ≤ W.heap.size → I B pre W → Ax x a' W → pre.length < N → Sp (pre ++ [x]) → body.wpIn (F.inRound L) (n - 1 - 1) P (PostB C n₀ Pr B I Ix (pre ++ [x]) W) a' W) :
  CallsIn F (n - 1) P gf (#[.func (.yield L) #[] #[]] ++ lb) W1 fun e W' => (∃ v,e = .returned v) ∧
   ((∃ xs,S xs ∧ C ≤ W'.heap.size ∧ I W'.heap.size xs W' ∧ Book dz L (rec .ready none) W') ∨ (∃ pre c,Sp pre ∧ C ≤ W'.heap.size ∧ Ix c pre W' ∧ Book dz L (rec .done (some c)) W')) := by
 have hC0 : ∀ {A B : World} {row : Option Nat},(∀ r,row = some r → W1.heap.size ≤ r ∧ ∃ o : Obj,A.heap[r]? = some o ∧ o.isWalk = true) → (∀ r,row = some r → C ≤ r ∧ ∃ o : Obj,A.heap[r]? = some o ∧ o.isCells = false) :=
  fun hr r e => by obtain ⟨hB,o,ho,hw⟩ := hr r e;exact ⟨Nat.le_trans hCW hB,o,ho,Obj.not_cells_of_walk hw⟩
 refine (hseq L (fun pre W => I W.heap.size pre W ∧ Book dz L (rec .ready none) W ∧ C ≤ W.heap.size) (fun pre W => ∃ c,Ix c pre W ∧ Book dz L (rec .done (some c)) W ∧ C ≤ W.heap.size) W1 hb1 ?_ ?_ ?_ ⟨h0,hbk,hCW⟩).mono ?_
 ·rintro s A B row ⟨h1,h2,h3⟩ hg hr
  exact ⟨hm _ _ _ _ hg.size (hI _ s A B row h1 hg (hC0 (B := B) hr)),h2.walks hg (fun r e => (hr r e).2),Nat.le_trans h3 hg.size⟩
 ·rintro s A B row ⟨c,h1,h2,h3⟩ hg hr
  exact ⟨c,hIx c s A B row h1 hg (hC0 (B := B) hr),h2.walks hg (fun r e => (hr r e).2),Nat.le_trans h3 hg.size⟩
 ·rintro pre x W0 W ⟨hi0,hb0,hC⟩ hbel hlen hsp
  have hg : W0.grownBy W none := ⟨hbel.os,hbel.tape,hbel.output,hbel.size,fun i hi _ => hbel.block i hi⟩
  have hi : I W0.heap.size pre W := hI _ pre W0 W none hi0 hg (fun r e => by cases e)
  have hb : Book dz L (rec .ready none) W := hb0.walks hg (fun r e => by cases e)
  have hCW' : C ≤ W.heap.size := Nat.le_trans hC hbel.size
  have hy := run_yield (P := P) (args := encs x) hb.at_ (by rw [hrec];exact hps x)
  rw [hrec] at hy
  refine ⟨fid,_,assign,body,hy,roundIn_of_wpIn hfid (hassign W0.heap.size pre x W _ hCW' hbel.size hi ?_)⟩
  intro a' Wa hkf hkb hia hax
  have hba := hb.from_ hCL hdz hkf
  have hCa : C ≤ Wa.heap.size := Nat.le_trans hCW' hkf.size
  refine ⟨_,run_beginRound hba.at_ (by rw [hrec]),?_⟩
  have hba2 := hba.put (C := C) hdz { rec .ready none with state := .busy }
  have hkb2 : KeepB n₀ Pr W0.heap.size Wa (Wa.putObj L (.loop { rec .ready none with state := .busy })) := KeepB.putObj _ (Nat.le_trans hnC hCa) (Nat.le_trans hnC hCL) hba.at_ rfl
  have hsz2 : (Wa.putObj L (.loop { rec .ready none with state := .busy })).heap.size = Wa.heap.size := by simp
  refine wpIn_mono (hbody W0.heap.size pre x a' _ (by rw [hsz2];exact hCa) ⟨_,hba2.at_⟩ (by rw [hsz2];exact Nat.le_trans hbel.size hkf.size) ((hI _).putObj _ hia hCL hba.at_ rfl) ((hAx x a').putObj (s := ()) _ hax hCL hba.at_ rfl) hlen hsp) ?_
  have fin : ∀ (jump : Option Code) (W3 : World),KeepsFrom C (Wa.putObj L (.loop { rec .ready none with state := .busy })) W3 →
    (Instr.endRound L jump).run P W3 = .ok (.bool jump.isNone) (W3.putObj L (.loop (rec (if jump.isNone then .ready else .done) jump))) ∧
    W3.heap[L]? = some (.loop { rec .ready none with state := .busy }) ∧ Book dz L (rec (if jump.isNone then .ready else .done) jump) (W3.putObj L (.loop (rec (if jump.isNone then .ready else .done) jump))) ∧
    C ≤ (W3.putObj L (.loop (rec (if jump.isNone then .ready else .done) jump))).heap.size := fun jump W3 hk3 => by
   have hb3 := hba2.from_ hCL hdz hk3
   have he := run_endRound (P := P) jump hb3.at_
   refine ⟨?_,hb3.at_,hb3.put (C := C) hdz _,by have := hk3.size;rw [hsz2] at this;simp;omega⟩
   rw [hrec] at he ⊢
   exact he
  rintro e a3 W3 hp
  cases e with
  | normal =>
   obtain ⟨hk3,hkp3,hi3⟩ := hp
   obtain ⟨hr,hl3,hb4,hC4⟩ := fin none W3 hk3
   have hsz3 : n₀ ≤ W3.heap.size := Nat.le_trans hnC (by simpa using hC4)
   refine ⟨_,_,hr,.inl ⟨rfl,⟨?_,hb4,hC4⟩,((hkb.trans hkb2).trans hkp3).trans (KeepB.putObj _ hsz3 (Nat.le_trans hnC hCL) hl3 rfl)⟩⟩
   have hx := (hI _).putObj (.loop (rec .ready none)) hi3 hCL hl3 rfl
   simpa using hx
  | ret =>
   obtain ⟨hk3,hi3⟩ := hp
   obtain ⟨hr,hl3,hb4,hC4⟩ := fin (some .ret) W3 hk3
   exact ⟨_,_,hr,.inr ⟨rfl,.ret,(hIx _).putObj _ hi3 hCL hl3 rfl,hb4,hC4⟩⟩
  | exit id =>
   obtain ⟨hk3,hi3⟩ := hp
   obtain ⟨hr,hl3,hb4,hC4⟩ := fin (some (.exit id)) W3 hk3
   exact ⟨_,_,hr,.inr ⟨rfl,.exit id,(hIx _).putObj _ hi3 hCL hl3 rfl,hb4,hC4⟩⟩
  | goto t =>
   obtain ⟨hk3,hi3⟩ := hp
   obtain ⟨hr,hl3,hb4,hC4⟩ := fin (some (.goto t)) W3 hk3
   exact ⟨_,_,hr,.inr ⟨rfl,.goto t,(hIx _).putObj _ hi3 hCL hl3 rfl,hb4,hC4⟩⟩
  | panic ch => exact hp.elim
  | outgrown => exact hp.elim
 ·rintro e W2 ⟨⟨v,rfl⟩,(⟨xs,hS,hi,hb,hC⟩ | ⟨pre,hSp,c,hi,hb,hC⟩)⟩
  ·exact ⟨⟨v,rfl⟩,.inl ⟨xs,hS,hC,hi,hb⟩⟩
  ·exact ⟨⟨v,rfl⟩,.inr ⟨pre,c,hSp,hC,hi,hb⟩⟩
/-- A loop that stands in no round. -/
theorem range_outer {α : Type} {g : Operand} {ps : Array Tmp} {assign body : Code} {Q : Exit → Act → World → Prop} {a : Act} {w : World} {n₀ : Nat} {Pr : Nat → Prop}
  (hro : F.round = none) (h1 : 1 ≤ n) {gf : Nat} {lb : Array Value} (hg : a.eval g = .func (.func gf) #[] lb) (hFg : F.fn gf) (eg : ∀ args w,(callFunc gf args).run P w = .ok (.enter gf args) w)
  {encs : α → Array Value} {S Sp : List α → Prop} {N : Nat} {w0 : World} (hseq : SeqB F (n - 1) P gf lb encs n₀ Pr S Sp N w0) (hb0 : Below w0.heap.size w0 w) (hps : ∀ x,(encs x).size = ps.size) (hn₀ : n₀ ≤ w.heap.size)
  (I : Nat → List α → World → Prop) (Ix : Code → List α → World → Prop) (hI : ∀ B,OwnFrom w.heap.size (I B)) (hm : ∀ B B' pre W,B ≤ B' → I B pre W → I B' pre W) (hIx : ∀ c,OwnFrom w.heap.size (Ix c)) (h0 : I w.heap.size [] w)
  (Ax : α → Act → World → Prop) (hAx : ∀ x a',OwnFrom w.heap.size (fun (_ : Unit) W => Ax x a' W))
  (hassign : ∀ (l B : Nat) (pre : List α) (x : α) (W : World) (K : Act → World → Prop),w.heap.size ≤ W.heap.size → B ≤ W.heap.size → I B pre W → (∀ a' W',KeepsFrom w.heap.size W W' → KeepB n₀ Pr B W W' → I B pre W' → Ax x a' W' → K a' W') →
   assign.wpIn (F.inRound l) (n - 1 - 1) P (Exit.then K (fun _ _ _ => False)) { tmps := (ps.zip (encs x)).foldl (fun t (p,v) => t.setIfInBounds p v) a.tmps,defers := [] } W)
  (hbody : ∀ (l B : Nat) (pre : List α) (x : α) (a' : Act) (W : World),w.heap.size ≤ l → w.heap.size ≤ W.heap.size → (∃ r,W.heap[l]? = some (.loop r)) → B ≤ W.heap.size → I B pre W → Ax x a' W → pre.length < N → Sp (pre ++ [x]) → body.wpIn (F.inRound l) (n - 1 - 1) P (PostB w.heap.size n₀ Pr B I Ix (pre ++ [x]) W) a' W)
  (hdone : ∀ (D : Nat) (xs : List α) (W : World),w.heap.size ≤ D → S xs → I W.heap.size xs W → W.heap[D]? = some (.deferred (some [])) → Q .normal { a with defers := { target := .collected D,args := #[] } :: a.defers } W)
  (hstop : ∀ (D : Nat) (c : Code) (pre : List α) (W : World),w.heap.size ≤ D → Sp pre → Ix c pre W → W.heap[D]? = some (.deferred (some [])) → c.wpIn F n P Q { a with defers := { target := .collected D,args := #[] } :: a.defers } W) :
  (Code.rangeFunc g ps assign body).wpIn F n P Q a w := by
 refine wpIn_rangeFunc ?_
 intro fid hfid
 rw [hro]
 obtain ⟨rec,hrec⟩ : ∃ rec : LoopState → Option Code → Loop,rec = fun st pe => { state := st,pending := pe,fn := fid,tmps := a.tmps,params := ps,assign,body,defers := w.heap.size } := ⟨_,rfl⟩
 obtain ⟨W1,hW1⟩ : ∃ W1,(w.alloc (.deferred (some []))).alloc (.loop (rec .ready none)) = W1 := ⟨_,rfl⟩
 have hbk : Book (some w.heap.size) (w.heap.size + 1) (rec .ready none) W1 := by
  rw [← hW1]
  refine ⟨?_,fun d e => ?_⟩
  ·have := World.alloc_heap_new (w.alloc (.deferred (some []))) (.loop (rec .ready none));rwa [World.size_alloc] at this
  ·cases e;exact (Below.heap_alloc _ _ _ (by simp)).trans (World.alloc_heap_new w _)
 have hsz : W1.heap.size = w.heap.size + 2 := by rw [← hW1];simp
 have hI1 : I W1.heap.size [] W1 := hm w.heap.size W1.heap.size [] W1 (by omega) (by rw [← hW1];exact (hI w.heap.size).alloc _ ((hI w.heap.size).alloc _ h0))
 have hb1 : Below w0.heap.size w0 W1 := by
  rw [← hW1];exact hb0.trans ((((Below.refl _ w).alloc (Nat.le_refl _) _).alloc (by simp) _).mono hb0.size)
 refine ⟨w.heap.size + 1,[{ target := .collected w.heap.size,args := #[] }],W1,{ target := .fn (.func gf) lb,args := #[.func (.yield (w.heap.size + 1)) #[] #[]] },W1,gf,
  #[.func (.yield (w.heap.size + 1)) #[] #[]] ++ lb,W1,?_,?_,?_,?_,fun _ => h1,?_⟩
 ·rw [← hW1,hrec];exact run_enterLoop_outer _ _ _ _ _
 ·simp only [resolve,hg]
  simp [go_sem]
 ·intro f' hf';simp [Target.leads] at hf';subst hf';exact hFg
 ·simp [invoke,go_sem,eg]
 ·refine (rounds (C := w.heap.size) (dz := some w.heap.size) hfid hseq hb1 hps rec hrec hn₀ (by omega) (by omega) (fun d e => by cases e;exact ⟨Nat.le_refl _,by omega⟩) hbk I Ix hI hm hIx hI1 Ax hAx
   (fun B => hassign _ B) (fun B pre x a' W => hbody _ B pre x a' W (by omega))).mono ?_
  rintro e W2 ⟨⟨v,rfl⟩,(⟨xs,hS,hC,hi,hb⟩ | ⟨pre,c,hSp,hC,hi,hb⟩)⟩
  ·refine ⟨none,_,by have := run_endLoop (P := P) hb.at_ (by rw [hrec];simp);rw [hrec] at this;exact this,hdone w.heap.size xs _ (Nat.le_refl _) hS ?_ ((World.putObj_heap_other (by omega)).trans (hb.dz_ _ rfl))⟩
   have hx := (hI _).putObj (.loop { rec .ready none with state := .exhausted }) hi (by omega : w.heap.size ≤ w.heap.size + 1) hb.at_ rfl
   rw [hrec] at hx
   simpa using hx
  ·exact ⟨some c,_,by have := run_endLoop (P := P) hb.at_ (by rw [hrec];simp);rw [hrec] at this;exact this,hstop w.heap.size c pre _ (Nat.le_refl _) hSp ((hIx c).putObj _ hi (by omega) hb.at_ rfl) ((World.putObj_heap_other (by omega)).trans (hb.dz_ _ rfl))⟩
section
variable {ops : Array Oper} {md : Region.Mode} {C : World → Prop}
end
end Go.Proofs.YtfhnfhgpaoddbaaDoor.Rg
end
section
namespace Go.Proofs.YtfhnfhgpaoddbaaDoor.U
open Go.RowKit Go.Shelf Go.Proofs.YtfhnfhgpaoddbaaDoor.Mu Go.Proofs.YtfhnfhgpaoddbaaDoor.Rg Go.Proofs.YtfhnfhgpaoddbaaDoorW.PrintWords Go.Proofs.YtfhnfhgpaoddbaaDoorW.PrintLast Go.Proofs.YtfhnfhgpaoddbaaDoorW.PrintMore
attribute [local go_sem] Oper.semAt_some
set_option linter.unusedVariables false
set_option linter.unusedSimpArgs false
theorem boxed_grow {X Y : World} {row : Option Nat} {B : Nat} {t : TypeId} {v : Value} (h : Boxed X B t v) (hg : X.grownBy Y row) (hr : ∀ r,row = some r → ∃ o : Obj,X.heap[r]? = some o ∧ o.isCells = false) : Boxed Y B t v :=
 boxed_own B t (fun _ : Unit => v) () X Y row h hg hr
end Go.Proofs.YtfhnfhgpaoddbaaDoor.U
end
section
namespace Go.Proofs.YtfhnfhgpaoddbaaDoor.Pu
open Go Go.RowKit Go.Proofs.YtfhnfhgpaoddbaaDoor.Mu Go.Proofs.YtfhnfhgpaoddbaaDoor.U Go.Proofs.YtfhnfhgpaoddbaaDoorW.PrintWords Go.Proofs.YtfhnfhgpaoddbaaDoorW.PrintLast Go.Proofs.YtfhnfhgpaoddbaaDoorW.PrintMore
theorem w64 {x : Int} (h : -9223372036854775808 ≤ x) (h2 : x < 9223372036854775808) : wrap64 x = x := by unfold wrap64;omega
theorem w32 {x : Int} (h : -2147483648 ≤ x) (h2 : x < 2147483648) : wrap32 x = x := by unfold wrap32;omega
theorem ev_pos {α : Type} {c : Prop} [Decidable c] {a b : Nat → Option α} {v : α} (hc : c) (h : Ev a v) : Ev (fun k => if c then a k else b k) v := Ev.congr (fun _ => if_pos hc) h
theorem ev_neg {α : Type} {c : Prop} [Decidable c] {a b : Nat → Option α} {v : α} (hc : ¬ c) (h : Ev b v) : Ev (fun k => if c then a k else b k) v := Ev.congr (fun _ => if_neg hc) h
theorem ev_some {α β : Type} {o : Option α} {f : Nat → α → Option β} {a : α} {v : β} (ho : o = some a) (h : Ev (fun n => f n a) v) : Ev (fun k => o.bind (f k)) v := Ev.congr (fun k => by rw [ho];rfl) h
theorem ev_now {α : Type} {v v' : α} (h : v = v') : Ev (fun _ => some v) v' := ⟨0,fun _ _ => by rw [h]⟩
theorem around_go (s : ByteArray) (hs : s.size ≤ 1099511627776) (i : Nat) (hi : i ≤ s.size) (hb : Bd s i) : ∀ n x : Nat,x + n = i → Ev (fun k => unit_around.l0 k s i x) ((i : Int),((if i = s.size then i else i + uN s i : Nat) : Int)) := by
 intro n
 induction n with
 | zero =>
  intro x hx
  obtain rfl : x = i := by omega
  refine Ev.step (fun k => unit_around.l0.eq_2 ..) (ev_neg (by omega) ?_)
  by_cases h : x = s.size
  ·rw [if_pos h];exact ev_pos (by omega) (Ev.now _)
  ·have := uN_le4 s x
   refine ev_neg (by omega) (ev_pos (by omega) (ev_pos (by omega) (ev_some (first_at s x (by omega)) (ev_now ?_))))
   show ((x : Int),wrap64 ((x : Int) + (uN s x : Int))) = _
   rw [w64 (by omega) (by omega),if_neg h,Int.natCast_add]
 | succ n ih =>
  intro x hx
  have h2 := hb.2 x (by omega)
  refine Ev.step (fun k => unit_around.l0.eq_2 ..) (ev_pos (by omega) (ev_pos (by omega) (ev_pos (by omega) (ev_some (first_at s x (by omega)) (ev_neg ?_ ?_)))))
  ·show ¬ wrap64 ((x : Int) + (uN s x : Int)) > i
   rw [w64 (by omega) (by omega)];omega
  ·rw [w64 (by omega) (by omega)]
   exact ih (x + 1) (by omega)
theorem around_in (s : ByteArray) (hs : s.size ≤ 1099511627776) (i j : Nat) (hi : i ≤ s.size) (hj : j < i) (h : i < j + uN s j) : ∀ n x : Nat,x + n = j → Ev (fun k => unit_around.l0 k s i x) ((j : Int),((j + uN s j : Nat) : Int)) := by
 intro n
 induction n with
 | zero =>
  intro x hx
  obtain rfl : x = j := by omega
  have := uN_le s x (by omega)
  have e : wrap64 ((x : Int) + (uN s x : Int)) = (x : Int) + (uN s x : Int) := w64 (by omega) (by omega)
  refine Ev.step (fun k => unit_around.l0.eq_2 ..) (ev_pos (by omega) (ev_pos (by omega) (ev_pos (by omega) (ev_some (first_at s x (by omega)) (ev_pos ?_ (ev_now ?_))))))
  ·show wrap64 ((x : Int) + (uN s x : Int)) > i
   rw [e];omega
  ·show ((x : Int),wrap64 ((x : Int) + (uN s x : Int))) = _
   rw [e,Int.natCast_add]
 | succ n ih =>
  intro x hx
  have h2 : x + uN s x ≤ j := by
   by_cases h3 : j < x + uN s x
   ·have := inner_one s x j (by omega) h3;omega
   ·omega
  refine Ev.step (fun k => unit_around.l0.eq_2 ..) (ev_pos (by omega) (ev_pos (by omega) (ev_pos (by omega) (ev_some (first_at s x (by omega)) (ev_neg ?_ ?_)))))
  ·show ¬ wrap64 ((x : Int) + (uN s x : Int)) > i
   rw [w64 (by omega) (by omega)];omega
  ·rw [w64 (by omega) (by omega)]
   exact ih (x + 1) (by omega)
/-- What around answers. -/
theorem around_ans (s : ByteArray) (hs : s.size ≤ 1099511627776) (i : Nat) (hi : i ≤ s.size) : ∃ lo hi : Nat,Ev (fun k => unit_around.f k s i) ((lo : Int),(hi : Int)) ∧ Bd s lo ∧ Bd s hi ∧ lo ≤ i ∧ i ≤ hi ∧ (lo = i ↔ Bd s i) ∧ (i < s.size → i < hi) ∧
  (∀ e,Bd s e → e ≤ i → e ≤ lo) ∧ (∀ e,Bd s e → i < e → hi ≤ e) ∧ (hi = i → i = s.size) := by
 have hm : ∃ x : Nat,mx 0 (wrap64 ((i : Int) - 3)) = x ∧ x = i - 3 := by
  rw [w64 (by omega) (by omega)]
  unfold mx
  split
  ·exact ⟨i - 3,by omega,rfl⟩
  ·exact ⟨0,rfl,by omega⟩
 obtain ⟨x,hx,hx2⟩ := hm
 have hf : ∀ k,unit_around.f k s i = unit_around.l0 k s i x := fun k => by unfold unit_around.f;rw [hx]
 by_cases hb : Bd s i
 ·refine ⟨i,if i = s.size then i else i + uN s i,Ev.congr hf (around_go s hs i hi hb (i - x) x (by omega)),hb,?_,Nat.le_refl _,?_,by simp [hb],?_,fun e _ h => h,?_,?_⟩
  ·split
   ·exact hb
   ·exact bd_next s i hb (by omega)
  ·split <;> omega
  ·intro h;rw [if_neg (by omega)];have := uN_pos s i;omega
  ·intro e he hie
   have h1 := he.1
   rw [if_neg (by omega)]
   exact he.2 i hie
  ·intro h;have := uN_pos s i;split at h <;> omega
 ·obtain ⟨j,hj,hj2,hjb,hj3⟩ := within s i hi hb
  refine ⟨j,j + uN s j,Ev.congr hf (around_in s hs i j hi hj hj2 (j - x) x (by omega)),hjb,bd_next s j hjb (by omega),by omega,by omega,?_,by omega,?_,?_,by omega⟩
  ·exact ⟨fun h => by omega,fun h => absurd h hb⟩
  ·intro e he hei
   rcases Nat.lt_trichotomy e i with h | h | h
   ·by_cases h5 : j < e
    ·exact absurd he (not_bd_inner s j e h5 (by omega))
    ·omega
   ·subst h;exact absurd he hb
   ·omega
  ·intro e he hie
   by_cases h5 : e < j + uN s j
   ·exact absurd he (not_bd_inner s j e (by omega) h5)
   ·omega
def BdI (s : ByteArray) (a : Int) : Prop := 0 ≤ a ∧ Bd s a.toNat
noncomputable def bdB (s : ByteArray) (a : Int) : Bool := @decide (BdI s a) (Classical.propDecidable _)
theorem bdB_iff (s : ByteArray) (a : Int) : bdB s a = true ↔ BdI s a := by unfold bdB;simp
theorem bdI_nat (s : ByteArray) (i : Nat) : BdI s i ↔ Bd s i := by unfold BdI;simp
theorem bdI_le {s : ByteArray} {a : Int} (h : BdI s a) : 0 ≤ a ∧ a ≤ s.size := ⟨h.1,by have := h.2.1;have := h.1;omega⟩
def DownS (s : ByteArray) (a d : Int) : Prop := BdI s d ∧ (d ≤ a ∨ d = 0) ∧ ∀ e,BdI s e → e ≤ a → e ≤ d
def UpS (s : ByteArray) (a d : Int) : Prop := BdI s d ∧ (a ≤ d ∨ d = s.size) ∧ ∀ e,BdI s e → a ≤ e → d ≤ e
def NextS (s : ByteArray) (a d : Int) : Prop := BdI s d ∧ (a < d ∨ d = s.size) ∧ ∀ e,BdI s e → a < e → d ≤ e
def PrevS (s : ByteArray) (a d : Int) : Prop := BdI s d ∧ (d < a ∨ d = 0) ∧ ∀ e,BdI s e → e < a → e ≤ d
theorem DownS.one {s : ByteArray} {a d d' : Int} (h : DownS s a d) (h' : DownS s a d') : d = d' := by
 have := bdI_le h.1;have := bdI_le h'.1
 rcases h.2.1 with h1 | h1 <;> rcases h'.2.1 with h2 | h2
 ·have := h.2.2 d' h'.1 h2;have := h'.2.2 d h.1 h1;omega
 ·have := h'.2.2 d h.1 h1;omega
 ·have := h.2.2 d' h'.1 h2;omega
 ·omega
theorem PrevS.one {s : ByteArray} {a d d' : Int} (h : PrevS s a d) (h' : PrevS s a d') : d = d' := by
 have := bdI_le h.1;have := bdI_le h'.1
 rcases h.2.1 with h1 | h1 <;> rcases h'.2.1 with h2 | h2
 ·have := h.2.2 d' h'.1 h2;have := h'.2.2 d h.1 h1;omega
 ·have := h'.2.2 d h.1 h1;omega
 ·have := h.2.2 d' h'.1 h2;omega
 ·omega
theorem UpS.one {s : ByteArray} {a d d' : Int} (h : UpS s a d) (h' : UpS s a d') : d = d' := by
 have := bdI_le h.1;have := bdI_le h'.1
 rcases h.2.1 with h1 | h1 <;> rcases h'.2.1 with h2 | h2
 ·have := h.2.2 d' h'.1 h2;have := h'.2.2 d h.1 h1;omega
 ·have := h'.2.2 d h.1 h1;omega
 ·have := h.2.2 d' h'.1 h2;omega
 ·omega
theorem NextS.one {s : ByteArray} {a d d' : Int} (h : NextS s a d) (h' : NextS s a d') : d = d' := by
 have := bdI_le h.1;have := bdI_le h'.1
 rcases h.2.1 with h1 | h1 <;> rcases h'.2.1 with h2 | h2
 ·have := h.2.2 d' h'.1 h2;have := h'.2.2 d h.1 h1;omega
 ·have := h'.2.2 d h.1 h1;omega
 ·have := h.2.2 d' h'.1 h2;omega
 ·omega
theorem boundary_ans (s : ByteArray) (hs : s.size ≤ 1099511627776) (a : Int) : Ev (fun k => unit_Boundary.f k s a) (bdB s a) := by
 have hd := bdB_iff s a
 unfold unit_Boundary.f
 by_cases h0 : a < 0
 ·simp only [h0,if_true]
  have : bdB s a = false := by by_cases h : bdB s a = true;(have := bdI_le (hd.1 h);omega);simpa using h
  rw [this];exact Ev.now _
 ·by_cases h1 : a > (s.size : Int)
  ·simp only [h0,h1,if_true,if_false]
   have : bdB s a = false := by by_cases h : bdB s a = true;(have := bdI_le (hd.1 h);omega);simpa using h
   rw [this];exact Ev.now _
  ·simp only [h0,h1,if_false]
   obtain ⟨i,rfl⟩ : ∃ i : Nat,a = i := ⟨a.toNat,by omega⟩
   obtain ⟨lo,hi,hE,_,_,_,_,hiff,_⟩ := around_ans s hs i (by omega)
   refine Ev.bind hE ?_
   have : bdB s i = ((lo : Int) == (i : Int)) := by
    rw [Bool.eq_iff_iff,hd,bdI_nat,← hiff,beq_iff_eq];omega
   rw [this];exact Ev.now _
theorem clamp (s : ByteArray) (a : Int) : ∃ c : Nat,mn (mx a 0) (s.size : Int) = c ∧ c ≤ s.size ∧ ((c : Int) = a ∨ (a < 0 ∧ c = 0) ∨ (a > s.size ∧ c = s.size)) := by
 unfold mn mx
 split <;> split
 ·exact ⟨s.size,by omega,by omega,by omega⟩
 ·exact ⟨0,by omega,by omega,by omega⟩
 ·exact ⟨s.size,by omega,by omega,by omega⟩
 ·exact ⟨a.toNat,by omega,by omega,by omega⟩
theorem down_ans (s : ByteArray) (hs : s.size ≤ 1099511627776) (a : Int) : ∃ d,Ev (fun k => unit_Down.f k s a) d ∧ DownS s a d := by
 obtain ⟨c,hc,hcs,hca⟩ := clamp s a
 obtain ⟨lo,hi,hE,hlo,hhi,h1,h2,h3,h4,h5,h6,h7⟩ := around_ans s hs c hcs
 refine ⟨lo,?_,(bdI_nat _ _).2 hlo,?_,fun e he hea => ?_⟩
 ·unfold unit_Down.f;rw [hc];exact Ev.bind hE (Ev.now _)
 ·omega
 ·have h8 := bdI_le he
  have := h5 e.toNat he.2 (by omega)
  omega
theorem next_ans (s : ByteArray) (hs : s.size ≤ 1099511627776) (a : Int) : ∃ d,Ev (fun k => unit_Next.f k s a) d ∧ NextS s a d := by
 by_cases h0 : a < 0
 ·refine ⟨0,?_,(bdI_nat s 0).2 (bd_zero s),.inl h0,fun e he _ => (bdI_le he).1⟩
  unfold unit_Next.f;simp only [h0,if_true];exact Ev.now _
 ·have hm : ∃ c : Nat,mn a (s.size : Int) = c ∧ c ≤ s.size ∧ ((c : Int) = a ∨ (a > s.size ∧ c = s.size)) := by
   unfold mn
   split
   ·exact ⟨s.size,rfl,by omega,by omega⟩
   ·exact ⟨a.toNat,by omega,by omega,by omega⟩
  obtain ⟨c,hc,hcs,hca⟩ := hm
  obtain ⟨lo,hi,hE,hlo,hhi,h1,h2,h3,h4,h5,h6,h7⟩ := around_ans s hs c hcs
  refine ⟨hi,?_,(bdI_nat _ _).2 hhi,?_,fun e he hea => ?_⟩
  ·unfold unit_Next.f;simp only [h0,if_false,hc];exact Ev.bind hE (Ev.now _)
  ·have := hhi.1;omega
  ·have h8 := bdI_le he
   have := h6 e.toNat he.2 (by omega)
   omega
theorem prev_ans (s : ByteArray) (hs : s.size ≤ 1099511627776) (a : Int) (ha : a ≤ 9223372036854775807) : ∃ d,Ev (fun k => unit_Prev.f k s a) d ∧ PrevS s a d := by
 by_cases h0 : a ≤ 0
 ·refine ⟨0,?_,(bdI_nat s 0).2 (bd_zero s),.inr rfl,fun e he h => by have := bdI_le he;omega⟩
  unfold unit_Prev.f;simp only [h0,if_true];exact Ev.now _
 ·obtain ⟨c,hc,hcs⟩ : ∃ c : Int,mn (wrap64 (a - 1)) (s.size : Int) = c ∧ (c = a - 1 ∨ (a - 1 > s.size ∧ c = s.size)) := by
   rw [w64 (by omega) (by omega)]
   unfold mn
   split
   ·exact ⟨s.size,rfl,by omega⟩
   ·exact ⟨a - 1,by omega,by omega⟩
  obtain ⟨d,hE,h1,h2,h3⟩ := down_ans s hs c
  refine ⟨d,?_,h1,?_,fun e he hea => ?_⟩
  ·unfold unit_Prev.f;simp only [h0,if_false,hc];exact Ev.bind hE (Ev.now _)
  ·omega
  ·have h8 := bdI_le he
   exact h3 e he (by omega)
noncomputable def atA (s : ByteArray) (a : Int) : Int × Int × Bool := if bdB s a = true ∧ a < s.size then (uC s a.toNat,(uN s a.toNat : Int),true) else (0,0,false)
theorem at_ans (s : ByteArray) (hs : s.size ≤ 1099511627776) (a : Int) : Ev (fun k => unit_At.f k s a) (atA s a) := by
 have hd := bdB_iff s a
 unfold unit_At.f atA
 by_cases h0 : a < 0
 ·simp only [h0,if_true]
  rw [if_neg (by rw [hd];intro h;have := bdI_le h.1;omega)];exact Ev.now _
 ·by_cases h1 : a ≥ (s.size : Int)
  ·simp only [h0,h1,if_true,if_false]
   rw [if_neg (by omega)];exact Ev.now _
  ·simp only [h0,h1,if_false]
   refine Ev.bind (boundary_ans s hs a) ?_
   by_cases hb : bdB s a = true
   ·simp only [hb,if_true,show 0 ≤ a by omega,show a ≤ (s.size : Int) by omega,first_at s a.toNat (by omega),Option.bind_some]
    rw [if_pos ⟨trivial,by omega⟩];exact Ev.now _
   ·simp only [hb]
    simpa using Ev.now _
end Go.Proofs.YtfhnfhgpaoddbaaDoor.Pu
end
section
namespace Go.Proofs.YtfhnfhgpaoddbaaDoor.Pu
open Go Go.RowKit Go.Proofs.YtfhnfhgpaoddbaaDoor.U Go.Proofs.YtfhnfhgpaoddbaaDoorW.PrintWords Go.Proofs.YtfhnfhgpaoddbaaDoorW.PrintLast Go.Proofs.YtfhnfhgpaoddbaaDoorW.PrintMore
set_option linter.unusedVariables false
def marksL : List Int := (width_marks.f).getD []
def widesL : List Int := (width_wides.f).getD []
theorem marks_eq : width_marks.f = some marksL := rfl
theorem wides_eq : width_wides.f = some widesL := rfl
theorem marks_ok : okTab marksL = true := by kernel_rfl
theorem wides_ok : okTab widesL = true := by kernel_rfl
theorem within_marks (c : Int) : width_within_rune.f marksL c = some (withinB marksL c) := by
 unfold width_within_rune.f;rw [if_pos ⟨by decide,by decide,marks_ok⟩]
theorem within_wides (c : Int) : width_within_rune.f widesL c = some (withinB widesL c) := by
 unfold width_within_rune.f;rw [if_pos ⟨by decide,by decide,wides_ok⟩]
attribute [local irreducible] marksL widesL
def cls (c : Int) : Int := if c < 0 ∨ c > 1114111 ∨ (55296 ≤ c ∧ c ≤ 57343) then 5 else if c = 10 then 1 else if c < 32 ∨ (127 ≤ c ∧ c ≤ 159) then 2 else if withinB marksL c = true then 3 else if withinB widesL c = true then 4 else 0
theorem ev_val {α : Type} {c : Prop} [Decidable c] {g : Nat → Option α} {v v' : α} (h : c → Ev g v) (h' : ¬ c → Ev g v') : Ev g (if c then v else v') := by
 split
 ·rename_i hc;exact h hc
 ·rename_i hc;exact h' hc
theorem class_j1 (c : Int) (b : Bool) : Ev (fun k => width_Class.j1 k c b) (if b = true then 2 else if withinB marksL c = true then 3 else if withinB widesL c = true then 4 else 0) :=
 Ev.step (fun k => width_Class.j1.eq_2 ..) (ev_val (fun hb => ev_pos hb (Ev.now _)) (fun hb => ev_neg hb (ev_some (a := marksL) marks_eq (ev_some (a := withinB marksL c) (within_marks c) (ev_val (fun h => ev_pos h (Ev.now _)) (fun h => ev_neg h
  (ev_some (a := widesL) wides_eq (ev_some (a := withinB widesL c) (within_wides c) (ev_val (fun h2 => ev_pos h2 (Ev.now _)) (fun h2 => ev_neg h2 (Ev.now _)))))))))))
theorem class_j0 (c : Int) (b : Bool) : Ev (fun k => width_Class.j0 k c b) (if b = true then 5 else if c = 10 then 1 else if c < 32 ∨ (127 ≤ c ∧ c ≤ 159) then 2 else if withinB marksL c = true then 3 else if withinB widesL c = true then 4 else 0) := by
 have hy : ∀ d : Bool,d = true → Ev (fun k => width_Class.j1 k c d) 2 := fun d hd => by have := class_j1 c d;rwa [if_pos hd] at this
 have hn : ∀ d : Bool,¬ d = true → Ev (fun k => width_Class.j1 k c d) (if withinB marksL c = true then 3 else if withinB widesL c = true then 4 else 0) := fun d hd => by have := class_j1 c d;rwa [if_neg hd] at this
 refine Ev.step (fun k => width_Class.j0.eq_2 ..) (ev_val (fun hb => ev_pos hb (Ev.now _)) (fun hb => ev_neg hb (ev_val (fun h => ev_pos h (Ev.now _)) (fun h => ev_neg h (ev_val (fun h2 => ?_) (fun h2 => ?_))))))
 ·by_cases h3 : c < 32
  ·exact ev_pos h3 (hy _ rfl)
  ·exact ev_neg h3 (ev_pos (by omega) (hy _ (by rw [decide_eq_true_eq];omega)))
 ·refine ev_neg (by omega) ?_
  by_cases h3 : c ≥ 127
  ·exact ev_pos h3 (hn _ (by rw [decide_eq_true_eq];omega))
  ·exact ev_neg h3 (hn _ (by simp))
theorem class_ans (c : Int) : Ev (fun k => width_Class.f k c) (cls c) := by
 have hy : ∀ d : Bool,d = true → Ev (fun k => width_Class.j0 k c d) 5 := fun d hd => by have := class_j0 c d;rwa [if_pos hd] at this
 have hn : ∀ d : Bool,¬ d = true → Ev (fun k => width_Class.j0 k c d) (if c = 10 then 1 else if c < 32 ∨ (127 ≤ c ∧ c ≤ 159) then 2 else if withinB marksL c = true then 3 else if withinB widesL c = true then 4 else 0) := fun d hd => by have := class_j0 c d;rwa [if_neg hd] at this
 unfold width_Class.f cls
 refine ev_val (fun h => ?_) (fun h => ?_)
 ·by_cases h1 : c < 0
  ·exact ev_pos h1 (hy _ rfl)
  ·refine ev_neg h1 ?_
   by_cases h2 : c > 1114111
   ·exact ev_pos h2 (hy _ rfl)
   ·exact ev_neg h2 (ev_pos (by omega) (hy _ (by rw [decide_eq_true_eq];omega)))
 ·refine ev_neg (by omega) (ev_neg (by omega) ?_)
  by_cases h3 : c ≥ 55296
  ·exact ev_pos h3 (hn _ (by rw [decide_eq_true_eq];omega))
  ·exact ev_neg h3 (hn _ (by simp))
end Go.Proofs.YtfhnfhgpaoddbaaDoor.Pu
end
section
namespace Go.Proofs.YtfhnfhgpaoddbaaDoor.Pu
open Go Go.RowKit Go.Proofs.YtfhnfhgpaoddbaaDoor.Mu Go.Proofs.YtfhnfhgpaoddbaaDoor.U Go.Proofs.YtfhnfhgpaoddbaaDoorW.PrintWords Go.Proofs.YtfhnfhgpaoddbaaDoorW.PrintLast Go.Proofs.YtfhnfhgpaoddbaaDoorW.PrintMore
theorem prev_ev {s : ByteArray} (hs : s.size ≤ 1099511627776) {a d : Int} (ha : a ≤ 9223372036854775807) (h : PrevS s a d) : Ev (fun k => unit_Prev.f k s a) d := by
 obtain ⟨d',hE,h'⟩ := prev_ans s hs a ha;exact h.one h' ▸ hE
/-- A boundary lies at or before a unit,or behind it. -/
theorem apart {s : ByteArray} {x : Nat} {e : Int} (he : BdI s e) : e ≤ x ∨ (x : Int) + uN s x ≤ e := by
 have := bdI_le he
 by_cases h : (x : Int) < e
 ·have := he.2.2 x (by omega);omega
 ·omega
theorem prevS_in {s : ByteArray} {x : Nat} (hb : Bd s x) {k : Int} (h : x < k) (h2 : k ≤ x + uN s x) : PrevS s k x :=
 ⟨by rw [bdI_nat];exact hb,.inl h,fun e he hk => by have := apart (x := x) he;omega⟩
end Go.Proofs.YtfhnfhgpaoddbaaDoor.Pu
end
section
namespace Go.Proofs.YtfhnfhgpaoddbaaDoor.Pu
open Go Go.RowKit Go.Proofs.YtfhnfhgpaoddbaaDoor.Mu
theorem uC_of (s : ByteArray) (i c n : Nat) (h : Utf8.decode s i = (c,n)) (hg : c = 65533 → n ≠ 1) : uC s i = c ∧ uN s i = n := by
 unfold uC uN;rw [h]
 exact ⟨if_neg (fun h => hg h.1 h.2),rfl⟩
/-- What a unit can be. -/
theorem uC_cases (s : ByteArray) (i : Nat) :
  (byt s i < 128 ∧ uC s i = byt s i ∧ uN s i = 1) ∨ (128 ≤ byt s i ∧ uC s i = -1 ∧ uN s i = 1) ∨
  (192 ≤ byt s i ∧ byt s i < 224 ∧ 1 < s.size - i ∧ byt s (i + 1) / 64 = 2 ∧ 128 ≤ byt s i % 32 * 64 + byt s (i + 1) % 64 ∧ uC s i = (byt s i % 32 * 64 + byt s (i + 1) % 64 : Nat) ∧ uN s i = 2) ∨
  (224 ≤ byt s i ∧ byt s i < 240 ∧ 2 < s.size - i ∧ byt s (i + 1) / 64 = 2 ∧ byt s (i + 2) / 64 = 2 ∧ 2048 ≤ byt s i % 16 * 4096 + byt s (i + 1) % 64 * 64 + byt s (i + 2) % 64 ∧
   (byt s i % 16 * 4096 + byt s (i + 1) % 64 * 64 + byt s (i + 2) % 64 < 55296 ∨ 57344 ≤ byt s i % 16 * 4096 + byt s (i + 1) % 64 * 64 + byt s (i + 2) % 64) ∧
   uC s i = (byt s i % 16 * 4096 + byt s (i + 1) % 64 * 64 + byt s (i + 2) % 64 : Nat) ∧ uN s i = 3) ∨
  (240 ≤ byt s i ∧ byt s i < 248 ∧ 3 < s.size - i ∧ byt s (i + 1) / 64 = 2 ∧ byt s (i + 2) / 64 = 2 ∧ byt s (i + 3) / 64 = 2 ∧ 65536 ≤ byt s i % 8 * 262144 + byt s (i + 1) % 64 * 4096 + byt s (i + 2) % 64 * 64 + byt s (i + 3) % 64 ∧
   byt s i % 8 * 262144 + byt s (i + 1) % 64 * 4096 + byt s (i + 2) % 64 * 64 + byt s (i + 3) % 64 ≤ 1114111 ∧ uC s i = (byt s i % 8 * 262144 + byt s (i + 1) % 64 * 4096 + byt s (i + 2) % 64 * 64 + byt s (i + 3) % 64 : Nat) ∧ uN s i = 4) := by
 have hd := dec_eq s i
 rcases dec_cases (s.size - i) (byt s i) (byt s (i + 1)) (byt s (i + 2)) (byt s (i + 3)) (byt_lt s i) with h | h | h | h | h
 ·have := uC_of s i _ _ (hd.trans h.2) (by omega)
  exact .inl ⟨h.1,this⟩
 ·refine .inr (.inl ⟨h.1,?_,?_⟩)
  ·unfold uC;rw [hd,h.2];simp
  ·unfold uN;rw [hd,h.2]
 ·obtain ⟨h0,h1,h2,h3,h4,e⟩ := h
  have := uC_of s i _ _ (hd.trans e) (by omega)
  exact .inr (.inr (.inl ⟨h0,h1,h2,h3,h4,this⟩))
 ·obtain ⟨h0,h1,h2,h3,h4,h5,h6,e⟩ := h
  have := uC_of s i _ _ (hd.trans e) (by omega)
  exact .inr (.inr (.inr (.inl ⟨h0,h1,h2,h3,h4,h5,h6,this⟩)))
 ·obtain ⟨h0,h1,h2,h3,h4,h5,h6,h7,e⟩ := h
  have := uC_of s i _ _ (hd.trans e) (by omega)
  exact .inr (.inr (.inr (.inr ⟨h0,h1,h2,h3,h4,h5,h6,h7,this⟩)))
end Go.Proofs.YtfhnfhgpaoddbaaDoor.Pu
end
section
namespace Go.Proofs.YtfhnfhgpaoddbaaDoor.Pu
open Go Go.RowKit Go.Proofs.YtfhnfhgpaoddbaaDoor.Mu Go.Proofs.YtfhnfhgpaoddbaaDoor.U Go.Proofs.YtfhnfhgpaoddbaaDoorW.PrintWords Go.Proofs.YtfhnfhgpaoddbaaDoorW.PrintLast Go.Proofs.YtfhnfhgpaoddbaaDoorW.PrintMore
set_option linter.unusedVariables false
def glueB (u v : Int) : Bool := decide (u = 13 ∧ v = 10) || (decide (cls v = 3) && (!decide (cls u = 1) && !decide (cls u = 2)))
def CB (s : ByteArray) (x : Nat) : Prop := Bd s x ∧ ∀ y,Bd s y → x = y + uN s y → x < s.size → glueB (uC s y) (uC s x) = false
theorem cb_zero (s : ByteArray) : CB s 0 := ⟨bd_zero s,fun y _ h _ => by have := uN_pos s y;omega⟩
theorem cb_size (s : ByteArray) : CB s s.size := ⟨bd_size s,fun y _ _ h => by omega⟩
theorem bd_prev (s : ByteArray) (x : Nat) (h : Bd s x) (hx : 0 < x) : ∃ y,Bd s y ∧ y + uN s y = x := by
 have h1 := h.1
 by_cases hb : Bd s (x - 1)
 ·refine ⟨x - 1,hb,?_⟩
  have := uN_pos s (x - 1)
  have := h.2 (x - 1) (by omega)
  omega
 ·obtain ⟨j,hj,hj2,hjb,_⟩ := within s (x - 1) (by omega) hb
  refine ⟨j,hjb,?_⟩
  have := h.2 j (by omega)
  omega
theorem bd_prev_one (s : ByteArray) (x y z : Nat) (hy : Bd s y) (hz : Bd s z) (h : y + uN s y = x) (h' : z + uN s z = x) : y = z := by
 have := uN_pos s y;have := uN_pos s z
 rcases Nat.lt_trichotomy y z with h1 | h1 | h1
 ·have := hz.2 y h1;omega
 ·exact h1
 ·have := hy.2 z h1;omega
theorem cb_iff (s : ByteArray) (x y : Nat) (hy : Bd s y) (hx : y + uN s y = x) (h : x < s.size) : CB s x ↔ glueB (uC s y) (uC s x) = false := by
 constructor
 ·intro hc;exact hc.2 y hy hx.symm h
 ·intro hg
  refine ⟨hx ▸ bd_next s y hy (by have := uN_pos s y;omega),fun z hz hzx _ => ?_⟩
  rw [← bd_prev_one s x y z hy hz hx hzx.symm];exact hg
def CBI (s : ByteArray) (a : Int) : Prop := 0 ≤ a ∧ CB s a.toNat
noncomputable def cbB (s : ByteArray) (a : Int) : Bool := @decide (CBI s a) (Classical.propDecidable _)
theorem cbB_iff (s : ByteArray) (a : Int) : cbB s a = true ↔ CBI s a := by unfold cbB;simp
theorem cbI_nat (s : ByteArray) (i : Nat) : CBI s i ↔ CB s i := by unfold CBI;simp
theorem CBI.bd {s : ByteArray} {a : Int} (h : CBI s a) : BdI s a := ⟨h.1,h.2.1⟩
theorem cbI_le {s : ByteArray} {a : Int} (h : CBI s a) : 0 ≤ a ∧ a ≤ s.size := bdI_le h.bd
theorem cbI_zero (s : ByteArray) : CBI s 0 := (cbI_nat s 0).2 (cb_zero s)
theorem cbI_size (s : ByteArray) : CBI s s.size := (cbI_nat s s.size).2 (cb_size s)
def CNextS (s : ByteArray) (a d : Int) : Prop := CBI s d ∧ (a < d ∨ d = s.size) ∧ ∀ e,CBI s e → a < e → d ≤ e
def CPrevS (s : ByteArray) (a d : Int) : Prop := CBI s d ∧ (d < a ∨ d = 0) ∧ ∀ e,CBI s e → e < a → e ≤ d
def CSnapS (s : ByteArray) (a d : Int) : Prop := CBI s d ∧ (a ≤ d ∨ d = s.size) ∧ ∀ e,CBI s e → a ≤ e → d ≤ e
theorem CPrevS.one {s : ByteArray} {a d d' : Int} (h : CPrevS s a d) (h' : CPrevS s a d') : d = d' := by
 have := cbI_le h.1;have := cbI_le h'.1
 rcases h.2.1 with h1 | h1 <;> rcases h'.2.1 with h2 | h2
 ·have := h.2.2 d' h'.1 h2;have := h'.2.2 d h.1 h1;omega
 ·have := h'.2.2 d h.1 h1;omega
 ·have := h.2.2 d' h'.1 h2;omega
 ·omega
theorem CSnapS.one {s : ByteArray} {a d d' : Int} (h : CSnapS s a d) (h' : CSnapS s a d') : d = d' := by
 have := cbI_le h.1;have := cbI_le h'.1
 rcases h.2.1 with h1 | h1 <;> rcases h'.2.1 with h2 | h2
 ·have := h.2.2 d' h'.1 h2;have := h'.2.2 d h.1 h1;omega
 ·have := h'.2.2 d h.1 h1;omega
 ·have := h.2.2 d' h'.1 h2;omega
 ·omega
theorem CNextS.one {s : ByteArray} {a d d' : Int} (h : CNextS s a d) (h' : CNextS s a d') : d = d' := by
 have := cbI_le h.1;have := cbI_le h'.1
 rcases h.2.1 with h1 | h1 <;> rcases h'.2.1 with h2 | h2
 ·have := h.2.2 d' h'.1 h2;have := h'.2.2 d h.1 h1;omega
 ·have := h'.2.2 d h.1 h1;omega
 ·have := h.2.2 d' h'.1 h2;omega
 ·omega
def nxtN (s : ByteArray) : Nat → Nat → Nat
 | 0,x => x
 | k + 1,x => if x + uN s x < s.size ∧ glueB (uC s x) (uC s (x + uN s x)) = true then nxtN s k (x + uN s x) else x + uN s x
theorem nxtN_fuel (s : ByteArray) : ∀ f g x : Nat,x < s.size → s.size - x ≤ f → s.size - x ≤ g → nxtN s f x = nxtN s g x
 | 0,_,_,hx,h,_ => by omega
 | _ + 1,0,_,hx,_,h => by omega
 | f + 1,g + 1,x,hx,h,h' => by
  have := uN_pos s x
  rw [nxtN,nxtN]
  split
  ·rename_i hc
   exact nxtN_fuel s f g _ hc.1 (by omega) (by omega)
  ·rfl
def nxt (s : ByteArray) (x : Nat) : Nat := nxtN s s.size x
theorem nxt_eq (s : ByteArray) (x : Nat) (hx : x < s.size) : nxt s x = if x + uN s x < s.size ∧ glueB (uC s x) (uC s (x + uN s x)) = true then nxt s (x + uN s x) else x + uN s x := by
 have := uN_pos s x
 unfold nxt
 obtain ⟨n,hn⟩ : ∃ n,s.size = n + 1 := ⟨s.size - 1,by omega⟩
 rw [nxtN_fuel s s.size (n + 1) x hx (by omega) (by omega),nxtN]
 split
 ·rename_i hc;exact nxtN_fuel s n s.size _ hc.1 (by omega) (by omega)
 ·rfl
theorem nxt_glue (s : ByteArray) (x : Nat) (hx : x + uN s x < s.size) (h : glueB (uC s x) (uC s (x + uN s x)) = true) : nxt s x = nxt s (x + uN s x) := by
 rw [nxt_eq s x (by omega),if_pos ⟨hx,h⟩]
theorem nxt_cut (s : ByteArray) (x : Nat) (hx : x < s.size) (h : x + uN s x < s.size → glueB (uC s x) (uC s (x + uN s x)) = false) : nxt s x = x + uN s x := by
 rw [nxt_eq s x hx,if_neg]
 rintro ⟨h1,h2⟩
 rw [h h1] at h2;cases h2
/-- The end of a cluster is the next boundary. -/
theorem nxt_spec (s : ByteArray) : ∀ n x : Nat,s.size - x ≤ n → Bd s x → x < s.size → CB s (nxt s x) ∧ x + uN s x ≤ nxt s x ∧ ∀ e,CB s e → x < e → nxt s x ≤ e := by
 intro n
 induction n with
 | zero => intro x h _ hx;omega
 | succ n ih =>
  intro x hn hb hx
  have h1 := uN_pos s x
  have hb' := bd_next s x hb hx
  have hle := hb'.1
  have hno : ∀ e,CB s e → x < e → x + uN s x ≤ e := fun e he hxe => he.1.2 x hxe
  by_cases hc : x + uN s x < s.size ∧ glueB (uC s x) (uC s (x + uN s x)) = true
  ·rw [nxt_glue s x hc.1 hc.2]
   obtain ⟨g1,g2,g3⟩ := ih (x + uN s x) (by omega) hb' hc.1
   refine ⟨g1,by omega,fun e he hxe => ?_⟩
   have h3 := hno e he hxe
   rcases Nat.lt_or_ge (x + uN s x) e with h4 | h4
   ·exact g3 e he h4
   ·obtain rfl : e = x + uN s x := by omega
    rw [(cb_iff s _ x hb rfl hc.1).1 he] at hc
    exact absurd hc.2 (by simp)
  ·have hg : x + uN s x < s.size → glueB (uC s x) (uC s (x + uN s x)) = false := fun h => by
    cases h2 : glueB (uC s x) (uC s (x + uN s x)) with
    | false => rfl
    | true => exact absurd ⟨h,h2⟩ hc
   rw [nxt_cut s x hx hg]
   refine ⟨?_,Nat.le_refl _,hno⟩
   rcases Nat.lt_or_ge (x + uN s x) s.size with h4 | h4
   ·exact (cb_iff s _ x hb rfl h4).2 (hg h4)
   ·rw [show x + uN s x = s.size by omega];exact cb_size s
theorem nxt_cb (s : ByteArray) (x : Nat) (hb : Bd s x) (hx : x < s.size) : CB s (nxt s x) := (nxt_spec s _ x (Nat.le_refl _) hb hx).1
theorem nxt_least (s : ByteArray) (x : Nat) (hb : Bd s x) (hx : x < s.size) (e : Nat) (he : CB s e) (h : x < e) : nxt s x ≤ e := (nxt_spec s _ x (Nat.le_refl _) hb hx).2.2 e he h
theorem nxt_le (s : ByteArray) (x : Nat) (hb : Bd s x) (hx : x < s.size) : nxt s x ≤ s.size := (nxt_cb s x hb hx).1.1
theorem nxtS (s : ByteArray) (x : Nat) (hb : Bd s x) (hx : x < s.size) (a : Int) (h1 : (x : Int) ≤ a) (h2 : a < nxt s x) : CNextS s a (nxt s x) := by
 refine ⟨(cbI_nat _ _).2 (nxt_cb s x hb hx),.inl h2,fun e he hae => ?_⟩
 have := cbI_le he
 have := nxt_least s x hb hx e.toNat he.2 (by omega)
 omega
def celB (c : Int) : Int := if cls c = 1 then 0 else if cls c = 4 ∨ (cls c = 2 ∧ c ≤ 127) then 2 else 1
/-- Is it a carriage return with a newline behind it? -/
def crlf (s : ByteArray) (x : Nat) : Prop := uC s x = 13 ∧ x + uN s x < s.size ∧ uC s (x + uN s x) = 10
instance (s : ByteArray) (x : Nat) : Decidable (crlf s x) := by unfold crlf;exact inferInstance
def clsAt (s : ByteArray) (x : Nat) : Int := if crlf s x then 1 else cls (uC s x)
def celAt (s : ByteArray) (x : Nat) : Int := if crlf s x then 0 else celB (uC s x)
def clAt (s : ByteArray) (x : Nat) : S53 := ⟨(x : Int),(nxt s x : Int),clsAt s x,celAt s x⟩
def cluL (s : ByteArray) : Nat → Nat → List S53
 | 0,_ => []
 | k + 1,x => if x < s.size then clAt s x :: cluL s k (nxt s x) else []
def clusL (s : ByteArray) : List S53 := cluL s s.size 0
theorem nxt_up (s : ByteArray) : ∀ n x : Nat,s.size - x ≤ n → x < s.size → x + 1 ≤ nxt s x := by
 intro n
 induction n with
 | zero => intro x h hx;omega
 | succ n ih =>
  intro x hn hx
  have h1 := uN_pos s x
  rw [nxt_eq s x hx]
  split
  ·rename_i hc;have := ih (x + uN s x) (by omega) hc.1;omega
  ·omega
theorem nxt_pos (s : ByteArray) (x : Nat) (hx : x < s.size) : x + 1 ≤ nxt s x := nxt_up s _ x (Nat.le_refl _) hx
theorem cluL_fuel (s : ByteArray) : ∀ f g x : Nat,s.size - x ≤ f → s.size - x ≤ g → cluL s f x = cluL s g x
 | 0,0,_,_,_ => rfl
 | 0,g + 1,x,h,_ => by rw [cluL,cluL,if_neg (by omega)]
 | f + 1,0,x,_,h => by rw [cluL,cluL,if_neg (by omega)]
 | f + 1,g + 1,x,h,h' => by
  rw [cluL,cluL]
  split
  ·rename_i hx
   have := nxt_pos s x hx
   rw [cluL_fuel s f g (nxt s x) (by omega) (by omega)]
  ·rfl
def ctl (s : ByteArray) (x : Nat) : List S53 := cluL s s.size x
theorem ctl_end (s : ByteArray) (x : Nat) (h : s.size ≤ x) : ctl s x = [] := by
 unfold ctl;rw [cluL_fuel s s.size 0 x (by omega) (by omega)];rfl
theorem ctl_go (s : ByteArray) (x : Nat) (h : x < s.size) : ctl s x = clAt s x :: ctl s (nxt s x) := by
 have := nxt_pos s x h
 unfold ctl
 obtain ⟨n,hn⟩ : ∃ n,s.size = n + 1 := ⟨s.size - 1,by omega⟩
 rw [cluL_fuel s s.size (n + 1) x (by omega) (by omega),cluL,if_pos h,cluL_fuel s n s.size (nxt s x) (by omega) (by omega)]
theorem cluL_length (s : ByteArray) : ∀ k i,(cluL s k i).length ≤ k
 | 0,_ => by simp [cluL]
 | k + 1,i => by
  unfold cluL
  split
  ·have := cluL_length s k (nxt s i);simp;omega
  ·simp
theorem clusL_length (s : ByteArray) : (clusL s).length ≤ s.size := cluL_length s s.size 0
end Go.Proofs.YtfhnfhgpaoddbaaDoor.Pu
end
section
namespace Go.Proofs.YtfhnfhgpaoddbaaDoor.Pu
open Go Go.RowKit Go.Proofs.YtfhnfhgpaoddbaaDoor.Mu Go.Proofs.YtfhnfhgpaoddbaaDoor.U Go.Proofs.YtfhnfhgpaoddbaaDoorW.PrintWords Go.Proofs.YtfhnfhgpaoddbaaDoorW.PrintLast Go.Proofs.YtfhnfhgpaoddbaaDoorW.PrintMore
set_option linter.unusedVariables false
theorem glued_j0 (u v : Int) (b : Bool) : Ev (fun k => cluster_glued.j0 k u v b) (if b = true then true else (decide (cls v = 3) && (!decide (cls u = 1) && !decide (cls u = 2)))) := by
 refine Ev.step (fun k => cluster_glued.j0.eq_2 ..) (ev_val (fun hb => ev_pos hb (Ev.now _)) (fun hb => ev_neg hb ?_))
 refine Ev.bind (class_ans u) (Ev.bind (class_ans v) ?_)
 by_cases h3 : cls v = 3
 ·refine ev_pos h3 ?_
  by_cases h1 : cls u = 1
  ·exact ev_pos h1 (ev_now (by simp [h1]))
  ·exact ev_neg h1 (ev_now (by by_cases h2 : cls u = 2 <;> simp [h1,h2,h3]))
 ·exact ev_neg h3 (ev_now (by simp [h3]))
theorem glued_ans (u v : Int) : Ev (fun k => cluster_glued.f k u v) (glueB u v) := by
 unfold cluster_glued.f
 by_cases h : u = 13
 ·refine ev_pos h ?_
  have := glued_j0 u v (v == 10)
  have e : glueB u v = (if (v == 10) = true then true else (decide (cls v = 3) && (!decide (cls u = 1) && !decide (cls u = 2)))) := by
   unfold glueB
   by_cases hv : v = 10 <;> simp [h,hv]
  rw [e];exact this
 ·refine ev_neg h ?_
  have := glued_j0 u v false
  have e : glueB u v = (if false = true then true else (decide (cls v = 3) && (!decide (cls u = 1) && !decide (cls u = 2)))) := by
   unfold glueB
   simp [h]
  rw [e];exact this
theorem atA_nat {s : ByteArray} {x : Nat} (hb : Bd s x) (hx : x < s.size) : atA s x = (uC s x,(uN s x : Int),true) := by
 unfold atA
 rw [if_pos ⟨(bdB_iff s x).2 ((bdI_nat s x).2 hb),by omega⟩,Int.toNat_natCast]
theorem prevS_of {s : ByteArray} {x y : Nat} (hy : Bd s y) (h : y + uN s y = x) : PrevS s x y := by
 have := uN_pos s y
 exact prevS_in hy (by omega) (by omega)
theorem cboundary_j0 (s : ByteArray) (hs : s.size ≤ 1099511627776) (a : Int) (b : Bool) (hb : b = true ↔ (a ≤ 0 ∨ (s.size : Int) ≤ a)) : Ev (fun k => cluster_Boundary.j0 k s a b) (cbB s a) := by
 have hc := cbB_iff s a
 refine Ev.step (fun k => cluster_Boundary.j0.eq_2 ..) ?_
 by_cases h : b = true
 ·refine ev_pos h ?_
  have h1 := hb.1 h
  by_cases h0 : a = 0
  ·refine ev_pos h0 (ev_now ?_)
   subst h0
   exact (hc.2 (cbI_zero s)).symm
  ·refine ev_neg h0 (ev_now ?_)
   rw [Bool.eq_iff_iff,hc,beq_iff_eq]
   constructor
   ·intro e;rw [e];exact cbI_size s
   ·intro hC;have := cbI_le hC;omega
 ·have h1 : ¬ (a ≤ 0 ∨ (s.size : Int) ≤ a) := fun h2 => h (hb.2 h2)
  refine ev_neg h (Ev.bind (boundary_ans s hs a) ?_)
  by_cases hB : bdB s a = true
  ·refine ev_pos hB ?_
   obtain ⟨x,rfl⟩ : ∃ x : Nat,a = x := ⟨a.toNat,by omega⟩
   have hbx : Bd s x := (bdI_nat s x).1 ((bdB_iff s x).1 hB)
   obtain ⟨y,hy,hyx⟩ := bd_prev s x hbx (by omega)
   have hp := uN_pos s y
   refine Ev.bind (prev_ev hs (by omega) (prevS_of hy hyx)) (Ev.bind (at_ans s hs y) (Ev.bind (at_ans s hs x) ?_))
   rw [atA_nat hy (by omega),atA_nat hbx (by omega)]
   refine Ev.bind (glued_ans (uC s y) (uC s x)) (ev_now ?_)
   rw [Bool.eq_iff_iff,hc,cbI_nat,cb_iff s x y hy hyx (by omega)]
   cases glueB (uC s y) (uC s x) <;> simp
  ·refine ev_neg hB (ev_now ?_)
   symm
   rw [← Bool.not_eq_true,hc]
   exact fun h2 => hB ((bdB_iff s a).2 h2.bd)
theorem cboundary_ans (s : ByteArray) (hs : s.size ≤ 1099511627776) (a : Int) : Ev (fun k => cluster_Boundary.f k s a) (cbB s a) := by
 unfold cluster_Boundary.f
 by_cases h : a ≤ 0
 ·exact ev_pos h (cboundary_j0 s hs a _ ⟨fun _ => .inl h,fun _ => rfl⟩)
 ·exact ev_neg h (cboundary_j0 s hs a _ (by rw [decide_eq_true_eq];omega))
theorem cboundary_yes {s : ByteArray} (hs : s.size ≤ 1099511627776) {a : Int} (h : CBI s a) : Ev (fun k => cluster_Boundary.f k s a) true := (cbB_iff s a).2 h ▸ cboundary_ans s hs a
theorem cboundary_no {s : ByteArray} (hs : s.size ≤ 1099511627776) {a : Int} (h : ¬ CBI s a) : Ev (fun k => cluster_Boundary.f k s a) false := by
 have : cbB s a = false := by rw [← Bool.not_eq_true,cbB_iff];exact h
 exact this ▸ cboundary_ans s hs a
theorem cnext_loop (s : ByteArray) (hs : s.size ≤ 1099511627776) : ∀ (n : Nat) (a : Int),(s.size : Int) - a ≤ n → 0 ≤ a → ∃ d,Ev (fun k => cluster_Next.l0 k s a) d ∧ CNextS s a d := by
 have hend : ∀ a : Int,(s.size : Int) ≤ a → ∃ d,Ev (fun k => cluster_Next.l0 k s a) d ∧ CNextS s a d := fun a h =>
  ⟨s.size,Ev.step (fun k => cluster_Next.l0.eq_2 ..) (ev_neg (by omega) (Ev.now _)),cbI_size s,.inr rfl,fun e he hae => by have := cbI_le he;omega⟩
 intro n
 induction n with
 | zero => intro a hn h0;exact hend a (by omega)
 | succ n ih =>
  intro a hn h0
  by_cases ha : a < (s.size : Int)
  ·obtain ⟨d,hE,hD⟩ := next_ans s hs a
   have hd := bdI_le hD.1
   have hda : a < d := by rcases hD.2.1 with h | h <;> omega
   by_cases hc : CBI s d
   ·refine ⟨d,Ev.step (fun k => cluster_Next.l0.eq_2 ..) (ev_pos ha (Ev.bind hE (Ev.bind (cboundary_yes hs hc) (ev_pos rfl (Ev.now _))))),hc,.inl hda,fun e he hae => hD.2.2 e he.bd hae⟩
   ·obtain ⟨d',hE',hD'⟩ := ih d (by omega) (by omega)
    refine ⟨d',Ev.step (fun k => cluster_Next.l0.eq_2 ..) (ev_pos ha (Ev.bind hE (Ev.bind (cboundary_no hs hc) (ev_neg (by simp) hE')))),hD'.1,?_,fun e he hae => ?_⟩
    ·rcases hD'.2.1 with h | h
     ·exact .inl (by omega)
     ·exact .inr h
    ·have h1 := hD.2.2 e he.bd hae
     refine hD'.2.2 e he ?_
     by_cases h2 : e = d
     ·subst h2;exact absurd he hc
     ·omega
  ·exact hend a (by omega)
theorem cnext_ans (s : ByteArray) (hs : s.size ≤ 1099511627776) (a : Int) : ∃ d,Ev (fun k => cluster_Next.f k s a) d ∧ CNextS s a d := by
 unfold cluster_Next.f
 by_cases h : a < 0
 ·exact ⟨0,ev_pos h (Ev.now _),cbI_zero s,.inl h,fun e he _ => (cbI_le he).1⟩
 ·obtain ⟨d,hE,hD⟩ := cnext_loop s hs s.size a (by omega) (by omega)
  exact ⟨d,ev_neg h hE,hD⟩
theorem cnext_ev {s : ByteArray} (hs : s.size ≤ 1099511627776) {a d : Int} (h : CNextS s a d) : Ev (fun k => cluster_Next.f k s a) d := by
 obtain ⟨d',hE,h'⟩ := cnext_ans s hs a;exact h.one h' ▸ hE
theorem cells_ans (c : Int) : Ev (fun k => width_Cells.f k c) (celB c) := by
 have hC : celB c = if cls c = 1 then 0 else if cls c = 4 ∨ (cls c = 2 ∧ c ≤ 127) then 2 else 1 := rfl
 unfold width_Cells.f
 refine Ev.bind (class_ans c) ?_
 by_cases h1 : cls c = 1
 ·exact ev_pos h1 (ev_now (by rw [hC,if_pos h1]))
 ·refine ev_neg h1 ?_
  by_cases h4 : cls c = 4
  ·exact ev_pos h4 (ev_now (by rw [hC,if_neg h1,if_pos (.inl h4)]))
  ·refine ev_neg h4 ?_
   by_cases h2 : cls c = 2
   ·refine ev_pos h2 ?_
    by_cases h5 : c ≤ 127
    ·exact ev_pos h5 (ev_now (by rw [hC,if_neg h1,if_pos (.inr ⟨h2,h5⟩)]))
    ·exact ev_neg h5 (ev_now (by rw [hC,if_neg h1,if_neg (by omega)]))
   ·exact ev_neg h2 (ev_now (by rw [hC,if_neg h1,if_neg (by omega)]))
theorem toList_bytes (s : ByteArray) : s.toList = s.data.toList := Lib.toList_data s
theorem uC_low (s : ByteArray) (x : Nat) (c : Nat) (hc : c < 128) : uC s x = c ↔ byt s x = c := by
 rcases uC_cases s x with h | h | h | h | h <;> omega
theorem uN_low (s : ByteArray) (x : Nat) (c : Nat) (hc : c < 128) (h : uC s x = c) : uN s x = 1 := by
 rcases uC_cases s x with h | h | h | h | h <;> omega
theorem prefix_nl (s : ByteArray) (x : Nat) (hx : x < s.size) : strings_HasPrefix.f (s.extract (x + 1) s.size) (⟨#[10]⟩ : ByteArray) = some (decide (x + 1 < s.size ∧ byt s (x + 1) = 10)) := by
 have hsz : (s.extract (x + 1) s.size).size = s.size - (x + 1) := size_extract _ _ _ (Nat.le_refl _)
 unfold strings_HasPrefix.f stringslite_HasPrefix.f
 rw [hsz]
 by_cases h : x + 1 < s.size
 ·rw [if_pos (by show ((s.size - (x + 1) : Nat) : Int) ≥ ((1 : Nat) : Int);omega),if_pos (by omega),if_pos (by show ((1 : Nat) : Int) ≤ _;omega)]
  show some _ = some _
  congr 1
  rw [Bool.eq_iff_iff,beq_iff_eq,decide_eq_true_eq,toList_bytes,toList_bytes,Lib.extract_data]
  have e : (s.extract (x + 1) s.size).data.toList = s.data.toList.drop (x + 1) := by
   rw [Lib.extract_data,List.take_of_length_le (by rw [List.length_drop,← Lib.size_eq];omega)]
  rw [e,List.drop_zero]
  have hl : x + 1 < s.data.toList.length := by rw [← Lib.size_eq];exact h
  rw [List.drop_eq_getElem_cons hl]
  show [s.data.toList[x + 1]] = [10] ↔ _
  have hb : byt s (x + 1) = (s.data.toList[x + 1]).toNat := by
   unfold byt
   rw [get!_eq,List.getD_eq_getElem?_getD,List.getElem?_eq_getElem hl];rfl
  rw [hb,List.cons.injEq]
  constructor
  ·rintro ⟨h1,_⟩;exact ⟨h,by rw [h1];rfl⟩
  ·rintro ⟨_,h1⟩;exact ⟨UInt8.toNat_inj.1 (by rw [h1];rfl),rfl⟩
 ·rw [if_neg (by show ¬ ((s.size - (x + 1) : Nat) : Int) ≥ ((1 : Nat) : Int);omega)]
  show some _ = some _
  congr 1
  symm
  rw [decide_eq_false_iff_not]
  omega
theorem made_ans (s : ByteArray) (hs : s.size ≤ 1099511627776) (x : Nat) (hb : Bd s x) (hx : x < s.size) (t : Int) : Ev (fun k => cluster_made.f k s x t) ((x : Int),t,clsAt s x,celAt s x) := by
 unfold cluster_made.f
 refine Ev.bind (at_ans s hs x) ?_
 rw [atA_nat hb hx]
 refine Ev.bind (class_ans (uC s x)) (Ev.bind (cells_ans (uC s x)) ?_)
 by_cases h : uC s x = 13
 ·have h1 := uN_low s x 13 (by omega) h
  have hw : wrap64 ((x : Int) + 1) = ((x + 1 : Nat) : Int) := by rw [w64 (by omega) (by omega)];omega
  refine ev_pos h ?_
  rw [hw]
  refine ev_pos (by omega) (ev_pos (by omega) (ev_some (prefix_nl s x hx) ?_))
  have hc : crlf s x ↔ (x + 1 < s.size ∧ byt s (x + 1) = 10) := by
   unfold crlf
   rw [h1,← uC_low s (x + 1) 10 (by omega)]
   exact ⟨fun h => h.2,fun h2 => ⟨h,h2⟩⟩
  unfold clsAt celAt
  by_cases hq : crlf s x
  ·rw [if_pos hq,if_pos hq]
   exact ev_pos (by rw [decide_eq_true_eq];exact hc.1 hq) (Ev.now _)
  ·rw [if_neg hq,if_neg hq]
   exact ev_neg (by rw [decide_eq_true_eq];exact fun h => hq (hc.2 h)) (Ev.now _)
 ·refine ev_neg h (ev_now ?_)
  unfold clsAt celAt
  rw [if_neg (fun hq => h hq.1),if_neg (fun hq => h hq.1)]
end Go.Proofs.YtfhnfhgpaoddbaaDoor.Pu
end
