/- What the law LayoutFits reaches of this seat's own texts, merged; what nothing uses is left out. -/
import Derived.Test.YtnpjaaldppemlaaDoorZLayoutFits0
import Derived.Test.YtnpjaaldppemlaaDoorZLayoutFits1
import Derived.Test.YtnpjaaldppemlaaDoorZLayoutFits5
import Derived.Test.YtnpjaaldppemlaaDoorZLayoutFits6
import Derived.Test.YtnpjaaldppemlaaDoorZLayoutFits7
section
namespace Go.Proofs.YtnpjaaldppemlaaDoor.U
open Go.RowKit Go.Proofs.YtnpjaaldppemlaaDoorW.PrintWords Go.Proofs.YtnpjaaldppemlaaDoorW.PrintLast Go.Proofs.YtnpjaaldppemlaaDoorW.PrintMore
attribute [local go_sem] max2_int min2_int max_two min_two max_three min_three max_four min_four   -- for this text's walks alone
set_option linter.unusedVariables false
set_option linter.unusedSimpArgs false
attribute [local go_sem high] eqA35
theorem seen_trans {W w1 Y : World} {g : Nat} (hb : Below W.heap.size W w1) (hg : g = W.heap.size) (hY : Below g w1 Y) : Below W.heap.size W Y := hb.trans (hg ▸ hY)
theorem seen_set {B : Nat} {w W : World} {g j : Nat} {v : Value} (h : Below B w W) (hg : B ≤ g) : Below B w (W.setCell ⟨g,j,none⟩ v) := h.setCell hg _
mutual
def bodkinlaw20_LayoutFits.l0 : Nat → Int → ByteArray → ByteArray → Int → Int → Int → List (List (S35)) → Int → Int → Option (Bool)
 | 0,_,_,_,_,_,_,_,_,_ => none
 | k + 1,x4,x223000,x223001,x223002,x223003,x231000,x231001,x231002,x231003 => if x4 < (x231001.length : Int) then (if 0 ≤ x4 then ((bodkinlaw20_width.f x223003).bind fun t232 => (if ((rd_L3 x231001 x4).length : Int) > t232 then (bodkinlaw20_LayoutFits.j1 k x4 ((rd_L3 x231001 x4).length : Int) true x223000 x223001 x223002 x223003 x231000 x231001 x231002 x231003) else (if ((rd_L3 x231001 x4).length : Int) > 0 then (if 0 ≤ (wrap64 (((rd_L3 x231001 x4).length : Int) - 1)) then (if (wrap64 (((rd_L3 x231001 x4).length : Int) - 1)) < ((rd_L3 x231001 x4).length : Int) then (bodkinlaw20_LayoutFits.j1 k x4 ((rd_L3 x231001 x4).length : Int) ((((rd_T35 (rd_L3 x231001 x4) (wrap64 (((rd_L3 x231001 x4).length : Int) - 1))).f0).toList) == ([32] : List UInt8) && (((rd_T35 (rd_L3 x231001 x4) (wrap64 (((rd_L3 x231001 x4).length : Int) - 1))).f1) == 1)) x223000 x223001 x223002 x223003 x231000 x231001 x231002 x231003) else (none)) else (none)) else (bodkinlaw20_LayoutFits.j1 k x4 ((rd_L3 x231001 x4).length : Int) false x223000 x223001 x223002 x223003 x231000 x231001 x231002 x231003)))) else (none)) else (some true)
def bodkinlaw20_LayoutFits.j1 : Nat → Int → Int → Bool → ByteArray → ByteArray → Int → Int → Int → List (List (S35)) → Int → Int → Option (Bool)
 | 0,_,_,_,_,_,_,_,_,_,_,_ => none
 | k + 1,x4,x6,x51,x223000,x223001,x223002,x223003,x231000,x231001,x231002,x231003 => if x51 = true then (some false) else (bodkinlaw20_LayoutFits.l1 k x4 (rd_L3 x231001 x4) x6 0 x223000 x223001 x223002 x223003 x231000 x231001 x231002 x231003)
def bodkinlaw20_LayoutFits.l1 : Nat → Int → List (S35) → Int → Int → ByteArray → ByteArray → Int → Int → Int → List (List (S35)) → Int → Int → Option (Bool)
 | 0,_,_,_,_,_,_,_,_,_,_,_,_ => none
 | k + 1,x4,x5,x6,x7,x223000,x223001,x223002,x223003,x231000,x231001,x231002,x231003 => if x7 < x6 then (if 0 ≤ x7 then (if x7 < (x5.length : Int) then (if ((rd_T35 x5 x7).f1) = 0 then (if ((rd_T35 x5 x7).f0).toList = ([] : List UInt8) then (if x7 = 0 then (some false) else (if 0 ≤ (wrap64 (x7 - 1)) then (if (wrap64 (x7 - 1)) < (x5.length : Int) then (if ((rd_T35 x5 (wrap64 (x7 - 1))).f1) = 2 then (bodkinlaw20_LayoutFits.l1 k x4 x5 x6 (wrap64 (x7 + 1)) x223000 x223001 x223002 x223003 x231000 x231001 x231002 x231003) else (some false)) else (none)) else (none))) else (some false)) else (if ((rd_T35 x5 x7).f1) = 1 then (bodkinlaw20_LayoutFits.j3 k x4 x5 x6 x7 (((rd_T35 x5 x7).f1) == 1) x223000 x223001 x223002 x223003 x231000 x231001 x231002 x231003 ((rd_T35 x5 x7).f0) ((rd_T35 x5 x7).f1)) else (bodkinlaw20_LayoutFits.j3 k x4 x5 x6 x7 (((rd_T35 x5 x7).f1) == 2) x223000 x223001 x223002 x223003 x231000 x231001 x231002 x231003 ((rd_T35 x5 x7).f0) ((rd_T35 x5 x7).f1)))) else (none)) else (none)) else (bodkinlaw20_LayoutFits.l0 k (wrap64 (x4 + 1)) x223000 x223001 x223002 x223003 x231000 x231001 x231002 x231003)
def bodkinlaw20_LayoutFits.j3 : Nat → Int → List (S35) → Int → Int → Bool → ByteArray → ByteArray → Int → Int → Int → List (List (S35)) → Int → Int → ByteArray → Int → Option (Bool)
 | 0,_,_,_,_,_,_,_,_,_,_,_,_,_,_,_ => none
 | k + 1,x4,x5,x6,x7,x81,x223000,x223001,x223002,x223003,x231000,x231001,x231002,x231003,x236000,x236001 => if x81 = true then ((cluster_Count.f x236000).bind fun t237 => (if t237 = 1 then ((cluster_Cells.f x236000).bind fun t238 => (if t238 = x236001 then ((cluster_Drawn.f x236000).bind fun t239 => (if t239.toList = x236000.toList then (if x236001 = 2 then (if (wrap64 (x7 + 1)) = x6 then (some false) else (if 0 ≤ (wrap64 (x7 + 1)) then (if (wrap64 (x7 + 1)) < (x5.length : Int) then (if ((rd_T35 x5 (wrap64 (x7 + 1))).f1) = 0 then (bodkinlaw20_LayoutFits.l1 k x4 x5 x6 (wrap64 (x7 + 1)) x223000 x223001 x223002 x223003 x231000 x231001 x231002 x231003) else (some false)) else (none)) else (none))) else (bodkinlaw20_LayoutFits.l1 k x4 x5 x6 (wrap64 (x7 + 1)) x223000 x223001 x223002 x223003 x231000 x231001 x231002 x231003)) else (some false))) else (some false))) else (some false))) else (some false)
end
def bodkinlaw20_LayoutFits.f (k : Nat) (a0_0 : ByteArray) (a0_1 : ByteArray) (a0_2 : Int) (a0_3 : Int) : Option (Bool) := (bodkinlaw20_awake.f k).bind fun t223 => (if t223 = true then ((layout_Lay.f a0_0 a0_1 a0_2 a0_3).bind fun bt224 => (bodkinlaw20_LayoutFits.l0 k 0 a0_0 a0_1 a0_2 a0_3 bt224.1 bt224.2.1 bt224.2.2.1 bt224.2.2.2)) else (some false))
def bodkinlaw20_LayoutFits.T22 : Bool × List (List Nat × List Nat) := (true,[([],[]),([0],[0]),([1],[1]),([2],[2]),([3,2],[3]),([4],[4]),([5,4],[4,5]),([6,4,4],[4,6]),([4],[4]),([8,4],[4,8]),([7,9,4],[4,7,9]),([4,10],[4,10]),([11,7],[11]),([12],[12]),([13,12],[12,13]),([14,12,12],[12,14]),([12],[12]),([16,12],[12,16]),([15,17,12],[12,15,17]),([12,18],[12,18]),([19,15],[19]),([20],[20]),([21,20],[20,21]),([22,20],[20,22]),([23,20,20],[20,23]),([24],[24]),([25,24],[24,25]),([24],[24]),([26,27,24],[24,26,27]),([28,24,24],[24,28]),([29],[29]),([29],[29]),([31,29],[29,31]),([30,32,29],[29,30,32]),([33,29],[29,33]),([34,29],[29,34]),([35,29],[29,35]),([29,36,24],[24,29,36]),([24,37,20],[20,24,37]),([20,38],[20,38])])
def bodkinlaw20_LayoutFits.B22 : List Nat := [0,1,3,7,15,31,63,127,31,287,1023,2047,4095,8191,16383,32767,8191,73727,262143,524287,1048575,2097151,4194303,8388607,16777215,33554431,67108863,33554431,268435455,536870911,1073741823,1073741823,3221225471,8589934591,17179869183,34359738367,68719476735,137438953471,274877906943,549755813887]
theorem bodkinlaw20_LayoutFits.tab22 : rtab .any (opsOf Tryd.f8 22) = bodkinlaw20_LayoutFits.T22 := by kernel_rfl
theorem bodkinlaw20_LayoutFits.bits22 : waitsOk bodkinlaw20_LayoutFits.T22.2 bodkinlaw20_LayoutFits.B22 = true := by kernel_rfl
set_option maxHeartbeats 8000000 in
set_option maxRecDepth 100000 in
theorem bodkinlaw20_LayoutFits.calls (k : Nat) (a0_0 : ByteArray) (a0_1 : ByteArray) (a0_2 : Int) (a0_3 : Int) (r : Bool) (hr_ : r = true) (w : World) (hT : Lib.Utf8Tabs 0 1 w) (h : bodkinlaw20_LayoutFits.f k a0_0 a0_1 a0_2 a0_3 = some r) :
  Calls Tryd.prog 8 #[.agg #[.string a0_0,.string a0_1,.int .i64 a0_2,.int .i64 a0_3]] w fun e w' => e = .returned (.bool r) ∧ Below w.heap.size w w' := by
 have hu23 := Tryd.underlying23
 have hu29 := Tryd.underlying29
 have hu35 := Tryd.underlying35
 have HT := Aside0.mk hT
 clear hT
 have HB := Aside0.mk (Below.refl w.heap.size w)
 have H : ((bodkinlaw20_awake.f k).bind fun t223 => (if t223 = true then ((layout_Lay.f a0_0 a0_1 a0_2 a0_3).bind fun bt224 => (bodkinlaw20_LayoutFits.l0 k 0 a0_0 a0_1 a0_2 a0_3 bt224.1 bt224.2.1 bt224.2.2.1 bt224.2.2.2)) else (some false))) = some r := h
 clear h
 replace H := Option.bind_eq_some_iff.mp H
 obtain ⟨t223,A20,H⟩ := H
 replace H : (if t223 = true then ((layout_Lay.f a0_0 a0_1 a0_2 a0_3).bind fun bt224 => (bodkinlaw20_LayoutFits.l0 k 0 a0_0 a0_1 a0_2 a0_3 bt224.1 bt224.2.1 bt224.2.2.1 bt224.2.2.2)) else (some false)) = some r := H
 have A2 := Aside0.mk A20
 clear A20
 by_cases c3 : t223 = true
 ·subst c3
  have H1 : ((layout_Lay.f a0_0 a0_1 a0_2 a0_3).bind fun bt224 => (bodkinlaw20_LayoutFits.l0 k 0 a0_0 a0_1 a0_2 a0_3 bt224.1 bt224.2.1 bt224.2.2.1 bt224.2.2.2)) = some r := by rw [if_pos rfl] at H;exact H
  clear H
  have H := H1
  clear H1
  replace H := Option.bind_eq_some_iff.mp H
  obtain ⟨⟨t224,t225,t228,t229⟩,A40,H⟩ := H
  replace H : (bodkinlaw20_LayoutFits.l0 k 0 a0_0 a0_1 a0_2 a0_3 t224 t225 t228 t229) = some r := H
  have A4 := Aside0.mk A40
  clear A40
  have H' := Aside0.mk H
  clear H
  go_enter Tryd.func8,Tryd.ntmps8
  go_wp2_with (first | ((with_reducible refine gate_dst (N := 1) rfl ?_);refine box_event ?hg (N := 1) ?hd (cs := #[.string a0_0,.string a0_1,.int .i64 a0_2,.int .i64 a0_3]) (t := 23) ?hr ?_;(case hd => rfl);(case hg => rfl);(case hr => first | (go_simp;done) | (go_simp;rfl));intro gb222 hg w5 hbox hb;have n0_ := Aside0.mk (below_step au0 hb);have n1_ := Aside0.mk (hbox);have n2_ := Aside0.mk ((by rw [hg];exact (below_size au0) : w.heap.size ≤ gb222));have n3_ := Aside0.mk ((by rw [hg];exact (below_size au0) : w.heap.size ≤ gb222));clear HB;have HB := n0_;have BK222 := n1_;have GW222 := n2_;have GE222 := n3_;clear n0_ n1_ n2_ n3_;clear hb hbox hg) | ((with_reducible refine gate_callee (f := 12) rfl ?_);refine goesL_ (some 9) rfl rfl Tryd.func12 (by kernel_rfl) rfl #[] rfl au1 ?_;(with_reducible refine (bodkinlaw20_awake.calls k true rfl _ ?side1 A2.out).mono ?_);(case side1 => exact tabs_below HT.out au12);rintro e w6 ⟨rfl,hb⟩;refine ⟨_,rfl,?_⟩;have n0_ := Aside0.mk (blk_below (g := gb222) (o := .cells #[.string a0_0,.string a0_1,.int .i64 a0_2,.int .i64 a0_3] 23 (0,0)) au6 hb);have n1_ := Aside0.mk (below_step au12 hb);clear BK222;clear HB;have BK222 := n0_;have HB := n1_;clear n0_ n1_;(try clear hb);(try clear hb2);(try clear hk);(try clear hi);have hcz7_0 : w6.cell? ⟨gb222,0,none⟩ = some (.string a0_0) := (blk_cell BK222.out 0).trans rfl;have hcz7_1 : w6.cell? ⟨gb222,1,none⟩ = some (.string a0_1) := (blk_cell BK222.out 1).trans rfl;have hcz7_2 : w6.cell? ⟨gb222,2,none⟩ = some (.int .i64 a0_2) := (blk_cell BK222.out 2).trans rfl;have hcz7_3 : w6.cell? ⟨gb222,3,none⟩ = some (.int .i64 a0_3) := (blk_cell BK222.out 3).trans rfl;have hfz7_0 := blk_frozen BK222.out 0;have hfz7_1 := blk_frozen BK222.out 1;have hfz7_2 := blk_frozen BK222.out 2;have hfz7_3 := blk_frozen BK222.out 3) | ((with_reducible refine gate_callee (f := 14) rfl ?_);refine goesL_ (some 19) rfl rfl Tryd.func14 (by kernel_rfl) rfl #[.string a0_0,.string a0_1,.int .i64 a0_2,.int .i64 a0_3] rfl au1 ?_;(with_reducible refine (layout_Lay.calls a0_0 a0_1 a0_2 a0_3 t224 t225 t228 t229 _ ?side1 A4.out).mono ?_);(case side1 => exact tabs_below HT.out au12);rintro e w8 ⟨v226,rfl,ho0,hb⟩;refine ⟨_,rfl,?_⟩;have n0_ := Aside0.mk (Kd.S_lower ho0 (below_size au12));have n1_ := Aside0.mk (blk_below (g := gb222) (o := .cells #[.string a0_0,.string a0_1,.int .i64 a0_2,.int .i64 a0_3] 23 (0,0)) au6 hb);have n2_ := Aside0.mk (below_step au12 hb);clear BK222;clear HB;have HO227 := n0_;have BK222 := n1_;have HB := n2_;clear n0_ n1_ n2_;(try clear hb);(try clear hb2);(try clear hk);(try clear hi);(try clear ho0)) | ((with_reducible refine gate_dst (N := 3) rfl ?_);refine box_event ?hg (N := 3) ?hd (cs := #[.int .i64 0,.slice none 0 0,.int .i64 0,.int .i64 0]) (t := 29) ?hr ?_;(case hd => rfl);(case hg => rfl);(case hr => first | (go_simp;done) | (go_simp;rfl));intro gb230 hg w9 hbox hb;have n0_ := Aside0.mk (Kd.S_below (by (with_reducible repeat (first | apply Kd.S_alloc | apply Kd.S_drewN | apply Kd.S_drew));exact HO227.out) hb);have n1_ := Aside0.mk (blk_below (g := gb222) (o := .cells #[.string a0_0,.string a0_1,.int .i64 a0_2,.int .i64 a0_3] 23 (0,0)) au6 hb);have n2_ := Aside0.mk (below_step au12 hb);have n3_ := Aside0.mk (hbox);have n4_ := Aside0.mk ((by rw [hg];exact (below_size au12) : w.heap.size ≤ gb230));have n5_ := Aside0.mk ((by rw [hg];exact (below_size au12) : w.heap.size ≤ gb230));have n6_ := Aside0.mk ((by rw [hg];exact Nat.ne_of_lt (blk_lt (g := gb222) (o := .cells #[.string a0_0,.string a0_1,.int .i64 a0_2,.int .i64 a0_3] 23 (0,0)) au6) : gb222 ≠ gb230));have n7_ := Aside0.mk ((by rw [hg];exact Nat.ne_of_gt (blk_lt (g := gb222) (o := .cells #[.string a0_0,.string a0_1,.int .i64 a0_2,.int .i64 a0_3] 23 (0,0)) au6) : gb230 ≠ gb222));clear HO227;clear BK222;clear HB;have HO227 := n0_;have BK222 := n1_;have HB := n2_;have BK230 := n3_;have GW230 := n4_;have GE230 := n5_;have NB222_230 := n6_;have NB230_222 := n7_;clear n0_ n1_ n2_ n3_ n4_ n5_ n6_ n7_;clear hb hbox hg;have hnb10 := NB230_222.out;have hnc10 := NB222_230.out;have hcz11_0 : w9.cell? ⟨gb230,0,none⟩ = some (.int .i64 0) := (blk_cell BK230.out 0).trans rfl;have hcz11_1 : w9.cell? ⟨gb230,1,none⟩ = some (.slice none 0 0) := (blk_cell BK230.out 1).trans rfl;have hcz11_2 : w9.cell? ⟨gb230,2,none⟩ = some (.int .i64 0) := (blk_cell BK230.out 2).trans rfl;have hcz11_3 : w9.cell? ⟨gb230,3,none⟩ = some (.int .i64 0) := (blk_cell BK230.out 3).trans rfl;have hfz11_0 := blk_frozen BK230.out 0;have hfz11_1 := blk_frozen BK230.out 1;have hfz11_2 := blk_frozen BK230.out 2;have hfz11_3 := blk_frozen BK230.out 3;obtain ⟨Ao12,co12,eo12⟩ := Kd.S_slice HO227.out;subst eo12))
  go_loopg [4] k (fun kq v4 w' => ∃ (x4_1 : Int),v4 = .int .i64 x4_1 ∧ Aside0 (bodkinlaw20_LayoutFits.l0 kq x4_1 a0_0 a0_1 a0_2 a0_3 t224 t225 t228 t229 = some r) ∧ Aside0 (kq ≤ k) ∧ Aside0 (Kd.S (Kd.slice 35 k35) 33 w' w.heap.size (fun _ => True) (.slice Ao12 t225.length co12) t225) ∧ Aside0 (w'.heap[gb222]? = some (.cells #[.string a0_0,.string a0_1,.int .i64 a0_2,.int .i64 a0_3] 23 (0,0))) ∧ Aside0 (w'.heap[gb230]? = some (.cells #[.int .i64 t224,(.slice Ao12 t225.length co12),.int .i64 t228,.int .i64 t229] 29 (0,0))) ∧ Aside0 (Below w.heap.size w w'))
  case atStart => exact ⟨(0),au15,H',⟨Nat.le_refl _⟩,⟨by (with_reducible repeat (first | apply Kd.S_alloc | apply Kd.S_drewN | apply Kd.S_drew));exact Kd.S_mono (Kd.S_far (p := ⟨gb230,3,none⟩) (Kd.S_far (p := ⟨gb230,2,none⟩) (Kd.S_far (p := ⟨gb230,1,none⟩) (Kd.S_far (p := ⟨gb230,0,none⟩) (Kd.S_types HO227.out BK230.out (by decide)) (fun _ hk => hk.2) (.int .i64 t224)) (fun _ hk => hk.2) (.slice Ao12 t225.length co12)) (fun _ hk => hk.2) (.int .i64 t228)) (fun _ hk => hk.2) (.int .i64 t229)) (fun _ hk => trivial)⟩,⟨by (with_reducible repeat (first | refine blk_drewN ?_ _ | refine blk_drew ?_ | refine blk_alloc ?_ _));refine blk_far ?_ NB222_230.out _;(with_reducible repeat (first | refine blk_drewN ?_ _ | refine blk_drew ?_ | refine blk_alloc ?_ _));refine blk_far ?_ NB222_230.out _;(with_reducible repeat (first | refine blk_drewN ?_ _ | refine blk_drew ?_ | refine blk_alloc ?_ _));refine blk_far ?_ NB222_230.out _;(with_reducible repeat (first | refine blk_drewN ?_ _ | refine blk_drew ?_ | refine blk_alloc ?_ _));refine blk_far ?_ NB222_230.out _;(with_reducible repeat (first | refine blk_drewN ?_ _ | refine blk_drew ?_ | refine blk_alloc ?_ _));exact BK222.out⟩,⟨by (with_reducible repeat (first | refine blk_drewN ?_ _ | refine blk_drew ?_ | refine blk_alloc ?_ _));refine blk_put (cs := #[.int .i64 t224,.slice Ao12 t225.length co12,.int .i64 t228,.int .i64 0]) ?_ 3 _ rfl;(with_reducible repeat (first | refine blk_drewN ?_ _ | refine blk_drew ?_ | refine blk_alloc ?_ _));refine blk_put (cs := #[.int .i64 t224,.slice Ao12 t225.length co12,.int .i64 0,.int .i64 0]) ?_ 2 _ rfl;(with_reducible repeat (first | refine blk_drewN ?_ _ | refine blk_drew ?_ | refine blk_alloc ?_ _));refine blk_put (cs := #[.int .i64 t224,.slice none 0 0,.int .i64 0,.int .i64 0]) ?_ 1 _ rfl;(with_reducible repeat (first | refine blk_drewN ?_ _ | refine blk_drew ?_ | refine blk_alloc ?_ _));refine blk_put (cs := #[.int .i64 0,.slice none 0 0,.int .i64 0,.int .i64 0]) ?_ 0 _ rfl;(with_reducible repeat (first | refine blk_drewN ?_ _ | refine blk_drew ?_ | refine blk_alloc ?_ _));exact BK230.out⟩,⟨by repeat (first | (with_reducible first | exact HB.out | apply below_alloc | apply pw_below_drewN | apply below_drew1 | refine below_set ?_ GE222.out | refine below_set ?_ GE230.out) | exact HB.out)⟩⟩
  case round => as_aux_lemma =>
   clear H'
   try clear c1
   try clear p2
   try clear c3
   try clear c8
   try clear c10
   try clear c12
   try clear hcz11_0
   try clear hcz11_1
   try clear hcz11_2
   try clear hcz11_3
   try clear hcz7_0
   try clear hcz7_1
   try clear hcz7_2
   try clear hcz7_3
   try clear hfz11_0
   try clear hfz11_1
   try clear hfz11_2
   try clear hfz11_3
   try clear hfz7_0
   try clear hfz7_1
   try clear hfz7_2
   try clear hfz7_3
   obtain ⟨x4_1,rfl,HA,HK1,HO_231001,BK222,BK230,HB⟩ := hrel
   cases gk with
   | zero => exact absurd HA.out (by simp [bodkinlaw20_LayoutFits.l0])
   | succ k1 =>
    have H := HA.out
    clear HA
    simp only [bodkinlaw20_LayoutFits.l0] at H
    by_cases c13 : x4_1 < (t225.length : Int)
    ·rw [if_pos c13] at H
     have c13b0 : decide (x4_1 < (t225.length : Int)) = true := decide_eq_true c13
     clear c13
     by_cases c14 : 0 ≤ x4_1
     ·rw [if_pos c14] at H
      have c14b0 : decide (0 ≤ x4_1) = true := decide_eq_true c14
      clear c14
      have HC15 := Aside0.mk H
      clear H
      have hnb16 := NB230_222.out
      have hnc16 := NB222_230.out
      have hcz17_0 : wr.cell? ⟨gb230,0,none⟩ = some (.int .i64 t224) := (blk_cell BK230.out 0).trans rfl
      have hcz17_1 : wr.cell? ⟨gb230,1,none⟩ = some (.slice Ao12 t225.length co12) := (blk_cell BK230.out 1).trans rfl
      have hcz17_2 : wr.cell? ⟨gb230,2,none⟩ = some (.int .i64 t228) := (blk_cell BK230.out 2).trans rfl
      have hcz17_3 : wr.cell? ⟨gb230,3,none⟩ = some (.int .i64 t229) := (blk_cell BK230.out 3).trans rfl
      have hfz17_0 := blk_frozen BK230.out 0
      have hfz17_1 := blk_frozen BK230.out 1
      have hfz17_2 := blk_frozen BK230.out 2
      have hfz17_3 := blk_frozen BK230.out 3
      have p231 : 0 ≤ (x4_1 : Int) := of_decide_eq_true au11
      have q231 : x4_1 < (t225.length : Int) := of_decide_eq_true au11
      obtain ⟨ad231,A231_0,c231_0,e231,hx231_0,hl231_0,hi231_0⟩ := at_L3 (Kd.S_reads' HO_231001.out).2.2 x4_1 p231 q231
      cases e231
      obtain ⟨ce231,hce231,hMe231,hcc231⟩ := Kd.S_get HO_231001.out [] x4_1 p231 (by first | exact q231 | exact of_decide_eq_true au11 | (have e_ := (Kd.S_reads' HO_231001.out).1;omega))
      obtain ⟨ve231_0,rfl,ge231_0⟩ := hMe231
      have hv231_0 := hcc231 0 _ rfl
      rw [Nat.add_zero,show ((Kd.slice 35 k35)).sz = 1 from rfl,Nat.mul_one] at hv231_0
      replace hv231_0 := Option.some.inj (hv231_0.symm.trans hx231_0)
      rw [hv231_0] at ge231_0
      have HL231_0 := Aside0.mk (show Kd.R k35 35 _ _ _ _ (rd_L3 t225 x4_1) from ge231_0)
      clear hv231_0 ge231_0
      clear hcc231 hce231
      have HR231_0 := Aside0.mk hi231_0
      have HC231_0 := Aside0.mk hl231_0
      clear hi231_0 hl231_0
      replace p231 := eq_true p231
      replace q231 := eq_true q231
      go_upto_region 9 with (fail)
      go_cut [51] (fun v51 wc => ∃ (kq : Nat) (x51_14 : Bool),v51 = .bool x51_14 ∧ Aside0 (bodkinlaw20_LayoutFits.j1 kq x4_1 ((rd_L3 t225 x4_1).length : Int) x51_14 a0_0 a0_1 a0_2 a0_3 t224 t225 t228 t229 = some r) ∧ Aside0 (kq ≤ k1) ∧ Aside0 (Kd.S (Kd.slice 35 k35) 33 wc w.heap.size (fun _ => True) (.slice (some ad231) t225.length co12) t225) ∧ Aside0 (wc.heap[gb222]? = some (.cells #[.string a0_0,.string a0_1,.int .i64 a0_2,.int .i64 a0_3] 23 (0,0))) ∧ Aside0 (wc.heap[gb230]? = some (.cells #[.int .i64 t224,(.slice (some ad231) t225.length co12),.int .i64 t228,.int .i64 t229] 29 (0,0))) ∧ Aside0 (Kd.C k35 wc A231_0 (rd_L3 t225 x4_1).length (rd_L3 t225 x4_1)) ∧ Aside0 (Below w.heap.size w wc))
      case first => as_aux_lemma =>
       have H := HC15.out
       clear HC15
       replace H := Option.bind_eq_some_iff.mp H
       obtain ⟨t232,A180,H⟩ := H
       replace H : (if ((rd_L3 t225 x4_1).length : Int) > t232 then (bodkinlaw20_LayoutFits.j1 k1 x4_1 ((rd_L3 t225 x4_1).length : Int) true a0_0 a0_1 a0_2 a0_3 t224 t225 t228 t229) else (if ((rd_L3 t225 x4_1).length : Int) > 0 then (if 0 ≤ (wrap64 (((rd_L3 t225 x4_1).length : Int) - 1)) then (if (wrap64 (((rd_L3 t225 x4_1).length : Int) - 1)) < ((rd_L3 t225 x4_1).length : Int) then (bodkinlaw20_LayoutFits.j1 k1 x4_1 ((rd_L3 t225 x4_1).length : Int) ((((rd_T35 (rd_L3 t225 x4_1) (wrap64 (((rd_L3 t225 x4_1).length : Int) - 1))).f0).toList) == ([32] : List UInt8) && (((rd_T35 (rd_L3 t225 x4_1) (wrap64 (((rd_L3 t225 x4_1).length : Int) - 1))).f1) == 1)) a0_0 a0_1 a0_2 a0_3 t224 t225 t228 t229) else (none)) else (none)) else (bodkinlaw20_LayoutFits.j1 k1 x4_1 ((rd_L3 t225 x4_1).length : Int) false a0_0 a0_1 a0_2 a0_3 t224 t225 t228 t229))) = some r := H
       have A18 := Aside0.mk A180
       clear A180
       by_cases c19 : ((rd_L3 t225 x4_1).length : Int) > t232
       ·rw [if_pos c19] at H
        exfalso
        subst hr_
        cases k1 <;> simp [bodkinlaw20_LayoutFits.j1] at H
       ·rw [if_neg c19] at H
        have c19b0 : decide (t232 < ((rd_L3 t225 x4_1).length : Int)) = false := decide_eq_false c19
        clear c19
        (first | rw [c19b0] | (simp only [i64_w,i32_w];rw [c19b0]) | skip)
        by_cases c23 : ((rd_L3 t225 x4_1).length : Int) > 0
        ·rw [if_pos c23] at H
         have c23b0 : decide (0 < ((rd_L3 t225 x4_1).length : Int)) = true := decide_eq_true c23
         have c23b1 : decide (0 < (rd_L3 t225 x4_1).length) = true := decide_eq_true (by omega)
         clear c23
         obtain ⟨ji24,hji24⟩ : ∃ j_ : Int,(wrap64 (((rd_L3 t225 x4_1).length : Int) - 1)) = j_ := ⟨_,rfl⟩
         replace H : (if 0 ≤ (ji24) then (if (ji24) < ((rd_L3 t225 x4_1).length : Int) then (bodkinlaw20_LayoutFits.j1 k1 x4_1 ((rd_L3 t225 x4_1).length : Int) ((((rd_T35 (rd_L3 t225 x4_1) (ji24)).f0).toList) == ([32] : List UInt8) && (((rd_T35 (rd_L3 t225 x4_1) (ji24)).f1) == 1)) a0_0 a0_1 a0_2 a0_3 t224 t225 t228 t229) else (none)) else (none)) = some r := by first | (rw [hji24] at H;exact H) | (simp only [hji24] at H ⊢;exact H)
         (try rw [hji24] at A18)
         have hji24w : (IntKind.i64.wrap (((rd_L3 t225 x4_1).length : Int) - 1)) = ji24 := (i64_w _).trans hji24
         by_cases c25 : 0 ≤ (ji24)
         ·rw [if_pos c25] at H
          have c25b0 : decide (0 ≤ (ji24)) = true := decide_eq_true c25
          clear c25
          by_cases c26 : (ji24) < ((rd_L3 t225 x4_1).length : Int)
          ·rw [if_pos c26] at H
           have c26b0 : decide ((ji24) < ((rd_L3 t225 x4_1).length : Int)) = true := decide_eq_true c26
           clear c26
           have H' := Aside0.mk H
           clear H
           have hnb27 := NB222_230.out
           have hnc27 := NB230_222.out
           have hcz28_0 : wr.cell? ⟨gb222,0,none⟩ = some (.string a0_0) := (blk_cell BK222.out 0).trans rfl
           have hcz28_1 : wr.cell? ⟨gb222,1,none⟩ = some (.string a0_1) := (blk_cell BK222.out 1).trans rfl
           have hcz28_2 : wr.cell? ⟨gb222,2,none⟩ = some (.int .i64 a0_2) := (blk_cell BK222.out 2).trans rfl
           have hcz28_3 : wr.cell? ⟨gb222,3,none⟩ = some (.int .i64 a0_3) := (blk_cell BK222.out 3).trans rfl
           have hfz28_0 := blk_frozen BK222.out 0
           have hfz28_1 := blk_frozen BK222.out 1
           have hfz28_2 := blk_frozen BK222.out 2
           have hfz28_3 := blk_frozen BK222.out 3
           go_wp2_with (first | ((with_reducible refine gate_callee (f := 17) rfl ?_);refine goesL_ (some 37) rfl rfl Tryd.func17 (by kernel_rfl) rfl #[.int .i64 a0_3] rfl au1 ?_;(with_reducible refine (bodkinlaw20_width.calls a0_3 t232 _ A18.out).mono ?_);rintro e w29 ⟨rfl,hb⟩;refine ⟨_,rfl,?_⟩;have n0_ := Aside0.mk (Kd.S_below au14 hb);have n1_ := Aside0.mk (Kd.R_below (by (with_reducible repeat (first | apply Kd.R_alloc | apply Kd.R_drewN | apply Kd.R_drew));exact HL231_0.out) hb);have n2_ := Aside0.mk (blk_below (g := gb222) (o := .cells #[.string a0_0,.string a0_1,.int .i64 a0_2,.int .i64 a0_3] 23 (0,0)) au6 hb);have n3_ := Aside0.mk (blk_below (g := gb230) (o := .cells #[.int .i64 t224,.slice (some ad231) t225.length co12,.int .i64 t228,.int .i64 t229] 29 (0,0)) au9 hb);have n4_ := Aside0.mk (Kd.C_below au4 hb);have n5_ := Aside0.mk (below_step au10 hb);clear HO_231001;clear HL231_0;clear BK222;clear BK230;clear HR231_0;clear HB;have HO_231001 := n0_;have HL231_0 := n1_;have BK222 := n2_;have BK230 := n3_;have HR231_0 := n4_;have HB := n5_;clear n0_ n1_ n2_ n3_ n4_ n5_;(try clear hb);(try clear hb2);(try clear hk);(try clear hi);have p233 : 0 ≤ ((ji24) : Int) := of_decide_eq_true au11;have q233 : (ji24) < ((rd_L3 t225 x4_1).length : Int) := of_decide_eq_true au11;obtain ⟨ad233,e233,hx233_0,hx233_1⟩ := at_T35 au4 (ji24) p233 q233;cases e233;replace p233 := eq_true p233;replace q233 := eq_true q233))
           go_meet
           case rel => exact ⟨_,(((((rd_T35 (rd_L3 t225 x4_1) (ji24)).f0).toList) == ([32] : List UInt8) && (((rd_T35 (rd_L3 t225 x4_1) (ji24)).f1) == 1))),(by first | rfl | (simp;done) | (simp only [← hji24] <;> (first | rfl | simp)) | (simp [*];done)),H',⟨by have := HK1.out;first | omega | exact Nat.le_refl _⟩,⟨by (with_reducible repeat (first | apply Kd.S_alloc | apply Kd.S_drewN | apply Kd.S_drew));exact HO_231001.out⟩,⟨by (with_reducible repeat (first | refine blk_drewN ?_ _ | refine blk_drew ?_ | refine blk_alloc ?_ _));exact BK222.out⟩,⟨by (with_reducible repeat (first | refine blk_drewN ?_ _ | refine blk_drew ?_ | refine blk_alloc ?_ _));exact BK230.out⟩,⟨by repeat (first | (with_reducible exact HR231_0.out) | (with_reducible refine Kd.C_alloc ?_ _) | (with_reducible refine Kd.C_drewN ?_ _) | (with_reducible refine Kd.C_drew ?_) | exact HR231_0.out)⟩,⟨by repeat (first | (with_reducible first | exact HB.out | apply below_alloc | apply pw_below_drewN | apply below_drew1 | refine below_set ?_ GE222.out | refine below_set ?_ GE230.out) | exact HB.out)⟩⟩
          ·rw [if_neg c26] at H
           exact absurd H (by simp)
         ·rw [if_neg c25] at H
          exact absurd H (by simp)
        ·rw [if_neg c23] at H
         have c23b0 : decide (0 < ((rd_L3 t225 x4_1).length : Int)) = false := decide_eq_false c23
         have c23b1 : decide (0 < (rd_L3 t225 x4_1).length) = false := decide_eq_false (by omega)
         clear c23
         have H' := Aside0.mk H
         clear H
         have hnb30 := NB222_230.out
         have hnc30 := NB230_222.out
         have hcz31_0 : wr.cell? ⟨gb222,0,none⟩ = some (.string a0_0) := (blk_cell BK222.out 0).trans rfl
         have hcz31_1 : wr.cell? ⟨gb222,1,none⟩ = some (.string a0_1) := (blk_cell BK222.out 1).trans rfl
         have hcz31_2 : wr.cell? ⟨gb222,2,none⟩ = some (.int .i64 a0_2) := (blk_cell BK222.out 2).trans rfl
         have hcz31_3 : wr.cell? ⟨gb222,3,none⟩ = some (.int .i64 a0_3) := (blk_cell BK222.out 3).trans rfl
         have hfz31_0 := blk_frozen BK222.out 0
         have hfz31_1 := blk_frozen BK222.out 1
         have hfz31_2 := blk_frozen BK222.out 2
         have hfz31_3 := blk_frozen BK222.out 3
         go_wp2_with (first | ((with_reducible refine gate_callee (f := 17) rfl ?_);refine goesL_ (some 37) rfl rfl Tryd.func17 (by kernel_rfl) rfl #[.int .i64 a0_3] rfl au1 ?_;(with_reducible refine (bodkinlaw20_width.calls a0_3 t232 _ A18.out).mono ?_);rintro e w32 ⟨rfl,hb⟩;refine ⟨_,rfl,?_⟩;have n0_ := Aside0.mk (Kd.S_below au14 hb);have n1_ := Aside0.mk (Kd.R_below (by (with_reducible repeat (first | apply Kd.R_alloc | apply Kd.R_drewN | apply Kd.R_drew));exact HL231_0.out) hb);have n2_ := Aside0.mk (blk_below (g := gb222) (o := .cells #[.string a0_0,.string a0_1,.int .i64 a0_2,.int .i64 a0_3] 23 (0,0)) au6 hb);have n3_ := Aside0.mk (blk_below (g := gb230) (o := .cells #[.int .i64 t224,.slice (some ad231) t225.length co12,.int .i64 t228,.int .i64 t229] 29 (0,0)) au9 hb);have n4_ := Aside0.mk (Kd.C_below au4 hb);have n5_ := Aside0.mk (below_step au10 hb);clear HO_231001;clear HL231_0;clear BK222;clear BK230;clear HR231_0;clear HB;have HO_231001 := n0_;have HL231_0 := n1_;have BK222 := n2_;have BK230 := n3_;have HR231_0 := n4_;have HB := n5_;clear n0_ n1_ n2_ n3_ n4_ n5_;(try clear hb);(try clear hb2);(try clear hk);(try clear hi)))
         go_meet
         case rel => exact ⟨_,(false),au15,H',⟨by have := HK1.out;first | omega | exact Nat.le_refl _⟩,⟨by (with_reducible repeat (first | apply Kd.S_alloc | apply Kd.S_drewN | apply Kd.S_drew));exact HO_231001.out⟩,⟨by (with_reducible repeat (first | refine blk_drewN ?_ _ | refine blk_drew ?_ | refine blk_alloc ?_ _));exact BK222.out⟩,⟨by (with_reducible repeat (first | refine blk_drewN ?_ _ | refine blk_drew ?_ | refine blk_alloc ?_ _));exact BK230.out⟩,⟨by repeat (first | (with_reducible exact HR231_0.out) | (with_reducible refine Kd.C_alloc ?_ _) | (with_reducible refine Kd.C_drewN ?_ _) | (with_reducible refine Kd.C_drew ?_) | exact HR231_0.out)⟩,⟨by repeat (first | (with_reducible first | exact HB.out | apply below_alloc | apply pw_below_drewN | apply below_drew1 | refine below_set ?_ GE222.out | refine below_set ?_ GE230.out) | exact HB.out)⟩⟩
      case rest => as_aux_lemma =>
       clear HC15
       try clear c1
       try clear c2
       try clear p2
       try clear q2
       try clear hx2
       try clear c3
       try clear p6
       try clear c8
       try clear c10
       try clear c12
       try clear c13
       try clear c13b0
       try clear c14
       try clear c14b0
       try clear c16
       try clear c17
       try clear c19
       try clear c19b0
       try clear c20
       try clear c23
       try clear c23b0
       try clear c23b1
       try clear p23
       try clear q23
       try clear hx23
       try clear c25
       try clear c25b0
       try clear c26
       try clear c26b0
       try clear c27
       try clear c30
       try clear hcz11_0
       try clear hcz11_1
       try clear hcz11_2
       try clear hcz11_3
       try clear hcz17_0
       try clear hcz17_1
       try clear hcz17_2
       try clear hcz17_3
       try clear hcz21_0
       try clear hcz21_1
       try clear hcz21_2
       try clear hcz21_3
       try clear hcz28_0
       try clear hcz28_1
       try clear hcz28_2
       try clear hcz28_3
       try clear hcz31_0
       try clear hcz31_1
       try clear hcz31_2
       try clear hcz31_3
       try clear hcz7_0
       try clear hcz7_1
       try clear hcz7_2
       try clear hcz7_3
       try clear hfz11_0
       try clear hfz11_1
       try clear hfz11_2
       try clear hfz11_3
       try clear hfz17_0
       try clear hfz17_1
       try clear hfz17_2
       try clear hfz17_3
       try clear hfz21_0
       try clear hfz21_1
       try clear hfz21_2
       try clear hfz21_3
       try clear hfz28_0
       try clear hfz28_1
       try clear hfz28_2
       try clear hfz28_3
       try clear hfz31_0
       try clear hfz31_1
       try clear hfz31_2
       try clear hfz31_3
       try clear hfz7_0
       try clear hfz7_1
       try clear hfz7_2
       try clear hfz7_3
       try clear hx231_0
       try clear hx233_0
       try clear hx233_1
       try clear p2
       try clear p231
       try clear p233
       try clear q231
       try clear q233
       obtain ⟨kq,x51_14,rfl,HA,HJ14,HO_231001,BK222,BK230,HR231_0,HB⟩ := hcut
       cases kq with
       | zero => exact absurd HA.out (by simp [bodkinlaw20_LayoutFits.j1])
       | succ kj14 =>
        have H := HA.out
        clear HA
        simp only [bodkinlaw20_LayoutFits.j1] at H
        by_cases c33 : x51_14 = true
        ·subst c33
         have H1 : (some false) = some r := by rw [if_pos rfl] at H;exact H
         clear H
         have H := H1
         clear H1
         obtain rfl := Option.some.inj H
         cases hr_
        ·replace c33 := Bool.eq_false_iff.mpr c33
         subst c33
         have H1 : (bodkinlaw20_LayoutFits.l1 kj14 x4_1 (rd_L3 t225 x4_1) ((rd_L3 t225 x4_1).length : Int) 0 a0_0 a0_1 a0_2 a0_3 t224 t225 t228 t229) = some r := by rw [if_neg (show ¬ (false = true) by decide)] at H;exact H
         clear H
         have H := H1
         clear H1
         have H' := Aside0.mk H
         clear H
         go_wp2
         go_loopg [7] kj14 (fun kq v7 w' => ∃ (x7_3 : Int),v7 = .int .i64 x7_3 ∧ Aside0 (bodkinlaw20_LayoutFits.l1 kq x4_1 (rd_L3 t225 x4_1) ((rd_L3 t225 x4_1).length : Int) x7_3 a0_0 a0_1 a0_2 a0_3 t224 t225 t228 t229 = some r) ∧ Aside0 (kq ≤ kj14) ∧ Aside0 (Kd.S (Kd.slice 35 k35) 33 w' w.heap.size (fun _ => True) (.slice (some ad231) t225.length co12) t225) ∧ Aside0 (w'.heap[gb222]? = some (.cells #[.string a0_0,.string a0_1,.int .i64 a0_2,.int .i64 a0_3] 23 (0,0))) ∧ Aside0 (w'.heap[gb230]? = some (.cells #[.int .i64 t224,(.slice (some ad231) t225.length co12),.int .i64 t228,.int .i64 t229] 29 (0,0))) ∧ Aside0 (Kd.C k35 w' A231_0 (rd_L3 t225 x4_1).length (rd_L3 t225 x4_1)) ∧ Aside0 (Below w.heap.size w w'))
         case atStart => exact ⟨(0),au15,H',⟨Nat.le_refl _⟩,⟨by (with_reducible repeat (first | apply Kd.S_alloc | apply Kd.S_drewN | apply Kd.S_drew));exact HO_231001.out⟩,⟨by (with_reducible repeat (first | refine blk_drewN ?_ _ | refine blk_drew ?_ | refine blk_alloc ?_ _));exact BK222.out⟩,⟨by (with_reducible repeat (first | refine blk_drewN ?_ _ | refine blk_drew ?_ | refine blk_alloc ?_ _));exact BK230.out⟩,⟨by repeat (first | (with_reducible exact HR231_0.out) | (with_reducible refine Kd.C_alloc ?_ _) | (with_reducible refine Kd.C_drewN ?_ _) | (with_reducible refine Kd.C_drew ?_) | exact HR231_0.out)⟩,⟨by repeat (first | (with_reducible first | exact HB.out | apply below_alloc | apply pw_below_drewN | apply below_drew1 | refine below_set ?_ GE222.out | refine below_set ?_ GE230.out) | exact HB.out)⟩⟩
         case round => as_aux_lemma =>
          clear H'
          try clear c1
          try clear c2
          try clear p2
          try clear q2
          try clear hx2
          try clear c3
          try clear p6
          try clear c8
          try clear c10
          try clear c12
          try clear c13
          try clear c13b0
          try clear c14
          try clear c14b0
          try clear c16
          try clear c17
          try clear c19
          try clear c19b0
          try clear c20
          try clear c23
          try clear c23b0
          try clear c23b1
          try clear p23
          try clear q23
          try clear hx23
          try clear c25
          try clear c25b0
          try clear c26
          try clear c26b0
          try clear c27
          try clear c30
          try clear c33
          try clear hcz11_0
          try clear hcz11_1
          try clear hcz11_2
          try clear hcz11_3
          try clear hcz17_0
          try clear hcz17_1
          try clear hcz17_2
          try clear hcz17_3
          try clear hcz21_0
          try clear hcz21_1
          try clear hcz21_2
          try clear hcz21_3
          try clear hcz28_0
          try clear hcz28_1
          try clear hcz28_2
          try clear hcz28_3
          try clear hcz31_0
          try clear hcz31_1
          try clear hcz31_2
          try clear hcz31_3
          try clear hcz7_0
          try clear hcz7_1
          try clear hcz7_2
          try clear hcz7_3
          try clear hfz11_0
          try clear hfz11_1
          try clear hfz11_2
          try clear hfz11_3
          try clear hfz17_0
          try clear hfz17_1
          try clear hfz17_2
          try clear hfz17_3
          try clear hfz21_0
          try clear hfz21_1
          try clear hfz21_2
          try clear hfz21_3
          try clear hfz28_0
          try clear hfz28_1
          try clear hfz28_2
          try clear hfz28_3
          try clear hfz31_0
          try clear hfz31_1
          try clear hfz31_2
          try clear hfz31_3
          try clear hfz7_0
          try clear hfz7_1
          try clear hfz7_2
          try clear hfz7_3
          try clear hx231_0
          try clear hx233_0
          try clear hx233_1
          try clear p2
          try clear p23
          try clear p231
          try clear p233
          try clear p6
          try clear q2
          try clear q23
          try clear q231
          try clear q233
          obtain ⟨x7_3,rfl,HA,HK3,HO_231001,BK222,BK230,HR231_0,HB⟩ := hrel
          cases gk with
          | zero => exact absurd HA.out (by simp [bodkinlaw20_LayoutFits.l1])
          | succ k3 =>
           have H := HA.out
           clear HA
           simp only [bodkinlaw20_LayoutFits.l1] at H
           by_cases c34 : x7_3 < ((rd_L3 t225 x4_1).length : Int)
           ·rw [if_pos c34] at H
            have c34b0 : decide (x7_3 < ((rd_L3 t225 x4_1).length : Int)) = true := decide_eq_true c34
            clear c34
            by_cases c35 : 0 ≤ x7_3
            ·rw [if_pos c35] at H
             have c35b0 : decide (0 ≤ x7_3) = true := decide_eq_true c35
             clear c35
             by_cases c36 : x7_3 < ((rd_L3 t225 x4_1).length : Int)
             ·rw [if_pos c36] at H
              have c36b0 : decide (x7_3 < ((rd_L3 t225 x4_1).length : Int)) = true := decide_eq_true c36
              clear c36
              by_cases c37 : ((rd_T35 (rd_L3 t225 x4_1) x7_3).f1) = 0
              ·rw [if_pos c37] at H
               have c37b0 : (((rd_T35 (rd_L3 t225 x4_1) x7_3).f1) == 0) = true := beq_iff_eq.mpr c37
               have c37b1 : (((rd_T35 (rd_L3 t225 x4_1) x7_3).f1) != 0) = false := bne_eq_false_iff_eq.mpr c37
               clear c37
               by_cases c38 : ((rd_T35 (rd_L3 t225 x4_1) x7_3).f0).toList = ([] : List UInt8)
               ·rw [if_pos c38] at H
                have c38b0 : (((rd_T35 (rd_L3 t225 x4_1) x7_3).f0).toList == ([] : List UInt8)) = true := beq_iff_eq.mpr c38
                have c38b1 : (((rd_T35 (rd_L3 t225 x4_1) x7_3).f0).toList != ([] : List UInt8)) = false := bne_eq_false_iff_eq.mpr c38
                clear c38
                by_cases c39 : x7_3 = 0
                ·rw [if_pos c39] at H
                 have c39b0 : (x7_3 == 0) = true := beq_iff_eq.mpr c39
                 have c39b1 : (x7_3 != 0) = false := bne_eq_false_iff_eq.mpr c39
                 clear c39
                 obtain rfl := Option.some.inj H
                 cases hr_
                ·rw [if_neg c39] at H
                 have c39b0 : (x7_3 == 0) = false := beq_eq_false_iff_ne.mpr c39
                 have c39b1 : (x7_3 != 0) = true := bne_iff_ne.mpr c39
                 obtain ⟨ji44,hji44⟩ : ∃ j_ : Int,(wrap64 (x7_3 - 1)) = j_ := ⟨_,rfl⟩
                 replace H : (if 0 ≤ (ji44) then (if (ji44) < ((rd_L3 t225 x4_1).length : Int) then (if ((rd_T35 (rd_L3 t225 x4_1) (ji44)).f1) = 2 then (bodkinlaw20_LayoutFits.l1 k3 x4_1 (rd_L3 t225 x4_1) ((rd_L3 t225 x4_1).length : Int) (wrap64 (x7_3 + 1)) a0_0 a0_1 a0_2 a0_3 t224 t225 t228 t229) else (some false)) else (none)) else (none)) = some r := by first | (rw [hji44] at H;exact H) | (simp only [hji44] at H ⊢;exact H)
                 have hji44w : (IntKind.i64.wrap (x7_3 - 1)) = ji44 := (i64_w _).trans hji44
                 by_cases c45 : 0 ≤ (ji44)
                 ·rw [if_pos c45] at H
                  have c45b0 : decide (0 ≤ (ji44)) = true := decide_eq_true c45
                  clear c45
                  by_cases c46 : (ji44) < ((rd_L3 t225 x4_1).length : Int)
                  ·rw [if_pos c46] at H
                   have c46b0 : decide ((ji44) < ((rd_L3 t225 x4_1).length : Int)) = true := decide_eq_true c46
                   clear c46
                   by_cases c47 : ((rd_T35 (rd_L3 t225 x4_1) (ji44)).f1) = 2
                   ·rw [if_pos c47] at H
                    have c47b0 : (((rd_T35 (rd_L3 t225 x4_1) (ji44)).f1) == 2) = true := beq_iff_eq.mpr c47
                    have c47b1 : (((rd_T35 (rd_L3 t225 x4_1) (ji44)).f1) != 2) = false := bne_eq_false_iff_eq.mpr c47
                    clear c47
                    have H' := Aside0.mk H
                    clear H
                    have p234 : 0 ≤ (x7_3 : Int) := of_decide_eq_true au11
                    have q234 : x7_3 < ((rd_L3 t225 x4_1).length : Int) := of_decide_eq_true au11
                    obtain ⟨ad234,e234,hx234_0,hx234_1⟩ := at_T35 HR231_0.out x7_3 p234 q234
                    cases e234
                    replace p234 := eq_true p234
                    replace q234 := eq_true q234
                    go_wp2_with (first | ((with_reducible refine gate_dst (N := 8) rfl ?_);refine box_event ?hg (N := 8) ?hd (cs := #[.string (⟨#[]⟩ : ByteArray),.int .i64 0]) (t := 35) ?hr ?_;(case hd => rfl);(case hg => rfl);(case hr => first | (go_simp;done) | (go_simp;rfl));intro gb235 hg w48 hbox hb;have n0_ := Aside0.mk (Kd.S_below (Kd.S_elderB au14 gb235 (Nat.le_of_eq hg.symm)) hb);have n1_ := Aside0.mk (blk_below (g := gb222) (o := .cells #[.string a0_0,.string a0_1,.int .i64 a0_2,.int .i64 a0_3] 23 (0,0)) au6 hb);have n2_ := Aside0.mk (blk_below (g := gb230) (o := .cells #[.int .i64 t224,.slice (some ad231) t225.length co12,.int .i64 t228,.int .i64 t229] 29 (0,0)) au9 hb);have n3_ := Aside0.mk (Kd.C_below au4 hb);have SHR231_0 := Aside0.mk (fun (Y_ : World) (hY_ : Below gb235 w48 Y_) => Kd.C_below au4 (seen_trans hb hg hY_));have SN := Aside0.mk (show ad234.block ≠ gb235 by rw [hg];exact Nat.ne_of_lt (by have := World.block_lt_of_cell? _ _ hx234_0;first | rwa [add_block] at this | exact this));have n4_ := Aside0.mk (below_step au10 hb);have n5_ := Aside0.mk (hbox);have n6_ := Aside0.mk ((by rw [hg];exact (below_size au10) : w.heap.size ≤ gb235));have n7_ := Aside0.mk ((by rw [hg];exact (below_size au10) : w.heap.size ≤ gb235));have n8_ := Aside0.mk ((by rw [hg];exact Nat.ne_of_lt (blk_lt (g := gb222) (o := .cells #[.string a0_0,.string a0_1,.int .i64 a0_2,.int .i64 a0_3] 23 (0,0)) au6) : gb222 ≠ gb235));have n9_ := Aside0.mk ((by rw [hg];exact Nat.ne_of_gt (blk_lt (g := gb222) (o := .cells #[.string a0_0,.string a0_1,.int .i64 a0_2,.int .i64 a0_3] 23 (0,0)) au6) : gb235 ≠ gb222));have n10_ := Aside0.mk ((by rw [hg];exact Nat.ne_of_lt (blk_lt (g := gb230) (o := .cells #[.int .i64 t224,.slice (some ad231) t225.length co12,.int .i64 t228,.int .i64 t229] 29 (0,0)) au9) : gb230 ≠ gb235));have n11_ := Aside0.mk ((by rw [hg];exact Nat.ne_of_gt (blk_lt (g := gb230) (o := .cells #[.int .i64 t224,.slice (some ad231) t225.length co12,.int .i64 t228,.int .i64 t229] 29 (0,0)) au9) : gb235 ≠ gb230));clear HO_231001;clear BK222;clear BK230;clear HR231_0;clear HB;have HO_231001 := n0_;have BK222 := n1_;have BK230 := n2_;have HR231_0 := n3_;have HB := n4_;have BK235 := n5_;have GW235 := n6_;have GE235 := n7_;have NB222_235 := n8_;have NB235_222 := n9_;have NB230_235 := n10_;have NB235_230 := n11_;clear n0_ n1_ n2_ n3_ n4_ n5_ n6_ n7_ n8_ n9_ n10_ n11_;clear hb hbox hg;have hnb49 := NB235_222.out;have hnc49 := NB222_235.out;have hnb50 := NB235_230.out;have hnc50 := NB230_235.out;have hcz51_0 : w48.cell? ⟨gb235,0,none⟩ = some (.string (⟨#[]⟩ : ByteArray)) := (blk_cell BK235.out 0).trans rfl;have hcz51_1 : w48.cell? ⟨gb235,1,none⟩ = some (.int .i64 0) := (blk_cell BK235.out 1).trans rfl;have hfz51_0 := blk_frozen BK235.out 0;have hfz51_1 := blk_frozen BK235.out 1;have p236 : 0 ≤ ((ji44) : Int) := of_decide_eq_true au11;have q236 : (ji44) < ((rd_L3 t225 x4_1).length : Int) := of_decide_eq_true au11;obtain ⟨ad236,e236,hx236_0,hx236_1⟩ := at_T35 HR231_0.out (ji44) p236 q236;obtain rfl : ad234 = ad236 := (by injection e236);have hn236_0 : ad234.block ≠ gb235 := SN.out;have hn236_1 : ad234.block ≠ gb235 := SN.out;replace hx236_0 := (cell_far (p := ⟨gb235,0,none⟩) (by first | (rw [add_block];exact hn236_0) | (show (Addr.add _ _).block ≠ _;rw [add_block];exact hn236_0) | exact hn236_0) (.string ((rd_T35 (rd_L3 t225 x4_1) x7_3).f0))).trans hx236_0;replace hx236_1 := (cell_far (p := ⟨gb235,0,none⟩) (by first | (rw [add_block];exact hn236_0) | (show (Addr.add _ _).block ≠ _;rw [add_block];exact hn236_0) | exact hn236_0) (.string ((rd_T35 (rd_L3 t225 x4_1) x7_3).f0))).trans hx236_1;replace hx236_0 := (cell_far (p := ⟨gb235,1,none⟩) (by first | (rw [add_block];exact hn236_1) | (show (Addr.add _ _).block ≠ _;rw [add_block];exact hn236_1) | exact hn236_1) (.int .i64 ((rd_T35 (rd_L3 t225 x4_1) x7_3).f1))).trans hx236_0;replace hx236_1 := (cell_far (p := ⟨gb235,1,none⟩) (by first | (rw [add_block];exact hn236_1) | (show (Addr.add _ _).block ≠ _;rw [add_block];exact hn236_1) | exact hn236_1) (.int .i64 ((rd_T35 (rd_L3 t225 x4_1) x7_3).f1))).trans hx236_1;clear hn236_0;clear hn236_1;replace p236 := eq_true p236;replace q236 := eq_true q236))
                    go_roundg k3
                    case measure => have := HK1.out;have := HJ14.out;have := HK3.out;omega
                    case rel => exact ⟨(wrap64 (x7_3 + 1)),au15,H',⟨by have := HK1.out;have := HJ14.out;have := HK3.out;omega⟩,⟨by (with_reducible repeat (first | apply Kd.S_alloc | apply Kd.S_drewN | apply Kd.S_drew));exact Kd.S_mono (Kd.S_far (p := ⟨gb235,1,none⟩) (Kd.S_far (p := ⟨gb235,0,none⟩) (Kd.S_mono HO_231001.out (fun k_ hk => (⟨hk,hk.2⟩ : _ ∧ k_ ≠ gb235))) (fun _ hk => hk.2) (.string ((rd_T35 (rd_L3 t225 x4_1) x7_3).f0))) (fun _ hk => hk.2) (.int .i64 ((rd_T35 (rd_L3 t225 x4_1) x7_3).f1))) (fun _ hk => trivial)⟩,⟨by (with_reducible repeat (first | refine blk_drewN ?_ _ | refine blk_drew ?_ | refine blk_alloc ?_ _));refine blk_far ?_ NB222_235.out _;(with_reducible repeat (first | refine blk_drewN ?_ _ | refine blk_drew ?_ | refine blk_alloc ?_ _));refine blk_far ?_ NB222_235.out _;(with_reducible repeat (first | refine blk_drewN ?_ _ | refine blk_drew ?_ | refine blk_alloc ?_ _));exact BK222.out⟩,⟨by (with_reducible repeat (first | refine blk_drewN ?_ _ | refine blk_drew ?_ | refine blk_alloc ?_ _));refine blk_far ?_ NB230_235.out _;(with_reducible repeat (first | refine blk_drewN ?_ _ | refine blk_drew ?_ | refine blk_alloc ?_ _));refine blk_far ?_ NB230_235.out _;(with_reducible repeat (first | refine blk_drewN ?_ _ | refine blk_drew ?_ | refine blk_alloc ?_ _));exact BK230.out⟩,⟨(SHR231_0.out _ (by repeat (first | exact Below.refl _ _ | refine seen_set ?_ (Nat.le_refl _))))⟩,⟨by repeat (first | (with_reducible first | exact HB.out | apply below_alloc | apply pw_below_drewN | apply below_drew1 | refine below_set ?_ GE222.out | refine below_set ?_ GE230.out | refine below_set ?_ GE235.out) | exact HB.out)⟩⟩
                   ·rw [if_neg c47] at H
                    have c47b0 : (((rd_T35 (rd_L3 t225 x4_1) (ji44)).f1) == 2) = false := beq_eq_false_iff_ne.mpr c47
                    have c47b1 : (((rd_T35 (rd_L3 t225 x4_1) (ji44)).f1) != 2) = true := bne_iff_ne.mpr c47
                    obtain rfl := Option.some.inj H
                    cases hr_
                  ·rw [if_neg c46] at H
                   exact absurd H (by simp)
                 ·rw [if_neg c45] at H
                  exact absurd H (by simp)
               ·rw [if_neg c38] at H
                have c38b0 : (((rd_T35 (rd_L3 t225 x4_1) x7_3).f0).toList == ([] : List UInt8)) = false := beq_eq_false_iff_ne.mpr c38
                have c38b1 : (((rd_T35 (rd_L3 t225 x4_1) x7_3).f0).toList != ([] : List UInt8)) = true := bne_iff_ne.mpr c38
                obtain rfl := Option.some.inj H
                cases hr_
              ·rw [if_neg c37] at H
               have c37b0 : (((rd_T35 (rd_L3 t225 x4_1) x7_3).f1) == 0) = false := beq_eq_false_iff_ne.mpr c37
               have c37b1 : (((rd_T35 (rd_L3 t225 x4_1) x7_3).f1) != 0) = true := bne_iff_ne.mpr c37
               have HC60 := Aside0.mk H
               clear H
               have p234 : 0 ≤ (x7_3 : Int) := of_decide_eq_true au11
               have q234 : x7_3 < ((rd_L3 t225 x4_1).length : Int) := of_decide_eq_true au11
               obtain ⟨ad234,e234,hx234_0,hx234_1⟩ := at_T35 HR231_0.out x7_3 p234 q234
               cases e234
               replace p234 := eq_true p234
               replace q234 := eq_true q234
               go_upto_if 81 with (first | ((with_reducible refine gate_dst (N := 8) rfl ?_);refine box_event ?hg (N := 8) ?hd (cs := #[.string (⟨#[]⟩ : ByteArray),.int .i64 0]) (t := 35) ?hr ?_;(case hd => rfl);(case hg => rfl);(case hr => first | (go_simp;done) | (go_simp;rfl));intro gb235 hg w61 hbox hb;have n0_ := Aside0.mk (Kd.S_below (Kd.S_elderB au14 gb235 (Nat.le_of_eq hg.symm)) hb);have n1_ := Aside0.mk (blk_below (g := gb222) (o := .cells #[.string a0_0,.string a0_1,.int .i64 a0_2,.int .i64 a0_3] 23 (0,0)) au6 hb);have n2_ := Aside0.mk (blk_below (g := gb230) (o := .cells #[.int .i64 t224,.slice (some ad231) t225.length co12,.int .i64 t228,.int .i64 t229] 29 (0,0)) au9 hb);have n3_ := Aside0.mk (Kd.C_below au4 hb);have SHR231_0 := Aside0.mk (fun (Y_ : World) (hY_ : Below gb235 w61 Y_) => Kd.C_below au4 (seen_trans hb hg hY_));have SN := Aside0.mk (show ad234.block ≠ gb235 by rw [hg];exact Nat.ne_of_lt (by have := World.block_lt_of_cell? _ _ hx234_0;first | rwa [add_block] at this | exact this));have n4_ := Aside0.mk (below_step au10 hb);have n5_ := Aside0.mk (hbox);have n6_ := Aside0.mk ((by rw [hg];exact (below_size au10) : w.heap.size ≤ gb235));have n7_ := Aside0.mk ((by rw [hg];exact (below_size au10) : w.heap.size ≤ gb235));have n8_ := Aside0.mk ((by rw [hg];exact Nat.ne_of_lt (blk_lt (g := gb222) (o := .cells #[.string a0_0,.string a0_1,.int .i64 a0_2,.int .i64 a0_3] 23 (0,0)) au6) : gb222 ≠ gb235));have n9_ := Aside0.mk ((by rw [hg];exact Nat.ne_of_gt (blk_lt (g := gb222) (o := .cells #[.string a0_0,.string a0_1,.int .i64 a0_2,.int .i64 a0_3] 23 (0,0)) au6) : gb235 ≠ gb222));have n10_ := Aside0.mk ((by rw [hg];exact Nat.ne_of_lt (blk_lt (g := gb230) (o := .cells #[.int .i64 t224,.slice (some ad231) t225.length co12,.int .i64 t228,.int .i64 t229] 29 (0,0)) au9) : gb230 ≠ gb235));have n11_ := Aside0.mk ((by rw [hg];exact Nat.ne_of_gt (blk_lt (g := gb230) (o := .cells #[.int .i64 t224,.slice (some ad231) t225.length co12,.int .i64 t228,.int .i64 t229] 29 (0,0)) au9) : gb235 ≠ gb230));clear HO_231001;clear BK222;clear BK230;clear HR231_0;clear HB;have HO_231001 := n0_;have BK222 := n1_;have BK230 := n2_;have HR231_0 := n3_;have HB := n4_;have BK235 := n5_;have GW235 := n6_;have GE235 := n7_;have NB222_235 := n8_;have NB235_222 := n9_;have NB230_235 := n10_;have NB235_230 := n11_;clear n0_ n1_ n2_ n3_ n4_ n5_ n6_ n7_ n8_ n9_ n10_ n11_;clear hb hbox hg;have hnb62 := NB235_222.out;have hnc62 := NB222_235.out;have hnb63 := NB235_230.out;have hnc63 := NB230_235.out;have hcz64_0 : w61.cell? ⟨gb235,0,none⟩ = some (.string (⟨#[]⟩ : ByteArray)) := (blk_cell BK235.out 0).trans rfl;have hcz64_1 : w61.cell? ⟨gb235,1,none⟩ = some (.int .i64 0) := (blk_cell BK235.out 1).trans rfl;have hfz64_0 := blk_frozen BK235.out 0;have hfz64_1 := blk_frozen BK235.out 1))
               (try simp only [Act.put,List.setIfInBounds_toArray,List.set_cons_zero,List.set_cons_succ])
               go_cut [81] (fun v81 wc => ∃ (kq : Nat) (x81_59 : Bool),v81 = .bool x81_59 ∧ Aside0 (bodkinlaw20_LayoutFits.j3 kq x4_1 (rd_L3 t225 x4_1) ((rd_L3 t225 x4_1).length : Int) x7_3 x81_59 a0_0 a0_1 a0_2 a0_3 t224 t225 t228 t229 ((rd_T35 (rd_L3 t225 x4_1) x7_3).f0) ((rd_T35 (rd_L3 t225 x4_1) x7_3).f1) = some r) ∧ Aside0 (kq ≤ k3) ∧ Aside0 (Kd.S (Kd.slice 35 k35) 33 wc w.heap.size (fun k_ => k_ ≠ gb235) (.slice (some ad231) t225.length co12) t225) ∧ Aside0 (wc.heap[gb222]? = some (.cells #[.string a0_0,.string a0_1,.int .i64 a0_2,.int .i64 a0_3] 23 (0,0))) ∧ Aside0 (wc.heap[gb230]? = some (.cells #[.int .i64 t224,(.slice (some ad231) t225.length co12),.int .i64 t228,.int .i64 t229] 29 (0,0))) ∧ Aside0 (wc.heap[gb235]? = some (.cells #[.string ((rd_T35 (rd_L3 t225 x4_1) x7_3).f0),.int .i64 ((rd_T35 (rd_L3 t225 x4_1) x7_3).f1)] 35 (0,0))) ∧ Aside0 (Kd.C k35 wc (some ad234) (rd_L3 t225 x4_1).length (rd_L3 t225 x4_1)) ∧ Aside0 (Below w.heap.size w wc))
               case first => as_aux_lemma =>
                have H := HC60.out
                clear HC60
                by_cases c65 : ((rd_T35 (rd_L3 t225 x4_1) x7_3).f1) = 1
                ·rw [if_pos c65] at H
                 have c65b0 : (((rd_T35 (rd_L3 t225 x4_1) x7_3).f1) == 1) = true := beq_iff_eq.mpr c65
                 have c65b1 : (((rd_T35 (rd_L3 t225 x4_1) x7_3).f1) != 1) = false := bne_eq_false_iff_eq.mpr c65
                 clear c65
                 (first | rw [c65b0] | (simp only [i64_w,i32_w];rw [c65b0]) | skip)
                 have H' := Aside0.mk H
                 clear H
                 go_wp2
                 go_meet
                 case rel => exact ⟨_,((((rd_T35 (rd_L3 t225 x4_1) x7_3).f1) == 1)),au15,H',⟨by have := HK1.out;have := HJ14.out;have := HK3.out;first | omega | exact Nat.le_refl _⟩,⟨by (with_reducible repeat (first | apply Kd.S_alloc | apply Kd.S_drewN | apply Kd.S_drew));exact Kd.S_mono (Kd.S_far (p := ⟨gb235,1,none⟩) (Kd.S_far (p := ⟨gb235,0,none⟩) (Kd.S_mono HO_231001.out (fun k_ hk => (⟨hk,hk.2⟩ : _ ∧ k_ ≠ gb235))) (fun _ hk => hk.2) (.string ((rd_T35 (rd_L3 t225 x4_1) x7_3).f0))) (fun _ hk => hk.2) (.int .i64 ((rd_T35 (rd_L3 t225 x4_1) x7_3).f1))) (fun _ hk => hk.1.2)⟩,⟨by (with_reducible repeat (first | refine blk_drewN ?_ _ | refine blk_drew ?_ | refine blk_alloc ?_ _));refine blk_far ?_ NB222_235.out _;(with_reducible repeat (first | refine blk_drewN ?_ _ | refine blk_drew ?_ | refine blk_alloc ?_ _));refine blk_far ?_ NB222_235.out _;(with_reducible repeat (first | refine blk_drewN ?_ _ | refine blk_drew ?_ | refine blk_alloc ?_ _));exact BK222.out⟩,⟨by (with_reducible repeat (first | refine blk_drewN ?_ _ | refine blk_drew ?_ | refine blk_alloc ?_ _));refine blk_far ?_ NB230_235.out _;(with_reducible repeat (first | refine blk_drewN ?_ _ | refine blk_drew ?_ | refine blk_alloc ?_ _));refine blk_far ?_ NB230_235.out _;(with_reducible repeat (first | refine blk_drewN ?_ _ | refine blk_drew ?_ | refine blk_alloc ?_ _));exact BK230.out⟩,⟨by (with_reducible repeat (first | refine blk_drewN ?_ _ | refine blk_drew ?_ | refine blk_alloc ?_ _));refine blk_put (cs := #[.string ((rd_T35 (rd_L3 t225 x4_1) x7_3).f0),.int .i64 0]) ?_ 1 _ rfl;(with_reducible repeat (first | refine blk_drewN ?_ _ | refine blk_drew ?_ | refine blk_alloc ?_ _));refine blk_put (cs := #[.string (⟨#[]⟩ : ByteArray),.int .i64 0]) ?_ 0 _ rfl;(with_reducible repeat (first | refine blk_drewN ?_ _ | refine blk_drew ?_ | refine blk_alloc ?_ _));exact BK235.out⟩,⟨(SHR231_0.out _ (by repeat (first | exact Below.refl _ _ | refine seen_set ?_ (Nat.le_refl _))))⟩,⟨by repeat (first | (with_reducible first | exact HB.out | apply below_alloc | apply pw_below_drewN | apply below_drew1 | refine below_set ?_ GE222.out | refine below_set ?_ GE230.out | refine below_set ?_ GE235.out) | exact HB.out)⟩⟩
                ·rw [if_neg c65] at H
                 have c65b0 : (((rd_T35 (rd_L3 t225 x4_1) x7_3).f1) == 1) = false := beq_eq_false_iff_ne.mpr c65
                 have c65b1 : (((rd_T35 (rd_L3 t225 x4_1) x7_3).f1) != 1) = true := bne_iff_ne.mpr c65
                 (first | rw [c65b0] | (simp only [i64_w,i32_w];rw [c65b0]) | skip)
                 have H' := Aside0.mk H
                 clear H
                 go_wp2
                 go_meet
                 case rel => exact ⟨_,((((rd_T35 (rd_L3 t225 x4_1) x7_3).f1) == 2)),au15,H',⟨by have := HK1.out;have := HJ14.out;have := HK3.out;first | omega | exact Nat.le_refl _⟩,⟨by (with_reducible repeat (first | apply Kd.S_alloc | apply Kd.S_drewN | apply Kd.S_drew));exact Kd.S_mono (Kd.S_far (p := ⟨gb235,1,none⟩) (Kd.S_far (p := ⟨gb235,0,none⟩) (Kd.S_mono HO_231001.out (fun k_ hk => (⟨hk,hk.2⟩ : _ ∧ k_ ≠ gb235))) (fun _ hk => hk.2) (.string ((rd_T35 (rd_L3 t225 x4_1) x7_3).f0))) (fun _ hk => hk.2) (.int .i64 ((rd_T35 (rd_L3 t225 x4_1) x7_3).f1))) (fun _ hk => hk.1.2)⟩,⟨by (with_reducible repeat (first | refine blk_drewN ?_ _ | refine blk_drew ?_ | refine blk_alloc ?_ _));refine blk_far ?_ NB222_235.out _;(with_reducible repeat (first | refine blk_drewN ?_ _ | refine blk_drew ?_ | refine blk_alloc ?_ _));refine blk_far ?_ NB222_235.out _;(with_reducible repeat (first | refine blk_drewN ?_ _ | refine blk_drew ?_ | refine blk_alloc ?_ _));exact BK222.out⟩,⟨by (with_reducible repeat (first | refine blk_drewN ?_ _ | refine blk_drew ?_ | refine blk_alloc ?_ _));refine blk_far ?_ NB230_235.out _;(with_reducible repeat (first | refine blk_drewN ?_ _ | refine blk_drew ?_ | refine blk_alloc ?_ _));refine blk_far ?_ NB230_235.out _;(with_reducible repeat (first | refine blk_drewN ?_ _ | refine blk_drew ?_ | refine blk_alloc ?_ _));exact BK230.out⟩,⟨by (with_reducible repeat (first | refine blk_drewN ?_ _ | refine blk_drew ?_ | refine blk_alloc ?_ _));refine blk_put (cs := #[.string ((rd_T35 (rd_L3 t225 x4_1) x7_3).f0),.int .i64 0]) ?_ 1 _ rfl;(with_reducible repeat (first | refine blk_drewN ?_ _ | refine blk_drew ?_ | refine blk_alloc ?_ _));refine blk_put (cs := #[.string (⟨#[]⟩ : ByteArray),.int .i64 0]) ?_ 0 _ rfl;(with_reducible repeat (first | refine blk_drewN ?_ _ | refine blk_drew ?_ | refine blk_alloc ?_ _));exact BK235.out⟩,⟨(SHR231_0.out _ (by repeat (first | exact Below.refl _ _ | refine seen_set ?_ (Nat.le_refl _))))⟩,⟨by repeat (first | (with_reducible first | exact HB.out | apply below_alloc | apply pw_below_drewN | apply below_drew1 | refine below_set ?_ GE222.out | refine below_set ?_ GE230.out | refine below_set ?_ GE235.out) | exact HB.out)⟩⟩
               case rest => as_aux_lemma =>
                clear HC60
                try clear c1
                try clear c2
                try clear p2
                try clear q2
                try clear hx2
                try clear c3
                try clear c4
                try clear c5
                try clear c6
                try clear p6
                try clear c8
                try clear c10
                try clear c12
                try clear c13
                try clear c13b0
                try clear c14
                try clear c14b0
                try clear c16
                try clear c17
                try clear c19
                try clear c19b0
                try clear c20
                try clear c23
                try clear c23b0
                try clear c23b1
                try clear p23
                try clear q23
                try clear hx23
                try clear c25
                try clear c25b0
                try clear c26
                try clear c26b0
                try clear c27
                try clear c30
                try clear c33
                try clear c34
                try clear c34b0
                try clear c35
                try clear c35b0
                try clear c36
                try clear c36b0
                try clear c37
                try clear c37b0
                try clear c37b1
                try clear c38
                try clear c38b0
                try clear c38b1
                try clear c39
                try clear c39b0
                try clear c39b1
                try clear c41
                try clear c42
                try clear c45
                try clear c45b0
                try clear c46
                try clear c46b0
                try clear c47
                try clear c47b0
                try clear c47b1
                try clear c49
                try clear c50
                try clear c53
                try clear c54
                try clear c57
                try clear c58
                try clear c62
                try clear c63
                try clear p64
                try clear c65
                try clear c65b0
                try clear c65b1
                try clear hcz11_0
                try clear hcz11_1
                try clear hcz11_2
                try clear hcz11_3
                try clear hcz17_0
                try clear hcz17_1
                try clear hcz17_2
                try clear hcz17_3
                try clear hcz21_0
                try clear hcz21_1
                try clear hcz21_2
                try clear hcz21_3
                try clear hcz28_0
                try clear hcz28_1
                try clear hcz28_2
                try clear hcz28_3
                try clear hcz31_0
                try clear hcz31_1
                try clear hcz31_2
                try clear hcz31_3
                try clear hcz43_0
                try clear hcz43_1
                try clear hcz51_0
                try clear hcz51_1
                try clear hcz55_0
                try clear hcz55_1
                try clear hcz59_0
                try clear hcz59_1
                try clear hcz64_0
                try clear hcz64_1
                try clear hcz7_0
                try clear hcz7_1
                try clear hcz7_2
                try clear hcz7_3
                try clear hfz11_0
                try clear hfz11_1
                try clear hfz11_2
                try clear hfz11_3
                try clear hfz17_0
                try clear hfz17_1
                try clear hfz17_2
                try clear hfz17_3
                try clear hfz21_0
                try clear hfz21_1
                try clear hfz21_2
                try clear hfz21_3
                try clear hfz28_0
                try clear hfz28_1
                try clear hfz28_2
                try clear hfz28_3
                try clear hfz31_0
                try clear hfz31_1
                try clear hfz31_2
                try clear hfz31_3
                try clear hfz43_0
                try clear hfz43_1
                try clear hfz51_0
                try clear hfz51_1
                try clear hfz55_0
                try clear hfz55_1
                try clear hfz59_0
                try clear hfz59_1
                try clear hfz64_0
                try clear hfz64_1
                try clear hfz7_0
                try clear hfz7_1
                try clear hfz7_2
                try clear hfz7_3
                try clear hx231_0
                try clear hx233_0
                try clear hx233_1
                try clear hx234_0
                try clear hx234_1
                try clear hx236_0
                try clear hx236_1
                try clear p2
                try clear p23
                try clear p231
                try clear p233
                try clear p234
                try clear p236
                try clear p6
                try clear q2
                try clear q23
                try clear q231
                try clear q233
                try clear q234
                try clear q236
                obtain ⟨kq,x81_59,rfl,HA,HJ59,HO_231001,BK222,BK230,BK235,HR231_0,HB⟩ := hcut
                cases kq with
                | zero => exact absurd HA.out (by simp [bodkinlaw20_LayoutFits.j3])
                | succ kj59 =>
                 have H := HA.out
                 clear HA
                 simp only [bodkinlaw20_LayoutFits.j3] at H
                 by_cases c66 : x81_59 = true
                 ·subst c66
                  have H1 : ((cluster_Count.f ((rd_T35 (rd_L3 t225 x4_1) x7_3).f0)).bind fun t237 => (if t237 = 1 then ((cluster_Cells.f ((rd_T35 (rd_L3 t225 x4_1) x7_3).f0)).bind fun t238 => (if t238 = ((rd_T35 (rd_L3 t225 x4_1) x7_3).f1) then ((cluster_Drawn.f ((rd_T35 (rd_L3 t225 x4_1) x7_3).f0)).bind fun t239 => (if t239.toList = ((rd_T35 (rd_L3 t225 x4_1) x7_3).f0).toList then (if ((rd_T35 (rd_L3 t225 x4_1) x7_3).f1) = 2 then (if (wrap64 (x7_3 + 1)) = ((rd_L3 t225 x4_1).length : Int) then (some false) else (if 0 ≤ (wrap64 (x7_3 + 1)) then (if (wrap64 (x7_3 + 1)) < ((rd_L3 t225 x4_1).length : Int) then (if ((rd_T35 (rd_L3 t225 x4_1) (wrap64 (x7_3 + 1))).f1) = 0 then (bodkinlaw20_LayoutFits.l1 kj59 x4_1 (rd_L3 t225 x4_1) ((rd_L3 t225 x4_1).length : Int) (wrap64 (x7_3 + 1)) a0_0 a0_1 a0_2 a0_3 t224 t225 t228 t229) else (some false)) else (none)) else (none))) else (bodkinlaw20_LayoutFits.l1 kj59 x4_1 (rd_L3 t225 x4_1) ((rd_L3 t225 x4_1).length : Int) (wrap64 (x7_3 + 1)) a0_0 a0_1 a0_2 a0_3 t224 t225 t228 t229)) else (some false))) else (some false))) else (some false))) = some r := by rw [if_pos rfl] at H;exact H
                  clear H
                  have H := H1
                  clear H1
                  replace H := Option.bind_eq_some_iff.mp H
                  obtain ⟨t237,A670,H⟩ := H
                  replace H : (if t237 = 1 then ((cluster_Cells.f ((rd_T35 (rd_L3 t225 x4_1) x7_3).f0)).bind fun t238 => (if t238 = ((rd_T35 (rd_L3 t225 x4_1) x7_3).f1) then ((cluster_Drawn.f ((rd_T35 (rd_L3 t225 x4_1) x7_3).f0)).bind fun t239 => (if t239.toList = ((rd_T35 (rd_L3 t225 x4_1) x7_3).f0).toList then (if ((rd_T35 (rd_L3 t225 x4_1) x7_3).f1) = 2 then (if (wrap64 (x7_3 + 1)) = ((rd_L3 t225 x4_1).length : Int) then (some false) else (if 0 ≤ (wrap64 (x7_3 + 1)) then (if (wrap64 (x7_3 + 1)) < ((rd_L3 t225 x4_1).length : Int) then (if ((rd_T35 (rd_L3 t225 x4_1) (wrap64 (x7_3 + 1))).f1) = 0 then (bodkinlaw20_LayoutFits.l1 kj59 x4_1 (rd_L3 t225 x4_1) ((rd_L3 t225 x4_1).length : Int) (wrap64 (x7_3 + 1)) a0_0 a0_1 a0_2 a0_3 t224 t225 t228 t229) else (some false)) else (none)) else (none))) else (bodkinlaw20_LayoutFits.l1 kj59 x4_1 (rd_L3 t225 x4_1) ((rd_L3 t225 x4_1).length : Int) (wrap64 (x7_3 + 1)) a0_0 a0_1 a0_2 a0_3 t224 t225 t228 t229)) else (some false))) else (some false))) else (some false)) = some r := H
                  have A67 := Aside0.mk A670
                  clear A670
                  by_cases c68 : t237 = 1
                  ·rw [if_pos c68] at H
                   have c68b0 : (t237 == 1) = true := beq_iff_eq.mpr c68
                   have c68b1 : (t237 != 1) = false := bne_eq_false_iff_eq.mpr c68
                   clear c68
                   replace H := Option.bind_eq_some_iff.mp H
                   obtain ⟨t238,A690,H⟩ := H
                   replace H : (if t238 = ((rd_T35 (rd_L3 t225 x4_1) x7_3).f1) then ((cluster_Drawn.f ((rd_T35 (rd_L3 t225 x4_1) x7_3).f0)).bind fun t239 => (if t239.toList = ((rd_T35 (rd_L3 t225 x4_1) x7_3).f0).toList then (if ((rd_T35 (rd_L3 t225 x4_1) x7_3).f1) = 2 then (if (wrap64 (x7_3 + 1)) = ((rd_L3 t225 x4_1).length : Int) then (some false) else (if 0 ≤ (wrap64 (x7_3 + 1)) then (if (wrap64 (x7_3 + 1)) < ((rd_L3 t225 x4_1).length : Int) then (if ((rd_T35 (rd_L3 t225 x4_1) (wrap64 (x7_3 + 1))).f1) = 0 then (bodkinlaw20_LayoutFits.l1 kj59 x4_1 (rd_L3 t225 x4_1) ((rd_L3 t225 x4_1).length : Int) (wrap64 (x7_3 + 1)) a0_0 a0_1 a0_2 a0_3 t224 t225 t228 t229) else (some false)) else (none)) else (none))) else (bodkinlaw20_LayoutFits.l1 kj59 x4_1 (rd_L3 t225 x4_1) ((rd_L3 t225 x4_1).length : Int) (wrap64 (x7_3 + 1)) a0_0 a0_1 a0_2 a0_3 t224 t225 t228 t229)) else (some false))) else (some false)) = some r := H
                   have A69 := Aside0.mk A690
                   clear A690
                   by_cases c70 : t238 = ((rd_T35 (rd_L3 t225 x4_1) x7_3).f1)
                   ·rw [if_pos c70] at H
                    have c70b0 : (t238 == ((rd_T35 (rd_L3 t225 x4_1) x7_3).f1)) = true := beq_iff_eq.mpr c70
                    have c70b1 : (t238 != ((rd_T35 (rd_L3 t225 x4_1) x7_3).f1)) = false := bne_eq_false_iff_eq.mpr c70
                    clear c70
                    replace H := Option.bind_eq_some_iff.mp H
                    obtain ⟨t239,A710,H⟩ := H
                    replace H : (if t239.toList = ((rd_T35 (rd_L3 t225 x4_1) x7_3).f0).toList then (if ((rd_T35 (rd_L3 t225 x4_1) x7_3).f1) = 2 then (if (wrap64 (x7_3 + 1)) = ((rd_L3 t225 x4_1).length : Int) then (some false) else (if 0 ≤ (wrap64 (x7_3 + 1)) then (if (wrap64 (x7_3 + 1)) < ((rd_L3 t225 x4_1).length : Int) then (if ((rd_T35 (rd_L3 t225 x4_1) (wrap64 (x7_3 + 1))).f1) = 0 then (bodkinlaw20_LayoutFits.l1 kj59 x4_1 (rd_L3 t225 x4_1) ((rd_L3 t225 x4_1).length : Int) (wrap64 (x7_3 + 1)) a0_0 a0_1 a0_2 a0_3 t224 t225 t228 t229) else (some false)) else (none)) else (none))) else (bodkinlaw20_LayoutFits.l1 kj59 x4_1 (rd_L3 t225 x4_1) ((rd_L3 t225 x4_1).length : Int) (wrap64 (x7_3 + 1)) a0_0 a0_1 a0_2 a0_3 t224 t225 t228 t229)) else (some false)) = some r := H
                    have A71 := Aside0.mk A710
                    clear A710
                    by_cases c72 : t239.toList = ((rd_T35 (rd_L3 t225 x4_1) x7_3).f0).toList
                    ·rw [if_pos c72] at H
                     have c72b0 : (t239.toList == ((rd_T35 (rd_L3 t225 x4_1) x7_3).f0).toList) = true := beq_iff_eq.mpr c72
                     have c72b1 : (t239.toList != ((rd_T35 (rd_L3 t225 x4_1) x7_3).f0).toList) = false := bne_eq_false_iff_eq.mpr c72
                     clear c72
                     by_cases c73 : ((rd_T35 (rd_L3 t225 x4_1) x7_3).f1) = 2
                     ·rw [if_pos c73] at H
                      have c73b0 : (((rd_T35 (rd_L3 t225 x4_1) x7_3).f1) == 2) = true := beq_iff_eq.mpr c73
                      have c73b1 : (((rd_T35 (rd_L3 t225 x4_1) x7_3).f1) != 2) = false := bne_eq_false_iff_eq.mpr c73
                      clear c73
                      by_cases c74 : (wrap64 (x7_3 + 1)) = ((rd_L3 t225 x4_1).length : Int)
                      ·rw [if_pos c74] at H
                       have c74b0 : ((wrap64 (x7_3 + 1)) == ((rd_L3 t225 x4_1).length : Int)) = true := beq_iff_eq.mpr c74
                       have c74b1 : ((wrap64 (x7_3 + 1)) != ((rd_L3 t225 x4_1).length : Int)) = false := bne_eq_false_iff_eq.mpr c74
                       clear c74
                       obtain rfl := Option.some.inj H
                       cases hr_
                      ·rw [if_neg c74] at H
                       have c74b0 : ((wrap64 (x7_3 + 1)) == ((rd_L3 t225 x4_1).length : Int)) = false := beq_eq_false_iff_ne.mpr c74
                       have c74b1 : ((wrap64 (x7_3 + 1)) != ((rd_L3 t225 x4_1).length : Int)) = true := bne_iff_ne.mpr c74
                       obtain ⟨ji79,hji79⟩ : ∃ j_ : Int,(wrap64 (x7_3 + 1)) = j_ := ⟨_,rfl⟩
                       replace H : (if 0 ≤ (ji79) then (if (ji79) < ((rd_L3 t225 x4_1).length : Int) then (if ((rd_T35 (rd_L3 t225 x4_1) (ji79)).f1) = 0 then (bodkinlaw20_LayoutFits.l1 kj59 x4_1 (rd_L3 t225 x4_1) ((rd_L3 t225 x4_1).length : Int) ji79 a0_0 a0_1 a0_2 a0_3 t224 t225 t228 t229) else (some false)) else (none)) else (none)) = some r := by first | (rw [hji79] at H;exact H) | (simp only [hji79] at H ⊢;exact H)
                       (try rw [hji79] at c74b0)
                       (try rw [hji79] at c74b1)
                       (try rw [hji79] at A67)
                       (try rw [hji79] at A69)
                       (try rw [hji79] at A71)
                       have hji79w : (IntKind.i64.wrap (x7_3 + 1)) = ji79 := (i64_w _).trans hji79
                       by_cases c80 : 0 ≤ (ji79)
                       ·rw [if_pos c80] at H
                        have c80b0 : decide (0 ≤ (ji79)) = true := decide_eq_true c80
                        clear c80
                        by_cases c81 : (ji79) < ((rd_L3 t225 x4_1).length : Int)
                        ·rw [if_pos c81] at H
                         have c81b0 : decide ((ji79) < ((rd_L3 t225 x4_1).length : Int)) = true := decide_eq_true c81
                         clear c81
                         by_cases c82 : ((rd_T35 (rd_L3 t225 x4_1) (ji79)).f1) = 0
                         ·rw [if_pos c82] at H
                          have c82b0 : (((rd_T35 (rd_L3 t225 x4_1) (ji79)).f1) == 0) = true := beq_iff_eq.mpr c82
                          have c82b1 : (((rd_T35 (rd_L3 t225 x4_1) (ji79)).f1) != 0) = false := bne_eq_false_iff_eq.mpr c82
                          clear c82
                          have H' := Aside0.mk H
                          clear H
                          try go_wp2
                          have n0_ := Aside0.mk (Kd.S_drew HO_231001.out)
                          have n1_ := Aside0.mk (blk_drew BK222.out)
                          have n2_ := Aside0.mk (blk_drew BK230.out)
                          have n3_ := Aside0.mk (blk_drew BK235.out)
                          have n4_ := Aside0.mk (Kd.C_drew HR231_0.out)
                          have n5_ := Aside0.mk (below_drew1 HB.out)
                          clear HO_231001
                          clear BK222
                          clear BK230
                          clear BK235
                          clear HR231_0
                          clear HB
                          have HO_231001 := n0_
                          have BK222 := n1_
                          have BK230 := n2_
                          have BK235 := n3_
                          have HR231_0 := n4_
                          have HB := n5_
                          clear n0_ n1_ n2_ n3_ n4_ n5_
                          have p240 : 0 ≤ ((ji79) : Int) := of_decide_eq_true au11
                          have q240 : (ji79) < ((rd_L3 t225 x4_1).length : Int) := of_decide_eq_true au11
                          obtain ⟨ad240,e240,hx240_0,hx240_1⟩ := at_T35 HR231_0.out (ji79) p240 q240
                          have hw240_1 := hx240_1
                          have hw240_0 := hx240_0
                          obtain rfl : ad234 = ad240 := (by injection e240)
                          replace p240 := eq_true p240
                          replace q240 := eq_true q240
                          refine start_ (n := 40) (S := fun w' => w'.cell? ⟨gb235,0,none⟩ = some (.string ((rd_T35 (rd_L3 t225 x4_1) x7_3).f0)) ∧ w'.cell? ⟨gb235,1,none⟩ = some (.int .i64 ((rd_T35 (rd_L3 t225 x4_1) x7_3).f1)) ∧ w'.cell? (ad234.add (((ji79)).toNat * 2)) = some (.string ((rd_T35 (rd_L3 t225 x4_1) (ji79)).f0)) ∧ w'.cell? ⟨(ad234.add (((ji79)).toNat * 2)).block,(ad234.add (((ji79)).toNat * 2)).off + 1,none⟩ = some (.int .i64 ((rd_T35 (rd_L3 t225 x4_1) (ji79)).f1))) (ds := []) #[false,false,false,false,false,false,false,false,false,false,false,false,false,false,false,false,false,false,false,false,false,false,false,false,false,false,false,false,false,false,false,false,false,false,false,false,false,false,false,false] (by kernel_rfl) rfl rfl ⟨(blk_cell BK235.out 0).trans rfl,(blk_cell BK235.out 1).trans rfl,hw240_0,hw240_1⟩ (fun hHeld => ?_);refine with_tabW bodkinlaw20_LayoutFits.tab22 bodkinlaw20_LayoutFits.bits22 (fun HT_ HW_ => ?_)
                          generalize wc.drew = w83 at HO_231001 BK222 BK230 BK235 HR231_0 HB hx240_0 hx240_1 hHeld ⊢
                          refine pure_ (i := 0) (N := some 84) (v := ?_) (a' := ?_) #[true,false,false,false,false,false,false,false,false,false,false,false,false,false,false,false,false,false,false,false,false,false,false,false,false,false,false,false,false,false,false,false,false,false,false,false,false,false,false,false] rfl rfl (any_of HT_.out (by kernel_rfl)) (fun _ _ _ h => h) (Or.inl ⟨by rfl,?_⟩) ?_ ?_
                          rotate_left
                          ·intro w'
                           go_simp
                           with_reducible rfl
                          rotate_left
                          ·simp only [Act.put,List.setIfInBounds_toArray,List.set_cons_zero,List.set_cons_succ,i64_w,i32_w]
                           rfl
                          refine take_ (i := 1) (N := some 85) (v := ?_) (a' := ?_) #[true,true,false,false,false,false,false,false,false,false,false,false,false,false,false,false,false,false,false,false,false,false,false,false,false,false,false,false,false,false,false,false,false,false,false,false,false,false,false,false] rfl rfl (take_ofW HT_.out HW_.out (by kernel_rfl)) (fun _ _ _ h => h) (Or.inl ⟨by rfl,?_⟩) hHeld ?_ ?_
                          rotate_left
                          ·rintro w' ⟨s0,s1,s2,s3⟩
                           go_simp
                           with_reducible rfl
                          rotate_left
                          ·simp only [Act.put,List.setIfInBounds_toArray,List.set_cons_zero,List.set_cons_succ,i64_w,i32_w]
                           rfl
                          refine one_ (i := 2) (N := some 86) #[true,true,true,false,false,false,false,false,false,false,false,false,false,false,false,false,false,false,false,false,false,false,false,false,false,false,false,false,false,false,false,false,false,false,false,false,false,false,false,false] rfl rfl (one_of HT_.out (by kernel_rfl)) (by decide) (fun K hK => ?_)
                          refine goes_ Tryd.func28 (by kernel_rfl) rfl #[.string ((rd_T35 (rd_L3 t225 x4_1) x7_3).f0)] (by rfl) rfl rfl au1 ?_
                          with_reducible refine (cluster_Count.calls ((rd_T35 (rd_L3 t225 x4_1) x7_3).f0) t237 _ ?side1 A67.out).mono ?_
                          (case side1 => exact tabs_below HT.out au3)
                          rintro e w84 ⟨rfl,hb⟩
                          refine ⟨_,rfl,?_⟩
                          have n0_ := Aside0.mk (Kd.S_below au14 hb)
                          have n1_ := Aside0.mk (blk_below (g := gb222) (o := .cells #[.string a0_0,.string a0_1,.int .i64 a0_2,.int .i64 a0_3] 23 (0,0)) au6 hb)
                          have n2_ := Aside0.mk (blk_below (g := gb230) (o := .cells #[.int .i64 t224,.slice (some ad231) t225.length co12,.int .i64 t228,.int .i64 t229] 29 (0,0)) au9 hb)
                          have n3_ := Aside0.mk (blk_below (g := gb235) (o := .cells #[.string ((rd_T35 (rd_L3 t225 x4_1) x7_3).f0),.int .i64 ((rd_T35 (rd_L3 t225 x4_1) x7_3).f1)] 35 (0,0)) au24 hb)
                          have n4_ := Aside0.mk (Kd.C_below au4 hb)
                          have n5_ := Aside0.mk (below_step au3 hb)
                          clear HO_231001
                          clear BK222
                          clear BK230
                          clear BK235
                          clear HR231_0
                          clear HB
                          have HO_231001 := n0_
                          have BK222 := n1_
                          have BK230 := n2_
                          have BK235 := n3_
                          have HR231_0 := n4_
                          have HB := n5_
                          clear n0_ n1_ n2_ n3_ n4_ n5_
                          (try clear hb)
                          (try clear hb2)
                          (try clear hk)
                          (try clear hi)
                          refine hK.out _ _ ⟨(blk_cell BK235.out 0).trans rfl,(blk_cell BK235.out 1).trans rfl,(by obtain ⟨ad_,e_,h0_,h1_⟩ := at_T35 HR231_0.out (ji79) (of_eq_true p240) (of_eq_true q240);obtain rfl : ad234 = ad_ := (by injection e_);exact h0_),(by obtain ⟨ad_,e_,h0_,h1_⟩ := at_T35 HR231_0.out (ji79) (of_eq_true p240) (of_eq_true q240);obtain rfl : ad234 = ad_ := (by injection e_);exact h1_)⟩ (fun hHeld => ?_)
                          clear hK K
                          refine norm_ (a' := ?_) ?_ ?_
                          rotate_left
                          ·show Act.put _ (some 86) _ = _
                           simp only [Act.put,List.setIfInBounds_toArray,List.set_cons_zero,List.set_cons_succ,i64_w,i32_w]
                           rfl
                          refine pure_ (i := 3) (N := some 87) (v := ?_) (a' := ?_) #[true,true,true,true,false,false,false,false,false,false,false,false,false,false,false,false,false,false,false,false,false,false,false,false,false,false,false,false,false,false,false,false,false,false,false,false,false,false,false,false] rfl rfl (any_of HT_.out (by kernel_rfl)) (fun _ _ _ h => h) (Or.inl ⟨by rfl,?_⟩) ?_ ?_
                          rotate_left
                          ·intro w'
                           go_simp
                           with_reducible rfl
                          rotate_left
                          ·simp only [Act.put,List.setIfInBounds_toArray,List.set_cons_zero,List.set_cons_succ,i64_w,i32_w]
                           rfl
                          refine pure_ (i := 4) (N := some 88) (v := ?_) (a' := ?_) #[true,true,true,true,true,false,false,false,false,false,false,false,false,false,false,false,false,false,false,false,false,false,false,false,false,false,false,false,false,false,false,false,false,false,false,false,false,false,false,false] rfl rfl (any_of HT_.out (by kernel_rfl)) (fun _ _ _ h => h) (Or.inl ⟨by rfl,?_⟩) ?_ ?_
                          rotate_left
                          ·intro w'
                           go_simp
                           with_reducible rfl
                          rotate_left
                          ·simp only [Act.put,List.setIfInBounds_toArray,List.set_cons_zero,List.set_cons_succ,i64_w,i32_w]
                           rfl
                          refine pure_ (i := 5) (N := some 89) (v := ?_) (a' := ?_) #[true,true,true,true,true,true,false,false,false,false,false,false,false,false,false,false,false,false,false,false,false,false,false,false,false,false,false,false,false,false,false,false,false,false,false,false,false,false,false,false] rfl rfl (any_of HT_.out (by kernel_rfl)) (fun _ _ _ h => h) (Or.inl ⟨by rfl,?_⟩) ?_ ?_
                          rotate_left
                          ·intro w'
                           go_simp
                           with_reducible rfl
                          rotate_left
                          ·simp only [Act.put,List.setIfInBounds_toArray,List.set_cons_zero,List.set_cons_succ,i64_w,i32_w]
                           rfl
                          refine pure_ (i := 8) (N := some 92) (v := ?_) (a' := ?_) #[true,true,true,true,true,true,false,false,true,false,false,false,false,false,false,false,false,false,false,false,false,false,false,false,false,false,false,false,false,false,false,false,false,false,false,false,false,false,false,false] rfl rfl (any_of HT_.out (by kernel_rfl)) (fun _ _ _ h => h) (Or.inl ⟨by rfl,?_⟩) ?_ ?_
                          rotate_left
                          ·intro w'
                           go_simp
                           with_reducible rfl
                          rotate_left
                          ·simp only [Act.put,List.setIfInBounds_toArray,List.set_cons_zero,List.set_cons_succ,i64_w,i32_w]
                           rfl
                          refine take_ (i := 6) (N := some 90) (v := ?_) (a' := ?_) #[true,true,true,true,true,true,true,false,true,false,false,false,false,false,false,false,false,false,false,false,false,false,false,false,false,false,false,false,false,false,false,false,false,false,false,false,false,false,false,false] rfl rfl (take_ofW HT_.out HW_.out (by kernel_rfl)) (fun _ _ _ h => h) (Or.inl ⟨by rfl,?_⟩) hHeld ?_ ?_
                          rotate_left
                          ·rintro w' ⟨s0,s1,s2,s3⟩
                           go_simp
                           with_reducible rfl
                          rotate_left
                          ·simp only [Act.put,List.setIfInBounds_toArray,List.set_cons_zero,List.set_cons_succ,i64_w,i32_w]
                           rfl
                          refine take_ (i := 9) (N := some 93) (v := ?_) (a' := ?_) #[true,true,true,true,true,true,true,false,true,true,false,false,false,false,false,false,false,false,false,false,false,false,false,false,false,false,false,false,false,false,false,false,false,false,false,false,false,false,false,false] rfl rfl (take_ofW HT_.out HW_.out (by kernel_rfl)) (fun _ _ _ h => h) (Or.inl ⟨by rfl,?_⟩) hHeld ?_ ?_
                          rotate_left
                          ·rintro w' ⟨s0,s1,s2,s3⟩
                           go_simp
                           with_reducible rfl
                          rotate_left
                          ·simp only [Act.put,List.setIfInBounds_toArray,List.set_cons_zero,List.set_cons_succ,i64_w,i32_w]
                           rfl
                          refine one_ (i := 7) (N := some 91) #[true,true,true,true,true,true,true,true,true,true,false,false,false,false,false,false,false,false,false,false,false,false,false,false,false,false,false,false,false,false,false,false,false,false,false,false,false,false,false,false] rfl rfl (one_of HT_.out (by kernel_rfl)) (by decide) (fun K hK => ?_)
                          refine goes_ Tryd.func29 (by kernel_rfl) rfl #[.string ((rd_T35 (rd_L3 t225 x4_1) x7_3).f0)] (by rfl) rfl rfl au1 ?_
                          with_reducible refine (cluster_Cells.calls ((rd_T35 (rd_L3 t225 x4_1) x7_3).f0) t238 _ ?side1 A69.out).mono ?_
                          (case side1 => exact tabs_below HT.out au3)
                          rintro e w85 ⟨rfl,hb⟩
                          refine ⟨_,rfl,?_⟩
                          have n0_ := Aside0.mk (Kd.S_below au14 hb)
                          have n1_ := Aside0.mk (blk_below (g := gb222) (o := .cells #[.string a0_0,.string a0_1,.int .i64 a0_2,.int .i64 a0_3] 23 (0,0)) au6 hb)
                          have n2_ := Aside0.mk (blk_below (g := gb230) (o := .cells #[.int .i64 t224,.slice (some ad231) t225.length co12,.int .i64 t228,.int .i64 t229] 29 (0,0)) au9 hb)
                          have n3_ := Aside0.mk (blk_below (g := gb235) (o := .cells #[.string ((rd_T35 (rd_L3 t225 x4_1) x7_3).f0),.int .i64 ((rd_T35 (rd_L3 t225 x4_1) x7_3).f1)] 35 (0,0)) au24 hb)
                          have n4_ := Aside0.mk (Kd.C_below au4 hb)
                          have n5_ := Aside0.mk (below_step au3 hb)
                          clear HO_231001
                          clear BK222
                          clear BK230
                          clear BK235
                          clear HR231_0
                          clear HB
                          have HO_231001 := n0_
                          have BK222 := n1_
                          have BK230 := n2_
                          have BK235 := n3_
                          have HR231_0 := n4_
                          have HB := n5_
                          clear n0_ n1_ n2_ n3_ n4_ n5_
                          (try clear hb)
                          (try clear hb2)
                          (try clear hk)
                          (try clear hi)
                          refine hK.out _ _ ⟨(blk_cell BK235.out 0).trans rfl,(blk_cell BK235.out 1).trans rfl,(by obtain ⟨ad_,e_,h0_,h1_⟩ := at_T35 HR231_0.out (ji79) (of_eq_true p240) (of_eq_true q240);obtain rfl : ad234 = ad_ := (by injection e_);exact h0_),(by obtain ⟨ad_,e_,h0_,h1_⟩ := at_T35 HR231_0.out (ji79) (of_eq_true p240) (of_eq_true q240);obtain rfl : ad234 = ad_ := (by injection e_);exact h1_)⟩ (fun hHeld => ?_)
                          clear hK K
                          refine norm_ (a' := ?_) ?_ ?_
                          rotate_left
                          ·show Act.put _ (some 91) _ = _
                           simp only [Act.put,List.setIfInBounds_toArray,List.set_cons_zero,List.set_cons_succ,i64_w,i32_w]
                           rfl
                          refine pure_ (i := 10) (N := some 94) (v := ?_) (a' := ?_) #[true,true,true,true,true,true,true,true,true,true,true,false,false,false,false,false,false,false,false,false,false,false,false,false,false,false,false,false,false,false,false,false,false,false,false,false,false,false,false,false] rfl rfl (any_of HT_.out (by kernel_rfl)) (fun _ _ _ h => h) (Or.inl ⟨by rfl,?_⟩) ?_ ?_
                          rotate_left
                          ·intro w'
                           go_simp
                           with_reducible rfl
                          rotate_left
                          ·simp only [Act.put,List.setIfInBounds_toArray,List.set_cons_zero,List.set_cons_succ,i64_w,i32_w]
                           rfl
                          refine pure_ (i := 11) (N := some 95) (v := ?_) (a' := ?_) #[true,true,true,true,true,true,true,true,true,true,true,true,false,false,false,false,false,false,false,false,false,false,false,false,false,false,false,false,false,false,false,false,false,false,false,false,false,false,false,false] rfl rfl (any_of HT_.out (by kernel_rfl)) (fun _ _ _ h => h) (Or.inl ⟨by rfl,?_⟩) ?_ ?_
                          rotate_left
                          ·intro w'
                           go_simp
                           with_reducible rfl
                          rotate_left
                          ·simp only [Act.put,List.setIfInBounds_toArray,List.set_cons_zero,List.set_cons_succ,i64_w,i32_w]
                           rfl
                          refine pure_ (i := 12) (N := some 96) (v := ?_) (a' := ?_) #[true,true,true,true,true,true,true,true,true,true,true,true,true,false,false,false,false,false,false,false,false,false,false,false,false,false,false,false,false,false,false,false,false,false,false,false,false,false,false,false] rfl rfl (any_of HT_.out (by kernel_rfl)) (fun _ _ _ h => h) (Or.inl ⟨by rfl,?_⟩) ?_ ?_
                          rotate_left
                          ·intro w'
                           go_simp
                           with_reducible rfl
                          rotate_left
                          ·simp only [Act.put,List.setIfInBounds_toArray,List.set_cons_zero,List.set_cons_succ,i64_w,i32_w]
                           rfl
                          refine pure_ (i := 13) (N := some 97) (v := ?_) (a' := ?_) #[true,true,true,true,true,true,true,true,true,true,true,true,true,true,false,false,false,false,false,false,false,false,false,false,false,false,false,false,false,false,false,false,false,false,false,false,false,false,false,false] rfl rfl (any_of HT_.out (by kernel_rfl)) (fun _ _ _ h => h) (Or.inl ⟨by rfl,?_⟩) ?_ ?_
                          rotate_left
                          ·intro w'
                           go_simp
                           with_reducible rfl
                          rotate_left
                          ·simp only [Act.put,List.setIfInBounds_toArray,List.set_cons_zero,List.set_cons_succ,i64_w,i32_w]
                           rfl
                          refine pure_ (i := 16) (N := some 100) (v := ?_) (a' := ?_) #[true,true,true,true,true,true,true,true,true,true,true,true,true,true,false,false,true,false,false,false,false,false,false,false,false,false,false,false,false,false,false,false,false,false,false,false,false,false,false,false] rfl rfl (any_of HT_.out (by kernel_rfl)) (fun _ _ _ h => h) (Or.inl ⟨by rfl,?_⟩) ?_ ?_
                          rotate_left
                          ·intro w'
                           go_simp
                           with_reducible rfl
                          rotate_left
                          ·simp only [Act.put,List.setIfInBounds_toArray,List.set_cons_zero,List.set_cons_succ,i64_w,i32_w]
                           rfl
                          refine take_ (i := 14) (N := some 98) (v := ?_) (a' := ?_) #[true,true,true,true,true,true,true,true,true,true,true,true,true,true,true,false,true,false,false,false,false,false,false,false,false,false,false,false,false,false,false,false,false,false,false,false,false,false,false,false] rfl rfl (take_ofW HT_.out HW_.out (by kernel_rfl)) (fun _ _ _ h => h) (Or.inl ⟨by rfl,?_⟩) hHeld ?_ ?_
                          rotate_left
                          ·rintro w' ⟨s0,s1,s2,s3⟩
                           go_simp
                           with_reducible rfl
                          rotate_left
                          ·simp only [Act.put,List.setIfInBounds_toArray,List.set_cons_zero,List.set_cons_succ,i64_w,i32_w]
                           rfl
                          refine take_ (i := 17) (N := some 101) (v := ?_) (a' := ?_) #[true,true,true,true,true,true,true,true,true,true,true,true,true,true,true,false,true,true,false,false,false,false,false,false,false,false,false,false,false,false,false,false,false,false,false,false,false,false,false,false] rfl rfl (take_ofW HT_.out HW_.out (by kernel_rfl)) (fun _ _ _ h => h) (Or.inl ⟨by rfl,?_⟩) hHeld ?_ ?_
                          rotate_left
                          ·rintro w' ⟨s0,s1,s2,s3⟩
                           go_simp
                           with_reducible rfl
                          rotate_left
                          ·simp only [Act.put,List.setIfInBounds_toArray,List.set_cons_zero,List.set_cons_succ,i64_w,i32_w]
                           rfl
                          refine one_ (i := 15) (N := some 99) #[true,true,true,true,true,true,true,true,true,true,true,true,true,true,true,true,true,true,false,false,false,false,false,false,false,false,false,false,false,false,false,false,false,false,false,false,false,false,false,false] rfl rfl (one_of HT_.out (by kernel_rfl)) (by decide) (fun K hK => ?_)
                          refine goes_ Tryd.func20 (by kernel_rfl) rfl #[.string ((rd_T35 (rd_L3 t225 x4_1) x7_3).f0)] (by rfl) rfl rfl au1 ?_
                          with_reducible refine (cluster_Drawn.calls ((rd_T35 (rd_L3 t225 x4_1) x7_3).f0) t239 _ ?side1 A71.out).mono ?_
                          (case side1 => exact tabs_below HT.out au3)
                          rintro e w86 ⟨rfl,hb⟩
                          refine ⟨_,rfl,?_⟩
                          have n0_ := Aside0.mk (Kd.S_below au14 hb)
                          have n1_ := Aside0.mk (blk_below (g := gb222) (o := .cells #[.string a0_0,.string a0_1,.int .i64 a0_2,.int .i64 a0_3] 23 (0,0)) au6 hb)
                          have n2_ := Aside0.mk (blk_below (g := gb230) (o := .cells #[.int .i64 t224,.slice (some ad231) t225.length co12,.int .i64 t228,.int .i64 t229] 29 (0,0)) au9 hb)
                          have n3_ := Aside0.mk (blk_below (g := gb235) (o := .cells #[.string ((rd_T35 (rd_L3 t225 x4_1) x7_3).f0),.int .i64 ((rd_T35 (rd_L3 t225 x4_1) x7_3).f1)] 35 (0,0)) au24 hb)
                          have n4_ := Aside0.mk (Kd.C_below au4 hb)
                          have n5_ := Aside0.mk (below_step au3 hb)
                          clear HO_231001
                          clear BK222
                          clear BK230
                          clear BK235
                          clear HR231_0
                          clear HB
                          have HO_231001 := n0_
                          have BK222 := n1_
                          have BK230 := n2_
                          have BK235 := n3_
                          have HR231_0 := n4_
                          have HB := n5_
                          clear n0_ n1_ n2_ n3_ n4_ n5_
                          (try clear hb)
                          (try clear hb2)
                          (try clear hk)
                          (try clear hi)
                          refine hK.out _ _ ⟨(blk_cell BK235.out 0).trans rfl,(blk_cell BK235.out 1).trans rfl,(by obtain ⟨ad_,e_,h0_,h1_⟩ := at_T35 HR231_0.out (ji79) (of_eq_true p240) (of_eq_true q240);obtain rfl : ad234 = ad_ := (by injection e_);exact h0_),(by obtain ⟨ad_,e_,h0_,h1_⟩ := at_T35 HR231_0.out (ji79) (of_eq_true p240) (of_eq_true q240);obtain rfl : ad234 = ad_ := (by injection e_);exact h1_)⟩ (fun hHeld => ?_)
                          clear hK K
                          refine norm_ (a' := ?_) ?_ ?_
                          rotate_left
                          ·show Act.put _ (some 99) _ = _
                           simp only [Act.put,List.setIfInBounds_toArray,List.set_cons_zero,List.set_cons_succ,i64_w,i32_w]
                           rfl
                          refine pure_ (i := 18) (N := some 102) (v := ?_) (a' := ?_) #[true,true,true,true,true,true,true,true,true,true,true,true,true,true,true,true,true,true,true,false,false,false,false,false,false,false,false,false,false,false,false,false,false,false,false,false,false,false,false,false] rfl rfl (any_of HT_.out (by kernel_rfl)) (fun _ _ _ h => h) (Or.inl ⟨by rfl,?_⟩) ?_ ?_
                          rotate_left
                          ·intro w'
                           go_simp
                           with_reducible rfl
                          rotate_left
                          ·simp only [Act.put,List.setIfInBounds_toArray,List.set_cons_zero,List.set_cons_succ,i64_w,i32_w]
                           rfl
                          refine pure_ (i := 19) (N := some 103) (v := ?_) (a' := ?_) #[true,true,true,true,true,true,true,true,true,true,true,true,true,true,true,true,true,true,true,true,false,false,false,false,false,false,false,false,false,false,false,false,false,false,false,false,false,false,false,false] rfl rfl (any_of HT_.out (by kernel_rfl)) (fun _ _ _ h => h) (Or.inl ⟨by rfl,?_⟩) ?_ ?_
                          rotate_left
                          ·intro w'
                           go_simp
                           with_reducible rfl
                          rotate_left
                          ·simp only [Act.put,List.setIfInBounds_toArray,List.set_cons_zero,List.set_cons_succ,i64_w,i32_w]
                           rfl
                          refine pure_ (i := 20) (N := some 104) (v := ?_) (a' := ?_) #[true,true,true,true,true,true,true,true,true,true,true,true,true,true,true,true,true,true,true,true,true,false,false,false,false,false,false,false,false,false,false,false,false,false,false,false,false,false,false,false] rfl rfl (any_of HT_.out (by kernel_rfl)) (fun _ _ _ h => h) (Or.inl ⟨by rfl,?_⟩) ?_ ?_
                          rotate_left
                          ·intro w'
                           go_simp
                           with_reducible rfl
                          rotate_left
                          ·simp only [Act.put,List.setIfInBounds_toArray,List.set_cons_zero,List.set_cons_succ,i64_w,i32_w]
                           rfl
                          refine pure_ (i := 21) (N := some 105) (v := ?_) (a' := ?_) #[true,true,true,true,true,true,true,true,true,true,true,true,true,true,true,true,true,true,true,true,true,true,false,false,false,false,false,false,false,false,false,false,false,false,false,false,false,false,false,false] rfl rfl (any_of HT_.out (by kernel_rfl)) (fun _ _ _ h => h) (Or.inl ⟨by rfl,?_⟩) ?_ ?_
                          rotate_left
                          ·intro w'
                           go_simp
                           with_reducible rfl
                          rotate_left
                          ·simp only [Act.put,List.setIfInBounds_toArray,List.set_cons_zero,List.set_cons_succ,i64_w,i32_w]
                           rfl
                          refine take_ (i := 22) (N := some 106) (v := ?_) (a' := ?_) #[true,true,true,true,true,true,true,true,true,true,true,true,true,true,true,true,true,true,true,true,true,true,true,false,false,false,false,false,false,false,false,false,false,false,false,false,false,false,false,false] rfl rfl (take_ofW HT_.out HW_.out (by kernel_rfl)) (fun _ _ _ h => h) (Or.inl ⟨by rfl,?_⟩) hHeld ?_ ?_
                          rotate_left
                          ·rintro w' ⟨s0,s1,s2,s3⟩
                           go_simp
                           with_reducible rfl
                          rotate_left
                          ·simp only [Act.put,List.setIfInBounds_toArray,List.set_cons_zero,List.set_cons_succ,i64_w,i32_w]
                           rfl
                          refine pure_ (i := 23) (N := some 107) (v := ?_) (a' := ?_) #[true,true,true,true,true,true,true,true,true,true,true,true,true,true,true,true,true,true,true,true,true,true,true,true,false,false,false,false,false,false,false,false,false,false,false,false,false,false,false,false] rfl rfl (any_of HT_.out (by kernel_rfl)) (fun _ _ _ h => h) (Or.inl ⟨by rfl,?_⟩) ?_ ?_
                          rotate_left
                          ·intro w'
                           go_simp
                           with_reducible rfl
                          rotate_left
                          ·simp only [Act.put,List.setIfInBounds_toArray,List.set_cons_zero,List.set_cons_succ,i64_w,i32_w]
                           rfl
                          refine pure_ (i := 24) (N := some 108) (v := ?_) (a' := ?_) #[true,true,true,true,true,true,true,true,true,true,true,true,true,true,true,true,true,true,true,true,true,true,true,true,true,false,false,false,false,false,false,false,false,false,false,false,false,false,false,false] rfl rfl (any_of HT_.out (by kernel_rfl)) (fun _ _ _ h => h) (Or.inl ⟨by rfl,?_⟩) ?_ ?_
                          rotate_left
                          ·intro w'
                           go_simp
                           with_reducible rfl
                          rotate_left
                          ·simp only [Act.put,List.setIfInBounds_toArray,List.set_cons_zero,List.set_cons_succ,i64_w,i32_w]
                           rfl
                          refine pure_ (i := 25) (N := some 109) (v := ?_) (a' := ?_) #[true,true,true,true,true,true,true,true,true,true,true,true,true,true,true,true,true,true,true,true,true,true,true,true,true,true,false,false,false,false,false,false,false,false,false,false,false,false,false,false] rfl rfl (any_of HT_.out (by kernel_rfl)) (fun _ _ _ h => h) (Or.inl ⟨by rfl,?_⟩) ?_ ?_
                          rotate_left
                          ·intro w'
                           go_simp
                           with_reducible rfl
                          rotate_left
                          ·simp only [Act.put,List.setIfInBounds_toArray,List.set_cons_zero,List.set_cons_succ,i64_w,i32_w]
                           rfl
                          refine pure_ (i := 26) (N := some 110) (v := ?_) (a' := ?_) #[true,true,true,true,true,true,true,true,true,true,true,true,true,true,true,true,true,true,true,true,true,true,true,true,true,true,true,false,false,false,false,false,false,false,false,false,false,false,false,false] rfl rfl (any_of HT_.out (by kernel_rfl)) (fun _ _ _ h => h) (Or.inl ⟨by rfl,?_⟩) ?_ ?_
                          rotate_left
                          ·intro w'
                           go_simp
                           with_reducible rfl
                          rotate_left
                          ·simp only [Act.put,List.setIfInBounds_toArray,List.set_cons_zero,List.set_cons_succ,i64_w,i32_w]
                           rfl
                          refine pure_ (i := 27) (N := some 111) (v := ?_) (a' := ?_) #[true,true,true,true,true,true,true,true,true,true,true,true,true,true,true,true,true,true,true,true,true,true,true,true,true,true,true,true,false,false,false,false,false,false,false,false,false,false,false,false] rfl rfl (any_of HT_.out (by kernel_rfl)) (fun _ _ _ h => h) (Or.inl ⟨by rfl,?_⟩) ?_ ?_
                          rotate_left
                          ·intro w'
                           go_simp
                           with_reducible rfl
                          rotate_left
                          ·simp only [Act.put,List.setIfInBounds_toArray,List.set_cons_zero,List.set_cons_succ,i64_w,i32_w]
                           rfl
                          refine pure_ (i := 28) (N := some 112) (v := ?_) (a' := ?_) #[true,true,true,true,true,true,true,true,true,true,true,true,true,true,true,true,true,true,true,true,true,true,true,true,true,true,true,true,true,false,false,false,false,false,false,false,false,false,false,false] rfl rfl (any_of HT_.out (by kernel_rfl)) (fun _ _ _ h => h) (Or.inl ⟨by rfl,?_⟩) ?_ ?_
                          rotate_left
                          ·intro w'
                           go_simp
                           with_reducible rfl
                          rotate_left
                          ·simp only [Act.put,List.setIfInBounds_toArray,List.set_cons_zero,List.set_cons_succ,i64_w,i32_w]
                           rfl
                          refine pure_ (i := 29) (N := some 113) (v := ?_) (a' := ?_) #[true,true,true,true,true,true,true,true,true,true,true,true,true,true,true,true,true,true,true,true,true,true,true,true,true,true,true,true,true,true,false,false,false,false,false,false,false,false,false,false] rfl rfl (any_of HT_.out (by kernel_rfl)) (fun _ _ _ h => h) (Or.inl ⟨by rfl,?_⟩) ?_ ?_
                          rotate_left
                          ·intro w'
                           go_simp
                           with_reducible rfl
                          rotate_left
                          ·simp only [Act.put,List.setIfInBounds_toArray,List.set_cons_zero,List.set_cons_succ,i64_w,i32_w]
                           rfl
                          refine pure_ (i := 30) (N := some 114) (v := ?_) (a' := ?_) #[true,true,true,true,true,true,true,true,true,true,true,true,true,true,true,true,true,true,true,true,true,true,true,true,true,true,true,true,true,true,true,false,false,false,false,false,false,false,false,false] rfl rfl (any_of HT_.out (by kernel_rfl)) (fun _ _ _ h => h) (Or.inl ⟨by rfl,?_⟩) ?_ ?_
                          rotate_left
                          ·intro w'
                           go_simp
                           with_reducible rfl
                          rotate_left
                          ·simp only [Act.put,List.setIfInBounds_toArray,List.set_cons_zero,List.set_cons_succ,i64_w,i32_w]
                           rfl
                          refine pure_ (i := 31) (N := some 115) (v := ?_) (a' := ?_) #[true,true,true,true,true,true,true,true,true,true,true,true,true,true,true,true,true,true,true,true,true,true,true,true,true,true,true,true,true,true,true,true,false,false,false,false,false,false,false,false] rfl rfl (any_of HT_.out (by kernel_rfl)) (fun _ _ _ h => h) (Or.inl ⟨by rfl,?_⟩) ?_ ?_
                          rotate_left
                          ·intro w'
                           go_simp
                           with_reducible rfl
                          rotate_left
                          ·simp only [Act.put,List.setIfInBounds_toArray,List.set_cons_zero,List.set_cons_succ,i64_w,i32_w]
                           rfl
                          refine pure_ (i := 32) (N := some 116) (v := ?_) (a' := ?_) #[true,true,true,true,true,true,true,true,true,true,true,true,true,true,true,true,true,true,true,true,true,true,true,true,true,true,true,true,true,true,true,true,true,false,false,false,false,false,false,false] rfl rfl (any_of HT_.out (by kernel_rfl)) (fun _ _ _ h => h) (Or.inl ⟨by rfl,?_⟩) ?_ ?_
                          rotate_left
                          ·intro w'
                           go_simp
                           with_reducible rfl
                          rotate_left
                          ·simp only [Act.put,List.setIfInBounds_toArray,List.set_cons_zero,List.set_cons_succ,i64_w,i32_w]
                           rfl
                          refine pure_ (i := 33) (N := some 117) (v := ?_) (a' := ?_) #[true,true,true,true,true,true,true,true,true,true,true,true,true,true,true,true,true,true,true,true,true,true,true,true,true,true,true,true,true,true,true,true,true,true,false,false,false,false,false,false] rfl rfl (any_of HT_.out (by kernel_rfl)) (fun _ _ _ h => h) (Or.inl ⟨by rfl,?_⟩) ?_ ?_
                          rotate_left
                          ·intro w'
                           go_simp
                           with_reducible rfl
                          rotate_left
                          ·simp only [Act.put,List.setIfInBounds_toArray,List.set_cons_zero,List.set_cons_succ,i64_w,i32_w]
                           rfl
                          refine pure_ (i := 34) (N := some 118) (v := ?_) (a' := ?_) #[true,true,true,true,true,true,true,true,true,true,true,true,true,true,true,true,true,true,true,true,true,true,true,true,true,true,true,true,true,true,true,true,true,true,true,false,false,false,false,false] rfl rfl (any_of HT_.out (by kernel_rfl)) (fun _ _ _ h => h) (Or.inl ⟨by rfl,?_⟩) ?_ ?_
                          rotate_left
                          ·intro w'
                           go_simp
                           with_reducible rfl
                          rotate_left
                          ·simp only [Act.put,List.setIfInBounds_toArray,List.set_cons_zero,List.set_cons_succ,i64_w,i32_w]
                           rfl
                          refine take_ (i := 35) (N := some 119) (v := ?_) (a' := ?_) #[true,true,true,true,true,true,true,true,true,true,true,true,true,true,true,true,true,true,true,true,true,true,true,true,true,true,true,true,true,true,true,true,true,true,true,true,false,false,false,false] rfl rfl (take_ofW HT_.out HW_.out (by kernel_rfl)) (fun _ _ _ h => h) (Or.inl ⟨by rfl,?_⟩) hHeld ?_ ?_
                          rotate_left
                          ·rintro w' ⟨s0,s1,s2,s3⟩
                           go_simp
                           with_reducible rfl
                          rotate_left
                          ·simp only [Act.put,List.setIfInBounds_toArray,List.set_cons_zero,List.set_cons_succ,i64_w,i32_w]
                           rfl
                          refine pure_ (i := 36) (N := some 120) (v := ?_) (a' := ?_) #[true,true,true,true,true,true,true,true,true,true,true,true,true,true,true,true,true,true,true,true,true,true,true,true,true,true,true,true,true,true,true,true,true,true,true,true,true,false,false,false] rfl rfl (any_of HT_.out (by kernel_rfl)) (fun _ _ _ h => h) (Or.inl ⟨by rfl,?_⟩) ?_ ?_
                          rotate_left
                          ·intro w'
                           go_simp
                           with_reducible rfl
                          rotate_left
                          ·simp only [Act.put,List.setIfInBounds_toArray,List.set_cons_zero,List.set_cons_succ,i64_w,i32_w]
                           rfl
                          refine pure_ (i := 37) (N := some 121) (v := ?_) (a' := ?_) #[true,true,true,true,true,true,true,true,true,true,true,true,true,true,true,true,true,true,true,true,true,true,true,true,true,true,true,true,true,true,true,true,true,true,true,true,true,true,false,false] rfl rfl (any_of HT_.out (by kernel_rfl)) (fun _ _ _ h => h) (Or.inl ⟨by rfl,?_⟩) ?_ ?_
                          rotate_left
                          ·intro w'
                           go_simp
                           with_reducible rfl
                          rotate_left
                          ·simp only [Act.put,List.setIfInBounds_toArray,List.set_cons_zero,List.set_cons_succ,i64_w,i32_w]
                           rfl
                          refine pure_ (i := 38) (N := some 122) (v := ?_) (a' := ?_) #[true,true,true,true,true,true,true,true,true,true,true,true,true,true,true,true,true,true,true,true,true,true,true,true,true,true,true,true,true,true,true,true,true,true,true,true,true,true,true,false] rfl rfl (any_of HT_.out (by kernel_rfl)) (fun _ _ _ h => h) (Or.inl ⟨by rfl,?_⟩) ?_ ?_
                          rotate_left
                          ·intro w'
                           go_simp
                           with_reducible rfl
                          rotate_left
                          ·simp only [Act.put,List.setIfInBounds_toArray,List.set_cons_zero,List.set_cons_succ,i64_w,i32_w]
                           rfl
                          refine pure_ (i := 39) (N := some 123) (v := ?_) (a' := ?_) #[true,true,true,true,true,true,true,true,true,true,true,true,true,true,true,true,true,true,true,true,true,true,true,true,true,true,true,true,true,true,true,true,true,true,true,true,true,true,true,true] rfl rfl (any_of HT_.out (by kernel_rfl)) (fun _ _ _ h => h) (Or.inl ⟨by rfl,?_⟩) ?_ ?_
                          rotate_left
                          ·intro w'
                           go_simp
                           with_reducible rfl
                          rotate_left
                          ·simp only [Act.put,List.setIfInBounds_toArray,List.set_cons_zero,List.set_cons_succ,i64_w,i32_w]
                           rfl
                          refine done_ (done_of HT_.out (by kernel_rfl)) ?_
                          try go_wp2
                          go_roundg kj59
                          case measure => have := HK1.out;have := HJ14.out;have := HK3.out;have := HJ59.out;omega
                          case rel => exact ⟨(ji79),(by first | rfl | (simp;done) | (simp only [← hji79] <;> (first | rfl | simp)) | (simp [*];done)),H',⟨by have := HK1.out;have := HJ14.out;have := HK3.out;have := HJ59.out;omega⟩,⟨by (with_reducible repeat (first | apply Kd.S_alloc | apply Kd.S_drewN | apply Kd.S_drew));exact Kd.S_mono HO_231001.out (fun _ hk => trivial)⟩,⟨by (with_reducible repeat (first | refine blk_drewN ?_ _ | refine blk_drew ?_ | refine blk_alloc ?_ _));exact BK222.out⟩,⟨by (with_reducible repeat (first | refine blk_drewN ?_ _ | refine blk_drew ?_ | refine blk_alloc ?_ _));exact BK230.out⟩,⟨by repeat (first | (with_reducible exact HR231_0.out) | (with_reducible refine Kd.C_alloc ?_ _) | (with_reducible refine Kd.C_drewN ?_ _) | (with_reducible refine Kd.C_drew ?_) | exact HR231_0.out)⟩,⟨by repeat (first | (with_reducible first | exact HB.out | apply below_alloc | apply pw_below_drewN | apply below_drew1 | refine below_set ?_ GE222.out | refine below_set ?_ GE230.out | refine below_set ?_ GE235.out) | exact HB.out)⟩⟩
                         ·rw [if_neg c82] at H
                          have c82b0 : (((rd_T35 (rd_L3 t225 x4_1) (ji79)).f1) == 0) = false := beq_eq_false_iff_ne.mpr c82
                          have c82b1 : (((rd_T35 (rd_L3 t225 x4_1) (ji79)).f1) != 0) = true := bne_iff_ne.mpr c82
                          obtain rfl := Option.some.inj H
                          cases hr_
                        ·rw [if_neg c81] at H
                         exact absurd H (by simp)
                       ·rw [if_neg c80] at H
                        exact absurd H (by simp)
                     ·rw [if_neg c73] at H
                      have c73b0 : (((rd_T35 (rd_L3 t225 x4_1) x7_3).f1) == 2) = false := beq_eq_false_iff_ne.mpr c73
                      have c73b1 : (((rd_T35 (rd_L3 t225 x4_1) x7_3).f1) != 2) = true := bne_iff_ne.mpr c73
                      have H' := Aside0.mk H
                      clear H
                      try go_wp2
                      have n0_ := Aside0.mk (Kd.S_drew HO_231001.out)
                      have n1_ := Aside0.mk (blk_drew BK222.out)
                      have n2_ := Aside0.mk (blk_drew BK230.out)
                      have n3_ := Aside0.mk (blk_drew BK235.out)
                      have n4_ := Aside0.mk (Kd.C_drew HR231_0.out)
                      have n5_ := Aside0.mk (below_drew1 HB.out)
                      clear HO_231001
                      clear BK222
                      clear BK230
                      clear BK235
                      clear HR231_0
                      clear HB
                      have HO_231001 := n0_
                      have BK222 := n1_
                      have BK230 := n2_
                      have BK235 := n3_
                      have HR231_0 := n4_
                      have HB := n5_
                      clear n0_ n1_ n2_ n3_ n4_ n5_
                      refine start_ (n := 40) (S := fun w' => w'.cell? ⟨gb235,0,none⟩ = some (.string ((rd_T35 (rd_L3 t225 x4_1) x7_3).f0)) ∧ w'.cell? ⟨gb235,1,none⟩ = some (.int .i64 ((rd_T35 (rd_L3 t225 x4_1) x7_3).f1))) (ds := []) #[false,false,false,false,false,false,false,false,false,false,false,false,false,false,false,false,false,false,false,false,false,false,false,false,false,false,false,false,false,false,false,false,false,false,false,false,false,false,false,false] (by kernel_rfl) rfl rfl ⟨(blk_cell BK235.out 0).trans rfl,(blk_cell BK235.out 1).trans rfl⟩ (fun hHeld => ?_);refine with_tabW bodkinlaw20_LayoutFits.tab22 bodkinlaw20_LayoutFits.bits22 (fun HT_ HW_ => ?_)
                      generalize wc.drew = w91 at HO_231001 BK222 BK230 BK235 HR231_0 HB hHeld ⊢
                      refine pure_ (i := 0) (N := some 84) (v := ?_) (a' := ?_) #[true,false,false,false,false,false,false,false,false,false,false,false,false,false,false,false,false,false,false,false,false,false,false,false,false,false,false,false,false,false,false,false,false,false,false,false,false,false,false,false] rfl rfl (any_of HT_.out (by kernel_rfl)) (fun _ _ _ h => h) (Or.inl ⟨by rfl,?_⟩) ?_ ?_
                      rotate_left
                      ·intro w'
                       go_simp
                       with_reducible rfl
                      rotate_left
                      ·simp only [Act.put,List.setIfInBounds_toArray,List.set_cons_zero,List.set_cons_succ,i64_w,i32_w]
                       rfl
                      refine take_ (i := 1) (N := some 85) (v := ?_) (a' := ?_) #[true,true,false,false,false,false,false,false,false,false,false,false,false,false,false,false,false,false,false,false,false,false,false,false,false,false,false,false,false,false,false,false,false,false,false,false,false,false,false,false] rfl rfl (take_ofW HT_.out HW_.out (by kernel_rfl)) (fun _ _ _ h => h) (Or.inl ⟨by rfl,?_⟩) hHeld ?_ ?_
                      rotate_left
                      ·rintro w' ⟨s0,s1⟩
                       go_simp
                       with_reducible rfl
                      rotate_left
                      ·simp only [Act.put,List.setIfInBounds_toArray,List.set_cons_zero,List.set_cons_succ,i64_w,i32_w]
                       rfl
                      refine one_ (i := 2) (N := some 86) #[true,true,true,false,false,false,false,false,false,false,false,false,false,false,false,false,false,false,false,false,false,false,false,false,false,false,false,false,false,false,false,false,false,false,false,false,false,false,false,false] rfl rfl (one_of HT_.out (by kernel_rfl)) (by decide) (fun K hK => ?_)
                      refine goes_ Tryd.func28 (by kernel_rfl) rfl #[.string ((rd_T35 (rd_L3 t225 x4_1) x7_3).f0)] (by rfl) rfl rfl au1 ?_
                      with_reducible refine (cluster_Count.calls ((rd_T35 (rd_L3 t225 x4_1) x7_3).f0) t237 _ ?side1 A67.out).mono ?_
                      (case side1 => exact tabs_below HT.out au3)
                      rintro e w92 ⟨rfl,hb⟩
                      refine ⟨_,rfl,?_⟩
                      have n0_ := Aside0.mk (Kd.S_below au14 hb)
                      have n1_ := Aside0.mk (blk_below (g := gb222) (o := .cells #[.string a0_0,.string a0_1,.int .i64 a0_2,.int .i64 a0_3] 23 (0,0)) au6 hb)
                      have n2_ := Aside0.mk (blk_below (g := gb230) (o := .cells #[.int .i64 t224,.slice (some ad231) t225.length co12,.int .i64 t228,.int .i64 t229] 29 (0,0)) au9 hb)
                      have n3_ := Aside0.mk (blk_below (g := gb235) (o := .cells #[.string ((rd_T35 (rd_L3 t225 x4_1) x7_3).f0),.int .i64 ((rd_T35 (rd_L3 t225 x4_1) x7_3).f1)] 35 (0,0)) au24 hb)
                      have n4_ := Aside0.mk (Kd.C_below au4 hb)
                      have n5_ := Aside0.mk (below_step au3 hb)
                      clear HO_231001
                      clear BK222
                      clear BK230
                      clear BK235
                      clear HR231_0
                      clear HB
                      have HO_231001 := n0_
                      have BK222 := n1_
                      have BK230 := n2_
                      have BK235 := n3_
                      have HR231_0 := n4_
                      have HB := n5_
                      clear n0_ n1_ n2_ n3_ n4_ n5_
                      (try clear hb)
                      (try clear hb2)
                      (try clear hk)
                      (try clear hi)
                      refine hK.out _ _ ⟨(blk_cell BK235.out 0).trans rfl,(blk_cell BK235.out 1).trans rfl⟩ (fun hHeld => ?_)
                      clear hK K
                      refine norm_ (a' := ?_) ?_ ?_
                      rotate_left
                      ·show Act.put _ (some 86) _ = _
                       simp only [Act.put,List.setIfInBounds_toArray,List.set_cons_zero,List.set_cons_succ,i64_w,i32_w]
                       rfl
                      refine pure_ (i := 3) (N := some 87) (v := ?_) (a' := ?_) #[true,true,true,true,false,false,false,false,false,false,false,false,false,false,false,false,false,false,false,false,false,false,false,false,false,false,false,false,false,false,false,false,false,false,false,false,false,false,false,false] rfl rfl (any_of HT_.out (by kernel_rfl)) (fun _ _ _ h => h) (Or.inl ⟨by rfl,?_⟩) ?_ ?_
                      rotate_left
                      ·intro w'
                       go_simp
                       with_reducible rfl
                      rotate_left
                      ·simp only [Act.put,List.setIfInBounds_toArray,List.set_cons_zero,List.set_cons_succ,i64_w,i32_w]
                       rfl
                      refine pure_ (i := 4) (N := some 88) (v := ?_) (a' := ?_) #[true,true,true,true,true,false,false,false,false,false,false,false,false,false,false,false,false,false,false,false,false,false,false,false,false,false,false,false,false,false,false,false,false,false,false,false,false,false,false,false] rfl rfl (any_of HT_.out (by kernel_rfl)) (fun _ _ _ h => h) (Or.inl ⟨by rfl,?_⟩) ?_ ?_
                      rotate_left
                      ·intro w'
                       go_simp
                       with_reducible rfl
                      rotate_left
                      ·simp only [Act.put,List.setIfInBounds_toArray,List.set_cons_zero,List.set_cons_succ,i64_w,i32_w]
                       rfl
                      refine pure_ (i := 5) (N := some 89) (v := ?_) (a' := ?_) #[true,true,true,true,true,true,false,false,false,false,false,false,false,false,false,false,false,false,false,false,false,false,false,false,false,false,false,false,false,false,false,false,false,false,false,false,false,false,false,false] rfl rfl (any_of HT_.out (by kernel_rfl)) (fun _ _ _ h => h) (Or.inl ⟨by rfl,?_⟩) ?_ ?_
                      rotate_left
                      ·intro w'
                       go_simp
                       with_reducible rfl
                      rotate_left
                      ·simp only [Act.put,List.setIfInBounds_toArray,List.set_cons_zero,List.set_cons_succ,i64_w,i32_w]
                       rfl
                      refine pure_ (i := 8) (N := some 92) (v := ?_) (a' := ?_) #[true,true,true,true,true,true,false,false,true,false,false,false,false,false,false,false,false,false,false,false,false,false,false,false,false,false,false,false,false,false,false,false,false,false,false,false,false,false,false,false] rfl rfl (any_of HT_.out (by kernel_rfl)) (fun _ _ _ h => h) (Or.inl ⟨by rfl,?_⟩) ?_ ?_
                      rotate_left
                      ·intro w'
                       go_simp
                       with_reducible rfl
                      rotate_left
                      ·simp only [Act.put,List.setIfInBounds_toArray,List.set_cons_zero,List.set_cons_succ,i64_w,i32_w]
                       rfl
                      refine take_ (i := 6) (N := some 90) (v := ?_) (a' := ?_) #[true,true,true,true,true,true,true,false,true,false,false,false,false,false,false,false,false,false,false,false,false,false,false,false,false,false,false,false,false,false,false,false,false,false,false,false,false,false,false,false] rfl rfl (take_ofW HT_.out HW_.out (by kernel_rfl)) (fun _ _ _ h => h) (Or.inl ⟨by rfl,?_⟩) hHeld ?_ ?_
                      rotate_left
                      ·rintro w' ⟨s0,s1⟩
                       go_simp
                       with_reducible rfl
                      rotate_left
                      ·simp only [Act.put,List.setIfInBounds_toArray,List.set_cons_zero,List.set_cons_succ,i64_w,i32_w]
                       rfl
                      refine take_ (i := 9) (N := some 93) (v := ?_) (a' := ?_) #[true,true,true,true,true,true,true,false,true,true,false,false,false,false,false,false,false,false,false,false,false,false,false,false,false,false,false,false,false,false,false,false,false,false,false,false,false,false,false,false] rfl rfl (take_ofW HT_.out HW_.out (by kernel_rfl)) (fun _ _ _ h => h) (Or.inl ⟨by rfl,?_⟩) hHeld ?_ ?_
                      rotate_left
                      ·rintro w' ⟨s0,s1⟩
                       go_simp
                       with_reducible rfl
                      rotate_left
                      ·simp only [Act.put,List.setIfInBounds_toArray,List.set_cons_zero,List.set_cons_succ,i64_w,i32_w]
                       rfl
                      refine one_ (i := 7) (N := some 91) #[true,true,true,true,true,true,true,true,true,true,false,false,false,false,false,false,false,false,false,false,false,false,false,false,false,false,false,false,false,false,false,false,false,false,false,false,false,false,false,false] rfl rfl (one_of HT_.out (by kernel_rfl)) (by decide) (fun K hK => ?_)
                      refine goes_ Tryd.func29 (by kernel_rfl) rfl #[.string ((rd_T35 (rd_L3 t225 x4_1) x7_3).f0)] (by rfl) rfl rfl au1 ?_
                      with_reducible refine (cluster_Cells.calls ((rd_T35 (rd_L3 t225 x4_1) x7_3).f0) t238 _ ?side1 A69.out).mono ?_
                      (case side1 => exact tabs_below HT.out au3)
                      rintro e w93 ⟨rfl,hb⟩
                      refine ⟨_,rfl,?_⟩
                      have n0_ := Aside0.mk (Kd.S_below au14 hb)
                      have n1_ := Aside0.mk (blk_below (g := gb222) (o := .cells #[.string a0_0,.string a0_1,.int .i64 a0_2,.int .i64 a0_3] 23 (0,0)) au6 hb)
                      have n2_ := Aside0.mk (blk_below (g := gb230) (o := .cells #[.int .i64 t224,.slice (some ad231) t225.length co12,.int .i64 t228,.int .i64 t229] 29 (0,0)) au9 hb)
                      have n3_ := Aside0.mk (blk_below (g := gb235) (o := .cells #[.string ((rd_T35 (rd_L3 t225 x4_1) x7_3).f0),.int .i64 ((rd_T35 (rd_L3 t225 x4_1) x7_3).f1)] 35 (0,0)) au24 hb)
                      have n4_ := Aside0.mk (Kd.C_below au4 hb)
                      have n5_ := Aside0.mk (below_step au3 hb)
                      clear HO_231001
                      clear BK222
                      clear BK230
                      clear BK235
                      clear HR231_0
                      clear HB
                      have HO_231001 := n0_
                      have BK222 := n1_
                      have BK230 := n2_
                      have BK235 := n3_
                      have HR231_0 := n4_
                      have HB := n5_
                      clear n0_ n1_ n2_ n3_ n4_ n5_
                      (try clear hb)
                      (try clear hb2)
                      (try clear hk)
                      (try clear hi)
                      refine hK.out _ _ ⟨(blk_cell BK235.out 0).trans rfl,(blk_cell BK235.out 1).trans rfl⟩ (fun hHeld => ?_)
                      clear hK K
                      refine norm_ (a' := ?_) ?_ ?_
                      rotate_left
                      ·show Act.put _ (some 91) _ = _
                       simp only [Act.put,List.setIfInBounds_toArray,List.set_cons_zero,List.set_cons_succ,i64_w,i32_w]
                       rfl
                      refine pure_ (i := 10) (N := some 94) (v := ?_) (a' := ?_) #[true,true,true,true,true,true,true,true,true,true,true,false,false,false,false,false,false,false,false,false,false,false,false,false,false,false,false,false,false,false,false,false,false,false,false,false,false,false,false,false] rfl rfl (any_of HT_.out (by kernel_rfl)) (fun _ _ _ h => h) (Or.inl ⟨by rfl,?_⟩) ?_ ?_
                      rotate_left
                      ·intro w'
                       go_simp
                       with_reducible rfl
                      rotate_left
                      ·simp only [Act.put,List.setIfInBounds_toArray,List.set_cons_zero,List.set_cons_succ,i64_w,i32_w]
                       rfl
                      refine pure_ (i := 11) (N := some 95) (v := ?_) (a' := ?_) #[true,true,true,true,true,true,true,true,true,true,true,true,false,false,false,false,false,false,false,false,false,false,false,false,false,false,false,false,false,false,false,false,false,false,false,false,false,false,false,false] rfl rfl (any_of HT_.out (by kernel_rfl)) (fun _ _ _ h => h) (Or.inl ⟨by rfl,?_⟩) ?_ ?_
                      rotate_left
                      ·intro w'
                       go_simp
                       with_reducible rfl
                      rotate_left
                      ·simp only [Act.put,List.setIfInBounds_toArray,List.set_cons_zero,List.set_cons_succ,i64_w,i32_w]
                       rfl
                      refine pure_ (i := 12) (N := some 96) (v := ?_) (a' := ?_) #[true,true,true,true,true,true,true,true,true,true,true,true,true,false,false,false,false,false,false,false,false,false,false,false,false,false,false,false,false,false,false,false,false,false,false,false,false,false,false,false] rfl rfl (any_of HT_.out (by kernel_rfl)) (fun _ _ _ h => h) (Or.inl ⟨by rfl,?_⟩) ?_ ?_
                      rotate_left
                      ·intro w'
                       go_simp
                       with_reducible rfl
                      rotate_left
                      ·simp only [Act.put,List.setIfInBounds_toArray,List.set_cons_zero,List.set_cons_succ,i64_w,i32_w]
                       rfl
                      refine pure_ (i := 13) (N := some 97) (v := ?_) (a' := ?_) #[true,true,true,true,true,true,true,true,true,true,true,true,true,true,false,false,false,false,false,false,false,false,false,false,false,false,false,false,false,false,false,false,false,false,false,false,false,false,false,false] rfl rfl (any_of HT_.out (by kernel_rfl)) (fun _ _ _ h => h) (Or.inl ⟨by rfl,?_⟩) ?_ ?_
                      rotate_left
                      ·intro w'
                       go_simp
                       with_reducible rfl
                      rotate_left
                      ·simp only [Act.put,List.setIfInBounds_toArray,List.set_cons_zero,List.set_cons_succ,i64_w,i32_w]
                       rfl
                      refine pure_ (i := 16) (N := some 100) (v := ?_) (a' := ?_) #[true,true,true,true,true,true,true,true,true,true,true,true,true,true,false,false,true,false,false,false,false,false,false,false,false,false,false,false,false,false,false,false,false,false,false,false,false,false,false,false] rfl rfl (any_of HT_.out (by kernel_rfl)) (fun _ _ _ h => h) (Or.inl ⟨by rfl,?_⟩) ?_ ?_
                      rotate_left
                      ·intro w'
                       go_simp
                       with_reducible rfl
                      rotate_left
                      ·simp only [Act.put,List.setIfInBounds_toArray,List.set_cons_zero,List.set_cons_succ,i64_w,i32_w]
                       rfl
                      refine take_ (i := 14) (N := some 98) (v := ?_) (a' := ?_) #[true,true,true,true,true,true,true,true,true,true,true,true,true,true,true,false,true,false,false,false,false,false,false,false,false,false,false,false,false,false,false,false,false,false,false,false,false,false,false,false] rfl rfl (take_ofW HT_.out HW_.out (by kernel_rfl)) (fun _ _ _ h => h) (Or.inl ⟨by rfl,?_⟩) hHeld ?_ ?_
                      rotate_left
                      ·rintro w' ⟨s0,s1⟩
                       go_simp
                       with_reducible rfl
                      rotate_left
                      ·simp only [Act.put,List.setIfInBounds_toArray,List.set_cons_zero,List.set_cons_succ,i64_w,i32_w]
                       rfl
                      refine take_ (i := 17) (N := some 101) (v := ?_) (a' := ?_) #[true,true,true,true,true,true,true,true,true,true,true,true,true,true,true,false,true,true,false,false,false,false,false,false,false,false,false,false,false,false,false,false,false,false,false,false,false,false,false,false] rfl rfl (take_ofW HT_.out HW_.out (by kernel_rfl)) (fun _ _ _ h => h) (Or.inl ⟨by rfl,?_⟩) hHeld ?_ ?_
                      rotate_left
                      ·rintro w' ⟨s0,s1⟩
                       go_simp
                       with_reducible rfl
                      rotate_left
                      ·simp only [Act.put,List.setIfInBounds_toArray,List.set_cons_zero,List.set_cons_succ,i64_w,i32_w]
                       rfl
                      refine one_ (i := 15) (N := some 99) #[true,true,true,true,true,true,true,true,true,true,true,true,true,true,true,true,true,true,false,false,false,false,false,false,false,false,false,false,false,false,false,false,false,false,false,false,false,false,false,false] rfl rfl (one_of HT_.out (by kernel_rfl)) (by decide) (fun K hK => ?_)
                      refine goes_ Tryd.func20 (by kernel_rfl) rfl #[.string ((rd_T35 (rd_L3 t225 x4_1) x7_3).f0)] (by rfl) rfl rfl au1 ?_
                      with_reducible refine (cluster_Drawn.calls ((rd_T35 (rd_L3 t225 x4_1) x7_3).f0) t239 _ ?side1 A71.out).mono ?_
                      (case side1 => exact tabs_below HT.out au3)
                      rintro e w94 ⟨rfl,hb⟩
                      refine ⟨_,rfl,?_⟩
                      have n0_ := Aside0.mk (Kd.S_below au14 hb)
                      have n1_ := Aside0.mk (blk_below (g := gb222) (o := .cells #[.string a0_0,.string a0_1,.int .i64 a0_2,.int .i64 a0_3] 23 (0,0)) au6 hb)
                      have n2_ := Aside0.mk (blk_below (g := gb230) (o := .cells #[.int .i64 t224,.slice (some ad231) t225.length co12,.int .i64 t228,.int .i64 t229] 29 (0,0)) au9 hb)
                      have n3_ := Aside0.mk (blk_below (g := gb235) (o := .cells #[.string ((rd_T35 (rd_L3 t225 x4_1) x7_3).f0),.int .i64 ((rd_T35 (rd_L3 t225 x4_1) x7_3).f1)] 35 (0,0)) au24 hb)
                      have n4_ := Aside0.mk (Kd.C_below au4 hb)
                      have n5_ := Aside0.mk (below_step au3 hb)
                      clear HO_231001
                      clear BK222
                      clear BK230
                      clear BK235
                      clear HR231_0
                      clear HB
                      have HO_231001 := n0_
                      have BK222 := n1_
                      have BK230 := n2_
                      have BK235 := n3_
                      have HR231_0 := n4_
                      have HB := n5_
                      clear n0_ n1_ n2_ n3_ n4_ n5_
                      (try clear hb)
                      (try clear hb2)
                      (try clear hk)
                      (try clear hi)
                      refine hK.out _ _ ⟨(blk_cell BK235.out 0).trans rfl,(blk_cell BK235.out 1).trans rfl⟩ (fun hHeld => ?_)
                      clear hK K
                      refine norm_ (a' := ?_) ?_ ?_
                      rotate_left
                      ·show Act.put _ (some 99) _ = _
                       simp only [Act.put,List.setIfInBounds_toArray,List.set_cons_zero,List.set_cons_succ,i64_w,i32_w]
                       rfl
                      refine pure_ (i := 18) (N := some 102) (v := ?_) (a' := ?_) #[true,true,true,true,true,true,true,true,true,true,true,true,true,true,true,true,true,true,true,false,false,false,false,false,false,false,false,false,false,false,false,false,false,false,false,false,false,false,false,false] rfl rfl (any_of HT_.out (by kernel_rfl)) (fun _ _ _ h => h) (Or.inl ⟨by rfl,?_⟩) ?_ ?_
                      rotate_left
                      ·intro w'
                       go_simp
                       with_reducible rfl
                      rotate_left
                      ·simp only [Act.put,List.setIfInBounds_toArray,List.set_cons_zero,List.set_cons_succ,i64_w,i32_w]
                       rfl
                      refine pure_ (i := 19) (N := some 103) (v := ?_) (a' := ?_) #[true,true,true,true,true,true,true,true,true,true,true,true,true,true,true,true,true,true,true,true,false,false,false,false,false,false,false,false,false,false,false,false,false,false,false,false,false,false,false,false] rfl rfl (any_of HT_.out (by kernel_rfl)) (fun _ _ _ h => h) (Or.inl ⟨by rfl,?_⟩) ?_ ?_
                      rotate_left
                      ·intro w'
                       go_simp
                       with_reducible rfl
                      rotate_left
                      ·simp only [Act.put,List.setIfInBounds_toArray,List.set_cons_zero,List.set_cons_succ,i64_w,i32_w]
                       rfl
                      refine pure_ (i := 20) (N := some 104) (v := ?_) (a' := ?_) #[true,true,true,true,true,true,true,true,true,true,true,true,true,true,true,true,true,true,true,true,true,false,false,false,false,false,false,false,false,false,false,false,false,false,false,false,false,false,false,false] rfl rfl (any_of HT_.out (by kernel_rfl)) (fun _ _ _ h => h) (Or.inl ⟨by rfl,?_⟩) ?_ ?_
                      rotate_left
                      ·intro w'
                       go_simp
                       with_reducible rfl
                      rotate_left
                      ·simp only [Act.put,List.setIfInBounds_toArray,List.set_cons_zero,List.set_cons_succ,i64_w,i32_w]
                       rfl
                      refine pure_ (i := 21) (N := some 105) (v := ?_) (a' := ?_) #[true,true,true,true,true,true,true,true,true,true,true,true,true,true,true,true,true,true,true,true,true,true,false,false,false,false,false,false,false,false,false,false,false,false,false,false,false,false,false,false] rfl rfl (any_of HT_.out (by kernel_rfl)) (fun _ _ _ h => h) (Or.inl ⟨by rfl,?_⟩) ?_ ?_
                      rotate_left
                      ·intro w'
                       go_simp
                       with_reducible rfl
                      rotate_left
                      ·simp only [Act.put,List.setIfInBounds_toArray,List.set_cons_zero,List.set_cons_succ,i64_w,i32_w]
                       rfl
                      refine take_ (i := 22) (N := some 106) (v := ?_) (a' := ?_) #[true,true,true,true,true,true,true,true,true,true,true,true,true,true,true,true,true,true,true,true,true,true,true,false,false,false,false,false,false,false,false,false,false,false,false,false,false,false,false,false] rfl rfl (take_ofW HT_.out HW_.out (by kernel_rfl)) (fun _ _ _ h => h) (Or.inl ⟨by rfl,?_⟩) hHeld ?_ ?_
                      rotate_left
                      ·rintro w' ⟨s0,s1⟩
                       go_simp
                       with_reducible rfl
                      rotate_left
                      ·simp only [Act.put,List.setIfInBounds_toArray,List.set_cons_zero,List.set_cons_succ,i64_w,i32_w]
                       rfl
                      refine pure_ (i := 23) (N := some 107) (v := ?_) (a' := ?_) #[true,true,true,true,true,true,true,true,true,true,true,true,true,true,true,true,true,true,true,true,true,true,true,true,false,false,false,false,false,false,false,false,false,false,false,false,false,false,false,false] rfl rfl (any_of HT_.out (by kernel_rfl)) (fun _ _ _ h => h) (Or.inl ⟨by rfl,?_⟩) ?_ ?_
                      rotate_left
                      ·intro w'
                       go_simp
                       with_reducible rfl
                      rotate_left
                      ·simp only [Act.put,List.setIfInBounds_toArray,List.set_cons_zero,List.set_cons_succ,i64_w,i32_w]
                       rfl
                      refine pure_ (i := 24) (N := some 108) (v := ?_) (a' := ?_) #[true,true,true,true,true,true,true,true,true,true,true,true,true,true,true,true,true,true,true,true,true,true,true,true,true,false,false,false,false,false,false,false,false,false,false,false,false,false,false,false] rfl rfl (any_of HT_.out (by kernel_rfl)) (fun _ _ _ h => h) (Or.inl ⟨by rfl,?_⟩) ?_ ?_
                      rotate_left
                      ·intro w'
                       go_simp
                       with_reducible rfl
                      rotate_left
                      ·simp only [Act.put,List.setIfInBounds_toArray,List.set_cons_zero,List.set_cons_succ,i64_w,i32_w]
                       rfl
                      refine pure_ (i := 25) (N := some 109) (v := undef) (a' := ?_) #[true,true,true,true,true,true,true,true,true,true,true,true,true,true,true,true,true,true,true,true,true,true,true,true,true,true,false,false,false,false,false,false,false,false,false,false,false,false,false,false] rfl rfl (any_of HT_.out (by kernel_rfl)) (fun _ _ _ h => h) (Or.inr ⟨by rfl,rfl⟩) ?_ ?_
                      rotate_left
                      ·simp only [Act.put,List.setIfInBounds_toArray,List.set_cons_zero,List.set_cons_succ,i64_w,i32_w]
                       rfl
                      refine pure_ (i := 26) (N := some 110) (v := undef) (a' := ?_) #[true,true,true,true,true,true,true,true,true,true,true,true,true,true,true,true,true,true,true,true,true,true,true,true,true,true,true,false,false,false,false,false,false,false,false,false,false,false,false,false] rfl rfl (any_of HT_.out (by kernel_rfl)) (fun _ _ _ h => h) (Or.inr ⟨by rfl,rfl⟩) ?_ ?_
                      rotate_left
                      ·simp only [Act.put,List.setIfInBounds_toArray,List.set_cons_zero,List.set_cons_succ,i64_w,i32_w]
                       rfl
                      refine pure_ (i := 27) (N := some 111) (v := undef) (a' := ?_) #[true,true,true,true,true,true,true,true,true,true,true,true,true,true,true,true,true,true,true,true,true,true,true,true,true,true,true,true,false,false,false,false,false,false,false,false,false,false,false,false] rfl rfl (any_of HT_.out (by kernel_rfl)) (fun _ _ _ h => h) (Or.inr ⟨by rfl,rfl⟩) ?_ ?_
                      rotate_left
                      ·simp only [Act.put,List.setIfInBounds_toArray,List.set_cons_zero,List.set_cons_succ,i64_w,i32_w]
                       rfl
                      refine pure_ (i := 28) (N := some 112) (v := undef) (a' := ?_) #[true,true,true,true,true,true,true,true,true,true,true,true,true,true,true,true,true,true,true,true,true,true,true,true,true,true,true,true,true,false,false,false,false,false,false,false,false,false,false,false] rfl rfl (any_of HT_.out (by kernel_rfl)) (fun _ _ _ h => h) (Or.inr ⟨by rfl,rfl⟩) ?_ ?_
                      rotate_left
                      ·simp only [Act.put,List.setIfInBounds_toArray,List.set_cons_zero,List.set_cons_succ,i64_w,i32_w]
                       rfl
                      refine pure_ (i := 29) (N := some 113) (v := undef) (a' := ?_) #[true,true,true,true,true,true,true,true,true,true,true,true,true,true,true,true,true,true,true,true,true,true,true,true,true,true,true,true,true,true,false,false,false,false,false,false,false,false,false,false] rfl rfl (any_of HT_.out (by kernel_rfl)) (fun _ _ _ h => h) (Or.inr ⟨by rfl,rfl⟩) ?_ ?_
                      rotate_left
                      ·simp only [Act.put,List.setIfInBounds_toArray,List.set_cons_zero,List.set_cons_succ,i64_w,i32_w]
                       rfl
                      refine pure_ (i := 30) (N := some 114) (v := undef) (a' := ?_) #[true,true,true,true,true,true,true,true,true,true,true,true,true,true,true,true,true,true,true,true,true,true,true,true,true,true,true,true,true,true,true,false,false,false,false,false,false,false,false,false] rfl rfl (any_of HT_.out (by kernel_rfl)) (fun _ _ _ h => h) (Or.inr ⟨by rfl,rfl⟩) ?_ ?_
                      rotate_left
                      ·simp only [Act.put,List.setIfInBounds_toArray,List.set_cons_zero,List.set_cons_succ,i64_w,i32_w]
                       rfl
                      refine pure_ (i := 31) (N := some 115) (v := undef) (a' := ?_) #[true,true,true,true,true,true,true,true,true,true,true,true,true,true,true,true,true,true,true,true,true,true,true,true,true,true,true,true,true,true,true,true,false,false,false,false,false,false,false,false] rfl rfl (any_of HT_.out (by kernel_rfl)) (fun _ _ _ h => h) (Or.inr ⟨by rfl,rfl⟩) ?_ ?_
                      rotate_left
                      ·simp only [Act.put,List.setIfInBounds_toArray,List.set_cons_zero,List.set_cons_succ,i64_w,i32_w]
                       rfl
                      refine pure_ (i := 32) (N := some 116) (v := undef) (a' := ?_) #[true,true,true,true,true,true,true,true,true,true,true,true,true,true,true,true,true,true,true,true,true,true,true,true,true,true,true,true,true,true,true,true,true,false,false,false,false,false,false,false] rfl rfl (any_of HT_.out (by kernel_rfl)) (fun _ _ _ h => h) (Or.inr ⟨by rfl,rfl⟩) ?_ ?_
                      rotate_left
                      ·simp only [Act.put,List.setIfInBounds_toArray,List.set_cons_zero,List.set_cons_succ,i64_w,i32_w]
                       rfl
                      refine pure_ (i := 33) (N := some 117) (v := undef) (a' := ?_) #[true,true,true,true,true,true,true,true,true,true,true,true,true,true,true,true,true,true,true,true,true,true,true,true,true,true,true,true,true,true,true,true,true,true,false,false,false,false,false,false] rfl rfl (any_of HT_.out (by kernel_rfl)) (fun _ _ _ h => h) (Or.inr ⟨by rfl,rfl⟩) ?_ ?_
                      rotate_left
                      ·simp only [Act.put,List.setIfInBounds_toArray,List.set_cons_zero,List.set_cons_succ,i64_w,i32_w]
                       rfl
                      refine pure_ (i := 34) (N := some 118) (v := undef) (a' := ?_) #[true,true,true,true,true,true,true,true,true,true,true,true,true,true,true,true,true,true,true,true,true,true,true,true,true,true,true,true,true,true,true,true,true,true,true,false,false,false,false,false] rfl rfl (any_of HT_.out (by kernel_rfl)) (fun _ _ _ h => h) (Or.inr ⟨by rfl,rfl⟩) ?_ ?_
                      rotate_left
                      ·simp only [Act.put,List.setIfInBounds_toArray,List.set_cons_zero,List.set_cons_succ,i64_w,i32_w]
                       rfl
                      refine pure_ (i := 35) (N := some 119) (v := undef) (a' := ?_) #[true,true,true,true,true,true,true,true,true,true,true,true,true,true,true,true,true,true,true,true,true,true,true,true,true,true,true,true,true,true,true,true,true,true,true,true,false,false,false,false] rfl rfl (any_of HT_.out (by kernel_rfl)) (fun _ _ _ h => h) (Or.inr ⟨by rfl,rfl⟩) ?_ ?_
                      rotate_left
                      ·simp only [Act.put,List.setIfInBounds_toArray,List.set_cons_zero,List.set_cons_succ,i64_w,i32_w]
                       rfl
                      refine pure_ (i := 36) (N := some 120) (v := undef) (a' := ?_) #[true,true,true,true,true,true,true,true,true,true,true,true,true,true,true,true,true,true,true,true,true,true,true,true,true,true,true,true,true,true,true,true,true,true,true,true,true,false,false,false] rfl rfl (any_of HT_.out (by kernel_rfl)) (fun _ _ _ h => h) (Or.inr ⟨by rfl,rfl⟩) ?_ ?_
                      rotate_left
                      ·simp only [Act.put,List.setIfInBounds_toArray,List.set_cons_zero,List.set_cons_succ,i64_w,i32_w]
                       rfl
                      refine pure_ (i := 37) (N := some 121) (v := undef) (a' := ?_) #[true,true,true,true,true,true,true,true,true,true,true,true,true,true,true,true,true,true,true,true,true,true,true,true,true,true,true,true,true,true,true,true,true,true,true,true,true,true,false,false] rfl rfl (any_of HT_.out (by kernel_rfl)) (fun _ _ _ h => h) (Or.inr ⟨by rfl,rfl⟩) ?_ ?_
                      rotate_left
                      ·simp only [Act.put,List.setIfInBounds_toArray,List.set_cons_zero,List.set_cons_succ,i64_w,i32_w]
                       rfl
                      refine pure_ (i := 38) (N := some 122) (v := ?_) (a' := ?_) #[true,true,true,true,true,true,true,true,true,true,true,true,true,true,true,true,true,true,true,true,true,true,true,true,true,true,true,true,true,true,true,true,true,true,true,true,true,true,true,false] rfl rfl (any_of HT_.out (by kernel_rfl)) (fun _ _ _ h => h) (Or.inl ⟨by rfl,?_⟩) ?_ ?_
                      rotate_left
                      ·intro w'
                       go_simp
                       with_reducible rfl
                      rotate_left
                      ·simp only [Act.put,List.setIfInBounds_toArray,List.set_cons_zero,List.set_cons_succ,i64_w,i32_w]
                       rfl
                      refine pure_ (i := 39) (N := some 123) (v := ?_) (a' := ?_) #[true,true,true,true,true,true,true,true,true,true,true,true,true,true,true,true,true,true,true,true,true,true,true,true,true,true,true,true,true,true,true,true,true,true,true,true,true,true,true,true] rfl rfl (any_of HT_.out (by kernel_rfl)) (fun _ _ _ h => h) (Or.inl ⟨by rfl,?_⟩) ?_ ?_
                      rotate_left
                      ·intro w'
                       go_simp
                       with_reducible rfl
                      rotate_left
                      ·simp only [Act.put,List.setIfInBounds_toArray,List.set_cons_zero,List.set_cons_succ,i64_w,i32_w]
                       rfl
                      refine done_ (done_of HT_.out (by kernel_rfl)) ?_
                      try go_wp2
                      go_roundg kj59
                      case measure => have := HK1.out;have := HJ14.out;have := HK3.out;have := HJ59.out;omega
                      case rel => exact ⟨(wrap64 (x7_3 + 1)),au15,H',⟨by have := HK1.out;have := HJ14.out;have := HK3.out;have := HJ59.out;omega⟩,⟨by (with_reducible repeat (first | apply Kd.S_alloc | apply Kd.S_drewN | apply Kd.S_drew));exact Kd.S_mono HO_231001.out (fun _ hk => trivial)⟩,⟨by (with_reducible repeat (first | refine blk_drewN ?_ _ | refine blk_drew ?_ | refine blk_alloc ?_ _));exact BK222.out⟩,⟨by (with_reducible repeat (first | refine blk_drewN ?_ _ | refine blk_drew ?_ | refine blk_alloc ?_ _));exact BK230.out⟩,⟨by repeat (first | (with_reducible exact HR231_0.out) | (with_reducible refine Kd.C_alloc ?_ _) | (with_reducible refine Kd.C_drewN ?_ _) | (with_reducible refine Kd.C_drew ?_) | exact HR231_0.out)⟩,⟨by repeat (first | (with_reducible first | exact HB.out | apply below_alloc | apply pw_below_drewN | apply below_drew1 | refine below_set ?_ GE222.out | refine below_set ?_ GE230.out | refine below_set ?_ GE235.out) | exact HB.out)⟩⟩
                    ·rw [if_neg c72] at H
                     have c72b0 : (t239.toList == ((rd_T35 (rd_L3 t225 x4_1) x7_3).f0).toList) = false := beq_eq_false_iff_ne.mpr c72
                     have c72b1 : (t239.toList != ((rd_T35 (rd_L3 t225 x4_1) x7_3).f0).toList) = true := bne_iff_ne.mpr c72
                     obtain rfl := Option.some.inj H
                     cases hr_
                   ·rw [if_neg c70] at H
                    have c70b0 : (t238 == ((rd_T35 (rd_L3 t225 x4_1) x7_3).f1)) = false := beq_eq_false_iff_ne.mpr c70
                    have c70b1 : (t238 != ((rd_T35 (rd_L3 t225 x4_1) x7_3).f1)) = true := bne_iff_ne.mpr c70
                    obtain rfl := Option.some.inj H
                    cases hr_
                  ·rw [if_neg c68] at H
                   have c68b0 : (t237 == 1) = false := beq_eq_false_iff_ne.mpr c68
                   have c68b1 : (t237 != 1) = true := bne_iff_ne.mpr c68
                   obtain rfl := Option.some.inj H
                   cases hr_
                 ·replace c66 := Bool.eq_false_iff.mpr c66
                  subst c66
                  have H1 : (some false) = some r := by rw [if_neg (show ¬ (false = true) by decide)] at H;exact H
                  clear H
                  have H := H1
                  clear H1
                  obtain rfl := Option.some.inj H
                  cases hr_
             ·rw [if_neg c36] at H
              exact absurd H (by simp)
            ·rw [if_neg c35] at H
             exact absurd H (by simp)
           ·rw [if_neg c34] at H
            have c34b0 : decide (x7_3 < ((rd_L3 t225 x4_1).length : Int)) = false := decide_eq_false c34
            clear c34
            have H' := Aside0.mk H
            clear H
            go_wp2
            go_roundg k3
            case measure => have := HK1.out;have := HJ14.out;have := HK3.out;omega
            case rel => exact ⟨(wrap64 (x4_1 + 1)),au15,H',⟨by have := HK1.out;have := HJ14.out;have := HK3.out;omega⟩,⟨by (with_reducible repeat (first | apply Kd.S_alloc | apply Kd.S_drewN | apply Kd.S_drew));exact HO_231001.out⟩,⟨by (with_reducible repeat (first | refine blk_drewN ?_ _ | refine blk_drew ?_ | refine blk_alloc ?_ _));exact BK222.out⟩,⟨by (with_reducible repeat (first | refine blk_drewN ?_ _ | refine blk_drew ?_ | refine blk_alloc ?_ _));exact BK230.out⟩,⟨by repeat (first | (with_reducible first | exact HB.out | apply below_alloc | apply pw_below_drewN | apply below_drew1 | refine below_set ?_ GE222.out | refine below_set ?_ GE230.out) | exact HB.out)⟩⟩
     ·rw [if_neg c14] at H
      exact absurd H (by simp)
    ·rw [if_neg c13] at H
     have c13b0 : decide (x4_1 < (t225.length : Int)) = false := decide_eq_false c13
     clear c13
     obtain rfl := Option.some.inj H
     have hnb104 := NB230_222.out
     have hnc104 := NB222_230.out
     have hcz105_0 : wr.cell? ⟨gb230,0,none⟩ = some (.int .i64 t224) := (blk_cell BK230.out 0).trans rfl
     have hcz105_1 : wr.cell? ⟨gb230,1,none⟩ = some (.slice Ao12 t225.length co12) := (blk_cell BK230.out 1).trans rfl
     have hcz105_2 : wr.cell? ⟨gb230,2,none⟩ = some (.int .i64 t228) := (blk_cell BK230.out 2).trans rfl
     have hcz105_3 : wr.cell? ⟨gb230,3,none⟩ = some (.int .i64 t229) := (blk_cell BK230.out 3).trans rfl
     have hfz105_0 := blk_frozen BK230.out 0
     have hfz105_1 := blk_frozen BK230.out 1
     have hfz105_2 := blk_frozen BK230.out 2
     have hfz105_3 := blk_frozen BK230.out 3
     go_wp2
     go_ret
     exact ⟨au2,by repeat (first | (with_reducible first | exact HB.out | apply below_alloc | apply pw_below_drewN | apply below_drew1 | refine below_set ?_ GE222.out | refine below_set ?_ GE230.out) | exact HB.out)⟩
 ·replace c3 := Bool.eq_false_iff.mpr c3
  subst c3
  have H1 : (some false) = some r := by rw [if_neg (show ¬ (false = true) by decide)] at H;exact H
  clear H
  have H := H1
  clear H1
  obtain rfl := Option.some.inj H
  cases hr_
end Go.Proofs.YtnpjaaldppemlaaDoor.U
end
