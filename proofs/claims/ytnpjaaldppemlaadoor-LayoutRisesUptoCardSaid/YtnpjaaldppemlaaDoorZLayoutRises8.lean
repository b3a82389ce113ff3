/- What the law LayoutRises reaches of this seat's own texts, merged; what nothing uses is left out. -/
import Derived.Test.YtnpjaaldppemlaaDoorZLayoutRises0
import Derived.Test.YtnpjaaldppemlaaDoorZLayoutRises1
import Derived.Test.YtnpjaaldppemlaaDoorZLayoutRises3
import Derived.Test.YtnpjaaldppemlaaDoorZLayoutRises4
import Derived.Test.YtnpjaaldppemlaaDoorZLayoutRises6
import Derived.Test.YtnpjaaldppemlaaDoorZLayoutRises7
section
namespace Go.Proofs.YtnpjaaldppemlaaDoor.U
open Go.RowKit Go.Proofs.YtnpjaaldppemlaaDoorW.PrintWords Go.Proofs.YtnpjaaldppemlaaDoorW.PrintLast Go.Proofs.YtnpjaaldppemlaaDoorW.PrintMore
attribute [local go_sem] max2_int min2_int max_two min_two max_three min_three max_four min_four   -- for this text's walks alone
set_option linter.unusedVariables false
set_option linter.unusedSimpArgs false
attribute [local go_sem high] eqA27
mutual
def bodkinlaw20_LayoutRises.l0 : Nat → List (S27) → Int → Int → Int → ByteArray → ByteArray → Int → Int → Option (Bool)
 | 0,_,_,_,_,_,_,_,_ => none
 | k + 1,x3,x4,x5,x6,x239000,x239001,x239002,x239003 => if x6 < (x3.length : Int) then (if 0 ≤ x6 then (if ((rd_T27 x3 x6).f0) < 0 then (bodkinlaw20_LayoutRises.j1 k x3 x4 x5 x6 true x239000 x239001 x239002 x239003) else (if ((rd_T27 x3 x6).f0) ≥ x4 then (bodkinlaw20_LayoutRises.j1 k x3 x4 x5 x6 true x239000 x239001 x239002 x239003) else (if ((rd_T27 x3 x6).f1) < 0 then (bodkinlaw20_LayoutRises.j1 k x3 x4 x5 x6 true x239000 x239001 x239002 x239003) else ((bodkinlaw20_width.f x239003).bind fun t248 => (bodkinlaw20_LayoutRises.j1 k x3 x4 x5 x6 (decide (((rd_T27 x3 x6).f1) ≥ t248)) x239000 x239001 x239002 x239003))))) else (none)) else ((cluster_Count.f x239001).bind fun t272 => (if (x3.length : Int) = (wrap64 (t272 + 1)) then (if 0 ≤ (wrap64 ((x3.length : Int) - 1)) then (if (wrap64 ((x3.length : Int) - 1)) < (x3.length : Int) then (bodkinlaw20_LayoutRises.j5 k x3 (((rd_T27 x3 (wrap64 ((x3.length : Int) - 1))).f0) != (wrap64 (x4 - 1))) x239000 x239001 x239002 x239003) else (none)) else (none)) else (bodkinlaw20_LayoutRises.j5 k x3 true x239000 x239001 x239002 x239003)))
def bodkinlaw20_LayoutRises.j1 : Nat → List (S27) → Int → Int → Int → Bool → ByteArray → ByteArray → Int → Int → Option (Bool)
 | 0,_,_,_,_,_,_,_,_,_ => none
 | k + 1,x3,x4,x5,x6,x64,x239000,x239001,x239002,x239003 => if x64 = true then (some false) else (if x6 > 0 then (if 0 ≤ x6 then (if x6 < (x3.length : Int) then (if 0 ≤ (wrap64 (x6 - 1)) then (if (wrap64 (x6 - 1)) < (x3.length : Int) then (if ((rd_T27 x3 x6).f0) < ((rd_T27 x3 (wrap64 (x6 - 1))).f0) then (bodkinlaw20_LayoutRises.j2 k x3 x4 x5 x6 true x239000 x239001 x239002 x239003) else (if ((rd_T27 x3 x6).f0) = ((rd_T27 x3 (wrap64 (x6 - 1))).f0) then (bodkinlaw20_LayoutRises.j2 k x3 x4 x5 x6 (decide (((rd_T27 x3 x6).f1) ≤ ((rd_T27 x3 (wrap64 (x6 - 1))).f1))) x239000 x239001 x239002 x239003) else (bodkinlaw20_LayoutRises.j2 k x3 x4 x5 x6 false x239000 x239001 x239002 x239003))) else (none)) else (none)) else (none)) else (none)) else (bodkinlaw20_LayoutRises.j2 k x3 x4 x5 x6 false x239000 x239001 x239002 x239003))
def bodkinlaw20_LayoutRises.j2 : Nat → List (S27) → Int → Int → Int → Bool → ByteArray → ByteArray → Int → Int → Option (Bool)
 | 0,_,_,_,_,_,_,_,_,_ => none
 | k + 1,x3,x4,x5,x6,x108,x239000,x239001,x239002,x239003 => if x108 = true then (some false) else ((cluster_Next.f k x239001 x5).bind fun t255 => (if x6 < 40 then ((layout_Lay.f x239000 x239001 x5 x239003).bind fun bt256 => (if 0 ≤ x6 then (if x6 < (x3.length : Int) then (if (!(bt256.2.2.1 == ((rd_T27 x3 x6).f0)) || (!(bt256.2.2.2 == ((rd_T27 x3 x6).f1)))) = true then (bodkinlaw20_LayoutRises.j3 k x3 x4 x5 x6 t255 true x239000 x239001 x239002 x239003) else ((bodkinlaw20_width.f x239003).bind fun t264 => (if bt256.1 = t264 then (bodkinlaw20_LayoutRises.j3 k x3 x4 x5 x6 t255 ((bt256.2.1.length : Int) != x4) x239000 x239001 x239002 x239003) else (bodkinlaw20_LayoutRises.j3 k x3 x4 x5 x6 t255 true x239000 x239001 x239002 x239003)))) else (none)) else (none))) else (if (wrap64 (x6 + 1)) < (x3.length : Int) then (if t255 ≤ x5 then (some false) else (bodkinlaw20_LayoutRises.l0 k x3 x4 t255 (wrap64 (x6 + 1)) x239000 x239001 x239002 x239003)) else (bodkinlaw20_LayoutRises.l0 k x3 x4 t255 (wrap64 (x6 + 1)) x239000 x239001 x239002 x239003))))
def bodkinlaw20_LayoutRises.j3 : Nat → List (S27) → Int → Int → Int → Int → Bool → ByteArray → ByteArray → Int → Int → Option (Bool)
 | 0,_,_,_,_,_,_,_,_,_,_ => none
 | k + 1,x3,x4,x5,x6,x7,x144,x239000,x239001,x239002,x239003 => if x144 = true then (some false) else (if (wrap64 (x7 - x5)) > 1 then ((layout_Lay.f x239000 x239001 (wrap64 (x7 - 1)) x239003).bind fun bt265 => (if 0 ≤ x6 then (if x6 < (x3.length : Int) then (bodkinlaw20_LayoutRises.j4 k x3 x4 x5 x6 x7 (!(bt265.2.2.1 == ((rd_T27 x3 x6).f0)) || (!(bt265.2.2.2 == ((rd_T27 x3 x6).f1)))) x239000 x239001 x239002 x239003) else (none)) else (none))) else (bodkinlaw20_LayoutRises.j4 k x3 x4 x5 x6 x7 false x239000 x239001 x239002 x239003))
def bodkinlaw20_LayoutRises.j4 : Nat → List (S27) → Int → Int → Int → Int → Bool → ByteArray → ByteArray → Int → Int → Option (Bool)
 | 0,_,_,_,_,_,_,_,_,_,_ => none
 | k + 1,x3,x4,x5,x6,x7,x165,x239000,x239001,x239002,x239003 => if x165 = true then (some false) else (if (wrap64 (x6 + 1)) < (x3.length : Int) then (if x7 ≤ x5 then (some false) else (bodkinlaw20_LayoutRises.l0 k x3 x4 x7 (wrap64 (x6 + 1)) x239000 x239001 x239002 x239003)) else (bodkinlaw20_LayoutRises.l0 k x3 x4 x7 (wrap64 (x6 + 1)) x239000 x239001 x239002 x239003))
def bodkinlaw20_LayoutRises.j5 : Nat → List (S27) → Bool → ByteArray → ByteArray → Int → Int → Option (Bool)
 | 0,_,_,_,_,_,_ => none
 | k + 1,x3,x195,x239000,x239001,x239002,x239003 => if x195 = true then (some false) else ((layout_Lay.f x239000 x239001 (-5) x239003).bind fun bt274 => (if 0 < (x3.length : Int) then (if (bt274.2.2.1 == ((rd_T27 x3 0).f0) && (bt274.2.2.2 == ((rd_T27 x3 0).f1))) = true then ((layout_Lay.f x239000 x239001 (wrap64 ((x239001.size : Int) + 7)) x239003).bind fun bt281 => (if 0 ≤ (wrap64 ((x3.length : Int) - 1)) then (if (wrap64 ((x3.length : Int) - 1)) < (x3.length : Int) then (some (bt281.2.2.1 == ((rd_T27 x3 (wrap64 ((x3.length : Int) - 1))).f0) && (bt281.2.2.2 == ((rd_T27 x3 (wrap64 ((x3.length : Int) - 1))).f1)))) else (none)) else (none))) else (some false)) else (none)))
end
def bodkinlaw20_LayoutRises.f (k : Nat) (a0_0 : ByteArray) (a0_1 : ByteArray) (a0_2 : Int) (a0_3 : Int) : Option (Bool) := (bodkinlaw20_awake.f k).bind fun t239 => (if t239 = true then ((layout_Places.f a0_0 a0_1 a0_3).bind fun t240 => ((layout_Rows.f a0_0 a0_1 a0_3).bind fun t243 => (bodkinlaw20_LayoutRises.l0 k t240 t243 0 0 a0_0 a0_1 a0_2 a0_3))) else (some false))
def bodkinlaw20_LayoutRises.T9 : Bool × List (List Nat × List Nat) := (true,[([],[]),([],[]),([0,1],[0,1]),([2],[2]),([3],[3]),([4],[4]),([5],[5]),([6],[6]),([6],[6]),([7,8,6],[6,7,8]),([9,6],[6,9]),([10,6],[6,10]),([6],[6]),([11,12,6],[6,11,12]),([6,13],[6,13]),([14,6],[14]),([15],[15]),([15],[15]),([16,17,15],[15,16,17]),([18,15],[15,18]),([19,15],[15,19]),([20,15],[15,20]),([15,21],[15,21]),([22,15],[22]),([23],[23]),([23],[23]),([24,25,23],[23,24,25]),([26,23],[23,26]),([27,23],[23,27]),([23],[23]),([29,23],[23,29]),([30,23,23],[23,30]),([28,31,23],[23,28,31]),([23,32],[23,32])])
def bodkinlaw20_LayoutRises.B9 : List Nat := [0,0,3,7,15,31,63,127,127,511,1023,2047,127,8191,16383,32767,65535,65535,262143,524287,1048575,2097151,4194303,8388607,16777215,16777215,67108863,134217727,268435455,16777215,553648127,1627389951,4294967295,8589934591]
theorem bodkinlaw20_LayoutRises.tab9 : rtab .any (opsOf Tryd.f11 9) = bodkinlaw20_LayoutRises.T9 := by kernel_rfl
theorem bodkinlaw20_LayoutRises.bits9 : waitsOk bodkinlaw20_LayoutRises.T9.2 bodkinlaw20_LayoutRises.B9 = true := by kernel_rfl
def bodkinlaw20_LayoutRises.T11 : Bool × List (List Nat × List Nat) := (true,[([],[]),([0],[0]),([1],[1]),([2],[2]),([2],[2]),([3,4,2],[2,3,4]),([5,2],[2,5]),([6,2],[2,6]),([2],[2]),([2],[2]),([9,2],[2,9]),([8,10,2],[2,8,10]),([11,2],[2,11]),([12,2],[2,12]),([7,13,2],[2,7,13]),([14,2,2],[2,14]),([15],[15]),([15],[15]),([16,17,15],[15,16,17]),([18,15],[15,18]),([19,15],[15,19]),([15],[15]),([15],[15]),([22,15],[15,22]),([21,23,15],[15,21,23]),([24,15],[15,24]),([25,15],[15,25]),([20,26,15],[15,20,26]),([27,15,15],[15,27]),([28],[28]),([28],[28]),([29,30,28],[28,29,30]),([31,28],[28,31]),([32,28],[28,32]),([28],[28]),([28],[28]),([35,28],[28,35]),([34,36,28],[28,34,36]),([37,28],[28,37]),([38,28],[28,38]),([33,39,28],[28,33,39]),([28,40,15],[15,28,40]),([15,41,2],[2,15,41]),([2,42],[2,42])])
def bodkinlaw20_LayoutRises.B11 : List Nat := [0,1,3,7,7,31,63,127,7,7,519,1799,3847,7943,16383,32767,65535,65535,262143,524287,1048575,65535,65535,4259839,14745599,31522815,65077247,134217727,268435455,536870911,536870911,2147483647,4294967295,8589934591,536870911,536870911,34896609279,120795955199,258234908671,533112815615,1099511627775,2199023255551,4398046511103,8796093022207]
theorem bodkinlaw20_LayoutRises.tab11 : rtab .any (opsOf Tryd.f11 11) = bodkinlaw20_LayoutRises.T11 := by kernel_rfl
theorem bodkinlaw20_LayoutRises.bits11 : waitsOk bodkinlaw20_LayoutRises.T11.2 bodkinlaw20_LayoutRises.B11 = true := by kernel_rfl
def bodkinlaw20_LayoutRises.T16 : Bool × List (List Nat × List Nat) := (true,[([],[]),([0],[0]),([],[]),([],[]),([2,3],[2,3]),([4],[4]),([1,5],[1,5]),([6],[6]),([7],[7]),([8,7],[7,8]),([7],[7]),([10,7],[7,10]),([11,7,7],[7,11]),([9,12,7],[7,9,12]),([7,13],[7,13]),([14,12],[14]),([15],[15]),([16,15],[15,16]),([17,15],[15,17]),([15],[15]),([18,19,15],[15,18,19]),([15,20],[15,20])])
def bodkinlaw20_LayoutRises.B16 : List Nat := [0,1,0,0,12,28,63,127,255,511,255,1279,3327,8191,16383,32767,65535,131071,262143,65535,1048575,2097151]
theorem bodkinlaw20_LayoutRises.tab16 : rtab .any (opsOf Tryd.f11 16) = bodkinlaw20_LayoutRises.T16 := by kernel_rfl
theorem bodkinlaw20_LayoutRises.bits16 : waitsOk bodkinlaw20_LayoutRises.T16.2 bodkinlaw20_LayoutRises.B16 = true := by kernel_rfl
def bodkinlaw20_LayoutRises.T18 : Bool × List (List Nat × List Nat) := (true,[([],[]),([],[]),([0,1],[0,1]),([2],[2]),([3],[3]),([4],[4]),([5,4],[4,5]),([4],[4]),([7,4],[4,7]),([4],[4]),([9,4],[4,9]),([4],[4]),([11,4],[4,11]),([6,8,10,12,4,4],[4,6,8,10,12]),([13,4],[4,13]),([4],[4]),([4],[4]),([15,16,4],[4,15,16]),([17,4],[4,17]),([14,18,4],[4,14,18]),([4,19],[4,19])])
def bodkinlaw20_LayoutRises.B18 : List Nat := [0,0,3,7,15,31,63,31,159,31,543,31,2079,8191,16383,31,31,98335,229407,524287,1048575]
theorem bodkinlaw20_LayoutRises.tab18 : rtab .any (opsOf Tryd.f11 18) = bodkinlaw20_LayoutRises.T18 := by kernel_rfl
theorem bodkinlaw20_LayoutRises.bits18 : waitsOk bodkinlaw20_LayoutRises.T18.2 bodkinlaw20_LayoutRises.B18 = true := by kernel_rfl
def bodkinlaw20_LayoutRises.T25 : Bool × List (List Nat × List Nat) := (true,[([],[]),([0],[0]),([],[]),([2],[2]),([],[]),([4],[4]),([1,3,5],[1,3,5]),([6],[6]),([],[]),([8],[8]),([9],[9]),([7,10],[7,10]),([11,6],[11]),([12],[12]),([13,12],[12,13]),([12],[12]),([15,12],[12,15]),([12],[12]),([17,12],[12,17]),([18,12],[12,18]),([19,12],[12,19]),([12],[12]),([21,12],[12,21]),([14,16,20,22,12,12],[12,14,16,20,22]),([23,12],[12,23]),([12],[12]),([12],[12]),([26,12],[12,26]),([27,12],[12,27]),([25,28,12],[12,25,28]),([29,12],[12,29]),([24,30,12],[12,24,30]),([12,31],[12,31]),([32,23,0,1,2,3,4,5,6,7,8,9,10,11,12,13,14,15,16,17,18,19,20,21,22,23,24,25,26,27,28,29,30,31,32],[32])])
def bodkinlaw20_LayoutRises.B25 : List Nat := [0,1,0,4,0,16,63,127,0,256,768,2047,4095,8191,16383,8191,40959,8191,139263,401407,925695,8191,2105343,8388607,16777215,8191,8191,67117055,201334783,503324671,1040195583,2147483647,4294967295,8589934591]
theorem bodkinlaw20_LayoutRises.tab25 : rtab .any (opsOf Tryd.f11 25) = bodkinlaw20_LayoutRises.T25 := by kernel_rfl
theorem bodkinlaw20_LayoutRises.bits25 : waitsOk bodkinlaw20_LayoutRises.T25.2 bodkinlaw20_LayoutRises.B25 = true := by kernel_rfl
set_option maxHeartbeats 8000000 in
set_option maxRecDepth 100000 in
theorem bodkinlaw20_LayoutRises.calls (k : Nat) (a0_0 : ByteArray) (a0_1 : ByteArray) (a0_2 : Int) (a0_3 : Int) (r : Bool) (hr_ : r = true) (w : World) (hT : Lib.Utf8Tabs 0 1 w) (h : bodkinlaw20_LayoutRises.f k a0_0 a0_1 a0_2 a0_3 = some r) :
  Calls Tryd.prog 11 #[.agg #[.string a0_0,.string a0_1,.int .i64 a0_2,.int .i64 a0_3]] w fun e w' => e = .returned (.bool r) ∧ Below w.heap.size w w' := by
 have hu23 := Tryd.underlying23
 have hu29 := Tryd.underlying29
 have hu27 := Tryd.underlying27
 have hfd29_2 : ∀ (x0 x1 x2 x3 : Value) (W : World),(Instr.field 29 (.agg #[x0,x1,x2,x3]) 2).run Tryd.prog W = .ok (.agg #[x2,x3]) W := fun _ _ _ _ _ => by kernel_rfl
 have HT := Aside0.mk hT
 clear hT
 have HB := Aside0.mk (Below.refl w.heap.size w)
 have H : ((bodkinlaw20_awake.f k).bind fun t239 => (if t239 = true then ((layout_Places.f a0_0 a0_1 a0_3).bind fun t240 => ((layout_Rows.f a0_0 a0_1 a0_3).bind fun t243 => (bodkinlaw20_LayoutRises.l0 k t240 t243 0 0 a0_0 a0_1 a0_2 a0_3))) else (some false))) = some r := h
 clear h
 replace H := Option.bind_eq_some_iff.mp H
 obtain ⟨t239,A20,H⟩ := H
 replace H : (if t239 = true then ((layout_Places.f a0_0 a0_1 a0_3).bind fun t240 => ((layout_Rows.f a0_0 a0_1 a0_3).bind fun t243 => (bodkinlaw20_LayoutRises.l0 k t240 t243 0 0 a0_0 a0_1 a0_2 a0_3))) else (some false)) = some r := H
 have A2 := Aside0.mk A20
 clear A20
 by_cases c3 : t239 = true
 ·subst c3
  have H1 : ((layout_Places.f a0_0 a0_1 a0_3).bind fun t240 => ((layout_Rows.f a0_0 a0_1 a0_3).bind fun t243 => (bodkinlaw20_LayoutRises.l0 k t240 t243 0 0 a0_0 a0_1 a0_2 a0_3))) = some r := by rw [if_pos rfl] at H;exact H
  clear H
  have H := H1
  clear H1
  replace H := Option.bind_eq_some_iff.mp H
  obtain ⟨t240,A40,H⟩ := H
  replace H : ((layout_Rows.f a0_0 a0_1 a0_3).bind fun t243 => (bodkinlaw20_LayoutRises.l0 k t240 t243 0 0 a0_0 a0_1 a0_2 a0_3)) = some r := H
  have A4 := Aside0.mk A40
  clear A40
  replace H := Option.bind_eq_some_iff.mp H
  obtain ⟨t243,A50,H⟩ := H
  replace H : (bodkinlaw20_LayoutRises.l0 k t240 t243 0 0 a0_0 a0_1 a0_2 a0_3) = some r := H
  have A5 := Aside0.mk A50
  clear A50
  have H' := Aside0.mk H
  clear H
  go_enter Tryd.func11,Tryd.ntmps11
  go_wp2_with (first | ((with_reducible refine gate_dst (N := 1) rfl ?_);(try (refine gate_guard (by rfl) ?_;dsimp only));refine box_event ?hg (N := 1) ?hd (cs := #[.string a0_0,.string a0_1,.int .i64 a0_2,.int .i64 a0_3]) (t := 23) ?hr ?_;(case hd => rfl);(case hg => rfl);(case hr => first | (go_simp;done) | (go_simp;rfl));intro gb238 hg w6 hbox hb;have n0_ := Aside0.mk (below_step au0 hb);have n1_ := Aside0.mk (hbox);have n2_ := Aside0.mk ((by rw [hg];exact (below_size au0) : w.heap.size ≤ gb238));have n3_ := Aside0.mk ((by rw [hg];exact (below_size au0) : w.heap.size ≤ gb238));clear HB;have HB := n0_;have BK238 := n1_;have GW238 := n2_;have GE238 := n3_;clear n0_ n1_ n2_ n3_;clear hb hbox hg) | ((with_reducible refine gate_callee (f := 12) rfl ?_);refine goesL_ (some 9) rfl rfl Tryd.func12 (by kernel_rfl) rfl #[] rfl au1 ?_;(with_reducible refine (bodkinlaw20_awake.calls k true rfl _ ?side1 A2.out).mono ?_);(case side1 => exact tabs_below HT.out au2);rintro e w7 ⟨rfl,hb⟩;refine ⟨_,rfl,?_⟩;have n0_ := Aside0.mk (blk_below (g := gb238) (o := .cells #[.string a0_0,.string a0_1,.int .i64 a0_2,.int .i64 a0_3] 23 (0,0)) au8 hb);have n1_ := Aside0.mk (below_step au2 hb);clear BK238;clear HB;have BK238 := n0_;have HB := n1_;clear n0_ n1_;(try clear hb);(try clear hb2);(try clear hk);(try clear hi);have hcz8_0 : w7.cell? ⟨gb238,0,none⟩ = some (.string a0_0) := (blk_cell BK238.out 0).trans rfl;have hcz8_1 : w7.cell? ⟨gb238,1,none⟩ = some (.string a0_1) := (blk_cell BK238.out 1).trans rfl;have hcz8_2 : w7.cell? ⟨gb238,2,none⟩ = some (.int .i64 a0_2) := (blk_cell BK238.out 2).trans rfl;have hcz8_3 : w7.cell? ⟨gb238,3,none⟩ = some (.int .i64 a0_3) := (blk_cell BK238.out 3).trans rfl;have hfz8_0 := blk_frozen BK238.out 0;have hfz8_1 := blk_frozen BK238.out 1;have hfz8_2 := blk_frozen BK238.out 2;have hfz8_3 := blk_frozen BK238.out 3) | ((with_reducible refine gate_callee (f := 25) rfl ?_);refine goesL_ (some 17) rfl rfl Tryd.func25 (by kernel_rfl) rfl #[.string a0_0,.string a0_1,.int .i64 a0_3] rfl au1 ?_;(with_reducible refine (layout_Places.calls a0_0 a0_1 a0_3 t240 _ ?side1 A4.out).mono ?_);(case side1 => exact tabs_below HT.out au2);rintro e w9 ⟨v241,rfl,ho0,hb⟩;refine ⟨_,rfl,?_⟩;have n0_ := Aside0.mk (Kd.R_lower ho0 (below_size au2));have n1_ := Aside0.mk (blk_below (g := gb238) (o := .cells #[.string a0_0,.string a0_1,.int .i64 a0_2,.int .i64 a0_3] 23 (0,0)) au8 hb);have n2_ := Aside0.mk (below_step au2 hb);clear BK238;clear HB;have HO242 := n0_;have BK238 := n1_;have HB := n2_;clear n0_ n1_ n2_;(try clear hb);(try clear hb2);(try clear hk);(try clear hi);(try clear ho0);have hcz10_0 : w9.cell? ⟨gb238,0,none⟩ = some (.string a0_0) := (blk_cell BK238.out 0).trans rfl;have hcz10_1 : w9.cell? ⟨gb238,1,none⟩ = some (.string a0_1) := (blk_cell BK238.out 1).trans rfl;have hcz10_2 : w9.cell? ⟨gb238,2,none⟩ = some (.int .i64 a0_2) := (blk_cell BK238.out 2).trans rfl;have hcz10_3 : w9.cell? ⟨gb238,3,none⟩ = some (.int .i64 a0_3) := (blk_cell BK238.out 3).trans rfl;have hfz10_0 := blk_frozen BK238.out 0;have hfz10_1 := blk_frozen BK238.out 1;have hfz10_2 := blk_frozen BK238.out 2;have hfz10_3 := blk_frozen BK238.out 3) | ((with_reducible refine gate_callee (f := 27) rfl ?_);refine goesL_ (some 24) rfl rfl Tryd.func27 (by kernel_rfl) rfl #[.string a0_0,.string a0_1,.int .i64 a0_3] rfl au1 ?_;(with_reducible refine (layout_Rows.calls a0_0 a0_1 a0_3 t243 _ ?side1 A5.out).mono ?_);(case side1 => exact tabs_below HT.out au2);rintro e w11 ⟨rfl,hb⟩;refine ⟨_,rfl,?_⟩;have n0_ := Aside0.mk (Kd.R_below (by (with_reducible repeat (first | apply Kd.R_alloc | apply Kd.R_drewN | apply Kd.R_drew));exact HO242.out) hb);have n1_ := Aside0.mk (blk_below (g := gb238) (o := .cells #[.string a0_0,.string a0_1,.int .i64 a0_2,.int .i64 a0_3] 23 (0,0)) au8 hb);have n2_ := Aside0.mk (below_step au2 hb);clear HO242;clear BK238;clear HB;have HO242 := n0_;have BK238 := n1_;have HB := n2_;clear n0_ n1_ n2_;(try clear hb);(try clear hb2);(try clear hk);(try clear hi)))
  go_loopg [5,6] k (fun kq v5 v6 w' => ∃ (x5_1 : Int) (x6_1 : Int),v5 = .int .i64 x5_1 ∧ v6 = .int .i64 x6_1 ∧ Aside0 (bodkinlaw20_LayoutRises.l0 kq t240 t243 x5_1 x6_1 a0_0 a0_1 a0_2 a0_3 = some r) ∧ Aside0 (kq ≤ k) ∧ Aside0 (Kd.R k27 27 w' w.heap.size (fun _ => True) v241 t240) ∧ Aside0 (w'.heap[gb238]? = some (.cells #[.string a0_0,.string a0_1,.int .i64 a0_2,.int .i64 a0_3] 23 (0,0))) ∧ Aside0 (Below w.heap.size w w'))
  case atStart => exact ⟨(0),(0),au9,au9,H',⟨Nat.le_refl _⟩,⟨by (with_reducible repeat (first | apply Kd.R_alloc | apply Kd.R_drewN | apply Kd.R_drew));exact HO242.out⟩,⟨by (with_reducible repeat (first | refine blk_drewN ?_ _ | refine blk_drew ?_ | refine blk_alloc ?_ _));exact BK238.out⟩,⟨by repeat (first | (with_reducible first | exact HB.out | apply below_alloc | apply pw_below_drewN | apply below_drew1 | refine below_set ?_ GE238.out) | exact HB.out)⟩⟩
  case round => as_aux_lemma =>
   clear H'
   try clear c1
   try clear c2
   try clear p2
   try clear c3
   try clear c11
   try clear hcz10_0
   try clear hcz10_1
   try clear hcz10_2
   try clear hcz10_3
   try clear hcz8_0
   try clear hcz8_1
   try clear hcz8_2
   try clear hcz8_3
   try clear hfz10_0
   try clear hfz10_1
   try clear hfz10_2
   try clear hfz10_3
   try clear hfz8_0
   try clear hfz8_1
   try clear hfz8_2
   try clear hfz8_3
   obtain ⟨x5_1,x6_1,rfl,rfl,HA,HK1,HO_3,BK238,HB⟩ := hrel
   cases gk with
   | zero => exact absurd HA.out (by simp [bodkinlaw20_LayoutRises.l0])
   | succ k1 =>
    have H := HA.out
    clear HA
    simp only [bodkinlaw20_LayoutRises.l0] at H
    by_cases c12 : x6_1 < (t240.length : Int)
    ·rw [if_pos c12] at H
     have c12b0 : decide (x6_1 < (t240.length : Int)) = true := decide_eq_true c12
     clear c12
     have HC13 := Aside0.mk H
     clear H
     obtain ⟨Ao14,co14,eo14⟩ := Kd.R_slice HO_3.out
     subst eo14
     go_upto_region 9 with (fail)
     go_cut [64] (fun v64 wc => ∃ (kq : Nat) (x64_12 : Bool),v64 = .bool x64_12 ∧ Aside0 (bodkinlaw20_LayoutRises.j1 kq t240 t243 x5_1 x6_1 x64_12 a0_0 a0_1 a0_2 a0_3 = some r) ∧ Aside0 (kq ≤ k1) ∧ Aside0 (Kd.R k27 27 wc w.heap.size (fun _ => True) (.slice Ao14 t240.length co14) t240) ∧ Aside0 (wc.heap[gb238]? = some (.cells #[.string a0_0,.string a0_1,.int .i64 a0_2,.int .i64 a0_3] 23 (0,0))) ∧ Aside0 (Below w.heap.size w wc))
     case first => as_aux_lemma =>
      have H := HC13.out
      clear HC13
      by_cases c15 : 0 ≤ x6_1
      ·rw [if_pos c15] at H
       have c15b0 : decide (0 ≤ x6_1) = true := decide_eq_true c15
       clear c15
       (first | rw [c15b0] | (simp only [i64_w,i32_w];rw [c15b0]) | skip)
       by_cases c16 : ((rd_T27 t240 x6_1).f0) < 0
       ·rw [if_pos c16] at H
        exfalso
        subst hr_
        cases k1 <;> simp [bodkinlaw20_LayoutRises.j1] at H
       ·rw [if_neg c16] at H
        have c16b0 : decide (((rd_T27 t240 x6_1).f0) < 0) = false := decide_eq_false c16
        clear c16
        by_cases c18 : ((rd_T27 t240 x6_1).f0) ≥ t243
        ·rw [if_pos c18] at H
         exfalso
         subst hr_
         cases k1 <;> simp [bodkinlaw20_LayoutRises.j1] at H
        ·rw [if_neg c18] at H
         have c18b0 : decide (t243 ≤ ((rd_T27 t240 x6_1).f0)) = false := decide_eq_false c18
         clear c18
         by_cases c20 : ((rd_T27 t240 x6_1).f1) < 0
         ·rw [if_pos c20] at H
          exfalso
          subst hr_
          cases k1 <;> simp [bodkinlaw20_LayoutRises.j1] at H
         ·rw [if_neg c20] at H
          have c20b0 : decide (((rd_T27 t240 x6_1).f1) < 0) = false := decide_eq_false c20
          clear c20
          replace H := Option.bind_eq_some_iff.mp H
          obtain ⟨t248,A220,H⟩ := H
          replace H : (bodkinlaw20_LayoutRises.j1 k1 t240 t243 x5_1 x6_1 (decide (((rd_T27 t240 x6_1).f1) ≥ t248)) a0_0 a0_1 a0_2 a0_3) = some r := H
          have A22 := Aside0.mk A220
          clear A220
          have H' := Aside0.mk H
          clear H
          try go_wp2
          have n0_ := Aside0.mk (Kd.R_drew HO_3.out)
          have n1_ := Aside0.mk (blk_drew BK238.out)
          have n2_ := Aside0.mk (below_drew1 HB.out)
          clear HO_3
          clear BK238
          clear HB
          have HO_3 := n0_
          have BK238 := n1_
          have HB := n2_
          clear n0_ n1_ n2_
          have p244 : 0 ≤ (x6_1 : Int) := of_decide_eq_true au4
          have q244 : x6_1 < (t240.length : Int) := of_decide_eq_true au4
          obtain ⟨ad244,e244,hx244_0,hx244_1⟩ := at_T27 (Kd.R_reads' HO_3.out).2.2 x6_1 p244 q244
          cases e244
          replace p244 := eq_true p244
          replace q244 := eq_true q244
          have p245 : 0 ≤ (x6_1 : Int) := of_decide_eq_true au4
          have q245 : x6_1 < (t240.length : Int) := of_decide_eq_true au4
          obtain ⟨ad245,e245,hx245_0,hx245_1⟩ := at_T27 (Kd.R_reads' HO_3.out).2.2 x6_1 p245 q245
          obtain rfl : ad244 = ad245 := (by injection e245)
          replace p245 := eq_true p245
          replace q245 := eq_true q245
          have p246 : 0 ≤ (x6_1 : Int) := of_decide_eq_true au4
          have q246 : x6_1 < (t240.length : Int) := of_decide_eq_true au4
          obtain ⟨ad246,e246,hx246_0,hx246_1⟩ := at_T27 (Kd.R_reads' HO_3.out).2.2 x6_1 p246 q246
          obtain rfl : ad244 = ad246 := (by injection e246)
          replace p246 := eq_true p246
          replace q246 := eq_true q246
          have p247 : 0 ≤ (x6_1 : Int) := of_decide_eq_true au4
          have q247 : x6_1 < (t240.length : Int) := of_decide_eq_true au4
          obtain ⟨ad247,e247,hx247_0,hx247_1⟩ := at_T27 (Kd.R_reads' HO_3.out).2.2 x6_1 p247 q247
          obtain rfl : ad244 = ad247 := (by injection e247)
          replace p247 := eq_true p247
          replace q247 := eq_true q247
          refine start_ (n := 34) (S := fun w' => w'.cell? ⟨gb238,0,none⟩ = some (.string a0_0) ∧ w'.cell? ⟨gb238,1,none⟩ = some (.string a0_1) ∧ w'.cell? ⟨gb238,2,none⟩ = some (.int .i64 a0_2) ∧ w'.cell? ⟨gb238,3,none⟩ = some (.int .i64 a0_3) ∧ w'.cell? (ad244.add ((x6_1).toNat * 2)) = some (.int .i64 ((rd_T27 t240 x6_1).f0)) ∧ w'.cell? ⟨(ad244.add ((x6_1).toNat * 2)).block,(ad244.add ((x6_1).toNat * 2)).off + 1,none⟩ = some (.int .i64 ((rd_T27 t240 x6_1).f1)) ∧ w'.cell? (ad244.add ((x6_1).toNat * 2)) = some (.int .i64 ((rd_T27 t240 x6_1).f0)) ∧ w'.cell? ⟨(ad244.add ((x6_1).toNat * 2)).block,(ad244.add ((x6_1).toNat * 2)).off + 1,none⟩ = some (.int .i64 ((rd_T27 t240 x6_1).f1)) ∧ w'.cell? (ad244.add ((x6_1).toNat * 2)) = some (.int .i64 ((rd_T27 t240 x6_1).f0)) ∧ w'.cell? ⟨(ad244.add ((x6_1).toNat * 2)).block,(ad244.add ((x6_1).toNat * 2)).off + 1,none⟩ = some (.int .i64 ((rd_T27 t240 x6_1).f1)) ∧ w'.cell? (ad244.add ((x6_1).toNat * 2)) = some (.int .i64 ((rd_T27 t240 x6_1).f0)) ∧ w'.cell? ⟨(ad244.add ((x6_1).toNat * 2)).block,(ad244.add ((x6_1).toNat * 2)).off + 1,none⟩ = some (.int .i64 ((rd_T27 t240 x6_1).f1))) (ds := []) #[false,false,false,false,false,false,false,false,false,false,false,false,false,false,false,false,false,false,false,false,false,false,false,false,false,false,false,false,false,false,false,false,false,false] (by kernel_rfl) rfl rfl ⟨(blk_cell BK238.out 0).trans rfl,(blk_cell BK238.out 1).trans rfl,(blk_cell BK238.out 2).trans rfl,(blk_cell BK238.out 3).trans rfl,hx244_0,hx244_1,hx245_0,hx245_1,hx246_0,hx246_1,hx247_0,hx247_1⟩ (fun hHeld => ?_);refine with_tabW bodkinlaw20_LayoutRises.tab9 bodkinlaw20_LayoutRises.bits9 (fun HT_ HW_ => ?_)
          generalize wr.drew = w23 at HO_3 BK238 HB hx244_0 hx244_1 hx245_0 hx245_1 hx246_0 hx246_1 hx247_0 hx247_1 hHeld ⊢
          refine pure_ (i := 0) (N := some 31) (v := ?_) (a' := ?_) #[true,false,false,false,false,false,false,false,false,false,false,false,false,false,false,false,false,false,false,false,false,false,false,false,false,false,false,false,false,false,false,false,false,false] rfl rfl (any_of HT_.out (by kernel_rfl)) (fun _ _ _ h => h) (Or.inl ⟨by rfl,?_⟩) ?_ ?_
          rotate_left
          ·intro w'
           go_simp
           with_reducible rfl
          rotate_left
          ·simp only [Act.put,List.setIfInBounds_toArray,List.set_cons_zero,List.set_cons_succ,i64_w,i32_w]
           rfl
          refine pure_ (i := 1) (N := some 32) (v := ?_) (a' := ?_) #[true,true,false,false,false,false,false,false,false,false,false,false,false,false,false,false,false,false,false,false,false,false,false,false,false,false,false,false,false,false,false,false,false,false] rfl rfl (any_of HT_.out (by kernel_rfl)) (fun _ _ _ h => h) (Or.inl ⟨by rfl,?_⟩) ?_ ?_
          rotate_left
          ·intro w'
           go_simp
           with_reducible rfl
          rotate_left
          ·simp only [Act.put,List.setIfInBounds_toArray,List.set_cons_zero,List.set_cons_succ,i64_w,i32_w]
           rfl
          refine pure_ (i := 2) (N := some 33) (v := ?_) (a' := ?_) #[true,true,true,false,false,false,false,false,false,false,false,false,false,false,false,false,false,false,false,false,false,false,false,false,false,false,false,false,false,false,false,false,false,false] rfl rfl (any_of HT_.out (by kernel_rfl)) (fun _ _ _ h => h) (Or.inl ⟨by rfl,?_⟩) ?_ ?_
          rotate_left
          ·intro w'
           go_simp
           with_reducible rfl
          rotate_left
          ·simp only [Act.put,List.setIfInBounds_toArray,List.set_cons_zero,List.set_cons_succ,i64_w,i32_w]
           rfl
          refine pure_ (i := 3) (N := some 34) (v := ?_) (a' := ?_) #[true,true,true,true,false,false,false,false,false,false,false,false,false,false,false,false,false,false,false,false,false,false,false,false,false,false,false,false,false,false,false,false,false,false] rfl rfl (any_of HT_.out (by kernel_rfl)) (fun _ _ _ h => h) (Or.inl ⟨by rfl,?_⟩) ?_ ?_
          rotate_left
          ·intro w'
           go_simp
           with_reducible rfl
          rotate_left
          ·simp only [Act.put,List.setIfInBounds_toArray,List.set_cons_zero,List.set_cons_succ,i64_w,i32_w]
           rfl
          refine take_ (i := 4) (N := some 35) (v := ?_) (a' := ?_) #[true,true,true,true,true,false,false,false,false,false,false,false,false,false,false,false,false,false,false,false,false,false,false,false,false,false,false,false,false,false,false,false,false,false] rfl rfl (take_ofW HT_.out HW_.out (by kernel_rfl)) (fun _ _ _ h => h) (Or.inl ⟨by rfl,?_⟩) hHeld ?_ ?_
          rotate_left
          ·rintro w' ⟨s0,s1,s2,s3,s4,s5,s6,s7,s8,s9,s10,s11⟩
           go_simp
           with_reducible rfl
          rotate_left
          ·simp only [Act.put,List.setIfInBounds_toArray,List.set_cons_zero,List.set_cons_succ,i64_w,i32_w]
           rfl
          refine pure_ (i := 5) (N := some 36) (v := ?_) (a' := ?_) #[true,true,true,true,true,true,false,false,false,false,false,false,false,false,false,false,false,false,false,false,false,false,false,false,false,false,false,false,false,false,false,false,false,false] rfl rfl (any_of HT_.out (by kernel_rfl)) (fun _ _ _ h => h) (Or.inl ⟨by rfl,?_⟩) ?_ ?_
          rotate_left
          ·intro w'
           go_simp
           with_reducible rfl
          rotate_left
          ·simp only [Act.put,List.setIfInBounds_toArray,List.set_cons_zero,List.set_cons_succ,i64_w,i32_w]
           rfl
          refine pure_ (i := 6) (N := some 37) (v := ?_) (a' := ?_) #[true,true,true,true,true,true,true,false,false,false,false,false,false,false,false,false,false,false,false,false,false,false,false,false,false,false,false,false,false,false,false,false,false,false] rfl rfl (any_of HT_.out (by kernel_rfl)) (fun _ _ _ h => h) (Or.inl ⟨by rfl,?_⟩) ?_ ?_
          rotate_left
          ·intro w'
           go_simp
           with_reducible rfl
          rotate_left
          ·simp only [Act.put,List.setIfInBounds_toArray,List.set_cons_zero,List.set_cons_succ,i64_w,i32_w]
           rfl
          refine pure_ (i := 7) (N := some 38) (v := ?_) (a' := ?_) #[true,true,true,true,true,true,true,true,false,false,false,false,false,false,false,false,false,false,false,false,false,false,false,false,false,false,false,false,false,false,false,false,false,false] rfl rfl (any_of HT_.out (by kernel_rfl)) (fun _ _ _ h => h) (Or.inl ⟨by rfl,?_⟩) ?_ ?_
          rotate_left
          ·intro w'
           go_simp
           with_reducible rfl
          rotate_left
          ·simp only [Act.put,List.setIfInBounds_toArray,List.set_cons_zero,List.set_cons_succ,i64_w,i32_w]
           rfl
          refine pure_ (i := 8) (N := some 39) (v := ?_) (a' := ?_) #[true,true,true,true,true,true,true,true,true,false,false,false,false,false,false,false,false,false,false,false,false,false,false,false,false,false,false,false,false,false,false,false,false,false] rfl rfl (any_of HT_.out (by kernel_rfl)) (fun _ _ _ h => h) (Or.inl ⟨by rfl,?_⟩) ?_ ?_
          rotate_left
          ·intro w'
           go_simp
           with_reducible rfl
          rotate_left
          ·simp only [Act.put,List.setIfInBounds_toArray,List.set_cons_zero,List.set_cons_succ,i64_w,i32_w]
           rfl
          refine pure_ (i := 9) (N := some 40) (v := ?_) (a' := ?_) #[true,true,true,true,true,true,true,true,true,true,false,false,false,false,false,false,false,false,false,false,false,false,false,false,false,false,false,false,false,false,false,false,false,false] rfl rfl (any_of HT_.out (by kernel_rfl)) (fun _ _ _ h => h) (Or.inl ⟨by rfl,?_⟩) ?_ ?_
          rotate_left
          ·intro w'
           go_simp
           with_reducible rfl
          rotate_left
          ·simp only [Act.put,List.setIfInBounds_toArray,List.set_cons_zero,List.set_cons_succ,i64_w,i32_w]
           rfl
          refine pure_ (i := 10) (N := some 41) (v := ?_) (a' := ?_) #[true,true,true,true,true,true,true,true,true,true,true,false,false,false,false,false,false,false,false,false,false,false,false,false,false,false,false,false,false,false,false,false,false,false] rfl rfl (any_of HT_.out (by kernel_rfl)) (fun _ _ _ h => h) (Or.inl ⟨by rfl,?_⟩) ?_ ?_
          rotate_left
          ·intro w'
           go_simp
           with_reducible rfl
          rotate_left
          ·simp only [Act.put,List.setIfInBounds_toArray,List.set_cons_zero,List.set_cons_succ,i64_w,i32_w]
           rfl
          refine pure_ (i := 12) (N := some 43) (v := ?_) (a' := ?_) #[true,true,true,true,true,true,true,true,true,true,true,false,true,false,false,false,false,false,false,false,false,false,false,false,false,false,false,false,false,false,false,false,false,false] rfl rfl (any_of HT_.out (by kernel_rfl)) (fun _ _ _ h => h) (Or.inl ⟨by rfl,?_⟩) ?_ ?_
          rotate_left
          ·intro w'
           go_simp
           with_reducible rfl
          rotate_left
          ·simp only [Act.put,List.setIfInBounds_toArray,List.set_cons_zero,List.set_cons_succ,i64_w,i32_w]
           rfl
          refine take_ (i := 11) (N := some 42) (v := ?_) (a' := ?_) #[true,true,true,true,true,true,true,true,true,true,true,true,true,false,false,false,false,false,false,false,false,false,false,false,false,false,false,false,false,false,false,false,false,false] rfl rfl (take_ofW HT_.out HW_.out (by kernel_rfl)) (fun _ _ _ h => h) (Or.inl ⟨by rfl,?_⟩) hHeld ?_ ?_
          rotate_left
          ·rintro w' ⟨s0,s1,s2,s3,s4,s5,s6,s7,s8,s9,s10,s11⟩
           go_simp
           with_reducible rfl
          rotate_left
          ·simp only [Act.put,List.setIfInBounds_toArray,List.set_cons_zero,List.set_cons_succ,i64_w,i32_w]
           rfl
          refine pure_ (i := 13) (N := some 44) (v := ?_) (a' := ?_) #[true,true,true,true,true,true,true,true,true,true,true,true,true,true,false,false,false,false,false,false,false,false,false,false,false,false,false,false,false,false,false,false,false,false] rfl rfl (any_of HT_.out (by kernel_rfl)) (fun _ _ _ h => h) (Or.inl ⟨by rfl,?_⟩) ?_ ?_
          rotate_left
          ·intro w'
           go_simp
           with_reducible rfl
          rotate_left
          ·simp only [Act.put,List.setIfInBounds_toArray,List.set_cons_zero,List.set_cons_succ,i64_w,i32_w]
           rfl
          refine pure_ (i := 14) (N := some 45) (v := ?_) (a' := ?_) #[true,true,true,true,true,true,true,true,true,true,true,true,true,true,true,false,false,false,false,false,false,false,false,false,false,false,false,false,false,false,false,false,false,false] rfl rfl (any_of HT_.out (by kernel_rfl)) (fun _ _ _ h => h) (Or.inl ⟨by rfl,?_⟩) ?_ ?_
          rotate_left
          ·intro w'
           go_simp
           with_reducible rfl
          rotate_left
          ·simp only [Act.put,List.setIfInBounds_toArray,List.set_cons_zero,List.set_cons_succ,i64_w,i32_w]
           rfl
          refine pure_ (i := 15) (N := some 46) (v := ?_) (a' := ?_) #[true,true,true,true,true,true,true,true,true,true,true,true,true,true,true,true,false,false,false,false,false,false,false,false,false,false,false,false,false,false,false,false,false,false] rfl rfl (any_of HT_.out (by kernel_rfl)) (fun _ _ _ h => h) (Or.inl ⟨by rfl,?_⟩) ?_ ?_
          rotate_left
          ·intro w'
           go_simp
           with_reducible rfl
          rotate_left
          ·simp only [Act.put,List.setIfInBounds_toArray,List.set_cons_zero,List.set_cons_succ,i64_w,i32_w]
           rfl
          refine pure_ (i := 16) (N := some 47) (v := ?_) (a' := ?_) #[true,true,true,true,true,true,true,true,true,true,true,true,true,true,true,true,true,false,false,false,false,false,false,false,false,false,false,false,false,false,false,false,false,false] rfl rfl (any_of HT_.out (by kernel_rfl)) (fun _ _ _ h => h) (Or.inl ⟨by rfl,?_⟩) ?_ ?_
          rotate_left
          ·intro w'
           go_simp
           with_reducible rfl
          rotate_left
          ·simp only [Act.put,List.setIfInBounds_toArray,List.set_cons_zero,List.set_cons_succ,i64_w,i32_w]
           rfl
          refine pure_ (i := 17) (N := some 48) (v := ?_) (a' := ?_) #[true,true,true,true,true,true,true,true,true,true,true,true,true,true,true,true,true,true,false,false,false,false,false,false,false,false,false,false,false,false,false,false,false,false] rfl rfl (any_of HT_.out (by kernel_rfl)) (fun _ _ _ h => h) (Or.inl ⟨by rfl,?_⟩) ?_ ?_
          rotate_left
          ·intro w'
           go_simp
           with_reducible rfl
          rotate_left
          ·simp only [Act.put,List.setIfInBounds_toArray,List.set_cons_zero,List.set_cons_succ,i64_w,i32_w]
           rfl
          refine pure_ (i := 18) (N := some 49) (v := ?_) (a' := ?_) #[true,true,true,true,true,true,true,true,true,true,true,true,true,true,true,true,true,true,true,false,false,false,false,false,false,false,false,false,false,false,false,false,false,false] rfl rfl (any_of HT_.out (by kernel_rfl)) (fun _ _ _ h => h) (Or.inl ⟨by rfl,?_⟩) ?_ ?_
          rotate_left
          ·intro w'
           go_simp
           with_reducible rfl
          rotate_left
          ·simp only [Act.put,List.setIfInBounds_toArray,List.set_cons_zero,List.set_cons_succ,i64_w,i32_w]
           rfl
          refine pure_ (i := 19) (N := some 50) (v := ?_) (a' := ?_) #[true,true,true,true,true,true,true,true,true,true,true,true,true,true,true,true,true,true,true,true,false,false,false,false,false,false,false,false,false,false,false,false,false,false] rfl rfl (any_of HT_.out (by kernel_rfl)) (fun _ _ _ h => h) (Or.inl ⟨by rfl,?_⟩) ?_ ?_
          rotate_left
          ·intro w'
           go_simp
           with_reducible rfl
          rotate_left
          ·simp only [Act.put,List.setIfInBounds_toArray,List.set_cons_zero,List.set_cons_succ,i64_w,i32_w]
           rfl
          refine take_ (i := 20) (N := some 51) (v := ?_) (a' := ?_) #[true,true,true,true,true,true,true,true,true,true,true,true,true,true,true,true,true,true,true,true,true,false,false,false,false,false,false,false,false,false,false,false,false,false] rfl rfl (take_ofW HT_.out HW_.out (by kernel_rfl)) (fun _ _ _ h => h) (Or.inl ⟨by rfl,?_⟩) hHeld ?_ ?_
          rotate_left
          ·rintro w' ⟨s0,s1,s2,s3,s4,s5,s6,s7,s8,s9,s10,s11⟩
           go_simp
           with_reducible rfl
          rotate_left
          ·simp only [Act.put,List.setIfInBounds_toArray,List.set_cons_zero,List.set_cons_succ,i64_w,i32_w]
           rfl
          refine pure_ (i := 21) (N := some 52) (v := ?_) (a' := ?_) #[true,true,true,true,true,true,true,true,true,true,true,true,true,true,true,true,true,true,true,true,true,true,false,false,false,false,false,false,false,false,false,false,false,false] rfl rfl (any_of HT_.out (by kernel_rfl)) (fun _ _ _ h => h) (Or.inl ⟨by rfl,?_⟩) ?_ ?_
          rotate_left
          ·intro w'
           go_simp
           with_reducible rfl
          rotate_left
          ·simp only [Act.put,List.setIfInBounds_toArray,List.set_cons_zero,List.set_cons_succ,i64_w,i32_w]
           rfl
          refine pure_ (i := 22) (N := some 53) (v := ?_) (a' := ?_) #[true,true,true,true,true,true,true,true,true,true,true,true,true,true,true,true,true,true,true,true,true,true,true,false,false,false,false,false,false,false,false,false,false,false] rfl rfl (any_of HT_.out (by kernel_rfl)) (fun _ _ _ h => h) (Or.inl ⟨by rfl,?_⟩) ?_ ?_
          rotate_left
          ·intro w'
           go_simp
           with_reducible rfl
          rotate_left
          ·simp only [Act.put,List.setIfInBounds_toArray,List.set_cons_zero,List.set_cons_succ,i64_w,i32_w]
           rfl
          refine pure_ (i := 23) (N := some 54) (v := ?_) (a' := ?_) #[true,true,true,true,true,true,true,true,true,true,true,true,true,true,true,true,true,true,true,true,true,true,true,true,false,false,false,false,false,false,false,false,false,false] rfl rfl (any_of HT_.out (by kernel_rfl)) (fun _ _ _ h => h) (Or.inl ⟨by rfl,?_⟩) ?_ ?_
          rotate_left
          ·intro w'
           go_simp
           with_reducible rfl
          rotate_left
          ·simp only [Act.put,List.setIfInBounds_toArray,List.set_cons_zero,List.set_cons_succ,i64_w,i32_w]
           rfl
          refine pure_ (i := 24) (N := some 55) (v := ?_) (a' := ?_) #[true,true,true,true,true,true,true,true,true,true,true,true,true,true,true,true,true,true,true,true,true,true,true,true,true,false,false,false,false,false,false,false,false,false] rfl rfl (any_of HT_.out (by kernel_rfl)) (fun _ _ _ h => h) (Or.inl ⟨by rfl,?_⟩) ?_ ?_
          rotate_left
          ·intro w'
           go_simp
           with_reducible rfl
          rotate_left
          ·simp only [Act.put,List.setIfInBounds_toArray,List.set_cons_zero,List.set_cons_succ,i64_w,i32_w]
           rfl
          refine pure_ (i := 25) (N := some 56) (v := ?_) (a' := ?_) #[true,true,true,true,true,true,true,true,true,true,true,true,true,true,true,true,true,true,true,true,true,true,true,true,true,true,false,false,false,false,false,false,false,false] rfl rfl (any_of HT_.out (by kernel_rfl)) (fun _ _ _ h => h) (Or.inl ⟨by rfl,?_⟩) ?_ ?_
          rotate_left
          ·intro w'
           go_simp
           with_reducible rfl
          rotate_left
          ·simp only [Act.put,List.setIfInBounds_toArray,List.set_cons_zero,List.set_cons_succ,i64_w,i32_w]
           rfl
          refine pure_ (i := 26) (N := some 57) (v := ?_) (a' := ?_) #[true,true,true,true,true,true,true,true,true,true,true,true,true,true,true,true,true,true,true,true,true,true,true,true,true,true,true,false,false,false,false,false,false,false] rfl rfl (any_of HT_.out (by kernel_rfl)) (fun _ _ _ h => h) (Or.inl ⟨by rfl,?_⟩) ?_ ?_
          rotate_left
          ·intro w'
           go_simp
           with_reducible rfl
          rotate_left
          ·simp only [Act.put,List.setIfInBounds_toArray,List.set_cons_zero,List.set_cons_succ,i64_w,i32_w]
           rfl
          refine pure_ (i := 27) (N := some 58) (v := ?_) (a' := ?_) #[true,true,true,true,true,true,true,true,true,true,true,true,true,true,true,true,true,true,true,true,true,true,true,true,true,true,true,true,false,false,false,false,false,false] rfl rfl (any_of HT_.out (by kernel_rfl)) (fun _ _ _ h => h) (Or.inl ⟨by rfl,?_⟩) ?_ ?_
          rotate_left
          ·intro w'
           go_simp
           with_reducible rfl
          rotate_left
          ·simp only [Act.put,List.setIfInBounds_toArray,List.set_cons_zero,List.set_cons_succ,i64_w,i32_w]
           rfl
          refine pure_ (i := 29) (N := some 60) (v := ?_) (a' := ?_) #[true,true,true,true,true,true,true,true,true,true,true,true,true,true,true,true,true,true,true,true,true,true,true,true,true,true,true,true,false,true,false,false,false,false] rfl rfl (any_of HT_.out (by kernel_rfl)) (fun _ _ _ h => h) (Or.inl ⟨by rfl,?_⟩) ?_ ?_
          rotate_left
          ·intro w'
           go_simp
           with_reducible rfl
          rotate_left
          ·simp only [Act.put,List.setIfInBounds_toArray,List.set_cons_zero,List.set_cons_succ,i64_w,i32_w]
           rfl
          refine take_ (i := 28) (N := some 59) (v := ?_) (a' := ?_) #[true,true,true,true,true,true,true,true,true,true,true,true,true,true,true,true,true,true,true,true,true,true,true,true,true,true,true,true,true,true,false,false,false,false] rfl rfl (take_ofW HT_.out HW_.out (by kernel_rfl)) (fun _ _ _ h => h) (Or.inl ⟨by rfl,?_⟩) hHeld ?_ ?_
          rotate_left
          ·rintro w' ⟨s0,s1,s2,s3,s4,s5,s6,s7,s8,s9,s10,s11⟩
           go_simp
           with_reducible rfl
          rotate_left
          ·simp only [Act.put,List.setIfInBounds_toArray,List.set_cons_zero,List.set_cons_succ,i64_w,i32_w]
           rfl
          refine take_ (i := 30) (N := some 61) (v := ?_) (a' := ?_) #[true,true,true,true,true,true,true,true,true,true,true,true,true,true,true,true,true,true,true,true,true,true,true,true,true,true,true,true,true,true,true,false,false,false] rfl rfl (take_ofW HT_.out HW_.out (by kernel_rfl)) (fun _ _ _ h => h) (Or.inl ⟨by rfl,?_⟩) hHeld ?_ ?_
          rotate_left
          ·rintro w' ⟨s0,s1,s2,s3,s4,s5,s6,s7,s8,s9,s10,s11⟩
           go_simp
           with_reducible rfl
          rotate_left
          ·simp only [Act.put,List.setIfInBounds_toArray,List.set_cons_zero,List.set_cons_succ,i64_w,i32_w]
           rfl
          refine one_ (i := 31) (N := some 62) #[true,true,true,true,true,true,true,true,true,true,true,true,true,true,true,true,true,true,true,true,true,true,true,true,true,true,true,true,true,true,true,true,false,false] rfl rfl (one_of HT_.out (by kernel_rfl)) (by decide) (fun K hK => ?_)
          refine goes_ Tryd.func17 (by kernel_rfl) rfl #[.int .i64 a0_3] (by rfl) rfl rfl au1 ?_
          with_reducible refine (bodkinlaw20_width.calls a0_3 t248 _ A22.out).mono ?_
          rintro e w24 ⟨rfl,hb⟩
          have HS4_ := (hb.cell (World.block_lt_of_cell? _ _ (hHeld.2.2.2.2.1))).trans (hHeld.2.2.2.2.1)
          have HS5_ := (hb.cell (World.block_lt_of_cell? _ _ (hHeld.2.2.2.2.2.1))).trans (hHeld.2.2.2.2.2.1)
          have HS6_ := (hb.cell (World.block_lt_of_cell? _ _ (hHeld.2.2.2.2.2.2.1))).trans (hHeld.2.2.2.2.2.2.1)
          have HS7_ := (hb.cell (World.block_lt_of_cell? _ _ (hHeld.2.2.2.2.2.2.2.1))).trans (hHeld.2.2.2.2.2.2.2.1)
          have HS8_ := (hb.cell (World.block_lt_of_cell? _ _ (hHeld.2.2.2.2.2.2.2.2.1))).trans (hHeld.2.2.2.2.2.2.2.2.1)
          have HS9_ := (hb.cell (World.block_lt_of_cell? _ _ (hHeld.2.2.2.2.2.2.2.2.2.1))).trans (hHeld.2.2.2.2.2.2.2.2.2.1)
          have HS10_ := (hb.cell (World.block_lt_of_cell? _ _ (hHeld.2.2.2.2.2.2.2.2.2.2.1))).trans (hHeld.2.2.2.2.2.2.2.2.2.2.1)
          have HS11_ := (hb.cell (World.block_lt_of_cell? _ _ (hHeld.2.2.2.2.2.2.2.2.2.2.2))).trans (hHeld.2.2.2.2.2.2.2.2.2.2.2)
          refine ⟨_,rfl,?_⟩
          have n0_ := Aside0.mk (Kd.R_below au11 hb)
          have n1_ := Aside0.mk (blk_below (g := gb238) (o := .cells #[.string a0_0,.string a0_1,.int .i64 a0_2,.int .i64 a0_3] 23 (0,0)) au8 hb)
          have n2_ := Aside0.mk (below_step au2 hb)
          clear HO_3
          clear BK238
          clear HB
          have HO_3 := n0_
          have BK238 := n1_
          have HB := n2_
          clear n0_ n1_ n2_
          (try clear hb)
          (try clear hb2)
          (try clear hk)
          (try clear hi)
          refine hK.out _ _ ⟨(blk_cell BK238.out 0).trans rfl,(blk_cell BK238.out 1).trans rfl,(blk_cell BK238.out 2).trans rfl,(blk_cell BK238.out 3).trans rfl,HS4_,HS5_,HS6_,HS7_,HS8_,HS9_,HS10_,HS11_⟩ (fun hHeld => ?_)
          clear hK K
          refine norm_ (a' := ?_) ?_ ?_
          rotate_left
          ·show Act.put _ (some 62) _ = _
           simp only [Act.put,List.setIfInBounds_toArray,List.set_cons_zero,List.set_cons_succ,i64_w,i32_w]
           rfl
          refine pure_ (i := 32) (N := some 63) (v := ?_) (a' := ?_) #[true,true,true,true,true,true,true,true,true,true,true,true,true,true,true,true,true,true,true,true,true,true,true,true,true,true,true,true,true,true,true,true,true,false] rfl rfl (any_of HT_.out (by kernel_rfl)) (fun _ _ _ h => h) (Or.inl ⟨by rfl,?_⟩) ?_ ?_
          rotate_left
          ·intro w'
           go_simp
           with_reducible rfl
          rotate_left
          ·simp only [Act.put,List.setIfInBounds_toArray,List.set_cons_zero,List.set_cons_succ,i64_w,i32_w]
           rfl
          refine pure_ (i := 33) (N := some 64) (v := ?_) (a' := ?_) #[true,true,true,true,true,true,true,true,true,true,true,true,true,true,true,true,true,true,true,true,true,true,true,true,true,true,true,true,true,true,true,true,true,true] rfl rfl (any_of HT_.out (by kernel_rfl)) (fun _ _ _ h => h) (Or.inl ⟨by rfl,?_⟩) ?_ ?_
          rotate_left
          ·intro w'
           go_simp
           with_reducible rfl
          rotate_left
          ·simp only [Act.put,List.setIfInBounds_toArray,List.set_cons_zero,List.set_cons_succ,i64_w,i32_w]
           rfl
          refine done_ (done_of HT_.out (by kernel_rfl)) ?_
          try go_wp2
          go_meet
          case rel => exact ⟨_,(decide (((rd_T27 t240 x6_1).f1) ≥ t248)),au9,H',⟨by have := HK1.out;first | omega | exact Nat.le_refl _⟩,⟨by (with_reducible repeat (first | apply Kd.R_alloc | apply Kd.R_drewN | apply Kd.R_drew));exact HO_3.out⟩,⟨by (with_reducible repeat (first | refine blk_drewN ?_ _ | refine blk_drew ?_ | refine blk_alloc ?_ _));exact BK238.out⟩,⟨by repeat (first | (with_reducible first | exact HB.out | apply below_alloc | apply pw_below_drewN | apply below_drew1 | refine below_set ?_ GE238.out) | exact HB.out)⟩⟩
      ·rw [if_neg c15] at H
       exact absurd H (by simp)
     case rest => as_aux_lemma =>
      clear HC13
      try clear c1
      try clear c2
      try clear p2
      try clear q2
      try clear hx2
      try clear c15
      try clear c17
      try clear c20
      try clear c20b0
      try clear p24
      try clear q24
      try clear hx24
      try clear hx244_0
      try clear hx244_1
      try clear hx245_0
      try clear hx245_1
      try clear hx246_0
      try clear hx246_1
      try clear hx247_0
      try clear hx247_1
      try clear p244
      try clear p245
      try clear p246
      try clear p247
      try clear q244
      try clear q245
      try clear q246
      try clear q247
      obtain ⟨kq,x64_12,rfl,HA,HJ12,HO_3,BK238,HB⟩ := hcut
      cases kq with
      | zero => exact absurd HA.out (by simp [bodkinlaw20_LayoutRises.j1])
      | succ kj12 =>
       have H := HA.out
       clear HA
       simp only [bodkinlaw20_LayoutRises.j1] at H
       by_cases c25 : x64_12 = true
       ·subst c25
        have H1 : (some false) = some r := by rw [if_pos rfl] at H;exact H
        clear H
        have H := H1
        clear H1
        obtain rfl := Option.some.inj H
        cases hr_
       ·replace c25 := Bool.eq_false_iff.mpr c25
        subst c25
        have H1 : (if x6_1 > 0 then (if 0 ≤ x6_1 then (if x6_1 < (t240.length : Int) then (if 0 ≤ (wrap64 (x6_1 - 1)) then (if (wrap64 (x6_1 - 1)) < (t240.length : Int) then (if ((rd_T27 t240 x6_1).f0) < ((rd_T27 t240 (wrap64 (x6_1 - 1))).f0) then (bodkinlaw20_LayoutRises.j2 kj12 t240 t243 x5_1 x6_1 true a0_0 a0_1 a0_2 a0_3) else (if ((rd_T27 t240 x6_1).f0) = ((rd_T27 t240 (wrap64 (x6_1 - 1))).f0) then (bodkinlaw20_LayoutRises.j2 kj12 t240 t243 x5_1 x6_1 (decide (((rd_T27 t240 x6_1).f1) ≤ ((rd_T27 t240 (wrap64 (x6_1 - 1))).f1))) a0_0 a0_1 a0_2 a0_3) else (bodkinlaw20_LayoutRises.j2 kj12 t240 t243 x5_1 x6_1 false a0_0 a0_1 a0_2 a0_3))) else (none)) else (none)) else (none)) else (none)) else (bodkinlaw20_LayoutRises.j2 kj12 t240 t243 x5_1 x6_1 false a0_0 a0_1 a0_2 a0_3)) = some r := by rw [if_neg (show ¬ (false = true) by decide)] at H;exact H
        clear H
        have H := H1
        clear H1
        have HC26 := Aside0.mk H
        clear H
        go_upto_region 11 with (fail)
        go_cut [108] (fun v108 wc => ∃ (kq : Nat) (x108_25 : Bool),v108 = .bool x108_25 ∧ Aside0 (bodkinlaw20_LayoutRises.j2 kq t240 t243 x5_1 x6_1 x108_25 a0_0 a0_1 a0_2 a0_3 = some r) ∧ Aside0 (kq ≤ kj12) ∧ Aside0 (Kd.R k27 27 wc w.heap.size (fun _ => True) (.slice Ao14 t240.length co14) t240) ∧ Aside0 (wc.heap[gb238]? = some (.cells #[.string a0_0,.string a0_1,.int .i64 a0_2,.int .i64 a0_3] 23 (0,0))) ∧ Aside0 (Below w.heap.size w wc))
        case first => as_aux_lemma =>
         have H := HC26.out
         clear HC26
         by_cases c27 : x6_1 > 0
         ·rw [if_pos c27] at H
          have c27b0 : decide (0 < x6_1) = true := decide_eq_true c27
          clear c27
          (first | rw [c27b0] | (simp only [i64_w,i32_w];rw [c27b0]) | skip)
          by_cases c28 : 0 ≤ x6_1
          ·rw [if_pos c28] at H
           have c28b0 : decide (0 ≤ x6_1) = true := decide_eq_true c28
           clear c28
           by_cases c29 : x6_1 < (t240.length : Int)
           ·rw [if_pos c29] at H
            have c29b0 : decide (x6_1 < (t240.length : Int)) = true := decide_eq_true c29
            clear c29
            obtain ⟨ji30,hji30⟩ : ∃ j_ : Int,(wrap64 (x6_1 - 1)) = j_ := ⟨_,rfl⟩
            replace H : (if 0 ≤ (ji30) then (if (ji30) < (t240.length : Int) then (if ((rd_T27 t240 x6_1).f0) < ((rd_T27 t240 (ji30)).f0) then (bodkinlaw20_LayoutRises.j2 kj12 t240 t243 x5_1 x6_1 true a0_0 a0_1 a0_2 a0_3) else (if ((rd_T27 t240 x6_1).f0) = ((rd_T27 t240 (ji30)).f0) then (bodkinlaw20_LayoutRises.j2 kj12 t240 t243 x5_1 x6_1 (decide (((rd_T27 t240 x6_1).f1) ≤ ((rd_T27 t240 (ji30)).f1))) a0_0 a0_1 a0_2 a0_3) else (bodkinlaw20_LayoutRises.j2 kj12 t240 t243 x5_1 x6_1 false a0_0 a0_1 a0_2 a0_3))) else (none)) else (none)) = some r := by first | (rw [hji30] at H;exact H) | (simp only [hji30] at H ⊢;exact H)
            have hji30w : (IntKind.i64.wrap (x6_1 - 1)) = ji30 := (i64_w _).trans hji30
            by_cases c31 : 0 ≤ (ji30)
            ·rw [if_pos c31] at H
             have c31b0 : decide (0 ≤ (ji30)) = true := decide_eq_true c31
             clear c31
             by_cases c32 : (ji30) < (t240.length : Int)
             ·rw [if_pos c32] at H
              have c32b0 : decide ((ji30) < (t240.length : Int)) = true := decide_eq_true c32
              clear c32
              by_cases c33 : ((rd_T27 t240 x6_1).f0) < ((rd_T27 t240 (ji30)).f0)
              ·rw [if_pos c33] at H
               exfalso
               subst hr_
               cases kj12 <;> simp [bodkinlaw20_LayoutRises.j2] at H
              ·rw [if_neg c33] at H
               have c33b0 : decide (((rd_T27 t240 x6_1).f0) < ((rd_T27 t240 (ji30)).f0)) = false := decide_eq_false c33
               clear c33
               by_cases c35 : ((rd_T27 t240 x6_1).f0) = ((rd_T27 t240 (ji30)).f0)
               ·rw [if_pos c35] at H
                have c35b0 : (((rd_T27 t240 x6_1).f0) == ((rd_T27 t240 (ji30)).f0)) = true := beq_iff_eq.mpr c35
                have c35b1 : (((rd_T27 t240 x6_1).f0) != ((rd_T27 t240 (ji30)).f0)) = false := bne_eq_false_iff_eq.mpr c35
                clear c35
                have H' := Aside0.mk H
                clear H
                try go_wp2
                have n0_ := Aside0.mk (Kd.R_drew HO_3.out)
                have n1_ := Aside0.mk (blk_drew BK238.out)
                have n2_ := Aside0.mk (below_drew1 HB.out)
                clear HO_3
                clear BK238
                clear HB
                have HO_3 := n0_
                have BK238 := n1_
                have HB := n2_
                clear n0_ n1_ n2_
                have p249 : 0 ≤ (x6_1 : Int) := of_decide_eq_true au4
                have q249 : x6_1 < (t240.length : Int) := of_decide_eq_true au4
                obtain ⟨ad249,e249,hx249_0,hx249_1⟩ := at_T27 (Kd.R_reads' HO_3.out).2.2 x6_1 p249 q249
                cases e249
                replace p249 := eq_true p249
                replace q249 := eq_true q249
                have p250 : 0 ≤ ((ji30) : Int) := of_decide_eq_true au4
                have q250 : (ji30) < (t240.length : Int) := of_decide_eq_true au4
                obtain ⟨ad250,e250,hx250_0,hx250_1⟩ := at_T27 (Kd.R_reads' HO_3.out).2.2 (ji30) p250 q250
                obtain rfl : ad249 = ad250 := (by injection e250)
                replace p250 := eq_true p250
                replace q250 := eq_true q250
                have p251 : 0 ≤ (x6_1 : Int) := of_decide_eq_true au4
                have q251 : x6_1 < (t240.length : Int) := of_decide_eq_true au4
                obtain ⟨ad251,e251,hx251_0,hx251_1⟩ := at_T27 (Kd.R_reads' HO_3.out).2.2 x6_1 p251 q251
                obtain rfl : ad249 = ad251 := (by injection e251)
                replace p251 := eq_true p251
                replace q251 := eq_true q251
                have p252 : 0 ≤ ((ji30) : Int) := of_decide_eq_true au4
                have q252 : (ji30) < (t240.length : Int) := of_decide_eq_true au4
                obtain ⟨ad252,e252,hx252_0,hx252_1⟩ := at_T27 (Kd.R_reads' HO_3.out).2.2 (ji30) p252 q252
                obtain rfl : ad249 = ad252 := (by injection e252)
                replace p252 := eq_true p252
                replace q252 := eq_true q252
                have p253 : 0 ≤ (x6_1 : Int) := of_decide_eq_true au4
                have q253 : x6_1 < (t240.length : Int) := of_decide_eq_true au4
                obtain ⟨ad253,e253,hx253_0,hx253_1⟩ := at_T27 (Kd.R_reads' HO_3.out).2.2 x6_1 p253 q253
                obtain rfl : ad249 = ad253 := (by injection e253)
                replace p253 := eq_true p253
                replace q253 := eq_true q253
                have p254 : 0 ≤ ((ji30) : Int) := of_decide_eq_true au4
                have q254 : (ji30) < (t240.length : Int) := of_decide_eq_true au4
                obtain ⟨ad254,e254,hx254_0,hx254_1⟩ := at_T27 (Kd.R_reads' HO_3.out).2.2 (ji30) p254 q254
                obtain rfl : ad249 = ad254 := (by injection e254)
                replace p254 := eq_true p254
                replace q254 := eq_true q254
                refine start_ (n := 44) (S := fun w' => w'.cell? (ad249.add ((x6_1).toNat * 2)) = some (.int .i64 ((rd_T27 t240 x6_1).f0)) ∧ w'.cell? ⟨(ad249.add ((x6_1).toNat * 2)).block,(ad249.add ((x6_1).toNat * 2)).off + 1,none⟩ = some (.int .i64 ((rd_T27 t240 x6_1).f1)) ∧ w'.cell? (ad249.add (((ji30)).toNat * 2)) = some (.int .i64 ((rd_T27 t240 (ji30)).f0)) ∧ w'.cell? ⟨(ad249.add (((ji30)).toNat * 2)).block,(ad249.add (((ji30)).toNat * 2)).off + 1,none⟩ = some (.int .i64 ((rd_T27 t240 (ji30)).f1)) ∧ w'.cell? (ad249.add ((x6_1).toNat * 2)) = some (.int .i64 ((rd_T27 t240 x6_1).f0)) ∧ w'.cell? ⟨(ad249.add ((x6_1).toNat * 2)).block,(ad249.add ((x6_1).toNat * 2)).off + 1,none⟩ = some (.int .i64 ((rd_T27 t240 x6_1).f1)) ∧ w'.cell? (ad249.add (((ji30)).toNat * 2)) = some (.int .i64 ((rd_T27 t240 (ji30)).f0)) ∧ w'.cell? ⟨(ad249.add (((ji30)).toNat * 2)).block,(ad249.add (((ji30)).toNat * 2)).off + 1,none⟩ = some (.int .i64 ((rd_T27 t240 (ji30)).f1)) ∧ w'.cell? (ad249.add ((x6_1).toNat * 2)) = some (.int .i64 ((rd_T27 t240 x6_1).f0)) ∧ w'.cell? ⟨(ad249.add ((x6_1).toNat * 2)).block,(ad249.add ((x6_1).toNat * 2)).off + 1,none⟩ = some (.int .i64 ((rd_T27 t240 x6_1).f1)) ∧ w'.cell? (ad249.add (((ji30)).toNat * 2)) = some (.int .i64 ((rd_T27 t240 (ji30)).f0)) ∧ w'.cell? ⟨(ad249.add (((ji30)).toNat * 2)).block,(ad249.add (((ji30)).toNat * 2)).off + 1,none⟩ = some (.int .i64 ((rd_T27 t240 (ji30)).f1))) (ds := []) #[false,false,false,false,false,false,false,false,false,false,false,false,false,false,false,false,false,false,false,false,false,false,false,false,false,false,false,false,false,false,false,false,false,false,false,false,false,false,false,false,false,false,false,false] (by kernel_rfl) rfl rfl ⟨hx249_0,hx249_1,hx250_0,hx250_1,hx251_0,hx251_1,hx252_0,hx252_1,hx253_0,hx253_1,hx254_0,hx254_1⟩ (fun hHeld => ?_);refine with_tabW bodkinlaw20_LayoutRises.tab11 bodkinlaw20_LayoutRises.bits11 (fun HT_ HW_ => ?_)
                generalize wc.drew = w36 at HO_3 BK238 HB hx249_0 hx249_1 hx250_0 hx250_1 hx251_0 hx251_1 hx252_0 hx252_1 hx253_0 hx253_1 hx254_0 hx254_1 hHeld ⊢
                refine pure_ (i := 0) (N := some 65) (v := ?_) (a' := ?_) #[true,false,false,false,false,false,false,false,false,false,false,false,false,false,false,false,false,false,false,false,false,false,false,false,false,false,false,false,false,false,false,false,false,false,false,false,false,false,false,false,false,false,false,false] rfl rfl (any_of HT_.out (by kernel_rfl)) (fun _ _ _ h => h) (Or.inl ⟨by rfl,?_⟩) ?_ ?_
                rotate_left
                ·intro w'
                 go_simp
                 with_reducible rfl
                rotate_left
                ·simp only [Act.put,List.setIfInBounds_toArray,List.set_cons_zero,List.set_cons_succ,i64_w,i32_w]
                 rfl
                refine pure_ (i := 1) (N := some 66) (v := ?_) (a' := ?_) #[true,true,false,false,false,false,false,false,false,false,false,false,false,false,false,false,false,false,false,false,false,false,false,false,false,false,false,false,false,false,false,false,false,false,false,false,false,false,false,false,false,false,false,false] rfl rfl (any_of HT_.out (by kernel_rfl)) (fun _ _ _ h => h) (Or.inl ⟨by rfl,?_⟩) ?_ ?_
                rotate_left
                ·intro w'
                 go_simp
                 with_reducible rfl
                rotate_left
                ·simp only [Act.put,List.setIfInBounds_toArray,List.set_cons_zero,List.set_cons_succ,i64_w,i32_w]
                 rfl
                refine pure_ (i := 2) (N := some 67) (v := ?_) (a' := ?_) #[true,true,true,false,false,false,false,false,false,false,false,false,false,false,false,false,false,false,false,false,false,false,false,false,false,false,false,false,false,false,false,false,false,false,false,false,false,false,false,false,false,false,false,false] rfl rfl (any_of HT_.out (by kernel_rfl)) (fun _ _ _ h => h) (Or.inl ⟨by rfl,?_⟩) ?_ ?_
                rotate_left
                ·intro w'
                 go_simp
                 with_reducible rfl
                rotate_left
                ·simp only [Act.put,List.setIfInBounds_toArray,List.set_cons_zero,List.set_cons_succ,i64_w,i32_w]
                 rfl
                refine pure_ (i := 3) (N := some 68) (v := ?_) (a' := ?_) #[true,true,true,true,false,false,false,false,false,false,false,false,false,false,false,false,false,false,false,false,false,false,false,false,false,false,false,false,false,false,false,false,false,false,false,false,false,false,false,false,false,false,false,false] rfl rfl (any_of HT_.out (by kernel_rfl)) (fun _ _ _ h => h) (Or.inl ⟨by rfl,?_⟩) ?_ ?_
                rotate_left
                ·intro w'
                 go_simp
                 with_reducible rfl
                rotate_left
                ·simp only [Act.put,List.setIfInBounds_toArray,List.set_cons_zero,List.set_cons_succ,i64_w,i32_w]
                 rfl
                refine pure_ (i := 4) (N := some 69) (v := ?_) (a' := ?_) #[true,true,true,true,true,false,false,false,false,false,false,false,false,false,false,false,false,false,false,false,false,false,false,false,false,false,false,false,false,false,false,false,false,false,false,false,false,false,false,false,false,false,false,false] rfl rfl (any_of HT_.out (by kernel_rfl)) (fun _ _ _ h => h) (Or.inl ⟨by rfl,?_⟩) ?_ ?_
                rotate_left
                ·intro w'
                 go_simp
                 with_reducible rfl
                rotate_left
                ·simp only [Act.put,List.setIfInBounds_toArray,List.set_cons_zero,List.set_cons_succ,i64_w,i32_w]
                 rfl
                refine pure_ (i := 5) (N := some 70) (v := ?_) (a' := ?_) #[true,true,true,true,true,true,false,false,false,false,false,false,false,false,false,false,false,false,false,false,false,false,false,false,false,false,false,false,false,false,false,false,false,false,false,false,false,false,false,false,false,false,false,false] rfl rfl (any_of HT_.out (by kernel_rfl)) (fun _ _ _ h => h) (Or.inl ⟨by rfl,?_⟩) ?_ ?_
                rotate_left
                ·intro w'
                 go_simp
                 with_reducible rfl
                rotate_left
                ·simp only [Act.put,List.setIfInBounds_toArray,List.set_cons_zero,List.set_cons_succ,i64_w,i32_w]
                 rfl
                refine pure_ (i := 6) (N := some 71) (v := ?_) (a' := ?_) #[true,true,true,true,true,true,true,false,false,false,false,false,false,false,false,false,false,false,false,false,false,false,false,false,false,false,false,false,false,false,false,false,false,false,false,false,false,false,false,false,false,false,false,false] rfl rfl (any_of HT_.out (by kernel_rfl)) (fun _ _ _ h => h) (Or.inl ⟨by rfl,?_⟩) ?_ ?_
                rotate_left
                ·intro w'
                 go_simp
                 with_reducible rfl
                rotate_left
                ·simp only [Act.put,List.setIfInBounds_toArray,List.set_cons_zero,List.set_cons_succ,i64_w,i32_w]
                 rfl
                refine pure_ (i := 8) (N := some 73) (v := ?_) (a' := ?_) #[true,true,true,true,true,true,true,false,true,false,false,false,false,false,false,false,false,false,false,false,false,false,false,false,false,false,false,false,false,false,false,false,false,false,false,false,false,false,false,false,false,false,false,false] rfl rfl (any_of HT_.out (by kernel_rfl)) (fun _ _ _ h => h) (Or.inl ⟨by rfl,?_⟩) ?_ ?_
                rotate_left
                ·intro w'
                 go_simp
                 with_reducible rfl
                rotate_left
                ·simp only [Act.put,List.setIfInBounds_toArray,List.set_cons_zero,List.set_cons_succ,i64_w,i32_w]
                 rfl
                refine pure_ (i := 9) (N := some 74) (v := ?_) (a' := ?_) #[true,true,true,true,true,true,true,false,true,true,false,false,false,false,false,false,false,false,false,false,false,false,false,false,false,false,false,false,false,false,false,false,false,false,false,false,false,false,false,false,false,false,false,false] rfl rfl (any_of HT_.out (by kernel_rfl)) (fun _ _ _ h => h) (Or.inl ⟨by rfl,?_⟩) ?_ ?_
                rotate_left
                ·intro w'
                 go_simp
                 with_reducible rfl
                rotate_left
                ·simp only [Act.put,List.setIfInBounds_toArray,List.set_cons_zero,List.set_cons_succ,i64_w,i32_w]
                 rfl
                refine pure_ (i := 10) (N := some 75) (v := ?_) (a' := ?_) #[true,true,true,true,true,true,true,false,true,true,true,false,false,false,false,false,false,false,false,false,false,false,false,false,false,false,false,false,false,false,false,false,false,false,false,false,false,false,false,false,false,false,false,false] rfl rfl (any_of HT_.out (by kernel_rfl)) (fun _ _ _ h => h) (Or.inl ⟨by rfl,?_⟩) ?_ ?_
                rotate_left
                ·intro w'
                 go_simp
                 with_reducible rfl
                rotate_left
                ·simp only [Act.put,List.setIfInBounds_toArray,List.set_cons_zero,List.set_cons_succ,i64_w,i32_w]
                 rfl
                refine pure_ (i := 11) (N := some 76) (v := ?_) (a' := ?_) #[true,true,true,true,true,true,true,false,true,true,true,true,false,false,false,false,false,false,false,false,false,false,false,false,false,false,false,false,false,false,false,false,false,false,false,false,false,false,false,false,false,false,false,false] rfl rfl (any_of HT_.out (by kernel_rfl)) (fun _ _ _ h => h) (Or.inl ⟨by rfl,?_⟩) ?_ ?_
                rotate_left
                ·intro w'
                 go_simp
                 with_reducible rfl
                rotate_left
                ·simp only [Act.put,List.setIfInBounds_toArray,List.set_cons_zero,List.set_cons_succ,i64_w,i32_w]
                 rfl
                refine pure_ (i := 12) (N := some 77) (v := ?_) (a' := ?_) #[true,true,true,true,true,true,true,false,true,true,true,true,true,false,false,false,false,false,false,false,false,false,false,false,false,false,false,false,false,false,false,false,false,false,false,false,false,false,false,false,false,false,false,false] rfl rfl (any_of HT_.out (by kernel_rfl)) (fun _ _ _ h => h) (Or.inl ⟨by rfl,?_⟩) ?_ ?_
                rotate_left
                ·intro w'
                 go_simp
                 with_reducible rfl
                rotate_left
                ·simp only [Act.put,List.setIfInBounds_toArray,List.set_cons_zero,List.set_cons_succ,i64_w,i32_w]
                 rfl
                refine take_ (i := 7) (N := some 72) (v := ?_) (a' := ?_) #[true,true,true,true,true,true,true,true,true,true,true,true,true,false,false,false,false,false,false,false,false,false,false,false,false,false,false,false,false,false,false,false,false,false,false,false,false,false,false,false,false,false,false,false] rfl rfl (take_ofW HT_.out HW_.out (by kernel_rfl)) (fun _ _ _ h => h) (Or.inl ⟨by rfl,?_⟩) hHeld ?_ ?_
                rotate_left
                ·rintro w' ⟨s0,s1,s2,s3,s4,s5,s6,s7,s8,s9,s10,s11⟩
                 go_simp
                 with_reducible rfl
                rotate_left
                ·simp only [Act.put,List.setIfInBounds_toArray,List.set_cons_zero,List.set_cons_succ,i64_w,i32_w]
                 rfl
                refine take_ (i := 13) (N := some 78) (v := ?_) (a' := ?_) #[true,true,true,true,true,true,true,true,true,true,true,true,true,true,false,false,false,false,false,false,false,false,false,false,false,false,false,false,false,false,false,false,false,false,false,false,false,false,false,false,false,false,false,false] rfl rfl (take_ofW HT_.out HW_.out (by kernel_rfl)) (fun _ _ _ h => h) (Or.inl ⟨by rfl,?_⟩) hHeld ?_ ?_
                rotate_left
                ·rintro w' ⟨s0,s1,s2,s3,s4,s5,s6,s7,s8,s9,s10,s11⟩
                 go_simp
                 with_reducible rfl
                rotate_left
                ·simp only [Act.put,List.setIfInBounds_toArray,List.set_cons_zero,List.set_cons_succ,i64_w,i32_w]
                 rfl
                refine pure_ (i := 14) (N := some 79) (v := ?_) (a' := ?_) #[true,true,true,true,true,true,true,true,true,true,true,true,true,true,true,false,false,false,false,false,false,false,false,false,false,false,false,false,false,false,false,false,false,false,false,false,false,false,false,false,false,false,false,false] rfl rfl (any_of HT_.out (by kernel_rfl)) (fun _ _ _ h => h) (Or.inl ⟨by rfl,?_⟩) ?_ ?_
                rotate_left
                ·intro w'
                 go_simp
                 with_reducible rfl
                rotate_left
                ·simp only [Act.put,List.setIfInBounds_toArray,List.set_cons_zero,List.set_cons_succ,i64_w,i32_w]
                 rfl
                refine pure_ (i := 15) (N := some 80) (v := ?_) (a' := ?_) #[true,true,true,true,true,true,true,true,true,true,true,true,true,true,true,true,false,false,false,false,false,false,false,false,false,false,false,false,false,false,false,false,false,false,false,false,false,false,false,false,false,false,false,false] rfl rfl (any_of HT_.out (by kernel_rfl)) (fun _ _ _ h => h) (Or.inl ⟨by rfl,?_⟩) ?_ ?_
                rotate_left
                ·intro w'
                 go_simp
                 with_reducible rfl
                rotate_left
                ·simp only [Act.put,List.setIfInBounds_toArray,List.set_cons_zero,List.set_cons_succ,i64_w,i32_w]
                 rfl
                refine pure_ (i := 16) (N := some 81) (v := ?_) (a' := ?_) #[true,true,true,true,true,true,true,true,true,true,true,true,true,true,true,true,true,false,false,false,false,false,false,false,false,false,false,false,false,false,false,false,false,false,false,false,false,false,false,false,false,false,false,false] rfl rfl (any_of HT_.out (by kernel_rfl)) (fun _ _ _ h => h) (Or.inl ⟨by rfl,?_⟩) ?_ ?_
                rotate_left
                ·intro w'
                 go_simp
                 with_reducible rfl
                rotate_left
                ·simp only [Act.put,List.setIfInBounds_toArray,List.set_cons_zero,List.set_cons_succ,i64_w,i32_w]
                 rfl
                refine pure_ (i := 17) (N := some 82) (v := ?_) (a' := ?_) #[true,true,true,true,true,true,true,true,true,true,true,true,true,true,true,true,true,true,false,false,false,false,false,false,false,false,false,false,false,false,false,false,false,false,false,false,false,false,false,false,false,false,false,false] rfl rfl (any_of HT_.out (by kernel_rfl)) (fun _ _ _ h => h) (Or.inl ⟨by rfl,?_⟩) ?_ ?_
                rotate_left
                ·intro w'
                 go_simp
                 with_reducible rfl
                rotate_left
                ·simp only [Act.put,List.setIfInBounds_toArray,List.set_cons_zero,List.set_cons_succ,i64_w,i32_w]
                 rfl
                refine pure_ (i := 18) (N := some 83) (v := ?_) (a' := ?_) #[true,true,true,true,true,true,true,true,true,true,true,true,true,true,true,true,true,true,true,false,false,false,false,false,false,false,false,false,false,false,false,false,false,false,false,false,false,false,false,false,false,false,false,false] rfl rfl (any_of HT_.out (by kernel_rfl)) (fun _ _ _ h => h) (Or.inl ⟨by rfl,?_⟩) ?_ ?_
                rotate_left
                ·intro w'
                 go_simp
                 with_reducible rfl
                rotate_left
                ·simp only [Act.put,List.setIfInBounds_toArray,List.set_cons_zero,List.set_cons_succ,i64_w,i32_w]
                 rfl
                refine pure_ (i := 19) (N := some 84) (v := ?_) (a' := ?_) #[true,true,true,true,true,true,true,true,true,true,true,true,true,true,true,true,true,true,true,true,false,false,false,false,false,false,false,false,false,false,false,false,false,false,false,false,false,false,false,false,false,false,false,false] rfl rfl (any_of HT_.out (by kernel_rfl)) (fun _ _ _ h => h) (Or.inl ⟨by rfl,?_⟩) ?_ ?_
                rotate_left
                ·intro w'
                 go_simp
                 with_reducible rfl
                rotate_left
                ·simp only [Act.put,List.setIfInBounds_toArray,List.set_cons_zero,List.set_cons_succ,i64_w,i32_w]
                 rfl
                refine pure_ (i := 21) (N := some 86) (v := ?_) (a' := ?_) #[true,true,true,true,true,true,true,true,true,true,true,true,true,true,true,true,true,true,true,true,false,true,false,false,false,false,false,false,false,false,false,false,false,false,false,false,false,false,false,false,false,false,false,false] rfl rfl (any_of HT_.out (by kernel_rfl)) (fun _ _ _ h => h) (Or.inl ⟨by rfl,?_⟩) ?_ ?_
                rotate_left
                ·intro w'
                 go_simp
                 with_reducible rfl
                rotate_left
                ·simp only [Act.put,List.setIfInBounds_toArray,List.set_cons_zero,List.set_cons_succ,i64_w,i32_w]
                 rfl
                refine pure_ (i := 22) (N := some 87) (v := ?_) (a' := ?_) #[true,true,true,true,true,true,true,true,true,true,true,true,true,true,true,true,true,true,true,true,false,true,true,false,false,false,false,false,false,false,false,false,false,false,false,false,false,false,false,false,false,false,false,false] rfl rfl (any_of HT_.out (by kernel_rfl)) (fun _ _ _ h => h) (Or.inl ⟨by rfl,?_⟩) ?_ ?_
                rotate_left
                ·intro w'
                 go_simp
                 with_reducible rfl
                rotate_left
                ·simp only [Act.put,List.setIfInBounds_toArray,List.set_cons_zero,List.set_cons_succ,i64_w,i32_w]
                 rfl
                refine pure_ (i := 23) (N := some 88) (v := ?_) (a' := ?_) #[true,true,true,true,true,true,true,true,true,true,true,true,true,true,true,true,true,true,true,true,false,true,true,true,false,false,false,false,false,false,false,false,false,false,false,false,false,false,false,false,false,false,false,false] rfl rfl (any_of HT_.out (by kernel_rfl)) (fun _ _ _ h => h) (Or.inl ⟨by rfl,?_⟩) ?_ ?_
                rotate_left
                ·intro w'
                 go_simp
                 with_reducible rfl
                rotate_left
                ·simp only [Act.put,List.setIfInBounds_toArray,List.set_cons_zero,List.set_cons_succ,i64_w,i32_w]
                 rfl
                refine pure_ (i := 24) (N := some 89) (v := ?_) (a' := ?_) #[true,true,true,true,true,true,true,true,true,true,true,true,true,true,true,true,true,true,true,true,false,true,true,true,true,false,false,false,false,false,false,false,false,false,false,false,false,false,false,false,false,false,false,false] rfl rfl (any_of HT_.out (by kernel_rfl)) (fun _ _ _ h => h) (Or.inl ⟨by rfl,?_⟩) ?_ ?_
                rotate_left
                ·intro w'
                 go_simp
                 with_reducible rfl
                rotate_left
                ·simp only [Act.put,List.setIfInBounds_toArray,List.set_cons_zero,List.set_cons_succ,i64_w,i32_w]
                 rfl
                refine pure_ (i := 25) (N := some 90) (v := ?_) (a' := ?_) #[true,true,true,true,true,true,true,true,true,true,true,true,true,true,true,true,true,true,true,true,false,true,true,true,true,true,false,false,false,false,false,false,false,false,false,false,false,false,false,false,false,false,false,false] rfl rfl (any_of HT_.out (by kernel_rfl)) (fun _ _ _ h => h) (Or.inl ⟨by rfl,?_⟩) ?_ ?_
                rotate_left
                ·intro w'
                 go_simp
                 with_reducible rfl
                rotate_left
                ·simp only [Act.put,List.setIfInBounds_toArray,List.set_cons_zero,List.set_cons_succ,i64_w,i32_w]
                 rfl
                refine take_ (i := 20) (N := some 85) (v := ?_) (a' := ?_) #[true,true,true,true,true,true,true,true,true,true,true,true,true,true,true,true,true,true,true,true,true,true,true,true,true,true,false,false,false,false,false,false,false,false,false,false,false,false,false,false,false,false,false,false] rfl rfl (take_ofW HT_.out HW_.out (by kernel_rfl)) (fun _ _ _ h => h) (Or.inl ⟨by rfl,?_⟩) hHeld ?_ ?_
                rotate_left
                ·rintro w' ⟨s0,s1,s2,s3,s4,s5,s6,s7,s8,s9,s10,s11⟩
                 go_simp
                 with_reducible rfl
                rotate_left
                ·simp only [Act.put,List.setIfInBounds_toArray,List.set_cons_zero,List.set_cons_succ,i64_w,i32_w]
                 rfl
                refine take_ (i := 26) (N := some 91) (v := ?_) (a' := ?_) #[true,true,true,true,true,true,true,true,true,true,true,true,true,true,true,true,true,true,true,true,true,true,true,true,true,true,true,false,false,false,false,false,false,false,false,false,false,false,false,false,false,false,false,false] rfl rfl (take_ofW HT_.out HW_.out (by kernel_rfl)) (fun _ _ _ h => h) (Or.inl ⟨by rfl,?_⟩) hHeld ?_ ?_
                rotate_left
                ·rintro w' ⟨s0,s1,s2,s3,s4,s5,s6,s7,s8,s9,s10,s11⟩
                 go_simp
                 with_reducible rfl
                rotate_left
                ·simp only [Act.put,List.setIfInBounds_toArray,List.set_cons_zero,List.set_cons_succ,i64_w,i32_w]
                 rfl
                refine pure_ (i := 27) (N := some 92) (v := ?_) (a' := ?_) #[true,true,true,true,true,true,true,true,true,true,true,true,true,true,true,true,true,true,true,true,true,true,true,true,true,true,true,true,false,false,false,false,false,false,false,false,false,false,false,false,false,false,false,false] rfl rfl (any_of HT_.out (by kernel_rfl)) (fun _ _ _ h => h) (Or.inl ⟨by rfl,?_⟩) ?_ ?_
                rotate_left
                ·intro w'
                 go_simp
                 with_reducible rfl
                rotate_left
                ·simp only [Act.put,List.setIfInBounds_toArray,List.set_cons_zero,List.set_cons_succ,i64_w,i32_w]
                 rfl
                refine pure_ (i := 28) (N := some 93) (v := ?_) (a' := ?_) #[true,true,true,true,true,true,true,true,true,true,true,true,true,true,true,true,true,true,true,true,true,true,true,true,true,true,true,true,true,false,false,false,false,false,false,false,false,false,false,false,false,false,false,false] rfl rfl (any_of HT_.out (by kernel_rfl)) (fun _ _ _ h => h) (Or.inl ⟨by rfl,?_⟩) ?_ ?_
                rotate_left
                ·intro w'
                 go_simp
                 with_reducible rfl
                rotate_left
                ·simp only [Act.put,List.setIfInBounds_toArray,List.set_cons_zero,List.set_cons_succ,i64_w,i32_w]
                 rfl
                refine pure_ (i := 29) (N := some 94) (v := ?_) (a' := ?_) #[true,true,true,true,true,true,true,true,true,true,true,true,true,true,true,true,true,true,true,true,true,true,true,true,true,true,true,true,true,true,false,false,false,false,false,false,false,false,false,false,false,false,false,false] rfl rfl (any_of HT_.out (by kernel_rfl)) (fun _ _ _ h => h) (Or.inl ⟨by rfl,?_⟩) ?_ ?_
                rotate_left
                ·intro w'
                 go_simp
                 with_reducible rfl
                rotate_left
                ·simp only [Act.put,List.setIfInBounds_toArray,List.set_cons_zero,List.set_cons_succ,i64_w,i32_w]
                 rfl
                refine pure_ (i := 30) (N := some 95) (v := ?_) (a' := ?_) #[true,true,true,true,true,true,true,true,true,true,true,true,true,true,true,true,true,true,true,true,true,true,true,true,true,true,true,true,true,true,true,false,false,false,false,false,false,false,false,false,false,false,false,false] rfl rfl (any_of HT_.out (by kernel_rfl)) (fun _ _ _ h => h) (Or.inl ⟨by rfl,?_⟩) ?_ ?_
                rotate_left
                ·intro w'
                 go_simp
                 with_reducible rfl
                rotate_left
                ·simp only [Act.put,List.setIfInBounds_toArray,List.set_cons_zero,List.set_cons_succ,i64_w,i32_w]
                 rfl
                refine pure_ (i := 31) (N := some 96) (v := ?_) (a' := ?_) #[true,true,true,true,true,true,true,true,true,true,true,true,true,true,true,true,true,true,true,true,true,true,true,true,true,true,true,true,true,true,true,true,false,false,false,false,false,false,false,false,false,false,false,false] rfl rfl (any_of HT_.out (by kernel_rfl)) (fun _ _ _ h => h) (Or.inl ⟨by rfl,?_⟩) ?_ ?_
                rotate_left
                ·intro w'
                 go_simp
                 with_reducible rfl
                rotate_left
                ·simp only [Act.put,List.setIfInBounds_toArray,List.set_cons_zero,List.set_cons_succ,i64_w,i32_w]
                 rfl
                refine pure_ (i := 32) (N := some 97) (v := ?_) (a' := ?_) #[true,true,true,true,true,true,true,true,true,true,true,true,true,true,true,true,true,true,true,true,true,true,true,true,true,true,true,true,true,true,true,true,true,false,false,false,false,false,false,false,false,false,false,false] rfl rfl (any_of HT_.out (by kernel_rfl)) (fun _ _ _ h => h) (Or.inl ⟨by rfl,?_⟩) ?_ ?_
                rotate_left
                ·intro w'
                 go_simp
                 with_reducible rfl
                rotate_left
                ·simp only [Act.put,List.setIfInBounds_toArray,List.set_cons_zero,List.set_cons_succ,i64_w,i32_w]
                 rfl
                refine pure_ (i := 34) (N := some 99) (v := ?_) (a' := ?_) #[true,true,true,true,true,true,true,true,true,true,true,true,true,true,true,true,true,true,true,true,true,true,true,true,true,true,true,true,true,true,true,true,true,false,true,false,false,false,false,false,false,false,false,false] rfl rfl (any_of HT_.out (by kernel_rfl)) (fun _ _ _ h => h) (Or.inl ⟨by rfl,?_⟩) ?_ ?_
                rotate_left
                ·intro w'
                 go_simp
                 with_reducible rfl
                rotate_left
                ·simp only [Act.put,List.setIfInBounds_toArray,List.set_cons_zero,List.set_cons_succ,i64_w,i32_w]
                 rfl
                refine pure_ (i := 35) (N := some 100) (v := ?_) (a' := ?_) #[true,true,true,true,true,true,true,true,true,true,true,true,true,true,true,true,true,true,true,true,true,true,true,true,true,true,true,true,true,true,true,true,true,false,true,true,false,false,false,false,false,false,false,false] rfl rfl (any_of HT_.out (by kernel_rfl)) (fun _ _ _ h => h) (Or.inl ⟨by rfl,?_⟩) ?_ ?_
                rotate_left
                ·intro w'
                 go_simp
                 with_reducible rfl
                rotate_left
                ·simp only [Act.put,List.setIfInBounds_toArray,List.set_cons_zero,List.set_cons_succ,i64_w,i32_w]
                 rfl
                refine pure_ (i := 36) (N := some 101) (v := ?_) (a' := ?_) #[true,true,true,true,true,true,true,true,true,true,true,true,true,true,true,true,true,true,true,true,true,true,true,true,true,true,true,true,true,true,true,true,true,false,true,true,true,false,false,false,false,false,false,false] rfl rfl (any_of HT_.out (by kernel_rfl)) (fun _ _ _ h => h) (Or.inl ⟨by rfl,?_⟩) ?_ ?_
                rotate_left
                ·intro w'
                 go_simp
                 with_reducible rfl
                rotate_left
                ·simp only [Act.put,List.setIfInBounds_toArray,List.set_cons_zero,List.set_cons_succ,i64_w,i32_w]
                 rfl
                refine pure_ (i := 37) (N := some 102) (v := ?_) (a' := ?_) #[true,true,true,true,true,true,true,true,true,true,true,true,true,true,true,true,true,true,true,true,true,true,true,true,true,true,true,true,true,true,true,true,true,false,true,true,true,true,false,false,false,false,false,false] rfl rfl (any_of HT_.out (by kernel_rfl)) (fun _ _ _ h => h) (Or.inl ⟨by rfl,?_⟩) ?_ ?_
                rotate_left
                ·intro w'
                 go_simp
                 with_reducible rfl
                rotate_left
                ·simp only [Act.put,List.setIfInBounds_toArray,List.set_cons_zero,List.set_cons_succ,i64_w,i32_w]
                 rfl
                refine pure_ (i := 38) (N := some 103) (v := ?_) (a' := ?_) #[true,true,true,true,true,true,true,true,true,true,true,true,true,true,true,true,true,true,true,true,true,true,true,true,true,true,true,true,true,true,true,true,true,false,true,true,true,true,true,false,false,false,false,false] rfl rfl (any_of HT_.out (by kernel_rfl)) (fun _ _ _ h => h) (Or.inl ⟨by rfl,?_⟩) ?_ ?_
                rotate_left
                ·intro w'
                 go_simp
                 with_reducible rfl
                rotate_left
                ·simp only [Act.put,List.setIfInBounds_toArray,List.set_cons_zero,List.set_cons_succ,i64_w,i32_w]
                 rfl
                refine take_ (i := 33) (N := some 98) (v := ?_) (a' := ?_) #[true,true,true,true,true,true,true,true,true,true,true,true,true,true,true,true,true,true,true,true,true,true,true,true,true,true,true,true,true,true,true,true,true,true,true,true,true,true,true,false,false,false,false,false] rfl rfl (take_ofW HT_.out HW_.out (by kernel_rfl)) (fun _ _ _ h => h) (Or.inl ⟨by rfl,?_⟩) hHeld ?_ ?_
                rotate_left
                ·rintro w' ⟨s0,s1,s2,s3,s4,s5,s6,s7,s8,s9,s10,s11⟩
                 go_simp
                 with_reducible rfl
                rotate_left
                ·simp only [Act.put,List.setIfInBounds_toArray,List.set_cons_zero,List.set_cons_succ,i64_w,i32_w]
                 rfl
                refine take_ (i := 39) (N := some 104) (v := ?_) (a' := ?_) #[true,true,true,true,true,true,true,true,true,true,true,true,true,true,true,true,true,true,true,true,true,true,true,true,true,true,true,true,true,true,true,true,true,true,true,true,true,true,true,true,false,false,false,false] rfl rfl (take_ofW HT_.out HW_.out (by kernel_rfl)) (fun _ _ _ h => h) (Or.inl ⟨by rfl,?_⟩) hHeld ?_ ?_
                rotate_left
                ·rintro w' ⟨s0,s1,s2,s3,s4,s5,s6,s7,s8,s9,s10,s11⟩
                 go_simp
                 with_reducible rfl
                rotate_left
                ·simp only [Act.put,List.setIfInBounds_toArray,List.set_cons_zero,List.set_cons_succ,i64_w,i32_w]
                 rfl
                refine pure_ (i := 40) (N := some 105) (v := ?_) (a' := ?_) #[true,true,true,true,true,true,true,true,true,true,true,true,true,true,true,true,true,true,true,true,true,true,true,true,true,true,true,true,true,true,true,true,true,true,true,true,true,true,true,true,true,false,false,false] rfl rfl (any_of HT_.out (by kernel_rfl)) (fun _ _ _ h => h) (Or.inl ⟨by rfl,?_⟩) ?_ ?_
                rotate_left
                ·intro w'
                 go_simp
                 with_reducible rfl
                rotate_left
                ·simp only [Act.put,List.setIfInBounds_toArray,List.set_cons_zero,List.set_cons_succ,i64_w,i32_w]
                 rfl
                refine pure_ (i := 41) (N := some 106) (v := ?_) (a' := ?_) #[true,true,true,true,true,true,true,true,true,true,true,true,true,true,true,true,true,true,true,true,true,true,true,true,true,true,true,true,true,true,true,true,true,true,true,true,true,true,true,true,true,true,false,false] rfl rfl (any_of HT_.out (by kernel_rfl)) (fun _ _ _ h => h) (Or.inl ⟨by rfl,?_⟩) ?_ ?_
                rotate_left
                ·intro w'
                 go_simp
                 with_reducible rfl
                rotate_left
                ·simp only [Act.put,List.setIfInBounds_toArray,List.set_cons_zero,List.set_cons_succ,i64_w,i32_w]
                 rfl
                refine pure_ (i := 42) (N := some 107) (v := ?_) (a' := ?_) #[true,true,true,true,true,true,true,true,true,true,true,true,true,true,true,true,true,true,true,true,true,true,true,true,true,true,true,true,true,true,true,true,true,true,true,true,true,true,true,true,true,true,true,false] rfl rfl (any_of HT_.out (by kernel_rfl)) (fun _ _ _ h => h) (Or.inl ⟨by rfl,?_⟩) ?_ ?_
                rotate_left
                ·intro w'
                 go_simp
                 with_reducible rfl
                rotate_left
                ·simp only [Act.put,List.setIfInBounds_toArray,List.set_cons_zero,List.set_cons_succ,i64_w,i32_w]
                 rfl
                refine pure_ (i := 43) (N := some 108) (v := ?_) (a' := ?_) #[true,true,true,true,true,true,true,true,true,true,true,true,true,true,true,true,true,true,true,true,true,true,true,true,true,true,true,true,true,true,true,true,true,true,true,true,true,true,true,true,true,true,true,true] rfl rfl (any_of HT_.out (by kernel_rfl)) (fun _ _ _ h => h) (Or.inl ⟨by rfl,?_⟩) ?_ ?_
                rotate_left
                ·intro w'
                 go_simp
                 with_reducible rfl
                rotate_left
                ·simp only [Act.put,List.setIfInBounds_toArray,List.set_cons_zero,List.set_cons_succ,i64_w,i32_w]
                 rfl
                refine done_ (done_of HT_.out (by kernel_rfl)) ?_
                try go_wp2
                go_meet
                case rel => exact ⟨_,(decide (((rd_T27 t240 x6_1).f1) ≤ ((rd_T27 t240 (ji30)).f1))),(by first | rfl | (simp;done) | (simp only [← hji30] <;> (first | rfl | simp)) | (simp [*];done)),H',⟨by have := HK1.out;have := HJ12.out;first | omega | exact Nat.le_refl _⟩,⟨by (with_reducible repeat (first | apply Kd.R_alloc | apply Kd.R_drewN | apply Kd.R_drew));exact HO_3.out⟩,⟨by (with_reducible repeat (first | refine blk_drewN ?_ _ | refine blk_drew ?_ | refine blk_alloc ?_ _));exact BK238.out⟩,⟨by repeat (first | (with_reducible first | exact HB.out | apply below_alloc | apply pw_below_drewN | apply below_drew1 | refine below_set ?_ GE238.out) | exact HB.out)⟩⟩
               ·rw [if_neg c35] at H
                have c35b0 : (((rd_T27 t240 x6_1).f0) == ((rd_T27 t240 (ji30)).f0)) = false := beq_eq_false_iff_ne.mpr c35
                have c35b1 : (((rd_T27 t240 x6_1).f0) != ((rd_T27 t240 (ji30)).f0)) = true := bne_iff_ne.mpr c35
                have H' := Aside0.mk H
                clear H
                try go_wp2
                have n0_ := Aside0.mk (Kd.R_drew HO_3.out)
                have n1_ := Aside0.mk (blk_drew BK238.out)
                have n2_ := Aside0.mk (below_drew1 HB.out)
                clear HO_3
                clear BK238
                clear HB
                have HO_3 := n0_
                have BK238 := n1_
                have HB := n2_
                clear n0_ n1_ n2_
                have p249 : 0 ≤ (x6_1 : Int) := of_decide_eq_true au4
                have q249 : x6_1 < (t240.length : Int) := of_decide_eq_true au4
                obtain ⟨ad249,e249,hx249_0,hx249_1⟩ := at_T27 (Kd.R_reads' HO_3.out).2.2 x6_1 p249 q249
                cases e249
                replace p249 := eq_true p249
                replace q249 := eq_true q249
                have p250 : 0 ≤ ((ji30) : Int) := of_decide_eq_true au4
                have q250 : (ji30) < (t240.length : Int) := of_decide_eq_true au4
                obtain ⟨ad250,e250,hx250_0,hx250_1⟩ := at_T27 (Kd.R_reads' HO_3.out).2.2 (ji30) p250 q250
                obtain rfl : ad249 = ad250 := (by injection e250)
                replace p250 := eq_true p250
                replace q250 := eq_true q250
                have p251 : 0 ≤ (x6_1 : Int) := of_decide_eq_true au4
                have q251 : x6_1 < (t240.length : Int) := of_decide_eq_true au4
                obtain ⟨ad251,e251,hx251_0,hx251_1⟩ := at_T27 (Kd.R_reads' HO_3.out).2.2 x6_1 p251 q251
                obtain rfl : ad249 = ad251 := (by injection e251)
                replace p251 := eq_true p251
                replace q251 := eq_true q251
                have p252 : 0 ≤ ((ji30) : Int) := of_decide_eq_true au4
                have q252 : (ji30) < (t240.length : Int) := of_decide_eq_true au4
                obtain ⟨ad252,e252,hx252_0,hx252_1⟩ := at_T27 (Kd.R_reads' HO_3.out).2.2 (ji30) p252 q252
                obtain rfl : ad249 = ad252 := (by injection e252)
                replace p252 := eq_true p252
                replace q252 := eq_true q252
                refine start_ (n := 44) (S := fun w' => w'.cell? (ad249.add ((x6_1).toNat * 2)) = some (.int .i64 ((rd_T27 t240 x6_1).f0)) ∧ w'.cell? ⟨(ad249.add ((x6_1).toNat * 2)).block,(ad249.add ((x6_1).toNat * 2)).off + 1,none⟩ = some (.int .i64 ((rd_T27 t240 x6_1).f1)) ∧ w'.cell? (ad249.add (((ji30)).toNat * 2)) = some (.int .i64 ((rd_T27 t240 (ji30)).f0)) ∧ w'.cell? ⟨(ad249.add (((ji30)).toNat * 2)).block,(ad249.add (((ji30)).toNat * 2)).off + 1,none⟩ = some (.int .i64 ((rd_T27 t240 (ji30)).f1)) ∧ w'.cell? (ad249.add ((x6_1).toNat * 2)) = some (.int .i64 ((rd_T27 t240 x6_1).f0)) ∧ w'.cell? ⟨(ad249.add ((x6_1).toNat * 2)).block,(ad249.add ((x6_1).toNat * 2)).off + 1,none⟩ = some (.int .i64 ((rd_T27 t240 x6_1).f1)) ∧ w'.cell? (ad249.add (((ji30)).toNat * 2)) = some (.int .i64 ((rd_T27 t240 (ji30)).f0)) ∧ w'.cell? ⟨(ad249.add (((ji30)).toNat * 2)).block,(ad249.add (((ji30)).toNat * 2)).off + 1,none⟩ = some (.int .i64 ((rd_T27 t240 (ji30)).f1))) (ds := []) #[false,false,false,false,false,false,false,false,false,false,false,false,false,false,false,false,false,false,false,false,false,false,false,false,false,false,false,false,false,false,false,false,false,false,false,false,false,false,false,false,false,false,false,false] (by kernel_rfl) rfl rfl ⟨hx249_0,hx249_1,hx250_0,hx250_1,hx251_0,hx251_1,hx252_0,hx252_1⟩ (fun hHeld => ?_);refine with_tabW bodkinlaw20_LayoutRises.tab11 bodkinlaw20_LayoutRises.bits11 (fun HT_ HW_ => ?_)
                generalize wc.drew = w37 at HO_3 BK238 HB hx249_0 hx249_1 hx250_0 hx250_1 hx251_0 hx251_1 hx252_0 hx252_1 hHeld ⊢
                refine pure_ (i := 0) (N := some 65) (v := ?_) (a' := ?_) #[true,false,false,false,false,false,false,false,false,false,false,false,false,false,false,false,false,false,false,false,false,false,false,false,false,false,false,false,false,false,false,false,false,false,false,false,false,false,false,false,false,false,false,false] rfl rfl (any_of HT_.out (by kernel_rfl)) (fun _ _ _ h => h) (Or.inl ⟨by rfl,?_⟩) ?_ ?_
                rotate_left
                ·intro w'
                 go_simp
                 with_reducible rfl
                rotate_left
                ·simp only [Act.put,List.setIfInBounds_toArray,List.set_cons_zero,List.set_cons_succ,i64_w,i32_w]
                 rfl
                refine pure_ (i := 1) (N := some 66) (v := ?_) (a' := ?_) #[true,true,false,false,false,false,false,false,false,false,false,false,false,false,false,false,false,false,false,false,false,false,false,false,false,false,false,false,false,false,false,false,false,false,false,false,false,false,false,false,false,false,false,false] rfl rfl (any_of HT_.out (by kernel_rfl)) (fun _ _ _ h => h) (Or.inl ⟨by rfl,?_⟩) ?_ ?_
                rotate_left
                ·intro w'
                 go_simp
                 with_reducible rfl
                rotate_left
                ·simp only [Act.put,List.setIfInBounds_toArray,List.set_cons_zero,List.set_cons_succ,i64_w,i32_w]
                 rfl
                refine pure_ (i := 2) (N := some 67) (v := ?_) (a' := ?_) #[true,true,true,false,false,false,false,false,false,false,false,false,false,false,false,false,false,false,false,false,false,false,false,false,false,false,false,false,false,false,false,false,false,false,false,false,false,false,false,false,false,false,false,false] rfl rfl (any_of HT_.out (by kernel_rfl)) (fun _ _ _ h => h) (Or.inl ⟨by rfl,?_⟩) ?_ ?_
                rotate_left
                ·intro w'
                 go_simp
                 with_reducible rfl
                rotate_left
                ·simp only [Act.put,List.setIfInBounds_toArray,List.set_cons_zero,List.set_cons_succ,i64_w,i32_w]
                 rfl
                refine pure_ (i := 3) (N := some 68) (v := ?_) (a' := ?_) #[true,true,true,true,false,false,false,false,false,false,false,false,false,false,false,false,false,false,false,false,false,false,false,false,false,false,false,false,false,false,false,false,false,false,false,false,false,false,false,false,false,false,false,false] rfl rfl (any_of HT_.out (by kernel_rfl)) (fun _ _ _ h => h) (Or.inl ⟨by rfl,?_⟩) ?_ ?_
                rotate_left
                ·intro w'
                 go_simp
                 with_reducible rfl
                rotate_left
                ·simp only [Act.put,List.setIfInBounds_toArray,List.set_cons_zero,List.set_cons_succ,i64_w,i32_w]
                 rfl
                refine pure_ (i := 4) (N := some 69) (v := ?_) (a' := ?_) #[true,true,true,true,true,false,false,false,false,false,false,false,false,false,false,false,false,false,false,false,false,false,false,false,false,false,false,false,false,false,false,false,false,false,false,false,false,false,false,false,false,false,false,false] rfl rfl (any_of HT_.out (by kernel_rfl)) (fun _ _ _ h => h) (Or.inl ⟨by rfl,?_⟩) ?_ ?_
                rotate_left
                ·intro w'
                 go_simp
                 with_reducible rfl
                rotate_left
                ·simp only [Act.put,List.setIfInBounds_toArray,List.set_cons_zero,List.set_cons_succ,i64_w,i32_w]
                 rfl
                refine pure_ (i := 5) (N := some 70) (v := ?_) (a' := ?_) #[true,true,true,true,true,true,false,false,false,false,false,false,false,false,false,false,false,false,false,false,false,false,false,false,false,false,false,false,false,false,false,false,false,false,false,false,false,false,false,false,false,false,false,false] rfl rfl (any_of HT_.out (by kernel_rfl)) (fun _ _ _ h => h) (Or.inl ⟨by rfl,?_⟩) ?_ ?_
                rotate_left
                ·intro w'
                 go_simp
                 with_reducible rfl
                rotate_left
                ·simp only [Act.put,List.setIfInBounds_toArray,List.set_cons_zero,List.set_cons_succ,i64_w,i32_w]
                 rfl
                refine pure_ (i := 6) (N := some 71) (v := ?_) (a' := ?_) #[true,true,true,true,true,true,true,false,false,false,false,false,false,false,false,false,false,false,false,false,false,false,false,false,false,false,false,false,false,false,false,false,false,false,false,false,false,false,false,false,false,false,false,false] rfl rfl (any_of HT_.out (by kernel_rfl)) (fun _ _ _ h => h) (Or.inl ⟨by rfl,?_⟩) ?_ ?_
                rotate_left
                ·intro w'
                 go_simp
                 with_reducible rfl
                rotate_left
                ·simp only [Act.put,List.setIfInBounds_toArray,List.set_cons_zero,List.set_cons_succ,i64_w,i32_w]
                 rfl
                refine pure_ (i := 8) (N := some 73) (v := ?_) (a' := ?_) #[true,true,true,true,true,true,true,false,true,false,false,false,false,false,false,false,false,false,false,false,false,false,false,false,false,false,false,false,false,false,false,false,false,false,false,false,false,false,false,false,false,false,false,false] rfl rfl (any_of HT_.out (by kernel_rfl)) (fun _ _ _ h => h) (Or.inl ⟨by rfl,?_⟩) ?_ ?_
                rotate_left
                ·intro w'
                 go_simp
                 with_reducible rfl
                rotate_left
                ·simp only [Act.put,List.setIfInBounds_toArray,List.set_cons_zero,List.set_cons_succ,i64_w,i32_w]
                 rfl
                refine pure_ (i := 9) (N := some 74) (v := ?_) (a' := ?_) #[true,true,true,true,true,true,true,false,true,true,false,false,false,false,false,false,false,false,false,false,false,false,false,false,false,false,false,false,false,false,false,false,false,false,false,false,false,false,false,false,false,false,false,false] rfl rfl (any_of HT_.out (by kernel_rfl)) (fun _ _ _ h => h) (Or.inl ⟨by rfl,?_⟩) ?_ ?_
                rotate_left
                ·intro w'
                 go_simp
                 with_reducible rfl
                rotate_left
                ·simp only [Act.put,List.setIfInBounds_toArray,List.set_cons_zero,List.set_cons_succ,i64_w,i32_w]
                 rfl
                refine pure_ (i := 10) (N := some 75) (v := ?_) (a' := ?_) #[true,true,true,true,true,true,true,false,true,true,true,false,false,false,false,false,false,false,false,false,false,false,false,false,false,false,false,false,false,false,false,false,false,false,false,false,false,false,false,false,false,false,false,false] rfl rfl (any_of HT_.out (by kernel_rfl)) (fun _ _ _ h => h) (Or.inl ⟨by rfl,?_⟩) ?_ ?_
                rotate_left
                ·intro w'
                 go_simp
                 with_reducible rfl
                rotate_left
                ·simp only [Act.put,List.setIfInBounds_toArray,List.set_cons_zero,List.set_cons_succ,i64_w,i32_w]
                 rfl
                refine pure_ (i := 11) (N := some 76) (v := ?_) (a' := ?_) #[true,true,true,true,true,true,true,false,true,true,true,true,false,false,false,false,false,false,false,false,false,false,false,false,false,false,false,false,false,false,false,false,false,false,false,false,false,false,false,false,false,false,false,false] rfl rfl (any_of HT_.out (by kernel_rfl)) (fun _ _ _ h => h) (Or.inl ⟨by rfl,?_⟩) ?_ ?_
                rotate_left
                ·intro w'
                 go_simp
                 with_reducible rfl
                rotate_left
                ·simp only [Act.put,List.setIfInBounds_toArray,List.set_cons_zero,List.set_cons_succ,i64_w,i32_w]
                 rfl
                refine pure_ (i := 12) (N := some 77) (v := ?_) (a' := ?_) #[true,true,true,true,true,true,true,false,true,true,true,true,true,false,false,false,false,false,false,false,false,false,false,false,false,false,false,false,false,false,false,false,false,false,false,false,false,false,false,false,false,false,false,false] rfl rfl (any_of HT_.out (by kernel_rfl)) (fun _ _ _ h => h) (Or.inl ⟨by rfl,?_⟩) ?_ ?_
                rotate_left
                ·intro w'
                 go_simp
                 with_reducible rfl
                rotate_left
                ·simp only [Act.put,List.setIfInBounds_toArray,List.set_cons_zero,List.set_cons_succ,i64_w,i32_w]
                 rfl
                refine take_ (i := 7) (N := some 72) (v := ?_) (a' := ?_) #[true,true,true,true,true,true,true,true,true,true,true,true,true,false,false,false,false,false,false,false,false,false,false,false,false,false,false,false,false,false,false,false,false,false,false,false,false,false,false,false,false,false,false,false] rfl rfl (take_ofW HT_.out HW_.out (by kernel_rfl)) (fun _ _ _ h => h) (Or.inl ⟨by rfl,?_⟩) hHeld ?_ ?_
                rotate_left
                ·rintro w' ⟨s0,s1,s2,s3,s4,s5,s6,s7⟩
                 go_simp
                 with_reducible rfl
                rotate_left
                ·simp only [Act.put,List.setIfInBounds_toArray,List.set_cons_zero,List.set_cons_succ,i64_w,i32_w]
                 rfl
                refine take_ (i := 13) (N := some 78) (v := ?_) (a' := ?_) #[true,true,true,true,true,true,true,true,true,true,true,true,true,true,false,false,false,false,false,false,false,false,false,false,false,false,false,false,false,false,false,false,false,false,false,false,false,false,false,false,false,false,false,false] rfl rfl (take_ofW HT_.out HW_.out (by kernel_rfl)) (fun _ _ _ h => h) (Or.inl ⟨by rfl,?_⟩) hHeld ?_ ?_
                rotate_left
                ·rintro w' ⟨s0,s1,s2,s3,s4,s5,s6,s7⟩
                 go_simp
                 with_reducible rfl
                rotate_left
                ·simp only [Act.put,List.setIfInBounds_toArray,List.set_cons_zero,List.set_cons_succ,i64_w,i32_w]
                 rfl
                refine pure_ (i := 14) (N := some 79) (v := ?_) (a' := ?_) #[true,true,true,true,true,true,true,true,true,true,true,true,true,true,true,false,false,false,false,false,false,false,false,false,false,false,false,false,false,false,false,false,false,false,false,false,false,false,false,false,false,false,false,false] rfl rfl (any_of HT_.out (by kernel_rfl)) (fun _ _ _ h => h) (Or.inl ⟨by rfl,?_⟩) ?_ ?_
                rotate_left
                ·intro w'
                 go_simp
                 with_reducible rfl
                rotate_left
                ·simp only [Act.put,List.setIfInBounds_toArray,List.set_cons_zero,List.set_cons_succ,i64_w,i32_w]
                 rfl
                refine pure_ (i := 15) (N := some 80) (v := ?_) (a' := ?_) #[true,true,true,true,true,true,true,true,true,true,true,true,true,true,true,true,false,false,false,false,false,false,false,false,false,false,false,false,false,false,false,false,false,false,false,false,false,false,false,false,false,false,false,false] rfl rfl (any_of HT_.out (by kernel_rfl)) (fun _ _ _ h => h) (Or.inl ⟨by rfl,?_⟩) ?_ ?_
                rotate_left
                ·intro w'
                 go_simp
                 with_reducible rfl
                rotate_left
                ·simp only [Act.put,List.setIfInBounds_toArray,List.set_cons_zero,List.set_cons_succ,i64_w,i32_w]
                 rfl
                refine pure_ (i := 16) (N := some 81) (v := ?_) (a' := ?_) #[true,true,true,true,true,true,true,true,true,true,true,true,true,true,true,true,true,false,false,false,false,false,false,false,false,false,false,false,false,false,false,false,false,false,false,false,false,false,false,false,false,false,false,false] rfl rfl (any_of HT_.out (by kernel_rfl)) (fun _ _ _ h => h) (Or.inl ⟨by rfl,?_⟩) ?_ ?_
                rotate_left
                ·intro w'
                 go_simp
                 with_reducible rfl
                rotate_left
                ·simp only [Act.put,List.setIfInBounds_toArray,List.set_cons_zero,List.set_cons_succ,i64_w,i32_w]
                 rfl
                refine pure_ (i := 17) (N := some 82) (v := ?_) (a' := ?_) #[true,true,true,true,true,true,true,true,true,true,true,true,true,true,true,true,true,true,false,false,false,false,false,false,false,false,false,false,false,false,false,false,false,false,false,false,false,false,false,false,false,false,false,false] rfl rfl (any_of HT_.out (by kernel_rfl)) (fun _ _ _ h => h) (Or.inl ⟨by rfl,?_⟩) ?_ ?_
                rotate_left
                ·intro w'
                 go_simp
                 with_reducible rfl
                rotate_left
                ·simp only [Act.put,List.setIfInBounds_toArray,List.set_cons_zero,List.set_cons_succ,i64_w,i32_w]
                 rfl
                refine pure_ (i := 18) (N := some 83) (v := ?_) (a' := ?_) #[true,true,true,true,true,true,true,true,true,true,true,true,true,true,true,true,true,true,true,false,false,false,false,false,false,false,false,false,false,false,false,false,false,false,false,false,false,false,false,false,false,false,false,false] rfl rfl (any_of HT_.out (by kernel_rfl)) (fun _ _ _ h => h) (Or.inl ⟨by rfl,?_⟩) ?_ ?_
                rotate_left
                ·intro w'
                 go_simp
                 with_reducible rfl
                rotate_left
                ·simp only [Act.put,List.setIfInBounds_toArray,List.set_cons_zero,List.set_cons_succ,i64_w,i32_w]
                 rfl
                refine pure_ (i := 19) (N := some 84) (v := ?_) (a' := ?_) #[true,true,true,true,true,true,true,true,true,true,true,true,true,true,true,true,true,true,true,true,false,false,false,false,false,false,false,false,false,false,false,false,false,false,false,false,false,false,false,false,false,false,false,false] rfl rfl (any_of HT_.out (by kernel_rfl)) (fun _ _ _ h => h) (Or.inl ⟨by rfl,?_⟩) ?_ ?_
                rotate_left
                ·intro w'
                 go_simp
                 with_reducible rfl
                rotate_left
                ·simp only [Act.put,List.setIfInBounds_toArray,List.set_cons_zero,List.set_cons_succ,i64_w,i32_w]
                 rfl
                refine pure_ (i := 21) (N := some 86) (v := ?_) (a' := ?_) #[true,true,true,true,true,true,true,true,true,true,true,true,true,true,true,true,true,true,true,true,false,true,false,false,false,false,false,false,false,false,false,false,false,false,false,false,false,false,false,false,false,false,false,false] rfl rfl (any_of HT_.out (by kernel_rfl)) (fun _ _ _ h => h) (Or.inl ⟨by rfl,?_⟩) ?_ ?_
                rotate_left
                ·intro w'
                 go_simp
                 with_reducible rfl
                rotate_left
                ·simp only [Act.put,List.setIfInBounds_toArray,List.set_cons_zero,List.set_cons_succ,i64_w,i32_w]
                 rfl
                refine pure_ (i := 22) (N := some 87) (v := ?_) (a' := ?_) #[true,true,true,true,true,true,true,true,true,true,true,true,true,true,true,true,true,true,true,true,false,true,true,false,false,false,false,false,false,false,false,false,false,false,false,false,false,false,false,false,false,false,false,false] rfl rfl (any_of HT_.out (by kernel_rfl)) (fun _ _ _ h => h) (Or.inl ⟨by rfl,?_⟩) ?_ ?_
                rotate_left
                ·intro w'
                 go_simp
                 with_reducible rfl
                rotate_left
                ·simp only [Act.put,List.setIfInBounds_toArray,List.set_cons_zero,List.set_cons_succ,i64_w,i32_w]
                 rfl
                refine pure_ (i := 23) (N := some 88) (v := ?_) (a' := ?_) #[true,true,true,true,true,true,true,true,true,true,true,true,true,true,true,true,true,true,true,true,false,true,true,true,false,false,false,false,false,false,false,false,false,false,false,false,false,false,false,false,false,false,false,false] rfl rfl (any_of HT_.out (by kernel_rfl)) (fun _ _ _ h => h) (Or.inl ⟨by rfl,?_⟩) ?_ ?_
                rotate_left
                ·intro w'
                 go_simp
                 with_reducible rfl
                rotate_left
                ·simp only [Act.put,List.setIfInBounds_toArray,List.set_cons_zero,List.set_cons_succ,i64_w,i32_w]
                 rfl
                refine pure_ (i := 24) (N := some 89) (v := ?_) (a' := ?_) #[true,true,true,true,true,true,true,true,true,true,true,true,true,true,true,true,true,true,true,true,false,true,true,true,true,false,false,false,false,false,false,false,false,false,false,false,false,false,false,false,false,false,false,false] rfl rfl (any_of HT_.out (by kernel_rfl)) (fun _ _ _ h => h) (Or.inl ⟨by rfl,?_⟩) ?_ ?_
                rotate_left
                ·intro w'
                 go_simp
                 with_reducible rfl
                rotate_left
                ·simp only [Act.put,List.setIfInBounds_toArray,List.set_cons_zero,List.set_cons_succ,i64_w,i32_w]
                 rfl
                refine pure_ (i := 25) (N := some 90) (v := ?_) (a' := ?_) #[true,true,true,true,true,true,true,true,true,true,true,true,true,true,true,true,true,true,true,true,false,true,true,true,true,true,false,false,false,false,false,false,false,false,false,false,false,false,false,false,false,false,false,false] rfl rfl (any_of HT_.out (by kernel_rfl)) (fun _ _ _ h => h) (Or.inl ⟨by rfl,?_⟩) ?_ ?_
                rotate_left
                ·intro w'
                 go_simp
                 with_reducible rfl
                rotate_left
                ·simp only [Act.put,List.setIfInBounds_toArray,List.set_cons_zero,List.set_cons_succ,i64_w,i32_w]
                 rfl
                refine take_ (i := 20) (N := some 85) (v := ?_) (a' := ?_) #[true,true,true,true,true,true,true,true,true,true,true,true,true,true,true,true,true,true,true,true,true,true,true,true,true,true,false,false,false,false,false,false,false,false,false,false,false,false,false,false,false,false,false,false] rfl rfl (take_ofW HT_.out HW_.out (by kernel_rfl)) (fun _ _ _ h => h) (Or.inl ⟨by rfl,?_⟩) hHeld ?_ ?_
                rotate_left
                ·rintro w' ⟨s0,s1,s2,s3,s4,s5,s6,s7⟩
                 go_simp
                 with_reducible rfl
                rotate_left
                ·simp only [Act.put,List.setIfInBounds_toArray,List.set_cons_zero,List.set_cons_succ,i64_w,i32_w]
                 rfl
                refine take_ (i := 26) (N := some 91) (v := ?_) (a' := ?_) #[true,true,true,true,true,true,true,true,true,true,true,true,true,true,true,true,true,true,true,true,true,true,true,true,true,true,true,false,false,false,false,false,false,false,false,false,false,false,false,false,false,false,false,false] rfl rfl (take_ofW HT_.out HW_.out (by kernel_rfl)) (fun _ _ _ h => h) (Or.inl ⟨by rfl,?_⟩) hHeld ?_ ?_
                rotate_left
                ·rintro w' ⟨s0,s1,s2,s3,s4,s5,s6,s7⟩
                 go_simp
                 with_reducible rfl
                rotate_left
                ·simp only [Act.put,List.setIfInBounds_toArray,List.set_cons_zero,List.set_cons_succ,i64_w,i32_w]
                 rfl
                refine pure_ (i := 27) (N := some 92) (v := ?_) (a' := ?_) #[true,true,true,true,true,true,true,true,true,true,true,true,true,true,true,true,true,true,true,true,true,true,true,true,true,true,true,true,false,false,false,false,false,false,false,false,false,false,false,false,false,false,false,false] rfl rfl (any_of HT_.out (by kernel_rfl)) (fun _ _ _ h => h) (Or.inl ⟨by rfl,?_⟩) ?_ ?_
                rotate_left
                ·intro w'
                 go_simp
                 with_reducible rfl
                rotate_left
                ·simp only [Act.put,List.setIfInBounds_toArray,List.set_cons_zero,List.set_cons_succ,i64_w,i32_w]
                 rfl
                refine pure_ (i := 28) (N := some 93) (v := ?_) (a' := ?_) #[true,true,true,true,true,true,true,true,true,true,true,true,true,true,true,true,true,true,true,true,true,true,true,true,true,true,true,true,true,false,false,false,false,false,false,false,false,false,false,false,false,false,false,false] rfl rfl (any_of HT_.out (by kernel_rfl)) (fun _ _ _ h => h) (Or.inl ⟨by rfl,?_⟩) ?_ ?_
                rotate_left
                ·intro w'
                 go_simp
                 with_reducible rfl
                rotate_left
                ·simp only [Act.put,List.setIfInBounds_toArray,List.set_cons_zero,List.set_cons_succ,i64_w,i32_w]
                 rfl
                refine pure_ (i := 29) (N := some 94) (v := undef) (a' := ?_) #[true,true,true,true,true,true,true,true,true,true,true,true,true,true,true,true,true,true,true,true,true,true,true,true,true,true,true,true,true,true,false,false,false,false,false,false,false,false,false,false,false,false,false,false] rfl rfl (any_of HT_.out (by kernel_rfl)) (fun _ _ _ h => h) (Or.inr ⟨by rfl,rfl⟩) ?_ ?_
                rotate_left
                ·simp only [Act.put,List.setIfInBounds_toArray,List.set_cons_zero,List.set_cons_succ,i64_w,i32_w]
                 rfl
                refine pure_ (i := 30) (N := some 95) (v := undef) (a' := ?_) #[true,true,true,true,true,true,true,true,true,true,true,true,true,true,true,true,true,true,true,true,true,true,true,true,true,true,true,true,true,true,true,false,false,false,false,false,false,false,false,false,false,false,false,false] rfl rfl (any_of HT_.out (by kernel_rfl)) (fun _ _ _ h => h) (Or.inr ⟨by rfl,rfl⟩) ?_ ?_
                rotate_left
                ·simp only [Act.put,List.setIfInBounds_toArray,List.set_cons_zero,List.set_cons_succ,i64_w,i32_w]
                 rfl
                refine pure_ (i := 31) (N := some 96) (v := undef) (a' := ?_) #[true,true,true,true,true,true,true,true,true,true,true,true,true,true,true,true,true,true,true,true,true,true,true,true,true,true,true,true,true,true,true,true,false,false,false,false,false,false,false,false,false,false,false,false] rfl rfl (any_of HT_.out (by kernel_rfl)) (fun _ _ _ h => h) (Or.inr ⟨by rfl,rfl⟩) ?_ ?_
                rotate_left
                ·simp only [Act.put,List.setIfInBounds_toArray,List.set_cons_zero,List.set_cons_succ,i64_w,i32_w]
                 rfl
                refine pure_ (i := 32) (N := some 97) (v := undef) (a' := ?_) #[true,true,true,true,true,true,true,true,true,true,true,true,true,true,true,true,true,true,true,true,true,true,true,true,true,true,true,true,true,true,true,true,true,false,false,false,false,false,false,false,false,false,false,false] rfl rfl (any_of HT_.out (by kernel_rfl)) (fun _ _ _ h => h) (Or.inr ⟨by rfl,rfl⟩) ?_ ?_
                rotate_left
                ·simp only [Act.put,List.setIfInBounds_toArray,List.set_cons_zero,List.set_cons_succ,i64_w,i32_w]
                 rfl
                refine pure_ (i := 33) (N := some 98) (v := undef) (a' := ?_) #[true,true,true,true,true,true,true,true,true,true,true,true,true,true,true,true,true,true,true,true,true,true,true,true,true,true,true,true,true,true,true,true,true,true,false,false,false,false,false,false,false,false,false,false] rfl rfl (any_of HT_.out (by kernel_rfl)) (fun _ _ _ h => h) (Or.inr ⟨by rfl,rfl⟩) ?_ ?_
                rotate_left
                ·simp only [Act.put,List.setIfInBounds_toArray,List.set_cons_zero,List.set_cons_succ,i64_w,i32_w]
                 rfl
                refine pure_ (i := 34) (N := some 99) (v := undef) (a' := ?_) #[true,true,true,true,true,true,true,true,true,true,true,true,true,true,true,true,true,true,true,true,true,true,true,true,true,true,true,true,true,true,true,true,true,true,true,false,false,false,false,false,false,false,false,false] rfl rfl (any_of HT_.out (by kernel_rfl)) (fun _ _ _ h => h) (Or.inr ⟨by rfl,rfl⟩) ?_ ?_
                rotate_left
                ·simp only [Act.put,List.setIfInBounds_toArray,List.set_cons_zero,List.set_cons_succ,i64_w,i32_w]
                 rfl
                refine pure_ (i := 35) (N := some 100) (v := undef) (a' := ?_) #[true,true,true,true,true,true,true,true,true,true,true,true,true,true,true,true,true,true,true,true,true,true,true,true,true,true,true,true,true,true,true,true,true,true,true,true,false,false,false,false,false,false,false,false] rfl rfl (any_of HT_.out (by kernel_rfl)) (fun _ _ _ h => h) (Or.inr ⟨by rfl,rfl⟩) ?_ ?_
                rotate_left
                ·simp only [Act.put,List.setIfInBounds_toArray,List.set_cons_zero,List.set_cons_succ,i64_w,i32_w]
                 rfl
                refine pure_ (i := 36) (N := some 101) (v := undef) (a' := ?_) #[true,true,true,true,true,true,true,true,true,true,true,true,true,true,true,true,true,true,true,true,true,true,true,true,true,true,true,true,true,true,true,true,true,true,true,true,true,false,false,false,false,false,false,false] rfl rfl (any_of HT_.out (by kernel_rfl)) (fun _ _ _ h => h) (Or.inr ⟨by rfl,rfl⟩) ?_ ?_
                rotate_left
                ·simp only [Act.put,List.setIfInBounds_toArray,List.set_cons_zero,List.set_cons_succ,i64_w,i32_w]
                 rfl
                refine pure_ (i := 37) (N := some 102) (v := undef) (a' := ?_) #[true,true,true,true,true,true,true,true,true,true,true,true,true,true,true,true,true,true,true,true,true,true,true,true,true,true,true,true,true,true,true,true,true,true,true,true,true,true,false,false,false,false,false,false] rfl rfl (any_of HT_.out (by kernel_rfl)) (fun _ _ _ h => h) (Or.inr ⟨by rfl,rfl⟩) ?_ ?_
                rotate_left
                ·simp only [Act.put,List.setIfInBounds_toArray,List.set_cons_zero,List.set_cons_succ,i64_w,i32_w]
                 rfl
                refine pure_ (i := 38) (N := some 103) (v := undef) (a' := ?_) #[true,true,true,true,true,true,true,true,true,true,true,true,true,true,true,true,true,true,true,true,true,true,true,true,true,true,true,true,true,true,true,true,true,true,true,true,true,true,true,false,false,false,false,false] rfl rfl (any_of HT_.out (by kernel_rfl)) (fun _ _ _ h => h) (Or.inr ⟨by rfl,rfl⟩) ?_ ?_
                rotate_left
                ·simp only [Act.put,List.setIfInBounds_toArray,List.set_cons_zero,List.set_cons_succ,i64_w,i32_w]
                 rfl
                refine pure_ (i := 39) (N := some 104) (v := undef) (a' := ?_) #[true,true,true,true,true,true,true,true,true,true,true,true,true,true,true,true,true,true,true,true,true,true,true,true,true,true,true,true,true,true,true,true,true,true,true,true,true,true,true,true,false,false,false,false] rfl rfl (any_of HT_.out (by kernel_rfl)) (fun _ _ _ h => h) (Or.inr ⟨by rfl,rfl⟩) ?_ ?_
                rotate_left
                ·simp only [Act.put,List.setIfInBounds_toArray,List.set_cons_zero,List.set_cons_succ,i64_w,i32_w]
                 rfl
                refine pure_ (i := 40) (N := some 105) (v := undef) (a' := ?_) #[true,true,true,true,true,true,true,true,true,true,true,true,true,true,true,true,true,true,true,true,true,true,true,true,true,true,true,true,true,true,true,true,true,true,true,true,true,true,true,true,true,false,false,false] rfl rfl (any_of HT_.out (by kernel_rfl)) (fun _ _ _ h => h) (Or.inr ⟨by rfl,rfl⟩) ?_ ?_
                rotate_left
                ·simp only [Act.put,List.setIfInBounds_toArray,List.set_cons_zero,List.set_cons_succ,i64_w,i32_w]
                 rfl
                refine pure_ (i := 41) (N := some 106) (v := ?_) (a' := ?_) #[true,true,true,true,true,true,true,true,true,true,true,true,true,true,true,true,true,true,true,true,true,true,true,true,true,true,true,true,true,true,true,true,true,true,true,true,true,true,true,true,true,true,false,false] rfl rfl (any_of HT_.out (by kernel_rfl)) (fun _ _ _ h => h) (Or.inl ⟨by rfl,?_⟩) ?_ ?_
                rotate_left
                ·intro w'
                 go_simp
                 with_reducible rfl
                rotate_left
                ·simp only [Act.put,List.setIfInBounds_toArray,List.set_cons_zero,List.set_cons_succ,i64_w,i32_w]
                 rfl
                refine pure_ (i := 42) (N := some 107) (v := ?_) (a' := ?_) #[true,true,true,true,true,true,true,true,true,true,true,true,true,true,true,true,true,true,true,true,true,true,true,true,true,true,true,true,true,true,true,true,true,true,true,true,true,true,true,true,true,true,true,false] rfl rfl (any_of HT_.out (by kernel_rfl)) (fun _ _ _ h => h) (Or.inl ⟨by rfl,?_⟩) ?_ ?_
                rotate_left
                ·intro w'
                 go_simp
                 with_reducible rfl
                rotate_left
                ·simp only [Act.put,List.setIfInBounds_toArray,List.set_cons_zero,List.set_cons_succ,i64_w,i32_w]
                 rfl
                refine pure_ (i := 43) (N := some 108) (v := ?_) (a' := ?_) #[true,true,true,true,true,true,true,true,true,true,true,true,true,true,true,true,true,true,true,true,true,true,true,true,true,true,true,true,true,true,true,true,true,true,true,true,true,true,true,true,true,true,true,true] rfl rfl (any_of HT_.out (by kernel_rfl)) (fun _ _ _ h => h) (Or.inl ⟨by rfl,?_⟩) ?_ ?_
                rotate_left
                ·intro w'
                 go_simp
                 with_reducible rfl
                rotate_left
                ·simp only [Act.put,List.setIfInBounds_toArray,List.set_cons_zero,List.set_cons_succ,i64_w,i32_w]
                 rfl
                refine done_ (done_of HT_.out (by kernel_rfl)) ?_
                try go_wp2
                go_meet
                case rel => exact ⟨_,(false),au9,H',⟨by have := HK1.out;have := HJ12.out;first | omega | exact Nat.le_refl _⟩,⟨by (with_reducible repeat (first | apply Kd.R_alloc | apply Kd.R_drewN | apply Kd.R_drew));exact HO_3.out⟩,⟨by (with_reducible repeat (first | refine blk_drewN ?_ _ | refine blk_drew ?_ | refine blk_alloc ?_ _));exact BK238.out⟩,⟨by repeat (first | (with_reducible first | exact HB.out | apply below_alloc | apply pw_below_drewN | apply below_drew1 | refine below_set ?_ GE238.out) | exact HB.out)⟩⟩
             ·rw [if_neg c32] at H
              exact absurd H (by simp)
            ·rw [if_neg c31] at H
             exact absurd H (by simp)
           ·rw [if_neg c29] at H
            exact absurd H (by simp)
          ·rw [if_neg c28] at H
           exact absurd H (by simp)
         ·rw [if_neg c27] at H
          have c27b0 : decide (0 < x6_1) = false := decide_eq_false c27
          clear c27
          (first | rw [c27b0] | (simp only [i64_w,i32_w];rw [c27b0]) | skip)
          have H' := Aside0.mk H
          clear H
          try go_wp2
          have n0_ := Aside0.mk (Kd.R_drew HO_3.out)
          have n1_ := Aside0.mk (blk_drew BK238.out)
          have n2_ := Aside0.mk (below_drew1 HB.out)
          clear HO_3
          clear BK238
          clear HB
          have HO_3 := n0_
          have BK238 := n1_
          have HB := n2_
          clear n0_ n1_ n2_
          refine start_ (n := 44) (S := fun w' => True) (ds := []) #[false,false,false,false,false,false,false,false,false,false,false,false,false,false,false,false,false,false,false,false,false,false,false,false,false,false,false,false,false,false,false,false,false,false,false,false,false,false,false,false,false,false,false,false] (by kernel_rfl) rfl rfl trivial (fun hHeld => ?_);refine with_tabW bodkinlaw20_LayoutRises.tab11 bodkinlaw20_LayoutRises.bits11 (fun HT_ HW_ => ?_)
          generalize wc.drew = w38 at HO_3 BK238 HB hHeld ⊢
          refine pure_ (i := 0) (N := some 65) (v := ?_) (a' := ?_) #[true,false,false,false,false,false,false,false,false,false,false,false,false,false,false,false,false,false,false,false,false,false,false,false,false,false,false,false,false,false,false,false,false,false,false,false,false,false,false,false,false,false,false,false] rfl rfl (any_of HT_.out (by kernel_rfl)) (fun _ _ _ h => h) (Or.inl ⟨by rfl,?_⟩) ?_ ?_
          rotate_left
          ·intro w'
           go_simp
           with_reducible rfl
          rotate_left
          ·simp only [Act.put,List.setIfInBounds_toArray,List.set_cons_zero,List.set_cons_succ,i64_w,i32_w]
           rfl
          refine pure_ (i := 1) (N := some 66) (v := ?_) (a' := ?_) #[true,true,false,false,false,false,false,false,false,false,false,false,false,false,false,false,false,false,false,false,false,false,false,false,false,false,false,false,false,false,false,false,false,false,false,false,false,false,false,false,false,false,false,false] rfl rfl (any_of HT_.out (by kernel_rfl)) (fun _ _ _ h => h) (Or.inl ⟨by rfl,?_⟩) ?_ ?_
          rotate_left
          ·intro w'
           go_simp
           with_reducible rfl
          rotate_left
          ·simp only [Act.put,List.setIfInBounds_toArray,List.set_cons_zero,List.set_cons_succ,i64_w,i32_w]
           rfl
          refine pure_ (i := 2) (N := some 67) (v := ?_) (a' := ?_) #[true,true,true,false,false,false,false,false,false,false,false,false,false,false,false,false,false,false,false,false,false,false,false,false,false,false,false,false,false,false,false,false,false,false,false,false,false,false,false,false,false,false,false,false] rfl rfl (any_of HT_.out (by kernel_rfl)) (fun _ _ _ h => h) (Or.inl ⟨by rfl,?_⟩) ?_ ?_
          rotate_left
          ·intro w'
           go_simp
           with_reducible rfl
          rotate_left
          ·simp only [Act.put,List.setIfInBounds_toArray,List.set_cons_zero,List.set_cons_succ,i64_w,i32_w]
           rfl
          refine pure_ (i := 3) (N := some 68) (v := undef) (a' := ?_) #[true,true,true,true,false,false,false,false,false,false,false,false,false,false,false,false,false,false,false,false,false,false,false,false,false,false,false,false,false,false,false,false,false,false,false,false,false,false,false,false,false,false,false,false] rfl rfl (any_of HT_.out (by kernel_rfl)) (fun _ _ _ h => h) (Or.inr ⟨by rfl,rfl⟩) ?_ ?_
          rotate_left
          ·simp only [Act.put,List.setIfInBounds_toArray,List.set_cons_zero,List.set_cons_succ,i64_w,i32_w]
           rfl
          refine pure_ (i := 4) (N := some 69) (v := undef) (a' := ?_) #[true,true,true,true,true,false,false,false,false,false,false,false,false,false,false,false,false,false,false,false,false,false,false,false,false,false,false,false,false,false,false,false,false,false,false,false,false,false,false,false,false,false,false,false] rfl rfl (any_of HT_.out (by kernel_rfl)) (fun _ _ _ h => h) (Or.inr ⟨by rfl,rfl⟩) ?_ ?_
          rotate_left
          ·simp only [Act.put,List.setIfInBounds_toArray,List.set_cons_zero,List.set_cons_succ,i64_w,i32_w]
           rfl
          refine pure_ (i := 5) (N := some 70) (v := undef) (a' := ?_) #[true,true,true,true,true,true,false,false,false,false,false,false,false,false,false,false,false,false,false,false,false,false,false,false,false,false,false,false,false,false,false,false,false,false,false,false,false,false,false,false,false,false,false,false] rfl rfl (any_of HT_.out (by kernel_rfl)) (fun _ _ _ h => h) (Or.inr ⟨by rfl,rfl⟩) ?_ ?_
          rotate_left
          ·simp only [Act.put,List.setIfInBounds_toArray,List.set_cons_zero,List.set_cons_succ,i64_w,i32_w]
           rfl
          refine pure_ (i := 6) (N := some 71) (v := undef) (a' := ?_) #[true,true,true,true,true,true,true,false,false,false,false,false,false,false,false,false,false,false,false,false,false,false,false,false,false,false,false,false,false,false,false,false,false,false,false,false,false,false,false,false,false,false,false,false] rfl rfl (any_of HT_.out (by kernel_rfl)) (fun _ _ _ h => h) (Or.inr ⟨by rfl,rfl⟩) ?_ ?_
          rotate_left
          ·simp only [Act.put,List.setIfInBounds_toArray,List.set_cons_zero,List.set_cons_succ,i64_w,i32_w]
           rfl
          refine pure_ (i := 7) (N := some 72) (v := undef) (a' := ?_) #[true,true,true,true,true,true,true,true,false,false,false,false,false,false,false,false,false,false,false,false,false,false,false,false,false,false,false,false,false,false,false,false,false,false,false,false,false,false,false,false,false,false,false,false] rfl rfl (any_of HT_.out (by kernel_rfl)) (fun _ _ _ h => h) (Or.inr ⟨by rfl,rfl⟩) ?_ ?_
          rotate_left
          ·simp only [Act.put,List.setIfInBounds_toArray,List.set_cons_zero,List.set_cons_succ,i64_w,i32_w]
           rfl
          refine pure_ (i := 8) (N := some 73) (v := undef) (a' := ?_) #[true,true,true,true,true,true,true,true,true,false,false,false,false,false,false,false,false,false,false,false,false,false,false,false,false,false,false,false,false,false,false,false,false,false,false,false,false,false,false,false,false,false,false,false] rfl rfl (any_of HT_.out (by kernel_rfl)) (fun _ _ _ h => h) (Or.inr ⟨by rfl,rfl⟩) ?_ ?_
          rotate_left
          ·simp only [Act.put,List.setIfInBounds_toArray,List.set_cons_zero,List.set_cons_succ,i64_w,i32_w]
           rfl
          refine pure_ (i := 9) (N := some 74) (v := undef) (a' := ?_) #[true,true,true,true,true,true,true,true,true,true,false,false,false,false,false,false,false,false,false,false,false,false,false,false,false,false,false,false,false,false,false,false,false,false,false,false,false,false,false,false,false,false,false,false] rfl rfl (any_of HT_.out (by kernel_rfl)) (fun _ _ _ h => h) (Or.inr ⟨by rfl,rfl⟩) ?_ ?_
          rotate_left
          ·simp only [Act.put,List.setIfInBounds_toArray,List.set_cons_zero,List.set_cons_succ,i64_w,i32_w]
           rfl
          refine pure_ (i := 10) (N := some 75) (v := undef) (a' := ?_) #[true,true,true,true,true,true,true,true,true,true,true,false,false,false,false,false,false,false,false,false,false,false,false,false,false,false,false,false,false,false,false,false,false,false,false,false,false,false,false,false,false,false,false,false] rfl rfl (any_of HT_.out (by kernel_rfl)) (fun _ _ _ h => h) (Or.inr ⟨by rfl,rfl⟩) ?_ ?_
          rotate_left
          ·simp only [Act.put,List.setIfInBounds_toArray,List.set_cons_zero,List.set_cons_succ,i64_w,i32_w]
           rfl
          refine pure_ (i := 11) (N := some 76) (v := undef) (a' := ?_) #[true,true,true,true,true,true,true,true,true,true,true,true,false,false,false,false,false,false,false,false,false,false,false,false,false,false,false,false,false,false,false,false,false,false,false,false,false,false,false,false,false,false,false,false] rfl rfl (any_of HT_.out (by kernel_rfl)) (fun _ _ _ h => h) (Or.inr ⟨by rfl,rfl⟩) ?_ ?_
          rotate_left
          ·simp only [Act.put,List.setIfInBounds_toArray,List.set_cons_zero,List.set_cons_succ,i64_w,i32_w]
           rfl
          refine pure_ (i := 12) (N := some 77) (v := undef) (a' := ?_) #[true,true,true,true,true,true,true,true,true,true,true,true,true,false,false,false,false,false,false,false,false,false,false,false,false,false,false,false,false,false,false,false,false,false,false,false,false,false,false,false,false,false,false,false] rfl rfl (any_of HT_.out (by kernel_rfl)) (fun _ _ _ h => h) (Or.inr ⟨by rfl,rfl⟩) ?_ ?_
          rotate_left
          ·simp only [Act.put,List.setIfInBounds_toArray,List.set_cons_zero,List.set_cons_succ,i64_w,i32_w]
           rfl
          refine pure_ (i := 13) (N := some 78) (v := undef) (a' := ?_) #[true,true,true,true,true,true,true,true,true,true,true,true,true,true,false,false,false,false,false,false,false,false,false,false,false,false,false,false,false,false,false,false,false,false,false,false,false,false,false,false,false,false,false,false] rfl rfl (any_of HT_.out (by kernel_rfl)) (fun _ _ _ h => h) (Or.inr ⟨by rfl,rfl⟩) ?_ ?_
          rotate_left
          ·simp only [Act.put,List.setIfInBounds_toArray,List.set_cons_zero,List.set_cons_succ,i64_w,i32_w]
           rfl
          refine pure_ (i := 14) (N := some 79) (v := undef) (a' := ?_) #[true,true,true,true,true,true,true,true,true,true,true,true,true,true,true,false,false,false,false,false,false,false,false,false,false,false,false,false,false,false,false,false,false,false,false,false,false,false,false,false,false,false,false,false] rfl rfl (any_of HT_.out (by kernel_rfl)) (fun _ _ _ h => h) (Or.inr ⟨by rfl,rfl⟩) ?_ ?_
          rotate_left
          ·simp only [Act.put,List.setIfInBounds_toArray,List.set_cons_zero,List.set_cons_succ,i64_w,i32_w]
           rfl
          refine pure_ (i := 15) (N := some 80) (v := undef) (a' := ?_) #[true,true,true,true,true,true,true,true,true,true,true,true,true,true,true,true,false,false,false,false,false,false,false,false,false,false,false,false,false,false,false,false,false,false,false,false,false,false,false,false,false,false,false,false] rfl rfl (any_of HT_.out (by kernel_rfl)) (fun _ _ _ h => h) (Or.inr ⟨by rfl,rfl⟩) ?_ ?_
          rotate_left
          ·simp only [Act.put,List.setIfInBounds_toArray,List.set_cons_zero,List.set_cons_succ,i64_w,i32_w]
           rfl
          refine pure_ (i := 16) (N := some 81) (v := undef) (a' := ?_) #[true,true,true,true,true,true,true,true,true,true,true,true,true,true,true,true,true,false,false,false,false,false,false,false,false,false,false,false,false,false,false,false,false,false,false,false,false,false,false,false,false,false,false,false] rfl rfl (any_of HT_.out (by kernel_rfl)) (fun _ _ _ h => h) (Or.inr ⟨by rfl,rfl⟩) ?_ ?_
          rotate_left
          ·simp only [Act.put,List.setIfInBounds_toArray,List.set_cons_zero,List.set_cons_succ,i64_w,i32_w]
           rfl
          refine pure_ (i := 17) (N := some 82) (v := undef) (a' := ?_) #[true,true,true,true,true,true,true,true,true,true,true,true,true,true,true,true,true,true,false,false,false,false,false,false,false,false,false,false,false,false,false,false,false,false,false,false,false,false,false,false,false,false,false,false] rfl rfl (any_of HT_.out (by kernel_rfl)) (fun _ _ _ h => h) (Or.inr ⟨by rfl,rfl⟩) ?_ ?_
          rotate_left
          ·simp only [Act.put,List.setIfInBounds_toArray,List.set_cons_zero,List.set_cons_succ,i64_w,i32_w]
           rfl
          refine pure_ (i := 18) (N := some 83) (v := undef) (a' := ?_) #[true,true,true,true,true,true,true,true,true,true,true,true,true,true,true,true,true,true,true,false,false,false,false,false,false,false,false,false,false,false,false,false,false,false,false,false,false,false,false,false,false,false,false,false] rfl rfl (any_of HT_.out (by kernel_rfl)) (fun _ _ _ h => h) (Or.inr ⟨by rfl,rfl⟩) ?_ ?_
          rotate_left
          ·simp only [Act.put,List.setIfInBounds_toArray,List.set_cons_zero,List.set_cons_succ,i64_w,i32_w]
           rfl
          refine pure_ (i := 19) (N := some 84) (v := undef) (a' := ?_) #[true,true,true,true,true,true,true,true,true,true,true,true,true,true,true,true,true,true,true,true,false,false,false,false,false,false,false,false,false,false,false,false,false,false,false,false,false,false,false,false,false,false,false,false] rfl rfl (any_of HT_.out (by kernel_rfl)) (fun _ _ _ h => h) (Or.inr ⟨by rfl,rfl⟩) ?_ ?_
          rotate_left
          ·simp only [Act.put,List.setIfInBounds_toArray,List.set_cons_zero,List.set_cons_succ,i64_w,i32_w]
           rfl
          refine pure_ (i := 20) (N := some 85) (v := undef) (a' := ?_) #[true,true,true,true,true,true,true,true,true,true,true,true,true,true,true,true,true,true,true,true,true,false,false,false,false,false,false,false,false,false,false,false,false,false,false,false,false,false,false,false,false,false,false,false] rfl rfl (any_of HT_.out (by kernel_rfl)) (fun _ _ _ h => h) (Or.inr ⟨by rfl,rfl⟩) ?_ ?_
          rotate_left
          ·simp only [Act.put,List.setIfInBounds_toArray,List.set_cons_zero,List.set_cons_succ,i64_w,i32_w]
           rfl
          refine pure_ (i := 21) (N := some 86) (v := undef) (a' := ?_) #[true,true,true,true,true,true,true,true,true,true,true,true,true,true,true,true,true,true,true,true,true,true,false,false,false,false,false,false,false,false,false,false,false,false,false,false,false,false,false,false,false,false,false,false] rfl rfl (any_of HT_.out (by kernel_rfl)) (fun _ _ _ h => h) (Or.inr ⟨by rfl,rfl⟩) ?_ ?_
          rotate_left
          ·simp only [Act.put,List.setIfInBounds_toArray,List.set_cons_zero,List.set_cons_succ,i64_w,i32_w]
           rfl
          refine pure_ (i := 22) (N := some 87) (v := undef) (a' := ?_) #[true,true,true,true,true,true,true,true,true,true,true,true,true,true,true,true,true,true,true,true,true,true,true,false,false,false,false,false,false,false,false,false,false,false,false,false,false,false,false,false,false,false,false,false] rfl rfl (any_of HT_.out (by kernel_rfl)) (fun _ _ _ h => h) (Or.inr ⟨by rfl,rfl⟩) ?_ ?_
          rotate_left
          ·simp only [Act.put,List.setIfInBounds_toArray,List.set_cons_zero,List.set_cons_succ,i64_w,i32_w]
           rfl
          refine pure_ (i := 23) (N := some 88) (v := undef) (a' := ?_) #[true,true,true,true,true,true,true,true,true,true,true,true,true,true,true,true,true,true,true,true,true,true,true,true,false,false,false,false,false,false,false,false,false,false,false,false,false,false,false,false,false,false,false,false] rfl rfl (any_of HT_.out (by kernel_rfl)) (fun _ _ _ h => h) (Or.inr ⟨by rfl,rfl⟩) ?_ ?_
          rotate_left
          ·simp only [Act.put,List.setIfInBounds_toArray,List.set_cons_zero,List.set_cons_succ,i64_w,i32_w]
           rfl
          refine pure_ (i := 24) (N := some 89) (v := undef) (a' := ?_) #[true,true,true,true,true,true,true,true,true,true,true,true,true,true,true,true,true,true,true,true,true,true,true,true,true,false,false,false,false,false,false,false,false,false,false,false,false,false,false,false,false,false,false,false] rfl rfl (any_of HT_.out (by kernel_rfl)) (fun _ _ _ h => h) (Or.inr ⟨by rfl,rfl⟩) ?_ ?_
          rotate_left
          ·simp only [Act.put,List.setIfInBounds_toArray,List.set_cons_zero,List.set_cons_succ,i64_w,i32_w]
           rfl
          refine pure_ (i := 25) (N := some 90) (v := undef) (a' := ?_) #[true,true,true,true,true,true,true,true,true,true,true,true,true,true,true,true,true,true,true,true,true,true,true,true,true,true,false,false,false,false,false,false,false,false,false,false,false,false,false,false,false,false,false,false] rfl rfl (any_of HT_.out (by kernel_rfl)) (fun _ _ _ h => h) (Or.inr ⟨by rfl,rfl⟩) ?_ ?_
          rotate_left
          ·simp only [Act.put,List.setIfInBounds_toArray,List.set_cons_zero,List.set_cons_succ,i64_w,i32_w]
           rfl
          refine pure_ (i := 26) (N := some 91) (v := undef) (a' := ?_) #[true,true,true,true,true,true,true,true,true,true,true,true,true,true,true,true,true,true,true,true,true,true,true,true,true,true,true,false,false,false,false,false,false,false,false,false,false,false,false,false,false,false,false,false] rfl rfl (any_of HT_.out (by kernel_rfl)) (fun _ _ _ h => h) (Or.inr ⟨by rfl,rfl⟩) ?_ ?_
          rotate_left
          ·simp only [Act.put,List.setIfInBounds_toArray,List.set_cons_zero,List.set_cons_succ,i64_w,i32_w]
           rfl
          refine pure_ (i := 27) (N := some 92) (v := undef) (a' := ?_) #[true,true,true,true,true,true,true,true,true,true,true,true,true,true,true,true,true,true,true,true,true,true,true,true,true,true,true,true,false,false,false,false,false,false,false,false,false,false,false,false,false,false,false,false] rfl rfl (any_of HT_.out (by kernel_rfl)) (fun _ _ _ h => h) (Or.inr ⟨by rfl,rfl⟩) ?_ ?_
          rotate_left
          ·simp only [Act.put,List.setIfInBounds_toArray,List.set_cons_zero,List.set_cons_succ,i64_w,i32_w]
           rfl
          refine pure_ (i := 28) (N := some 93) (v := undef) (a' := ?_) #[true,true,true,true,true,true,true,true,true,true,true,true,true,true,true,true,true,true,true,true,true,true,true,true,true,true,true,true,true,false,false,false,false,false,false,false,false,false,false,false,false,false,false,false] rfl rfl (any_of HT_.out (by kernel_rfl)) (fun _ _ _ h => h) (Or.inr ⟨by rfl,rfl⟩) ?_ ?_
          rotate_left
          ·simp only [Act.put,List.setIfInBounds_toArray,List.set_cons_zero,List.set_cons_succ,i64_w,i32_w]
           rfl
          refine pure_ (i := 29) (N := some 94) (v := undef) (a' := ?_) #[true,true,true,true,true,true,true,true,true,true,true,true,true,true,true,true,true,true,true,true,true,true,true,true,true,true,true,true,true,true,false,false,false,false,false,false,false,false,false,false,false,false,false,false] rfl rfl (any_of HT_.out (by kernel_rfl)) (fun _ _ _ h => h) (Or.inr ⟨by rfl,rfl⟩) ?_ ?_
          rotate_left
          ·simp only [Act.put,List.setIfInBounds_toArray,List.set_cons_zero,List.set_cons_succ,i64_w,i32_w]
           rfl
          refine pure_ (i := 30) (N := some 95) (v := undef) (a' := ?_) #[true,true,true,true,true,true,true,true,true,true,true,true,true,true,true,true,true,true,true,true,true,true,true,true,true,true,true,true,true,true,true,false,false,false,false,false,false,false,false,false,false,false,false,false] rfl rfl (any_of HT_.out (by kernel_rfl)) (fun _ _ _ h => h) (Or.inr ⟨by rfl,rfl⟩) ?_ ?_
          rotate_left
          ·simp only [Act.put,List.setIfInBounds_toArray,List.set_cons_zero,List.set_cons_succ,i64_w,i32_w]
           rfl
          refine pure_ (i := 31) (N := some 96) (v := undef) (a' := ?_) #[true,true,true,true,true,true,true,true,true,true,true,true,true,true,true,true,true,true,true,true,true,true,true,true,true,true,true,true,true,true,true,true,false,false,false,false,false,false,false,false,false,false,false,false] rfl rfl (any_of HT_.out (by kernel_rfl)) (fun _ _ _ h => h) (Or.inr ⟨by rfl,rfl⟩) ?_ ?_
          rotate_left
          ·simp only [Act.put,List.setIfInBounds_toArray,List.set_cons_zero,List.set_cons_succ,i64_w,i32_w]
           rfl
          refine pure_ (i := 32) (N := some 97) (v := undef) (a' := ?_) #[true,true,true,true,true,true,true,true,true,true,true,true,true,true,true,true,true,true,true,true,true,true,true,true,true,true,true,true,true,true,true,true,true,false,false,false,false,false,false,false,false,false,false,false] rfl rfl (any_of HT_.out (by kernel_rfl)) (fun _ _ _ h => h) (Or.inr ⟨by rfl,rfl⟩) ?_ ?_
          rotate_left
          ·simp only [Act.put,List.setIfInBounds_toArray,List.set_cons_zero,List.set_cons_succ,i64_w,i32_w]
           rfl
          refine pure_ (i := 33) (N := some 98) (v := undef) (a' := ?_) #[true,true,true,true,true,true,true,true,true,true,true,true,true,true,true,true,true,true,true,true,true,true,true,true,true,true,true,true,true,true,true,true,true,true,false,false,false,false,false,false,false,false,false,false] rfl rfl (any_of HT_.out (by kernel_rfl)) (fun _ _ _ h => h) (Or.inr ⟨by rfl,rfl⟩) ?_ ?_
          rotate_left
          ·simp only [Act.put,List.setIfInBounds_toArray,List.set_cons_zero,List.set_cons_succ,i64_w,i32_w]
           rfl
          refine pure_ (i := 34) (N := some 99) (v := undef) (a' := ?_) #[true,true,true,true,true,true,true,true,true,true,true,true,true,true,true,true,true,true,true,true,true,true,true,true,true,true,true,true,true,true,true,true,true,true,true,false,false,false,false,false,false,false,false,false] rfl rfl (any_of HT_.out (by kernel_rfl)) (fun _ _ _ h => h) (Or.inr ⟨by rfl,rfl⟩) ?_ ?_
          rotate_left
          ·simp only [Act.put,List.setIfInBounds_toArray,List.set_cons_zero,List.set_cons_succ,i64_w,i32_w]
           rfl
          refine pure_ (i := 35) (N := some 100) (v := undef) (a' := ?_) #[true,true,true,true,true,true,true,true,true,true,true,true,true,true,true,true,true,true,true,true,true,true,true,true,true,true,true,true,true,true,true,true,true,true,true,true,false,false,false,false,false,false,false,false] rfl rfl (any_of HT_.out (by kernel_rfl)) (fun _ _ _ h => h) (Or.inr ⟨by rfl,rfl⟩) ?_ ?_
          rotate_left
          ·simp only [Act.put,List.setIfInBounds_toArray,List.set_cons_zero,List.set_cons_succ,i64_w,i32_w]
           rfl
          refine pure_ (i := 36) (N := some 101) (v := undef) (a' := ?_) #[true,true,true,true,true,true,true,true,true,true,true,true,true,true,true,true,true,true,true,true,true,true,true,true,true,true,true,true,true,true,true,true,true,true,true,true,true,false,false,false,false,false,false,false] rfl rfl (any_of HT_.out (by kernel_rfl)) (fun _ _ _ h => h) (Or.inr ⟨by rfl,rfl⟩) ?_ ?_
          rotate_left
          ·simp only [Act.put,List.setIfInBounds_toArray,List.set_cons_zero,List.set_cons_succ,i64_w,i32_w]
           rfl
          refine pure_ (i := 37) (N := some 102) (v := undef) (a' := ?_) #[true,true,true,true,true,true,true,true,true,true,true,true,true,true,true,true,true,true,true,true,true,true,true,true,true,true,true,true,true,true,true,true,true,true,true,true,true,true,false,false,false,false,false,false] rfl rfl (any_of HT_.out (by kernel_rfl)) (fun _ _ _ h => h) (Or.inr ⟨by rfl,rfl⟩) ?_ ?_
          rotate_left
          ·simp only [Act.put,List.setIfInBounds_toArray,List.set_cons_zero,List.set_cons_succ,i64_w,i32_w]
           rfl
          refine pure_ (i := 38) (N := some 103) (v := undef) (a' := ?_) #[true,true,true,true,true,true,true,true,true,true,true,true,true,true,true,true,true,true,true,true,true,true,true,true,true,true,true,true,true,true,true,true,true,true,true,true,true,true,true,false,false,false,false,false] rfl rfl (any_of HT_.out (by kernel_rfl)) (fun _ _ _ h => h) (Or.inr ⟨by rfl,rfl⟩) ?_ ?_
          rotate_left
          ·simp only [Act.put,List.setIfInBounds_toArray,List.set_cons_zero,List.set_cons_succ,i64_w,i32_w]
           rfl
          refine pure_ (i := 39) (N := some 104) (v := undef) (a' := ?_) #[true,true,true,true,true,true,true,true,true,true,true,true,true,true,true,true,true,true,true,true,true,true,true,true,true,true,true,true,true,true,true,true,true,true,true,true,true,true,true,true,false,false,false,false] rfl rfl (any_of HT_.out (by kernel_rfl)) (fun _ _ _ h => h) (Or.inr ⟨by rfl,rfl⟩) ?_ ?_
          rotate_left
          ·simp only [Act.put,List.setIfInBounds_toArray,List.set_cons_zero,List.set_cons_succ,i64_w,i32_w]
           rfl
          refine pure_ (i := 40) (N := some 105) (v := undef) (a' := ?_) #[true,true,true,true,true,true,true,true,true,true,true,true,true,true,true,true,true,true,true,true,true,true,true,true,true,true,true,true,true,true,true,true,true,true,true,true,true,true,true,true,true,false,false,false] rfl rfl (any_of HT_.out (by kernel_rfl)) (fun _ _ _ h => h) (Or.inr ⟨by rfl,rfl⟩) ?_ ?_
          rotate_left
          ·simp only [Act.put,List.setIfInBounds_toArray,List.set_cons_zero,List.set_cons_succ,i64_w,i32_w]
           rfl
          refine pure_ (i := 41) (N := some 106) (v := undef) (a' := ?_) #[true,true,true,true,true,true,true,true,true,true,true,true,true,true,true,true,true,true,true,true,true,true,true,true,true,true,true,true,true,true,true,true,true,true,true,true,true,true,true,true,true,true,false,false] rfl rfl (any_of HT_.out (by kernel_rfl)) (fun _ _ _ h => h) (Or.inr ⟨by rfl,rfl⟩) ?_ ?_
          rotate_left
          ·simp only [Act.put,List.setIfInBounds_toArray,List.set_cons_zero,List.set_cons_succ,i64_w,i32_w]
           rfl
          refine pure_ (i := 42) (N := some 107) (v := undef) (a' := ?_) #[true,true,true,true,true,true,true,true,true,true,true,true,true,true,true,true,true,true,true,true,true,true,true,true,true,true,true,true,true,true,true,true,true,true,true,true,true,true,true,true,true,true,true,false] rfl rfl (any_of HT_.out (by kernel_rfl)) (fun _ _ _ h => h) (Or.inr ⟨by rfl,rfl⟩) ?_ ?_
          rotate_left
          ·simp only [Act.put,List.setIfInBounds_toArray,List.set_cons_zero,List.set_cons_succ,i64_w,i32_w]
           rfl
          refine pure_ (i := 43) (N := some 108) (v := ?_) (a' := ?_) #[true,true,true,true,true,true,true,true,true,true,true,true,true,true,true,true,true,true,true,true,true,true,true,true,true,true,true,true,true,true,true,true,true,true,true,true,true,true,true,true,true,true,true,true] rfl rfl (any_of HT_.out (by kernel_rfl)) (fun _ _ _ h => h) (Or.inl ⟨by rfl,?_⟩) ?_ ?_
          rotate_left
          ·intro w'
           go_simp
           with_reducible rfl
          rotate_left
          ·simp only [Act.put,List.setIfInBounds_toArray,List.set_cons_zero,List.set_cons_succ,i64_w,i32_w]
           rfl
          refine done_ (done_of HT_.out (by kernel_rfl)) ?_
          try go_wp2
          go_meet
          case rel => exact ⟨_,(false),au9,H',⟨by have := HK1.out;have := HJ12.out;first | omega | exact Nat.le_refl _⟩,⟨by (with_reducible repeat (first | apply Kd.R_alloc | apply Kd.R_drewN | apply Kd.R_drew));exact HO_3.out⟩,⟨by (with_reducible repeat (first | refine blk_drewN ?_ _ | refine blk_drew ?_ | refine blk_alloc ?_ _));exact BK238.out⟩,⟨by repeat (first | (with_reducible first | exact HB.out | apply below_alloc | apply pw_below_drewN | apply below_drew1 | refine below_set ?_ GE238.out) | exact HB.out)⟩⟩
        case rest => as_aux_lemma =>
         clear HC26
         try clear c2
         try clear p2
         try clear q2
         try clear hx2
         try clear c3
         try clear p24
         try clear q24
         try clear hx24
         try clear p25
         try clear q25
         try clear hx25
         try clear c27
         try clear c27b0
         try clear c28
         try clear c29
         try clear c31
         try clear c32
         try clear c35
         try clear c35b0
         try clear c35b1
         try clear hx249_0
         try clear hx249_1
         try clear hx250_0
         try clear hx250_1
         try clear hx251_0
         try clear hx251_1
         try clear hx252_0
         try clear hx252_1
         try clear p249
         try clear p250
         try clear p251
         try clear p252
         try clear q249
         try clear q250
         try clear q251
         try clear q252
         obtain ⟨kq,x108_25,rfl,HA,HJ25,HO_3,BK238,HB⟩ := hcut
         cases kq with
         | zero => exact absurd HA.out (by simp [bodkinlaw20_LayoutRises.j2])
         | succ kj25 =>
          have H := HA.out
          clear HA
          simp only [bodkinlaw20_LayoutRises.j2] at H
          by_cases c39 : x108_25 = true
          ·subst c39
           have H1 : (some false) = some r := by rw [if_pos rfl] at H;exact H
           clear H
           have H := H1
           clear H1
           obtain rfl := Option.some.inj H
           cases hr_
          ·replace c39 := Bool.eq_false_iff.mpr c39
           subst c39
           have H1 : ((cluster_Next.f kj25 a0_1 x5_1).bind fun t255 => (if x6_1 < 40 then ((layout_Lay.f a0_0 a0_1 x5_1 a0_3).bind fun bt256 => (if 0 ≤ x6_1 then (if x6_1 < (t240.length : Int) then (if (!(bt256.2.2.1 == ((rd_T27 t240 x6_1).f0)) || (!(bt256.2.2.2 == ((rd_T27 t240 x6_1).f1)))) = true then (bodkinlaw20_LayoutRises.j3 kj25 t240 t243 x5_1 x6_1 t255 true a0_0 a0_1 a0_2 a0_3) else ((bodkinlaw20_width.f a0_3).bind fun t264 => (if bt256.1 = t264 then (bodkinlaw20_LayoutRises.j3 kj25 t240 t243 x5_1 x6_1 t255 ((bt256.2.1.length : Int) != t243) a0_0 a0_1 a0_2 a0_3) else (bodkinlaw20_LayoutRises.j3 kj25 t240 t243 x5_1 x6_1 t255 true a0_0 a0_1 a0_2 a0_3)))) else (none)) else (none))) else (if (wrap64 (x6_1 + 1)) < (t240.length : Int) then (if t255 ≤ x5_1 then (some false) else (bodkinlaw20_LayoutRises.l0 kj25 t240 t243 t255 (wrap64 (x6_1 + 1)) a0_0 a0_1 a0_2 a0_3)) else (bodkinlaw20_LayoutRises.l0 kj25 t240 t243 t255 (wrap64 (x6_1 + 1)) a0_0 a0_1 a0_2 a0_3)))) = some r := by rw [if_neg (show ¬ (false = true) by decide)] at H;exact H
           clear H
           have H := H1
           clear H1
           replace H := Option.bind_eq_some_iff.mp H
           obtain ⟨t255,A400,H⟩ := H
           replace H : (if x6_1 < 40 then ((layout_Lay.f a0_0 a0_1 x5_1 a0_3).bind fun bt256 => (if 0 ≤ x6_1 then (if x6_1 < (t240.length : Int) then (if (!(bt256.2.2.1 == ((rd_T27 t240 x6_1).f0)) || (!(bt256.2.2.2 == ((rd_T27 t240 x6_1).f1)))) = true then (bodkinlaw20_LayoutRises.j3 kj25 t240 t243 x5_1 x6_1 t255 true a0_0 a0_1 a0_2 a0_3) else ((bodkinlaw20_width.f a0_3).bind fun t264 => (if bt256.1 = t264 then (bodkinlaw20_LayoutRises.j3 kj25 t240 t243 x5_1 x6_1 t255 ((bt256.2.1.length : Int) != t243) a0_0 a0_1 a0_2 a0_3) else (bodkinlaw20_LayoutRises.j3 kj25 t240 t243 x5_1 x6_1 t255 true a0_0 a0_1 a0_2 a0_3)))) else (none)) else (none))) else (if (wrap64 (x6_1 + 1)) < (t240.length : Int) then (if t255 ≤ x5_1 then (some false) else (bodkinlaw20_LayoutRises.l0 kj25 t240 t243 t255 (wrap64 (x6_1 + 1)) a0_0 a0_1 a0_2 a0_3)) else (bodkinlaw20_LayoutRises.l0 kj25 t240 t243 t255 (wrap64 (x6_1 + 1)) a0_0 a0_1 a0_2 a0_3))) = some r := H
           have A40 := Aside0.mk A400
           clear A400
           by_cases c41 : x6_1 < 40
           ·rw [if_pos c41] at H
            have c41b0 : decide (x6_1 < 40) = true := decide_eq_true c41
            clear c41
            replace H := Option.bind_eq_some_iff.mp H
            obtain ⟨⟨t256,t257,t260,t261⟩,A420,H⟩ := H
            replace H : (if 0 ≤ x6_1 then (if x6_1 < (t240.length : Int) then (if (!(t260 == ((rd_T27 t240 x6_1).f0)) || (!(t261 == ((rd_T27 t240 x6_1).f1)))) = true then (bodkinlaw20_LayoutRises.j3 kj25 t240 t243 x5_1 x6_1 t255 true a0_0 a0_1 a0_2 a0_3) else ((bodkinlaw20_width.f a0_3).bind fun t264 => (if t256 = t264 then (bodkinlaw20_LayoutRises.j3 kj25 t240 t243 x5_1 x6_1 t255 ((t257.length : Int) != t243) a0_0 a0_1 a0_2 a0_3) else (bodkinlaw20_LayoutRises.j3 kj25 t240 t243 x5_1 x6_1 t255 true a0_0 a0_1 a0_2 a0_3)))) else (none)) else (none)) = some r := H
            have A42 := Aside0.mk A420
            clear A420
            have HC43 := Aside0.mk H
            clear H
            have hcz44_0 : wc.cell? ⟨gb238,0,none⟩ = some (.string a0_0) := (blk_cell BK238.out 0).trans rfl
            have hcz44_1 : wc.cell? ⟨gb238,1,none⟩ = some (.string a0_1) := (blk_cell BK238.out 1).trans rfl
            have hcz44_2 : wc.cell? ⟨gb238,2,none⟩ = some (.int .i64 a0_2) := (blk_cell BK238.out 2).trans rfl
            have hcz44_3 : wc.cell? ⟨gb238,3,none⟩ = some (.int .i64 a0_3) := (blk_cell BK238.out 3).trans rfl
            have hfz44_0 := blk_frozen BK238.out 0
            have hfz44_1 := blk_frozen BK238.out 1
            have hfz44_2 := blk_frozen BK238.out 2
            have hfz44_3 := blk_frozen BK238.out 3
            go_upto_region 16 with (first | ((with_reducible refine gate_callee (f := 18) rfl ?_);refine goesL_ (some 112) rfl rfl Tryd.func18 (by kernel_rfl) rfl #[.string a0_1,.int .i64 x5_1] rfl au1 ?_;(with_reducible refine (cluster_Next.calls kj25 a0_1 x5_1 t255 _ ?side1 A40.out).mono ?_);(case side1 => exact tabs_below HT.out au2);rintro e w45 ⟨rfl,hb⟩;refine ⟨_,rfl,?_⟩;have n0_ := Aside0.mk (Kd.R_below au11 hb);have n1_ := Aside0.mk (blk_below (g := gb238) (o := .cells #[.string a0_0,.string a0_1,.int .i64 a0_2,.int .i64 a0_3] 23 (0,0)) au8 hb);have n2_ := Aside0.mk (below_step au2 hb);clear HO_3;clear BK238;clear HB;have HO_3 := n0_;have BK238 := n1_;have HB := n2_;clear n0_ n1_ n2_;(try clear hb);(try clear hb2);(try clear hk);(try clear hi);have hcz46_0 : w45.cell? ⟨gb238,0,none⟩ = some (.string a0_0) := (blk_cell BK238.out 0).trans rfl;have hcz46_1 : w45.cell? ⟨gb238,1,none⟩ = some (.string a0_1) := (blk_cell BK238.out 1).trans rfl;have hcz46_2 : w45.cell? ⟨gb238,2,none⟩ = some (.int .i64 a0_2) := (blk_cell BK238.out 2).trans rfl;have hcz46_3 : w45.cell? ⟨gb238,3,none⟩ = some (.int .i64 a0_3) := (blk_cell BK238.out 3).trans rfl;have hfz46_0 := blk_frozen BK238.out 0;have hfz46_1 := blk_frozen BK238.out 1;have hfz46_2 := blk_frozen BK238.out 2;have hfz46_3 := blk_frozen BK238.out 3) | ((with_reducible refine gate_callee (f := 14) rfl ?_);refine goesL_ (some 122) rfl rfl Tryd.func14 (by kernel_rfl) rfl #[.string a0_0,.string a0_1,.int .i64 x5_1,.int .i64 a0_3] rfl au1 ?_;(with_reducible refine (layout_Lay.calls a0_0 a0_1 x5_1 a0_3 t256 t257 t260 t261 _ ?side1 A42.out).mono ?_);(case side1 => exact tabs_below HT.out au2);rintro e w47 ⟨v258,rfl,ho0,hb⟩;refine ⟨_,rfl,?_⟩;have n0_ := Aside0.mk (Kd.R_below au11 hb);have n1_ := Aside0.mk (Kd.S_lower ho0 (below_size au2));have n2_ := Aside0.mk (blk_below (g := gb238) (o := .cells #[.string a0_0,.string a0_1,.int .i64 a0_2,.int .i64 a0_3] 23 (0,0)) au8 hb);have n3_ := Aside0.mk (below_step au2 hb);clear HO_3;clear BK238;clear HB;have HO_3 := n0_;have HO259 := n1_;have BK238 := n2_;have HB := n3_;clear n0_ n1_ n2_ n3_;(try clear hb);(try clear hb2);(try clear hk);(try clear hi);(try clear ho0)) | ((with_reducible refine gate_dst (N := 8) rfl ?_);(try (refine gate_guard (by rfl) ?_;dsimp only));refine box_event ?hg (N := 8) ?hd (cs := #[.int .i64 0,.slice none 0 0,.int .i64 0,.int .i64 0]) (t := 29) ?hr ?_;(case hd => rfl);(case hg => rfl);(case hr => first | (go_simp;done) | (go_simp;rfl));intro gb262 hg w48 hbox hb;have n0_ := Aside0.mk (Kd.R_below au11 hb);have n1_ := Aside0.mk (Kd.S_below (by (with_reducible repeat (first | apply Kd.S_alloc | apply Kd.S_drewN | apply Kd.S_drew));exact HO259.out) hb);have n2_ := Aside0.mk (blk_below (g := gb238) (o := .cells #[.string a0_0,.string a0_1,.int .i64 a0_2,.int .i64 a0_3] 23 (0,0)) au8 hb);have n3_ := Aside0.mk (below_step au2 hb);have n4_ := Aside0.mk (hbox);have n5_ := Aside0.mk ((by rw [hg];exact (below_size au2) : w.heap.size ≤ gb262));have n6_ := Aside0.mk ((by rw [hg];exact (below_size au2) : w.heap.size ≤ gb262));have n7_ := Aside0.mk ((by rw [hg];exact Nat.ne_of_lt (blk_lt (g := gb238) (o := .cells #[.string a0_0,.string a0_1,.int .i64 a0_2,.int .i64 a0_3] 23 (0,0)) au8) : gb238 ≠ gb262));have n8_ := Aside0.mk ((by rw [hg];exact Nat.ne_of_gt (blk_lt (g := gb238) (o := .cells #[.string a0_0,.string a0_1,.int .i64 a0_2,.int .i64 a0_3] 23 (0,0)) au8) : gb262 ≠ gb238));clear HO_3;clear HO259;clear BK238;clear HB;have HO_3 := n0_;have HO259 := n1_;have BK238 := n2_;have HB := n3_;have BK262 := n4_;have GW262 := n5_;have GE262 := n6_;have NB238_262 := n7_;have NB262_238 := n8_;clear n0_ n1_ n2_ n3_ n4_ n5_ n6_ n7_ n8_;clear hb hbox hg;have hnb49 := NB262_238.out;have hnc49 := NB238_262.out;have hcz50_0 : w48.cell? ⟨gb262,0,none⟩ = some (.int .i64 0) := (blk_cell BK262.out 0).trans rfl;have hcz50_1 : w48.cell? ⟨gb262,1,none⟩ = some (.slice none 0 0) := (blk_cell BK262.out 1).trans rfl;have hcz50_2 : w48.cell? ⟨gb262,2,none⟩ = some (.int .i64 0) := (blk_cell BK262.out 2).trans rfl;have hcz50_3 : w48.cell? ⟨gb262,3,none⟩ = some (.int .i64 0) := (blk_cell BK262.out 3).trans rfl;have hfz50_0 := blk_frozen BK262.out 0;have hfz50_1 := blk_frozen BK262.out 1;have hfz50_2 := blk_frozen BK262.out 2;have hfz50_3 := blk_frozen BK262.out 3;obtain ⟨Ao51,co51,eo51⟩ := Kd.S_slice HO259.out;subst eo51))
            (try simp only [Act.put,List.setIfInBounds_toArray,List.set_cons_zero,List.set_cons_succ])
            go_cut [144] (fun v144 wc => ∃ (kq : Nat) (x144_42 : Bool),v144 = .bool x144_42 ∧ Aside0 (bodkinlaw20_LayoutRises.j3 kq t240 t243 x5_1 x6_1 t255 x144_42 a0_0 a0_1 a0_2 a0_3 = some r) ∧ Aside0 (kq ≤ kj25) ∧ Aside0 (Kd.R k27 27 wc w.heap.size (fun _ => True) (.slice Ao14 t240.length co14) t240) ∧ Aside0 (Kd.S (Kd.slice 35 k35) 33 wc w.heap.size (fun _ => True) (.slice Ao51 t257.length co51) t257) ∧ Aside0 (wc.heap[gb238]? = some (.cells #[.string a0_0,.string a0_1,.int .i64 a0_2,.int .i64 a0_3] 23 (0,0))) ∧ Aside0 (wc.heap[gb262]? = some (.cells #[.int .i64 t256,(.slice Ao51 t257.length co51),.int .i64 t260,.int .i64 t261] 29 (0,0))) ∧ Aside0 (Below w.heap.size w wc))
            case first => as_aux_lemma =>
             have H := HC43.out
             clear HC43
             by_cases c52 : 0 ≤ x6_1
             ·rw [if_pos c52] at H
              have c52b0 : decide (0 ≤ x6_1) = true := decide_eq_true c52
              clear c52
              (first | rw [c52b0] | (simp only [i64_w,i32_w];rw [c52b0]) | skip)
              by_cases c53 : x6_1 < (t240.length : Int)
              ·rw [if_pos c53] at H
               have c53b0 : decide (x6_1 < (t240.length : Int)) = true := decide_eq_true c53
               clear c53
               by_cases c54 : (!(t260 == ((rd_T27 t240 x6_1).f0)) || (!(t261 == ((rd_T27 t240 x6_1).f1)))) = true
               ·rw [if_pos c54] at H
                exfalso
                subst hr_
                cases kj25 <;> simp [bodkinlaw20_LayoutRises.j3] at H
               ·rw [if_neg c54] at H
                have c54b0 : (!(t260 == ((rd_T27 t240 x6_1).f0)) || (!(t261 == ((rd_T27 t240 x6_1).f1)))) = false := by simpa using c54
                clear c54
                replace H := Option.bind_eq_some_iff.mp H
                obtain ⟨t264,A570,H⟩ := H
                replace H : (if t256 = t264 then (bodkinlaw20_LayoutRises.j3 kj25 t240 t243 x5_1 x6_1 t255 ((t257.length : Int) != t243) a0_0 a0_1 a0_2 a0_3) else (bodkinlaw20_LayoutRises.j3 kj25 t240 t243 x5_1 x6_1 t255 true a0_0 a0_1 a0_2 a0_3)) = some r := H
                have A57 := Aside0.mk A570
                clear A570
                by_cases c58 : t256 = t264
                ·rw [if_pos c58] at H
                 have c58b0 : (t256 == t264) = true := beq_iff_eq.mpr c58
                 have c58b1 : (t256 != t264) = false := bne_eq_false_iff_eq.mpr c58
                 clear c58
                 have H' := Aside0.mk H
                 clear H
                 try go_wp2
                 have n0_ : Aside0 (Kd.R k27 27 ((((w48.setCell ⟨gb262,0,none⟩ (.int .i64 t256)).setCell ⟨gb262,1,none⟩ (.slice Ao51 t257.length co51)).setCell ⟨gb262,2,none⟩ (.int .i64 t260)).setCell ⟨gb262,3,none⟩ (.int .i64 t261)) w.heap.size (fun _ => True) (.slice Ao14 t240.length co14) t240) := ⟨by (with_reducible repeat (first | apply Kd.R_alloc | apply Kd.R_drewN | apply Kd.R_drew));exact Kd.R_mono (Kd.R_far (p := ⟨gb262,3,none⟩) (Kd.R_far (p := ⟨gb262,2,none⟩) (Kd.R_far (p := ⟨gb262,1,none⟩) (Kd.R_far (p := ⟨gb262,0,none⟩) (Kd.R_types HO_3.out BK262.out (by decide)) (fun _ hk => hk.2) (.int .i64 t256)) (fun _ hk => hk.2) (.slice Ao51 t257.length co51)) (fun _ hk => hk.2) (.int .i64 t260)) (fun _ hk => hk.2) (.int .i64 t261)) (fun _ hk => trivial)⟩
                 have n1_ : Aside0 (Kd.S (Kd.slice 35 k35) 33 ((((w48.setCell ⟨gb262,0,none⟩ (.int .i64 t256)).setCell ⟨gb262,1,none⟩ (.slice Ao51 t257.length co51)).setCell ⟨gb262,2,none⟩ (.int .i64 t260)).setCell ⟨gb262,3,none⟩ (.int .i64 t261)) w.heap.size (fun _ => True) (.slice Ao51 t257.length co51) t257) := ⟨by (with_reducible repeat (first | apply Kd.S_alloc | apply Kd.S_drewN | apply Kd.S_drew));exact Kd.S_mono (Kd.S_far (p := ⟨gb262,3,none⟩) (Kd.S_far (p := ⟨gb262,2,none⟩) (Kd.S_far (p := ⟨gb262,1,none⟩) (Kd.S_far (p := ⟨gb262,0,none⟩) (Kd.S_types HO259.out BK262.out (by decide)) (fun _ hk => hk.2) (.int .i64 t256)) (fun _ hk => hk.2) (.slice Ao51 t257.length co51)) (fun _ hk => hk.2) (.int .i64 t260)) (fun _ hk => hk.2) (.int .i64 t261)) (fun _ hk => trivial)⟩
                 have n2_ : Aside0 (((((w48.setCell ⟨gb262,0,none⟩ (.int .i64 t256)).setCell ⟨gb262,1,none⟩ (.slice Ao51 t257.length co51)).setCell ⟨gb262,2,none⟩ (.int .i64 t260)).setCell ⟨gb262,3,none⟩ (.int .i64 t261)).heap[gb238]? = some (.cells #[.string a0_0,.string a0_1,.int .i64 a0_2,.int .i64 a0_3] 23 (0,0))) := ⟨by (with_reducible repeat (first | refine blk_drewN ?_ _ | refine blk_drew ?_ | refine blk_alloc ?_ _));refine blk_far ?_ NB238_262.out _;(with_reducible repeat (first | refine blk_drewN ?_ _ | refine blk_drew ?_ | refine blk_alloc ?_ _));refine blk_far ?_ NB238_262.out _;(with_reducible repeat (first | refine blk_drewN ?_ _ | refine blk_drew ?_ | refine blk_alloc ?_ _));refine blk_far ?_ NB238_262.out _;(with_reducible repeat (first | refine blk_drewN ?_ _ | refine blk_drew ?_ | refine blk_alloc ?_ _));refine blk_far ?_ NB238_262.out _;(with_reducible repeat (first | refine blk_drewN ?_ _ | refine blk_drew ?_ | refine blk_alloc ?_ _));exact BK238.out⟩
                 have n3_ : Aside0 (((((w48.setCell ⟨gb262,0,none⟩ (.int .i64 t256)).setCell ⟨gb262,1,none⟩ (.slice Ao51 t257.length co51)).setCell ⟨gb262,2,none⟩ (.int .i64 t260)).setCell ⟨gb262,3,none⟩ (.int .i64 t261)).heap[gb262]? = some (.cells #[.int .i64 t256,.slice Ao51 t257.length co51,.int .i64 t260,.int .i64 t261] 29 (0,0))) := ⟨by (with_reducible repeat (first | refine blk_drewN ?_ _ | refine blk_drew ?_ | refine blk_alloc ?_ _));refine blk_put (cs := #[.int .i64 t256,.slice Ao51 t257.length co51,.int .i64 t260,.int .i64 0]) ?_ 3 _ rfl;(with_reducible repeat (first | refine blk_drewN ?_ _ | refine blk_drew ?_ | refine blk_alloc ?_ _));refine blk_put (cs := #[.int .i64 t256,.slice Ao51 t257.length co51,.int .i64 0,.int .i64 0]) ?_ 2 _ rfl;(with_reducible repeat (first | refine blk_drewN ?_ _ | refine blk_drew ?_ | refine blk_alloc ?_ _));refine blk_put (cs := #[.int .i64 t256,.slice none 0 0,.int .i64 0,.int .i64 0]) ?_ 1 _ rfl;(with_reducible repeat (first | refine blk_drewN ?_ _ | refine blk_drew ?_ | refine blk_alloc ?_ _));refine blk_put (cs := #[.int .i64 0,.slice none 0 0,.int .i64 0,.int .i64 0]) ?_ 0 _ rfl;(with_reducible repeat (first | refine blk_drewN ?_ _ | refine blk_drew ?_ | refine blk_alloc ?_ _));exact BK262.out⟩
                 have n4_ : Aside0 (Below w.heap.size w ((((w48.setCell ⟨gb262,0,none⟩ (.int .i64 t256)).setCell ⟨gb262,1,none⟩ (.slice Ao51 t257.length co51)).setCell ⟨gb262,2,none⟩ (.int .i64 t260)).setCell ⟨gb262,3,none⟩ (.int .i64 t261))) := ⟨by repeat (first | (with_reducible first | exact HB.out | apply below_alloc | apply pw_below_drewN | apply below_drew1 | refine below_set ?_ GE238.out | refine below_set ?_ GE262.out) | exact HB.out)⟩
                 (try clear HO_3)
                 (try clear HO259)
                 (try clear BK238)
                 (try clear BK262)
                 (try clear HB)
                 generalize ((((w48.setCell ⟨gb262,0,none⟩ (.int .i64 t256)).setCell ⟨gb262,1,none⟩ (.slice Ao51 t257.length co51)).setCell ⟨gb262,2,none⟩ (.int .i64 t260)).setCell ⟨gb262,3,none⟩ (.int .i64 t261)) = w59 at n0_ n1_ n2_ n3_ n4_ ⊢
                 have HO_3 := n0_
                 have HO259 := n1_
                 have BK238 := n2_
                 have BK262 := n3_
                 have HB := n4_
                 clear n0_ n1_ n2_ n3_ n4_
                 have n0_ := Aside0.mk (Kd.R_drew HO_3.out)
                 have n1_ := Aside0.mk (Kd.S_drew HO259.out)
                 have n2_ := Aside0.mk (blk_drew BK238.out)
                 have n3_ := Aside0.mk (blk_drew BK262.out)
                 have n4_ := Aside0.mk (below_drew1 HB.out)
                 clear HO_3
                 clear HO259
                 clear BK238
                 clear BK262
                 clear HB
                 have HO_3 := n0_
                 have HO259 := n1_
                 have BK238 := n2_
                 have BK262 := n3_
                 have HB := n4_
                 clear n0_ n1_ n2_ n3_ n4_
                 have p263 : 0 ≤ (x6_1 : Int) := of_decide_eq_true au4
                 have q263 : x6_1 < (t240.length : Int) := of_decide_eq_true au4
                 obtain ⟨ad263,e263,hx263_0,hx263_1⟩ := at_T27 (Kd.R_reads' HO_3.out).2.2 x6_1 p263 q263
                 cases e263
                 replace p263 := eq_true p263
                 replace q263 := eq_true q263
                 refine start_ (n := 22) (S := fun w' => w'.cell? ⟨gb262,0,none⟩ = some (.int .i64 t256) ∧ w'.cell? ⟨gb262,1,none⟩ = some (.slice Ao51 t257.length co51) ∧ w'.cell? ⟨gb262,2,none⟩ = some (.int .i64 t260) ∧ w'.cell? ⟨gb262,3,none⟩ = some (.int .i64 t261) ∧ w'.cell? ⟨gb238,0,none⟩ = some (.string a0_0) ∧ w'.cell? ⟨gb238,1,none⟩ = some (.string a0_1) ∧ w'.cell? ⟨gb238,2,none⟩ = some (.int .i64 a0_2) ∧ w'.cell? ⟨gb238,3,none⟩ = some (.int .i64 a0_3) ∧ w'.cell? (ad263.add ((x6_1).toNat * 2)) = some (.int .i64 ((rd_T27 t240 x6_1).f0)) ∧ w'.cell? ⟨(ad263.add ((x6_1).toNat * 2)).block,(ad263.add ((x6_1).toNat * 2)).off + 1,none⟩ = some (.int .i64 ((rd_T27 t240 x6_1).f1))) (ds := []) #[false,false,false,false,false,false,false,false,false,false,false,false,false,false,false,false,false,false,false,false,false,false] (by kernel_rfl) rfl rfl ⟨(blk_cell BK262.out 0).trans rfl,(blk_cell BK262.out 1).trans rfl,(blk_cell BK262.out 2).trans rfl,(blk_cell BK262.out 3).trans rfl,(blk_cell BK238.out 0).trans rfl,(blk_cell BK238.out 1).trans rfl,(blk_cell BK238.out 2).trans rfl,(blk_cell BK238.out 3).trans rfl,hx263_0,hx263_1⟩ (fun hHeld => ?_);refine with_tabW bodkinlaw20_LayoutRises.tab16 bodkinlaw20_LayoutRises.bits16 (fun HT_ HW_ => ?_)
                 generalize w59.drew = w60 at HO_3 HO259 BK238 BK262 HB hx263_0 hx263_1 hHeld ⊢
                 refine pure_ (i := 0) (N := some 123) (v := ?_) (a' := ?_) #[true,false,false,false,false,false,false,false,false,false,false,false,false,false,false,false,false,false,false,false,false,false] rfl rfl (any_of HT_.out (by kernel_rfl)) (fun _ _ _ h => h) (Or.inl ⟨by rfl,?_⟩) ?_ ?_
                 rotate_left
                 ·intro w'
                  go_simp
                  with_reducible rfl
                 rotate_left
                 ·simp only [Act.put,List.setIfInBounds_toArray,List.set_cons_zero,List.set_cons_succ,i64_w,i32_w]
                  rfl
                 refine pure_ (i := 2) (N := some 125) (v := ?_) (a' := ?_) #[true,false,true,false,false,false,false,false,false,false,false,false,false,false,false,false,false,false,false,false,false,false] rfl rfl (any_of HT_.out (by kernel_rfl)) (fun _ _ _ h => h) (Or.inl ⟨by rfl,?_⟩) ?_ ?_
                 rotate_left
                 ·intro w'
                  go_simp
                  with_reducible rfl
                 rotate_left
                 ·simp only [Act.put,List.setIfInBounds_toArray,List.set_cons_zero,List.set_cons_succ,i64_w,i32_w]
                  rfl
                 refine pure_ (i := 3) (N := some 126) (v := ?_) (a' := ?_) #[true,false,true,true,false,false,false,false,false,false,false,false,false,false,false,false,false,false,false,false,false,false] rfl rfl (any_of HT_.out (by kernel_rfl)) (fun _ _ _ h => h) (Or.inl ⟨by rfl,?_⟩) ?_ ?_
                 rotate_left
                 ·intro w'
                  go_simp
                  with_reducible rfl
                 rotate_left
                 ·simp only [Act.put,List.setIfInBounds_toArray,List.set_cons_zero,List.set_cons_succ,i64_w,i32_w]
                  rfl
                 refine pure_ (i := 4) (N := some 127) (v := ?_) (a' := ?_) #[true,false,true,true,true,false,false,false,false,false,false,false,false,false,false,false,false,false,false,false,false,false] rfl rfl (any_of HT_.out (by kernel_rfl)) (fun _ _ _ h => h) (Or.inl ⟨by rfl,?_⟩) ?_ ?_
                 rotate_left
                 ·intro w'
                  go_simp
                  with_reducible rfl
                 rotate_left
                 ·simp only [Act.put,List.setIfInBounds_toArray,List.set_cons_zero,List.set_cons_succ,i64_w,i32_w]
                  rfl
                 refine take_ (i := 1) (N := some 124) (v := ?_) (a' := ?_) #[true,true,true,true,true,false,false,false,false,false,false,false,false,false,false,false,false,false,false,false,false,false] rfl rfl (take_ofW HT_.out HW_.out (by kernel_rfl)) (fun _ _ _ h => h) (Or.inl ⟨by rfl,?_⟩) hHeld ?_ ?_
                 rotate_left
                 ·rintro w' ⟨s0,s1,s2,s3,s4,s5,s6,s7,s8,s9⟩
                  go_simp
                  with_reducible rfl
                 rotate_left
                 ·simp only [Act.put,List.setIfInBounds_toArray,List.set_cons_zero,List.set_cons_succ,i64_w,i32_w]
                  rfl
                 refine take_ (i := 5) (N := some 128) (v := ?_) (a' := ?_) #[true,true,true,true,true,true,false,false,false,false,false,false,false,false,false,false,false,false,false,false,false,false] rfl rfl (take_ofW HT_.out HW_.out (by kernel_rfl)) (fun _ _ _ h => h) (Or.inl ⟨by rfl,?_⟩) hHeld ?_ ?_
                 rotate_left
                 ·rintro w' ⟨s0,s1,s2,s3,s4,s5,s6,s7,s8,s9⟩
                  go_simp
                  with_reducible rfl
                 rotate_left
                 ·simp only [Act.put,List.setIfInBounds_toArray,List.set_cons_zero,List.set_cons_succ,i64_w,i32_w]
                  rfl
                 refine pure_ (i := 6) (N := some 129) (v := ?_) (a' := ?_) #[true,true,true,true,true,true,true,false,false,false,false,false,false,false,false,false,false,false,false,false,false,false] rfl rfl (any_of HT_.out (by kernel_rfl)) (fun _ _ _ h => h) (Or.inl ⟨by rfl,?_⟩) ?_ ?_
                 rotate_left
                 ·intro w'
                  go_simp
                  with_reducible rfl
                 rotate_left
                 ·simp only [Act.put,List.setIfInBounds_toArray,List.set_cons_zero,List.set_cons_succ,i64_w,i32_w]
                  rfl
                 refine pure_ (i := 7) (N := some 130) (v := ?_) (a' := ?_) #[true,true,true,true,true,true,true,true,false,false,false,false,false,false,false,false,false,false,false,false,false,false] rfl rfl (any_of HT_.out (by kernel_rfl)) (fun _ _ _ h => h) (Or.inl ⟨by rfl,?_⟩) ?_ ?_
                 rotate_left
                 ·intro w'
                  go_simp
                  with_reducible rfl
                 rotate_left
                 ·simp only [Act.put,List.setIfInBounds_toArray,List.set_cons_zero,List.set_cons_succ,i64_w,i32_w]
                  rfl
                 refine pure_ (i := 8) (N := some 131) (v := ?_) (a' := ?_) #[true,true,true,true,true,true,true,true,true,false,false,false,false,false,false,false,false,false,false,false,false,false] rfl rfl (any_of HT_.out (by kernel_rfl)) (fun _ _ _ h => h) (Or.inl ⟨by rfl,?_⟩) ?_ ?_
                 rotate_left
                 ·intro w'
                  go_simp
                  with_reducible rfl
                 rotate_left
                 ·simp only [Act.put,List.setIfInBounds_toArray,List.set_cons_zero,List.set_cons_succ,i64_w,i32_w]
                  rfl
                 refine pure_ (i := 10) (N := some 133) (v := ?_) (a' := ?_) #[true,true,true,true,true,true,true,true,true,false,true,false,false,false,false,false,false,false,false,false,false,false] rfl rfl (any_of HT_.out (by kernel_rfl)) (fun _ _ _ h => h) (Or.inl ⟨by rfl,?_⟩) ?_ ?_
                 rotate_left
                 ·intro w'
                  go_simp
                  with_reducible rfl
                 rotate_left
                 ·simp only [Act.put,List.setIfInBounds_toArray,List.set_cons_zero,List.set_cons_succ,i64_w,i32_w]
                  rfl
                 refine take_ (i := 9) (N := some 132) (v := ?_) (a' := ?_) #[true,true,true,true,true,true,true,true,true,true,true,false,false,false,false,false,false,false,false,false,false,false] rfl rfl (take_ofW HT_.out HW_.out (by kernel_rfl)) (fun _ _ _ h => h) (Or.inl ⟨by rfl,?_⟩) hHeld ?_ ?_
                 rotate_left
                 ·rintro w' ⟨s0,s1,s2,s3,s4,s5,s6,s7,s8,s9⟩
                  go_simp
                  with_reducible rfl
                 rotate_left
                 ·simp only [Act.put,List.setIfInBounds_toArray,List.set_cons_zero,List.set_cons_succ,i64_w,i32_w]
                  rfl
                 refine take_ (i := 11) (N := some 134) (v := ?_) (a' := ?_) #[true,true,true,true,true,true,true,true,true,true,true,true,false,false,false,false,false,false,false,false,false,false] rfl rfl (take_ofW HT_.out HW_.out (by kernel_rfl)) (fun _ _ _ h => h) (Or.inl ⟨by rfl,?_⟩) hHeld ?_ ?_
                 rotate_left
                 ·rintro w' ⟨s0,s1,s2,s3,s4,s5,s6,s7,s8,s9⟩
                  go_simp
                  with_reducible rfl
                 rotate_left
                 ·simp only [Act.put,List.setIfInBounds_toArray,List.set_cons_zero,List.set_cons_succ,i64_w,i32_w]
                  rfl
                 refine one_ (i := 12) (N := some 135) #[true,true,true,true,true,true,true,true,true,true,true,true,true,false,false,false,false,false,false,false,false,false] rfl rfl (one_of HT_.out (by kernel_rfl)) (by decide) (fun K hK => ?_)
                 refine goes_ Tryd.func17 (by kernel_rfl) rfl #[.int .i64 a0_3] (by rfl) rfl rfl au1 ?_
                 with_reducible refine (bodkinlaw20_width.calls a0_3 t264 _ A57.out).mono ?_
                 rintro e w61 ⟨rfl,hb⟩
                 have HS8_ := (hb.cell (World.block_lt_of_cell? _ _ (hHeld.2.2.2.2.2.2.2.2.1))).trans (hHeld.2.2.2.2.2.2.2.2.1)
                 have HS9_ := (hb.cell (World.block_lt_of_cell? _ _ (hHeld.2.2.2.2.2.2.2.2.2))).trans (hHeld.2.2.2.2.2.2.2.2.2)
                 refine ⟨_,rfl,?_⟩
                 have n0_ := Aside0.mk (Kd.R_below au11 hb)
                 have n1_ := Aside0.mk (Kd.S_below (by (with_reducible repeat (first | apply Kd.S_alloc | apply Kd.S_drewN | apply Kd.S_drew));exact HO259.out) hb)
                 have n2_ := Aside0.mk (blk_below (g := gb238) (o := .cells #[.string a0_0,.string a0_1,.int .i64 a0_2,.int .i64 a0_3] 23 (0,0)) au8 hb)
                 have n3_ := Aside0.mk (blk_below (g := gb262) (o := .cells #[.int .i64 t256,.slice Ao51 t257.length co51,.int .i64 t260,.int .i64 t261] 29 (0,0)) (by (with_reducible repeat (first | refine blk_drewN ?_ _ | refine blk_drew ?_ | refine blk_alloc ?_ _));exact BK262.out) hb)
                 have n4_ := Aside0.mk (below_step au19 hb)
                 clear HO_3
                 clear HO259
                 clear BK238
                 clear BK262
                 clear HB
                 have HO_3 := n0_
                 have HO259 := n1_
                 have BK238 := n2_
                 have BK262 := n3_
                 have HB := n4_
                 clear n0_ n1_ n2_ n3_ n4_
                 (try clear hb)
                 (try clear hb2)
                 (try clear hk)
                 (try clear hi)
                 refine hK.out _ _ ⟨(blk_cell BK262.out 0).trans rfl,(blk_cell BK262.out 1).trans rfl,(blk_cell BK262.out 2).trans rfl,(blk_cell BK262.out 3).trans rfl,(blk_cell BK238.out 0).trans rfl,(blk_cell BK238.out 1).trans rfl,(blk_cell BK238.out 2).trans rfl,(blk_cell BK238.out 3).trans rfl,HS8_,HS9_⟩ (fun hHeld => ?_)
                 clear hK K
                 refine norm_ (a' := ?_) ?_ ?_
                 rotate_left
                 ·show Act.put _ (some 135) _ = _
                  simp only [Act.put,List.setIfInBounds_toArray,List.set_cons_zero,List.set_cons_succ,i64_w,i32_w]
                  rfl
                 refine pure_ (i := 13) (N := some 136) (v := ?_) (a' := ?_) #[true,true,true,true,true,true,true,true,true,true,true,true,true,true,false,false,false,false,false,false,false,false] rfl rfl (any_of HT_.out (by kernel_rfl)) (fun _ _ _ h => h) (Or.inl ⟨by rfl,?_⟩) ?_ ?_
                 rotate_left
                 ·intro w'
                  go_simp
                  with_reducible rfl
                 rotate_left
                 ·simp only [Act.put,List.setIfInBounds_toArray,List.set_cons_zero,List.set_cons_succ,i64_w,i32_w]
                  rfl
                 refine pure_ (i := 14) (N := some 137) (v := ?_) (a' := ?_) #[true,true,true,true,true,true,true,true,true,true,true,true,true,true,true,false,false,false,false,false,false,false] rfl rfl (any_of HT_.out (by kernel_rfl)) (fun _ _ _ h => h) (Or.inl ⟨by rfl,?_⟩) ?_ ?_
                 rotate_left
                 ·intro w'
                  go_simp
                  with_reducible rfl
                 rotate_left
                 ·simp only [Act.put,List.setIfInBounds_toArray,List.set_cons_zero,List.set_cons_succ,i64_w,i32_w]
                  rfl
                 refine pure_ (i := 15) (N := some 138) (v := ?_) (a' := ?_) #[true,true,true,true,true,true,true,true,true,true,true,true,true,true,true,true,false,false,false,false,false,false] rfl rfl (any_of HT_.out (by kernel_rfl)) (fun _ _ _ h => h) (Or.inl ⟨by rfl,?_⟩) ?_ ?_
                 rotate_left
                 ·intro w'
                  go_simp
                  with_reducible rfl
                 rotate_left
                 ·simp only [Act.put,List.setIfInBounds_toArray,List.set_cons_zero,List.set_cons_succ,i64_w,i32_w]
                  rfl
                 refine pure_ (i := 16) (N := some 139) (v := ?_) (a' := ?_) #[true,true,true,true,true,true,true,true,true,true,true,true,true,true,true,true,true,false,false,false,false,false] rfl rfl (any_of HT_.out (by kernel_rfl)) (fun _ _ _ h => h) (Or.inl ⟨by rfl,?_⟩) ?_ ?_
                 rotate_left
                 ·intro w'
                  go_simp
                  with_reducible rfl
                 rotate_left
                 ·simp only [Act.put,List.setIfInBounds_toArray,List.set_cons_zero,List.set_cons_succ,i64_w,i32_w]
                  rfl
                 refine pure_ (i := 19) (N := some 142) (v := ?_) (a' := ?_) #[true,true,true,true,true,true,true,true,true,true,true,true,true,true,true,true,true,false,false,true,false,false] rfl rfl (any_of HT_.out (by kernel_rfl)) (fun _ _ _ h => h) (Or.inl ⟨by rfl,?_⟩) ?_ ?_
                 rotate_left
                 ·intro w'
                  go_simp
                  with_reducible rfl
                 rotate_left
                 ·simp only [Act.put,List.setIfInBounds_toArray,List.set_cons_zero,List.set_cons_succ,i64_w,i32_w]
                  rfl
                 refine take_ (i := 17) (N := some 140) (v := ?_) (a' := ?_) #[true,true,true,true,true,true,true,true,true,true,true,true,true,true,true,true,true,true,false,true,false,false] rfl rfl (take_ofW HT_.out HW_.out (by kernel_rfl)) (fun _ _ _ h => h) (Or.inl ⟨by rfl,?_⟩) hHeld ?_ ?_
                 rotate_left
                 ·rintro w' ⟨s0,s1,s2,s3,s4,s5,s6,s7,s8,s9⟩
                  go_simp
                  with_reducible rfl
                 rotate_left
                 ·simp only [Act.put,List.setIfInBounds_toArray,List.set_cons_zero,List.set_cons_succ,i64_w,i32_w]
                  rfl
                 refine pure_ (i := 18) (N := some 141) (v := ?_) (a' := ?_) #[true,true,true,true,true,true,true,true,true,true,true,true,true,true,true,true,true,true,true,true,false,false] rfl rfl (any_of HT_.out (by kernel_rfl)) (fun _ _ _ h => h) (Or.inl ⟨by rfl,?_⟩) ?_ ?_
                 rotate_left
                 ·intro w'
                  go_simp
                  with_reducible rfl
                 rotate_left
                 ·simp only [Act.put,List.setIfInBounds_toArray,List.set_cons_zero,List.set_cons_succ,i64_w,i32_w]
                  rfl
                 refine pure_ (i := 20) (N := some 143) (v := ?_) (a' := ?_) #[true,true,true,true,true,true,true,true,true,true,true,true,true,true,true,true,true,true,true,true,true,false] rfl rfl (any_of HT_.out (by kernel_rfl)) (fun _ _ _ h => h) (Or.inl ⟨by rfl,?_⟩) ?_ ?_
                 rotate_left
                 ·intro w'
                  go_simp
                  with_reducible rfl
                 rotate_left
                 ·simp only [Act.put,List.setIfInBounds_toArray,List.set_cons_zero,List.set_cons_succ,i64_w,i32_w]
                  rfl
                 refine pure_ (i := 21) (N := some 144) (v := ?_) (a' := ?_) #[true,true,true,true,true,true,true,true,true,true,true,true,true,true,true,true,true,true,true,true,true,true] rfl rfl (any_of HT_.out (by kernel_rfl)) (fun _ _ _ h => h) (Or.inl ⟨by rfl,?_⟩) ?_ ?_
                 rotate_left
                 ·intro w'
                  go_simp
                  with_reducible rfl
                 rotate_left
                 ·simp only [Act.put,List.setIfInBounds_toArray,List.set_cons_zero,List.set_cons_succ,i64_w,i32_w]
                  rfl
                 refine done_ (done_of HT_.out (by kernel_rfl)) ?_
                 try go_wp2
                 go_meet
                 case rel => exact ⟨_,(((t257.length : Int) != t243)),au9,H',⟨by have := HK1.out;have := HJ12.out;have := HJ25.out;first | omega | exact Nat.le_refl _⟩,⟨by (with_reducible repeat (first | apply Kd.R_alloc | apply Kd.R_drewN | apply Kd.R_drew));exact HO_3.out⟩,⟨by (with_reducible repeat (first | apply Kd.S_alloc | apply Kd.S_drewN | apply Kd.S_drew));exact HO259.out⟩,⟨by (with_reducible repeat (first | refine blk_drewN ?_ _ | refine blk_drew ?_ | refine blk_alloc ?_ _));exact BK238.out⟩,⟨by (with_reducible repeat (first | refine blk_drewN ?_ _ | refine blk_drew ?_ | refine blk_alloc ?_ _));exact BK262.out⟩,⟨by repeat (first | (with_reducible first | exact HB.out | apply below_alloc | apply pw_below_drewN | apply below_drew1 | refine below_set ?_ GE238.out | refine below_set ?_ GE262.out) | exact HB.out)⟩⟩
                ·rw [if_neg c58] at H
                 exfalso
                 subst hr_
                 cases kj25 <;> simp [bodkinlaw20_LayoutRises.j3] at H
              ·rw [if_neg c53] at H
               exact absurd H (by simp)
             ·rw [if_neg c52] at H
              exact absurd H (by simp)
            case rest => as_aux_lemma =>
             clear HC43
             try clear c1
             try clear p2
             try clear q2
             try clear hx2
             try clear c5
             try clear c17
             try clear p26
             try clear q26
             try clear hx26
             try clear c52
             try clear c53
             try clear c54
             try clear c54b0
             try clear c58
             try clear c58b0
             try clear c58b1
             try clear hx263_0
             try clear hx263_1
             try clear p263
             try clear q263
             obtain ⟨kq,x144_42,rfl,HA,HJ42,HO_3,HO_263001,BK238,BK262,HB⟩ := hcut
             cases kq with
             | zero => exact absurd HA.out (by simp [bodkinlaw20_LayoutRises.j3])
             | succ kj42 =>
              have H := HA.out
              clear HA
              simp only [bodkinlaw20_LayoutRises.j3] at H
              by_cases c65 : x144_42 = true
              ·subst c65
               have H1 : (some false) = some r := by rw [if_pos rfl] at H;exact H
               clear H
               have H := H1
               clear H1
               obtain rfl := Option.some.inj H
               cases hr_
              ·replace c65 := Bool.eq_false_iff.mpr c65
               subst c65
               have H1 : (if (wrap64 (t255 - x5_1)) > 1 then ((layout_Lay.f a0_0 a0_1 (wrap64 (t255 - 1)) a0_3).bind fun bt265 => (if 0 ≤ x6_1 then (if x6_1 < (t240.length : Int) then (bodkinlaw20_LayoutRises.j4 kj42 t240 t243 x5_1 x6_1 t255 (!(bt265.2.2.1 == ((rd_T27 t240 x6_1).f0)) || (!(bt265.2.2.2 == ((rd_T27 t240 x6_1).f1)))) a0_0 a0_1 a0_2 a0_3) else (none)) else (none))) else (bodkinlaw20_LayoutRises.j4 kj42 t240 t243 x5_1 x6_1 t255 false a0_0 a0_1 a0_2 a0_3)) = some r := by rw [if_neg (show ¬ (false = true) by decide)] at H;exact H
               clear H
               have H := H1
               clear H1
               have HC66 := Aside0.mk H
               clear H
               go_upto_region 18 with (fail)
               go_cut [165] (fun v165 wc => ∃ (kq : Nat) (x165_65 : Bool),v165 = .bool x165_65 ∧ Aside0 (bodkinlaw20_LayoutRises.j4 kq t240 t243 x5_1 x6_1 t255 x165_65 a0_0 a0_1 a0_2 a0_3 = some r) ∧ Aside0 (kq ≤ kj42) ∧ Aside0 (Kd.R k27 27 wc w.heap.size (fun _ => True) (.slice Ao14 t240.length co14) t240) ∧ Aside0 (Kd.S (Kd.slice 35 k35) 33 wc w.heap.size (fun _ => True) (.slice Ao51 t257.length co51) t257) ∧ Aside0 (wc.heap[gb238]? = some (.cells #[.string a0_0,.string a0_1,.int .i64 a0_2,.int .i64 a0_3] 23 (0,0))) ∧ Aside0 (wc.heap[gb262]? = some (.cells #[.int .i64 t256,(.slice Ao51 t257.length co51),.int .i64 t260,.int .i64 t261] 29 (0,0))) ∧ Aside0 (Below w.heap.size w wc))
               case first => as_aux_lemma =>
                have H := HC66.out
                clear HC66
                by_cases c67 : (wrap64 (t255 - x5_1)) > 1
                ·rw [if_pos c67] at H
                 have c67b0 : decide (1 < (wrap64 (t255 - x5_1))) = true := decide_eq_true c67
                 clear c67
                 (first | rw [c67b0] | (simp only [i64_w,i32_w];rw [c67b0]) | skip)
                 replace H := Option.bind_eq_some_iff.mp H
                 obtain ⟨⟨t265,t266,t269,t270⟩,A680,H⟩ := H
                 replace H : (if 0 ≤ x6_1 then (if x6_1 < (t240.length : Int) then (bodkinlaw20_LayoutRises.j4 kj42 t240 t243 x5_1 x6_1 t255 (!(t269 == ((rd_T27 t240 x6_1).f0)) || (!(t270 == ((rd_T27 t240 x6_1).f1)))) a0_0 a0_1 a0_2 a0_3) else (none)) else (none)) = some r := H
                 have A68 := Aside0.mk A680
                 clear A680
                 by_cases c69 : 0 ≤ x6_1
                 ·rw [if_pos c69] at H
                  have c69b0 : decide (0 ≤ x6_1) = true := decide_eq_true c69
                  clear c69
                  by_cases c70 : x6_1 < (t240.length : Int)
                  ·rw [if_pos c70] at H
                   have c70b0 : decide (x6_1 < (t240.length : Int)) = true := decide_eq_true c70
                   clear c70
                   have H' := Aside0.mk H
                   clear H
                   try go_wp2
                   have n0_ := Aside0.mk (Kd.R_drew HO_3.out)
                   have n1_ := Aside0.mk (Kd.S_drew HO_263001.out)
                   have n2_ := Aside0.mk (blk_drew BK238.out)
                   have n3_ := Aside0.mk (blk_drew BK262.out)
                   have n4_ := Aside0.mk (below_drew1 HB.out)
                   clear HO_3
                   clear HO_263001
                   clear BK238
                   clear BK262
                   clear HB
                   have HO_3 := n0_
                   have HO_263001 := n1_
                   have BK238 := n2_
                   have BK262 := n3_
                   have HB := n4_
                   clear n0_ n1_ n2_ n3_ n4_
                   have p271 : 0 ≤ (x6_1 : Int) := of_decide_eq_true au4
                   have q271 : x6_1 < (t240.length : Int) := of_decide_eq_true au4
                   obtain ⟨ad271,e271,hx271_0,hx271_1⟩ := at_T27 (Kd.R_reads' HO_3.out).2.2 x6_1 p271 q271
                   cases e271
                   replace p271 := eq_true p271
                   replace q271 := eq_true q271
                   refine start_ (n := 21) (S := fun w' => w'.cell? ⟨gb238,0,none⟩ = some (.string a0_0) ∧ w'.cell? ⟨gb238,1,none⟩ = some (.string a0_1) ∧ w'.cell? ⟨gb238,2,none⟩ = some (.int .i64 a0_2) ∧ w'.cell? ⟨gb238,3,none⟩ = some (.int .i64 a0_3) ∧ w'.cell? (ad271.add ((x6_1).toNat * 2)) = some (.int .i64 ((rd_T27 t240 x6_1).f0)) ∧ w'.cell? ⟨(ad271.add ((x6_1).toNat * 2)).block,(ad271.add ((x6_1).toNat * 2)).off + 1,none⟩ = some (.int .i64 ((rd_T27 t240 x6_1).f1))) (ds := []) #[false,false,false,false,false,false,false,false,false,false,false,false,false,false,false,false,false,false,false,false,false] (by kernel_rfl) rfl rfl ⟨(blk_cell BK238.out 0).trans rfl,(blk_cell BK238.out 1).trans rfl,(blk_cell BK238.out 2).trans rfl,(blk_cell BK238.out 3).trans rfl,hx271_0,hx271_1⟩ (fun hHeld => ?_);refine with_tabW bodkinlaw20_LayoutRises.tab18 bodkinlaw20_LayoutRises.bits18 (fun HT_ HW_ => ?_)
                   generalize wc.drew = w71 at HO_3 HO_263001 BK238 BK262 HB hx271_0 hx271_1 hHeld ⊢
                   refine pure_ (i := 0) (N := some 145) (v := ?_) (a' := ?_) #[true,false,false,false,false,false,false,false,false,false,false,false,false,false,false,false,false,false,false,false,false] rfl rfl (any_of HT_.out (by kernel_rfl)) (fun _ _ _ h => h) (Or.inl ⟨by rfl,?_⟩) ?_ ?_
                   rotate_left
                   ·intro w'
                    go_simp
                    with_reducible rfl
                   rotate_left
                   ·simp only [Act.put,List.setIfInBounds_toArray,List.set_cons_zero,List.set_cons_succ,i64_w,i32_w]
                    rfl
                   refine pure_ (i := 1) (N := some 146) (v := ?_) (a' := ?_) #[true,true,false,false,false,false,false,false,false,false,false,false,false,false,false,false,false,false,false,false,false] rfl rfl (any_of HT_.out (by kernel_rfl)) (fun _ _ _ h => h) (Or.inl ⟨by rfl,?_⟩) ?_ ?_
                   rotate_left
                   ·intro w'
                    go_simp
                    with_reducible rfl
                   rotate_left
                   ·simp only [Act.put,List.setIfInBounds_toArray,List.set_cons_zero,List.set_cons_succ,i64_w,i32_w]
                    rfl
                   refine pure_ (i := 2) (N := some 147) (v := ?_) (a' := ?_) #[true,true,true,false,false,false,false,false,false,false,false,false,false,false,false,false,false,false,false,false,false] rfl rfl (any_of HT_.out (by kernel_rfl)) (fun _ _ _ h => h) (Or.inl ⟨by rfl,?_⟩) ?_ ?_
                   rotate_left
                   ·intro w'
                    go_simp
                    with_reducible rfl
                   rotate_left
                   ·simp only [Act.put,List.setIfInBounds_toArray,List.set_cons_zero,List.set_cons_succ,i64_w,i32_w]
                    rfl
                   refine pure_ (i := 3) (N := some 148) (v := ?_) (a' := ?_) #[true,true,true,true,false,false,false,false,false,false,false,false,false,false,false,false,false,false,false,false,false] rfl rfl (any_of HT_.out (by kernel_rfl)) (fun _ _ _ h => h) (Or.inl ⟨by rfl,?_⟩) ?_ ?_
                   rotate_left
                   ·intro w'
                    go_simp
                    with_reducible rfl
                   rotate_left
                   ·simp only [Act.put,List.setIfInBounds_toArray,List.set_cons_zero,List.set_cons_succ,i64_w,i32_w]
                    rfl
                   refine pure_ (i := 4) (N := some 149) (v := ?_) (a' := ?_) #[true,true,true,true,true,false,false,false,false,false,false,false,false,false,false,false,false,false,false,false,false] rfl rfl (any_of HT_.out (by kernel_rfl)) (fun _ _ _ h => h) (Or.inl ⟨by rfl,?_⟩) ?_ ?_
                   rotate_left
                   ·intro w'
                    go_simp
                    with_reducible rfl
                   rotate_left
                   ·simp only [Act.put,List.setIfInBounds_toArray,List.set_cons_zero,List.set_cons_succ,i64_w,i32_w]
                    rfl
                   refine pure_ (i := 5) (N := some 150) (v := ?_) (a' := ?_) #[true,true,true,true,true,true,false,false,false,false,false,false,false,false,false,false,false,false,false,false,false] rfl rfl (any_of HT_.out (by kernel_rfl)) (fun _ _ _ h => h) (Or.inl ⟨by rfl,?_⟩) ?_ ?_
                   rotate_left
                   ·intro w'
                    go_simp
                    with_reducible rfl
                   rotate_left
                   ·simp only [Act.put,List.setIfInBounds_toArray,List.set_cons_zero,List.set_cons_succ,i64_w,i32_w]
                    rfl
                   refine pure_ (i := 7) (N := some 152) (v := ?_) (a' := ?_) #[true,true,true,true,true,true,false,true,false,false,false,false,false,false,false,false,false,false,false,false,false] rfl rfl (any_of HT_.out (by kernel_rfl)) (fun _ _ _ h => h) (Or.inl ⟨by rfl,?_⟩) ?_ ?_
                   rotate_left
                   ·intro w'
                    go_simp
                    with_reducible rfl
                   rotate_left
                   ·simp only [Act.put,List.setIfInBounds_toArray,List.set_cons_zero,List.set_cons_succ,i64_w,i32_w]
                    rfl
                   refine pure_ (i := 9) (N := some 154) (v := ?_) (a' := ?_) #[true,true,true,true,true,true,false,true,false,true,false,false,false,false,false,false,false,false,false,false,false] rfl rfl (any_of HT_.out (by kernel_rfl)) (fun _ _ _ h => h) (Or.inl ⟨by rfl,?_⟩) ?_ ?_
                   rotate_left
                   ·intro w'
                    go_simp
                    with_reducible rfl
                   rotate_left
                   ·simp only [Act.put,List.setIfInBounds_toArray,List.set_cons_zero,List.set_cons_succ,i64_w,i32_w]
                    rfl
                   refine pure_ (i := 10) (N := some 155) (v := ?_) (a' := ?_) #[true,true,true,true,true,true,false,true,false,true,true,false,false,false,false,false,false,false,false,false,false] rfl rfl (any_of HT_.out (by kernel_rfl)) (fun _ _ _ h => h) (Or.inl ⟨by rfl,?_⟩) ?_ ?_
                   rotate_left
                   ·intro w'
                    go_simp
                    with_reducible rfl
                   rotate_left
                   ·simp only [Act.put,List.setIfInBounds_toArray,List.set_cons_zero,List.set_cons_succ,i64_w,i32_w]
                    rfl
                   refine pure_ (i := 11) (N := some 156) (v := ?_) (a' := ?_) #[true,true,true,true,true,true,false,true,false,true,true,true,false,false,false,false,false,false,false,false,false] rfl rfl (any_of HT_.out (by kernel_rfl)) (fun _ _ _ h => h) (Or.inl ⟨by rfl,?_⟩) ?_ ?_
                   rotate_left
                   ·intro w'
                    go_simp
                    with_reducible rfl
                   rotate_left
                   ·simp only [Act.put,List.setIfInBounds_toArray,List.set_cons_zero,List.set_cons_succ,i64_w,i32_w]
                    rfl
                   refine pure_ (i := 15) (N := some 160) (v := ?_) (a' := ?_) #[true,true,true,true,true,true,false,true,false,true,true,true,false,false,false,true,false,false,false,false,false] rfl rfl (any_of HT_.out (by kernel_rfl)) (fun _ _ _ h => h) (Or.inl ⟨by rfl,?_⟩) ?_ ?_
                   rotate_left
                   ·intro w'
                    go_simp
                    with_reducible rfl
                   rotate_left
                   ·simp only [Act.put,List.setIfInBounds_toArray,List.set_cons_zero,List.set_cons_succ,i64_w,i32_w]
                    rfl
                   refine pure_ (i := 16) (N := some 161) (v := ?_) (a' := ?_) #[true,true,true,true,true,true,false,true,false,true,true,true,false,false,false,true,true,false,false,false,false] rfl rfl (any_of HT_.out (by kernel_rfl)) (fun _ _ _ h => h) (Or.inl ⟨by rfl,?_⟩) ?_ ?_
                   rotate_left
                   ·intro w'
                    go_simp
                    with_reducible rfl
                   rotate_left
                   ·simp only [Act.put,List.setIfInBounds_toArray,List.set_cons_zero,List.set_cons_succ,i64_w,i32_w]
                    rfl
                   refine pure_ (i := 17) (N := some 162) (v := ?_) (a' := ?_) #[true,true,true,true,true,true,false,true,false,true,true,true,false,false,false,true,true,true,false,false,false] rfl rfl (any_of HT_.out (by kernel_rfl)) (fun _ _ _ h => h) (Or.inl ⟨by rfl,?_⟩) ?_ ?_
                   rotate_left
                   ·intro w'
                    go_simp
                    with_reducible rfl
                   rotate_left
                   ·simp only [Act.put,List.setIfInBounds_toArray,List.set_cons_zero,List.set_cons_succ,i64_w,i32_w]
                    rfl
                   refine take_ (i := 6) (N := some 151) (v := ?_) (a' := ?_) #[true,true,true,true,true,true,true,true,false,true,true,true,false,false,false,true,true,true,false,false,false] rfl rfl (take_ofW HT_.out HW_.out (by kernel_rfl)) (fun _ _ _ h => h) (Or.inl ⟨by rfl,?_⟩) hHeld ?_ ?_
                   rotate_left
                   ·rintro w' ⟨s0,s1,s2,s3,s4,s5⟩
                    go_simp
                    with_reducible rfl
                   rotate_left
                   ·simp only [Act.put,List.setIfInBounds_toArray,List.set_cons_zero,List.set_cons_succ,i64_w,i32_w]
                    rfl
                   refine take_ (i := 8) (N := some 153) (v := ?_) (a' := ?_) #[true,true,true,true,true,true,true,true,true,true,true,true,false,false,false,true,true,true,false,false,false] rfl rfl (take_ofW HT_.out HW_.out (by kernel_rfl)) (fun _ _ _ h => h) (Or.inl ⟨by rfl,?_⟩) hHeld ?_ ?_
                   rotate_left
                   ·rintro w' ⟨s0,s1,s2,s3,s4,s5⟩
                    go_simp
                    with_reducible rfl
                   rotate_left
                   ·simp only [Act.put,List.setIfInBounds_toArray,List.set_cons_zero,List.set_cons_succ,i64_w,i32_w]
                    rfl
                   refine take_ (i := 12) (N := some 157) (v := ?_) (a' := ?_) #[true,true,true,true,true,true,true,true,true,true,true,true,true,false,false,true,true,true,false,false,false] rfl rfl (take_ofW HT_.out HW_.out (by kernel_rfl)) (fun _ _ _ h => h) (Or.inl ⟨by rfl,?_⟩) hHeld ?_ ?_
                   rotate_left
                   ·rintro w' ⟨s0,s1,s2,s3,s4,s5⟩
                    go_simp
                    with_reducible rfl
                   rotate_left
                   ·simp only [Act.put,List.setIfInBounds_toArray,List.set_cons_zero,List.set_cons_succ,i64_w,i32_w]
                    rfl
                   refine take_ (i := 18) (N := some 163) (v := ?_) (a' := ?_) #[true,true,true,true,true,true,true,true,true,true,true,true,true,false,false,true,true,true,true,false,false] rfl rfl (take_ofW HT_.out HW_.out (by kernel_rfl)) (fun _ _ _ h => h) (Or.inl ⟨by rfl,?_⟩) hHeld ?_ ?_
                   rotate_left
                   ·rintro w' ⟨s0,s1,s2,s3,s4,s5⟩
                    go_simp
                    with_reducible rfl
                   rotate_left
                   ·simp only [Act.put,List.setIfInBounds_toArray,List.set_cons_zero,List.set_cons_succ,i64_w,i32_w]
                    rfl
                   refine one_ (i := 13) (N := some 158) #[true,true,true,true,true,true,true,true,true,true,true,true,true,true,false,true,true,true,true,false,false] rfl rfl (one_of HT_.out (by kernel_rfl)) (by decide) (fun K hK => ?_)
                   refine goes_ Tryd.func14 (by kernel_rfl) rfl #[.string a0_0,.string a0_1,.int .i64 (wrap64 (t255 - 1)),.int .i64 a0_3] (by rfl) rfl rfl au1 ?_
                   with_reducible refine (layout_Lay.calls a0_0 a0_1 (wrap64 (t255 - 1)) a0_3 t265 t266 t269 t270 _ ?side1 A68.out).mono ?_
                   (case side1 => exact tabs_below HT.out au19)
                   rintro e w72 ⟨v267,rfl,ho0,hb⟩
                   have HS4_ := (hb.cell (World.block_lt_of_cell? _ _ (hHeld.2.2.2.2.1))).trans (hHeld.2.2.2.2.1)
                   have HS5_ := (hb.cell (World.block_lt_of_cell? _ _ (hHeld.2.2.2.2.2))).trans (hHeld.2.2.2.2.2)
                   refine ⟨_,rfl,?_⟩
                   have n0_ := Aside0.mk (Kd.R_below au11 hb)
                   have n1_ := Aside0.mk (Kd.S_elder' (by (with_reducible repeat (first | apply Kd.S_alloc | apply Kd.S_drewN | apply Kd.S_drew));exact HO_263001.out) (Kd.S_base ho0) hb)
                   have n2_ := Aside0.mk (Kd.S_lower (Kd.S_new' ho0 (Kd.S_lt (by (with_reducible repeat (first | apply Kd.S_alloc | apply Kd.S_drewN | apply Kd.S_drew));exact HO_263001.out))) (below_size au19))
                   have n3_ := Aside0.mk (blk_below (g := gb238) (o := .cells #[.string a0_0,.string a0_1,.int .i64 a0_2,.int .i64 a0_3] 23 (0,0)) au8 hb)
                   have n4_ := Aside0.mk (blk_below (g := gb262) (o := .cells #[.int .i64 t256,.slice Ao51 t257.length co51,.int .i64 t260,.int .i64 t261] 29 (0,0)) (by (with_reducible repeat (first | refine blk_drewN ?_ _ | refine blk_drew ?_ | refine blk_alloc ?_ _));exact BK262.out) hb)
                   have n5_ := Aside0.mk (below_step au19 hb)
                   clear HO_3
                   clear HO_263001
                   clear BK238
                   clear BK262
                   clear HB
                   have HO_3 := n0_
                   have HO_263001 := n1_
                   have HO268 := n2_
                   have BK238 := n3_
                   have BK262 := n4_
                   have HB := n5_
                   clear n0_ n1_ n2_ n3_ n4_ n5_
                   (try clear hb)
                   (try clear hb2)
                   (try clear hk)
                   (try clear hi)
                   (try clear ho0)
                   refine hK.out _ _ ⟨(blk_cell BK238.out 0).trans rfl,(blk_cell BK238.out 1).trans rfl,(blk_cell BK238.out 2).trans rfl,(blk_cell BK238.out 3).trans rfl,HS4_,HS5_⟩ (fun hHeld => ?_)
                   clear hK K
                   refine norm_ (a' := ?_) ?_ ?_
                   rotate_left
                   ·show Act.put _ (some 158) _ = _
                    simp only [Act.put,List.setIfInBounds_toArray,List.set_cons_zero,List.set_cons_succ,i64_w,i32_w]
                    rfl
                   refine pure_ (i := 14) (N := some 159) (v := ?_) (a' := ?_) #[true,true,true,true,true,true,true,true,true,true,true,true,true,true,true,true,true,true,true,false,false] rfl rfl (any_of HT_.out (by kernel_rfl)) (fun _ _ _ h => h) (Or.inl ⟨by rfl,?_⟩) ?_ ?_
                   rotate_left
                   ·intro w'
                    go_simp
                    with_reducible rfl
                   rotate_left
                   ·simp only [Act.put,List.setIfInBounds_toArray,List.set_cons_zero,List.set_cons_succ,i64_w,i32_w]
                    rfl
                   refine pure_ (i := 19) (N := some 164) (v := ?_) (a' := ?_) #[true,true,true,true,true,true,true,true,true,true,true,true,true,true,true,true,true,true,true,true,false] rfl rfl (any_of HT_.out (by kernel_rfl)) (fun _ _ _ h => h) (Or.inl ⟨by rfl,?_⟩) ?_ ?_
                   rotate_left
                   ·intro w'
                    go_simp
                    with_reducible rfl
                   rotate_left
                   ·simp only [Act.put,List.setIfInBounds_toArray,List.set_cons_zero,List.set_cons_succ,i64_w,i32_w]
                    rfl
                   refine pure_ (i := 20) (N := some 165) (v := ?_) (a' := ?_) #[true,true,true,true,true,true,true,true,true,true,true,true,true,true,true,true,true,true,true,true,true] rfl rfl (any_of HT_.out (by kernel_rfl)) (fun _ _ _ h => h) (Or.inl ⟨by rfl,?_⟩) ?_ ?_
                   rotate_left
                   ·intro w'
                    go_simp
                    with_reducible rfl
                   rotate_left
                   ·simp only [Act.put,List.setIfInBounds_toArray,List.set_cons_zero,List.set_cons_succ,i64_w,i32_w]
                    rfl
                   refine done_ (done_of HT_.out (by kernel_rfl)) ?_
                   try go_wp2
                   go_meet
                   case rel => exact ⟨_,((!(t269 == ((rd_T27 t240 x6_1).f0)) || (!(t270 == ((rd_T27 t240 x6_1).f1))))),au9,H',⟨by have := HK1.out;have := HJ12.out;have := HJ25.out;have := HJ42.out;first | omega | exact Nat.le_refl _⟩,⟨by (with_reducible repeat (first | apply Kd.R_alloc | apply Kd.R_drewN | apply Kd.R_drew));exact HO_3.out⟩,⟨by (with_reducible repeat (first | apply Kd.S_alloc | apply Kd.S_drewN | apply Kd.S_drew));exact Kd.S_mono HO_263001.out (fun _ hk => trivial)⟩,⟨by (with_reducible repeat (first | refine blk_drewN ?_ _ | refine blk_drew ?_ | refine blk_alloc ?_ _));exact BK238.out⟩,⟨by (with_reducible repeat (first | refine blk_drewN ?_ _ | refine blk_drew ?_ | refine blk_alloc ?_ _));exact BK262.out⟩,⟨by repeat (first | (with_reducible first | exact HB.out | apply below_alloc | apply pw_below_drewN | apply below_drew1 | refine below_set ?_ GE238.out | refine below_set ?_ GE262.out) | exact HB.out)⟩⟩
                  ·rw [if_neg c70] at H
                   exact absurd H (by simp)
                 ·rw [if_neg c69] at H
                  exact absurd H (by simp)
                ·rw [if_neg c67] at H
                 have c67b0 : decide (1 < (wrap64 (t255 - x5_1))) = false := decide_eq_false c67
                 clear c67
                 (first | rw [c67b0] | (simp only [i64_w,i32_w];rw [c67b0]) | skip)
                 have H' := Aside0.mk H
                 clear H
                 try go_wp2
                 have n0_ := Aside0.mk (Kd.R_drew HO_3.out)
                 have n1_ := Aside0.mk (Kd.S_drew HO_263001.out)
                 have n2_ := Aside0.mk (blk_drew BK238.out)
                 have n3_ := Aside0.mk (blk_drew BK262.out)
                 have n4_ := Aside0.mk (below_drew1 HB.out)
                 clear HO_3
                 clear HO_263001
                 clear BK238
                 clear BK262
                 clear HB
                 have HO_3 := n0_
                 have HO_263001 := n1_
                 have BK238 := n2_
                 have BK262 := n3_
                 have HB := n4_
                 clear n0_ n1_ n2_ n3_ n4_
                 refine start_ (n := 21) (S := fun w' => True) (ds := []) #[false,false,false,false,false,false,false,false,false,false,false,false,false,false,false,false,false,false,false,false,false] (by kernel_rfl) rfl rfl trivial (fun hHeld => ?_);refine with_tabW bodkinlaw20_LayoutRises.tab18 bodkinlaw20_LayoutRises.bits18 (fun HT_ HW_ => ?_)
                 generalize wc.drew = w73 at HO_3 HO_263001 BK238 BK262 HB hHeld ⊢
                 refine pure_ (i := 0) (N := some 145) (v := ?_) (a' := ?_) #[true,false,false,false,false,false,false,false,false,false,false,false,false,false,false,false,false,false,false,false,false] rfl rfl (any_of HT_.out (by kernel_rfl)) (fun _ _ _ h => h) (Or.inl ⟨by rfl,?_⟩) ?_ ?_
                 rotate_left
                 ·intro w'
                  go_simp
                  with_reducible rfl
                 rotate_left
                 ·simp only [Act.put,List.setIfInBounds_toArray,List.set_cons_zero,List.set_cons_succ,i64_w,i32_w]
                  rfl
                 refine pure_ (i := 1) (N := some 146) (v := ?_) (a' := ?_) #[true,true,false,false,false,false,false,false,false,false,false,false,false,false,false,false,false,false,false,false,false] rfl rfl (any_of HT_.out (by kernel_rfl)) (fun _ _ _ h => h) (Or.inl ⟨by rfl,?_⟩) ?_ ?_
                 rotate_left
                 ·intro w'
                  go_simp
                  with_reducible rfl
                 rotate_left
                 ·simp only [Act.put,List.setIfInBounds_toArray,List.set_cons_zero,List.set_cons_succ,i64_w,i32_w]
                  rfl
                 refine pure_ (i := 2) (N := some 147) (v := ?_) (a' := ?_) #[true,true,true,false,false,false,false,false,false,false,false,false,false,false,false,false,false,false,false,false,false] rfl rfl (any_of HT_.out (by kernel_rfl)) (fun _ _ _ h => h) (Or.inl ⟨by rfl,?_⟩) ?_ ?_
                 rotate_left
                 ·intro w'
                  go_simp
                  with_reducible rfl
                 rotate_left
                 ·simp only [Act.put,List.setIfInBounds_toArray,List.set_cons_zero,List.set_cons_succ,i64_w,i32_w]
                  rfl
                 refine pure_ (i := 3) (N := some 148) (v := ?_) (a' := ?_) #[true,true,true,true,false,false,false,false,false,false,false,false,false,false,false,false,false,false,false,false,false] rfl rfl (any_of HT_.out (by kernel_rfl)) (fun _ _ _ h => h) (Or.inl ⟨by rfl,?_⟩) ?_ ?_
                 rotate_left
                 ·intro w'
                  go_simp
                  with_reducible rfl
                 rotate_left
                 ·simp only [Act.put,List.setIfInBounds_toArray,List.set_cons_zero,List.set_cons_succ,i64_w,i32_w]
                  rfl
                 refine pure_ (i := 4) (N := some 149) (v := ?_) (a' := ?_) #[true,true,true,true,true,false,false,false,false,false,false,false,false,false,false,false,false,false,false,false,false] rfl rfl (any_of HT_.out (by kernel_rfl)) (fun _ _ _ h => h) (Or.inl ⟨by rfl,?_⟩) ?_ ?_
                 rotate_left
                 ·intro w'
                  go_simp
                  with_reducible rfl
                 rotate_left
                 ·simp only [Act.put,List.setIfInBounds_toArray,List.set_cons_zero,List.set_cons_succ,i64_w,i32_w]
                  rfl
                 refine pure_ (i := 5) (N := some 150) (v := undef) (a' := ?_) #[true,true,true,true,true,true,false,false,false,false,false,false,false,false,false,false,false,false,false,false,false] rfl rfl (any_of HT_.out (by kernel_rfl)) (fun _ _ _ h => h) (Or.inr ⟨by rfl,rfl⟩) ?_ ?_
                 rotate_left
                 ·simp only [Act.put,List.setIfInBounds_toArray,List.set_cons_zero,List.set_cons_succ,i64_w,i32_w]
                  rfl
                 refine pure_ (i := 6) (N := some 151) (v := undef) (a' := ?_) #[true,true,true,true,true,true,true,false,false,false,false,false,false,false,false,false,false,false,false,false,false] rfl rfl (any_of HT_.out (by kernel_rfl)) (fun _ _ _ h => h) (Or.inr ⟨by rfl,rfl⟩) ?_ ?_
                 rotate_left
                 ·simp only [Act.put,List.setIfInBounds_toArray,List.set_cons_zero,List.set_cons_succ,i64_w,i32_w]
                  rfl
                 refine pure_ (i := 7) (N := some 152) (v := undef) (a' := ?_) #[true,true,true,true,true,true,true,true,false,false,false,false,false,false,false,false,false,false,false,false,false] rfl rfl (any_of HT_.out (by kernel_rfl)) (fun _ _ _ h => h) (Or.inr ⟨by rfl,rfl⟩) ?_ ?_
                 rotate_left
                 ·simp only [Act.put,List.setIfInBounds_toArray,List.set_cons_zero,List.set_cons_succ,i64_w,i32_w]
                  rfl
                 refine pure_ (i := 8) (N := some 153) (v := undef) (a' := ?_) #[true,true,true,true,true,true,true,true,true,false,false,false,false,false,false,false,false,false,false,false,false] rfl rfl (any_of HT_.out (by kernel_rfl)) (fun _ _ _ h => h) (Or.inr ⟨by rfl,rfl⟩) ?_ ?_
                 rotate_left
                 ·simp only [Act.put,List.setIfInBounds_toArray,List.set_cons_zero,List.set_cons_succ,i64_w,i32_w]
                  rfl
                 refine pure_ (i := 9) (N := some 154) (v := undef) (a' := ?_) #[true,true,true,true,true,true,true,true,true,true,false,false,false,false,false,false,false,false,false,false,false] rfl rfl (any_of HT_.out (by kernel_rfl)) (fun _ _ _ h => h) (Or.inr ⟨by rfl,rfl⟩) ?_ ?_
                 rotate_left
                 ·simp only [Act.put,List.setIfInBounds_toArray,List.set_cons_zero,List.set_cons_succ,i64_w,i32_w]
                  rfl
                 refine pure_ (i := 10) (N := some 155) (v := undef) (a' := ?_) #[true,true,true,true,true,true,true,true,true,true,true,false,false,false,false,false,false,false,false,false,false] rfl rfl (any_of HT_.out (by kernel_rfl)) (fun _ _ _ h => h) (Or.inr ⟨by rfl,rfl⟩) ?_ ?_
                 rotate_left
                 ·simp only [Act.put,List.setIfInBounds_toArray,List.set_cons_zero,List.set_cons_succ,i64_w,i32_w]
                  rfl
                 refine pure_ (i := 11) (N := some 156) (v := undef) (a' := ?_) #[true,true,true,true,true,true,true,true,true,true,true,true,false,false,false,false,false,false,false,false,false] rfl rfl (any_of HT_.out (by kernel_rfl)) (fun _ _ _ h => h) (Or.inr ⟨by rfl,rfl⟩) ?_ ?_
                 rotate_left
                 ·simp only [Act.put,List.setIfInBounds_toArray,List.set_cons_zero,List.set_cons_succ,i64_w,i32_w]
                  rfl
                 refine pure_ (i := 12) (N := some 157) (v := undef) (a' := ?_) #[true,true,true,true,true,true,true,true,true,true,true,true,true,false,false,false,false,false,false,false,false] rfl rfl (any_of HT_.out (by kernel_rfl)) (fun _ _ _ h => h) (Or.inr ⟨by rfl,rfl⟩) ?_ ?_
                 rotate_left
                 ·simp only [Act.put,List.setIfInBounds_toArray,List.set_cons_zero,List.set_cons_succ,i64_w,i32_w]
                  rfl
                 refine pure_ (i := 13) (N := some 158) (v := undef) (a' := ?_) #[true,true,true,true,true,true,true,true,true,true,true,true,true,true,false,false,false,false,false,false,false] rfl rfl (any_of HT_.out (by kernel_rfl)) (fun _ _ _ h => h) (Or.inr ⟨by rfl,rfl⟩) ?_ ?_
                 rotate_left
                 ·simp only [Act.put,List.setIfInBounds_toArray,List.set_cons_zero,List.set_cons_succ,i64_w,i32_w]
                  rfl
                 refine pure_ (i := 14) (N := some 159) (v := undef) (a' := ?_) #[true,true,true,true,true,true,true,true,true,true,true,true,true,true,true,false,false,false,false,false,false] rfl rfl (any_of HT_.out (by kernel_rfl)) (fun _ _ _ h => h) (Or.inr ⟨by rfl,rfl⟩) ?_ ?_
                 rotate_left
                 ·simp only [Act.put,List.setIfInBounds_toArray,List.set_cons_zero,List.set_cons_succ,i64_w,i32_w]
                  rfl
                 refine pure_ (i := 15) (N := some 160) (v := undef) (a' := ?_) #[true,true,true,true,true,true,true,true,true,true,true,true,true,true,true,true,false,false,false,false,false] rfl rfl (any_of HT_.out (by kernel_rfl)) (fun _ _ _ h => h) (Or.inr ⟨by rfl,rfl⟩) ?_ ?_
                 rotate_left
                 ·simp only [Act.put,List.setIfInBounds_toArray,List.set_cons_zero,List.set_cons_succ,i64_w,i32_w]
                  rfl
                 refine pure_ (i := 16) (N := some 161) (v := undef) (a' := ?_) #[true,true,true,true,true,true,true,true,true,true,true,true,true,true,true,true,true,false,false,false,false] rfl rfl (any_of HT_.out (by kernel_rfl)) (fun _ _ _ h => h) (Or.inr ⟨by rfl,rfl⟩) ?_ ?_
                 rotate_left
                 ·simp only [Act.put,List.setIfInBounds_toArray,List.set_cons_zero,List.set_cons_succ,i64_w,i32_w]
                  rfl
                 refine pure_ (i := 17) (N := some 162) (v := undef) (a' := ?_) #[true,true,true,true,true,true,true,true,true,true,true,true,true,true,true,true,true,true,false,false,false] rfl rfl (any_of HT_.out (by kernel_rfl)) (fun _ _ _ h => h) (Or.inr ⟨by rfl,rfl⟩) ?_ ?_
                 rotate_left
                 ·simp only [Act.put,List.setIfInBounds_toArray,List.set_cons_zero,List.set_cons_succ,i64_w,i32_w]
                  rfl
                 refine pure_ (i := 18) (N := some 163) (v := undef) (a' := ?_) #[true,true,true,true,true,true,true,true,true,true,true,true,true,true,true,true,true,true,true,false,false] rfl rfl (any_of HT_.out (by kernel_rfl)) (fun _ _ _ h => h) (Or.inr ⟨by rfl,rfl⟩) ?_ ?_
                 rotate_left
                 ·simp only [Act.put,List.setIfInBounds_toArray,List.set_cons_zero,List.set_cons_succ,i64_w,i32_w]
                  rfl
                 refine pure_ (i := 19) (N := some 164) (v := undef) (a' := ?_) #[true,true,true,true,true,true,true,true,true,true,true,true,true,true,true,true,true,true,true,true,false] rfl rfl (any_of HT_.out (by kernel_rfl)) (fun _ _ _ h => h) (Or.inr ⟨by rfl,rfl⟩) ?_ ?_
                 rotate_left
                 ·simp only [Act.put,List.setIfInBounds_toArray,List.set_cons_zero,List.set_cons_succ,i64_w,i32_w]
                  rfl
                 refine pure_ (i := 20) (N := some 165) (v := ?_) (a' := ?_) #[true,true,true,true,true,true,true,true,true,true,true,true,true,true,true,true,true,true,true,true,true] rfl rfl (any_of HT_.out (by kernel_rfl)) (fun _ _ _ h => h) (Or.inl ⟨by rfl,?_⟩) ?_ ?_
                 rotate_left
                 ·intro w'
                  go_simp
                  with_reducible rfl
                 rotate_left
                 ·simp only [Act.put,List.setIfInBounds_toArray,List.set_cons_zero,List.set_cons_succ,i64_w,i32_w]
                  rfl
                 refine done_ (done_of HT_.out (by kernel_rfl)) ?_
                 try go_wp2
                 go_meet
                 case rel => exact ⟨_,(false),au9,H',⟨by have := HK1.out;have := HJ12.out;have := HJ25.out;have := HJ42.out;first | omega | exact Nat.le_refl _⟩,⟨by (with_reducible repeat (first | apply Kd.R_alloc | apply Kd.R_drewN | apply Kd.R_drew));exact HO_3.out⟩,⟨by (with_reducible repeat (first | apply Kd.S_alloc | apply Kd.S_drewN | apply Kd.S_drew));exact HO_263001.out⟩,⟨by (with_reducible repeat (first | refine blk_drewN ?_ _ | refine blk_drew ?_ | refine blk_alloc ?_ _));exact BK238.out⟩,⟨by (with_reducible repeat (first | refine blk_drewN ?_ _ | refine blk_drew ?_ | refine blk_alloc ?_ _));exact BK262.out⟩,⟨by repeat (first | (with_reducible first | exact HB.out | apply below_alloc | apply pw_below_drewN | apply below_drew1 | refine below_set ?_ GE238.out | refine below_set ?_ GE262.out) | exact HB.out)⟩⟩
               case rest => as_aux_lemma =>
                clear HC66
                try clear c1
                try clear p2
                try clear q2
                try clear hx2
                try clear c5
                try clear c6
                try clear p6
                try clear c7
                try clear c14
                try clear c17
                try clear p26
                try clear q26
                try clear hx26
                try clear p27
                try clear q27
                try clear hx27
                try clear c52
                try clear c53
                try clear c54
                try clear c54b0
                try clear c58
                try clear c58b0
                try clear c58b1
                try clear p64
                try clear c65
                try clear c67
                try clear c67b0
                try clear c69
                try clear c69b0
                try clear c70
                try clear c70b0
                try clear hx263_0
                try clear hx263_1
                try clear hx271_0
                try clear hx271_1
                try clear p2
                try clear p26
                try clear p263
                try clear p271
                try clear q2
                try clear q26
                try clear q263
                try clear q271
                obtain ⟨kq,x165_65,rfl,HA,HJ65,HO_3,HO_263001,BK238,BK262,HB⟩ := hcut
                cases kq with
                | zero => exact absurd HA.out (by simp [bodkinlaw20_LayoutRises.j4])
                | succ kj65 =>
                 have H := HA.out
                 clear HA
                 simp only [bodkinlaw20_LayoutRises.j4] at H
                 by_cases c74 : x165_65 = true
                 ·subst c74
                  have H1 : (some false) = some r := by rw [if_pos rfl] at H;exact H
                  clear H
                  have H := H1
                  clear H1
                  obtain rfl := Option.some.inj H
                  cases hr_
                 ·replace c74 := Bool.eq_false_iff.mpr c74
                  subst c74
                  have H1 : (if (wrap64 (x6_1 + 1)) < (t240.length : Int) then (if t255 ≤ x5_1 then (some false) else (bodkinlaw20_LayoutRises.l0 kj65 t240 t243 t255 (wrap64 (x6_1 + 1)) a0_0 a0_1 a0_2 a0_3)) else (bodkinlaw20_LayoutRises.l0 kj65 t240 t243 t255 (wrap64 (x6_1 + 1)) a0_0 a0_1 a0_2 a0_3)) = some r := by rw [if_neg (show ¬ (false = true) by decide)] at H;exact H
                  clear H
                  have H := H1
                  clear H1
                  by_cases c75 : (wrap64 (x6_1 + 1)) < (t240.length : Int)
                  ·rw [if_pos c75] at H
                   have c75b0 : decide ((wrap64 (x6_1 + 1)) < (t240.length : Int)) = true := decide_eq_true c75
                   clear c75
                   by_cases c76 : t255 ≤ x5_1
                   ·rw [if_pos c76] at H
                    have c76b0 : decide (t255 ≤ x5_1) = true := decide_eq_true c76
                    clear c76
                    obtain rfl := Option.some.inj H
                    cases hr_
                   ·rw [if_neg c76] at H
                    have c76b0 : decide (t255 ≤ x5_1) = false := decide_eq_false c76
                    clear c76
                    have H' := Aside0.mk H
                    clear H
                    go_wp2
                    go_roundg kj65
                    case measure => have := HK1.out;have := HJ12.out;have := HJ25.out;have := HJ42.out;have := HJ65.out;omega
                    case rel => exact ⟨(t255),(wrap64 (x6_1 + 1)),au9,au9,H',⟨by have := HK1.out;have := HJ12.out;have := HJ25.out;have := HJ42.out;have := HJ65.out;omega⟩,⟨by (with_reducible repeat (first | apply Kd.R_alloc | apply Kd.R_drewN | apply Kd.R_drew));exact HO_3.out⟩,⟨by (with_reducible repeat (first | refine blk_drewN ?_ _ | refine blk_drew ?_ | refine blk_alloc ?_ _));exact BK238.out⟩,⟨by repeat (first | (with_reducible first | exact HB.out | apply below_alloc | apply pw_below_drewN | apply below_drew1 | refine below_set ?_ GE238.out | refine below_set ?_ GE262.out) | exact HB.out)⟩⟩
                  ·rw [if_neg c75] at H
                   have c75b0 : decide ((wrap64 (x6_1 + 1)) < (t240.length : Int)) = false := decide_eq_false c75
                   clear c75
                   have H' := Aside0.mk H
                   clear H
                   go_wp2
                   go_roundg kj65
                   case measure => have := HK1.out;have := HJ12.out;have := HJ25.out;have := HJ42.out;have := HJ65.out;omega
                   case rel => exact ⟨(t255),(wrap64 (x6_1 + 1)),au9,au9,H',⟨by have := HK1.out;have := HJ12.out;have := HJ25.out;have := HJ42.out;have := HJ65.out;omega⟩,⟨by (with_reducible repeat (first | apply Kd.R_alloc | apply Kd.R_drewN | apply Kd.R_drew));exact HO_3.out⟩,⟨by (with_reducible repeat (first | refine blk_drewN ?_ _ | refine blk_drew ?_ | refine blk_alloc ?_ _));exact BK238.out⟩,⟨by repeat (first | (with_reducible first | exact HB.out | apply below_alloc | apply pw_below_drewN | apply below_drew1 | refine below_set ?_ GE238.out | refine below_set ?_ GE262.out) | exact HB.out)⟩⟩
           ·rw [if_neg c41] at H
            have c41b0 : decide (x6_1 < 40) = false := decide_eq_false c41
            clear c41
            by_cases c77 : (wrap64 (x6_1 + 1)) < (t240.length : Int)
            ·rw [if_pos c77] at H
             have c77b0 : decide ((wrap64 (x6_1 + 1)) < (t240.length : Int)) = true := decide_eq_true c77
             clear c77
             by_cases c78 : t255 ≤ x5_1
             ·rw [if_pos c78] at H
              have c78b0 : decide (t255 ≤ x5_1) = true := decide_eq_true c78
              clear c78
              obtain rfl := Option.some.inj H
              cases hr_
             ·rw [if_neg c78] at H
              have c78b0 : decide (t255 ≤ x5_1) = false := decide_eq_false c78
              clear c78
              have H' := Aside0.mk H
              clear H
              have hcz81_0 : wc.cell? ⟨gb238,0,none⟩ = some (.string a0_0) := (blk_cell BK238.out 0).trans rfl
              have hcz81_1 : wc.cell? ⟨gb238,1,none⟩ = some (.string a0_1) := (blk_cell BK238.out 1).trans rfl
              have hcz81_2 : wc.cell? ⟨gb238,2,none⟩ = some (.int .i64 a0_2) := (blk_cell BK238.out 2).trans rfl
              have hcz81_3 : wc.cell? ⟨gb238,3,none⟩ = some (.int .i64 a0_3) := (blk_cell BK238.out 3).trans rfl
              have hfz81_0 := blk_frozen BK238.out 0
              have hfz81_1 := blk_frozen BK238.out 1
              have hfz81_2 := blk_frozen BK238.out 2
              have hfz81_3 := blk_frozen BK238.out 3
              go_wp2_with (first | ((with_reducible refine gate_callee (f := 18) rfl ?_);refine goesL_ (some 112) rfl rfl Tryd.func18 (by kernel_rfl) rfl #[.string a0_1,.int .i64 x5_1] rfl au1 ?_;(with_reducible refine (cluster_Next.calls kj25 a0_1 x5_1 t255 _ ?side1 A40.out).mono ?_);(case side1 => exact tabs_below HT.out au2);rintro e w82 ⟨rfl,hb⟩;refine ⟨_,rfl,?_⟩;have n0_ := Aside0.mk (Kd.R_below au11 hb);have n1_ := Aside0.mk (blk_below (g := gb238) (o := .cells #[.string a0_0,.string a0_1,.int .i64 a0_2,.int .i64 a0_3] 23 (0,0)) au8 hb);have n2_ := Aside0.mk (below_step au2 hb);clear HO_3;clear BK238;clear HB;have HO_3 := n0_;have BK238 := n1_;have HB := n2_;clear n0_ n1_ n2_;(try clear hb);(try clear hb2);(try clear hk);(try clear hi)))
              go_roundg kj25
              case measure => have := HK1.out;have := HJ12.out;have := HJ25.out;omega
              case rel => exact ⟨(t255),(wrap64 (x6_1 + 1)),au9,au9,H',⟨by have := HK1.out;have := HJ12.out;have := HJ25.out;omega⟩,⟨by (with_reducible repeat (first | apply Kd.R_alloc | apply Kd.R_drewN | apply Kd.R_drew));exact HO_3.out⟩,⟨by (with_reducible repeat (first | refine blk_drewN ?_ _ | refine blk_drew ?_ | refine blk_alloc ?_ _));exact BK238.out⟩,⟨by repeat (first | (with_reducible first | exact HB.out | apply below_alloc | apply pw_below_drewN | apply below_drew1 | refine below_set ?_ GE238.out) | exact HB.out)⟩⟩
            ·rw [if_neg c77] at H
             have c77b0 : decide ((wrap64 (x6_1 + 1)) < (t240.length : Int)) = false := decide_eq_false c77
             clear c77
             have H' := Aside0.mk H
             clear H
             have hcz83_0 : wc.cell? ⟨gb238,0,none⟩ = some (.string a0_0) := (blk_cell BK238.out 0).trans rfl
             have hcz83_1 : wc.cell? ⟨gb238,1,none⟩ = some (.string a0_1) := (blk_cell BK238.out 1).trans rfl
             have hcz83_2 : wc.cell? ⟨gb238,2,none⟩ = some (.int .i64 a0_2) := (blk_cell BK238.out 2).trans rfl
             have hcz83_3 : wc.cell? ⟨gb238,3,none⟩ = some (.int .i64 a0_3) := (blk_cell BK238.out 3).trans rfl
             have hfz83_0 := blk_frozen BK238.out 0
             have hfz83_1 := blk_frozen BK238.out 1
             have hfz83_2 := blk_frozen BK238.out 2
             have hfz83_3 := blk_frozen BK238.out 3
             go_wp2_with (first | ((with_reducible refine gate_callee (f := 18) rfl ?_);refine goesL_ (some 112) rfl rfl Tryd.func18 (by kernel_rfl) rfl #[.string a0_1,.int .i64 x5_1] rfl au1 ?_;(with_reducible refine (cluster_Next.calls kj25 a0_1 x5_1 t255 _ ?side1 A40.out).mono ?_);(case side1 => exact tabs_below HT.out au2);rintro e w84 ⟨rfl,hb⟩;refine ⟨_,rfl,?_⟩;have n0_ := Aside0.mk (Kd.R_below au11 hb);have n1_ := Aside0.mk (blk_below (g := gb238) (o := .cells #[.string a0_0,.string a0_1,.int .i64 a0_2,.int .i64 a0_3] 23 (0,0)) au8 hb);have n2_ := Aside0.mk (below_step au2 hb);clear HO_3;clear BK238;clear HB;have HO_3 := n0_;have BK238 := n1_;have HB := n2_;clear n0_ n1_ n2_;(try clear hb);(try clear hb2);(try clear hk);(try clear hi)))
             go_roundg kj25
             case measure => have := HK1.out;have := HJ12.out;have := HJ25.out;omega
             case rel => exact ⟨(t255),(wrap64 (x6_1 + 1)),au9,au9,H',⟨by have := HK1.out;have := HJ12.out;have := HJ25.out;omega⟩,⟨by (with_reducible repeat (first | apply Kd.R_alloc | apply Kd.R_drewN | apply Kd.R_drew));exact HO_3.out⟩,⟨by (with_reducible repeat (first | refine blk_drewN ?_ _ | refine blk_drew ?_ | refine blk_alloc ?_ _));exact BK238.out⟩,⟨by repeat (first | (with_reducible first | exact HB.out | apply below_alloc | apply pw_below_drewN | apply below_drew1 | refine below_set ?_ GE238.out) | exact HB.out)⟩⟩
    ·rw [if_neg c12] at H
     have c12b0 : decide (x6_1 < (t240.length : Int)) = false := decide_eq_false c12
     clear c12
     have HC85 := Aside0.mk H
     clear H
     obtain ⟨Ao86,co86,eo86⟩ := Kd.R_slice HO_3.out
     subst eo86
     go_upto_region 23 with (fail)
     go_cut [195] (fun v195 wc => ∃ (kq : Nat) (x195_84 : Bool),v195 = .bool x195_84 ∧ Aside0 (bodkinlaw20_LayoutRises.j5 kq t240 x195_84 a0_0 a0_1 a0_2 a0_3 = some r) ∧ Aside0 (kq ≤ k1) ∧ Aside0 (Kd.R k27 27 wc w.heap.size (fun _ => True) (.slice Ao86 t240.length co86) t240) ∧ Aside0 (wc.heap[gb238]? = some (.cells #[.string a0_0,.string a0_1,.int .i64 a0_2,.int .i64 a0_3] 23 (0,0))) ∧ Aside0 (Below w.heap.size w wc))
     case first => as_aux_lemma =>
      have H := HC85.out
      clear HC85
      replace H := Option.bind_eq_some_iff.mp H
      obtain ⟨t272,A870,H⟩ := H
      replace H : (if (t240.length : Int) = (wrap64 (t272 + 1)) then (if 0 ≤ (wrap64 ((t240.length : Int) - 1)) then (if (wrap64 ((t240.length : Int) - 1)) < (t240.length : Int) then (bodkinlaw20_LayoutRises.j5 k1 t240 (((rd_T27 t240 (wrap64 ((t240.length : Int) - 1))).f0) != (wrap64 (t243 - 1))) a0_0 a0_1 a0_2 a0_3) else (none)) else (none)) else (bodkinlaw20_LayoutRises.j5 k1 t240 true a0_0 a0_1 a0_2 a0_3)) = some r := H
      have A87 := Aside0.mk A870
      clear A870
      by_cases c88 : (t240.length : Int) = (wrap64 (t272 + 1))
      ·rw [if_pos c88] at H
       have c88b0 : ((t240.length : Int) == (wrap64 (t272 + 1))) = true := beq_iff_eq.mpr c88
       have c88b1 : ((t240.length : Int) != (wrap64 (t272 + 1))) = false := bne_eq_false_iff_eq.mpr c88
       clear c88
       (first | rw [c88b0] | (simp only [i64_w,i32_w];rw [c88b0]) | skip)
       obtain ⟨ji89,hji89⟩ : ∃ j_ : Int,(wrap64 ((t240.length : Int) - 1)) = j_ := ⟨_,rfl⟩
       replace H : (if 0 ≤ (ji89) then (if (ji89) < (t240.length : Int) then (bodkinlaw20_LayoutRises.j5 k1 t240 (((rd_T27 t240 (ji89)).f0) != (wrap64 (t243 - 1))) a0_0 a0_1 a0_2 a0_3) else (none)) else (none)) = some r := by first | (rw [hji89] at H;exact H) | (simp only [hji89] at H ⊢;exact H)
       (try rw [hji89] at A87)
       have hji89w : (IntKind.i64.wrap ((t240.length : Int) - 1)) = ji89 := (i64_w _).trans hji89
       by_cases c90 : 0 ≤ (ji89)
       ·rw [if_pos c90] at H
        have c90b0 : decide (0 ≤ (ji89)) = true := decide_eq_true c90
        clear c90
        by_cases c91 : (ji89) < (t240.length : Int)
        ·rw [if_pos c91] at H
         have c91b0 : decide ((ji89) < (t240.length : Int)) = true := decide_eq_true c91
         clear c91
         have H' := Aside0.mk H
         clear H
         have hcz92_0 : wr.cell? ⟨gb238,0,none⟩ = some (.string a0_0) := (blk_cell BK238.out 0).trans rfl
         have hcz92_1 : wr.cell? ⟨gb238,1,none⟩ = some (.string a0_1) := (blk_cell BK238.out 1).trans rfl
         have hcz92_2 : wr.cell? ⟨gb238,2,none⟩ = some (.int .i64 a0_2) := (blk_cell BK238.out 2).trans rfl
         have hcz92_3 : wr.cell? ⟨gb238,3,none⟩ = some (.int .i64 a0_3) := (blk_cell BK238.out 3).trans rfl
         have hfz92_0 := blk_frozen BK238.out 0
         have hfz92_1 := blk_frozen BK238.out 1
         have hfz92_2 := blk_frozen BK238.out 2
         have hfz92_3 := blk_frozen BK238.out 3
         go_wp2_with (first | ((with_reducible refine gate_callee (f := 28) rfl ?_);refine goesL_ (some 181) rfl rfl Tryd.func28 (by kernel_rfl) rfl #[.string a0_1] rfl au1 ?_;(with_reducible refine (cluster_Count.calls a0_1 t272 _ ?side1 A87.out).mono ?_);(case side1 => exact tabs_below HT.out au2);rintro e w93 ⟨rfl,hb⟩;refine ⟨_,rfl,?_⟩;have n0_ := Aside0.mk (Kd.R_below au11 hb);have n1_ := Aside0.mk (blk_below (g := gb238) (o := .cells #[.string a0_0,.string a0_1,.int .i64 a0_2,.int .i64 a0_3] 23 (0,0)) au8 hb);have n2_ := Aside0.mk (below_step au2 hb);clear HO_3;clear BK238;clear HB;have HO_3 := n0_;have BK238 := n1_;have HB := n2_;clear n0_ n1_ n2_;(try clear hb);(try clear hb2);(try clear hk);(try clear hi);have p273 : 0 ≤ ((ji89) : Int) := of_decide_eq_true au4;have q273 : (ji89) < (t240.length : Int) := of_decide_eq_true au4;obtain ⟨ad273,e273,hx273_0,hx273_1⟩ := at_T27 (Kd.R_reads' HO_3.out).2.2 (ji89) p273 q273;cases e273;replace p273 := eq_true p273;replace q273 := eq_true q273))
         go_meet
         case rel => exact ⟨_,((((rd_T27 t240 (ji89)).f0) != (wrap64 (t243 - 1)))),(by first | rfl | (simp;done) | (simp only [← hji89] <;> (first | rfl | simp)) | (simp [*];done)),H',⟨by have := HK1.out;first | omega | exact Nat.le_refl _⟩,⟨by (with_reducible repeat (first | apply Kd.R_alloc | apply Kd.R_drewN | apply Kd.R_drew));exact HO_3.out⟩,⟨by (with_reducible repeat (first | refine blk_drewN ?_ _ | refine blk_drew ?_ | refine blk_alloc ?_ _));exact BK238.out⟩,⟨by repeat (first | (with_reducible first | exact HB.out | apply below_alloc | apply pw_below_drewN | apply below_drew1 | refine below_set ?_ GE238.out) | exact HB.out)⟩⟩
        ·rw [if_neg c91] at H
         exact absurd H (by simp)
       ·rw [if_neg c90] at H
        exact absurd H (by simp)
      ·rw [if_neg c88] at H
       exfalso
       subst hr_
       cases k1 <;> simp [bodkinlaw20_LayoutRises.j5] at H
     case rest => as_aux_lemma =>
      clear HC85
      try clear c1
      try clear c2
      try clear p2
      try clear q2
      try clear hx2
      try clear c4
      try clear c5
      try clear c6
      try clear p6
      try clear c7
      try clear c8
      try clear c9
      try clear c12
      try clear c12b0
      try clear c14
      try clear c17
      try clear c18
      try clear p26
      try clear q26
      try clear hx26
      try clear p27
      try clear q27
      try clear hx27
      try clear c28
      try clear c41
      try clear c41b0
      try clear c52
      try clear c53
      try clear c54
      try clear c54b0
      try clear c58
      try clear c58b0
      try clear c58b1
      try clear p64
      try clear c65
      try clear c67
      try clear c67b0
      try clear c69
      try clear c69b0
      try clear c70
      try clear c70b0
      try clear c74
      try clear c75
      try clear c75b0
      try clear c76
      try clear c76b0
      try clear c77
      try clear c77b0
      try clear c78
      try clear c78b0
      try clear c88
      try clear c88b0
      try clear c88b1
      try clear c90
      try clear c90b0
      try clear c91
      try clear c91b0
      try clear hcz79_0
      try clear hcz79_1
      try clear hcz79_2
      try clear hcz79_3
      try clear hcz81_0
      try clear hcz81_1
      try clear hcz81_2
      try clear hcz81_3
      try clear hcz83_0
      try clear hcz83_1
      try clear hcz83_2
      try clear hcz83_3
      try clear hcz92_0
      try clear hcz92_1
      try clear hcz92_2
      try clear hcz92_3
      try clear hcz94_0
      try clear hcz94_1
      try clear hcz94_2
      try clear hcz94_3
      try clear hfz79_0
      try clear hfz79_1
      try clear hfz79_2
      try clear hfz79_3
      try clear hfz81_0
      try clear hfz81_1
      try clear hfz81_2
      try clear hfz81_3
      try clear hfz83_0
      try clear hfz83_1
      try clear hfz83_2
      try clear hfz83_3
      try clear hfz92_0
      try clear hfz92_1
      try clear hfz92_2
      try clear hfz92_3
      try clear hfz94_0
      try clear hfz94_1
      try clear hfz94_2
      try clear hfz94_3
      try clear hx263_0
      try clear hx263_1
      try clear hx271_0
      try clear hx271_1
      try clear hx273_0
      try clear hx273_1
      try clear p2
      try clear p26
      try clear p263
      try clear p27
      try clear p271
      try clear p273
      try clear p6
      try clear p64
      try clear q2
      try clear q26
      try clear q263
      try clear q27
      try clear q271
      try clear q273
      obtain ⟨kq,x195_84,rfl,HA,HJ84,HO_3,BK238,HB⟩ := hcut
      cases kq with
      | zero => exact absurd HA.out (by simp [bodkinlaw20_LayoutRises.j5])
      | succ kj84 =>
       have H := HA.out
       clear HA
       simp only [bodkinlaw20_LayoutRises.j5] at H
       by_cases c96 : x195_84 = true
       ·subst c96
        have H1 : (some false) = some r := by rw [if_pos rfl] at H;exact H
        clear H
        have H := H1
        clear H1
        obtain rfl := Option.some.inj H
        cases hr_
       ·replace c96 := Bool.eq_false_iff.mpr c96
        subst c96
        have H1 : ((layout_Lay.f a0_0 a0_1 (-5) a0_3).bind fun bt274 => (if 0 < (t240.length : Int) then (if (bt274.2.2.1 == ((rd_T27 t240 0).f0) && (bt274.2.2.2 == ((rd_T27 t240 0).f1))) = true then ((layout_Lay.f a0_0 a0_1 (wrap64 ((a0_1.size : Int) + 7)) a0_3).bind fun bt281 => (if 0 ≤ (wrap64 ((t240.length : Int) - 1)) then (if (wrap64 ((t240.length : Int) - 1)) < (t240.length : Int) then (some (bt281.2.2.1 == ((rd_T27 t240 (wrap64 ((t240.length : Int) - 1))).f0) && (bt281.2.2.2 == ((rd_T27 t240 (wrap64 ((t240.length : Int) - 1))).f1)))) else (none)) else (none))) else (some false)) else (none))) = some r := by rw [if_neg (show ¬ (false = true) by decide)] at H;exact H
        clear H
        have H := H1
        clear H1
        replace H := Option.bind_eq_some_iff.mp H
        obtain ⟨⟨t274,t275,t278,t279⟩,A970,H⟩ := H
        replace H : (if 0 < (t240.length : Int) then (if (t278 == ((rd_T27 t240 0).f0) && (t279 == ((rd_T27 t240 0).f1))) = true then ((layout_Lay.f a0_0 a0_1 (wrap64 ((a0_1.size : Int) + 7)) a0_3).bind fun bt281 => (if 0 ≤ (wrap64 ((t240.length : Int) - 1)) then (if (wrap64 ((t240.length : Int) - 1)) < (t240.length : Int) then (some (bt281.2.2.1 == ((rd_T27 t240 (wrap64 ((t240.length : Int) - 1))).f0) && (bt281.2.2.2 == ((rd_T27 t240 (wrap64 ((t240.length : Int) - 1))).f1)))) else (none)) else (none))) else (some false)) else (none)) = some r := H
        have A97 := Aside0.mk A970
        clear A970
        by_cases c98 : 0 < (t240.length : Int)
        ·rw [if_pos c98] at H
         have c98b0 : decide (0 < (t240.length : Int)) = true := decide_eq_true c98
         have c98b1 : decide (0 < t240.length) = true := decide_eq_true (by omega)
         clear c98
         by_cases c99 : (t278 == ((rd_T27 t240 0).f0) && (t279 == ((rd_T27 t240 0).f1))) = true
         ·rw [if_pos c99] at H
          have c99b0 : (t278 == ((rd_T27 t240 0).f0) && (t279 == ((rd_T27 t240 0).f1))) = true := c99
          (try (have c99b1 : decide (t278 = ((rd_T27 t240 0).f0) && (t279 == ((rd_T27 t240 0).f1))) = true := by simpa using c99))
          (try (have c99b2 : (t278 == ((rd_T27 t240 0).f0) && (t279 == ((rd_T27 t240 0).f1))) = true := by simpa using c99))
          clear c99
          replace H := Option.bind_eq_some_iff.mp H
          obtain ⟨⟨t281,t282,t285,t286⟩,A1000,H⟩ := H
          replace H : (if 0 ≤ (wrap64 ((t240.length : Int) - 1)) then (if (wrap64 ((t240.length : Int) - 1)) < (t240.length : Int) then (some (t285 == ((rd_T27 t240 (wrap64 ((t240.length : Int) - 1))).f0) && (t286 == ((rd_T27 t240 (wrap64 ((t240.length : Int) - 1))).f1)))) else (none)) else (none)) = some r := H
          have A100 := Aside0.mk A1000
          clear A1000
          obtain ⟨ji101,hji101⟩ : ∃ j_ : Int,(wrap64 ((t240.length : Int) - 1)) = j_ := ⟨_,rfl⟩
          replace H : (if 0 ≤ (ji101) then (if (ji101) < (t240.length : Int) then (some (t285 == ((rd_T27 t240 (ji101)).f0) && (t286 == ((rd_T27 t240 (ji101)).f1)))) else (none)) else (none)) = some r := by first | (rw [hji101] at H;exact H) | (simp only [hji101] at H ⊢;exact H)
          (try rw [hji101] at A97)
          (try rw [hji101] at A100)
          have hji101w : (IntKind.i64.wrap ((t240.length : Int) - 1)) = ji101 := (i64_w _).trans hji101
          by_cases c102 : 0 ≤ (ji101)
          ·rw [if_pos c102] at H
           have c102b0 : decide (0 ≤ (ji101)) = true := decide_eq_true c102
           clear c102
           by_cases c103 : (ji101) < (t240.length : Int)
           ·rw [if_pos c103] at H
            have c103b0 : decide ((ji101) < (t240.length : Int)) = true := decide_eq_true c103
            clear c103
            obtain rfl := Option.some.inj H
            try go_wp2
            have n0_ := Aside0.mk (Kd.R_drew HO_3.out)
            have n1_ := Aside0.mk (blk_drew BK238.out)
            have n2_ := Aside0.mk (below_drew1 HB.out)
            clear HO_3
            clear BK238
            clear HB
            have HO_3 := n0_
            have BK238 := n1_
            have HB := n2_
            clear n0_ n1_ n2_
            have p280 : 0 ≤ (0 : Int) := (by omega)
            have q280 : 0 < (t240.length : Int) := of_decide_eq_true au4
            obtain ⟨ad280,e280,hx280_0,hx280_1⟩ := at_T27 (Kd.R_reads' HO_3.out).2.2 0 p280 q280
            cases e280
            have qi280 : (0 < t240.length) = True := eq_true (by omega)
            (try rw [show ((0 : Int)).toNat = 0 from rfl] at hx280_0)
            (try rw [show 0 * 2 = 0 from rfl] at hx280_0)
            (try rw [Addr.add_zero'] at hx280_0)
            (try rw [show ((0 : Int)).toNat = 0 from rfl] at hx280_1)
            (try rw [show 0 * 2 = 0 from rfl] at hx280_1)
            (try rw [Addr.add_zero'] at hx280_1)
            replace p280 := eq_true p280
            replace q280 := eq_true q280
            have p287 : 0 ≤ ((ji101) : Int) := of_decide_eq_true au4
            have q287 : (ji101) < (t240.length : Int) := of_decide_eq_true au4
            obtain ⟨ad287,e287,hx287_0,hx287_1⟩ := at_T27 (Kd.R_reads' HO_3.out).2.2 (ji101) p287 q287
            obtain rfl : ad280 = ad287 := (by injection e287)
            replace p287 := eq_true p287
            replace q287 := eq_true q287
            refine start_ (n := 34) (S := fun w' => w'.cell? ⟨gb238,0,none⟩ = some (.string a0_0) ∧ w'.cell? ⟨gb238,1,none⟩ = some (.string a0_1) ∧ w'.cell? ⟨gb238,2,none⟩ = some (.int .i64 a0_2) ∧ w'.cell? ⟨gb238,3,none⟩ = some (.int .i64 a0_3) ∧ w'.cell? ad280 = some (.int .i64 ((rd_T27 t240 0).f0)) ∧ w'.cell? ⟨ad280.block,ad280.off + 1,none⟩ = some (.int .i64 ((rd_T27 t240 0).f1)) ∧ w'.cell? (ad280.add (((ji101)).toNat * 2)) = some (.int .i64 ((rd_T27 t240 (ji101)).f0)) ∧ w'.cell? ⟨(ad280.add (((ji101)).toNat * 2)).block,(ad280.add (((ji101)).toNat * 2)).off + 1,none⟩ = some (.int .i64 ((rd_T27 t240 (ji101)).f1))) (ds := []) #[false,false,false,false,false,false,false,false,false,false,false,false,false,false,false,false,false,false,false,false,false,false,false,false,false,false,false,false,false,false,false,false,false,false] (by kernel_rfl) rfl rfl ⟨(blk_cell BK238.out 0).trans rfl,(blk_cell BK238.out 1).trans rfl,(blk_cell BK238.out 2).trans rfl,(blk_cell BK238.out 3).trans rfl,hx280_0,hx280_1,hx287_0,hx287_1⟩ (fun hHeld => ?_);refine with_tabW bodkinlaw20_LayoutRises.tab25 bodkinlaw20_LayoutRises.bits25 (fun HT_ HW_ => ?_)
            generalize wc.drew = w104 at HO_3 BK238 HB hx280_0 hx280_1 hx287_0 hx287_1 hHeld ⊢
            refine pure_ (i := 0) (N := some 196) (v := ?_) (a' := ?_) #[true,false,false,false,false,false,false,false,false,false,false,false,false,false,false,false,false,false,false,false,false,false,false,false,false,false,false,false,false,false,false,false,false,false] rfl rfl (any_of HT_.out (by kernel_rfl)) (fun _ _ _ h => h) (Or.inl ⟨by rfl,?_⟩) ?_ ?_
            rotate_left
            ·intro w'
             go_simp
             with_reducible rfl
            rotate_left
            ·simp only [Act.put,List.setIfInBounds_toArray,List.set_cons_zero,List.set_cons_succ,i64_w,i32_w]
             rfl
            refine pure_ (i := 2) (N := some 198) (v := ?_) (a' := ?_) #[true,false,true,false,false,false,false,false,false,false,false,false,false,false,false,false,false,false,false,false,false,false,false,false,false,false,false,false,false,false,false,false,false,false] rfl rfl (any_of HT_.out (by kernel_rfl)) (fun _ _ _ h => h) (Or.inl ⟨by rfl,?_⟩) ?_ ?_
            rotate_left
            ·intro w'
             go_simp
             with_reducible rfl
            rotate_left
            ·simp only [Act.put,List.setIfInBounds_toArray,List.set_cons_zero,List.set_cons_succ,i64_w,i32_w]
             rfl
            refine pure_ (i := 4) (N := some 200) (v := ?_) (a' := ?_) #[true,false,true,false,true,false,false,false,false,false,false,false,false,false,false,false,false,false,false,false,false,false,false,false,false,false,false,false,false,false,false,false,false,false] rfl rfl (any_of HT_.out (by kernel_rfl)) (fun _ _ _ h => h) (Or.inl ⟨by rfl,?_⟩) ?_ ?_
            rotate_left
            ·intro w'
             go_simp
             with_reducible rfl
            rotate_left
            ·simp only [Act.put,List.setIfInBounds_toArray,List.set_cons_zero,List.set_cons_succ,i64_w,i32_w]
             rfl
            refine pure_ (i := 8) (N := some 204) (v := ?_) (a' := ?_) #[true,false,true,false,true,false,false,false,true,false,false,false,false,false,false,false,false,false,false,false,false,false,false,false,false,false,false,false,false,false,false,false,false,false] rfl rfl (any_of HT_.out (by kernel_rfl)) (fun _ _ _ h => h) (Or.inl ⟨by rfl,?_⟩) ?_ ?_
            rotate_left
            ·intro w'
             go_simp
             with_reducible rfl
            rotate_left
            ·simp only [Act.put,List.setIfInBounds_toArray,List.set_cons_zero,List.set_cons_succ,i64_w,i32_w]
             rfl
            refine pure_ (i := 9) (N := some 205) (v := ?_) (a' := ?_) #[true,false,true,false,true,false,false,false,true,true,false,false,false,false,false,false,false,false,false,false,false,false,false,false,false,false,false,false,false,false,false,false,false,false] rfl rfl (any_of HT_.out (by kernel_rfl)) (fun _ _ _ h => h) (Or.inl ⟨by rfl,?_⟩) ?_ ?_
            rotate_left
            ·intro w'
             go_simp
             with_reducible rfl
            rotate_left
            ·simp only [Act.put,List.setIfInBounds_toArray,List.set_cons_zero,List.set_cons_succ,i64_w,i32_w]
             rfl
            refine take_ (i := 1) (N := some 197) (v := ?_) (a' := ?_) #[true,true,true,false,true,false,false,false,true,true,false,false,false,false,false,false,false,false,false,false,false,false,false,false,false,false,false,false,false,false,false,false,false,false] rfl rfl (take_ofW HT_.out HW_.out (by kernel_rfl)) (fun _ _ _ h => h) (Or.inl ⟨by rfl,?_⟩) hHeld ?_ ?_
            rotate_left
            ·rintro w' ⟨s0,s1,s2,s3,s4,s5,s6,s7⟩
             go_simp
             with_reducible rfl
            rotate_left
            ·simp only [Act.put,List.setIfInBounds_toArray,List.set_cons_zero,List.set_cons_succ,i64_w,i32_w]
             rfl
            refine take_ (i := 3) (N := some 199) (v := ?_) (a' := ?_) #[true,true,true,true,true,false,false,false,true,true,false,false,false,false,false,false,false,false,false,false,false,false,false,false,false,false,false,false,false,false,false,false,false,false] rfl rfl (take_ofW HT_.out HW_.out (by kernel_rfl)) (fun _ _ _ h => h) (Or.inl ⟨by rfl,?_⟩) hHeld ?_ ?_
            rotate_left
            ·rintro w' ⟨s0,s1,s2,s3,s4,s5,s6,s7⟩
             go_simp
             with_reducible rfl
            rotate_left
            ·simp only [Act.put,List.setIfInBounds_toArray,List.set_cons_zero,List.set_cons_succ,i64_w,i32_w]
             rfl
            refine take_ (i := 5) (N := some 201) (v := ?_) (a' := ?_) #[true,true,true,true,true,true,false,false,true,true,false,false,false,false,false,false,false,false,false,false,false,false,false,false,false,false,false,false,false,false,false,false,false,false] rfl rfl (take_ofW HT_.out HW_.out (by kernel_rfl)) (fun _ _ _ h => h) (Or.inl ⟨by rfl,?_⟩) hHeld ?_ ?_
            rotate_left
            ·rintro w' ⟨s0,s1,s2,s3,s4,s5,s6,s7⟩
             go_simp
             with_reducible rfl
            rotate_left
            ·simp only [Act.put,List.setIfInBounds_toArray,List.set_cons_zero,List.set_cons_succ,i64_w,i32_w]
             rfl
            refine take_ (i := 10) (N := some 206) (v := ?_) (a' := ?_) #[true,true,true,true,true,true,false,false,true,true,true,false,false,false,false,false,false,false,false,false,false,false,false,false,false,false,false,false,false,false,false,false,false,false] rfl rfl (take_ofW HT_.out HW_.out (by kernel_rfl)) (fun _ _ _ h => h) (Or.inl ⟨by rfl,?_⟩) hHeld ?_ ?_
            rotate_left
            ·rintro w' ⟨s0,s1,s2,s3,s4,s5,s6,s7⟩
             go_simp
             with_reducible rfl
            rotate_left
            ·simp only [Act.put,List.setIfInBounds_toArray,List.set_cons_zero,List.set_cons_succ,i64_w,i32_w]
             rfl
            refine one_ (i := 6) (N := some 202) #[true,true,true,true,true,true,true,false,true,true,true,false,false,false,false,false,false,false,false,false,false,false,false,false,false,false,false,false,false,false,false,false,false,false] rfl rfl (one_of HT_.out (by kernel_rfl)) (by decide) (fun K hK => ?_)
            refine goes_ Tryd.func14 (by kernel_rfl) rfl #[.string a0_0,.string a0_1,.int .i64 (-5),.int .i64 a0_3] (by rfl) rfl rfl au1 ?_
            with_reducible refine (layout_Lay.calls a0_0 a0_1 (-5) a0_3 t274 t275 t278 t279 _ ?side1 A97.out).mono ?_
            (case side1 => exact tabs_below HT.out au2)
            rintro e w105 ⟨v276,rfl,ho0,hb⟩
            have HS4_ := (hb.cell (World.block_lt_of_cell? _ _ (hHeld.2.2.2.2.1))).trans (hHeld.2.2.2.2.1)
            have HS5_ := (hb.cell (World.block_lt_of_cell? _ _ (hHeld.2.2.2.2.2.1))).trans (hHeld.2.2.2.2.2.1)
            have HS6_ := (hb.cell (World.block_lt_of_cell? _ _ (hHeld.2.2.2.2.2.2.1))).trans (hHeld.2.2.2.2.2.2.1)
            have HS7_ := (hb.cell (World.block_lt_of_cell? _ _ (hHeld.2.2.2.2.2.2.2))).trans (hHeld.2.2.2.2.2.2.2)
            refine ⟨_,rfl,?_⟩
            have n0_ := Aside0.mk (Kd.R_below au11 hb)
            have n1_ := Aside0.mk (Kd.S_lower ho0 (below_size au2))
            have n2_ := Aside0.mk (blk_below (g := gb238) (o := .cells #[.string a0_0,.string a0_1,.int .i64 a0_2,.int .i64 a0_3] 23 (0,0)) au8 hb)
            have n3_ := Aside0.mk (below_step au2 hb)
            clear HO_3
            clear BK238
            clear HB
            have HO_3 := n0_
            have HO277 := n1_
            have BK238 := n2_
            have HB := n3_
            clear n0_ n1_ n2_ n3_
            (try clear hb)
            (try clear hb2)
            (try clear hk)
            (try clear hi)
            (try clear ho0)
            refine hK.out _ _ ⟨(blk_cell BK238.out 0).trans rfl,(blk_cell BK238.out 1).trans rfl,(blk_cell BK238.out 2).trans rfl,(blk_cell BK238.out 3).trans rfl,HS4_,HS5_,HS6_,HS7_⟩ (fun hHeld => ?_)
            clear hK K
            refine norm_ (a' := ?_) ?_ ?_
            rotate_left
            ·show Act.put _ (some 202) _ = _
             simp only [Act.put,List.setIfInBounds_toArray,List.set_cons_zero,List.set_cons_succ,i64_w,i32_w]
             rfl
            refine pure_ (i := 7) (N := some 203) (v := ?_) (a' := ?_) #[true,true,true,true,true,true,true,true,true,true,true,false,false,false,false,false,false,false,false,false,false,false,false,false,false,false,false,false,false,false,false,false,false,false] rfl rfl (any_of HT_.out (by kernel_rfl)) (fun _ _ _ h => h) (Or.inl ⟨by rfl,?_⟩) ?_ ?_
            rotate_left
            ·intro w'
             go_simp
             with_reducible rfl
            rotate_left
            ·simp only [Act.put,List.setIfInBounds_toArray,List.set_cons_zero,List.set_cons_succ,i64_w,i32_w]
             rfl
            refine pure_ (i := 11) (N := some 207) (v := ?_) (a' := ?_) #[true,true,true,true,true,true,true,true,true,true,true,true,false,false,false,false,false,false,false,false,false,false,false,false,false,false,false,false,false,false,false,false,false,false] rfl rfl (any_of HT_.out (by kernel_rfl)) (fun _ _ _ h => h) (Or.inl ⟨by rfl,?_⟩) ?_ ?_
            rotate_left
            ·intro w'
             go_simp
             with_reducible rfl
            rotate_left
            ·simp only [Act.put,List.setIfInBounds_toArray,List.set_cons_zero,List.set_cons_succ,i64_w,i32_w]
             rfl
            refine pure_ (i := 12) (N := some 208) (v := ?_) (a' := ?_) #[true,true,true,true,true,true,true,true,true,true,true,true,true,false,false,false,false,false,false,false,false,false,false,false,false,false,false,false,false,false,false,false,false,false] rfl rfl (any_of HT_.out (by kernel_rfl)) (fun _ _ _ h => h) (Or.inl ⟨by rfl,?_⟩) ?_ ?_
            rotate_left
            ·intro w'
             go_simp
             with_reducible rfl
            rotate_left
            ·simp only [Act.put,List.setIfInBounds_toArray,List.set_cons_zero,List.set_cons_succ,i64_w,i32_w]
             rfl
            refine pure_ (i := 13) (N := some 209) (v := ?_) (a' := ?_) #[true,true,true,true,true,true,true,true,true,true,true,true,true,true,false,false,false,false,false,false,false,false,false,false,false,false,false,false,false,false,false,false,false,false] rfl rfl (any_of HT_.out (by kernel_rfl)) (fun _ _ _ h => h) (Or.inl ⟨by rfl,?_⟩) ?_ ?_
            rotate_left
            ·intro w'
             go_simp
             with_reducible rfl
            rotate_left
            ·simp only [Act.put,List.setIfInBounds_toArray,List.set_cons_zero,List.set_cons_succ,i64_w,i32_w]
             rfl
            refine pure_ (i := 15) (N := some 211) (v := ?_) (a' := ?_) #[true,true,true,true,true,true,true,true,true,true,true,true,true,true,false,true,false,false,false,false,false,false,false,false,false,false,false,false,false,false,false,false,false,false] rfl rfl (any_of HT_.out (by kernel_rfl)) (fun _ _ _ h => h) (Or.inl ⟨by rfl,?_⟩) ?_ ?_
            rotate_left
            ·intro w'
             go_simp
             with_reducible rfl
            rotate_left
            ·simp only [Act.put,List.setIfInBounds_toArray,List.set_cons_zero,List.set_cons_succ,i64_w,i32_w]
             rfl
            refine pure_ (i := 17) (N := some 213) (v := ?_) (a' := ?_) #[true,true,true,true,true,true,true,true,true,true,true,true,true,true,false,true,false,true,false,false,false,false,false,false,false,false,false,false,false,false,false,false,false,false] rfl rfl (any_of HT_.out (by kernel_rfl)) (fun _ _ _ h => h) (Or.inl ⟨by rfl,?_⟩) ?_ ?_
            rotate_left
            ·intro w'
             go_simp
             with_reducible rfl
            rotate_left
            ·simp only [Act.put,List.setIfInBounds_toArray,List.set_cons_zero,List.set_cons_succ,i64_w,i32_w]
             rfl
            refine pure_ (i := 21) (N := some 217) (v := ?_) (a' := ?_) #[true,true,true,true,true,true,true,true,true,true,true,true,true,true,false,true,false,true,false,false,false,true,false,false,false,false,false,false,false,false,false,false,false,false] rfl rfl (any_of HT_.out (by kernel_rfl)) (fun _ _ _ h => h) (Or.inl ⟨by rfl,?_⟩) ?_ ?_
            rotate_left
            ·intro w'
             go_simp
             with_reducible rfl
            rotate_left
            ·simp only [Act.put,List.setIfInBounds_toArray,List.set_cons_zero,List.set_cons_succ,i64_w,i32_w]
             rfl
            refine pure_ (i := 25) (N := some 221) (v := ?_) (a' := ?_) #[true,true,true,true,true,true,true,true,true,true,true,true,true,true,false,true,false,true,false,false,false,true,false,false,false,true,false,false,false,false,false,false,false,false] rfl rfl (any_of HT_.out (by kernel_rfl)) (fun _ _ _ h => h) (Or.inl ⟨by rfl,?_⟩) ?_ ?_
            rotate_left
            ·intro w'
             go_simp
             with_reducible rfl
            rotate_left
            ·simp only [Act.put,List.setIfInBounds_toArray,List.set_cons_zero,List.set_cons_succ,i64_w,i32_w]
             rfl
            refine pure_ (i := 26) (N := some 222) (v := ?_) (a' := ?_) #[true,true,true,true,true,true,true,true,true,true,true,true,true,true,false,true,false,true,false,false,false,true,false,false,false,true,true,false,false,false,false,false,false,false] rfl rfl (any_of HT_.out (by kernel_rfl)) (fun _ _ _ h => h) (Or.inl ⟨by rfl,?_⟩) ?_ ?_
            rotate_left
            ·intro w'
             go_simp
             with_reducible rfl
            rotate_left
            ·simp only [Act.put,List.setIfInBounds_toArray,List.set_cons_zero,List.set_cons_succ,i64_w,i32_w]
             rfl
            refine pure_ (i := 27) (N := some 223) (v := ?_) (a' := ?_) #[true,true,true,true,true,true,true,true,true,true,true,true,true,true,false,true,false,true,false,false,false,true,false,false,false,true,true,true,false,false,false,false,false,false] rfl rfl (any_of HT_.out (by kernel_rfl)) (fun _ _ _ h => h) (Or.inl ⟨by rfl,?_⟩) ?_ ?_
            rotate_left
            ·intro w'
             go_simp
             with_reducible rfl
            rotate_left
            ·simp only [Act.put,List.setIfInBounds_toArray,List.set_cons_zero,List.set_cons_succ,i64_w,i32_w]
             rfl
            refine pure_ (i := 28) (N := some 224) (v := ?_) (a' := ?_) #[true,true,true,true,true,true,true,true,true,true,true,true,true,true,false,true,false,true,false,false,false,true,false,false,false,true,true,true,true,false,false,false,false,false] rfl rfl (any_of HT_.out (by kernel_rfl)) (fun _ _ _ h => h) (Or.inl ⟨by rfl,?_⟩) ?_ ?_
            rotate_left
            ·intro w'
             go_simp
             with_reducible rfl
            rotate_left
            ·simp only [Act.put,List.setIfInBounds_toArray,List.set_cons_zero,List.set_cons_succ,i64_w,i32_w]
             rfl
            refine pure_ (i := 29) (N := some 225) (v := ?_) (a' := ?_) #[true,true,true,true,true,true,true,true,true,true,true,true,true,true,false,true,false,true,false,false,false,true,false,false,false,true,true,true,true,true,false,false,false,false] rfl rfl (any_of HT_.out (by kernel_rfl)) (fun _ _ _ h => h) (Or.inl ⟨by rfl,?_⟩) ?_ ?_
            rotate_left
            ·intro w'
             go_simp
             with_reducible rfl
            rotate_left
            ·simp only [Act.put,List.setIfInBounds_toArray,List.set_cons_zero,List.set_cons_succ,i64_w,i32_w]
             rfl
            refine take_ (i := 14) (N := some 210) (v := ?_) (a' := ?_) #[true,true,true,true,true,true,true,true,true,true,true,true,true,true,true,true,false,true,false,false,false,true,false,false,false,true,true,true,true,true,false,false,false,false] rfl rfl (take_ofW HT_.out HW_.out (by kernel_rfl)) (fun _ _ _ h => h) (Or.inl ⟨by rfl,?_⟩) hHeld ?_ ?_
            rotate_left
            ·rintro w' ⟨s0,s1,s2,s3,s4,s5,s6,s7⟩
             go_simp
             with_reducible rfl
            rotate_left
            ·simp only [Act.put,List.setIfInBounds_toArray,List.set_cons_zero,List.set_cons_succ,i64_w,i32_w]
             rfl
            refine take_ (i := 16) (N := some 212) (v := ?_) (a' := ?_) #[true,true,true,true,true,true,true,true,true,true,true,true,true,true,true,true,true,true,false,false,false,true,false,false,false,true,true,true,true,true,false,false,false,false] rfl rfl (take_ofW HT_.out HW_.out (by kernel_rfl)) (fun _ _ _ h => h) (Or.inl ⟨by rfl,?_⟩) hHeld ?_ ?_
            rotate_left
            ·rintro w' ⟨s0,s1,s2,s3,s4,s5,s6,s7⟩
             go_simp
             with_reducible rfl
            rotate_left
            ·simp only [Act.put,List.setIfInBounds_toArray,List.set_cons_zero,List.set_cons_succ,i64_w,i32_w]
             rfl
            refine take_ (i := 18) (N := some 214) (v := ?_) (a' := ?_) #[true,true,true,true,true,true,true,true,true,true,true,true,true,true,true,true,true,true,true,false,false,true,false,false,false,true,true,true,true,true,false,false,false,false] rfl rfl (take_ofW HT_.out HW_.out (by kernel_rfl)) (fun _ _ _ h => h) (Or.inl ⟨by rfl,?_⟩) hHeld ?_ ?_
            rotate_left
            ·rintro w' ⟨s0,s1,s2,s3,s4,s5,s6,s7⟩
             go_simp
             with_reducible rfl
            rotate_left
            ·simp only [Act.put,List.setIfInBounds_toArray,List.set_cons_zero,List.set_cons_succ,i64_w,i32_w]
             rfl
            refine pure_ (i := 19) (N := some 215) (v := ?_) (a' := ?_) #[true,true,true,true,true,true,true,true,true,true,true,true,true,true,true,true,true,true,true,true,false,true,false,false,false,true,true,true,true,true,false,false,false,false] rfl rfl (any_of HT_.out (by kernel_rfl)) (fun _ _ _ h => h) (Or.inl ⟨by rfl,?_⟩) ?_ ?_
            rotate_left
            ·intro w'
             go_simp
             with_reducible rfl
            rotate_left
            ·simp only [Act.put,List.setIfInBounds_toArray,List.set_cons_zero,List.set_cons_succ,i64_w,i32_w]
             rfl
            refine pure_ (i := 20) (N := some 216) (v := ?_) (a' := ?_) #[true,true,true,true,true,true,true,true,true,true,true,true,true,true,true,true,true,true,true,true,true,true,false,false,false,true,true,true,true,true,false,false,false,false] rfl rfl (any_of HT_.out (by kernel_rfl)) (fun _ _ _ h => h) (Or.inl ⟨by rfl,?_⟩) ?_ ?_
            rotate_left
            ·intro w'
             go_simp
             with_reducible rfl
            rotate_left
            ·simp only [Act.put,List.setIfInBounds_toArray,List.set_cons_zero,List.set_cons_succ,i64_w,i32_w]
             rfl
            refine take_ (i := 22) (N := some 218) (v := ?_) (a' := ?_) #[true,true,true,true,true,true,true,true,true,true,true,true,true,true,true,true,true,true,true,true,true,true,true,false,false,true,true,true,true,true,false,false,false,false] rfl rfl (take_ofW HT_.out HW_.out (by kernel_rfl)) (fun _ _ _ h => h) (Or.inl ⟨by rfl,?_⟩) hHeld ?_ ?_
            rotate_left
            ·rintro w' ⟨s0,s1,s2,s3,s4,s5,s6,s7⟩
             go_simp
             with_reducible rfl
            rotate_left
            ·simp only [Act.put,List.setIfInBounds_toArray,List.set_cons_zero,List.set_cons_succ,i64_w,i32_w]
             rfl
            refine take_ (i := 30) (N := some 226) (v := ?_) (a' := ?_) #[true,true,true,true,true,true,true,true,true,true,true,true,true,true,true,true,true,true,true,true,true,true,true,false,false,true,true,true,true,true,true,false,false,false] rfl rfl (take_ofW HT_.out HW_.out (by kernel_rfl)) (fun _ _ _ h => h) (Or.inl ⟨by rfl,?_⟩) hHeld ?_ ?_
            rotate_left
            ·rintro w' ⟨s0,s1,s2,s3,s4,s5,s6,s7⟩
             go_simp
             with_reducible rfl
            rotate_left
            ·simp only [Act.put,List.setIfInBounds_toArray,List.set_cons_zero,List.set_cons_succ,i64_w,i32_w]
             rfl
            refine one_ (i := 23) (N := some 219) #[true,true,true,true,true,true,true,true,true,true,true,true,true,true,true,true,true,true,true,true,true,true,true,true,false,true,true,true,true,true,true,false,false,false] rfl rfl (one_of HT_.out (by kernel_rfl)) (by decide) (fun K hK => ?_)
            refine goes_ Tryd.func14 (by kernel_rfl) rfl #[.string a0_0,.string a0_1,.int .i64 (wrap64 ((a0_1.size : Int) + 7)),.int .i64 a0_3] (by rfl) rfl rfl au1 ?_
            with_reducible refine (layout_Lay.calls a0_0 a0_1 (wrap64 ((a0_1.size : Int) + 7)) a0_3 t281 t282 t285 t286 _ ?side1 A100.out).mono ?_
            (case side1 => exact tabs_below HT.out au2)
            rintro e w106 ⟨v283,rfl,ho0,hb⟩
            have HS4_ := (hb.cell (World.block_lt_of_cell? _ _ (hHeld.2.2.2.2.1))).trans (hHeld.2.2.2.2.1)
            have HS5_ := (hb.cell (World.block_lt_of_cell? _ _ (hHeld.2.2.2.2.2.1))).trans (hHeld.2.2.2.2.2.1)
            have HS6_ := (hb.cell (World.block_lt_of_cell? _ _ (hHeld.2.2.2.2.2.2.1))).trans (hHeld.2.2.2.2.2.2.1)
            have HS7_ := (hb.cell (World.block_lt_of_cell? _ _ (hHeld.2.2.2.2.2.2.2))).trans (hHeld.2.2.2.2.2.2.2)
            refine ⟨_,rfl,?_⟩
            have n0_ := Aside0.mk (Kd.R_below au11 hb)
            have n1_ := Aside0.mk (Kd.S_elder' (by (with_reducible repeat (first | apply Kd.S_alloc | apply Kd.S_drewN | apply Kd.S_drew));exact HO277.out) (Kd.S_base ho0) hb)
            have n2_ := Aside0.mk (Kd.S_lower (Kd.S_new' ho0 (Kd.S_lt (by (with_reducible repeat (first | apply Kd.S_alloc | apply Kd.S_drewN | apply Kd.S_drew));exact HO277.out))) (below_size au2))
            have n3_ := Aside0.mk (blk_below (g := gb238) (o := .cells #[.string a0_0,.string a0_1,.int .i64 a0_2,.int .i64 a0_3] 23 (0,0)) au8 hb)
            have n4_ := Aside0.mk (below_step au2 hb)
            clear HO_3
            clear HO277
            clear BK238
            clear HB
            have HO_3 := n0_
            have HO277 := n1_
            have HO284 := n2_
            have BK238 := n3_
            have HB := n4_
            clear n0_ n1_ n2_ n3_ n4_
            (try clear hb)
            (try clear hb2)
            (try clear hk)
            (try clear hi)
            (try clear ho0)
            refine hK.out _ _ ⟨(blk_cell BK238.out 0).trans rfl,(blk_cell BK238.out 1).trans rfl,(blk_cell BK238.out 2).trans rfl,(blk_cell BK238.out 3).trans rfl,HS4_,HS5_,HS6_,HS7_⟩ (fun hHeld => ?_)
            clear hK K
            refine norm_ (a' := ?_) ?_ ?_
            rotate_left
            ·show Act.put _ (some 219) _ = _
             simp only [Act.put,List.setIfInBounds_toArray,List.set_cons_zero,List.set_cons_succ,i64_w,i32_w]
             rfl
            refine pure_ (i := 24) (N := some 220) (v := ?_) (a' := ?_) #[true,true,true,true,true,true,true,true,true,true,true,true,true,true,true,true,true,true,true,true,true,true,true,true,true,true,true,true,true,true,true,false,false,false] rfl rfl (any_of HT_.out (by kernel_rfl)) (fun _ _ _ h => h) (Or.inl ⟨by rfl,?_⟩) ?_ ?_
            rotate_left
            ·intro w'
             go_simp
             with_reducible rfl
            rotate_left
            ·simp only [Act.put,List.setIfInBounds_toArray,List.set_cons_zero,List.set_cons_succ,i64_w,i32_w]
             rfl
            refine pure_ (i := 31) (N := some 227) (v := ?_) (a' := ?_) #[true,true,true,true,true,true,true,true,true,true,true,true,true,true,true,true,true,true,true,true,true,true,true,true,true,true,true,true,true,true,true,true,false,false] rfl rfl (any_of HT_.out (by kernel_rfl)) (fun _ _ _ h => h) (Or.inl ⟨by rfl,?_⟩) ?_ ?_
            rotate_left
            ·intro w'
             go_simp
             with_reducible rfl
            rotate_left
            ·simp only [Act.put,List.setIfInBounds_toArray,List.set_cons_zero,List.set_cons_succ,i64_w,i32_w]
             rfl
            refine pure_ (i := 32) (N := some 228) (v := ?_) (a' := ?_) #[true,true,true,true,true,true,true,true,true,true,true,true,true,true,true,true,true,true,true,true,true,true,true,true,true,true,true,true,true,true,true,true,true,false] rfl rfl (any_of HT_.out (by kernel_rfl)) (fun _ _ _ h => h) (Or.inl ⟨by rfl,?_⟩) ?_ ?_
            rotate_left
            ·intro w'
             go_simp
             with_reducible rfl
            rotate_left
            ·simp only [Act.put,List.setIfInBounds_toArray,List.set_cons_zero,List.set_cons_succ,i64_w,i32_w]
             rfl
            refine pure_ (i := 33) (N := some 2) (v := ?_) (a' := ?_) #[true,true,true,true,true,true,true,true,true,true,true,true,true,true,true,true,true,true,true,true,true,true,true,true,true,true,true,true,true,true,true,true,true,true] rfl rfl (any_of HT_.out (by kernel_rfl)) (fun _ _ _ h => h) (Or.inl ⟨by rfl,?_⟩) ?_ ?_
            rotate_left
            ·intro w'
             go_simp
             with_reducible rfl
            rotate_left
            ·simp only [Act.put,List.setIfInBounds_toArray,List.set_cons_zero,List.set_cons_succ,i64_w,i32_w]
             rfl
            refine done_ (done_of HT_.out (by kernel_rfl)) ?_
            try go_wp2
            go_ret
            exact ⟨by first | rfl | (simp [errW_none,errW_some] <;> rfl) | (simp only [← hji101];first | rfl | (simp [errW_none,errW_some] <;> rfl)) | (simp [*,errW_none,errW_some] <;> rfl),by repeat (first | (with_reducible first | exact HB.out | apply below_alloc | apply pw_below_drewN | apply below_drew1 | refine below_set ?_ GE238.out) | exact HB.out)⟩
           ·rw [if_neg c103] at H
            exact absurd H (by simp)
          ·rw [if_neg c102] at H
           exact absurd H (by simp)
         ·rw [if_neg c99] at H
          have c99b0 : (t278 == ((rd_T27 t240 0).f0) && (t279 == ((rd_T27 t240 0).f1))) = false := by simpa using c99
          (try (have c99b1 : decide (t278 = ((rd_T27 t240 0).f0) && (t279 == ((rd_T27 t240 0).f1))) = false := by simpa using c99))
          (try (have c99b2 : (t278 == ((rd_T27 t240 0).f0) && (t279 == ((rd_T27 t240 0).f1))) = false := by simpa using c99))
          (try (have c99b3 : ¬ (t278 = ((rd_T27 t240 0).f0) && (t279 == ((rd_T27 t240 0).f1))) := by simpa using c99))
          clear c99
          obtain rfl := Option.some.inj H
          cases hr_
        ·rw [if_neg c98] at H
         exact absurd H (by simp)
 ·replace c3 := Bool.eq_false_iff.mpr c3
  subst c3
  have H1 : (some false) = some r := by rw [if_neg (show ¬ (false = true) by decide)] at H;exact H
  clear H
  have H := H1
  clear H1
  obtain rfl := Option.some.inj H
  cases hr_
end Go.Proofs.YtnpjaaldppemlaaDoor.U
end
