/- What the law LayoutLines reaches of this seat's own texts, merged; what nothing uses is left out. -/
import Derived.Test.YtnpjaaldppemlaaDoorZLayoutLines0
import Derived.Test.YtnpjaaldppemlaaDoorZLayoutLines1
import Derived.Test.YtnpjaaldppemlaaDoorZLayoutLines2
import Derived.Test.YtnpjaaldppemlaaDoorZLayoutLines5
import Derived.Test.YtnpjaaldppemlaaDoorZLayoutLines7
import Derived.Test.YtnpjaaldppemlaaDoorZLayoutLines8
section
namespace Go.Proofs.YtnpjaaldppemlaaDoor.U
open Go.RowKit Go.Proofs.YtnpjaaldppemlaaDoorW.PrintWords Go.Proofs.YtnpjaaldppemlaaDoorW.PrintLast Go.Proofs.YtnpjaaldppemlaaDoorW.PrintMore
attribute [local go_sem] max2_int min2_int max_two min_two max_three min_three max_four min_four   -- for this text's walks alone
set_option linter.unusedVariables false
set_option linter.unusedSimpArgs false
attribute [local go_sem high] eqA27
def bodkinlaw20_LayoutLines.j0 : Nat → Bool → ByteArray → ByteArray → Int → Int → Int → List (List (S35)) → Int → Int → Int → List (List (S35)) → Int → Int → Int → List (List (S35)) → Int → Int → Option (Bool)
 | 0,_,_,_,_,_,_,_,_,_,_,_,_,_,_,_,_,_ => none
 | k + 1,x48,x313000,x313001,x313002,x313003,x321000,x321001,x321002,x321003,x328000,x328001,x328002,x328003,x335000,x335001,x335002,x335003 => if x48 = true then (some true) else (if (x321001.length : Int) = (wrap64 ((x328001.length : Int) + (x335001.length : Int))) then (if x313002 ≤ (x313001.size : Int) then (if (!(x321002 == x328002) || (!(x321003 == x328003))) = true then (some false) else (if x328001.length + x335001.length < 5864062014805 then ((layout_Same.f k x321000 x321001 x321002 x321003 x328000 (x328001 ++ x335001) x321002 x321003).bind fun t338 => (some t338)) else (none))) else (if x328001.length + x335001.length < 5864062014805 then ((layout_Same.f k x321000 x321001 x321002 x321003 x328000 (x328001 ++ x335001) x321002 x321003).bind fun t342 => (some t342)) else (none))) else (some false))
def bodkinlaw20_LayoutLines.f (k : Nat) (a0_0 : ByteArray) (a0_1 : ByteArray) (a0_2 : Int) (a0_3 : Int) (a1 : ByteArray) : Option (Bool) := (bodkinlaw20_awake.f k).bind fun t313 => (if t313 = true then (if a0_1.size + 1 ≤ 9223372036854775807 then (if (a0_1 ++ (⟨#[10]⟩ : ByteArray)).size + a1.size ≤ 9223372036854775807 then ((layout_Lay.f a0_0 ((a0_1 ++ (⟨#[10]⟩ : ByteArray)) ++ a1) a0_2 a0_3).bind fun bt314 => ((layout_Lay.f a0_0 a0_1 a0_2 a0_3).bind fun bt321 => ((layout_Lay.f (⟨#[]⟩ : ByteArray) a1 0 a0_3).bind fun bt328 => (if (a0_1.size : Int) > 0 then (if 0 ≤ (wrap64 ((a0_1.size : Int) - 1)) then (if (wrap64 ((a0_1.size : Int) - 1)) < (a0_1.size : Int) then (bodkinlaw20_LayoutLines.j0 k ((bt a0_1 (wrap64 ((a0_1.size : Int) - 1))) == 13) a0_0 a0_1 a0_2 a0_3 bt314.1 bt314.2.1 bt314.2.2.1 bt314.2.2.2 bt321.1 bt321.2.1 bt321.2.2.1 bt321.2.2.2 bt328.1 bt328.2.1 bt328.2.2.1 bt328.2.2.2) else (none)) else (none)) else (bodkinlaw20_LayoutLines.j0 k false a0_0 a0_1 a0_2 a0_3 bt314.1 bt314.2.1 bt314.2.2.1 bt314.2.2.2 bt321.1 bt321.2.1 bt321.2.2.1 bt321.2.2.2 bt328.1 bt328.2.1 bt328.2.2.1 bt328.2.2.2))))) else (none)) else (none)) else (some false))
set_option maxHeartbeats 8000000 in
set_option maxRecDepth 100000 in
theorem bodkinlaw20_LayoutLines.calls (k : Nat) (a0_0 : ByteArray) (a0_1 : ByteArray) (a0_2 : Int) (a0_3 : Int) (a1 : ByteArray) (r : Bool) (hr_ : r = true) (w : World) (hT : Lib.Utf8Tabs 0 1 w) (h : bodkinlaw20_LayoutLines.f k a0_0 a0_1 a0_2 a0_3 a1 = some r) :
  Calls Tryd.prog 10 #[.agg #[.string a0_0,.string a0_1,.int .i64 a0_2,.int .i64 a0_3],.string a1] w fun e w' => e = .returned (.bool r) ∧ Below w.heap.size w w' := by
 have hu23 := Tryd.underlying23
 have hu29 := Tryd.underlying29
 have hu27 := Tryd.underlying27
 have HT := Aside0.mk hT
 clear hT
 have HB := Aside0.mk (Below.refl w.heap.size w)
 have H : ((bodkinlaw20_awake.f k).bind fun t313 => (if t313 = true then (if a0_1.size + 1 ≤ 9223372036854775807 then (if (a0_1 ++ (⟨#[10]⟩ : ByteArray)).size + a1.size ≤ 9223372036854775807 then ((layout_Lay.f a0_0 ((a0_1 ++ (⟨#[10]⟩ : ByteArray)) ++ a1) a0_2 a0_3).bind fun bt314 => ((layout_Lay.f a0_0 a0_1 a0_2 a0_3).bind fun bt321 => ((layout_Lay.f (⟨#[]⟩ : ByteArray) a1 0 a0_3).bind fun bt328 => (if (a0_1.size : Int) > 0 then (if 0 ≤ (wrap64 ((a0_1.size : Int) - 1)) then (if (wrap64 ((a0_1.size : Int) - 1)) < (a0_1.size : Int) then (bodkinlaw20_LayoutLines.j0 k ((bt a0_1 (wrap64 ((a0_1.size : Int) - 1))) == 13) a0_0 a0_1 a0_2 a0_3 bt314.1 bt314.2.1 bt314.2.2.1 bt314.2.2.2 bt321.1 bt321.2.1 bt321.2.2.1 bt321.2.2.2 bt328.1 bt328.2.1 bt328.2.2.1 bt328.2.2.2) else (none)) else (none)) else (bodkinlaw20_LayoutLines.j0 k false a0_0 a0_1 a0_2 a0_3 bt314.1 bt314.2.1 bt314.2.2.1 bt314.2.2.2 bt321.1 bt321.2.1 bt321.2.2.1 bt321.2.2.2 bt328.1 bt328.2.1 bt328.2.2.1 bt328.2.2.2))))) else (none)) else (none)) else (some false))) = some r := h
 clear h
 replace H := Option.bind_eq_some_iff.mp H
 obtain ⟨t313,A30,H⟩ := H
 replace H : (if t313 = true then (if a0_1.size + 1 ≤ 9223372036854775807 then (if (a0_1 ++ (⟨#[10]⟩ : ByteArray)).size + a1.size ≤ 9223372036854775807 then ((layout_Lay.f a0_0 ((a0_1 ++ (⟨#[10]⟩ : ByteArray)) ++ a1) a0_2 a0_3).bind fun bt314 => ((layout_Lay.f a0_0 a0_1 a0_2 a0_3).bind fun bt321 => ((layout_Lay.f (⟨#[]⟩ : ByteArray) a1 0 a0_3).bind fun bt328 => (if (a0_1.size : Int) > 0 then (if 0 ≤ (wrap64 ((a0_1.size : Int) - 1)) then (if (wrap64 ((a0_1.size : Int) - 1)) < (a0_1.size : Int) then (bodkinlaw20_LayoutLines.j0 k ((bt a0_1 (wrap64 ((a0_1.size : Int) - 1))) == 13) a0_0 a0_1 a0_2 a0_3 bt314.1 bt314.2.1 bt314.2.2.1 bt314.2.2.2 bt321.1 bt321.2.1 bt321.2.2.1 bt321.2.2.2 bt328.1 bt328.2.1 bt328.2.2.1 bt328.2.2.2) else (none)) else (none)) else (bodkinlaw20_LayoutLines.j0 k false a0_0 a0_1 a0_2 a0_3 bt314.1 bt314.2.1 bt314.2.2.1 bt314.2.2.2 bt321.1 bt321.2.1 bt321.2.2.1 bt321.2.2.2 bt328.1 bt328.2.1 bt328.2.2.1 bt328.2.2.2))))) else (none)) else (none)) else (some false)) = some r := H
 have A3 := Aside0.mk A30
 clear A30
 by_cases c4 : t313 = true
 ·subst c4
  have H1 : (if a0_1.size + 1 ≤ 9223372036854775807 then (if (a0_1 ++ (⟨#[10]⟩ : ByteArray)).size + a1.size ≤ 9223372036854775807 then ((layout_Lay.f a0_0 ((a0_1 ++ (⟨#[10]⟩ : ByteArray)) ++ a1) a0_2 a0_3).bind fun bt314 => ((layout_Lay.f a0_0 a0_1 a0_2 a0_3).bind fun bt321 => ((layout_Lay.f (⟨#[]⟩ : ByteArray) a1 0 a0_3).bind fun bt328 => (if (a0_1.size : Int) > 0 then (if 0 ≤ (wrap64 ((a0_1.size : Int) - 1)) then (if (wrap64 ((a0_1.size : Int) - 1)) < (a0_1.size : Int) then (bodkinlaw20_LayoutLines.j0 k ((bt a0_1 (wrap64 ((a0_1.size : Int) - 1))) == 13) a0_0 a0_1 a0_2 a0_3 bt314.1 bt314.2.1 bt314.2.2.1 bt314.2.2.2 bt321.1 bt321.2.1 bt321.2.2.1 bt321.2.2.2 bt328.1 bt328.2.1 bt328.2.2.1 bt328.2.2.2) else (none)) else (none)) else (bodkinlaw20_LayoutLines.j0 k false a0_0 a0_1 a0_2 a0_3 bt314.1 bt314.2.1 bt314.2.2.1 bt314.2.2.2 bt321.1 bt321.2.1 bt321.2.2.1 bt321.2.2.2 bt328.1 bt328.2.1 bt328.2.2.1 bt328.2.2.2))))) else (none)) else (none)) = some r := by rw [if_pos rfl] at H;exact H
  clear H
  have H := H1
  clear H1
  by_cases c5 : a0_1.size + 1 ≤ 9223372036854775807
  ·rw [if_pos c5] at H
   have c5b0 := eq_true c5
   have c5b1 : decide (a0_1.size + 1 ≤ 9223372036854775807) = true := decide_eq_true c5
   try have c5b2 : (9223372036854775807 < a0_1.size + 1) = False := eq_false (Nat.not_lt.2 c5)
   by_cases c6 : (a0_1 ++ (⟨#[10]⟩ : ByteArray)).size + a1.size ≤ 9223372036854775807
   ·rw [if_pos c6] at H
    have c6b0 := eq_true c6
    have c6b1 : decide ((a0_1 ++ (⟨#[10]⟩ : ByteArray)).size + a1.size ≤ 9223372036854775807) = true := decide_eq_true c6
    try have c6b2 : (9223372036854775807 < (a0_1 ++ (⟨#[10]⟩ : ByteArray)).size + a1.size) = False := eq_false (Nat.not_lt.2 c6)
    replace H := Option.bind_eq_some_iff.mp H
    obtain ⟨⟨t314,t315,t318,t319⟩,A70,H⟩ := H
    replace H : ((layout_Lay.f a0_0 a0_1 a0_2 a0_3).bind fun bt321 => ((layout_Lay.f (⟨#[]⟩ : ByteArray) a1 0 a0_3).bind fun bt328 => (if (a0_1.size : Int) > 0 then (if 0 ≤ (wrap64 ((a0_1.size : Int) - 1)) then (if (wrap64 ((a0_1.size : Int) - 1)) < (a0_1.size : Int) then (bodkinlaw20_LayoutLines.j0 k ((bt a0_1 (wrap64 ((a0_1.size : Int) - 1))) == 13) a0_0 a0_1 a0_2 a0_3 t314 t315 t318 t319 bt321.1 bt321.2.1 bt321.2.2.1 bt321.2.2.2 bt328.1 bt328.2.1 bt328.2.2.1 bt328.2.2.2) else (none)) else (none)) else (bodkinlaw20_LayoutLines.j0 k false a0_0 a0_1 a0_2 a0_3 t314 t315 t318 t319 bt321.1 bt321.2.1 bt321.2.2.1 bt321.2.2.2 bt328.1 bt328.2.1 bt328.2.2.1 bt328.2.2.2)))) = some r := H
    have A7 := Aside0.mk A70
    clear A70
    replace H := Option.bind_eq_some_iff.mp H
    obtain ⟨⟨t321,t322,t325,t326⟩,A80,H⟩ := H
    replace H : ((layout_Lay.f (⟨#[]⟩ : ByteArray) a1 0 a0_3).bind fun bt328 => (if (a0_1.size : Int) > 0 then (if 0 ≤ (wrap64 ((a0_1.size : Int) - 1)) then (if (wrap64 ((a0_1.size : Int) - 1)) < (a0_1.size : Int) then (bodkinlaw20_LayoutLines.j0 k ((bt a0_1 (wrap64 ((a0_1.size : Int) - 1))) == 13) a0_0 a0_1 a0_2 a0_3 t314 t315 t318 t319 t321 t322 t325 t326 bt328.1 bt328.2.1 bt328.2.2.1 bt328.2.2.2) else (none)) else (none)) else (bodkinlaw20_LayoutLines.j0 k false a0_0 a0_1 a0_2 a0_3 t314 t315 t318 t319 t321 t322 t325 t326 bt328.1 bt328.2.1 bt328.2.2.1 bt328.2.2.2))) = some r := H
    have A8 := Aside0.mk A80
    clear A80
    replace H := Option.bind_eq_some_iff.mp H
    obtain ⟨⟨t328,t329,t332,t333⟩,A90,H⟩ := H
    replace H : (if (a0_1.size : Int) > 0 then (if 0 ≤ (wrap64 ((a0_1.size : Int) - 1)) then (if (wrap64 ((a0_1.size : Int) - 1)) < (a0_1.size : Int) then (bodkinlaw20_LayoutLines.j0 k ((bt a0_1 (wrap64 ((a0_1.size : Int) - 1))) == 13) a0_0 a0_1 a0_2 a0_3 t314 t315 t318 t319 t321 t322 t325 t326 t328 t329 t332 t333) else (none)) else (none)) else (bodkinlaw20_LayoutLines.j0 k false a0_0 a0_1 a0_2 a0_3 t314 t315 t318 t319 t321 t322 t325 t326 t328 t329 t332 t333)) = some r := H
    have A9 := Aside0.mk A90
    clear A90
    have HC10 := Aside0.mk H
    clear H
    go_enter Tryd.func10,Tryd.ntmps10
    go_upto_region 6 with (first | ((with_reducible refine gate_dst (N := 2) rfl ?_);(try (refine gate_guard (by rfl) ?_;dsimp only));refine box_event ?hg (N := 2) ?hd (cs := #[.string a0_0,.string a0_1,.int .i64 a0_2,.int .i64 a0_3]) (t := 23) ?hr ?_;(case hd => rfl);(case hg => rfl);(case hr => first | (go_simp;done) | (go_simp;rfl));intro gb312 hg w11 hbox hb;have n0_ := Aside0.mk (below_step au0 hb);have n1_ := Aside0.mk (hbox);have n2_ := Aside0.mk ((by rw [hg];exact (below_size au0) : w.heap.size ≤ gb312));have n3_ := Aside0.mk ((by rw [hg];exact (below_size au0) : w.heap.size ≤ gb312));clear HB;have HB := n0_;have BK312 := n1_;have GW312 := n2_;have GE312 := n3_;clear n0_ n1_ n2_ n3_;clear hb hbox hg) | ((with_reducible refine gate_callee (f := 12) rfl ?_);refine goesL_ (some 8) rfl rfl Tryd.func12 (by kernel_rfl) rfl #[] rfl au1 ?_;(with_reducible refine (bodkinlaw20_awake.calls k true rfl _ ?side1 A3.out).mono ?_);(case side1 => exact tabs_below HT.out au10);rintro e w12 ⟨rfl,hb⟩;refine ⟨_,rfl,?_⟩;have n0_ := Aside0.mk (blk_below (g := gb312) (o := .cells #[.string a0_0,.string a0_1,.int .i64 a0_2,.int .i64 a0_3] 23 (0,0)) au7 hb);have n1_ := Aside0.mk (below_step au10 hb);clear BK312;clear HB;have BK312 := n0_;have HB := n1_;clear n0_ n1_;(try clear hb);(try clear hb2);(try clear hk);(try clear hi);have hcz13_0 : w12.cell? ⟨gb312,0,none⟩ = some (.string a0_0) := (blk_cell BK312.out 0).trans rfl;have hcz13_1 : w12.cell? ⟨gb312,1,none⟩ = some (.string a0_1) := (blk_cell BK312.out 1).trans rfl;have hcz13_2 : w12.cell? ⟨gb312,2,none⟩ = some (.int .i64 a0_2) := (blk_cell BK312.out 2).trans rfl;have hcz13_3 : w12.cell? ⟨gb312,3,none⟩ = some (.int .i64 a0_3) := (blk_cell BK312.out 3).trans rfl;have hfz13_0 := blk_frozen BK312.out 0;have hfz13_1 := blk_frozen BK312.out 1;have hfz13_2 := blk_frozen BK312.out 2;have hfz13_3 := blk_frozen BK312.out 3) | ((with_reducible refine gate_callee (f := 14) rfl ?_);refine goesL_ (some 21) rfl rfl Tryd.func14 (by kernel_rfl) rfl #[.string a0_0,.string ((a0_1 ++ (⟨#[10]⟩ : ByteArray)) ++ a1),.int .i64 a0_2,.int .i64 a0_3] rfl au1 ?_;(with_reducible refine (layout_Lay.calls a0_0 ((a0_1 ++ (⟨#[10]⟩ : ByteArray)) ++ a1) a0_2 a0_3 t314 t315 t318 t319 _ ?side1 A7.out).mono ?_);(case side1 => exact tabs_below HT.out au10);rintro e w14 ⟨v316,rfl,ho0,hb⟩;refine ⟨_,rfl,?_⟩;have n0_ := Aside0.mk (Kd.N_lower (Kd.N_mono (ok' := fun k_ => k_ ≠ gb312) (Kd.S_N (Kd.S_bound ho0)) (fun k_ hk_ => (Kd.freshB (g := gb312) (o := .cells #[.string a0_0,.string a0_1,.int .i64 a0_2,.int .i64 a0_3] 23 (0,0)) au7 k_ hk_.2.1))) (below_size au10));have n1_ := Aside0.mk (blk_below (g := gb312) (o := .cells #[.string a0_0,.string a0_1,.int .i64 a0_2,.int .i64 a0_3] 23 (0,0)) au7 hb);have n2_ := Aside0.mk (below_step au10 hb);clear BK312;clear HB;have HO317 := n0_;have BK312 := n1_;have HB := n2_;clear n0_ n1_ n2_;(try clear hb);(try clear hb2);(try clear hk);(try clear hi);(try clear ho0)) | ((with_reducible refine gate_dst (N := 5) rfl ?_);(try (refine gate_guard (by rfl) ?_;dsimp only));refine box_event ?hg (N := 5) ?hd (cs := #[.int .i64 0,.slice none 0 0,.int .i64 0,.int .i64 0]) (t := 29) ?hr ?_;(case hd => rfl);(case hg => rfl);(case hr => first | (go_simp;done) | (go_simp;rfl));intro gb320 hg w15 hbox hb;have n0_ := Aside0.mk (Kd.N_below (Kd.N_elderB (by (with_reducible repeat (first | apply Kd.N_alloc | apply Kd.N_drewN | apply Kd.N_drew));exact HO317.out) gb320 (Nat.le_of_eq hg.symm)) hb);have n1_ := Aside0.mk (blk_below (g := gb312) (o := .cells #[.string a0_0,.string a0_1,.int .i64 a0_2,.int .i64 a0_3] 23 (0,0)) au7 hb);have n2_ := Aside0.mk (below_step au10 hb);have n3_ := Aside0.mk (hbox);have n4_ := Aside0.mk ((by rw [hg];exact (below_size au10) : w.heap.size ≤ gb320));have n5_ := Aside0.mk ((by rw [hg];exact (below_size au10) : w.heap.size ≤ gb320));have n6_ := Aside0.mk ((by rw [hg];exact Nat.ne_of_lt (blk_lt (g := gb312) (o := .cells #[.string a0_0,.string a0_1,.int .i64 a0_2,.int .i64 a0_3] 23 (0,0)) au7) : gb312 ≠ gb320));have n7_ := Aside0.mk ((by rw [hg];exact Nat.ne_of_gt (blk_lt (g := gb312) (o := .cells #[.string a0_0,.string a0_1,.int .i64 a0_2,.int .i64 a0_3] 23 (0,0)) au7) : gb320 ≠ gb312));clear HO317;clear BK312;clear HB;have HO317 := n0_;have BK312 := n1_;have HB := n2_;have BK320 := n3_;have GW320 := n4_;have GE320 := n5_;have NB312_320 := n6_;have NB320_312 := n7_;clear n0_ n1_ n2_ n3_ n4_ n5_ n6_ n7_;clear hb hbox hg;have hnb16 := NB320_312.out;have hnc16 := NB312_320.out;have hcz17_0 : w15.cell? ⟨gb320,0,none⟩ = some (.int .i64 0) := (blk_cell BK320.out 0).trans rfl;have hcz17_1 : w15.cell? ⟨gb320,1,none⟩ = some (.slice none 0 0) := (blk_cell BK320.out 1).trans rfl;have hcz17_2 : w15.cell? ⟨gb320,2,none⟩ = some (.int .i64 0) := (blk_cell BK320.out 2).trans rfl;have hcz17_3 : w15.cell? ⟨gb320,3,none⟩ = some (.int .i64 0) := (blk_cell BK320.out 3).trans rfl;have hfz17_0 := blk_frozen BK320.out 0;have hfz17_1 := blk_frozen BK320.out 1;have hfz17_2 := blk_frozen BK320.out 2;have hfz17_3 := blk_frozen BK320.out 3;obtain ⟨Ao18,co18,eo18⟩ := Kd.N_slice HO317.out;subst eo18;have hcz19_0 : w15.cell? ⟨gb312,0,none⟩ = some (.string a0_0) := (blk_cell BK312.out 0).trans rfl;have hcz19_1 : w15.cell? ⟨gb312,1,none⟩ = some (.string a0_1) := (blk_cell BK312.out 1).trans rfl;have hcz19_2 : w15.cell? ⟨gb312,2,none⟩ = some (.int .i64 a0_2) := (blk_cell BK312.out 2).trans rfl;have hcz19_3 : w15.cell? ⟨gb312,3,none⟩ = some (.int .i64 a0_3) := (blk_cell BK312.out 3).trans rfl;have hfz19_0 := blk_frozen BK312.out 0;have hfz19_1 := blk_frozen BK312.out 1;have hfz19_2 := blk_frozen BK312.out 2;have hfz19_3 := blk_frozen BK312.out 3) | ((with_reducible refine gate_callee (f := 14) rfl ?_);refine goesL_ (some 30) rfl rfl Tryd.func14 (by kernel_rfl) rfl #[.string a0_0,.string a0_1,.int .i64 a0_2,.int .i64 a0_3] rfl au1 ?_;(with_reducible refine (layout_Lay.calls a0_0 a0_1 a0_2 a0_3 t321 t322 t325 t326 _ ?side1 A8.out).mono ?_);(case side1 => exact tabs_below HT.out au14);rintro e w20 ⟨v323,rfl,ho0,hb⟩;refine ⟨_,rfl,?_⟩;have n0_ := Aside0.mk (Kd.N_elder' au34 (Kd.S_base ho0) hb);have n1_ := Aside0.mk (Kd.N_lower (Kd.N_mono (ok' := fun k_ => some k_ ≠ (.slice Ao18 t315.length co18 : Value).ownBlock ∧ k_ ≠ gb312 ∧ k_ ≠ gb320) (Kd.S_N (Kd.S_bound ho0)) (fun k_ hk_ => ⟨(Kd.fresh' (Kd.N_lt au34) k_ hk_.2.1),(Kd.freshB (g := gb312) (o := .cells #[.string a0_0,.string a0_1,.int .i64 a0_2,.int .i64 a0_3] 23 (0,0)) au27 k_ hk_.2.1),(Kd.freshB (g := gb320) (o := .cells #[.int .i64 t314,.slice Ao18 t315.length co18,.int .i64 t318,.int .i64 t319] 29 (0,0)) au16 k_ hk_.2.1)⟩)) (below_size au14));have n2_ := Aside0.mk (blk_below (g := gb312) (o := .cells #[.string a0_0,.string a0_1,.int .i64 a0_2,.int .i64 a0_3] 23 (0,0)) au27 hb);have n3_ := Aside0.mk (blk_below (g := gb320) (o := .cells #[.int .i64 t314,.slice Ao18 t315.length co18,.int .i64 t318,.int .i64 t319] 29 (0,0)) au16 hb);have n4_ := Aside0.mk (below_step au14 hb);clear HO317;clear BK312;clear BK320;clear HB;have HO317 := n0_;have HO324 := n1_;have BK312 := n2_;have BK320 := n3_;have HB := n4_;clear n0_ n1_ n2_ n3_ n4_;(try clear hb);(try clear hb2);(try clear hk);(try clear hi);(try clear ho0)) | ((with_reducible refine gate_dst (N := 6) rfl ?_);(try (refine gate_guard (by rfl) ?_;dsimp only));refine box_event ?hg (N := 6) ?hd (cs := #[.int .i64 0,.slice none 0 0,.int .i64 0,.int .i64 0]) (t := 29) ?hr ?_;(case hd => rfl);(case hg => rfl);(case hr => first | (go_simp;done) | (go_simp;rfl));intro gb327 hg w21 hbox hb;have n0_ := Aside0.mk (Kd.N_below (Kd.N_elderB (by (with_reducible repeat (first | apply Kd.N_alloc | apply Kd.N_drewN | apply Kd.N_drew));exact HO317.out) gb327 (Nat.le_of_eq hg.symm)) hb);have n1_ := Aside0.mk (Kd.N_below (Kd.N_elderB (by (with_reducible repeat (first | apply Kd.N_alloc | apply Kd.N_drewN | apply Kd.N_drew));exact HO324.out) gb327 (Nat.le_of_eq hg.symm)) hb);have n2_ := Aside0.mk (blk_below (g := gb312) (o := .cells #[.string a0_0,.string a0_1,.int .i64 a0_2,.int .i64 a0_3] 23 (0,0)) au7 hb);have n3_ := Aside0.mk (blk_below (g := gb320) (o := .cells #[.int .i64 t314,.slice Ao18 t315.length co18,.int .i64 t318,.int .i64 t319] 29 (0,0)) au13 hb);have n4_ := Aside0.mk (below_step au14 hb);have n5_ := Aside0.mk (hbox);have n6_ := Aside0.mk ((by rw [hg];exact (below_size au14) : w.heap.size ≤ gb327));have n7_ := Aside0.mk ((by rw [hg];exact (below_size au14) : w.heap.size ≤ gb327));have n8_ := Aside0.mk ((by rw [hg];exact Nat.ne_of_lt (blk_lt (g := gb312) (o := .cells #[.string a0_0,.string a0_1,.int .i64 a0_2,.int .i64 a0_3] 23 (0,0)) au7) : gb312 ≠ gb327));have n9_ := Aside0.mk ((by rw [hg];exact Nat.ne_of_gt (blk_lt (g := gb312) (o := .cells #[.string a0_0,.string a0_1,.int .i64 a0_2,.int .i64 a0_3] 23 (0,0)) au7) : gb327 ≠ gb312));have n10_ := Aside0.mk ((by rw [hg];exact Nat.ne_of_lt (blk_lt (g := gb320) (o := .cells #[.int .i64 t314,.slice Ao18 t315.length co18,.int .i64 t318,.int .i64 t319] 29 (0,0)) au13) : gb320 ≠ gb327));have n11_ := Aside0.mk ((by rw [hg];exact Nat.ne_of_gt (blk_lt (g := gb320) (o := .cells #[.int .i64 t314,.slice Ao18 t315.length co18,.int .i64 t318,.int .i64 t319] 29 (0,0)) au13) : gb327 ≠ gb320));clear HO317;clear HO324;clear BK312;clear BK320;clear HB;have HO317 := n0_;have HO324 := n1_;have BK312 := n2_;have BK320 := n3_;have HB := n4_;have BK327 := n5_;have GW327 := n6_;have GE327 := n7_;have NB312_327 := n8_;have NB327_312 := n9_;have NB320_327 := n10_;have NB327_320 := n11_;clear n0_ n1_ n2_ n3_ n4_ n5_ n6_ n7_ n8_ n9_ n10_ n11_;clear hb hbox hg;have hnb22 := NB327_312.out;have hnc22 := NB312_327.out;have hnb23 := NB327_320.out;have hnc23 := NB320_327.out;have hcz24_0 : w21.cell? ⟨gb327,0,none⟩ = some (.int .i64 0) := (blk_cell BK327.out 0).trans rfl;have hcz24_1 : w21.cell? ⟨gb327,1,none⟩ = some (.slice none 0 0) := (blk_cell BK327.out 1).trans rfl;have hcz24_2 : w21.cell? ⟨gb327,2,none⟩ = some (.int .i64 0) := (blk_cell BK327.out 2).trans rfl;have hcz24_3 : w21.cell? ⟨gb327,3,none⟩ = some (.int .i64 0) := (blk_cell BK327.out 3).trans rfl;have hfz24_0 := blk_frozen BK327.out 0;have hfz24_1 := blk_frozen BK327.out 1;have hfz24_2 := blk_frozen BK327.out 2;have hfz24_3 := blk_frozen BK327.out 3;obtain ⟨Ao25,co25,eo25⟩ := Kd.N_slice HO324.out;subst eo25;have hcz26_0 : w21.cell? ⟨gb312,0,none⟩ = some (.string a0_0) := (blk_cell BK312.out 0).trans rfl;have hcz26_1 : w21.cell? ⟨gb312,1,none⟩ = some (.string a0_1) := (blk_cell BK312.out 1).trans rfl;have hcz26_2 : w21.cell? ⟨gb312,2,none⟩ = some (.int .i64 a0_2) := (blk_cell BK312.out 2).trans rfl;have hcz26_3 : w21.cell? ⟨gb312,3,none⟩ = some (.int .i64 a0_3) := (blk_cell BK312.out 3).trans rfl;have hfz26_0 := blk_frozen BK312.out 0;have hfz26_1 := blk_frozen BK312.out 1;have hfz26_2 := blk_frozen BK312.out 2;have hfz26_3 := blk_frozen BK312.out 3) | ((with_reducible refine gate_callee (f := 14) rfl ?_);refine goesL_ (some 34) rfl rfl Tryd.func14 (by kernel_rfl) rfl #[.string (⟨#[]⟩ : ByteArray),.string a1,.int .i64 0,.int .i64 a0_3] rfl au1 ?_;(with_reducible refine (layout_Lay.calls (⟨#[]⟩ : ByteArray) a1 0 a0_3 t328 t329 t332 t333 _ ?side1 A9.out).mono ?_);(case side1 => exact tabs_below HT.out au12);rintro e w27 ⟨v330,rfl,ho0,hb⟩;refine ⟨_,rfl,?_⟩;have n0_ := Aside0.mk (Kd.N_elder' au35 (Kd.S_base ho0) hb);have n1_ := Aside0.mk (Kd.N_elder' au36 (Kd.S_base ho0) hb);have n2_ := Aside0.mk (Kd.N_lower (Kd.N_mono (ok' := fun k_ => some k_ ≠ (.slice Ao18 t315.length co18 : Value).ownBlock ∧ some k_ ≠ (.slice Ao25 t322.length co25 : Value).ownBlock ∧ k_ ≠ gb312 ∧ k_ ≠ gb320 ∧ k_ ≠ gb327) (Kd.S_N (Kd.S_bound ho0)) (fun k_ hk_ => ⟨(Kd.fresh' (Kd.N_lt au35) k_ hk_.2.1),(Kd.fresh' (Kd.N_lt au36) k_ hk_.2.1),(Kd.freshB (g := gb312) (o := .cells #[.string a0_0,.string a0_1,.int .i64 a0_2,.int .i64 a0_3] 23 (0,0)) au28 k_ hk_.2.1),(Kd.freshB (g := gb320) (o := .cells #[.int .i64 t314,.slice Ao18 t315.length co18,.int .i64 t318,.int .i64 t319] 29 (0,0)) au29 k_ hk_.2.1),(Kd.freshB (g := gb327) (o := .cells #[.int .i64 t321,.slice Ao25 t322.length co25,.int .i64 t325,.int .i64 t326] 29 (0,0)) au17 k_ hk_.2.1)⟩)) (below_size au12));have n3_ := Aside0.mk (blk_below (g := gb312) (o := .cells #[.string a0_0,.string a0_1,.int .i64 a0_2,.int .i64 a0_3] 23 (0,0)) au28 hb);have n4_ := Aside0.mk (blk_below (g := gb320) (o := .cells #[.int .i64 t314,.slice Ao18 t315.length co18,.int .i64 t318,.int .i64 t319] 29 (0,0)) au29 hb);have n5_ := Aside0.mk (blk_below (g := gb327) (o := .cells #[.int .i64 t321,.slice Ao25 t322.length co25,.int .i64 t325,.int .i64 t326] 29 (0,0)) au17 hb);have n6_ := Aside0.mk (below_step au12 hb);clear HO317;clear HO324;clear BK312;clear BK320;clear BK327;clear HB;have HO317 := n0_;have HO324 := n1_;have HO331 := n2_;have BK312 := n3_;have BK320 := n4_;have BK327 := n5_;have HB := n6_;clear n0_ n1_ n2_ n3_ n4_ n5_ n6_;(try clear hb);(try clear hb2);(try clear hk);(try clear hi);(try clear ho0)) | ((with_reducible refine gate_dst (N := 7) rfl ?_);(try (refine gate_guard (by rfl) ?_;dsimp only));refine box_event ?hg (N := 7) ?hd (cs := #[.int .i64 0,.slice none 0 0,.int .i64 0,.int .i64 0]) (t := 29) ?hr ?_;(case hd => rfl);(case hg => rfl);(case hr => first | (go_simp;done) | (go_simp;rfl));intro gb334 hg w28 hbox hb;have n0_ := Aside0.mk (Kd.N_below (Kd.N_elderB (by (with_reducible repeat (first | apply Kd.N_alloc | apply Kd.N_drewN | apply Kd.N_drew));exact HO317.out) gb334 (Nat.le_of_eq hg.symm)) hb);have n1_ := Aside0.mk (Kd.N_below (Kd.N_elderB (by (with_reducible repeat (first | apply Kd.N_alloc | apply Kd.N_drewN | apply Kd.N_drew));exact HO324.out) gb334 (Nat.le_of_eq hg.symm)) hb);have n2_ := Aside0.mk (Kd.N_below (Kd.N_elderB (by (with_reducible repeat (first | apply Kd.N_alloc | apply Kd.N_drewN | apply Kd.N_drew));exact HO331.out) gb334 (Nat.le_of_eq hg.symm)) hb);have n3_ := Aside0.mk (blk_below (g := gb312) (o := .cells #[.string a0_0,.string a0_1,.int .i64 a0_2,.int .i64 a0_3] 23 (0,0)) au7 hb);have n4_ := Aside0.mk (blk_below (g := gb320) (o := .cells #[.int .i64 t314,.slice Ao18 t315.length co18,.int .i64 t318,.int .i64 t319] 29 (0,0)) au13 hb);have n5_ := Aside0.mk (blk_below (g := gb327) (o := .cells #[.int .i64 t321,.slice Ao25 t322.length co25,.int .i64 t325,.int .i64 t326] 29 (0,0)) au24 hb);have n6_ := Aside0.mk (below_step au12 hb);have n7_ := Aside0.mk (hbox);have n8_ := Aside0.mk ((by rw [hg];exact (below_size au12) : w.heap.size ≤ gb334));have n9_ := Aside0.mk ((by rw [hg];exact (below_size au12) : w.heap.size ≤ gb334));have n10_ := Aside0.mk ((by rw [hg];exact Nat.ne_of_lt (blk_lt (g := gb312) (o := .cells #[.string a0_0,.string a0_1,.int .i64 a0_2,.int .i64 a0_3] 23 (0,0)) au7) : gb312 ≠ gb334));have n11_ := Aside0.mk ((by rw [hg];exact Nat.ne_of_gt (blk_lt (g := gb312) (o := .cells #[.string a0_0,.string a0_1,.int .i64 a0_2,.int .i64 a0_3] 23 (0,0)) au7) : gb334 ≠ gb312));have n12_ := Aside0.mk ((by rw [hg];exact Nat.ne_of_lt (blk_lt (g := gb320) (o := .cells #[.int .i64 t314,.slice Ao18 t315.length co18,.int .i64 t318,.int .i64 t319] 29 (0,0)) au13) : gb320 ≠ gb334));have n13_ := Aside0.mk ((by rw [hg];exact Nat.ne_of_gt (blk_lt (g := gb320) (o := .cells #[.int .i64 t314,.slice Ao18 t315.length co18,.int .i64 t318,.int .i64 t319] 29 (0,0)) au13) : gb334 ≠ gb320));have n14_ := Aside0.mk ((by rw [hg];exact Nat.ne_of_lt (blk_lt (g := gb327) (o := .cells #[.int .i64 t321,.slice Ao25 t322.length co25,.int .i64 t325,.int .i64 t326] 29 (0,0)) au24) : gb327 ≠ gb334));have n15_ := Aside0.mk ((by rw [hg];exact Nat.ne_of_gt (blk_lt (g := gb327) (o := .cells #[.int .i64 t321,.slice Ao25 t322.length co25,.int .i64 t325,.int .i64 t326] 29 (0,0)) au24) : gb334 ≠ gb327));clear HO317;clear HO324;clear HO331;clear BK312;clear BK320;clear BK327;clear HB;have HO317 := n0_;have HO324 := n1_;have HO331 := n2_;have BK312 := n3_;have BK320 := n4_;have BK327 := n5_;have HB := n6_;have BK334 := n7_;have GW334 := n8_;have GE334 := n9_;have NB312_334 := n10_;have NB334_312 := n11_;have NB320_334 := n12_;have NB334_320 := n13_;have NB327_334 := n14_;have NB334_327 := n15_;clear n0_ n1_ n2_ n3_ n4_ n5_ n6_ n7_ n8_ n9_ n10_ n11_ n12_ n13_ n14_ n15_;clear hb hbox hg;have hnb29 := NB334_312.out;have hnc29 := NB312_334.out;have hnb30 := NB334_320.out;have hnc30 := NB320_334.out;have hnb31 := NB334_327.out;have hnc31 := NB327_334.out;have hcz32_0 : w28.cell? ⟨gb334,0,none⟩ = some (.int .i64 0) := (blk_cell BK334.out 0).trans rfl;have hcz32_1 : w28.cell? ⟨gb334,1,none⟩ = some (.slice none 0 0) := (blk_cell BK334.out 1).trans rfl;have hcz32_2 : w28.cell? ⟨gb334,2,none⟩ = some (.int .i64 0) := (blk_cell BK334.out 2).trans rfl;have hcz32_3 : w28.cell? ⟨gb334,3,none⟩ = some (.int .i64 0) := (blk_cell BK334.out 3).trans rfl;have hfz32_0 := blk_frozen BK334.out 0;have hfz32_1 := blk_frozen BK334.out 1;have hfz32_2 := blk_frozen BK334.out 2;have hfz32_3 := blk_frozen BK334.out 3;obtain ⟨Ao33,co33,eo33⟩ := Kd.N_slice HO331.out;subst eo33))
    (try simp only [Act.put,List.setIfInBounds_toArray,List.set_cons_zero,List.set_cons_succ])
    go_cut [48] (fun v48 wc => ∃ (kq : Nat) (x48_9 : Bool),v48 = .bool x48_9 ∧ Aside0 (bodkinlaw20_LayoutLines.j0 kq x48_9 a0_0 a0_1 a0_2 a0_3 t314 t315 t318 t319 t321 t322 t325 t326 t328 t329 t332 t333 = some r) ∧ Aside0 (kq ≤ k) ∧ Aside0 (Kd.N (Kd.slice 35 k35) 33 wc w.heap.size (fun k_ => some k_ ≠ ((.slice Ao25 t322.length co25) : Value).ownBlock ∧ some k_ ≠ ((.slice Ao33 t329.length co33) : Value).ownBlock ∧ k_ ≠ gb312 ∧ k_ ≠ gb320 ∧ k_ ≠ gb327 ∧ k_ ≠ gb334) (.slice Ao18 t315.length co18) t315) ∧ Aside0 (Kd.N (Kd.slice 35 k35) 33 wc w.heap.size (fun k_ => some k_ ≠ ((.slice Ao18 t315.length co18) : Value).ownBlock ∧ some k_ ≠ ((.slice Ao33 t329.length co33) : Value).ownBlock ∧ k_ ≠ gb312 ∧ k_ ≠ gb320 ∧ k_ ≠ gb327 ∧ k_ ≠ gb334) (.slice Ao25 t322.length co25) t322) ∧ Aside0 (Kd.N (Kd.slice 35 k35) 33 wc w.heap.size (fun k_ => some k_ ≠ ((.slice Ao18 t315.length co18) : Value).ownBlock ∧ some k_ ≠ ((.slice Ao25 t322.length co25) : Value).ownBlock ∧ k_ ≠ gb312 ∧ k_ ≠ gb320 ∧ k_ ≠ gb327 ∧ k_ ≠ gb334) (.slice Ao33 t329.length co33) t329) ∧ Aside0 (wc.heap[gb312]? = some (.cells #[.string a0_0,.string a0_1,.int .i64 a0_2,.int .i64 a0_3] 23 (0,0))) ∧ Aside0 (wc.heap[gb320]? = some (.cells #[.int .i64 t314,(.slice Ao18 t315.length co18),.int .i64 t318,.int .i64 t319] 29 (0,0))) ∧ Aside0 (wc.heap[gb327]? = some (.cells #[.int .i64 t321,(.slice Ao25 t322.length co25),.int .i64 t325,.int .i64 t326] 29 (0,0))) ∧ Aside0 (wc.heap[gb334]? = some (.cells #[.int .i64 t328,(.slice Ao33 t329.length co33),.int .i64 t332,.int .i64 t333] 29 (0,0))) ∧ Aside0 (Below w.heap.size w wc))
    case first =>
     have H := HC10.out
     clear HC10
     by_cases c34 : (a0_1.size : Int) > 0
     ·rw [if_pos c34] at H
      have c34b0 : decide (0 < (a0_1.size : Int)) = true := decide_eq_true c34
      have c34b1 : decide (0 < a0_1.size) = true := decide_eq_true (by omega)
      clear c34
      (first | rw [c34b0] | (simp only [i64_w,i32_w];rw [c34b0]) | skip)
      obtain ⟨ji35,hji35⟩ : ∃ j_ : Int,(wrap64 ((a0_1.size : Int) - 1)) = j_ := ⟨_,rfl⟩
      replace H : (if 0 ≤ (ji35) then (if (ji35) < (a0_1.size : Int) then (bodkinlaw20_LayoutLines.j0 k ((bt a0_1 (ji35)) == 13) a0_0 a0_1 a0_2 a0_3 t314 t315 t318 t319 t321 t322 t325 t326 t328 t329 t332 t333) else (none)) else (none)) = some r := by first | (rw [hji35] at H;exact H) | (simp only [hji35] at H ⊢;exact H)
      have hji35w : (IntKind.i64.wrap ((a0_1.size : Int) - 1)) = ji35 := (i64_w _).trans hji35
      by_cases c36 : 0 ≤ (ji35)
      ·rw [if_pos c36] at H
       have c36b0 : decide (0 ≤ (ji35)) = true := decide_eq_true c36
       clear c36
       by_cases c37 : (ji35) < (a0_1.size : Int)
       ·rw [if_pos c37] at H
        have c37b0 : decide ((ji35) < (a0_1.size : Int)) = true := decide_eq_true c37
        clear c37
        have H' := Aside0.mk H
        clear H
        have hnb39 := NB312_320.out
        have hnc39 := NB320_312.out
        have hnb40 := NB312_327.out
        have hnc40 := NB327_312.out
        have hnb41 := NB312_334.out
        have hnc41 := NB334_312.out
        have hcz42_0 : w28.cell? ⟨gb312,0,none⟩ = some (.string a0_0) := (blk_cell BK312.out 0).trans rfl
        have hcz42_1 : w28.cell? ⟨gb312,1,none⟩ = some (.string a0_1) := (blk_cell BK312.out 1).trans rfl
        have hcz42_2 : w28.cell? ⟨gb312,2,none⟩ = some (.int .i64 a0_2) := (blk_cell BK312.out 2).trans rfl
        have hcz42_3 : w28.cell? ⟨gb312,3,none⟩ = some (.int .i64 a0_3) := (blk_cell BK312.out 3).trans rfl
        have hfz42_0 := blk_frozen BK312.out 0
        have hfz42_1 := blk_frozen BK312.out 1
        have hfz42_2 := blk_frozen BK312.out 2
        have hfz42_3 := blk_frozen BK312.out 3
        have p38 : 0 ≤ ((ji35) : Int) := of_decide_eq_true au5
        have q38 : (ji35) < (a0_1.size : Int) := of_decide_eq_true au5
        have hx38 := bt_at a0_1 (ji35)
        replace p38 := eq_true p38
        replace q38 := eq_true q38
        go_wp2
        go_meet
        case rel => exact ⟨_,(((bt a0_1 (ji35)) == 13)),(by first | rfl | (simp;done) | (simp only [← hji35] <;> (first | rfl | simp)) | (simp [*];done)),H',⟨by first | omega | exact Nat.le_refl _⟩,⟨by (with_reducible repeat (first | apply Kd.N_alloc | apply Kd.N_drewN | apply Kd.N_drew));exact Kd.N_mono (Kd.N_far (p := ⟨gb334,3,none⟩) (Kd.N_far (p := ⟨gb334,2,none⟩) (Kd.N_far (p := ⟨gb334,1,none⟩) (Kd.N_far (p := ⟨gb334,0,none⟩) (Kd.N_mono HO317.out (fun k_ hk => (⟨hk,hk.2⟩ : _ ∧ k_ ≠ gb334))) (fun _ hk => hk.2) (.int .i64 t328)) (fun _ hk => hk.2) (.slice Ao33 t329.length co33)) (fun _ hk => hk.2) (.int .i64 t332)) (fun _ hk => hk.2) (.int .i64 t333)) (fun _ hk => ⟨hk.1.1.1.1.2,⟨hk.1.1.2,⟨hk.1.1.1.1.1.1,⟨hk.1.1.1.1.1.2,⟨hk.1.1.1.2,hk.1.2⟩⟩⟩⟩⟩)⟩,⟨by (with_reducible repeat (first | apply Kd.N_alloc | apply Kd.N_drewN | apply Kd.N_drew));exact Kd.N_mono (Kd.N_far (p := ⟨gb334,3,none⟩) (Kd.N_far (p := ⟨gb334,2,none⟩) (Kd.N_far (p := ⟨gb334,1,none⟩) (Kd.N_far (p := ⟨gb334,0,none⟩) (Kd.N_mono HO324.out (fun k_ hk => (⟨hk,hk.2⟩ : _ ∧ k_ ≠ gb334))) (fun _ hk => hk.2) (.int .i64 t328)) (fun _ hk => hk.2) (.slice Ao33 t329.length co33)) (fun _ hk => hk.2) (.int .i64 t332)) (fun _ hk => hk.2) (.int .i64 t333)) (fun _ hk => ⟨hk.1.1.1.1.1,⟨hk.1.1.2,⟨hk.1.1.1.1.2.1,⟨hk.1.1.1.1.2.2,⟨hk.1.1.1.2,hk.1.2⟩⟩⟩⟩⟩)⟩,⟨by (with_reducible repeat (first | apply Kd.N_alloc | apply Kd.N_drewN | apply Kd.N_drew));exact Kd.N_mono (Kd.N_far (p := ⟨gb334,3,none⟩) (Kd.N_far (p := ⟨gb334,2,none⟩) (Kd.N_far (p := ⟨gb334,1,none⟩) (Kd.N_far (p := ⟨gb334,0,none⟩) (Kd.N_mono HO331.out (fun k_ hk => (⟨hk,hk.2⟩ : _ ∧ k_ ≠ gb334))) (fun _ hk => hk.2) (.int .i64 t328)) (fun _ hk => hk.2) (.slice Ao33 t329.length co33)) (fun _ hk => hk.2) (.int .i64 t332)) (fun _ hk => hk.2) (.int .i64 t333)) (fun _ hk => ⟨hk.1.1.1,⟨hk.1.1.2.1,⟨hk.1.1.2.2.1,⟨hk.1.1.2.2.2.1,⟨hk.1.1.2.2.2.2,hk.1.2⟩⟩⟩⟩⟩)⟩,⟨by (with_reducible repeat (first | refine blk_drewN ?_ _ | refine blk_drew ?_ | refine blk_alloc ?_ _));refine blk_far ?_ NB312_334.out _;(with_reducible repeat (first | refine blk_drewN ?_ _ | refine blk_drew ?_ | refine blk_alloc ?_ _));refine blk_far ?_ NB312_334.out _;(with_reducible repeat (first | refine blk_drewN ?_ _ | refine blk_drew ?_ | refine blk_alloc ?_ _));refine blk_far ?_ NB312_334.out _;(with_reducible repeat (first | refine blk_drewN ?_ _ | refine blk_drew ?_ | refine blk_alloc ?_ _));refine blk_far ?_ NB312_334.out _;(with_reducible repeat (first | refine blk_drewN ?_ _ | refine blk_drew ?_ | refine blk_alloc ?_ _));exact BK312.out⟩,⟨by (with_reducible repeat (first | refine blk_drewN ?_ _ | refine blk_drew ?_ | refine blk_alloc ?_ _));refine blk_far ?_ NB320_334.out _;(with_reducible repeat (first | refine blk_drewN ?_ _ | refine blk_drew ?_ | refine blk_alloc ?_ _));refine blk_far ?_ NB320_334.out _;(with_reducible repeat (first | refine blk_drewN ?_ _ | refine blk_drew ?_ | refine blk_alloc ?_ _));refine blk_far ?_ NB320_334.out _;(with_reducible repeat (first | refine blk_drewN ?_ _ | refine blk_drew ?_ | refine blk_alloc ?_ _));refine blk_far ?_ NB320_334.out _;(with_reducible repeat (first | refine blk_drewN ?_ _ | refine blk_drew ?_ | refine blk_alloc ?_ _));exact BK320.out⟩,⟨by (with_reducible repeat (first | refine blk_drewN ?_ _ | refine blk_drew ?_ | refine blk_alloc ?_ _));refine blk_far ?_ NB327_334.out _;(with_reducible repeat (first | refine blk_drewN ?_ _ | refine blk_drew ?_ | refine blk_alloc ?_ _));refine blk_far ?_ NB327_334.out _;(with_reducible repeat (first | refine blk_drewN ?_ _ | refine blk_drew ?_ | refine blk_alloc ?_ _));refine blk_far ?_ NB327_334.out _;(with_reducible repeat (first | refine blk_drewN ?_ _ | refine blk_drew ?_ | refine blk_alloc ?_ _));refine blk_far ?_ NB327_334.out _;(with_reducible repeat (first | refine blk_drewN ?_ _ | refine blk_drew ?_ | refine blk_alloc ?_ _));exact BK327.out⟩,⟨by (with_reducible repeat (first | refine blk_drewN ?_ _ | refine blk_drew ?_ | refine blk_alloc ?_ _));refine blk_put (cs := #[.int .i64 t328,.slice Ao33 t329.length co33,.int .i64 t332,.int .i64 0]) ?_ 3 _ rfl;(with_reducible repeat (first | refine blk_drewN ?_ _ | refine blk_drew ?_ | refine blk_alloc ?_ _));refine blk_put (cs := #[.int .i64 t328,.slice Ao33 t329.length co33,.int .i64 0,.int .i64 0]) ?_ 2 _ rfl;(with_reducible repeat (first | refine blk_drewN ?_ _ | refine blk_drew ?_ | refine blk_alloc ?_ _));refine blk_put (cs := #[.int .i64 t328,.slice none 0 0,.int .i64 0,.int .i64 0]) ?_ 1 _ rfl;(with_reducible repeat (first | refine blk_drewN ?_ _ | refine blk_drew ?_ | refine blk_alloc ?_ _));refine blk_put (cs := #[.int .i64 0,.slice none 0 0,.int .i64 0,.int .i64 0]) ?_ 0 _ rfl;(with_reducible repeat (first | refine blk_drewN ?_ _ | refine blk_drew ?_ | refine blk_alloc ?_ _));exact BK334.out⟩,⟨by repeat (first | (with_reducible first | exact HB.out | apply below_alloc | apply pw_below_drewN | apply below_drew1 | refine below_set ?_ GE312.out | refine below_set ?_ GE320.out | refine below_set ?_ GE327.out | refine below_set ?_ GE334.out) | exact HB.out)⟩⟩
       ·rw [if_neg c37] at H
        exact absurd H (by simp)
      ·rw [if_neg c36] at H
       exact absurd H (by simp)
     ·rw [if_neg c34] at H
      have c34b0 : decide (0 < (a0_1.size : Int)) = false := decide_eq_false c34
      have c34b1 : decide (0 < a0_1.size) = false := decide_eq_false (by omega)
      clear c34
      (first | rw [c34b0] | (simp only [i64_w,i32_w];rw [c34b0]) | skip)
      have H' := Aside0.mk H
      clear H
      have hnb43 := NB312_320.out
      have hnc43 := NB320_312.out
      have hnb44 := NB312_327.out
      have hnc44 := NB327_312.out
      have hnb45 := NB312_334.out
      have hnc45 := NB334_312.out
      have hcz46_0 : w28.cell? ⟨gb312,0,none⟩ = some (.string a0_0) := (blk_cell BK312.out 0).trans rfl
      have hcz46_1 : w28.cell? ⟨gb312,1,none⟩ = some (.string a0_1) := (blk_cell BK312.out 1).trans rfl
      have hcz46_2 : w28.cell? ⟨gb312,2,none⟩ = some (.int .i64 a0_2) := (blk_cell BK312.out 2).trans rfl
      have hcz46_3 : w28.cell? ⟨gb312,3,none⟩ = some (.int .i64 a0_3) := (blk_cell BK312.out 3).trans rfl
      have hfz46_0 := blk_frozen BK312.out 0
      have hfz46_1 := blk_frozen BK312.out 1
      have hfz46_2 := blk_frozen BK312.out 2
      have hfz46_3 := blk_frozen BK312.out 3
      go_wp2
      go_meet
      case rel => exact ⟨_,(false),au18,H',⟨by first | omega | exact Nat.le_refl _⟩,⟨by (with_reducible repeat (first | apply Kd.N_alloc | apply Kd.N_drewN | apply Kd.N_drew));exact Kd.N_mono (Kd.N_far (p := ⟨gb334,3,none⟩) (Kd.N_far (p := ⟨gb334,2,none⟩) (Kd.N_far (p := ⟨gb334,1,none⟩) (Kd.N_far (p := ⟨gb334,0,none⟩) (Kd.N_mono HO317.out (fun k_ hk => (⟨hk,hk.2⟩ : _ ∧ k_ ≠ gb334))) (fun _ hk => hk.2) (.int .i64 t328)) (fun _ hk => hk.2) (.slice Ao33 t329.length co33)) (fun _ hk => hk.2) (.int .i64 t332)) (fun _ hk => hk.2) (.int .i64 t333)) (fun _ hk => ⟨hk.1.1.1.1.2,⟨hk.1.1.2,⟨hk.1.1.1.1.1.1,⟨hk.1.1.1.1.1.2,⟨hk.1.1.1.2,hk.1.2⟩⟩⟩⟩⟩)⟩,⟨by (with_reducible repeat (first | apply Kd.N_alloc | apply Kd.N_drewN | apply Kd.N_drew));exact Kd.N_mono (Kd.N_far (p := ⟨gb334,3,none⟩) (Kd.N_far (p := ⟨gb334,2,none⟩) (Kd.N_far (p := ⟨gb334,1,none⟩) (Kd.N_far (p := ⟨gb334,0,none⟩) (Kd.N_mono HO324.out (fun k_ hk => (⟨hk,hk.2⟩ : _ ∧ k_ ≠ gb334))) (fun _ hk => hk.2) (.int .i64 t328)) (fun _ hk => hk.2) (.slice Ao33 t329.length co33)) (fun _ hk => hk.2) (.int .i64 t332)) (fun _ hk => hk.2) (.int .i64 t333)) (fun _ hk => ⟨hk.1.1.1.1.1,⟨hk.1.1.2,⟨hk.1.1.1.1.2.1,⟨hk.1.1.1.1.2.2,⟨hk.1.1.1.2,hk.1.2⟩⟩⟩⟩⟩)⟩,⟨by (with_reducible repeat (first | apply Kd.N_alloc | apply Kd.N_drewN | apply Kd.N_drew));exact Kd.N_mono (Kd.N_far (p := ⟨gb334,3,none⟩) (Kd.N_far (p := ⟨gb334,2,none⟩) (Kd.N_far (p := ⟨gb334,1,none⟩) (Kd.N_far (p := ⟨gb334,0,none⟩) (Kd.N_mono HO331.out (fun k_ hk => (⟨hk,hk.2⟩ : _ ∧ k_ ≠ gb334))) (fun _ hk => hk.2) (.int .i64 t328)) (fun _ hk => hk.2) (.slice Ao33 t329.length co33)) (fun _ hk => hk.2) (.int .i64 t332)) (fun _ hk => hk.2) (.int .i64 t333)) (fun _ hk => ⟨hk.1.1.1,⟨hk.1.1.2.1,⟨hk.1.1.2.2.1,⟨hk.1.1.2.2.2.1,⟨hk.1.1.2.2.2.2,hk.1.2⟩⟩⟩⟩⟩)⟩,⟨by (with_reducible repeat (first | refine blk_drewN ?_ _ | refine blk_drew ?_ | refine blk_alloc ?_ _));refine blk_far ?_ NB312_334.out _;(with_reducible repeat (first | refine blk_drewN ?_ _ | refine blk_drew ?_ | refine blk_alloc ?_ _));refine blk_far ?_ NB312_334.out _;(with_reducible repeat (first | refine blk_drewN ?_ _ | refine blk_drew ?_ | refine blk_alloc ?_ _));refine blk_far ?_ NB312_334.out _;(with_reducible repeat (first | refine blk_drewN ?_ _ | refine blk_drew ?_ | refine blk_alloc ?_ _));refine blk_far ?_ NB312_334.out _;(with_reducible repeat (first | refine blk_drewN ?_ _ | refine blk_drew ?_ | refine blk_alloc ?_ _));exact BK312.out⟩,⟨by (with_reducible repeat (first | refine blk_drewN ?_ _ | refine blk_drew ?_ | refine blk_alloc ?_ _));refine blk_far ?_ NB320_334.out _;(with_reducible repeat (first | refine blk_drewN ?_ _ | refine blk_drew ?_ | refine blk_alloc ?_ _));refine blk_far ?_ NB320_334.out _;(with_reducible repeat (first | refine blk_drewN ?_ _ | refine blk_drew ?_ | refine blk_alloc ?_ _));refine blk_far ?_ NB320_334.out _;(with_reducible repeat (first | refine blk_drewN ?_ _ | refine blk_drew ?_ | refine blk_alloc ?_ _));refine blk_far ?_ NB320_334.out _;(with_reducible repeat (first | refine blk_drewN ?_ _ | refine blk_drew ?_ | refine blk_alloc ?_ _));exact BK320.out⟩,⟨by (with_reducible repeat (first | refine blk_drewN ?_ _ | refine blk_drew ?_ | refine blk_alloc ?_ _));refine blk_far ?_ NB327_334.out _;(with_reducible repeat (first | refine blk_drewN ?_ _ | refine blk_drew ?_ | refine blk_alloc ?_ _));refine blk_far ?_ NB327_334.out _;(with_reducible repeat (first | refine blk_drewN ?_ _ | refine blk_drew ?_ | refine blk_alloc ?_ _));refine blk_far ?_ NB327_334.out _;(with_reducible repeat (first | refine blk_drewN ?_ _ | refine blk_drew ?_ | refine blk_alloc ?_ _));refine blk_far ?_ NB327_334.out _;(with_reducible repeat (first | refine blk_drewN ?_ _ | refine blk_drew ?_ | refine blk_alloc ?_ _));exact BK327.out⟩,⟨by (with_reducible repeat (first | refine blk_drewN ?_ _ | refine blk_drew ?_ | refine blk_alloc ?_ _));refine blk_put (cs := #[.int .i64 t328,.slice Ao33 t329.length co33,.int .i64 t332,.int .i64 0]) ?_ 3 _ rfl;(with_reducible repeat (first | refine blk_drewN ?_ _ | refine blk_drew ?_ | refine blk_alloc ?_ _));refine blk_put (cs := #[.int .i64 t328,.slice Ao33 t329.length co33,.int .i64 0,.int .i64 0]) ?_ 2 _ rfl;(with_reducible repeat (first | refine blk_drewN ?_ _ | refine blk_drew ?_ | refine blk_alloc ?_ _));refine blk_put (cs := #[.int .i64 t328,.slice none 0 0,.int .i64 0,.int .i64 0]) ?_ 1 _ rfl;(with_reducible repeat (first | refine blk_drewN ?_ _ | refine blk_drew ?_ | refine blk_alloc ?_ _));refine blk_put (cs := #[.int .i64 0,.slice none 0 0,.int .i64 0,.int .i64 0]) ?_ 0 _ rfl;(with_reducible repeat (first | refine blk_drewN ?_ _ | refine blk_drew ?_ | refine blk_alloc ?_ _));exact BK334.out⟩,⟨by repeat (first | (with_reducible first | exact HB.out | apply below_alloc | apply pw_below_drewN | apply below_drew1 | refine below_set ?_ GE312.out | refine below_set ?_ GE320.out | refine below_set ?_ GE327.out | refine below_set ?_ GE334.out) | exact HB.out)⟩⟩
    case rest =>
     clear HC10
     try clear c1
     try clear c2
     try clear p2
     try clear c3
     try clear p3
     try clear q3
     try clear hx3
     try clear c4
     try clear c5
     try clear c5b0
     try clear c5b1
     try clear c5b2
     try clear c6
     try clear c6b0
     try clear c6b1
     try clear c6b2
     try clear p6
     try clear c10
     try clear c12
     try clear c14
     try clear c16
     try clear c22
     try clear c23
     try clear c29
     try clear c30
     try clear c31
     try clear c34
     try clear c34b0
     try clear c34b1
     try clear c36
     try clear c36b0
     try clear c37
     try clear c37b0
     try clear p38
     try clear q38
     try clear hx38
     try clear c39
     try clear c40
     try clear c41
     try clear c43
     try clear c44
     try clear c45
     try clear hcz13_0
     try clear hcz13_1
     try clear hcz13_2
     try clear hcz13_3
     try clear hcz17_0
     try clear hcz17_1
     try clear hcz17_2
     try clear hcz17_3
     try clear hcz19_0
     try clear hcz19_1
     try clear hcz19_2
     try clear hcz19_3
     try clear hcz24_0
     try clear hcz24_1
     try clear hcz24_2
     try clear hcz24_3
     try clear hcz26_0
     try clear hcz26_1
     try clear hcz26_2
     try clear hcz26_3
     try clear hcz32_0
     try clear hcz32_1
     try clear hcz32_2
     try clear hcz32_3
     try clear hcz42_0
     try clear hcz42_1
     try clear hcz42_2
     try clear hcz42_3
     try clear hcz46_0
     try clear hcz46_1
     try clear hcz46_2
     try clear hcz46_3
     try clear hfz13_0
     try clear hfz13_1
     try clear hfz13_2
     try clear hfz13_3
     try clear hfz17_0
     try clear hfz17_1
     try clear hfz17_2
     try clear hfz17_3
     try clear hfz19_0
     try clear hfz19_1
     try clear hfz19_2
     try clear hfz19_3
     try clear hfz24_0
     try clear hfz24_1
     try clear hfz24_2
     try clear hfz24_3
     try clear hfz26_0
     try clear hfz26_1
     try clear hfz26_2
     try clear hfz26_3
     try clear hfz32_0
     try clear hfz32_1
     try clear hfz32_2
     try clear hfz32_3
     try clear hfz42_0
     try clear hfz42_1
     try clear hfz42_2
     try clear hfz42_3
     try clear hfz46_0
     try clear hfz46_1
     try clear hfz46_2
     try clear hfz46_3
     try clear p38
     try clear q38
     obtain ⟨kq,x48_9,rfl,HA,HJ9,HO_321001,HO_328001,HO_335001,BK312,BK320,BK327,BK334,HB⟩ := hcut
     cases kq with
     | zero => exact absurd HA.out (by simp [bodkinlaw20_LayoutLines.j0])
     | succ kj9 =>
      have H := HA.out
      clear HA
      simp only [bodkinlaw20_LayoutLines.j0] at H
      by_cases c47 : x48_9 = true
      ·subst c47
       have H1 : (some true) = some r := by rw [if_pos rfl] at H;exact H
       clear H
       have H := H1
       clear H1
       obtain rfl := Option.some.inj H
       go_wp2
       go_ret
       exact ⟨au2,by repeat (first | (with_reducible first | exact HB.out | apply below_alloc | apply pw_below_drewN | apply below_drew1 | refine below_set ?_ GE312.out | refine below_set ?_ GE320.out | refine below_set ?_ GE327.out | refine below_set ?_ GE334.out) | exact HB.out)⟩
      ·replace c47 := Bool.eq_false_iff.mpr c47
       subst c47
       have H1 : (if (t315.length : Int) = (wrap64 ((t322.length : Int) + (t329.length : Int))) then (if a0_2 ≤ (a0_1.size : Int) then (if (!(t318 == t325) || (!(t319 == t326))) = true then (some false) else (if t322.length + t329.length < 5864062014805 then ((layout_Same.f kj9 t314 t315 t318 t319 t321 (t322 ++ t329) t318 t319).bind fun t338 => (some t338)) else (none))) else (if t322.length + t329.length < 5864062014805 then ((layout_Same.f kj9 t314 t315 t318 t319 t321 (t322 ++ t329) t318 t319).bind fun t342 => (some t342)) else (none))) else (some false)) = some r := by rw [if_neg (show ¬ (false = true) by decide)] at H;exact H
       clear H
       have H := H1
       clear H1
       by_cases c48 : (t315.length : Int) = (wrap64 ((t322.length : Int) + (t329.length : Int)))
       ·rw [if_pos c48] at H
        have c48b0 : ((t315.length : Int) == (wrap64 ((t322.length : Int) + (t329.length : Int)))) = true := beq_iff_eq.mpr c48
        have c48b1 : ((t315.length : Int) != (wrap64 ((t322.length : Int) + (t329.length : Int)))) = false := bne_eq_false_iff_eq.mpr c48
        clear c48
        by_cases c49 : a0_2 ≤ (a0_1.size : Int)
        ·rw [if_pos c49] at H
         have c49b0 : decide (a0_2 ≤ (a0_1.size : Int)) = true := decide_eq_true c49
         clear c49
         by_cases c50 : (!(t318 == t325) || (!(t319 == t326))) = true
         ·rw [if_pos c50] at H
          have c50b0 : (!(t318 == t325) || (!(t319 == t326))) = true := c50
          clear c50
          obtain rfl := Option.some.inj H
          cases hr_
         ·rw [if_neg c50] at H
          have c50b0 : (!(t318 == t325) || (!(t319 == t326))) = false := by simpa using c50
          clear c50
          by_cases c61 : t322.length + t329.length < 5864062014805
          ·rw [if_pos c61] at H
           have LMc61 := Aside0.mk c61
           clear c61
           obtain ⟨y335,hy335⟩ : ∃ y_ : List (List (S35)),y_ = (t322 ++ t329) := ⟨_,rfl⟩
           replace H : ((layout_Same.f kj9 t314 t315 t318 t319 t321 y335 t318 t319).bind fun t338 => (some t338)) = some r := by first | (rw [hy335];with_reducible exact H) | (have H2_ := (Option.bind_some _ _).symm.trans H;rw [hy335];with_reducible exact H2_) | (have H2_ := (Option.bind_some _ _).symm.trans H;with_reducible exact H2_) | with_reducible exact H | (rw [hy335];exact H) | exact H
           have Ny335 := Aside0.mk hy335
           clear hy335
           replace H := Option.bind_eq_some_iff.mp H
           obtain ⟨t338,A620,H⟩ := H
           replace H : (some t338) = some r := H
           have A62 := Aside0.mk A620
           clear A620
           obtain rfl := Option.some.inj H
           have hnb63 := NB320_312.out
           have hnc63 := NB312_320.out
           have hnb64 := NB320_327.out
           have hnc64 := NB327_320.out
           have hnb65 := NB320_334.out
           have hnc65 := NB334_320.out
           have hcz66_0 : wc.cell? ⟨gb320,0,none⟩ = some (.int .i64 t314) := (blk_cell BK320.out 0).trans rfl
           have hcz66_1 : wc.cell? ⟨gb320,1,none⟩ = some (.slice Ao18 t315.length co18) := (blk_cell BK320.out 1).trans rfl
           have hcz66_2 : wc.cell? ⟨gb320,2,none⟩ = some (.int .i64 t318) := (blk_cell BK320.out 2).trans rfl
           have hcz66_3 : wc.cell? ⟨gb320,3,none⟩ = some (.int .i64 t319) := (blk_cell BK320.out 3).trans rfl
           have hfz66_0 := blk_frozen BK320.out 0
           have hfz66_1 := blk_frozen BK320.out 1
           have hfz66_2 := blk_frozen BK320.out 2
           have hfz66_3 := blk_frozen BK320.out 3
           have hnb67 := NB327_312.out
           have hnc67 := NB312_327.out
           have hnb68 := NB327_334.out
           have hnc68 := NB334_327.out
           have hcz69_0 : wc.cell? ⟨gb327,0,none⟩ = some (.int .i64 t321) := (blk_cell BK327.out 0).trans rfl
           have hcz69_1 : wc.cell? ⟨gb327,1,none⟩ = some (.slice Ao25 t322.length co25) := (blk_cell BK327.out 1).trans rfl
           have hcz69_2 : wc.cell? ⟨gb327,2,none⟩ = some (.int .i64 t325) := (blk_cell BK327.out 2).trans rfl
           have hcz69_3 : wc.cell? ⟨gb327,3,none⟩ = some (.int .i64 t326) := (blk_cell BK327.out 3).trans rfl
           have hfz69_0 := blk_frozen BK327.out 0
           have hfz69_1 := blk_frozen BK327.out 1
           have hfz69_2 := blk_frozen BK327.out 2
           have hfz69_3 := blk_frozen BK327.out 3
           have hnb70 := NB334_312.out
           have hnc70 := NB312_334.out
           have hcz71_0 : wc.cell? ⟨gb334,0,none⟩ = some (.int .i64 t328) := (blk_cell BK334.out 0).trans rfl
           have hcz71_1 : wc.cell? ⟨gb334,1,none⟩ = some (.slice Ao33 t329.length co33) := (blk_cell BK334.out 1).trans rfl
           have hcz71_2 : wc.cell? ⟨gb334,2,none⟩ = some (.int .i64 t332) := (blk_cell BK334.out 2).trans rfl
           have hcz71_3 : wc.cell? ⟨gb334,3,none⟩ = some (.int .i64 t333) := (blk_cell BK334.out 3).trans rfl
           have hfz71_0 := blk_frozen BK334.out 0
           have hfz71_1 := blk_frozen BK334.out 1
           have hfz71_2 := blk_frozen BK334.out 2
           have hfz71_3 := blk_frozen BK334.out 3
           have hcz72_0 : wc.cell? ⟨gb312,0,none⟩ = some (.string a0_0) := (blk_cell BK312.out 0).trans rfl
           have hcz72_1 : wc.cell? ⟨gb312,1,none⟩ = some (.string a0_1) := (blk_cell BK312.out 1).trans rfl
           have hcz72_2 : wc.cell? ⟨gb312,2,none⟩ = some (.int .i64 a0_2) := (blk_cell BK312.out 2).trans rfl
           have hcz72_3 : wc.cell? ⟨gb312,3,none⟩ = some (.int .i64 a0_3) := (blk_cell BK312.out 3).trans rfl
           have hfz72_0 := blk_frozen BK312.out 0
           have hfz72_1 := blk_frozen BK312.out 1
           have hfz72_2 := blk_frozen BK312.out 2
           have hfz72_3 := blk_frozen BK312.out 3
           go_wp2_with (first | ((with_reducible refine gate_builtin (b := .append) (xs := #[.tmp 74,.tmp 76]) rfl ?_);(try (refine gate_guard (by rfl) ?_;dsimp only));at_builtin;refine Kd.N_append_rows (Kd.slice 35 k35) (w0 := w) w.heap.size rfl (.tmp 74) (.tmp 76) 25 33 (.slice none 0 0) 24 rfl Tryd.underlying25 info33 rfl (by decide) (by omega) (.slice Ao25 t322.length co25) t322 t329 _ _ _ (fun k_ => some k_ ≠ (.slice Ao18 t315.length co18 : Value).ownBlock ∧ k_ ≠ gb312 ∧ k_ ≠ gb320 ∧ k_ ≠ gb327 ∧ k_ ≠ gb334) (fun k_ => ((fun k_ => some k_ ≠ (.slice Ao18 t315.length co18 : Value).ownBlock ∧ k_ ≠ gb312 ∧ k_ ≠ gb320 ∧ k_ ≠ gb327 ∧ k_ ≠ gb334)) k_ ∧ some k_ ≠ (.slice Ao25 t322.length co25 : Value).ownBlock) rfl rfl ?aO ?aR (fun _ hk => hk) ?aF ?aB ?aS ?aL ?_;(case aR => exact (by skip;exact Kd.N_F (Kd.N_mono (ok' := (fun k_ => ((fun k_ => some k_ ≠ (.slice Ao18 t315.length co18 : Value).ownBlock ∧ k_ ≠ gb312 ∧ k_ ≠ gb320 ∧ k_ ≠ gb327 ∧ k_ ≠ gb334)) k_ ∧ some k_ ≠ (.slice Ao25 t322.length co25 : Value).ownBlock)) (HO_335001.out) (fun k_ hk => ⟨⟨hk.1,⟨hk.2.2.1,⟨hk.2.2.2.1,⟨hk.2.2.2.2.1,hk.2.2.2.2.2⟩⟩⟩⟩,hk.2.1⟩))));(case aB => exact au9);(case aF => exact (fun k_ hk => ⟨Kd.fresh' (Kd.N_lt (by (with_reducible repeat (first | apply Kd.N_alloc | apply Kd.N_drewN | apply Kd.N_drew));exact HO_321001.out)) k_ hk,Kd.freshB (g := gb312) (o := .cells #[.string a0_0,.string a0_1,.int .i64 a0_2,.int .i64 a0_3] 23 (0,0)) au7 k_ hk,Kd.freshB (g := gb320) (o := .cells #[.int .i64 t314,.slice Ao18 t315.length co18,.int .i64 t318,.int .i64 t319] 29 (0,0)) au13 k_ hk,Kd.freshB (g := gb327) (o := .cells #[.int .i64 t321,.slice Ao25 t322.length co25,.int .i64 t325,.int .i64 t326] 29 (0,0)) au24 k_ hk,Kd.freshB (g := gb334) (o := .cells #[.int .i64 t328,.slice Ao33 t329.length co33,.int .i64 t332,.int .i64 t333] 29 (0,0)) (by (with_reducible repeat (first | refine blk_drewN ?_ _ | refine blk_drew ?_ | refine blk_alloc ?_ _));exact BK334.out) k_ hk⟩));(case aO => exact (by (with_reducible repeat (first | apply Kd.N_alloc | apply Kd.N_drewN | apply Kd.N_drew));exact Kd.N_mono HO_328001.out (fun _ hk => ⟨hk.1,⟨hk.2.2.1,⟨hk.2.2.2.1,⟨hk.2.2.2.2.1,hk.2.2.2.2.2⟩⟩⟩⟩)));(case aS => exact (below_size au9));(case aL => have := LMc61.out;omega);intro v336 w73 ho hb hg hat;rw [← Ny335.out] at ho;have n0_ := Aside0.mk (Kd.N_afterv (ok := (fun k_ => some k_ ≠ (.slice Ao33 t329.length co33 : Value).ownBlock ∧ k_ ≠ gb312 ∧ k_ ≠ gb320 ∧ k_ ≠ gb327 ∧ k_ ≠ gb334)) (by (with_reducible repeat (first | apply Kd.N_alloc | apply Kd.N_drewN | apply Kd.N_drew));exact Kd.N_mono HO_321001.out (fun _ hk => ⟨⟨hk.2.1,⟨hk.2.2.1,⟨hk.2.2.2.1,⟨hk.2.2.2.2.1,hk.2.2.2.2.2⟩⟩⟩⟩,hk.1⟩)) hg hat);have n1_ := Aside0.mk (Kd.N_afterv (ok := (fun k_ => some k_ ≠ (.slice Ao18 t315.length co18 : Value).ownBlock ∧ k_ ≠ gb312 ∧ k_ ≠ gb320 ∧ k_ ≠ gb327 ∧ k_ ≠ gb334)) (by (with_reducible repeat (first | apply Kd.N_alloc | apply Kd.N_drewN | apply Kd.N_drew));exact Kd.N_mono HO_335001.out (fun _ hk => ⟨⟨hk.1,⟨hk.2.2.1,⟨hk.2.2.2.1,⟨hk.2.2.2.2.1,hk.2.2.2.2.2⟩⟩⟩⟩,hk.2.1⟩)) hg hat);have n2_ := Aside0.mk (blk_grown (g := gb312) (o := .cells #[.string a0_0,.string a0_1,.int .i64 a0_2,.int .i64 a0_3] 23 (0,0)) au7 hg (Kd.N_ne HO_328001.out BK312.out (by decide)));have n3_ := Aside0.mk (blk_grown (g := gb320) (o := .cells #[.int .i64 t314,.slice Ao18 t315.length co18,.int .i64 t318,.int .i64 t319] 29 (0,0)) au13 hg (Kd.N_ne HO_328001.out BK320.out (by decide)));have n4_ := Aside0.mk (blk_grown (g := gb327) (o := .cells #[.int .i64 t321,.slice Ao25 t322.length co25,.int .i64 t325,.int .i64 t326] 29 (0,0)) au24 hg (Kd.N_ne HO_328001.out BK327.out (by decide)));have n5_ := Aside0.mk (blk_grown (g := gb334) (o := .cells #[.int .i64 t328,.slice Ao33 t329.length co33,.int .i64 t332,.int .i64 t333] 29 (0,0)) (by (with_reducible repeat (first | refine blk_drewN ?_ _ | refine blk_drew ?_ | refine blk_alloc ?_ _));exact BK334.out) hg (Kd.N_ne HO_328001.out BK334.out (by decide)));have n6_ := Aside0.mk (hb);have n7_ := Aside0.mk (ho);clear HO_321001;clear HO_335001;clear BK312;clear BK320;clear BK327;clear BK334;clear HB;clear HO_328001;have HO_321001 := n0_;have HO_335001 := n1_;have BK312 := n2_;have BK320 := n3_;have BK327 := n4_;have BK334 := n5_;have HB := n6_;have HO337 := n7_;clear n0_ n1_ n2_ n3_ n4_ n5_ n6_ n7_;clear ho hb hg hat;obtain ⟨Ao74,co74,eo74⟩ := Kd.N_slice HO337.out;subst eo74;have hcz75_0 : w73.cell? ⟨gb327,0,none⟩ = some (.int .i64 t321) := (blk_cell BK327.out 0).trans rfl;have hcz75_1 : w73.cell? ⟨gb327,1,none⟩ = some (.slice Ao25 t322.length co25) := (blk_cell BK327.out 1).trans rfl;have hcz75_2 : w73.cell? ⟨gb327,2,none⟩ = some (.int .i64 t325) := (blk_cell BK327.out 2).trans rfl;have hcz75_3 : w73.cell? ⟨gb327,3,none⟩ = some (.int .i64 t326) := (blk_cell BK327.out 3).trans rfl;have hfz75_0 := blk_frozen BK327.out 0;have hfz75_1 := blk_frozen BK327.out 1;have hfz75_2 := blk_frozen BK327.out 2;have hfz75_3 := blk_frozen BK327.out 3;have hcz76_0 : w73.cell? ⟨gb320,0,none⟩ = some (.int .i64 t314) := (blk_cell BK320.out 0).trans rfl;have hcz76_1 : w73.cell? ⟨gb320,1,none⟩ = some (.slice Ao18 t315.length co18) := (blk_cell BK320.out 1).trans rfl;have hcz76_2 : w73.cell? ⟨gb320,2,none⟩ = some (.int .i64 t318) := (blk_cell BK320.out 2).trans rfl;have hcz76_3 : w73.cell? ⟨gb320,3,none⟩ = some (.int .i64 t319) := (blk_cell BK320.out 3).trans rfl;have hfz76_0 := blk_frozen BK320.out 0;have hfz76_1 := blk_frozen BK320.out 1;have hfz76_2 := blk_frozen BK320.out 2;have hfz76_3 := blk_frozen BK320.out 3) | ((with_reducible refine gate_callee (f := 30) rfl ?_);refine goesL_ (some 84) rfl rfl Tryd.func30 (by kernel_rfl) rfl #[.agg #[.int .i64 t314,.slice Ao18 t315.length co18,.int .i64 t318,.int .i64 t319],.agg #[.int .i64 t321,.slice Ao74 y335.length co74,.int .i64 t318,.int .i64 t319]] rfl au1 ?_;(with_reducible refine (layout_Same.calls kj9 t314 _ _ t315 t318 t319 t321 _ _ y335 t318 t319 t338 _ ?side1 ?side2 ?side3 ?side4 A62.out).mono ?_);(case side1 => refine (Kd.N_reads' (e := 33) (base := w.heap.size) (ok := fun k_ => ((some k_ ≠ (.slice Ao33 t329.length co33 : Value).ownBlock ∧ (k_ ≠ gb312 ∧ (k_ ≠ gb320 ∧ (k_ ≠ gb327 ∧ k_ ≠ gb334)))) ∧ some k_ ≠ (.slice Ao74 y335.length co74 : Value).ownBlock)) (n := t315.length) (c := co18) ?_).2.2;exact au39);(case side2 => exact (Kd.N_reads' HO_321001.out).2.1);(case side3 => refine (Kd.N_reads' (e := 33) (base := w.heap.size) (ok := fun k_ => (some k_ ≠ (.slice Ao18 t315.length co18 : Value).ownBlock ∧ (k_ ≠ gb312 ∧ (k_ ≠ gb320 ∧ (k_ ≠ gb327 ∧ k_ ≠ gb334))))) (n := y335.length) (c := co74) ?_).2.2;exact (by (with_reducible repeat (first | apply Kd.N_alloc | apply Kd.N_drewN | apply Kd.N_drew));exact (Kd.N_mono (Kd.N_far (p := ⟨gb327,3,none⟩) (Kd.N_far (p := ⟨gb327,2,none⟩) (Kd.N_far (p := ⟨gb327,1,none⟩) (Kd.N_mono HO337.out (fun k_ hk => (⟨hk,hk.2.2.2.1⟩ : _ ∧ k_ ≠ gb327))) (fun _ hk => hk.2) (.slice Ao74 y335.length co74)) (fun _ hk => hk.2) (.int .i64 t318)) (fun _ hk => hk.2) (.int .i64 t319)) (fun _ h_ => h_.1))));(case side4 => exact (Kd.N_reads' HO337.out).2.1);rintro e w77 ⟨rfl,hb⟩;refine ⟨_,rfl,?_⟩;have n0_ := Aside0.mk (Kd.N_below au39 hb);have n1_ := Aside0.mk (Kd.N_below (by (with_reducible repeat (first | apply Kd.N_alloc | apply Kd.N_drewN | apply Kd.N_drew));exact (Kd.N_mono (Kd.N_far (p := ⟨gb327,3,none⟩) (Kd.N_far (p := ⟨gb327,2,none⟩) (Kd.N_far (p := ⟨gb327,1,none⟩) (Kd.N_mono HO_335001.out (fun k_ hk => (⟨hk,hk.1.2.2.2.1⟩ : _ ∧ k_ ≠ gb327))) (fun _ hk => hk.2) (.slice Ao74 y335.length co74)) (fun _ hk => hk.2) (.int .i64 t318)) (fun _ hk => hk.2) (.int .i64 t319)) (fun _ h_ => h_.1))) hb);have n2_ := Aside0.mk (Kd.N_below (by (with_reducible repeat (first | apply Kd.N_alloc | apply Kd.N_drewN | apply Kd.N_drew));exact (Kd.N_mono (Kd.N_far (p := ⟨gb327,3,none⟩) (Kd.N_far (p := ⟨gb327,2,none⟩) (Kd.N_far (p := ⟨gb327,1,none⟩) (Kd.N_mono HO337.out (fun k_ hk => (⟨hk,hk.2.2.2.1⟩ : _ ∧ k_ ≠ gb327))) (fun _ hk => hk.2) (.slice Ao74 y335.length co74)) (fun _ hk => hk.2) (.int .i64 t318)) (fun _ hk => hk.2) (.int .i64 t319)) (fun _ h_ => h_.1))) hb);have n3_ := Aside0.mk (blk_below (g := gb312) (o := .cells #[.string a0_0,.string a0_1,.int .i64 a0_2,.int .i64 a0_3] 23 (0,0)) au31 hb);have n4_ := Aside0.mk (blk_below (g := gb320) (o := .cells #[.int .i64 t314,.slice Ao18 t315.length co18,.int .i64 t318,.int .i64 t319] 29 (0,0)) au32 hb);have n5_ := Aside0.mk (blk_below (g := gb327) (o := .cells #[.int .i64 t321,.slice Ao74 y335.length co74,.int .i64 t318,.int .i64 t319] 29 (0,0)) (by (with_reducible repeat (first | refine blk_drewN ?_ _ | refine blk_drew ?_ | refine blk_alloc ?_ _));refine blk_put (cs := #[.int .i64 t321,.slice Ao74 y335.length co74,.int .i64 t318,.int .i64 t326]) ?_ 3 _ rfl;(with_reducible repeat (first | refine blk_drewN ?_ _ | refine blk_drew ?_ | refine blk_alloc ?_ _));refine blk_put (cs := #[.int .i64 t321,.slice Ao74 y335.length co74,.int .i64 t325,.int .i64 t326]) ?_ 2 _ rfl;(with_reducible repeat (first | refine blk_drewN ?_ _ | refine blk_drew ?_ | refine blk_alloc ?_ _));refine blk_put (cs := #[.int .i64 t321,.slice Ao25 t322.length co25,.int .i64 t325,.int .i64 t326]) ?_ 1 _ rfl;(with_reducible repeat (first | refine blk_drewN ?_ _ | refine blk_drew ?_ | refine blk_alloc ?_ _));exact BK327.out) hb);have n6_ := Aside0.mk (blk_below (g := gb334) (o := .cells #[.int .i64 t328,.slice Ao33 t329.length co33,.int .i64 t332,.int .i64 t333] 29 (0,0)) au33 hb);have n7_ := Aside0.mk (below_step au9 hb);clear HO_321001;clear HO_335001;clear HO337;clear BK312;clear BK320;clear BK327;clear BK334;clear HB;have HO_321001 := n0_;have HO_335001 := n1_;have HO337 := n2_;have BK312 := n3_;have BK320 := n4_;have BK327 := n5_;have BK334 := n6_;have HB := n7_;clear n0_ n1_ n2_ n3_ n4_ n5_ n6_ n7_;(try clear hb);(try clear hb2);(try clear hk);(try clear hi)))
           go_ret
           exact ⟨au2,by repeat (first | (with_reducible first | exact HB.out | apply below_alloc | apply pw_below_drewN | apply below_drew1 | refine below_set ?_ GE312.out | refine below_set ?_ GE320.out | refine below_set ?_ GE327.out | refine below_set ?_ GE334.out) | exact HB.out)⟩
          ·rw [if_neg c61] at H
           exact absurd H (by simp)
        ·rw [if_neg c49] at H
         have c49b0 : decide (a0_2 ≤ (a0_1.size : Int)) = false := decide_eq_false c49
         clear c49
         by_cases c78 : t322.length + t329.length < 5864062014805
         ·rw [if_pos c78] at H
          have LMc78 := Aside0.mk c78
          clear c78
          obtain ⟨y339,hy339⟩ : ∃ y_ : List (List (S35)),y_ = (t322 ++ t329) := ⟨_,rfl⟩
          replace H : ((layout_Same.f kj9 t314 t315 t318 t319 t321 y339 t318 t319).bind fun t342 => (some t342)) = some r := by first | (rw [hy339];with_reducible exact H) | (have H2_ := (Option.bind_some _ _).symm.trans H;rw [hy339];with_reducible exact H2_) | (have H2_ := (Option.bind_some _ _).symm.trans H;with_reducible exact H2_) | with_reducible exact H | (rw [hy339];exact H) | exact H
          have Ny339 := Aside0.mk hy339
          clear hy339
          replace H := Option.bind_eq_some_iff.mp H
          obtain ⟨t342,A790,H⟩ := H
          replace H : (some t342) = some r := H
          have A79 := Aside0.mk A790
          clear A790
          obtain rfl := Option.some.inj H
          have hnb80 := NB320_312.out
          have hnc80 := NB312_320.out
          have hnb81 := NB320_327.out
          have hnc81 := NB327_320.out
          have hnb82 := NB320_334.out
          have hnc82 := NB334_320.out
          have hcz83_0 : wc.cell? ⟨gb320,0,none⟩ = some (.int .i64 t314) := (blk_cell BK320.out 0).trans rfl
          have hcz83_1 : wc.cell? ⟨gb320,1,none⟩ = some (.slice Ao18 t315.length co18) := (blk_cell BK320.out 1).trans rfl
          have hcz83_2 : wc.cell? ⟨gb320,2,none⟩ = some (.int .i64 t318) := (blk_cell BK320.out 2).trans rfl
          have hcz83_3 : wc.cell? ⟨gb320,3,none⟩ = some (.int .i64 t319) := (blk_cell BK320.out 3).trans rfl
          have hfz83_0 := blk_frozen BK320.out 0
          have hfz83_1 := blk_frozen BK320.out 1
          have hfz83_2 := blk_frozen BK320.out 2
          have hfz83_3 := blk_frozen BK320.out 3
          have hnb84 := NB327_312.out
          have hnc84 := NB312_327.out
          have hnb85 := NB327_334.out
          have hnc85 := NB334_327.out
          have hcz86_0 : wc.cell? ⟨gb327,0,none⟩ = some (.int .i64 t321) := (blk_cell BK327.out 0).trans rfl
          have hcz86_1 : wc.cell? ⟨gb327,1,none⟩ = some (.slice Ao25 t322.length co25) := (blk_cell BK327.out 1).trans rfl
          have hcz86_2 : wc.cell? ⟨gb327,2,none⟩ = some (.int .i64 t325) := (blk_cell BK327.out 2).trans rfl
          have hcz86_3 : wc.cell? ⟨gb327,3,none⟩ = some (.int .i64 t326) := (blk_cell BK327.out 3).trans rfl
          have hfz86_0 := blk_frozen BK327.out 0
          have hfz86_1 := blk_frozen BK327.out 1
          have hfz86_2 := blk_frozen BK327.out 2
          have hfz86_3 := blk_frozen BK327.out 3
          have hnb87 := NB334_312.out
          have hnc87 := NB312_334.out
          have hcz88_0 : wc.cell? ⟨gb334,0,none⟩ = some (.int .i64 t328) := (blk_cell BK334.out 0).trans rfl
          have hcz88_1 : wc.cell? ⟨gb334,1,none⟩ = some (.slice Ao33 t329.length co33) := (blk_cell BK334.out 1).trans rfl
          have hcz88_2 : wc.cell? ⟨gb334,2,none⟩ = some (.int .i64 t332) := (blk_cell BK334.out 2).trans rfl
          have hcz88_3 : wc.cell? ⟨gb334,3,none⟩ = some (.int .i64 t333) := (blk_cell BK334.out 3).trans rfl
          have hfz88_0 := blk_frozen BK334.out 0
          have hfz88_1 := blk_frozen BK334.out 1
          have hfz88_2 := blk_frozen BK334.out 2
          have hfz88_3 := blk_frozen BK334.out 3
          have hcz89_0 : wc.cell? ⟨gb312,0,none⟩ = some (.string a0_0) := (blk_cell BK312.out 0).trans rfl
          have hcz89_1 : wc.cell? ⟨gb312,1,none⟩ = some (.string a0_1) := (blk_cell BK312.out 1).trans rfl
          have hcz89_2 : wc.cell? ⟨gb312,2,none⟩ = some (.int .i64 a0_2) := (blk_cell BK312.out 2).trans rfl
          have hcz89_3 : wc.cell? ⟨gb312,3,none⟩ = some (.int .i64 a0_3) := (blk_cell BK312.out 3).trans rfl
          have hfz89_0 := blk_frozen BK312.out 0
          have hfz89_1 := blk_frozen BK312.out 1
          have hfz89_2 := blk_frozen BK312.out 2
          have hfz89_3 := blk_frozen BK312.out 3
          go_wp2_with (first | ((with_reducible refine gate_builtin (b := .append) (xs := #[.tmp 74,.tmp 76]) rfl ?_);(try (refine gate_guard (by rfl) ?_;dsimp only));at_builtin;refine Kd.N_append_rows (Kd.slice 35 k35) (w0 := w) w.heap.size rfl (.tmp 74) (.tmp 76) 25 33 (.slice none 0 0) 24 rfl Tryd.underlying25 info33 rfl (by decide) (by omega) (.slice Ao25 t322.length co25) t322 t329 _ _ _ (fun k_ => some k_ ≠ (.slice Ao18 t315.length co18 : Value).ownBlock ∧ k_ ≠ gb312 ∧ k_ ≠ gb320 ∧ k_ ≠ gb327 ∧ k_ ≠ gb334) (fun k_ => ((fun k_ => some k_ ≠ (.slice Ao18 t315.length co18 : Value).ownBlock ∧ k_ ≠ gb312 ∧ k_ ≠ gb320 ∧ k_ ≠ gb327 ∧ k_ ≠ gb334)) k_ ∧ some k_ ≠ (.slice Ao25 t322.length co25 : Value).ownBlock) rfl rfl ?aO ?aR (fun _ hk => hk) ?aF ?aB ?aS ?aL ?_;(case aR => exact (by skip;exact Kd.N_F (Kd.N_mono (ok' := (fun k_ => ((fun k_ => some k_ ≠ (.slice Ao18 t315.length co18 : Value).ownBlock ∧ k_ ≠ gb312 ∧ k_ ≠ gb320 ∧ k_ ≠ gb327 ∧ k_ ≠ gb334)) k_ ∧ some k_ ≠ (.slice Ao25 t322.length co25 : Value).ownBlock)) (HO_335001.out) (fun k_ hk => ⟨⟨hk.1,⟨hk.2.2.1,⟨hk.2.2.2.1,⟨hk.2.2.2.2.1,hk.2.2.2.2.2⟩⟩⟩⟩,hk.2.1⟩))));(case aB => exact au9);(case aF => exact (fun k_ hk => ⟨Kd.fresh' (Kd.N_lt (by (with_reducible repeat (first | apply Kd.N_alloc | apply Kd.N_drewN | apply Kd.N_drew));exact HO_321001.out)) k_ hk,Kd.freshB (g := gb312) (o := .cells #[.string a0_0,.string a0_1,.int .i64 a0_2,.int .i64 a0_3] 23 (0,0)) au7 k_ hk,Kd.freshB (g := gb320) (o := .cells #[.int .i64 t314,.slice Ao18 t315.length co18,.int .i64 t318,.int .i64 t319] 29 (0,0)) au13 k_ hk,Kd.freshB (g := gb327) (o := .cells #[.int .i64 t321,.slice Ao25 t322.length co25,.int .i64 t325,.int .i64 t326] 29 (0,0)) au24 k_ hk,Kd.freshB (g := gb334) (o := .cells #[.int .i64 t328,.slice Ao33 t329.length co33,.int .i64 t332,.int .i64 t333] 29 (0,0)) (by (with_reducible repeat (first | refine blk_drewN ?_ _ | refine blk_drew ?_ | refine blk_alloc ?_ _));exact BK334.out) k_ hk⟩));(case aO => exact (by (with_reducible repeat (first | apply Kd.N_alloc | apply Kd.N_drewN | apply Kd.N_drew));exact Kd.N_mono HO_328001.out (fun _ hk => ⟨hk.1,⟨hk.2.2.1,⟨hk.2.2.2.1,⟨hk.2.2.2.2.1,hk.2.2.2.2.2⟩⟩⟩⟩)));(case aS => exact (below_size au9));(case aL => have := LMc78.out;omega);intro v340 w90 ho hb hg hat;rw [← Ny339.out] at ho;have n0_ := Aside0.mk (Kd.N_afterv (ok := (fun k_ => some k_ ≠ (.slice Ao33 t329.length co33 : Value).ownBlock ∧ k_ ≠ gb312 ∧ k_ ≠ gb320 ∧ k_ ≠ gb327 ∧ k_ ≠ gb334)) (by (with_reducible repeat (first | apply Kd.N_alloc | apply Kd.N_drewN | apply Kd.N_drew));exact Kd.N_mono HO_321001.out (fun _ hk => ⟨⟨hk.2.1,⟨hk.2.2.1,⟨hk.2.2.2.1,⟨hk.2.2.2.2.1,hk.2.2.2.2.2⟩⟩⟩⟩,hk.1⟩)) hg hat);have n1_ := Aside0.mk (Kd.N_afterv (ok := (fun k_ => some k_ ≠ (.slice Ao18 t315.length co18 : Value).ownBlock ∧ k_ ≠ gb312 ∧ k_ ≠ gb320 ∧ k_ ≠ gb327 ∧ k_ ≠ gb334)) (by (with_reducible repeat (first | apply Kd.N_alloc | apply Kd.N_drewN | apply Kd.N_drew));exact Kd.N_mono HO_335001.out (fun _ hk => ⟨⟨hk.1,⟨hk.2.2.1,⟨hk.2.2.2.1,⟨hk.2.2.2.2.1,hk.2.2.2.2.2⟩⟩⟩⟩,hk.2.1⟩)) hg hat);have n2_ := Aside0.mk (blk_grown (g := gb312) (o := .cells #[.string a0_0,.string a0_1,.int .i64 a0_2,.int .i64 a0_3] 23 (0,0)) au7 hg (Kd.N_ne HO_328001.out BK312.out (by decide)));have n3_ := Aside0.mk (blk_grown (g := gb320) (o := .cells #[.int .i64 t314,.slice Ao18 t315.length co18,.int .i64 t318,.int .i64 t319] 29 (0,0)) au13 hg (Kd.N_ne HO_328001.out BK320.out (by decide)));have n4_ := Aside0.mk (blk_grown (g := gb327) (o := .cells #[.int .i64 t321,.slice Ao25 t322.length co25,.int .i64 t325,.int .i64 t326] 29 (0,0)) au24 hg (Kd.N_ne HO_328001.out BK327.out (by decide)));have n5_ := Aside0.mk (blk_grown (g := gb334) (o := .cells #[.int .i64 t328,.slice Ao33 t329.length co33,.int .i64 t332,.int .i64 t333] 29 (0,0)) (by (with_reducible repeat (first | refine blk_drewN ?_ _ | refine blk_drew ?_ | refine blk_alloc ?_ _));exact BK334.out) hg (Kd.N_ne HO_328001.out BK334.out (by decide)));have n6_ := Aside0.mk (hb);have n7_ := Aside0.mk (ho);clear HO_321001;clear HO_335001;clear BK312;clear BK320;clear BK327;clear BK334;clear HB;clear HO_328001;have HO_321001 := n0_;have HO_335001 := n1_;have BK312 := n2_;have BK320 := n3_;have BK327 := n4_;have BK334 := n5_;have HB := n6_;have HO341 := n7_;clear n0_ n1_ n2_ n3_ n4_ n5_ n6_ n7_;clear ho hb hg hat;obtain ⟨Ao91,co91,eo91⟩ := Kd.N_slice HO341.out;subst eo91;have hcz92_0 : w90.cell? ⟨gb327,0,none⟩ = some (.int .i64 t321) := (blk_cell BK327.out 0).trans rfl;have hcz92_1 : w90.cell? ⟨gb327,1,none⟩ = some (.slice Ao25 t322.length co25) := (blk_cell BK327.out 1).trans rfl;have hcz92_2 : w90.cell? ⟨gb327,2,none⟩ = some (.int .i64 t325) := (blk_cell BK327.out 2).trans rfl;have hcz92_3 : w90.cell? ⟨gb327,3,none⟩ = some (.int .i64 t326) := (blk_cell BK327.out 3).trans rfl;have hfz92_0 := blk_frozen BK327.out 0;have hfz92_1 := blk_frozen BK327.out 1;have hfz92_2 := blk_frozen BK327.out 2;have hfz92_3 := blk_frozen BK327.out 3;have hcz93_0 : w90.cell? ⟨gb320,0,none⟩ = some (.int .i64 t314) := (blk_cell BK320.out 0).trans rfl;have hcz93_1 : w90.cell? ⟨gb320,1,none⟩ = some (.slice Ao18 t315.length co18) := (blk_cell BK320.out 1).trans rfl;have hcz93_2 : w90.cell? ⟨gb320,2,none⟩ = some (.int .i64 t318) := (blk_cell BK320.out 2).trans rfl;have hcz93_3 : w90.cell? ⟨gb320,3,none⟩ = some (.int .i64 t319) := (blk_cell BK320.out 3).trans rfl;have hfz93_0 := blk_frozen BK320.out 0;have hfz93_1 := blk_frozen BK320.out 1;have hfz93_2 := blk_frozen BK320.out 2;have hfz93_3 := blk_frozen BK320.out 3) | ((with_reducible refine gate_callee (f := 30) rfl ?_);refine goesL_ (some 84) rfl rfl Tryd.func30 (by kernel_rfl) rfl #[.agg #[.int .i64 t314,.slice Ao18 t315.length co18,.int .i64 t318,.int .i64 t319],.agg #[.int .i64 t321,.slice Ao91 y339.length co91,.int .i64 t318,.int .i64 t319]] rfl au1 ?_;(with_reducible refine (layout_Same.calls kj9 t314 _ _ t315 t318 t319 t321 _ _ y339 t318 t319 t342 _ ?side1 ?side2 ?side3 ?side4 A79.out).mono ?_);(case side1 => refine (Kd.N_reads' (e := 33) (base := w.heap.size) (ok := fun k_ => ((some k_ ≠ (.slice Ao33 t329.length co33 : Value).ownBlock ∧ (k_ ≠ gb312 ∧ (k_ ≠ gb320 ∧ (k_ ≠ gb327 ∧ k_ ≠ gb334)))) ∧ some k_ ≠ (.slice Ao91 y339.length co91 : Value).ownBlock)) (n := t315.length) (c := co18) ?_).2.2;exact (by (with_reducible repeat (first | apply Kd.N_alloc | apply Kd.N_drewN | apply Kd.N_drew));exact (Kd.N_mono (Kd.N_far (p := ⟨gb327,3,none⟩) (Kd.N_far (p := ⟨gb327,2,none⟩) (Kd.N_far (p := ⟨gb327,1,none⟩) (Kd.N_mono HO_321001.out (fun k_ hk => (⟨hk,hk.1.2.2.2.1⟩ : _ ∧ k_ ≠ gb327))) (fun _ hk => hk.2) (.slice Ao91 y339.length co91)) (fun _ hk => hk.2) (.int .i64 t318)) (fun _ hk => hk.2) (.int .i64 t319)) (fun _ h_ => h_.1))));(case side2 => exact (Kd.N_reads' HO_321001.out).2.1);(case side3 => refine (Kd.N_reads' (e := 33) (base := w.heap.size) (ok := fun k_ => (some k_ ≠ (.slice Ao18 t315.length co18 : Value).ownBlock ∧ (k_ ≠ gb312 ∧ (k_ ≠ gb320 ∧ (k_ ≠ gb327 ∧ k_ ≠ gb334))))) (n := y339.length) (c := co91) ?_).2.2;exact (by (with_reducible repeat (first | apply Kd.N_alloc | apply Kd.N_drewN | apply Kd.N_drew));exact (Kd.N_mono (Kd.N_far (p := ⟨gb327,3,none⟩) (Kd.N_far (p := ⟨gb327,2,none⟩) (Kd.N_far (p := ⟨gb327,1,none⟩) (Kd.N_mono HO341.out (fun k_ hk => (⟨hk,hk.2.2.2.1⟩ : _ ∧ k_ ≠ gb327))) (fun _ hk => hk.2) (.slice Ao91 y339.length co91)) (fun _ hk => hk.2) (.int .i64 t318)) (fun _ hk => hk.2) (.int .i64 t319)) (fun _ h_ => h_.1))));(case side4 => exact (Kd.N_reads' HO341.out).2.1);rintro e w94 ⟨rfl,hb⟩;refine ⟨_,rfl,?_⟩;have n0_ := Aside0.mk (Kd.N_below (by (with_reducible repeat (first | apply Kd.N_alloc | apply Kd.N_drewN | apply Kd.N_drew));exact (Kd.N_mono (Kd.N_far (p := ⟨gb327,3,none⟩) (Kd.N_far (p := ⟨gb327,2,none⟩) (Kd.N_far (p := ⟨gb327,1,none⟩) (Kd.N_mono HO_321001.out (fun k_ hk => (⟨hk,hk.1.2.2.2.1⟩ : _ ∧ k_ ≠ gb327))) (fun _ hk => hk.2) (.slice Ao91 y339.length co91)) (fun _ hk => hk.2) (.int .i64 t318)) (fun _ hk => hk.2) (.int .i64 t319)) (fun _ h_ => h_.1))) hb);have n1_ := Aside0.mk (Kd.N_below (by (with_reducible repeat (first | apply Kd.N_alloc | apply Kd.N_drewN | apply Kd.N_drew));exact (Kd.N_mono (Kd.N_far (p := ⟨gb327,3,none⟩) (Kd.N_far (p := ⟨gb327,2,none⟩) (Kd.N_far (p := ⟨gb327,1,none⟩) (Kd.N_mono HO_335001.out (fun k_ hk => (⟨hk,hk.1.2.2.2.1⟩ : _ ∧ k_ ≠ gb327))) (fun _ hk => hk.2) (.slice Ao91 y339.length co91)) (fun _ hk => hk.2) (.int .i64 t318)) (fun _ hk => hk.2) (.int .i64 t319)) (fun _ h_ => h_.1))) hb);have n2_ := Aside0.mk (Kd.N_below (by (with_reducible repeat (first | apply Kd.N_alloc | apply Kd.N_drewN | apply Kd.N_drew));exact (Kd.N_mono (Kd.N_far (p := ⟨gb327,3,none⟩) (Kd.N_far (p := ⟨gb327,2,none⟩) (Kd.N_far (p := ⟨gb327,1,none⟩) (Kd.N_mono HO341.out (fun k_ hk => (⟨hk,hk.2.2.2.1⟩ : _ ∧ k_ ≠ gb327))) (fun _ hk => hk.2) (.slice Ao91 y339.length co91)) (fun _ hk => hk.2) (.int .i64 t318)) (fun _ hk => hk.2) (.int .i64 t319)) (fun _ h_ => h_.1))) hb);have n3_ := Aside0.mk (blk_below (g := gb312) (o := .cells #[.string a0_0,.string a0_1,.int .i64 a0_2,.int .i64 a0_3] 23 (0,0)) au31 hb);have n4_ := Aside0.mk (blk_below (g := gb320) (o := .cells #[.int .i64 t314,.slice Ao18 t315.length co18,.int .i64 t318,.int .i64 t319] 29 (0,0)) au32 hb);have n5_ := Aside0.mk (blk_below (g := gb327) (o := .cells #[.int .i64 t321,.slice Ao91 y339.length co91,.int .i64 t318,.int .i64 t319] 29 (0,0)) (by (with_reducible repeat (first | refine blk_drewN ?_ _ | refine blk_drew ?_ | refine blk_alloc ?_ _));refine blk_put (cs := #[.int .i64 t321,.slice Ao91 y339.length co91,.int .i64 t318,.int .i64 t326]) ?_ 3 _ rfl;(with_reducible repeat (first | refine blk_drewN ?_ _ | refine blk_drew ?_ | refine blk_alloc ?_ _));refine blk_put (cs := #[.int .i64 t321,.slice Ao91 y339.length co91,.int .i64 t325,.int .i64 t326]) ?_ 2 _ rfl;(with_reducible repeat (first | refine blk_drewN ?_ _ | refine blk_drew ?_ | refine blk_alloc ?_ _));refine blk_put (cs := #[.int .i64 t321,.slice Ao25 t322.length co25,.int .i64 t325,.int .i64 t326]) ?_ 1 _ rfl;(with_reducible repeat (first | refine blk_drewN ?_ _ | refine blk_drew ?_ | refine blk_alloc ?_ _));exact BK327.out) hb);have n6_ := Aside0.mk (blk_below (g := gb334) (o := .cells #[.int .i64 t328,.slice Ao33 t329.length co33,.int .i64 t332,.int .i64 t333] 29 (0,0)) au33 hb);have n7_ := Aside0.mk (below_step au9 hb);clear HO_321001;clear HO_335001;clear HO341;clear BK312;clear BK320;clear BK327;clear BK334;clear HB;have HO_321001 := n0_;have HO_335001 := n1_;have HO341 := n2_;have BK312 := n3_;have BK320 := n4_;have BK327 := n5_;have BK334 := n6_;have HB := n7_;clear n0_ n1_ n2_ n3_ n4_ n5_ n6_ n7_;(try clear hb);(try clear hb2);(try clear hk);(try clear hi)))
          go_ret
          exact ⟨au2,by repeat (first | (with_reducible first | exact HB.out | apply below_alloc | apply pw_below_drewN | apply below_drew1 | refine below_set ?_ GE312.out | refine below_set ?_ GE320.out | refine below_set ?_ GE327.out | refine below_set ?_ GE334.out) | exact HB.out)⟩
         ·rw [if_neg c78] at H
          exact absurd H (by simp)
       ·rw [if_neg c48] at H
        have c48b0 : ((t315.length : Int) == (wrap64 ((t322.length : Int) + (t329.length : Int)))) = false := beq_eq_false_iff_ne.mpr c48
        have c48b1 : ((t315.length : Int) != (wrap64 ((t322.length : Int) + (t329.length : Int)))) = true := bne_iff_ne.mpr c48
        obtain rfl := Option.some.inj H
        cases hr_
   ·rw [if_neg c6] at H
    exact absurd H (by simp)
  ·rw [if_neg c5] at H
   exact absurd H (by simp)
 ·replace c4 := Bool.eq_false_iff.mpr c4
  subst c4
  have H1 : (some false) = some r := by rw [if_neg (show ¬ (false = true) by decide)] at H;exact H
  clear H
  have H := H1
  clear H1
  obtain rfl := Option.some.inj H
  cases hr_
end Go.Proofs.YtnpjaaldppemlaaDoor.U
end
section
namespace Go.Proofs.YtnpjaaldppemlaaDoor.Pu
open Go Go.RowKit Go.Proofs.YtnpjaaldppemlaaDoor.Mu Go.Proofs.YtnpjaaldppemlaaDoor.U Go.Proofs.YtnpjaaldppemlaaDoorW.PrintWords Go.Proofs.YtnpjaaldppemlaaDoorW.PrintLast Go.Proofs.YtnpjaaldppemlaaDoorW.PrintMore
set_option linter.unusedVariables false
theorem ev_if {α : Type} {c : Prop} [Decidable c] {a b : Nat → Option α} {v v' : α} (h : c → Ev a v) (h' : ¬ c → Ev b v') : Ev (fun k => if c then a k else b k) (if c then v else v') := by
 by_cases hc : c
 ·rw [if_pos hc];exact ev_pos hc (h hc)
 ·rw [if_neg hc];exact ev_neg hc (h' hc)
theorem ne_len {a b : Nat} (h : ((a : Int) != (b : Int)) = false) : a = b := by
 have h3 : (a : Int) = (b : Int) := by simpa using h
 omega
abbrev Cz := S35
/-- Do the n cells from number i on differ nowhere? -/
def rowFrom (a b : List Cz) : Nat → Nat → Bool
 | 0,_ => true
 | n + 1,i => if (!(((rd_T35 a (i : Int)).f0.toList) == ((rd_T35 b (i : Int)).f0.toList)) || (!((rd_T35 a (i : Int)).f1 == (rd_T35 b (i : Int)).f1))) = true then false else rowFrom a b n (i + 1)
def rowE (a b : List Cz) : Bool := if (a.length : Int) = (b.length : Int) then rowFrom a b a.length 0 else false
def rowsFrom (A B : List (List Cz)) : Nat → Nat → Bool
 | 0,_ => true
 | n + 1,i => if rowE (rd_L3 A (i : Int)) (rd_L3 B (i : Int)) = true then rowsFrom A B n (i + 1) else false
/-- The same frames. -/
def frE (w : Int) (A : List (List Cz)) (r c w' : Int) (B : List (List Cz)) (r' c' : Int) : Bool := if w = w' then (if (!(r == r') || (!(c == c'))) = true then false else if ((A.length : Int) != (B.length : Int)) = true then false else rowsFrom A B A.length 0) else false
theorem rowFrom_refl (a : List Cz) : ∀ n i,rowFrom a a n i = true
 | 0,_ => rfl
 | n + 1,i => by rw [rowFrom,if_neg (by simp)];exact rowFrom_refl a n (i + 1)
theorem rowE_refl (a : List Cz) : rowE a a = true := by unfold rowE;rw [if_pos rfl];exact rowFrom_refl a _ _
theorem rowsFrom_refl (A : List (List Cz)) : ∀ n i,rowsFrom A A n i = true
 | 0,_ => rfl
 | n + 1,i => by rw [rowsFrom,if_pos (rowE_refl _)];exact rowsFrom_refl A n (i + 1)
theorem frE_refl (w : Int) (A : List (List Cz)) (r c : Int) : frE w A r c w A r c = true := by
 unfold frE
 rw [if_pos rfl,if_neg (by simp),if_neg (by simp)]
 exact rowsFrom_refl A _ _
/-- No row is too long. -/
def Rb (A : List (List Cz)) : Prop := A.length ≤ 1099511627776 ∧ ∀ i : Int,(rd_L3 A i).length ≤ 1099511627776
theorem lsame_row (w r c w' r' c' : Int) (A B : List (List Cz)) (hA : Rb A) (hB : A.length = B.length) (m i : Nat) (hi : i < A.length) (x30 : Int) (hl : (rd_L3 A (i : Int)).length = (rd_L3 B (i : Int)).length) (v : Bool) (hn : Ev (fun k => layout_Same.l0 k x30 (wrap64 ((i : Int) + 1)) w A r c w' B r' c') v) : ∀ n j : Nat,j + n = (rd_L3 A (i : Int)).length →
  Ev (fun k => layout_Same.l1 k (i : Int) x30 (i : Int) ((rd_L3 A (i : Int)).length : Int) (j : Int) w A r c w' B r' c') (if rowFrom (rd_L3 A (i : Int)) (rd_L3 B (i : Int)) n j = true then v else false) := by
 have hA1 := hA.1
 have hA2 := hA.2 (i : Int)
 intro n
 induction n with
 | zero => intro j hj;exact Ev.step (fun k => layout_Same.l1.eq_2 ..) (ev_neg (by omega) hn)
 | succ n ih =>
  intro j hj
  refine Ev.step (fun k => layout_Same.l1.eq_2 ..) (ev_pos (by omega) (ev_pos (by omega) (ev_pos (by omega) (ev_pos (by omega) (ev_pos (by omega) (ev_pos (by omega) (ev_pos (by omega) ?_)))))))
  rw [rowFrom]
  by_cases h : (!(((rd_T35 (rd_L3 A (i : Int)) (j : Int)).f0.toList) == ((rd_T35 (rd_L3 B (i : Int)) (j : Int)).f0.toList)) || (!((rd_T35 (rd_L3 A (i : Int)) (j : Int)).f1 == (rd_T35 (rd_L3 B (i : Int)) (j : Int)).f1))) = true
  ·rw [if_pos h]
   exact ev_pos h (ev_now rfl)
  ·rw [if_neg h]
   refine ev_neg h ?_
   rw [w64 (by omega) (by omega)]
   exact ih (j + 1) (by omega)
theorem lsame_loop (w r c w' r' c' : Int) (A B : List (List Cz)) (hA : Rb A) (hB : A.length = B.length) : ∀ n i : Nat,i + n = A.length → Ev (fun k => layout_Same.l0 k (A.length : Int) (i : Int) w A r c w' B r' c') (rowsFrom A B n i) := by
 have hA1 := hA.1
 intro n
 induction n with
 | zero => intro i hi;exact Ev.step (fun k => layout_Same.l0.eq_2 ..) (ev_neg (by omega) (Ev.now _))
 | succ n ih =>
  intro i hi
  refine Ev.step (fun k => layout_Same.l0.eq_2 ..) (ev_pos (by omega) (ev_pos (by omega) (ev_pos (by omega) (ev_pos (by omega) ?_))))
  rw [rowsFrom]
  by_cases h : ((rd_L3 A (i : Int)).length : Int) = ((rd_L3 B (i : Int)).length : Int)
  ·refine ev_pos h ?_
   have hn : Ev (fun k => layout_Same.l0 k (A.length : Int) (wrap64 ((i : Int) + 1)) w A r c w' B r' c') (rowsFrom A B n (i + 1)) := by
    rw [w64 (by omega) (by omega)]
    exact ih (i + 1) (by omega)
   have := lsame_row w r c w' r' c' A B hA hB n i (by omega) _ (by omega) _ hn (rd_L3 A (i : Int)).length 0 (by omega)
   unfold rowE
   rw [if_pos h]
   exact this
  ·refine ev_neg h (ev_now ?_)
   unfold rowE
   rw [if_neg h]
   rfl
theorem lsame_j (w r c w' r' c' : Int) (A B : List (List Cz)) (hA : Rb A) (b : Bool) (hb : b = false → A.length = B.length) : Ev (fun k => layout_Same.j0 k b w A r c w' B r' c') (if b = true then false else rowsFrom A B A.length 0) := by
 refine Ev.step (fun k => layout_Same.j0.eq_2 ..) ?_
 cases b with
 | true => exact ev_pos rfl (Ev.now _)
 | false => exact ev_neg (by simp) (lsame_loop w r c w' r' c' A B hA (hb rfl) A.length 0 (by omega))
theorem lsame_ans (w r c w' r' c' : Int) (A B : List (List Cz)) (hA : Rb A) : Ev (fun k => layout_Same.f k w A r c w' B r' c') (frE w A r c w' B r' c') := by
 unfold layout_Same.f frE
 refine ev_if (fun h => ev_if (fun h2 => ?_) (fun h2 => ?_)) (fun h => ?_)
 ·exact lsame_j w r c w' r' c' A B hA true (by simp)
 ·exact lsame_j w r c w' r' c' A B hA _ ne_len
 ·exact lsame_j w r c w' r' c' A B hA true (by simp)
theorem lsame_refl (w r c : Int) (A : List (List Cz)) (hA : Rb A) : Ev (fun k => layout_Same.f k w A r c w A r c) true := by
 have h := lsame_ans w r c w r c A A hA
 rwa [frE_refl] at h
end Go.Proofs.YtnpjaaldppemlaaDoor.Pu
end
section
namespace Go.Proofs.YtnpjaaldppemlaaDoor.Pu
open Go Go.RowKit Go.Proofs.YtnpjaaldppemlaaDoor.Mu Go.Proofs.YtnpjaaldppemlaaDoor.U Go.Proofs.YtnpjaaldppemlaaDoorW.PrintWords Go.Proofs.YtnpjaaldppemlaaDoorW.PrintLast Go.Proofs.YtnpjaaldppemlaaDoorW.PrintMore
set_option linter.unusedVariables false
theorem awake20 : Ev (fun k => bodkinlaw20_awake.f k) true := Ev.of (fun k => bodkinlaw20_awake.mono k) (k := 200) (by kernel_rfl)
theorem cntW_in (w : Int) : 1 ≤ cntW w ∧ cntW w ≤ 65535 := held_in (held_w w)
theorem cf1_pos (t : ByteArray) (c : S60) (h : c ∈ clusL t) : 1 ≤ c.f1 := by
 obtain ⟨i,hci,hi,rfl⟩ := clus_mem t t.size 0 (cb_zero t) c h
 have := nxt_pos t i hi
 show (1 : Int) ≤ (nxt t i : Int)
 omega
theorem atL_cur (wd : Int) (t : ByteArray) (cur : Int) : ∀ (cs : List S60) (s : Ly × (Int × Int)),(∀ c ∈ cs,1 ≤ c.f1) → atL wd t (if cur < 0 then 0 else cur) s cs = atL wd t cur s cs
 | [],_,_ => rfl
 | c :: cs,s,h => by
  have h1 := h c (by simp)
  have e : atF wd t (if cur < 0 then 0 else cur) s c = atF wd t cur s c := by
   unfold atF
   by_cases hn : cur < 0
   ·rw [if_pos hn,if_neg (by omega),if_neg (by omega)]
   ·rw [if_neg hn]
  show atL wd t _ (atF wd t _ s c) cs = atL wd t cur (atF wd t cur s c) cs
  rw [e]
  exact atL_cur wd t cur cs _ (fun c hc => h c (List.mem_cons_of_mem _ hc))
theorem endL_cur (p t : ByteArray) (cur w : Int) : endL p t (if cur < 0 then 0 else cur) w = endL p t cur w := atL_cur _ t cur _ _ (fun c hc => cf1_pos t c hc)
theorem rowsL_cur (p t : ByteArray) (cur w : Int) : rowsL p t (if cur < 0 then 0 else cur) w = rowsL p t cur w := by unfold rowsL;rw [endL_cur]
/-- The rows do not hang on the cursor. -/
theorem rowsL_eq (p t : ByteArray) (cur w : Int) : rowsL p t cur w = (((layL (cntW w) t (st0L p w) (clusL t)).1 ++ [(layL (cntW w) t (st0L p w) (clusL t)).2])).map trimR := by
 unfold rowsL
 have : (endL p t cur w).1 = layL (cntW w) t (st0L p w) (clusL t) := atL_fst _ _ _ _ _
 rw [this]
theorem lay_f (p t : ByteArray) (cur w : Int) (hp : p.size ≤ 34359738368) (ht : t.size ≤ 34359738368) : layout_Lay.f p t cur w = some (cntW w,rowsL p t cur w,(endL p t cur w).2.1,(endL p t cur w).2.2) := by
 unfold layout_Lay.f
 rw [if_pos ⟨hp,ht⟩,rowsL_cur,endL_cur]
theorem st0_in (p : ByteArray) (w : Int) : (st0L p w).In (cntW w) := layL_in _ _ _ _ (ly_new (cntW_in w).1 (cntW_in w).2)
theorem fin_in (p t : ByteArray) (w : Int) : (layL (cntW w) t (st0L p w) (clusL t)).In (cntW w) := layL_in _ _ _ _ (st0_in p w)
theorem st0_len (p : ByteArray) (w : Int) : (st0L p w).1.length ≤ 3 * p.size := by
 have h1 := layL_len (cntW w) p (clusL p) ([],[])
 have h2 := clusL_length p
 simp at h1
 unfold st0L
 omega
theorem fin_len (p t : ByteArray) (w : Int) : (layL (cntW w) t (st0L p w) (clusL t)).1.length ≤ 3 * p.size + 3 * t.size := by
 have h1 := layL_len (cntW w) t (clusL t) (st0L p w)
 have h2 := clusL_length t
 have h3 := st0_len p w
 omega
theorem rowsL_len (p t : ByteArray) (cur w : Int) : (rowsL p t cur w).length = (layL (cntW w) t (st0L p w) (clusL t)).1.length + 1 := by rw [rowsL_eq];simp
theorem trimR_len (L : List Cl) : (trimR L).length ≤ L.length := by unfold trimR;rw [List.length_take];omega
theorem rowsL_row (p t : ByteArray) (cur w : Int) (i : Int) : ((rd_L3 (rowsL p t cur w) i).length : Int) ≤ cntW w := by
 rw [rowsL_eq]
 unfold rd_L3
 rw [List.getD_eq_getElem?_getD,List.getElem?_map]
 have h := (fin_in p t w).rows i.toNat
 rw [List.getD_eq_getElem?_getD] at h
 cases hx : ((layL (cntW w) t (st0L p w) (clusL t)).1 ++ [(layL (cntW w) t (st0L p w) (clusL t)).2])[i.toNat]? with
 | none => have := (cntW_in w).1;simp;omega
 | some L =>
  rw [hx] at h
  have := trimR_len L
  simp only [Option.map_some,Option.getD_some] at h ⊢
  omega
theorem rowsL_rb (p t : ByteArray) (cur w : Int) (hp : p.size ≤ 34359738368) (ht : t.size ≤ 34359738368) : Rb (rowsL p t cur w) := by
 refine ⟨?_,fun i => ?_⟩
 ·rw [rowsL_len]
  have := fin_len p t w
  omega
 ·have h1 := rowsL_row p t cur w i
  have h2 := (cntW_in w).2
  omega
end Go.Proofs.YtnpjaaldppemlaaDoor.Pu
end
section
namespace Go.Proofs.YtnpjaaldppemlaaDoor.Pu
open Go Go.RowKit Go.Proofs.YtnpjaaldppemlaaDoor.Mu Go.Proofs.YtnpjaaldppemlaaDoor.U Go.Proofs.YtnpjaaldppemlaaDoorW.PrintWords Go.Proofs.YtnpjaaldppemlaaDoorW.PrintLast Go.Proofs.YtnpjaaldppemlaaDoorW.PrintMore
set_option linter.unusedVariables false
set_option linter.unusedSimpArgs false
def nlS : ByteArray := ⟨#[10]⟩
theorem nl_size : nlS.size = 1 := rfl
theorem bd_one (b : ByteArray) (h : 0 < b.size) (hl : byt b 0 < 128) : Bd b 1 := by
 have := bd_next b 0 (bd_zero b) h
 have h2 := bad_or b 0
 rwa [show 0 + uN b 0 = 1 by omega] at this
theorem two_bd (a b : ByteArray) (h : 0 < b.size) (hl : byt b 0 < 128) : Bd (a ++ b) a.size := by
 have hs := size_two a b
 refine ⟨by omega,fun j hj => ?_⟩
 by_cases h2 : a.size < j + uN (a ++ b) j
 ·have := inner_cont (a ++ b) j a.size hj h2
  have e := byt_append_right a b 0
  rw [Nat.add_zero] at e
  omega
 ·omega
theorem nl_byt (b : ByteArray) : byt (nlS ++ b) 0 = 10 := byt_append_left nlS b 0 (by decide)
theorem nl_at (b : ByteArray) : uC (nlS ++ b) 0 = 10 ∧ uN (nlS ++ b) 0 = 1 := by
 have h := bad_or (nlS ++ b) 0
 rw [nl_byt] at h
 omega
theorem nl_cb (b : ByteArray) : CB (nlS ++ b) nlS.size := by
 have hs := size_two nlS b
 have hb1 := bd_one (nlS ++ b) (by rw [hs,nl_size];omega) (by rw [nl_byt];omega)
 refine ⟨hb1,fun y hy he hlt => ?_⟩
 have hp := uN_pos (nlS ++ b) y
 rw [nl_size] at he
 obtain rfl : y = 0 := by omega
 rw [(nl_at b).1]
 exact glue_of_nl _
theorem nl_clus : clusL nlS = [(⟨0,1,1,0⟩ : S60)] := by kernel_rfl
/-- No carriage return at its end. -/
def NoCr (a : ByteArray) : Prop := a.size = 0 ∨ byt a (a.size - 1) ≠ 13
theorem cut_cb (a b : ByteArray) (h : NoCr a) : CB (a ++ (nlS ++ b)) a.size := by
 have hs := size_two a (nlS ++ b)
 have hs2 := size_two nlS b
 have hz : 0 < (nlS ++ b).size := by rw [hs2,nl_size];omega
 have hl : byt (nlS ++ b) 0 < 128 := by rw [nl_byt];omega
 have hbd := two_bd a (nlS ++ b) hz hl
 rcases Nat.eq_zero_or_pos a.size with h0 | ha0
 ·rw [h0];exact cb_zero _
 obtain ⟨y,hy,hya⟩ := bd_prev _ a.size hbd ha0
 have hp := uN_pos (a ++ (nlS ++ b)) y
 refine (cb_iff _ a.size y hy hya (by omega)).2 ?_
 have e := right_uC a (nlS ++ b) 0
 rw [Nat.add_zero,(nl_at b).1] at e
 rw [e]
 cases hg : glueB (uC (a ++ (nlS ++ b)) y) 10 with
 | false => rfl
 | true =>
  exfalso
  have hcr := (glue_nl _).1 hg
  have hlu := left_unit a (nlS ++ b) y (by omega) (by omega)
  have hby : byt a y = 13 := (uC_low a y 13 (by omega)).1 (by rw [hlu.1,hcr];rfl)
  have hone : uN a y = 1 := by
   have h1 := bad_or a y
   rw [hby] at h1
   omega
  have hye : y + 1 = a.size := by rw [← hlu.2,hone] at hya;exact hya
  rcases h with h | h
  ·omega
  ·rw [show a.size - 1 = y by omega] at h;exact h hby
theorem lines_clus (a b : ByteArray) (h : NoCr a) : clusL (a ++ (nlS ++ b)) = clusL a ++ ((⟨(a.size : Int),(a.size : Int) + 1,1,0⟩ : S60) :: (clusL b).map (shiftC ((a.size : Int) + 1))) := by
 rw [clus_two a _ (cut_cb a b h),clus_two nlS b (nl_cb b),nl_clus]
 congr 1
 rw [List.singleton_append,List.map_cons,List.map_map]
 congr 1
 apply List.map_congr_left
 intro c _
 show shiftC a.size (shiftC nlS.size c) = shiftC ((a.size : Int) + 1) c
 unfold shiftC
 rw [nl_size]
 simp only [Int.add_assoc]
 rfl
/-- The same on top of other rows. -/
def onR (R : List (List Cl)) (s : Ly) : Ly := (R ++ s.1,s.2)
theorem on_down (R : List (List Cl)) (s : Ly) : (onR R s).down = onR R s.down := by unfold onR Ly.down;simp
theorem on_cell (R : List (List Cl)) (wd : Int) (s : Ly) (x : Cl) : (onR R s).cell wd x = onR R (s.cell wd x) := by
 unfold Ly.cell onR
 split
 ·simp
 ·rfl
theorem on_lay (R : List (List Cl)) (wd : Int) (s : Ly) (cls cells : Int) (d : ByteArray) (n : Nat) : (onR R s).lay wd cls cells d n = onR R (s.lay wd cls cells d n) := by
 have hm : (if ((onR R s).2.length : Int) = wd - 1 then (onR R s).down else onR R s) = onR R (if (s.2.length : Int) = wd - 1 then s.down else s) := by
  show (if (s.2.length : Int) = wd - 1 then (onR R s).down else onR R s) = _
  split
  ·exact on_down R s
  ·rfl
 unfold Ly.lay
 rw [hm]
 split
 ·exact on_down R s
 split
 ·exact on_cell R wd s _
 split
 ·exact on_cell R wd s _
 split
 ·rw [on_cell,on_cell]
 ·rw [on_cell,on_cell]
theorem layL_nil (wd : Int) (t : ByteArray) (st : Ly) : layL wd t st [] = st := by unfold layL;rw [List.foldl_nil]
theorem atL_nil (wd : Int) (t : ByteArray) (cur : Int) (s : Ly × (Int × Int)) : atL wd t cur s [] = s := by unfold atL;rw [List.foldl_nil]
theorem layL_cons (wd : Int) (t : ByteArray) (st : Ly) (c : S60) (cs : List S60) : layL wd t st (c :: cs) = layL wd t (layC wd t st c) cs := rfl
theorem atL_cons (wd : Int) (t : ByteArray) (cur : Int) (s : Ly × (Int × Int)) (c : S60) (cs : List S60) : atL wd t cur s (c :: cs) = atL wd t cur (atF wd t cur s c) cs := rfl
theorem on_layL (R : List (List Cl)) (wd : Int) (t : ByteArray) : ∀ (cs : List S60) (s : Ly),layL wd t (onR R s) cs = onR R (layL wd t s cs)
 | [],_ => rfl
 | c :: cs,s => by
  have e : layC wd t (onR R s) c = onR R (layC wd t s c) := on_lay R wd s _ _ _ _
  rw [layL_cons,layL_cons,e,on_layL R wd t cs]
theorem layL_app (wd : Int) (t : ByteArray) (st : Ly) (xs ys : List S60) : layL wd t st (xs ++ ys) = layL wd t (layL wd t st xs) ys := by unfold layL;rw [List.foldl_append]
theorem atL_app (wd : Int) (t : ByteArray) (cur : Int) (s : Ly × (Int × Int)) (xs ys : List S60) : atL wd t cur s (xs ++ ys) = atL wd t cur (atL wd t cur s xs) ys := by unfold atL;rw [List.foldl_append]
/-- Where the pieces are the same. -/
theorem layC_cong (wd : Int) (t t' : ByteArray) (st : Ly) (c c' : S60) (h1 : c'.f2 = c.f2) (h2 : c'.f3 = c.f3) (h3 : t'.extract c'.f0.toNat c'.f1.toNat = t.extract c.f0.toNat c.f1.toNat) : layC wd t' st c' = layC wd t st c := by unfold layC;rw [h1,h2,h3]
theorem layL_cong (wd : Int) (t t' : ByteArray) (f : S60 → S60) (cs : List S60) : ∀ (st : Ly),(∀ c ∈ cs,(f c).f2 = c.f2 ∧ (f c).f3 = c.f3 ∧ t'.extract (f c).f0.toNat (f c).f1.toNat = t.extract c.f0.toNat c.f1.toNat) → layL wd t' st (cs.map f) = layL wd t st cs := by
 induction cs with
 | nil => intro st _;rw [List.map_nil,layL_nil,layL_nil]
 | cons c cs ih =>
  intro st h
  obtain ⟨h1,h2,h3⟩ := h c (by simp)
  rw [List.map_cons,layL_cons,layL_cons,layC_cong wd t t' st c (f c) h1 h2 h3]
  exact ih _ (fun c hc => h c (List.mem_cons_of_mem _ hc))
theorem atL_cong (wd : Int) (t t' : ByteArray) (cur : Int) (cs : List S60) : ∀ (s : Ly × (Int × Int)),(∀ c ∈ cs,t'.extract c.f0.toNat c.f1.toNat = t.extract c.f0.toNat c.f1.toNat) → atL wd t' cur s cs = atL wd t cur s cs := by
 induction cs with
 | nil => intro s _;rw [atL_nil,atL_nil]
 | cons c cs ih =>
  intro s h
  have e : atF wd t' cur s c = atF wd t cur s c := by
   unfold atF
   rw [layC_cong wd t t' s.1 c c rfl rfl (h c (by simp))]
  rw [atL_cons,atL_cons,e]
  exact ih _ (fun c hc => h c (List.mem_cons_of_mem _ hc))
theorem atL_late (wd : Int) (t : ByteArray) (cur : Int) : ∀ (cs : List S60) (s : Ly × (Int × Int)),(∀ c ∈ cs,cur < c.f1) → (atL wd t cur s cs).2 = s.2
 | [],_,_ => rfl
 | c :: cs,s,h => by
  rw [atL_cons,atL_late wd t cur cs _ (fun c hc => h c (List.mem_cons_of_mem _ hc))]
  unfold atF
  rw [if_neg (by have := h c (by simp);omega)]
theorem left_same (a b : ByteArray) (c : S60) (h : c ∈ clusL a) : (a ++ (nlS ++ b)).extract c.f0.toNat c.f1.toNat = a.extract c.f0.toNat c.f1.toNat := by
 obtain ⟨i,hci,hi,rfl⟩ := clus_mem a a.size 0 (cb_zero a) c h
 have hle := nxt_le a i hci.1 hi
 exact left_extract a _ _ _ (by show ((nxt a i : Int)).toNat ≤ a.size;omega)
theorem right_same (a b : ByteArray) (c : S60) (h : c ∈ clusL b) : (a ++ (nlS ++ b)).extract (shiftC ((a.size : Int) + 1) c).f0.toNat (shiftC ((a.size : Int) + 1) c).f1.toNat = b.extract c.f0.toNat c.f1.toNat := by
 obtain ⟨i,hci,hi,rfl⟩ := clus_mem b b.size 0 (cb_zero b) c h
 have e0 : (shiftC ((a.size : Int) + 1) (clAt b i)).f0.toNat = a.size + (1 + i) := by show ((a.size : Int) + 1 + (i : Int)).toNat = _;omega
 have e1 : (shiftC ((a.size : Int) + 1) (clAt b i)).f1.toNat = a.size + (1 + nxt b i) := by show ((a.size : Int) + 1 + (nxt b i : Int)).toNat = _;omega
 have e2 : (clAt b i).f0.toNat = i := Int.toNat_natCast i
 have e3 : (clAt b i).f1.toNat = nxt b i := Int.toNat_natCast _
 rw [e0,e1,e2,e3,right_extract]
 have := right_extract nlS b i (nxt b i)
 rwa [nl_size] at this
/-- What is laid of both. -/
theorem lines_lay (wd : Int) (st : Ly) (a b : ByteArray) (h : NoCr a) : layL wd (a ++ (nlS ++ b)) st (clusL (a ++ (nlS ++ b))) = onR ((layL wd a st (clusL a)).1 ++ [(layL wd a st (clusL a)).2]) (layL wd b ([],[]) (clusL b)) := by
 rw [lines_clus a b h,layL_app]
 have h1 : layL wd (a ++ (nlS ++ b)) st (clusL a) = layL wd a st (clusL a) := by
  have := layL_cong wd a (a ++ (nlS ++ b)) id (clusL a) st (fun c hc => ⟨rfl,rfl,left_same a b c hc⟩)
  rwa [List.map_id] at this
 rw [h1]
 generalize layL wd a st (clusL a) = A
 rw [layL_cons]
 have h2 : layC wd (a ++ (nlS ++ b)) A ⟨(a.size : Int),(a.size : Int) + 1,1,0⟩ = onR (A.1 ++ [A.2]) ([],[]) := by
  unfold layC Ly.lay Ly.down onR
  rw [if_pos rfl,List.append_nil]
 rw [h2,layL_cong wd b (a ++ (nlS ++ b)) (shiftC ((a.size : Int) + 1)) (clusL b) _ (fun c hc => ⟨rfl,rfl,right_same a b c hc⟩),on_layL]
theorem lines_at (wd : Int) (s : Ly × (Int × Int)) (a b : ByteArray) (cur : Int) (h : NoCr a) (hc : cur ≤ a.size) : (atL wd (a ++ (nlS ++ b)) cur s (clusL (a ++ (nlS ++ b)))).2 = (atL wd a cur s (clusL a)).2 := by
 rw [lines_clus a b h,atL_app,atL_late]
 ·rw [atL_cong wd a (a ++ (nlS ++ b)) cur (clusL a) s (fun c hc => left_same a b c hc)]
 ·intro c hm
  rcases List.mem_cons.1 hm with rfl | hm
  ·show cur < (a.size : Int) + 1;omega
  ·obtain ⟨x,hx,rfl⟩ := List.mem_map.1 hm
   have := cf1_pos b x hx
   show cur < (a.size : Int) + 1 + x.f1
   omega
end Go.Proofs.YtnpjaaldppemlaaDoor.Pu
end
section
namespace Go.Proofs.YtnpjaaldppemlaaDoor.Pure
open Go Go.RowKit Go.Proofs.YtnpjaaldppemlaaDoor.Mu Go.Proofs.YtnpjaaldppemlaaDoor.Pu Go.Proofs.YtnpjaaldppemlaaDoor.U Go.Proofs.YtnpjaaldppemlaaDoorW.PrintWords Go.Proofs.YtnpjaaldppemlaaDoorW.PrintLast Go.Proofs.YtnpjaaldppemlaaDoorW.PrintMore
set_option linter.unusedVariables false
theorem app3 (a b : ByteArray) : (a ++ (⟨#[10]⟩ : ByteArray)) ++ b = a ++ (nlS ++ b) := by
 apply ByteArray.ext
 apply Array.toList_inj.1
 rw [data_app,data_app,data_app,data_app,List.append_assoc]
 rfl
theorem st0_nil (w : Int) : st0L ⟨#[]⟩ w = ([],[]) := rfl
theorem lines_rows (p t more : ByteArray) (c w : Int) (h : NoCr t) : rowsL p (t ++ (nlS ++ more)) c w = rowsL p t c w ++ rowsL ⟨#[]⟩ more 0 w := by
 rw [rowsL_eq,rowsL_eq,rowsL_eq,lines_lay _ _ _ _ h,st0_nil]
 unfold onR
 simp only [List.append_assoc,List.map_append]
theorem LayoutLines (a0_0 a0_1 : ByteArray) (a0_2 a0_3 : Int) (a1 : ByteArray) (u0_0 : a0_0.size ≤ 1048576) (u0_1 : a0_1.size ≤ 1048576) (u1 : a1.size ≤ 1048576) : ∃ k,bodkinlaw20_LayoutLines.f k a0_0 a0_1 a0_2 a0_3 a1 = some true := by
 apply Ev.rounds
 unfold bodkinlaw20_LayoutLines.f
 have h0 : a0_0.size ≤ 34359738368 := by omega
 have h1 : a0_1.size ≤ 34359738368 := by omega
 have h2 : a1.size ≤ 34359738368 := by omega
 have hs : (a0_1 ++ (⟨#[10]⟩ : ByteArray)).size = a0_1.size + 1 := by rw [ByteArray.size_append];rfl
 have hz : (a0_1 ++ (nlS ++ a1)).size ≤ 34359738368 := by rw [← app3,ByteArray.size_append,hs];omega
 have he : (⟨#[]⟩ : ByteArray).size ≤ 34359738368 := Nat.zero_le _
 refine Ev.bind awake20 (ev_pos rfl (ev_pos (by omega) (ev_pos (by rw [hs];omega) ?_)))
 rw [app3]
 refine ev_some (lay_f a0_0 _ a0_2 a0_3 h0 hz) (ev_some (lay_f a0_0 a0_1 a0_2 a0_3 h0 h1) (ev_some (lay_f _ a1 0 a0_3 he h2) ?_))
 have hj : ∀ b : Bool,(b = false → NoCr a0_1) → Ev (fun k => bodkinlaw20_LayoutLines.j0 k b a0_0 a0_1 a0_2 a0_3 (cntW a0_3) (rowsL a0_0 (a0_1 ++ (nlS ++ a1)) a0_2 a0_3) (endL a0_0 (a0_1 ++ (nlS ++ a1)) a0_2 a0_3).2.1 (endL a0_0 (a0_1 ++ (nlS ++ a1)) a0_2 a0_3).2.2
   (cntW a0_3) (rowsL a0_0 a0_1 a0_2 a0_3) (endL a0_0 a0_1 a0_2 a0_3).2.1 (endL a0_0 a0_1 a0_2 a0_3).2.2 (cntW a0_3) (rowsL ⟨#[]⟩ a1 0 a0_3) (endL ⟨#[]⟩ a1 0 a0_3).2.1 (endL ⟨#[]⟩ a1 0 a0_3).2.2) true := by
  intro b hb
  refine Ev.step (fun k => bodkinlaw20_LayoutLines.j0.eq_2 ..) ?_
  cases b with
  | true => exact ev_pos rfl (Ev.now _)
  | false =>
   have hn := hb rfl
   have hr := lines_rows a0_0 a0_1 a1 a0_2 a0_3 hn
   have l1 := rowsL_rb a0_0 a0_1 a0_2 a0_3 h0 h1
   have l2 := rowsL_rb ⟨#[]⟩ a1 0 a0_3 he h2
   have l3 := rowsL_rb a0_0 (a0_1 ++ (nlS ++ a1)) a0_2 a0_3 h0 hz
   have hl := congrArg List.length hr
   rw [List.length_append] at hl
   have hL1 := l1.1
   have hL2 := l2.1
   have hat : a0_2 ≤ a0_1.size → (endL a0_0 (a0_1 ++ (nlS ++ a1)) a0_2 a0_3).2 = (endL a0_0 a0_1 a0_2 a0_3).2 := fun hc => lines_at _ _ _ _ _ hn hc
   refine ev_neg (by simp) (ev_pos (by rw [w64 (by omega) (by omega)];omega) ?_)
   rw [← hr]
   have hS := fun r c => lsame_refl (cntW a0_3) r c _ l3
   by_cases hc : a0_2 ≤ (a0_1.size : Int)
   ·refine ev_pos hc (ev_neg (by rw [hat hc];simp) (ev_pos (by omega) (Ev.bind (hS _ _) (Ev.now _))))
   ·exact ev_neg hc (ev_pos (by omega) (Ev.bind (hS _ _) (Ev.now _)))
 by_cases hp : (a0_1.size : Int) > 0
 ·have e : wrap64 ((a0_1.size : Int) - 1) = ((a0_1.size - 1 : Nat) : Int) := by rw [w64 (by omega) (by omega)];omega
  rw [e]
  refine ev_pos hp (ev_pos (by omega) (ev_pos (by omega) (hj _ (fun h => .inr ?_))))
  have hb := bt_byt a0_1 (a0_1.size - 1) (by omega)
  intro h13
  rw [hb,h13] at h
  simp at h
 ·exact ev_neg hp (hj false (fun _ => .inl (by omega)))
end Go.Proofs.YtnpjaaldppemlaaDoor.Pure
end
section
namespace Go.Proofs.YtnpjaaldppemlaaDoor.Lf
open Go.Lib Go.Proofs
theorem own : ownKnob Tryd.prog.godebug = none := by kernel_rfl
theorem laidOut : laidOutB Tryd.prog = true := by kernel_rfl
theorem extra : U8Extra Tryd.prog Tryd.lays260_ren := {
 n3 := by kernel_rfl
 n4 := by kernel_rfl
 y3 := by kernel_rfl
 y4 := by kernel_rfl
 c5 := by kernel_rfl
 c119 := by kernel_rfl
 c138 := by kernel_rfl }
theorem first_eq : Rows.laid_unicode_utf8_first = Lib.firstData := by kernel_rfl
theorem accept_eq : (Rows.laid_unicode_utf8_acceptRanges : DataW Unit) = Lib.acceptData := by kernel_rfl
abbrev laid : List (String × DataW Unit) := [("unicode/utf8.acceptRanges", Rows.laid_unicode_utf8_acceptRanges), ("unicode/utf8.first", Rows.laid_unicode_utf8_first)]
/-- The two tables lie as the contracts ask. -/
theorem tabs {W : World} (h : laidMetH Tryd.prog laid W) : Lib.Utf8Tabs 0 1 W := by
  rw [MakeChecks.laidMetH_plain _ _ _ (by kernel_rfl)] at h
  have h3 := laidMet.reads h (n := "unicode/utf8.first") (d := Rows.laid_unicode_utf8_first) (List.mem_cons_of_mem _ List.mem_cons_self)
  have h4 := laidMet.reads h (n := "unicode/utf8.acceptRanges") (d := Rows.laid_unicode_utf8_acceptRanges) List.mem_cons_self
  rw [first_eq] at h3
  rw [accept_eq] at h4
  exact utf8Tabs_of_reads Tryd.lays260 extra h3 h4
/-- The world of the witness: the settled one,the tables laid. -/
noncomputable abbrev wit (os : Os) : World := World.laidAll Tryd.prog os laid
theorem wit_laid (os : Os) (args : Array Value) : laidMetH Tryd.prog laid ((wit os).forCall (fun _ _ => 0) ⟨#[],args,[]⟩).memory := by
 rw [MakeChecks.laidMetH_plain _ _ _ (by kernel_rfl)]
 exact laidMet_laidAll _ (by kernel_rfl) (by kernel_rfl)
theorem wit_shaped (os : Os) (args : Array Value) : ((wit os).forCall (fun _ _ => 0) ⟨#[],args,[]⟩).Shaped Tryd.prog :=
 World.shaped_of_ZipB (by kernel_rfl) (by kernel_rfl)
end Go.Proofs.YtnpjaaldppemlaaDoor.Lf
end
section
namespace Go.Proofs.YtnpjaaldppemlaaDoor.Lf
open Go Go.RowKit Go.ChangeShapes Go.WideShapes Go.Proofs.YtnpjaaldppemlaaDoor.U Go.Proofs.YtnpjaaldppemlaaDoorW.PrintWords Go.Proofs.YtnpjaaldppemlaaDoorW.PrintLast Go.Proofs.YtnpjaaldppemlaaDoorW.PrintMore
set_option linter.unusedVariables false
set_option linter.unusedSimpArgs false
theorem ly_gen {H : Type} {enc : TypeId × Value → H} {P : Program} {w : World} {base : Nat} {sp : Nat → Bool} {held : Bool} {t : TypeId} {p0 p1 p2 p3 : Field} (ht : P.underlying t = some (.struct #[p0,p1,p2,p3])) (ce : P.cellsOf t = 4)
  (o0 : p0.offset = 0) (c0 : P.cellsOf p0.type = 1) (u0 : P.underlying p0.type = some .string) (o1 : p1.offset = 1) (c1 : P.cellsOf p1.type = 1) (u1 : P.underlying p1.type = some .string) (o2 : p2.offset = 2) (c2 : P.cellsOf p2.type = 1) (u2 : P.underlying p2.type = some (.int .i64)) (o3 : p3.offset = 3) (c3 : P.cellsOf p3.type = 1) (u3 : P.underlying p3.type = some (.int .i64))
  {fuel : Nat} {cs : List Value} {x : DataW H × List MemPlace} (h : DataW.trod enc P w base sp held fuel t cs = some x) : ∃ (x0 : ByteArray) (x1 : ByteArray) (x2 : Int) (x3 : Int),cs = [.string x0,.string x1,.int .i64 x2,.int .i64 x3] ∧ x0.size + 1 ≤ Rows.uptoBulk x.1 ∧ x1.size + 1 ≤ Rows.uptoBulk x.1 := by
 obtain ⟨xs,n,_,rfl,hl,hlen,hf⟩ := DataW.trod_struct ht h
 rw [ce] at hl
 match xs,hlen,cs,hl with
 | [y0,y1,y2,y3],_,[v0,v1,v2,v3],_ =>
  have g0 := hf 0 p0 rfl
  have g1 := hf 1 p1 rfl
  have g2 := hf 2 p2 rfl
  have g3 := hf 3 p3 rfl
  simp [o0,c0,o1,c1,o2,c2,o3,c3] at g0 g1 g2 g3
  obtain ⟨x0,e0,f0,_⟩ := DataW.trod_string u0 g0
  injection e0 with e0
  subst e0
  obtain ⟨x1,e1,f1,_⟩ := DataW.trod_string u1 g1
  injection e1 with e1
  subst e1
  obtain ⟨x2,e2,f2,_⟩ := DataW.trod_int u2 g2
  injection e2 with e2
  subst e2
  obtain ⟨x3,e3,f3,_⟩ := DataW.trod_int u3 g3
  injection e3 with e3
  subst e3
  refine ⟨x0,x1,x2,x3,rfl,?_⟩
  simp only [List.map_cons,List.map_nil,Rows.uptoBulk,Rows.uptoBulkAll]
  rw [congrArg Prod.fst f0]
  rw [congrArg Prod.fst f1]
  simp only [show ∀ b : List UInt8,Rows.uptoBulk (DataW.lit (H := H) (.string b)) = b.length + 1 from fun b => by simp [Rows.uptoBulk]]
  have z0 : x0.data.toList.length = x0.size := rfl
  have z1 : x1.data.toList.length = x1.size := rfl
  refine ⟨by omega,by omega⟩
theorem ly_open_gen {W : World} {r : Reach} {b0 : Nat} {H : Type} {enc : TypeId × Value → H} {P : Program} {w : World} {base : Nat} {sp : Nat → Bool} {held : Bool} {t : TypeId} {p0 p1 p2 p3 : Field} (ht : P.underlying t = some (.struct #[p0,p1,p2,p3])) (ce : P.cellsOf t = 4)
  (o0 : p0.offset = 0) (c0 : P.cellsOf p0.type = 1) (u0 : P.underlying p0.type = some .string) (o1 : p1.offset = 1) (c1 : P.cellsOf p1.type = 1) (u1 : P.underlying p1.type = some .string) (o2 : p2.offset = 2) (c2 : P.cellsOf p2.type = 1) (u2 : P.underlying p2.type = some (.int .i64)) (o3 : p3.offset = 3) (c3 : P.cellsOf p3.type = 1) (u3 : P.underlying p3.type = some (.int .i64))
  {v : Value} {d : DataW H} {ps : List MemPlace} (hval : Value.okWide P W r b0 t v) (hd : DataW.Trod enc P w base sp held t v d ps) : ∃ (x0 : ByteArray) (x1 : ByteArray) (x2 : Int) (x3 : Int),v = .agg #[.string x0,.string x1,.int .i64 x2,.int .i64 x3] ∧ x0.size + 1 ≤ Rows.uptoBulk d ∧ x1.size + 1 ≤ Rows.uptoBulk d := by
 obtain ⟨cs,rfl,_⟩ := okWide_struct ht hval
 obtain ⟨fuel,hf⟩ := hd
 obtain ⟨x0,x1,x2,x3,e,hb⟩ := ly_gen ht ce o0 c0 u0 o1 c1 u1 o2 c2 u2 o3 c3 u3 hf
 refine ⟨x0,x1,x2,x3,?_,hb⟩
 have e2 : cs.toList = [.string x0,.string x1,.int .i64 x2,.int .i64 x3] := e
 rw [← Array.toArray_toList (xs := cs),e2]
set_option maxRecDepth 100000 in
theorem ly_open {W : World} {r : Reach} {b0 : Nat} {H : Type} {enc : TypeId × Value → H} {w : World} {base : Nat} {sp : Nat → Bool} {held : Bool} {v : Value} {d : DataW H} {ps : List MemPlace} (hval : Value.okWide Tryd.prog W r b0 23 v) (hd : DataW.Trod enc Tryd.prog w base sp held 23 v d ps) : ∃ (x0 : ByteArray) (x1 : ByteArray) (x2 : Int) (x3 : Int),v = .agg #[.string x0,.string x1,.int .i64 x2,.int .i64 x3] ∧ x0.size + 1 ≤ Rows.uptoBulk d ∧ x1.size + 1 ≤ Rows.uptoBulk d :=
 ly_open_gen Tryd.underlying23 (by kernel_rfl) rfl (by kernel_rfl) Tryd.underlying9 rfl (by kernel_rfl) Tryd.underlying9 rfl (by kernel_rfl) Tryd.underlying3 rfl (by kernel_rfl) Tryd.underlying3 hval hd
end Go.Proofs.YtnpjaaldppemlaaDoor.Lf
end
