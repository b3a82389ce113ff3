/- What the law LayoutShows reaches of this seat's own texts, merged; what nothing uses is left out. -/
import Derived.Test.YtnpjaaldppemlaaDoorZLayoutShows0
import Derived.Test.YtnpjaaldppemlaaDoorZLayoutShows1
import Derived.Test.YtnpjaaldppemlaaDoorZLayoutShows3
import Derived.Test.YtnpjaaldppemlaaDoorZLayoutShows4
import Derived.Test.YtnpjaaldppemlaaDoorZLayoutShows5
import Derived.Test.YtnpjaaldppemlaaDoorZLayoutShows6
section
namespace Go.Proofs.YtnpjaaldppemlaaDoor.U
open Go.RowKit Go.Proofs.YtnpjaaldppemlaaDoorW.PrintWords Go.Proofs.YtnpjaaldppemlaaDoorW.PrintLast Go.Proofs.YtnpjaaldppemlaaDoorW.PrintMore
attribute [local go_sem] max2_int min2_int max_two min_two max_three min_three max_four min_four   -- for this text's walks alone
set_option linter.unusedVariables false
set_option linter.unusedSimpArgs false
attribute [local go_sem high] eqA27 eqA35
def bodkinlaw20_awake.f (k : Nat)  : Option (Bool) := (cluster_Next.f k (⟨#[97]⟩ : ByteArray) 0).bind fun t149 => (if t149 = 1 then ((layout_Lay.f (⟨#[62,32]⟩ : ByteArray) (⟨#[97,98]⟩ : ByteArray) 1 5).bind fun bt150 => ((layout_Lay.f (⟨#[]⟩ : ByteArray) (⟨#[97,228,184,128]⟩ : ByteArray) 1 2).bind fun bt157 => (if bt150.1 = 5 then (if (bt150.2.1.length : Int) = 1 then (if 0 < (bt150.2.1.length : Int) then (if ((rd_L3 bt150.2.1 0).length : Int) = 4 then (if 2 < ((rd_L3 bt150.2.1 0).length : Int) then (if ((((rd_T35 (rd_L3 bt150.2.1 0) 2).f0).toList) == ([97] : List UInt8) && (((rd_T35 (rd_L3 bt150.2.1 0) 2).f1) == 1)) = true then (if (bt150.2.2.1 == 0 && (bt150.2.2.2 == 3)) = true then (if (bt157.2.1.length : Int) = 3 then (if 0 < (bt157.2.1.length : Int) then (if ((rd_L3 bt157.2.1 0).length : Int) = 1 then (if 1 < (bt157.2.1.length : Int) then (if ((rd_L3 bt157.2.1 1).length : Int) = 2 then (if 1 < ((rd_L3 bt157.2.1 1).length : Int) then (if ((((rd_T35 (rd_L3 bt157.2.1 1) 1).f0).toList) == ([] : List UInt8) && (((rd_T35 (rd_L3 bt157.2.1 1) 1).f1) == 0)) = true then (some (bt157.2.2.1 == 0 && (bt157.2.2.2 == 1))) else (some false)) else (none)) else (some false)) else (none)) else (some false)) else (none)) else (some false)) else (some false)) else (some false)) else (none)) else (some false)) else (none)) else (some false)) else (some false)))) else (some false))
theorem bodkinlaw20_awake.mono : ∀ k,LeO (bodkinlaw20_awake.f k ) (bodkinlaw20_awake.f (k + 1) ) := by
 intro  k
 unfold bodkinlaw20_awake.f
 repeat' first
   | (with_reducible exact cluster_Next.mono _ _ _)
   | (with_reducible exact LeO.refl _)
   | (with_reducible exact LeO.none _)
   | (with_reducible refine LeO.ite ?_ ?_)
   | (with_reducible refine LeO.bind ?_ (fun _ => ?_))
   | exact cluster_Next.mono _ _ _
   | exact LeO.none _
   | refine LeO.ite ?_ ?_
   | refine LeO.bind ?_ (fun _ => ?_)
set_option maxHeartbeats 8000000 in
set_option maxRecDepth 100000 in
theorem bodkinlaw20_awake.calls (k : Nat)  (r : Bool) (hr_ : r = true) (w : World) (hT : Lib.Utf8Tabs 0 1 w) (h : bodkinlaw20_awake.f k  = some r) :
  Calls Tryd.prog 12 #[] w fun e w' => e = .returned (.bool r) ∧ Below w.heap.size w w' := by
 have hu29 := Tryd.underlying29
 have hu35 := Tryd.underlying35
 have hu27 := Tryd.underlying27
 have HT := Aside0.mk hT
 clear hT
 have HB := Aside0.mk (Below.refl w.heap.size w)
 have H : ((cluster_Next.f k (⟨#[97]⟩ : ByteArray) 0).bind fun t149 => (if t149 = 1 then ((layout_Lay.f (⟨#[62,32]⟩ : ByteArray) (⟨#[97,98]⟩ : ByteArray) 1 5).bind fun bt150 => ((layout_Lay.f (⟨#[]⟩ : ByteArray) (⟨#[97,228,184,128]⟩ : ByteArray) 1 2).bind fun bt157 => (if bt150.1 = 5 then (if (bt150.2.1.length : Int) = 1 then (if 0 < (bt150.2.1.length : Int) then (if ((rd_L3 bt150.2.1 0).length : Int) = 4 then (if 2 < ((rd_L3 bt150.2.1 0).length : Int) then (if ((((rd_T35 (rd_L3 bt150.2.1 0) 2).f0).toList) == ([97] : List UInt8) && (((rd_T35 (rd_L3 bt150.2.1 0) 2).f1) == 1)) = true then (if (bt150.2.2.1 == 0 && (bt150.2.2.2 == 3)) = true then (if (bt157.2.1.length : Int) = 3 then (if 0 < (bt157.2.1.length : Int) then (if ((rd_L3 bt157.2.1 0).length : Int) = 1 then (if 1 < (bt157.2.1.length : Int) then (if ((rd_L3 bt157.2.1 1).length : Int) = 2 then (if 1 < ((rd_L3 bt157.2.1 1).length : Int) then (if ((((rd_T35 (rd_L3 bt157.2.1 1) 1).f0).toList) == ([] : List UInt8) && (((rd_T35 (rd_L3 bt157.2.1 1) 1).f1) == 0)) = true then (some (bt157.2.2.1 == 0 && (bt157.2.2.2 == 1))) else (some false)) else (none)) else (some false)) else (none)) else (some false)) else (none)) else (some false)) else (some false)) else (some false)) else (none)) else (some false)) else (none)) else (some false)) else (some false)))) else (some false))) = some r := h
 clear h
 replace H := Option.bind_eq_some_iff.mp H
 obtain ⟨t149,A10,H⟩ := H
 replace H : (if t149 = 1 then ((layout_Lay.f (⟨#[62,32]⟩ : ByteArray) (⟨#[97,98]⟩ : ByteArray) 1 5).bind fun bt150 => ((layout_Lay.f (⟨#[]⟩ : ByteArray) (⟨#[97,228,184,128]⟩ : ByteArray) 1 2).bind fun bt157 => (if bt150.1 = 5 then (if (bt150.2.1.length : Int) = 1 then (if 0 < (bt150.2.1.length : Int) then (if ((rd_L3 bt150.2.1 0).length : Int) = 4 then (if 2 < ((rd_L3 bt150.2.1 0).length : Int) then (if ((((rd_T35 (rd_L3 bt150.2.1 0) 2).f0).toList) == ([97] : List UInt8) && (((rd_T35 (rd_L3 bt150.2.1 0) 2).f1) == 1)) = true then (if (bt150.2.2.1 == 0 && (bt150.2.2.2 == 3)) = true then (if (bt157.2.1.length : Int) = 3 then (if 0 < (bt157.2.1.length : Int) then (if ((rd_L3 bt157.2.1 0).length : Int) = 1 then (if 1 < (bt157.2.1.length : Int) then (if ((rd_L3 bt157.2.1 1).length : Int) = 2 then (if 1 < ((rd_L3 bt157.2.1 1).length : Int) then (if ((((rd_T35 (rd_L3 bt157.2.1 1) 1).f0).toList) == ([] : List UInt8) && (((rd_T35 (rd_L3 bt157.2.1 1) 1).f1) == 0)) = true then (some (bt157.2.2.1 == 0 && (bt157.2.2.2 == 1))) else (some false)) else (none)) else (some false)) else (none)) else (some false)) else (none)) else (some false)) else (some false)) else (some false)) else (none)) else (some false)) else (none)) else (some false)) else (some false)))) else (some false)) = some r := H
 have A1 := Aside0.mk A10
 clear A10
 by_cases c2 : t149 = 1
 ·rw [if_pos c2] at H
  have c2b0 : (t149 == 1) = true := beq_iff_eq.mpr c2
  have c2b1 : (t149 != 1) = false := bne_eq_false_iff_eq.mpr c2
  clear c2
  replace H := Option.bind_eq_some_iff.mp H
  obtain ⟨⟨t150,t151,t154,t155⟩,A30,H⟩ := H
  replace H : ((layout_Lay.f (⟨#[]⟩ : ByteArray) (⟨#[97,228,184,128]⟩ : ByteArray) 1 2).bind fun bt157 => (if t150 = 5 then (if (t151.length : Int) = 1 then (if 0 < (t151.length : Int) then (if ((rd_L3 t151 0).length : Int) = 4 then (if 2 < ((rd_L3 t151 0).length : Int) then (if ((((rd_T35 (rd_L3 t151 0) 2).f0).toList) == ([97] : List UInt8) && (((rd_T35 (rd_L3 t151 0) 2).f1) == 1)) = true then (if (t154 == 0 && (t155 == 3)) = true then (if (bt157.2.1.length : Int) = 3 then (if 0 < (bt157.2.1.length : Int) then (if ((rd_L3 bt157.2.1 0).length : Int) = 1 then (if 1 < (bt157.2.1.length : Int) then (if ((rd_L3 bt157.2.1 1).length : Int) = 2 then (if 1 < ((rd_L3 bt157.2.1 1).length : Int) then (if ((((rd_T35 (rd_L3 bt157.2.1 1) 1).f0).toList) == ([] : List UInt8) && (((rd_T35 (rd_L3 bt157.2.1 1) 1).f1) == 0)) = true then (some (bt157.2.2.1 == 0 && (bt157.2.2.2 == 1))) else (some false)) else (none)) else (some false)) else (none)) else (some false)) else (none)) else (some false)) else (some false)) else (some false)) else (none)) else (some false)) else (none)) else (some false)) else (some false))) = some r := H
  have A3 := Aside0.mk A30
  clear A30
  replace H := Option.bind_eq_some_iff.mp H
  obtain ⟨⟨t157,t158,t161,t162⟩,A40,H⟩ := H
  replace H : (if t150 = 5 then (if (t151.length : Int) = 1 then (if 0 < (t151.length : Int) then (if ((rd_L3 t151 0).length : Int) = 4 then (if 2 < ((rd_L3 t151 0).length : Int) then (if ((((rd_T35 (rd_L3 t151 0) 2).f0).toList) == ([97] : List UInt8) && (((rd_T35 (rd_L3 t151 0) 2).f1) == 1)) = true then (if (t154 == 0 && (t155 == 3)) = true then (if (t158.length : Int) = 3 then (if 0 < (t158.length : Int) then (if ((rd_L3 t158 0).length : Int) = 1 then (if 1 < (t158.length : Int) then (if ((rd_L3 t158 1).length : Int) = 2 then (if 1 < ((rd_L3 t158 1).length : Int) then (if ((((rd_T35 (rd_L3 t158 1) 1).f0).toList) == ([] : List UInt8) && (((rd_T35 (rd_L3 t158 1) 1).f1) == 0)) = true then (some (t161 == 0 && (t162 == 1))) else (some false)) else (none)) else (some false)) else (none)) else (some false)) else (none)) else (some false)) else (some false)) else (some false)) else (none)) else (some false)) else (none)) else (some false)) else (some false)) = some r := H
  have A4 := Aside0.mk A40
  clear A40
  by_cases c5 : t150 = 5
  ·rw [if_pos c5] at H
   have c5b0 : (t150 == 5) = true := beq_iff_eq.mpr c5
   have c5b1 : (t150 != 5) = false := bne_eq_false_iff_eq.mpr c5
   clear c5
   by_cases c6 : (t151.length : Int) = 1
   ·rw [if_pos c6] at H
    have c6b0 : ((t151.length : Int) == 1) = true := beq_iff_eq.mpr c6
    have c6b1 : ((t151.length : Int) != 1) = false := bne_eq_false_iff_eq.mpr c6
    clear c6
    by_cases c7 : 0 < (t151.length : Int)
    ·rw [if_pos c7] at H
     have c7b0 : decide (0 < (t151.length : Int)) = true := decide_eq_true c7
     have c7b1 : decide (0 < t151.length) = true := decide_eq_true (by omega)
     clear c7
     by_cases c8 : ((rd_L3 t151 0).length : Int) = 4
     ·rw [if_pos c8] at H
      have c8b0 : (((rd_L3 t151 0).length : Int) == 4) = true := beq_iff_eq.mpr c8
      have c8b1 : (((rd_L3 t151 0).length : Int) != 4) = false := bne_eq_false_iff_eq.mpr c8
      clear c8
      by_cases c9 : 2 < ((rd_L3 t151 0).length : Int)
      ·rw [if_pos c9] at H
       have c9b0 : decide (2 < ((rd_L3 t151 0).length : Int)) = true := decide_eq_true c9
       have c9b1 : decide (2 < (rd_L3 t151 0).length) = true := decide_eq_true (by omega)
       clear c9
       by_cases c10 : ((((rd_T35 (rd_L3 t151 0) 2).f0).toList) == ([97] : List UInt8) && (((rd_T35 (rd_L3 t151 0) 2).f1) == 1)) = true
       ·rw [if_pos c10] at H
        have c10b0 : ((((rd_T35 (rd_L3 t151 0) 2).f0).toList) == ([97] : List UInt8) && (((rd_T35 (rd_L3 t151 0) 2).f1) == 1)) = true := c10
        (try (have c10b1 : decide ((((rd_T35 (rd_L3 t151 0) 2).f0).toList) = ([97] : List UInt8) && (((rd_T35 (rd_L3 t151 0) 2).f1) == 1)) = true := by simpa using c10))
        (try (have c10b2 : ((((rd_T35 (rd_L3 t151 0) 2).f0).toList) == ([97] : List UInt8) && (((rd_T35 (rd_L3 t151 0) 2).f1) == 1)) = true := by simpa using c10))
        clear c10
        by_cases c11 : (t154 == 0 && (t155 == 3)) = true
        ·rw [if_pos c11] at H
         have c11b0 : (t154 == 0 && (t155 == 3)) = true := c11
         (try (have c11b1 : decide (t154 = 0 && (t155 == 3)) = true := by simpa using c11))
         (try (have c11b2 : (t154 == 0 && (t155 == 3)) = true := by simpa using c11))
         clear c11
         by_cases c12 : (t158.length : Int) = 3
         ·rw [if_pos c12] at H
          have c12b0 : ((t158.length : Int) == 3) = true := beq_iff_eq.mpr c12
          have c12b1 : ((t158.length : Int) != 3) = false := bne_eq_false_iff_eq.mpr c12
          clear c12
          by_cases c13 : 0 < (t158.length : Int)
          ·rw [if_pos c13] at H
           have c13b0 : decide (0 < (t158.length : Int)) = true := decide_eq_true c13
           have c13b1 : decide (0 < t158.length) = true := decide_eq_true (by omega)
           clear c13
           by_cases c14 : ((rd_L3 t158 0).length : Int) = 1
           ·rw [if_pos c14] at H
            have c14b0 : (((rd_L3 t158 0).length : Int) == 1) = true := beq_iff_eq.mpr c14
            have c14b1 : (((rd_L3 t158 0).length : Int) != 1) = false := bne_eq_false_iff_eq.mpr c14
            clear c14
            by_cases c15 : 1 < (t158.length : Int)
            ·rw [if_pos c15] at H
             have c15b0 : decide (1 < (t158.length : Int)) = true := decide_eq_true c15
             have c15b1 : decide (1 < t158.length) = true := decide_eq_true (by omega)
             clear c15
             by_cases c16 : ((rd_L3 t158 1).length : Int) = 2
             ·rw [if_pos c16] at H
              have c16b0 : (((rd_L3 t158 1).length : Int) == 2) = true := beq_iff_eq.mpr c16
              have c16b1 : (((rd_L3 t158 1).length : Int) != 2) = false := bne_eq_false_iff_eq.mpr c16
              clear c16
              by_cases c17 : 1 < ((rd_L3 t158 1).length : Int)
              ·rw [if_pos c17] at H
               have c17b0 : decide (1 < ((rd_L3 t158 1).length : Int)) = true := decide_eq_true c17
               have c17b1 : decide (1 < (rd_L3 t158 1).length) = true := decide_eq_true (by omega)
               clear c17
               by_cases c18 : ((((rd_T35 (rd_L3 t158 1) 1).f0).toList) == ([] : List UInt8) && (((rd_T35 (rd_L3 t158 1) 1).f1) == 0)) = true
               ·rw [if_pos c18] at H
                have c18b0 : ((((rd_T35 (rd_L3 t158 1) 1).f0).toList) == ([] : List UInt8) && (((rd_T35 (rd_L3 t158 1) 1).f1) == 0)) = true := c18
                have hc18 := c18
                (try (have c18b1 : decide ((((rd_T35 (rd_L3 t158 1) 1).f0).toList) = ([] : List UInt8) && (((rd_T35 (rd_L3 t158 1) 1).f1) == 0)) = true := by simpa using c18))
                (try (have c18b2 : ((((rd_T35 (rd_L3 t158 1) 1).f0).toList) == ([] : List UInt8) && (((rd_T35 (rd_L3 t158 1) 1).f1) == 0)) = true := by simpa using c18))
                clear c18
                obtain rfl := Option.some.inj H
                go_enter Tryd.func12,Tryd.ntmps12
                go_wp2_with (first | ((with_reducible refine gate_callee (f := 18) rfl ?_);refine goesL_ (some 3) rfl rfl Tryd.func18 (by kernel_rfl) rfl #[.string (⟨#[97]⟩ : ByteArray),.int .i64 0] rfl au1 ?_;(with_reducible refine (cluster_Next.calls k (⟨#[97]⟩ : ByteArray) 0 t149 _ ?side1 A1.out).mono ?_);(case side1 => exact tabs_below HT.out au0);rintro e w19 ⟨rfl,hb⟩;refine ⟨_,rfl,?_⟩;have n0_ := Aside0.mk (below_step au0 hb);clear HB;have HB := n0_;clear n0_;(try clear hb);(try clear hb2);(try clear hk);(try clear hi)) | ((with_reducible refine gate_callee (f := 14) rfl ?_);refine goesL_ (some 5) rfl rfl Tryd.func14 (by kernel_rfl) rfl #[.string (⟨#[62,32]⟩ : ByteArray),.string (⟨#[97,98]⟩ : ByteArray),.int .i64 1,.int .i64 5] rfl au1 ?_;(with_reducible refine (layout_Lay.calls (⟨#[62,32]⟩ : ByteArray) (⟨#[97,98]⟩ : ByteArray) 1 5 t150 t151 t154 t155 _ ?side1 A3.out).mono ?_);(case side1 => exact tabs_below HT.out au0);rintro e w20 ⟨v152,rfl,ho0,hb⟩;refine ⟨_,rfl,?_⟩;have n0_ := Aside0.mk (Kd.S_lower ho0 (below_size au0));have n1_ := Aside0.mk (below_step au0 hb);clear HB;have HO153 := n0_;have HB := n1_;clear n0_ n1_;(try clear hb);(try clear hb2);(try clear hk);(try clear hi);(try clear ho0)) | ((with_reducible refine gate_dst (N := 1) rfl ?_);(try (refine gate_guard (by rfl) ?_;dsimp only));refine box_event ?hg (N := 1) ?hd (cs := #[.int .i64 0,.slice none 0 0,.int .i64 0,.int .i64 0]) (t := 29) ?hr ?_;(case hd => rfl);(case hg => rfl);(case hr => first | (go_simp;done) | (go_simp;rfl));intro gb156 hg w21 hbox hb;have n0_ := Aside0.mk (Kd.S_below (by (with_reducible repeat (first | apply Kd.S_alloc | apply Kd.S_drewN | apply Kd.S_drew));exact HO153.out) hb);have n1_ := Aside0.mk (below_step au0 hb);have n2_ := Aside0.mk (hbox);have n3_ := Aside0.mk ((by rw [hg];exact (below_size au0) : w.heap.size ≤ gb156));have n4_ := Aside0.mk ((by rw [hg];exact (below_size au0) : w.heap.size ≤ gb156));clear HO153;clear HB;have HO153 := n0_;have HB := n1_;have BK156 := n2_;have GW156 := n3_;have GE156 := n4_;clear n0_ n1_ n2_ n3_ n4_;clear hb hbox hg;have hcz22_0 : w21.cell? ⟨gb156,0,none⟩ = some (.int .i64 0) := (blk_cell BK156.out 0).trans rfl;have hcz22_1 : w21.cell? ⟨gb156,1,none⟩ = some (.slice none 0 0) := (blk_cell BK156.out 1).trans rfl;have hcz22_2 : w21.cell? ⟨gb156,2,none⟩ = some (.int .i64 0) := (blk_cell BK156.out 2).trans rfl;have hcz22_3 : w21.cell? ⟨gb156,3,none⟩ = some (.int .i64 0) := (blk_cell BK156.out 3).trans rfl;have hfz22_0 := blk_frozen BK156.out 0;have hfz22_1 := blk_frozen BK156.out 1;have hfz22_2 := blk_frozen BK156.out 2;have hfz22_3 := blk_frozen BK156.out 3;obtain ⟨Ao23,co23,eo23⟩ := Kd.S_slice HO153.out;subst eo23) | ((with_reducible refine gate_callee (f := 14) rfl ?_);refine goesL_ (some 6) rfl rfl Tryd.func14 (by kernel_rfl) rfl #[.string (⟨#[]⟩ : ByteArray),.string (⟨#[97,228,184,128]⟩ : ByteArray),.int .i64 1,.int .i64 2] rfl au1 ?_;(with_reducible refine (layout_Lay.calls (⟨#[]⟩ : ByteArray) (⟨#[97,228,184,128]⟩ : ByteArray) 1 2 t157 t158 t161 t162 _ ?side1 A4.out).mono ?_);(case side1 => exact tabs_below HT.out au16);rintro e w24 ⟨v159,rfl,ho0,hb⟩;refine ⟨_,rfl,?_⟩;have n0_ := Aside0.mk (Kd.S_elder' au22 (Kd.S_base ho0) hb);have n1_ := Aside0.mk (Kd.S_lower (Kd.S_new' ho0 (Kd.S_lt au22)) (below_size au16));have n2_ := Aside0.mk (blk_below (g := gb156) (o := .cells #[.int .i64 t150,.slice Ao23 t151.length co23,.int .i64 t154,.int .i64 t155] 29 (0,0)) (by (with_reducible repeat (first | refine blk_drewN ?_ _ | refine blk_drew ?_ | refine blk_alloc ?_ _));refine blk_put (cs := #[.int .i64 t150,.slice Ao23 t151.length co23,.int .i64 t154,.int .i64 0]) ?_ 3 _ rfl;(with_reducible repeat (first | refine blk_drewN ?_ _ | refine blk_drew ?_ | refine blk_alloc ?_ _));refine blk_put (cs := #[.int .i64 t150,.slice Ao23 t151.length co23,.int .i64 0,.int .i64 0]) ?_ 2 _ rfl;(with_reducible repeat (first | refine blk_drewN ?_ _ | refine blk_drew ?_ | refine blk_alloc ?_ _));refine blk_put (cs := #[.int .i64 t150,.slice none 0 0,.int .i64 0,.int .i64 0]) ?_ 1 _ rfl;(with_reducible repeat (first | refine blk_drewN ?_ _ | refine blk_drew ?_ | refine blk_alloc ?_ _));refine blk_put (cs := #[.int .i64 0,.slice none 0 0,.int .i64 0,.int .i64 0]) ?_ 0 _ rfl;(with_reducible repeat (first | refine blk_drewN ?_ _ | refine blk_drew ?_ | refine blk_alloc ?_ _));exact BK156.out) hb);have n3_ := Aside0.mk (below_step au16 hb);clear HO153;clear BK156;clear HB;have HO153 := n0_;have HO160 := n1_;have BK156 := n2_;have HB := n3_;clear n0_ n1_ n2_ n3_;(try clear hb);(try clear hb2);(try clear hk);(try clear hi);(try clear ho0)) | ((with_reducible refine gate_dst (N := 2) rfl ?_);(try (refine gate_guard (by rfl) ?_;dsimp only));refine box_event ?hg (N := 2) ?hd (cs := #[.int .i64 0,.slice none 0 0,.int .i64 0,.int .i64 0]) (t := 29) ?hr ?_;(case hd => rfl);(case hg => rfl);(case hr => first | (go_simp;done) | (go_simp;rfl));intro gb163 hg w25 hbox hb;have n0_ := Aside0.mk (Kd.S_below (by (with_reducible repeat (first | apply Kd.S_alloc | apply Kd.S_drewN | apply Kd.S_drew));exact HO153.out) hb);have n1_ := Aside0.mk (Kd.S_below (by (with_reducible repeat (first | apply Kd.S_alloc | apply Kd.S_drewN | apply Kd.S_drew));exact HO160.out) hb);have n2_ := Aside0.mk (blk_below (g := gb156) (o := .cells #[.int .i64 t150,.slice Ao23 t151.length co23,.int .i64 t154,.int .i64 t155] 29 (0,0)) (by (with_reducible repeat (first | refine blk_drewN ?_ _ | refine blk_drew ?_ | refine blk_alloc ?_ _));exact BK156.out) hb);have n3_ := Aside0.mk (below_step au16 hb);have n4_ := Aside0.mk (hbox);have n5_ := Aside0.mk ((by rw [hg];exact (below_size au16) : w.heap.size ≤ gb163));have n6_ := Aside0.mk ((by rw [hg];exact (below_size au16) : w.heap.size ≤ gb163));have n7_ := Aside0.mk ((by rw [hg];exact Nat.ne_of_lt (blk_lt (g := gb156) (o := .cells #[.int .i64 t150,.slice Ao23 t151.length co23,.int .i64 t154,.int .i64 t155] 29 (0,0)) (by (with_reducible repeat (first | refine blk_drewN ?_ _ | refine blk_drew ?_ | refine blk_alloc ?_ _));exact BK156.out)) : gb156 ≠ gb163));have n8_ := Aside0.mk ((by rw [hg];exact Nat.ne_of_gt (blk_lt (g := gb156) (o := .cells #[.int .i64 t150,.slice Ao23 t151.length co23,.int .i64 t154,.int .i64 t155] 29 (0,0)) (by (with_reducible repeat (first | refine blk_drewN ?_ _ | refine blk_drew ?_ | refine blk_alloc ?_ _));exact BK156.out)) : gb163 ≠ gb156));clear HO153;clear HO160;clear BK156;clear HB;have HO153 := n0_;have HO160 := n1_;have BK156 := n2_;have HB := n3_;have BK163 := n4_;have GW163 := n5_;have GE163 := n6_;have NB156_163 := n7_;have NB163_156 := n8_;clear n0_ n1_ n2_ n3_ n4_ n5_ n6_ n7_ n8_;clear hb hbox hg;have hnb26 := NB163_156.out;have hnc26 := NB156_163.out;have hcz27_0 : w25.cell? ⟨gb163,0,none⟩ = some (.int .i64 0) := (blk_cell BK163.out 0).trans rfl;have hcz27_1 : w25.cell? ⟨gb163,1,none⟩ = some (.slice none 0 0) := (blk_cell BK163.out 1).trans rfl;have hcz27_2 : w25.cell? ⟨gb163,2,none⟩ = some (.int .i64 0) := (blk_cell BK163.out 2).trans rfl;have hcz27_3 : w25.cell? ⟨gb163,3,none⟩ = some (.int .i64 0) := (blk_cell BK163.out 3).trans rfl;have hfz27_0 := blk_frozen BK163.out 0;have hfz27_1 := blk_frozen BK163.out 1;have hfz27_2 := blk_frozen BK163.out 2;have hfz27_3 := blk_frozen BK163.out 3;obtain ⟨Ao28,co28,eo28⟩ := Kd.S_slice HO160.out;subst eo28) | ((with_reducible refine gate_store (t := 29) (p := 2) rfl ?_);refine store_event (t := 29) (p := 2) (v := ?vo_w29) (w1 := ((((w25.setCell ⟨gb163,0,none⟩ (.int .i64 t157)).setCell ⟨gb163,1,none⟩ (.slice Ao28 t158.length co28)).setCell ⟨gb163,2,none⟩ (.int .i64 t161)).setCell ⟨gb163,3,none⟩ (.int .i64 t162))) ?hg ?ho ?hn ?hr ?_;(case ho => rfl);(case hg => rfl);(case hn => rfl);(case hr => first | (go_simp;done) | (go_simp;rfl));intro w29 hw;have n0_ : Aside0 (Kd.S (Kd.slice 35 k35) 33 w29 w.heap.size (fun k_ => some k_ ≠ (.slice Ao28 t158.length co28 : Value).ownBlock) (.slice Ao23 t151.length co23) t151) := ⟨(by rw [hw];exact (by (with_reducible repeat (first | apply Kd.S_alloc | apply Kd.S_drewN | apply Kd.S_drew));exact Kd.S_mono (Kd.S_far (p := ⟨gb163,3,none⟩) (Kd.S_far (p := ⟨gb163,2,none⟩) (Kd.S_far (p := ⟨gb163,1,none⟩) (Kd.S_far (p := ⟨gb163,0,none⟩) (Kd.S_types HO153.out BK163.out (by decide)) (fun _ hk => hk.2) (.int .i64 t157)) (fun _ hk => hk.2) (.slice Ao28 t158.length co28)) (fun _ hk => hk.2) (.int .i64 t161)) (fun _ hk => hk.2) (.int .i64 t162)) (fun _ hk => hk.1.2)))⟩;have n1_ : Aside0 (Kd.S (Kd.slice 35 k35) 33 w29 w.heap.size (fun k_ => some k_ ≠ (.slice Ao23 t151.length co23 : Value).ownBlock) (.slice Ao28 t158.length co28) t158) := ⟨(by rw [hw];exact (by (with_reducible repeat (first | apply Kd.S_alloc | apply Kd.S_drewN | apply Kd.S_drew));exact Kd.S_mono (Kd.S_far (p := ⟨gb163,3,none⟩) (Kd.S_far (p := ⟨gb163,2,none⟩) (Kd.S_far (p := ⟨gb163,1,none⟩) (Kd.S_far (p := ⟨gb163,0,none⟩) (Kd.S_types HO160.out BK163.out (by decide)) (fun _ hk => hk.2) (.int .i64 t157)) (fun _ hk => hk.2) (.slice Ao28 t158.length co28)) (fun _ hk => hk.2) (.int .i64 t161)) (fun _ hk => hk.2) (.int .i64 t162)) (fun _ hk => hk.1.2)))⟩;have n2_ : Aside0 (w29.heap[gb156]? = some (.cells #[.int .i64 t150,.slice Ao23 t151.length co23,.int .i64 t154,.int .i64 t155] 29 (0,0))) := ⟨(by rw [hw];exact (by (with_reducible repeat (first | refine blk_drewN ?_ _ | refine blk_drew ?_ | refine blk_alloc ?_ _));refine blk_far ?_ NB156_163.out _;(with_reducible repeat (first | refine blk_drewN ?_ _ | refine blk_drew ?_ | refine blk_alloc ?_ _));refine blk_far ?_ NB156_163.out _;(with_reducible repeat (first | refine blk_drewN ?_ _ | refine blk_drew ?_ | refine blk_alloc ?_ _));refine blk_far ?_ NB156_163.out _;(with_reducible repeat (first | refine blk_drewN ?_ _ | refine blk_drew ?_ | refine blk_alloc ?_ _));refine blk_far ?_ NB156_163.out _;(with_reducible repeat (first | refine blk_drewN ?_ _ | refine blk_drew ?_ | refine blk_alloc ?_ _));exact BK156.out))⟩;have n3_ : Aside0 (w29.heap[gb163]? = some (.cells #[.int .i64 t157,.slice Ao28 t158.length co28,.int .i64 t161,.int .i64 t162] 29 (0,0))) := ⟨(by rw [hw];exact (by (with_reducible repeat (first | refine blk_drewN ?_ _ | refine blk_drew ?_ | refine blk_alloc ?_ _));refine blk_put (cs := #[.int .i64 t157,.slice Ao28 t158.length co28,.int .i64 t161,.int .i64 0]) ?_ 3 _ rfl;(with_reducible repeat (first | refine blk_drewN ?_ _ | refine blk_drew ?_ | refine blk_alloc ?_ _));refine blk_put (cs := #[.int .i64 t157,.slice Ao28 t158.length co28,.int .i64 0,.int .i64 0]) ?_ 2 _ rfl;(with_reducible repeat (first | refine blk_drewN ?_ _ | refine blk_drew ?_ | refine blk_alloc ?_ _));refine blk_put (cs := #[.int .i64 t157,.slice none 0 0,.int .i64 0,.int .i64 0]) ?_ 1 _ rfl;(with_reducible repeat (first | refine blk_drewN ?_ _ | refine blk_drew ?_ | refine blk_alloc ?_ _));refine blk_put (cs := #[.int .i64 0,.slice none 0 0,.int .i64 0,.int .i64 0]) ?_ 0 _ rfl;(with_reducible repeat (first | refine blk_drewN ?_ _ | refine blk_drew ?_ | refine blk_alloc ?_ _));exact BK163.out))⟩;have n4_ : Aside0 (Below w.heap.size w w29) := ⟨(by rw [hw];exact (by repeat (first | (with_reducible first | exact HB.out | apply below_alloc | apply pw_below_drewN | apply below_drew1 | refine below_set ?_ GE156.out | refine below_set ?_ GE163.out) | exact HB.out)))⟩;clear hw;clear HO153;clear HO160;clear BK156;clear BK163;clear HB;have HO153 := n0_;have HO160 := n1_;have BK156 := n2_;have BK163 := n3_;have HB := n4_;clear n0_ n1_ n2_ n3_ n4_;have hcz30_0 : w29.cell? ⟨gb156,0,none⟩ = some (.int .i64 t150) := (blk_cell BK156.out 0).trans rfl;have hcz30_1 : w29.cell? ⟨gb156,1,none⟩ = some (.slice Ao23 t151.length co23) := (blk_cell BK156.out 1).trans rfl;have hcz30_2 : w29.cell? ⟨gb156,2,none⟩ = some (.int .i64 t154) := (blk_cell BK156.out 2).trans rfl;have hcz30_3 : w29.cell? ⟨gb156,3,none⟩ = some (.int .i64 t155) := (blk_cell BK156.out 3).trans rfl;have hfz30_0 := blk_frozen BK156.out 0;have hfz30_1 := blk_frozen BK156.out 1;have hfz30_2 := blk_frozen BK156.out 2;have hfz30_3 := blk_frozen BK156.out 3;have p164 : 0 ≤ (0 : Int) := (by omega);have q164 : 0 < (t151.length : Int) := of_decide_eq_true au10;obtain ⟨ad164,A164_0,c164_0,e164,hx164_0,hl164_0,hi164_0⟩ := at_L3 (Kd.S_reads' HO153.out).2.2 0 p164 q164;cases e164;obtain ⟨ce164,hce164,hMe164,hcc164⟩ := Kd.S_get HO153.out [] 0 p164 (by first | exact q164 | exact of_decide_eq_true au10 | (have e_ := (Kd.S_reads' HO153.out).1;omega));obtain ⟨ve164_0,rfl,ge164_0⟩ := hMe164;have hv164_0 := hcc164 0 _ rfl;rw [Nat.add_zero,show ((Kd.slice 35 k35)).sz = 1 from rfl,Nat.mul_one] at hv164_0;replace hv164_0 := Option.some.inj (hv164_0.symm.trans hx164_0);rw [hv164_0] at ge164_0;have HL164_0 := Aside0.mk (show Kd.R k35 35 _ _ _ _ (rd_L3 t151 0) from ge164_0);clear hv164_0 ge164_0;clear hcc164 hce164;have qi164 : (0 < t151.length) = True := eq_true (by omega);(try rw [show ((0 : Int)).toNat = 0 from rfl] at hx164_0);(try rw [Addr.add_zero'] at hx164_0);have HR164_0 := Aside0.mk hi164_0;have HC164_0 := Aside0.mk hl164_0;clear hi164_0 hl164_0;replace p164 := eq_true p164;replace q164 := eq_true q164;have p165 : 0 ≤ (0 : Int) := (by omega);have q165 : 0 < (t151.length : Int) := of_decide_eq_true au10;obtain ⟨ad165,A165_0,c165_0,e165,hx165_0,hl165_0,hi165_0⟩ := at_L3 (Kd.S_reads' HO153.out).2.2 0 p165 q165;obtain rfl : ad164 = ad165 := (by injection e165);obtain ⟨ce165,hce165,hMe165,hcc165⟩ := Kd.S_get HO153.out [] 0 p165 (by first | exact q165 | exact of_decide_eq_true au10 | (have e_ := (Kd.S_reads' HO153.out).1;omega));obtain ⟨ve165_0,rfl,ge165_0⟩ := hMe165;have hv165_0 := hcc165 0 _ rfl;rw [Nat.add_zero,show ((Kd.slice 35 k35)).sz = 1 from rfl,Nat.mul_one] at hv165_0;replace hv165_0 := Option.some.inj (hv165_0.symm.trans hx165_0);rw [hv165_0] at ge165_0;have HL165_0 := Aside0.mk (show Kd.R k35 35 _ _ _ _ (rd_L3 t151 0) from ge165_0);clear hv165_0 ge165_0;clear hcc165 hce165;have qi165 : (0 < t151.length) = True := eq_true (by omega);(try rw [show ((0 : Int)).toNat = 0 from rfl] at hx165_0);(try rw [Addr.add_zero'] at hx165_0);have HR165_0 := Aside0.mk hi165_0;have HC165_0 := Aside0.mk hl165_0;clear hi165_0 hl165_0;replace p165 := eq_true p165;replace q165 := eq_true q165;have ea_ := Option.some.inj (hx164_0.symm.trans hx165_0);injection ea_ with ea_ en_ ec_;subst ea_;subst ec_;clear en_;have p166 : 0 ≤ (2 : Int) := (by omega);have q166 : 2 < ((rd_L3 t151 0).length : Int) := of_decide_eq_true au10;obtain ⟨ad166,e166,hx166_0,hx166_1⟩ := at_T35 (by repeat (first | (with_reducible exact HR165_0.out) | (with_reducible refine Kd.C_alloc ?_ _) | (with_reducible refine Kd.C_drewN ?_ _) | (with_reducible refine Kd.C_drew ?_) | exact HR165_0.out)) 2 p166 q166;cases e166;(try simp only [show (2 : Int).toNat = 2 from rfl,Nat.reduceMul,Nat.reduceEqDiff,Go.Addr.add,↓reduceIte] at hx166_0);(try simp only [show (2 : Int).toNat = 2 from rfl,Nat.reduceMul,Nat.reduceEqDiff,Go.Addr.add,↓reduceIte] at hx166_1);have qi166 : (2 < (rd_L3 t151 0).length) = True := eq_true (by omega);(try rw [show ((2 : Int)).toNat = 2 from rfl] at hx166_0);(try rw [show 2 * 2 = 4 from rfl] at hx166_0);(try rw [show ((2 : Int)).toNat = 2 from rfl] at hx166_1);(try rw [show 2 * 2 = 4 from rfl] at hx166_1);replace p166 := eq_true p166;replace q166 := eq_true q166;have hcz31_0 : w29.cell? ⟨gb163,0,none⟩ = some (.int .i64 t157) := (blk_cell BK163.out 0).trans rfl;have hcz31_1 : w29.cell? ⟨gb163,1,none⟩ = some (.slice Ao28 t158.length co28) := (blk_cell BK163.out 1).trans rfl;have hcz31_2 : w29.cell? ⟨gb163,2,none⟩ = some (.int .i64 t161) := (blk_cell BK163.out 2).trans rfl;have hcz31_3 : w29.cell? ⟨gb163,3,none⟩ = some (.int .i64 t162) := (blk_cell BK163.out 3).trans rfl;have hfz31_0 := blk_frozen BK163.out 0;have hfz31_1 := blk_frozen BK163.out 1;have hfz31_2 := blk_frozen BK163.out 2;have hfz31_3 := blk_frozen BK163.out 3;have p167 : 0 ≤ (0 : Int) := (by omega);have q167 : 0 < (t158.length : Int) := of_decide_eq_true au10;obtain ⟨ad167,A167_0,c167_0,e167,hx167_0,hl167_0,hi167_0⟩ := at_L3 (Kd.S_reads' HO160.out).2.2 0 p167 q167;cases e167;obtain ⟨ce167,hce167,hMe167,hcc167⟩ := Kd.S_get HO160.out [] 0 p167 (by first | exact q167 | exact of_decide_eq_true au10 | (have e_ := (Kd.S_reads' HO160.out).1;omega));obtain ⟨ve167_0,rfl,ge167_0⟩ := hMe167;have hv167_0 := hcc167 0 _ rfl;rw [Nat.add_zero,show ((Kd.slice 35 k35)).sz = 1 from rfl,Nat.mul_one] at hv167_0;replace hv167_0 := Option.some.inj (hv167_0.symm.trans hx167_0);rw [hv167_0] at ge167_0;have HL167_0 := Aside0.mk (show Kd.R k35 35 _ _ _ _ (rd_L3 t158 0) from ge167_0);clear hv167_0 ge167_0;clear hcc167 hce167;have qi167 : (0 < t158.length) = True := eq_true (by omega);(try rw [show ((0 : Int)).toNat = 0 from rfl] at hx167_0);(try rw [Addr.add_zero'] at hx167_0);have HR167_0 := Aside0.mk hi167_0;have HC167_0 := Aside0.mk hl167_0;clear hi167_0 hl167_0;replace p167 := eq_true p167;replace q167 := eq_true q167;have p168 : 0 ≤ (1 : Int) := (by omega);have q168 : 1 < (t158.length : Int) := of_decide_eq_true au10;obtain ⟨ad168,A168_0,c168_0,e168,hx168_0,hl168_0,hi168_0⟩ := at_L3 (Kd.S_reads' HO160.out).2.2 1 p168 q168;obtain rfl : ad167 = ad168 := (by injection e168);obtain ⟨ce168,hce168,hMe168,hcc168⟩ := Kd.S_get HO160.out [] 1 p168 (by first | exact q168 | exact of_decide_eq_true au10 | (have e_ := (Kd.S_reads' HO160.out).1;omega));obtain ⟨ve168_0,rfl,ge168_0⟩ := hMe168;have hv168_0 := hcc168 0 _ rfl;rw [Nat.add_zero,show ((Kd.slice 35 k35)).sz = 1 from rfl,Nat.mul_one] at hv168_0;replace hv168_0 := Option.some.inj (hv168_0.symm.trans hx168_0);rw [hv168_0] at ge168_0;have HL168_0 := Aside0.mk (show Kd.R k35 35 _ _ _ _ (rd_L3 t158 1) from ge168_0);clear hv168_0 ge168_0;clear hcc168 hce168;(try simp only [show (1 : Int).toNat = 1 from rfl,Nat.reduceMul,Nat.reduceEqDiff,Go.Addr.add,↓reduceIte] at hx168_0);have qi168 : (1 < t158.length) = True := eq_true (by omega);(try rw [show ((1 : Int)).toNat = 1 from rfl] at hx168_0);have HR168_0 := Aside0.mk hi168_0;have HC168_0 := Aside0.mk hl168_0;clear hi168_0 hl168_0;replace p168 := eq_true p168;replace q168 := eq_true q168;have p169 : 0 ≤ (1 : Int) := (by omega);have q169 : 1 < (t158.length : Int) := of_decide_eq_true au10;obtain ⟨ad169,A169_0,c169_0,e169,hx169_0,hl169_0,hi169_0⟩ := at_L3 (Kd.S_reads' HO160.out).2.2 1 p169 q169;obtain rfl : ad167 = ad169 := (by injection e169);obtain ⟨ce169,hce169,hMe169,hcc169⟩ := Kd.S_get HO160.out [] 1 p169 (by first | exact q169 | exact of_decide_eq_true au10 | (have e_ := (Kd.S_reads' HO160.out).1;omega));obtain ⟨ve169_0,rfl,ge169_0⟩ := hMe169;have hv169_0 := hcc169 0 _ rfl;rw [Nat.add_zero,show ((Kd.slice 35 k35)).sz = 1 from rfl,Nat.mul_one] at hv169_0;replace hv169_0 := Option.some.inj (hv169_0.symm.trans hx169_0);rw [hv169_0] at ge169_0;have HL169_0 := Aside0.mk (show Kd.R k35 35 _ _ _ _ (rd_L3 t158 1) from ge169_0);clear hv169_0 ge169_0;clear hcc169 hce169;(try simp only [show (1 : Int).toNat = 1 from rfl,Nat.reduceMul,Nat.reduceEqDiff,Go.Addr.add,↓reduceIte] at hx169_0);have qi169 : (1 < t158.length) = True := eq_true (by omega);(try rw [show ((1 : Int)).toNat = 1 from rfl] at hx169_0);have HR169_0 := Aside0.mk hi169_0;have HC169_0 := Aside0.mk hl169_0;clear hi169_0 hl169_0;replace p169 := eq_true p169;replace q169 := eq_true q169;have ea_ := Option.some.inj (hx168_0.symm.trans hx169_0);injection ea_ with ea_ en_ ec_;subst ea_;subst ec_;clear en_;have p170 : 0 ≤ (1 : Int) := (by omega);have q170 : 1 < ((rd_L3 t158 1).length : Int) := of_decide_eq_true au10;obtain ⟨ad170,e170,hx170_0,hx170_1⟩ := at_T35 (by repeat (first | (with_reducible exact HR169_0.out) | (with_reducible refine Kd.C_alloc ?_ _) | (with_reducible refine Kd.C_drewN ?_ _) | (with_reducible refine Kd.C_drew ?_) | exact HR169_0.out)) 1 p170 q170;cases e170;(try simp only [show (1 : Int).toNat = 1 from rfl,Nat.reduceMul,Nat.reduceEqDiff,Go.Addr.add,↓reduceIte] at hx170_0);(try simp only [show (1 : Int).toNat = 1 from rfl,Nat.reduceMul,Nat.reduceEqDiff,Go.Addr.add,↓reduceIte] at hx170_1);have qi170 : (1 < (rd_L3 t158 1).length) = True := eq_true (by omega);(try rw [show ((1 : Int)).toNat = 1 from rfl] at hx170_0);(try rw [show 1 * 2 = 2 from rfl] at hx170_0);(try rw [show ((1 : Int)).toNat = 1 from rfl] at hx170_1);(try rw [show 1 * 2 = 2 from rfl] at hx170_1);replace p170 := eq_true p170;replace q170 := eq_true q170))
                go_ret
                exact ⟨au2,by repeat (first | (with_reducible first | exact HB.out | apply below_alloc | apply pw_below_drewN | apply below_drew1 | refine below_set ?_ GE156.out | refine below_set ?_ GE163.out) | exact HB.out)⟩
                rename_i hx_
                exfalso
                apply hx_
                have h1_ := hc18
                rw [Bool.and_eq_true] at h1_
                exact ⟨by simpa using h1_.1,by simpa using h1_.2⟩
               ·rw [if_neg c18] at H
                have c18b0 : ((((rd_T35 (rd_L3 t158 1) 1).f0).toList) == ([] : List UInt8) && (((rd_T35 (rd_L3 t158 1) 1).f1) == 0)) = false := by simpa using c18
                (try (have c18b1 : decide ((((rd_T35 (rd_L3 t158 1) 1).f0).toList) = ([] : List UInt8) && (((rd_T35 (rd_L3 t158 1) 1).f1) == 0)) = false := by simpa using c18))
                (try (have c18b2 : ((((rd_T35 (rd_L3 t158 1) 1).f0).toList) == ([] : List UInt8) && (((rd_T35 (rd_L3 t158 1) 1).f1) == 0)) = false := by simpa using c18))
                (try (have c18b3 : ¬ ((((rd_T35 (rd_L3 t158 1) 1).f0).toList) = ([] : List UInt8) && (((rd_T35 (rd_L3 t158 1) 1).f1) == 0)) := by simpa using c18))
                clear c18
                obtain rfl := Option.some.inj H
                cases hr_
              ·rw [if_neg c17] at H
               exact absurd H (by simp)
             ·rw [if_neg c16] at H
              have c16b0 : (((rd_L3 t158 1).length : Int) == 2) = false := beq_eq_false_iff_ne.mpr c16
              have c16b1 : (((rd_L3 t158 1).length : Int) != 2) = true := bne_iff_ne.mpr c16
              obtain rfl := Option.some.inj H
              cases hr_
            ·rw [if_neg c15] at H
             exact absurd H (by simp)
           ·rw [if_neg c14] at H
            have c14b0 : (((rd_L3 t158 0).length : Int) == 1) = false := beq_eq_false_iff_ne.mpr c14
            have c14b1 : (((rd_L3 t158 0).length : Int) != 1) = true := bne_iff_ne.mpr c14
            obtain rfl := Option.some.inj H
            cases hr_
          ·rw [if_neg c13] at H
           exact absurd H (by simp)
         ·rw [if_neg c12] at H
          have c12b0 : ((t158.length : Int) == 3) = false := beq_eq_false_iff_ne.mpr c12
          have c12b1 : ((t158.length : Int) != 3) = true := bne_iff_ne.mpr c12
          obtain rfl := Option.some.inj H
          cases hr_
        ·rw [if_neg c11] at H
         have c11b0 : (t154 == 0 && (t155 == 3)) = false := by simpa using c11
         (try (have c11b1 : decide (t154 = 0 && (t155 == 3)) = false := by simpa using c11))
         (try (have c11b2 : (t154 == 0 && (t155 == 3)) = false := by simpa using c11))
         (try (have c11b3 : ¬ (t154 = 0 && (t155 == 3)) := by simpa using c11))
         clear c11
         obtain rfl := Option.some.inj H
         cases hr_
       ·rw [if_neg c10] at H
        have c10b0 : ((((rd_T35 (rd_L3 t151 0) 2).f0).toList) == ([97] : List UInt8) && (((rd_T35 (rd_L3 t151 0) 2).f1) == 1)) = false := by simpa using c10
        (try (have c10b1 : decide ((((rd_T35 (rd_L3 t151 0) 2).f0).toList) = ([97] : List UInt8) && (((rd_T35 (rd_L3 t151 0) 2).f1) == 1)) = false := by simpa using c10))
        (try (have c10b2 : ((((rd_T35 (rd_L3 t151 0) 2).f0).toList) == ([97] : List UInt8) && (((rd_T35 (rd_L3 t151 0) 2).f1) == 1)) = false := by simpa using c10))
        (try (have c10b3 : ¬ ((((rd_T35 (rd_L3 t151 0) 2).f0).toList) = ([97] : List UInt8) && (((rd_T35 (rd_L3 t151 0) 2).f1) == 1)) := by simpa using c10))
        clear c10
        obtain rfl := Option.some.inj H
        cases hr_
      ·rw [if_neg c9] at H
       exact absurd H (by simp)
     ·rw [if_neg c8] at H
      have c8b0 : (((rd_L3 t151 0).length : Int) == 4) = false := beq_eq_false_iff_ne.mpr c8
      have c8b1 : (((rd_L3 t151 0).length : Int) != 4) = true := bne_iff_ne.mpr c8
      obtain rfl := Option.some.inj H
      cases hr_
    ·rw [if_neg c7] at H
     exact absurd H (by simp)
   ·rw [if_neg c6] at H
    have c6b0 : ((t151.length : Int) == 1) = false := beq_eq_false_iff_ne.mpr c6
    have c6b1 : ((t151.length : Int) != 1) = true := bne_iff_ne.mpr c6
    obtain rfl := Option.some.inj H
    cases hr_
  ·rw [if_neg c5] at H
   have c5b0 : (t150 == 5) = false := beq_eq_false_iff_ne.mpr c5
   have c5b1 : (t150 != 5) = true := bne_iff_ne.mpr c5
   obtain rfl := Option.some.inj H
   cases hr_
 ·rw [if_neg c2] at H
  have c2b0 : (t149 == 1) = false := beq_eq_false_iff_ne.mpr c2
  have c2b1 : (t149 != 1) = true := bne_iff_ne.mpr c2
  obtain rfl := Option.some.inj H
  cases hr_
end Go.Proofs.YtnpjaaldppemlaaDoor.U
end
section
namespace Go.Proofs.YtnpjaaldppemlaaDoor.U
open Go.RowKit Go.Proofs.YtnpjaaldppemlaaDoorW.PrintWords Go.Proofs.YtnpjaaldppemlaaDoorW.PrintLast Go.Proofs.YtnpjaaldppemlaaDoorW.PrintMore
attribute [local go_sem] max2_int min2_int max_two min_two max_three min_three max_four min_four   -- for this text's walks alone
set_option linter.unusedVariables false
set_option linter.unusedSimpArgs false
mutual
def bodkinlaw20_LayoutShows.l0 : Nat → ByteArray → Int → ByteArray → ByteArray → Int → Int → Int → List (List (S35)) → Int → Int → Option (Bool)
 | 0,_,_,_,_,_,_,_,_,_,_ => none
 | k + 1,x4,x5,x296000,x296001,x296002,x296003,x305000,x305001,x305002,x305003 => if x5 < (x296000.size : Int) then ((cluster_Next.f k x296000 x5).bind fun t305 => (if t305 ≤ x5 then (some false) else (if 0 ≤ x5 then (if x5 ≤ t305 then (if t305 ≤ (x296000.size : Int) then ((cluster_Drawn.f (x296000.extract (x5 : Int).toNat (t305 : Int).toNat)).bind fun t306 => ((bodkinlaw20_bare.f k t306).bind fun t307 => (if x4.size + t307.size ≤ 9223372036854775807 then (bodkinlaw20_LayoutShows.l0 k (x4 ++ t307) t305 x296000 x296001 x296002 x296003 x305000 x305001 x305002 x305003) else (none)))) else (none)) else (none)) else (none)))) else (bodkinlaw20_LayoutShows.l1 k x4 0 x296000 x296001 x296002 x296003 x305000 x305001 x305002 x305003)
def bodkinlaw20_LayoutShows.l1 : Nat → ByteArray → Int → ByteArray → ByteArray → Int → Int → Int → List (List (S35)) → Int → Int → Option (Bool)
 | 0,_,_,_,_,_,_,_,_,_,_ => none
 | k + 1,x4,x5,x296000,x296001,x296002,x296003,x305000,x305001,x305002,x305003 => if x5 < (x296001.size : Int) then ((cluster_Next.f k x296001 x5).bind fun t309 => (if t309 ≤ x5 then (some false) else (if 0 ≤ x5 then (if x5 ≤ t309 then (if t309 ≤ (x296001.size : Int) then ((cluster_Drawn.f (x296001.extract (x5 : Int).toNat (t309 : Int).toNat)).bind fun t310 => ((bodkinlaw20_bare.f k t310).bind fun t311 => (if x4.size + t311.size ≤ 9223372036854775807 then (bodkinlaw20_LayoutShows.l1 k (x4 ++ t311) t309 x296000 x296001 x296002 x296003 x305000 x305001 x305002 x305003) else (none)))) else (none)) else (none)) else (none)))) else ((bodkinlaw20_shown.f k x305000 x305001 x305002 x305003).bind fun t308 => (some (t308.toList == x4.toList)))
end
def bodkinlaw20_LayoutShows.f (k : Nat) (a0_0 : ByteArray) (a0_1 : ByteArray) (a0_2 : Int) (a0_3 : Int) : Option (Bool) := (bodkinlaw20_awake.f k).bind fun t296 => (if t296 = true then ((bodkinlaw20_width.f a0_3).bind fun t297 => (if t297 < 2 then (some true) else ((layout_Lay.f a0_0 a0_1 a0_2 a0_3).bind fun bt298 => (bodkinlaw20_LayoutShows.l0 k (⟨#[]⟩ : ByteArray) 0 a0_0 a0_1 a0_2 a0_3 bt298.1 bt298.2.1 bt298.2.2.1 bt298.2.2.2)))) else (some false))
set_option maxHeartbeats 8000000 in
set_option maxRecDepth 100000 in
theorem bodkinlaw20_LayoutShows.calls (k : Nat) (a0_0 : ByteArray) (a0_1 : ByteArray) (a0_2 : Int) (a0_3 : Int) (r : Bool) (hr_ : r = true) (w : World) (hT : Lib.Utf8Tabs 0 1 w) (h : bodkinlaw20_LayoutShows.f k a0_0 a0_1 a0_2 a0_3 = some r) :
  Calls Tryd.prog 4 #[.agg #[.string a0_0,.string a0_1,.int .i64 a0_2,.int .i64 a0_3]] w fun e w' => e = .returned (.bool r) ∧ Below w.heap.size w w' := by
 have hu23 := Tryd.underlying23
 have hu29 := Tryd.underlying29
 have HT := Aside0.mk hT
 clear hT
 have HB := Aside0.mk (Below.refl w.heap.size w)
 have H : ((bodkinlaw20_awake.f k).bind fun t296 => (if t296 = true then ((bodkinlaw20_width.f a0_3).bind fun t297 => (if t297 < 2 then (some true) else ((layout_Lay.f a0_0 a0_1 a0_2 a0_3).bind fun bt298 => (bodkinlaw20_LayoutShows.l0 k (⟨#[]⟩ : ByteArray) 0 a0_0 a0_1 a0_2 a0_3 bt298.1 bt298.2.1 bt298.2.2.1 bt298.2.2.2)))) else (some false))) = some r := h
 clear h
 replace H := Option.bind_eq_some_iff.mp H
 obtain ⟨t296,A20,H⟩ := H
 replace H : (if t296 = true then ((bodkinlaw20_width.f a0_3).bind fun t297 => (if t297 < 2 then (some true) else ((layout_Lay.f a0_0 a0_1 a0_2 a0_3).bind fun bt298 => (bodkinlaw20_LayoutShows.l0 k (⟨#[]⟩ : ByteArray) 0 a0_0 a0_1 a0_2 a0_3 bt298.1 bt298.2.1 bt298.2.2.1 bt298.2.2.2)))) else (some false)) = some r := H
 have A2 := Aside0.mk A20
 clear A20
 by_cases c3 : t296 = true
 ·subst c3
  have H1 : ((bodkinlaw20_width.f a0_3).bind fun t297 => (if t297 < 2 then (some true) else ((layout_Lay.f a0_0 a0_1 a0_2 a0_3).bind fun bt298 => (bodkinlaw20_LayoutShows.l0 k (⟨#[]⟩ : ByteArray) 0 a0_0 a0_1 a0_2 a0_3 bt298.1 bt298.2.1 bt298.2.2.1 bt298.2.2.2)))) = some r := by rw [if_pos rfl] at H;exact H
  clear H
  have H := H1
  clear H1
  replace H := Option.bind_eq_some_iff.mp H
  obtain ⟨t297,A40,H⟩ := H
  replace H : (if t297 < 2 then (some true) else ((layout_Lay.f a0_0 a0_1 a0_2 a0_3).bind fun bt298 => (bodkinlaw20_LayoutShows.l0 k (⟨#[]⟩ : ByteArray) 0 a0_0 a0_1 a0_2 a0_3 bt298.1 bt298.2.1 bt298.2.2.1 bt298.2.2.2))) = some r := H
  have A4 := Aside0.mk A40
  clear A40
  by_cases c5 : t297 < 2
  ·rw [if_pos c5] at H
   have c5b0 : decide (t297 < 2) = true := decide_eq_true c5
   clear c5
   obtain rfl := Option.some.inj H
   go_enter Tryd.func4,Tryd.ntmps4
   go_wp2_with (first | ((with_reducible refine gate_dst (N := 1) rfl ?_);refine box_event ?hg (N := 1) ?hd (cs := #[.string a0_0,.string a0_1,.int .i64 a0_2,.int .i64 a0_3]) (t := 23) ?hr ?_;(case hd => rfl);(case hg => rfl);(case hr => first | (go_simp;done) | (go_simp;rfl));intro gb295 hg w6 hbox hb;have n0_ := Aside0.mk (below_step au0 hb);have n1_ := Aside0.mk (hbox);have n2_ := Aside0.mk ((by rw [hg];exact (below_size au0) : w.heap.size ≤ gb295));have n3_ := Aside0.mk ((by rw [hg];exact (below_size au0) : w.heap.size ≤ gb295));clear HB;have HB := n0_;have BK295 := n1_;have GW295 := n2_;have GE295 := n3_;clear n0_ n1_ n2_ n3_;clear hb hbox hg) | ((with_reducible refine gate_callee (f := 12) rfl ?_);refine goesL_ (some 8) rfl rfl Tryd.func12 (by kernel_rfl) rfl #[] rfl au1 ?_;(with_reducible refine (bodkinlaw20_awake.calls k true rfl _ ?side1 A2.out).mono ?_);(case side1 => exact tabs_below HT.out au7);rintro e w7 ⟨rfl,hb⟩;refine ⟨_,rfl,?_⟩;have n0_ := Aside0.mk (blk_below (g := gb295) (o := .cells #[.string a0_0,.string a0_1,.int .i64 a0_2,.int .i64 a0_3] 23 (0,0)) au8 hb);have n1_ := Aside0.mk (below_step au7 hb);clear BK295;clear HB;have BK295 := n0_;have HB := n1_;clear n0_ n1_;(try clear hb);(try clear hb2);(try clear hk);(try clear hi);have hcz8_0 : w7.cell? ⟨gb295,0,none⟩ = some (.string a0_0) := (blk_cell BK295.out 0).trans rfl;have hcz8_1 : w7.cell? ⟨gb295,1,none⟩ = some (.string a0_1) := (blk_cell BK295.out 1).trans rfl;have hcz8_2 : w7.cell? ⟨gb295,2,none⟩ = some (.int .i64 a0_2) := (blk_cell BK295.out 2).trans rfl;have hcz8_3 : w7.cell? ⟨gb295,3,none⟩ = some (.int .i64 a0_3) := (blk_cell BK295.out 3).trans rfl;have hfz8_0 := blk_frozen BK295.out 0;have hfz8_1 := blk_frozen BK295.out 1;have hfz8_2 := blk_frozen BK295.out 2;have hfz8_3 := blk_frozen BK295.out 3) | ((with_reducible refine gate_callee (f := 17) rfl ?_);refine goesL_ (some 12) rfl rfl Tryd.func17 (by kernel_rfl) rfl #[.int .i64 a0_3] rfl au1 ?_;(with_reducible refine (bodkinlaw20_width.calls a0_3 t297 _ A4.out).mono ?_);rintro e w9 ⟨rfl,hb⟩;refine ⟨_,rfl,?_⟩;have n0_ := Aside0.mk (blk_below (g := gb295) (o := .cells #[.string a0_0,.string a0_1,.int .i64 a0_2,.int .i64 a0_3] 23 (0,0)) au8 hb);have n1_ := Aside0.mk (below_step au7 hb);clear BK295;clear HB;have BK295 := n0_;have HB := n1_;clear n0_ n1_;(try clear hb);(try clear hb2);(try clear hk);(try clear hi)))
   go_ret
   exact ⟨au2,by repeat (first | (with_reducible first | exact HB.out | apply below_alloc | apply pw_below_drewN | apply below_drew1 | refine below_set ?_ GE295.out) | exact HB.out)⟩
  ·rw [if_neg c5] at H
   have c5b0 : decide (t297 < 2) = false := decide_eq_false c5
   clear c5
   replace H := Option.bind_eq_some_iff.mp H
   obtain ⟨⟨t298,t299,t302,t303⟩,A100,H⟩ := H
   replace H : (bodkinlaw20_LayoutShows.l0 k (⟨#[]⟩ : ByteArray) 0 a0_0 a0_1 a0_2 a0_3 t298 t299 t302 t303) = some r := H
   have A10 := Aside0.mk A100
   clear A100
   have H' := Aside0.mk H
   clear H
   go_enter Tryd.func4,Tryd.ntmps4
   go_wp2_with (first | ((with_reducible refine gate_dst (N := 1) rfl ?_);refine box_event ?hg (N := 1) ?hd (cs := #[.string a0_0,.string a0_1,.int .i64 a0_2,.int .i64 a0_3]) (t := 23) ?hr ?_;(case hd => rfl);(case hg => rfl);(case hr => first | (go_simp;done) | (go_simp;rfl));intro gb295 hg w11 hbox hb;have n0_ := Aside0.mk (below_step au0 hb);have n1_ := Aside0.mk (hbox);have n2_ := Aside0.mk ((by rw [hg];exact (below_size au0) : w.heap.size ≤ gb295));have n3_ := Aside0.mk ((by rw [hg];exact (below_size au0) : w.heap.size ≤ gb295));clear HB;have HB := n0_;have BK295 := n1_;have GW295 := n2_;have GE295 := n3_;clear n0_ n1_ n2_ n3_;clear hb hbox hg) | ((with_reducible refine gate_callee (f := 12) rfl ?_);refine goesL_ (some 8) rfl rfl Tryd.func12 (by kernel_rfl) rfl #[] rfl au1 ?_;(with_reducible refine (bodkinlaw20_awake.calls k true rfl _ ?side1 A2.out).mono ?_);(case side1 => exact tabs_below HT.out au7);rintro e w12 ⟨rfl,hb⟩;refine ⟨_,rfl,?_⟩;have n0_ := Aside0.mk (blk_below (g := gb295) (o := .cells #[.string a0_0,.string a0_1,.int .i64 a0_2,.int .i64 a0_3] 23 (0,0)) au8 hb);have n1_ := Aside0.mk (below_step au7 hb);clear BK295;clear HB;have BK295 := n0_;have HB := n1_;clear n0_ n1_;(try clear hb);(try clear hb2);(try clear hk);(try clear hi);have hcz13_0 : w12.cell? ⟨gb295,0,none⟩ = some (.string a0_0) := (blk_cell BK295.out 0).trans rfl;have hcz13_1 : w12.cell? ⟨gb295,1,none⟩ = some (.string a0_1) := (blk_cell BK295.out 1).trans rfl;have hcz13_2 : w12.cell? ⟨gb295,2,none⟩ = some (.int .i64 a0_2) := (blk_cell BK295.out 2).trans rfl;have hcz13_3 : w12.cell? ⟨gb295,3,none⟩ = some (.int .i64 a0_3) := (blk_cell BK295.out 3).trans rfl;have hfz13_0 := blk_frozen BK295.out 0;have hfz13_1 := blk_frozen BK295.out 1;have hfz13_2 := blk_frozen BK295.out 2;have hfz13_3 := blk_frozen BK295.out 3) | ((with_reducible refine gate_callee (f := 17) rfl ?_);refine goesL_ (some 12) rfl rfl Tryd.func17 (by kernel_rfl) rfl #[.int .i64 a0_3] rfl au1 ?_;(with_reducible refine (bodkinlaw20_width.calls a0_3 t297 _ A4.out).mono ?_);rintro e w14 ⟨rfl,hb⟩;refine ⟨_,rfl,?_⟩;have n0_ := Aside0.mk (blk_below (g := gb295) (o := .cells #[.string a0_0,.string a0_1,.int .i64 a0_2,.int .i64 a0_3] 23 (0,0)) au8 hb);have n1_ := Aside0.mk (below_step au7 hb);clear BK295;clear HB;have BK295 := n0_;have HB := n1_;clear n0_ n1_;(try clear hb);(try clear hb2);(try clear hk);(try clear hi);have hcz15_0 : w14.cell? ⟨gb295,0,none⟩ = some (.string a0_0) := (blk_cell BK295.out 0).trans rfl;have hcz15_1 : w14.cell? ⟨gb295,1,none⟩ = some (.string a0_1) := (blk_cell BK295.out 1).trans rfl;have hcz15_2 : w14.cell? ⟨gb295,2,none⟩ = some (.int .i64 a0_2) := (blk_cell BK295.out 2).trans rfl;have hcz15_3 : w14.cell? ⟨gb295,3,none⟩ = some (.int .i64 a0_3) := (blk_cell BK295.out 3).trans rfl;have hfz15_0 := blk_frozen BK295.out 0;have hfz15_1 := blk_frozen BK295.out 1;have hfz15_2 := blk_frozen BK295.out 2;have hfz15_3 := blk_frozen BK295.out 3) | ((with_reducible refine gate_callee (f := 14) rfl ?_);refine goesL_ (some 22) rfl rfl Tryd.func14 (by kernel_rfl) rfl #[.string a0_0,.string a0_1,.int .i64 a0_2,.int .i64 a0_3] rfl au1 ?_;(with_reducible refine (layout_Lay.calls a0_0 a0_1 a0_2 a0_3 t298 t299 t302 t303 _ ?side1 A10.out).mono ?_);(case side1 => exact tabs_below HT.out au7);rintro e w16 ⟨v300,rfl,ho0,hb⟩;refine ⟨_,rfl,?_⟩;have n0_ := Aside0.mk (Kd.S_lower ho0 (below_size au7));have n1_ := Aside0.mk (blk_below (g := gb295) (o := .cells #[.string a0_0,.string a0_1,.int .i64 a0_2,.int .i64 a0_3] 23 (0,0)) au8 hb);have n2_ := Aside0.mk (below_step au7 hb);clear BK295;clear HB;have HO301 := n0_;have BK295 := n1_;have HB := n2_;clear n0_ n1_ n2_;(try clear hb);(try clear hb2);(try clear hk);(try clear hi);(try clear ho0)) | ((with_reducible refine gate_dst (N := 3) rfl ?_);refine box_event ?hg (N := 3) ?hd (cs := #[.int .i64 0,.slice none 0 0,.int .i64 0,.int .i64 0]) (t := 29) ?hr ?_;(case hd => rfl);(case hg => rfl);(case hr => first | (go_simp;done) | (go_simp;rfl));intro gb304 hg w17 hbox hb;have n0_ := Aside0.mk (Kd.S_below (by (with_reducible repeat (first | apply Kd.S_alloc | apply Kd.S_drewN | apply Kd.S_drew));exact HO301.out) hb);have n1_ := Aside0.mk (blk_below (g := gb295) (o := .cells #[.string a0_0,.string a0_1,.int .i64 a0_2,.int .i64 a0_3] 23 (0,0)) au8 hb);have n2_ := Aside0.mk (below_step au7 hb);have n3_ := Aside0.mk (hbox);have n4_ := Aside0.mk ((by rw [hg];exact (below_size au7) : w.heap.size ≤ gb304));have n5_ := Aside0.mk ((by rw [hg];exact (below_size au7) : w.heap.size ≤ gb304));have n6_ := Aside0.mk ((by rw [hg];exact Nat.ne_of_lt (blk_lt (g := gb295) (o := .cells #[.string a0_0,.string a0_1,.int .i64 a0_2,.int .i64 a0_3] 23 (0,0)) au8) : gb295 ≠ gb304));have n7_ := Aside0.mk ((by rw [hg];exact Nat.ne_of_gt (blk_lt (g := gb295) (o := .cells #[.string a0_0,.string a0_1,.int .i64 a0_2,.int .i64 a0_3] 23 (0,0)) au8) : gb304 ≠ gb295));clear HO301;clear BK295;clear HB;have HO301 := n0_;have BK295 := n1_;have HB := n2_;have BK304 := n3_;have GW304 := n4_;have GE304 := n5_;have NB295_304 := n6_;have NB304_295 := n7_;clear n0_ n1_ n2_ n3_ n4_ n5_ n6_ n7_;clear hb hbox hg;have hnb18 := NB304_295.out;have hnc18 := NB295_304.out;have hcz19_0 : w17.cell? ⟨gb304,0,none⟩ = some (.int .i64 0) := (blk_cell BK304.out 0).trans rfl;have hcz19_1 : w17.cell? ⟨gb304,1,none⟩ = some (.slice none 0 0) := (blk_cell BK304.out 1).trans rfl;have hcz19_2 : w17.cell? ⟨gb304,2,none⟩ = some (.int .i64 0) := (blk_cell BK304.out 2).trans rfl;have hcz19_3 : w17.cell? ⟨gb304,3,none⟩ = some (.int .i64 0) := (blk_cell BK304.out 3).trans rfl;have hfz19_0 := blk_frozen BK304.out 0;have hfz19_1 := blk_frozen BK304.out 1;have hfz19_2 := blk_frozen BK304.out 2;have hfz19_3 := blk_frozen BK304.out 3;obtain ⟨Ao20,co20,eo20⟩ := Kd.S_slice HO301.out;subst eo20))
   go_loopg [4,5] k (fun kq v4 v5 w' => ∃ (x4_1 : ByteArray) (x5_1 : Int),v4 = .string x4_1 ∧ v5 = .int .i64 x5_1 ∧ Aside0 (bodkinlaw20_LayoutShows.l0 kq x4_1 x5_1 a0_0 a0_1 a0_2 a0_3 t298 t299 t302 t303 = some r) ∧ Aside0 (kq ≤ k) ∧ Aside0 (Kd.S (Kd.slice 35 k35) 33 w' w.heap.size (fun _ => True) (.slice Ao20 t299.length co20) t299) ∧ Aside0 (w'.heap[gb295]? = some (.cells #[.string a0_0,.string a0_1,.int .i64 a0_2,.int .i64 a0_3] 23 (0,0))) ∧ Aside0 (w'.heap[gb304]? = some (.cells #[.int .i64 t298,(.slice Ao20 t299.length co20),.int .i64 t302,.int .i64 t303] 29 (0,0))) ∧ Aside0 (Below w.heap.size w w'))
   case atStart => exact ⟨((⟨#[]⟩ : ByteArray)),(0),au9,au9,H',⟨Nat.le_refl _⟩,⟨by (with_reducible repeat (first | apply Kd.S_alloc | apply Kd.S_drewN | apply Kd.S_drew));exact Kd.S_mono (Kd.S_far (p := ⟨gb304,3,none⟩) (Kd.S_far (p := ⟨gb304,2,none⟩) (Kd.S_far (p := ⟨gb304,1,none⟩) (Kd.S_far (p := ⟨gb304,0,none⟩) (Kd.S_types HO301.out BK304.out (by decide)) (fun _ hk => hk.2) (.int .i64 t298)) (fun _ hk => hk.2) (.slice Ao20 t299.length co20)) (fun _ hk => hk.2) (.int .i64 t302)) (fun _ hk => hk.2) (.int .i64 t303)) (fun _ hk => trivial)⟩,⟨by (with_reducible repeat (first | refine blk_drewN ?_ _ | refine blk_drew ?_ | refine blk_alloc ?_ _));refine blk_far ?_ NB295_304.out _;(with_reducible repeat (first | refine blk_drewN ?_ _ | refine blk_drew ?_ | refine blk_alloc ?_ _));refine blk_far ?_ NB295_304.out _;(with_reducible repeat (first | refine blk_drewN ?_ _ | refine blk_drew ?_ | refine blk_alloc ?_ _));refine blk_far ?_ NB295_304.out _;(with_reducible repeat (first | refine blk_drewN ?_ _ | refine blk_drew ?_ | refine blk_alloc ?_ _));refine blk_far ?_ NB295_304.out _;(with_reducible repeat (first | refine blk_drewN ?_ _ | refine blk_drew ?_ | refine blk_alloc ?_ _));exact BK295.out⟩,⟨by (with_reducible repeat (first | refine blk_drewN ?_ _ | refine blk_drew ?_ | refine blk_alloc ?_ _));refine blk_put (cs := #[.int .i64 t298,.slice Ao20 t299.length co20,.int .i64 t302,.int .i64 0]) ?_ 3 _ rfl;(with_reducible repeat (first | refine blk_drewN ?_ _ | refine blk_drew ?_ | refine blk_alloc ?_ _));refine blk_put (cs := #[.int .i64 t298,.slice Ao20 t299.length co20,.int .i64 0,.int .i64 0]) ?_ 2 _ rfl;(with_reducible repeat (first | refine blk_drewN ?_ _ | refine blk_drew ?_ | refine blk_alloc ?_ _));refine blk_put (cs := #[.int .i64 t298,.slice none 0 0,.int .i64 0,.int .i64 0]) ?_ 1 _ rfl;(with_reducible repeat (first | refine blk_drewN ?_ _ | refine blk_drew ?_ | refine blk_alloc ?_ _));refine blk_put (cs := #[.int .i64 0,.slice none 0 0,.int .i64 0,.int .i64 0]) ?_ 0 _ rfl;(with_reducible repeat (first | refine blk_drewN ?_ _ | refine blk_drew ?_ | refine blk_alloc ?_ _));exact BK304.out⟩,⟨by repeat (first | (with_reducible first | exact HB.out | apply below_alloc | apply pw_below_drewN | apply below_drew1 | refine below_set ?_ GE295.out | refine below_set ?_ GE304.out) | exact HB.out)⟩⟩
   case round =>
    clear H'
    try clear c1
    try clear p2
    try clear c3
    try clear c4
    try clear c5
    try clear c5b0
    try clear c12
    try clear c14
    try clear c17
    try clear c18
    try clear hcz13_0
    try clear hcz13_1
    try clear hcz13_2
    try clear hcz13_3
    try clear hcz15_0
    try clear hcz15_1
    try clear hcz15_2
    try clear hcz15_3
    try clear hcz19_0
    try clear hcz19_1
    try clear hcz19_2
    try clear hcz19_3
    try clear hcz8_0
    try clear hcz8_1
    try clear hcz8_2
    try clear hcz8_3
    try clear hfz13_0
    try clear hfz13_1
    try clear hfz13_2
    try clear hfz13_3
    try clear hfz15_0
    try clear hfz15_1
    try clear hfz15_2
    try clear hfz15_3
    try clear hfz19_0
    try clear hfz19_1
    try clear hfz19_2
    try clear hfz19_3
    try clear hfz8_0
    try clear hfz8_1
    try clear hfz8_2
    try clear hfz8_3
    obtain ⟨x4_1,x5_1,rfl,rfl,HA,HK1,HO_305001,BK295,BK304,HB⟩ := hrel
    cases gk with
    | zero => exact absurd HA.out (by simp [bodkinlaw20_LayoutShows.l0])
    | succ k1 =>
     have H := HA.out
     clear HA
     simp only [bodkinlaw20_LayoutShows.l0] at H
     by_cases c21 : x5_1 < (a0_0.size : Int)
     ·rw [if_pos c21] at H
      have c21b0 : decide (x5_1 < (a0_0.size : Int)) = true := decide_eq_true c21
      clear c21
      replace H := Option.bind_eq_some_iff.mp H
      obtain ⟨t305,A220,H⟩ := H
      replace H : (if t305 ≤ x5_1 then (some false) else (if 0 ≤ x5_1 then (if x5_1 ≤ t305 then (if t305 ≤ (a0_0.size : Int) then ((cluster_Drawn.f (a0_0.extract (x5_1 : Int).toNat (t305 : Int).toNat)).bind fun t306 => ((bodkinlaw20_bare.f k1 t306).bind fun t307 => (if x4_1.size + t307.size ≤ 9223372036854775807 then (bodkinlaw20_LayoutShows.l0 k1 (x4_1 ++ t307) t305 a0_0 a0_1 a0_2 a0_3 t298 t299 t302 t303) else (none)))) else (none)) else (none)) else (none))) = some r := H
      have A22 := Aside0.mk A220
      clear A220
      by_cases c23 : t305 ≤ x5_1
      ·rw [if_pos c23] at H
       have c23b0 : decide (t305 ≤ x5_1) = true := decide_eq_true c23
       clear c23
       obtain rfl := Option.some.inj H
       cases hr_
      ·rw [if_neg c23] at H
       have c23b0 : decide (t305 ≤ x5_1) = false := decide_eq_false c23
       clear c23
       by_cases c27 : 0 ≤ x5_1
       ·rw [if_pos c27] at H
        have c27b0 := eq_true c27
        have c27b1 : decide (0 ≤ x5_1) = true := decide_eq_true c27
        clear c27
        by_cases c28 : x5_1 ≤ t305
        ·rw [if_pos c28] at H
         have c28b0 := eq_true c28
         have c28b1 : decide (x5_1 ≤ t305) = true := decide_eq_true c28
         clear c28
         by_cases c29 : t305 ≤ (a0_0.size : Int)
         ·rw [if_pos c29] at H
          have c29b0 := eq_true c29
          have c29b1 : decide (t305 ≤ (a0_0.size : Int)) = true := decide_eq_true c29
          clear c29
          replace H := Option.bind_eq_some_iff.mp H
          obtain ⟨t306,A300,H⟩ := H
          replace H : ((bodkinlaw20_bare.f k1 t306).bind fun t307 => (if x4_1.size + t307.size ≤ 9223372036854775807 then (bodkinlaw20_LayoutShows.l0 k1 (x4_1 ++ t307) t305 a0_0 a0_1 a0_2 a0_3 t298 t299 t302 t303) else (none))) = some r := H
          have A30 := Aside0.mk A300
          clear A300
          replace H := Option.bind_eq_some_iff.mp H
          obtain ⟨t307,A310,H⟩ := H
          replace H : (if x4_1.size + t307.size ≤ 9223372036854775807 then (bodkinlaw20_LayoutShows.l0 k1 (x4_1 ++ t307) t305 a0_0 a0_1 a0_2 a0_3 t298 t299 t302 t303) else (none)) = some r := H
          have A31 := Aside0.mk A310
          clear A310
          by_cases c32 : x4_1.size + t307.size ≤ 9223372036854775807
          ·rw [if_pos c32] at H
           have c32b0 := eq_true c32
           have c32b1 : decide (x4_1.size + t307.size ≤ 9223372036854775807) = true := decide_eq_true c32
           try have c32b2 : (9223372036854775807 < x4_1.size + t307.size) = False := eq_false (Nat.not_lt.2 c32)
           have H' := Aside0.mk H
           clear H
           have hnb33 := NB295_304.out
           have hnc33 := NB304_295.out
           have hcz34_0 : wr.cell? ⟨gb295,0,none⟩ = some (.string a0_0) := (blk_cell BK295.out 0).trans rfl
           have hcz34_1 : wr.cell? ⟨gb295,1,none⟩ = some (.string a0_1) := (blk_cell BK295.out 1).trans rfl
           have hcz34_2 : wr.cell? ⟨gb295,2,none⟩ = some (.int .i64 a0_2) := (blk_cell BK295.out 2).trans rfl
           have hcz34_3 : wr.cell? ⟨gb295,3,none⟩ = some (.int .i64 a0_3) := (blk_cell BK295.out 3).trans rfl
           have hfz34_0 := blk_frozen BK295.out 0
           have hfz34_1 := blk_frozen BK295.out 1
           have hfz34_2 := blk_frozen BK295.out 2
           have hfz34_3 := blk_frozen BK295.out 3
           go_wp2_with (first | ((with_reducible refine gate_callee (f := 18) rfl ?_);refine goesL_ (some 31) rfl rfl Tryd.func18 (by kernel_rfl) rfl #[.string a0_0,.int .i64 x5_1] rfl au1 ?_;(with_reducible refine (cluster_Next.calls k1 a0_0 x5_1 t305 _ ?side1 A22.out).mono ?_);(case side1 => exact tabs_below HT.out au3);rintro e w35 ⟨rfl,hb⟩;refine ⟨_,rfl,?_⟩;have n0_ := Aside0.mk (Kd.S_below au20 hb);have n1_ := Aside0.mk (blk_below (g := gb295) (o := .cells #[.string a0_0,.string a0_1,.int .i64 a0_2,.int .i64 a0_3] 23 (0,0)) au8 hb);have n2_ := Aside0.mk (blk_below (g := gb304) (o := .cells #[.int .i64 t298,.slice Ao20 t299.length co20,.int .i64 t302,.int .i64 t303] 29 (0,0)) au17 hb);have n3_ := Aside0.mk (below_step au3 hb);clear HO_305001;clear BK295;clear BK304;clear HB;have HO_305001 := n0_;have BK295 := n1_;have BK304 := n2_;have HB := n3_;clear n0_ n1_ n2_ n3_;(try clear hb);(try clear hb2);(try clear hk);(try clear hi);have hcz36_0 : w35.cell? ⟨gb295,0,none⟩ = some (.string a0_0) := (blk_cell BK295.out 0).trans rfl;have hcz36_1 : w35.cell? ⟨gb295,1,none⟩ = some (.string a0_1) := (blk_cell BK295.out 1).trans rfl;have hcz36_2 : w35.cell? ⟨gb295,2,none⟩ = some (.int .i64 a0_2) := (blk_cell BK295.out 2).trans rfl;have hcz36_3 : w35.cell? ⟨gb295,3,none⟩ = some (.int .i64 a0_3) := (blk_cell BK295.out 3).trans rfl;have hfz36_0 := blk_frozen BK295.out 0;have hfz36_1 := blk_frozen BK295.out 1;have hfz36_2 := blk_frozen BK295.out 2;have hfz36_3 := blk_frozen BK295.out 3) | ((with_reducible refine gate_callee (f := 20) rfl ?_);refine goesL_ (some 41) rfl rfl Tryd.func20 (by kernel_rfl) rfl #[.string (a0_0.extract (x5_1 : Int).toNat (t305 : Int).toNat)] rfl au1 ?_;(with_reducible refine (cluster_Drawn.calls (a0_0.extract (x5_1 : Int).toNat (t305 : Int).toNat) t306 _ ?side1 A30.out).mono ?_);(case side1 => exact tabs_below HT.out au3);rintro e w37 ⟨rfl,hb⟩;refine ⟨_,rfl,?_⟩;have n0_ := Aside0.mk (Kd.S_below au20 hb);have n1_ := Aside0.mk (blk_below (g := gb295) (o := .cells #[.string a0_0,.string a0_1,.int .i64 a0_2,.int .i64 a0_3] 23 (0,0)) au8 hb);have n2_ := Aside0.mk (blk_below (g := gb304) (o := .cells #[.int .i64 t298,.slice Ao20 t299.length co20,.int .i64 t302,.int .i64 t303] 29 (0,0)) au17 hb);have n3_ := Aside0.mk (below_step au3 hb);clear HO_305001;clear BK295;clear BK304;clear HB;have HO_305001 := n0_;have BK295 := n1_;have BK304 := n2_;have HB := n3_;clear n0_ n1_ n2_ n3_;(try clear hb);(try clear hb2);(try clear hk);(try clear hi)) | ((with_reducible refine gate_callee (f := 19) rfl ?_);refine goesL_ (some 42) rfl rfl Tryd.func19 (by kernel_rfl) rfl #[.string t306] rfl au1 ?_;(with_reducible refine (bodkinlaw20_bare.calls k1 t306 t307 _ ?side1 A31.out).mono ?_);(case side1 => exact tabs_below HT.out au3);rintro e w38 ⟨rfl,hb⟩;refine ⟨_,rfl,?_⟩;have n0_ := Aside0.mk (Kd.S_below au20 hb);have n1_ := Aside0.mk (blk_below (g := gb295) (o := .cells #[.string a0_0,.string a0_1,.int .i64 a0_2,.int .i64 a0_3] 23 (0,0)) au8 hb);have n2_ := Aside0.mk (blk_below (g := gb304) (o := .cells #[.int .i64 t298,.slice Ao20 t299.length co20,.int .i64 t302,.int .i64 t303] 29 (0,0)) au17 hb);have n3_ := Aside0.mk (below_step au3 hb);clear HO_305001;clear BK295;clear BK304;clear HB;have HO_305001 := n0_;have BK295 := n1_;have BK304 := n2_;have HB := n3_;clear n0_ n1_ n2_ n3_;(try clear hb);(try clear hb2);(try clear hk);(try clear hi)))
           go_roundg k1
           case measure => have := HK1.out;omega
           case rel => exact ⟨(x4_1 ++ t307),(t305),au9,au9,H',⟨by have := HK1.out;omega⟩,⟨by (with_reducible repeat (first | apply Kd.S_alloc | apply Kd.S_drewN | apply Kd.S_drew));exact HO_305001.out⟩,⟨by (with_reducible repeat (first | refine blk_drewN ?_ _ | refine blk_drew ?_ | refine blk_alloc ?_ _));exact BK295.out⟩,⟨by (with_reducible repeat (first | refine blk_drewN ?_ _ | refine blk_drew ?_ | refine blk_alloc ?_ _));exact BK304.out⟩,⟨by repeat (first | (with_reducible first | exact HB.out | apply below_alloc | apply pw_below_drewN | apply below_drew1 | refine below_set ?_ GE295.out | refine below_set ?_ GE304.out) | exact HB.out)⟩⟩
          ·rw [if_neg c32] at H
           exact absurd H (by simp)
         ·rw [if_neg c29] at H
          exact absurd H (by simp)
        ·rw [if_neg c28] at H
         exact absurd H (by simp)
       ·rw [if_neg c27] at H
        exact absurd H (by simp)
     ·rw [if_neg c21] at H
      have c21b0 : decide (x5_1 < (a0_0.size : Int)) = false := decide_eq_false c21
      clear c21
      have H' := Aside0.mk H
      clear H
      have hnb39 := NB295_304.out
      have hnc39 := NB304_295.out
      have hcz40_0 : wr.cell? ⟨gb295,0,none⟩ = some (.string a0_0) := (blk_cell BK295.out 0).trans rfl
      have hcz40_1 : wr.cell? ⟨gb295,1,none⟩ = some (.string a0_1) := (blk_cell BK295.out 1).trans rfl
      have hcz40_2 : wr.cell? ⟨gb295,2,none⟩ = some (.int .i64 a0_2) := (blk_cell BK295.out 2).trans rfl
      have hcz40_3 : wr.cell? ⟨gb295,3,none⟩ = some (.int .i64 a0_3) := (blk_cell BK295.out 3).trans rfl
      have hfz40_0 := blk_frozen BK295.out 0
      have hfz40_1 := blk_frozen BK295.out 1
      have hfz40_2 := blk_frozen BK295.out 2
      have hfz40_3 := blk_frozen BK295.out 3
      go_wp2
      go_loopg [4,5] k1 (fun kq v4 v5 w' => ∃ (x4_2 : ByteArray) (x5_2 : Int),v4 = .string x4_2 ∧ v5 = .int .i64 x5_2 ∧ Aside0 (bodkinlaw20_LayoutShows.l1 kq x4_2 x5_2 a0_0 a0_1 a0_2 a0_3 t298 t299 t302 t303 = some r) ∧ Aside0 (kq ≤ k1) ∧ Aside0 (Kd.S (Kd.slice 35 k35) 33 w' w.heap.size (fun _ => True) (.slice Ao20 t299.length co20) t299) ∧ Aside0 (w'.heap[gb295]? = some (.cells #[.string a0_0,.string a0_1,.int .i64 a0_2,.int .i64 a0_3] 23 (0,0))) ∧ Aside0 (w'.heap[gb304]? = some (.cells #[.int .i64 t298,(.slice Ao20 t299.length co20),.int .i64 t302,.int .i64 t303] 29 (0,0))) ∧ Aside0 (Below w.heap.size w w'))
      case atStart => exact ⟨(x4_1),(0),au9,au9,H',⟨Nat.le_refl _⟩,⟨by (with_reducible repeat (first | apply Kd.S_alloc | apply Kd.S_drewN | apply Kd.S_drew));exact HO_305001.out⟩,⟨by (with_reducible repeat (first | refine blk_drewN ?_ _ | refine blk_drew ?_ | refine blk_alloc ?_ _));exact BK295.out⟩,⟨by (with_reducible repeat (first | refine blk_drewN ?_ _ | refine blk_drew ?_ | refine blk_alloc ?_ _));exact BK304.out⟩,⟨by repeat (first | (with_reducible first | exact HB.out | apply below_alloc | apply pw_below_drewN | apply below_drew1 | refine below_set ?_ GE295.out | refine below_set ?_ GE304.out) | exact HB.out)⟩⟩
      case round =>
       clear H'
       try clear c1
       try clear c2
       try clear p2
       try clear c3
       try clear c4
       try clear c5
       try clear c5b0
       try clear c12
       try clear c14
       try clear c17
       try clear c18
       try clear c19
       try clear c20
       try clear c21
       try clear c21b0
       try clear c23
       try clear c23b0
       try clear c24
       try clear c27
       try clear c27b0
       try clear c27b1
       try clear c28
       try clear c28b0
       try clear c28b1
       try clear c29
       try clear c29b0
       try clear c29b1
       try clear c32
       try clear c32b0
       try clear c32b1
       try clear c32b2
       try clear c33
       try clear c39
       try clear hcz13_0
       try clear hcz13_1
       try clear hcz13_2
       try clear hcz13_3
       try clear hcz15_0
       try clear hcz15_1
       try clear hcz15_2
       try clear hcz15_3
       try clear hcz19_0
       try clear hcz19_1
       try clear hcz19_2
       try clear hcz19_3
       try clear hcz25_0
       try clear hcz25_1
       try clear hcz25_2
       try clear hcz25_3
       try clear hcz34_0
       try clear hcz34_1
       try clear hcz34_2
       try clear hcz34_3
       try clear hcz36_0
       try clear hcz36_1
       try clear hcz36_2
       try clear hcz36_3
       try clear hcz40_0
       try clear hcz40_1
       try clear hcz40_2
       try clear hcz40_3
       try clear hcz8_0
       try clear hcz8_1
       try clear hcz8_2
       try clear hcz8_3
       try clear hfz13_0
       try clear hfz13_1
       try clear hfz13_2
       try clear hfz13_3
       try clear hfz15_0
       try clear hfz15_1
       try clear hfz15_2
       try clear hfz15_3
       try clear hfz19_0
       try clear hfz19_1
       try clear hfz19_2
       try clear hfz19_3
       try clear hfz25_0
       try clear hfz25_1
       try clear hfz25_2
       try clear hfz25_3
       try clear hfz34_0
       try clear hfz34_1
       try clear hfz34_2
       try clear hfz34_3
       try clear hfz36_0
       try clear hfz36_1
       try clear hfz36_2
       try clear hfz36_3
       try clear hfz40_0
       try clear hfz40_1
       try clear hfz40_2
       try clear hfz40_3
       try clear hfz8_0
       try clear hfz8_1
       try clear hfz8_2
       try clear hfz8_3
       try clear p2
       obtain ⟨x4_2,x5_2,rfl,rfl,HA,HK2,HO_305001,BK295,BK304,HB⟩ := hrel
       cases gk with
       | zero => exact absurd HA.out (by simp [bodkinlaw20_LayoutShows.l1])
       | succ k2 =>
        have H := HA.out
        clear HA
        simp only [bodkinlaw20_LayoutShows.l1] at H
        by_cases c41 : x5_2 < (a0_1.size : Int)
        ·rw [if_pos c41] at H
         have c41b0 : decide (x5_2 < (a0_1.size : Int)) = true := decide_eq_true c41
         clear c41
         replace H := Option.bind_eq_some_iff.mp H
         obtain ⟨t309,A420,H⟩ := H
         replace H : (if t309 ≤ x5_2 then (some false) else (if 0 ≤ x5_2 then (if x5_2 ≤ t309 then (if t309 ≤ (a0_1.size : Int) then ((cluster_Drawn.f (a0_1.extract (x5_2 : Int).toNat (t309 : Int).toNat)).bind fun t310 => ((bodkinlaw20_bare.f k2 t310).bind fun t311 => (if x4_2.size + t311.size ≤ 9223372036854775807 then (bodkinlaw20_LayoutShows.l1 k2 (x4_2 ++ t311) t309 a0_0 a0_1 a0_2 a0_3 t298 t299 t302 t303) else (none)))) else (none)) else (none)) else (none))) = some r := H
         have A42 := Aside0.mk A420
         clear A420
         by_cases c43 : t309 ≤ x5_2
         ·rw [if_pos c43] at H
          have c43b0 : decide (t309 ≤ x5_2) = true := decide_eq_true c43
          clear c43
          obtain rfl := Option.some.inj H
          cases hr_
         ·rw [if_neg c43] at H
          have c43b0 : decide (t309 ≤ x5_2) = false := decide_eq_false c43
          clear c43
          by_cases c47 : 0 ≤ x5_2
          ·rw [if_pos c47] at H
           have c47b0 := eq_true c47
           have c47b1 : decide (0 ≤ x5_2) = true := decide_eq_true c47
           clear c47
           by_cases c48 : x5_2 ≤ t309
           ·rw [if_pos c48] at H
            have c48b0 := eq_true c48
            have c48b1 : decide (x5_2 ≤ t309) = true := decide_eq_true c48
            clear c48
            by_cases c49 : t309 ≤ (a0_1.size : Int)
            ·rw [if_pos c49] at H
             have c49b0 := eq_true c49
             have c49b1 : decide (t309 ≤ (a0_1.size : Int)) = true := decide_eq_true c49
             clear c49
             replace H := Option.bind_eq_some_iff.mp H
             obtain ⟨t310,A500,H⟩ := H
             replace H : ((bodkinlaw20_bare.f k2 t310).bind fun t311 => (if x4_2.size + t311.size ≤ 9223372036854775807 then (bodkinlaw20_LayoutShows.l1 k2 (x4_2 ++ t311) t309 a0_0 a0_1 a0_2 a0_3 t298 t299 t302 t303) else (none))) = some r := H
             have A50 := Aside0.mk A500
             clear A500
             replace H := Option.bind_eq_some_iff.mp H
             obtain ⟨t311,A510,H⟩ := H
             replace H : (if x4_2.size + t311.size ≤ 9223372036854775807 then (bodkinlaw20_LayoutShows.l1 k2 (x4_2 ++ t311) t309 a0_0 a0_1 a0_2 a0_3 t298 t299 t302 t303) else (none)) = some r := H
             have A51 := Aside0.mk A510
             clear A510
             by_cases c52 : x4_2.size + t311.size ≤ 9223372036854775807
             ·rw [if_pos c52] at H
              have c52b0 := eq_true c52
              have c52b1 : decide (x4_2.size + t311.size ≤ 9223372036854775807) = true := decide_eq_true c52
              try have c52b2 : (9223372036854775807 < x4_2.size + t311.size) = False := eq_false (Nat.not_lt.2 c52)
              have H' := Aside0.mk H
              clear H
              have hnb53 := NB295_304.out
              have hnc53 := NB304_295.out
              have hcz54_0 : wr.cell? ⟨gb295,0,none⟩ = some (.string a0_0) := (blk_cell BK295.out 0).trans rfl
              have hcz54_1 : wr.cell? ⟨gb295,1,none⟩ = some (.string a0_1) := (blk_cell BK295.out 1).trans rfl
              have hcz54_2 : wr.cell? ⟨gb295,2,none⟩ = some (.int .i64 a0_2) := (blk_cell BK295.out 2).trans rfl
              have hcz54_3 : wr.cell? ⟨gb295,3,none⟩ = some (.int .i64 a0_3) := (blk_cell BK295.out 3).trans rfl
              have hfz54_0 := blk_frozen BK295.out 0
              have hfz54_1 := blk_frozen BK295.out 1
              have hfz54_2 := blk_frozen BK295.out 2
              have hfz54_3 := blk_frozen BK295.out 3
              go_wp2_with (first | ((with_reducible refine gate_callee (f := 18) rfl ?_);refine goesL_ (some 53) rfl rfl Tryd.func18 (by kernel_rfl) rfl #[.string a0_1,.int .i64 x5_2] rfl au1 ?_;(with_reducible refine (cluster_Next.calls k2 a0_1 x5_2 t309 _ ?side1 A42.out).mono ?_);(case side1 => exact tabs_below HT.out au3);rintro e w55 ⟨rfl,hb⟩;refine ⟨_,rfl,?_⟩;have n0_ := Aside0.mk (Kd.S_below au20 hb);have n1_ := Aside0.mk (blk_below (g := gb295) (o := .cells #[.string a0_0,.string a0_1,.int .i64 a0_2,.int .i64 a0_3] 23 (0,0)) au8 hb);have n2_ := Aside0.mk (blk_below (g := gb304) (o := .cells #[.int .i64 t298,.slice Ao20 t299.length co20,.int .i64 t302,.int .i64 t303] 29 (0,0)) au17 hb);have n3_ := Aside0.mk (below_step au3 hb);clear HO_305001;clear BK295;clear BK304;clear HB;have HO_305001 := n0_;have BK295 := n1_;have BK304 := n2_;have HB := n3_;clear n0_ n1_ n2_ n3_;(try clear hb);(try clear hb2);(try clear hk);(try clear hi);have hcz56_0 : w55.cell? ⟨gb295,0,none⟩ = some (.string a0_0) := (blk_cell BK295.out 0).trans rfl;have hcz56_1 : w55.cell? ⟨gb295,1,none⟩ = some (.string a0_1) := (blk_cell BK295.out 1).trans rfl;have hcz56_2 : w55.cell? ⟨gb295,2,none⟩ = some (.int .i64 a0_2) := (blk_cell BK295.out 2).trans rfl;have hcz56_3 : w55.cell? ⟨gb295,3,none⟩ = some (.int .i64 a0_3) := (blk_cell BK295.out 3).trans rfl;have hfz56_0 := blk_frozen BK295.out 0;have hfz56_1 := blk_frozen BK295.out 1;have hfz56_2 := blk_frozen BK295.out 2;have hfz56_3 := blk_frozen BK295.out 3) | ((with_reducible refine gate_callee (f := 20) rfl ?_);refine goesL_ (some 63) rfl rfl Tryd.func20 (by kernel_rfl) rfl #[.string (a0_1.extract (x5_2 : Int).toNat (t309 : Int).toNat)] rfl au1 ?_;(with_reducible refine (cluster_Drawn.calls (a0_1.extract (x5_2 : Int).toNat (t309 : Int).toNat) t310 _ ?side1 A50.out).mono ?_);(case side1 => exact tabs_below HT.out au3);rintro e w57 ⟨rfl,hb⟩;refine ⟨_,rfl,?_⟩;have n0_ := Aside0.mk (Kd.S_below au20 hb);have n1_ := Aside0.mk (blk_below (g := gb295) (o := .cells #[.string a0_0,.string a0_1,.int .i64 a0_2,.int .i64 a0_3] 23 (0,0)) au8 hb);have n2_ := Aside0.mk (blk_below (g := gb304) (o := .cells #[.int .i64 t298,.slice Ao20 t299.length co20,.int .i64 t302,.int .i64 t303] 29 (0,0)) au17 hb);have n3_ := Aside0.mk (below_step au3 hb);clear HO_305001;clear BK295;clear BK304;clear HB;have HO_305001 := n0_;have BK295 := n1_;have BK304 := n2_;have HB := n3_;clear n0_ n1_ n2_ n3_;(try clear hb);(try clear hb2);(try clear hk);(try clear hi)) | ((with_reducible refine gate_callee (f := 19) rfl ?_);refine goesL_ (some 64) rfl rfl Tryd.func19 (by kernel_rfl) rfl #[.string t310] rfl au1 ?_;(with_reducible refine (bodkinlaw20_bare.calls k2 t310 t311 _ ?side1 A51.out).mono ?_);(case side1 => exact tabs_below HT.out au3);rintro e w58 ⟨rfl,hb⟩;refine ⟨_,rfl,?_⟩;have n0_ := Aside0.mk (Kd.S_below au20 hb);have n1_ := Aside0.mk (blk_below (g := gb295) (o := .cells #[.string a0_0,.string a0_1,.int .i64 a0_2,.int .i64 a0_3] 23 (0,0)) au8 hb);have n2_ := Aside0.mk (blk_below (g := gb304) (o := .cells #[.int .i64 t298,.slice Ao20 t299.length co20,.int .i64 t302,.int .i64 t303] 29 (0,0)) au17 hb);have n3_ := Aside0.mk (below_step au3 hb);clear HO_305001;clear BK295;clear BK304;clear HB;have HO_305001 := n0_;have BK295 := n1_;have BK304 := n2_;have HB := n3_;clear n0_ n1_ n2_ n3_;(try clear hb);(try clear hb2);(try clear hk);(try clear hi)))
              go_roundg k2
              case measure => have := HK1.out;have := HK2.out;omega
              case rel => exact ⟨(x4_2 ++ t311),(t309),au9,au9,H',⟨by have := HK1.out;have := HK2.out;omega⟩,⟨by (with_reducible repeat (first | apply Kd.S_alloc | apply Kd.S_drewN | apply Kd.S_drew));exact HO_305001.out⟩,⟨by (with_reducible repeat (first | refine blk_drewN ?_ _ | refine blk_drew ?_ | refine blk_alloc ?_ _));exact BK295.out⟩,⟨by (with_reducible repeat (first | refine blk_drewN ?_ _ | refine blk_drew ?_ | refine blk_alloc ?_ _));exact BK304.out⟩,⟨by repeat (first | (with_reducible first | exact HB.out | apply below_alloc | apply pw_below_drewN | apply below_drew1 | refine below_set ?_ GE295.out | refine below_set ?_ GE304.out) | exact HB.out)⟩⟩
             ·rw [if_neg c52] at H
              exact absurd H (by simp)
            ·rw [if_neg c49] at H
             exact absurd H (by simp)
           ·rw [if_neg c48] at H
            exact absurd H (by simp)
          ·rw [if_neg c47] at H
           exact absurd H (by simp)
        ·rw [if_neg c41] at H
         have c41b0 : decide (x5_2 < (a0_1.size : Int)) = false := decide_eq_false c41
         clear c41
         replace H := Option.bind_eq_some_iff.mp H
         obtain ⟨t308,A590,H⟩ := H
         replace H : (some (t308.toList == x4_2.toList)) = some r := H
         have A59 := Aside0.mk A590
         clear A590
         obtain rfl := Option.some.inj H
         have hnb60 := NB295_304.out
         have hnc60 := NB304_295.out
         have hcz61_0 : wr.cell? ⟨gb295,0,none⟩ = some (.string a0_0) := (blk_cell BK295.out 0).trans rfl
         have hcz61_1 : wr.cell? ⟨gb295,1,none⟩ = some (.string a0_1) := (blk_cell BK295.out 1).trans rfl
         have hcz61_2 : wr.cell? ⟨gb295,2,none⟩ = some (.int .i64 a0_2) := (blk_cell BK295.out 2).trans rfl
         have hcz61_3 : wr.cell? ⟨gb295,3,none⟩ = some (.int .i64 a0_3) := (blk_cell BK295.out 3).trans rfl
         have hfz61_0 := blk_frozen BK295.out 0
         have hfz61_1 := blk_frozen BK295.out 1
         have hfz61_2 := blk_frozen BK295.out 2
         have hfz61_3 := blk_frozen BK295.out 3
         have hcz62_0 : wr.cell? ⟨gb304,0,none⟩ = some (.int .i64 t298) := (blk_cell BK304.out 0).trans rfl
         have hcz62_1 : wr.cell? ⟨gb304,1,none⟩ = some (.slice Ao20 t299.length co20) := (blk_cell BK304.out 1).trans rfl
         have hcz62_2 : wr.cell? ⟨gb304,2,none⟩ = some (.int .i64 t302) := (blk_cell BK304.out 2).trans rfl
         have hcz62_3 : wr.cell? ⟨gb304,3,none⟩ = some (.int .i64 t303) := (blk_cell BK304.out 3).trans rfl
         have hfz62_0 := blk_frozen BK304.out 0
         have hfz62_1 := blk_frozen BK304.out 1
         have hfz62_2 := blk_frozen BK304.out 2
         have hfz62_3 := blk_frozen BK304.out 3
         go_wp2_with (first | ((with_reducible refine gate_callee (f := 21) rfl ?_);refine goesL_ (some 68) rfl rfl Tryd.func21 (by kernel_rfl) rfl #[.agg #[.int .i64 t298,.slice Ao20 t299.length co20,.int .i64 t302,.int .i64 t303]] rfl au1 ?_;(with_reducible refine (bodkinlaw20_shown.calls k2 t298 _ _ t299 t302 t303 t308 _ ?side1 ?side2 A59.out).mono ?_);(case side1 => repeat (first | exact (Kd.S_reads' HO_305001.out).2.2 | (with_reducible refine Kd.C_alloc ?_ _) | (with_reducible refine Kd.C_drewN ?_ _) | (with_reducible refine Kd.C_drew ?_)));(case side2 => exact (Kd.S_reads' HO_305001.out).2.1);rintro e w63 ⟨rfl,hb⟩;refine ⟨_,rfl,?_⟩;have n0_ := Aside0.mk (Kd.S_below au20 hb);have n1_ := Aside0.mk (blk_below (g := gb295) (o := .cells #[.string a0_0,.string a0_1,.int .i64 a0_2,.int .i64 a0_3] 23 (0,0)) au8 hb);have n2_ := Aside0.mk (blk_below (g := gb304) (o := .cells #[.int .i64 t298,.slice Ao20 t299.length co20,.int .i64 t302,.int .i64 t303] 29 (0,0)) au17 hb);have n3_ := Aside0.mk (below_step au3 hb);clear HO_305001;clear BK295;clear BK304;clear HB;have HO_305001 := n0_;have BK295 := n1_;have BK304 := n2_;have HB := n3_;clear n0_ n1_ n2_ n3_;(try clear hb);(try clear hb2);(try clear hk);(try clear hi)))
         go_ret
         exact ⟨au2,by repeat (first | (with_reducible first | exact HB.out | apply below_alloc | apply pw_below_drewN | apply below_drew1 | refine below_set ?_ GE295.out | refine below_set ?_ GE304.out) | exact HB.out)⟩
 ·replace c3 := Bool.eq_false_iff.mpr c3
  subst c3
  have H1 : (some false) = some r := by rw [if_neg (show ¬ (false = true) by decide)] at H;exact H
  clear H
  have H := H1
  clear H1
  obtain rfl := Option.some.inj H
  cases hr_
end Go.Proofs.YtnpjaaldppemlaaDoor.U
end
section
namespace Go.Proofs.YtnpjaaldppemlaaDoor.Pu
open Go Go.RowKit Go.Proofs.YtnpjaaldppemlaaDoor.Mu Go.Proofs.YtnpjaaldppemlaaDoor.U Go.Proofs.YtnpjaaldppemlaaDoorW.PrintWords Go.Proofs.YtnpjaaldppemlaaDoorW.PrintLast Go.Proofs.YtnpjaaldppemlaaDoorW.PrintMore
set_option linter.unusedVariables false
abbrev Cz := S35
/-- No row is too long. -/
def Rb (A : List (List Cz)) : Prop := A.length ≤ 1099511627776 ∧ ∀ i : Int,(rd_L3 A i).length ≤ 1099511627776
end Go.Proofs.YtnpjaaldppemlaaDoor.Pu
end
section
namespace Go.Proofs.YtnpjaaldppemlaaDoor.Pu
open Go Go.RowKit Go.Proofs.YtnpjaaldppemlaaDoor.Mu Go.Proofs.YtnpjaaldppemlaaDoor.U Go.Proofs.YtnpjaaldppemlaaDoorW.PrintWords Go.Proofs.YtnpjaaldppemlaaDoorW.PrintLast Go.Proofs.YtnpjaaldppemlaaDoorW.PrintMore
set_option linter.unusedVariables false
theorem awake20 : Ev (fun k => bodkinlaw20_awake.f k) true := Ev.of (fun k => bodkinlaw20_awake.mono k) (k := 200) (by kernel_rfl)
theorem cntW_in (w : Int) : 1 ≤ cntW w ∧ cntW w ≤ 65535 := held_in (held_w w)
theorem cf1_pos (t : ByteArray) (c : S60) (h : c ∈ clusL t) : 1 ≤ c.f1 := by
 obtain ⟨i,hci,hi,rfl⟩ := clus_mem t t.size 0 (cb_zero t) c h
 have := nxt_pos t i hi
 show (1 : Int) ≤ (nxt t i : Int)
 omega
theorem atL_cur (wd : Int) (t : ByteArray) (cur : Int) : ∀ (cs : List S60) (s : Ly × (Int × Int)),(∀ c ∈ cs,1 ≤ c.f1) → atL wd t (if cur < 0 then 0 else cur) s cs = atL wd t cur s cs
 | [],_,_ => rfl
 | c :: cs,s,h => by
  have h1 := h c (by simp)
  have e : atF wd t (if cur < 0 then 0 else cur) s c = atF wd t cur s c := by
   unfold atF
   by_cases hn : cur < 0
   ·rw [if_pos hn,if_neg (by omega),if_neg (by omega)]
   ·rw [if_neg hn]
  show atL wd t _ (atF wd t _ s c) cs = atL wd t cur (atF wd t cur s c) cs
  rw [e]
  exact atL_cur wd t cur cs _ (fun c hc => h c (List.mem_cons_of_mem _ hc))
theorem endL_cur (p t : ByteArray) (cur w : Int) : endL p t (if cur < 0 then 0 else cur) w = endL p t cur w := atL_cur _ t cur _ _ (fun c hc => cf1_pos t c hc)
theorem rowsL_cur (p t : ByteArray) (cur w : Int) : rowsL p t (if cur < 0 then 0 else cur) w = rowsL p t cur w := by unfold rowsL;rw [endL_cur]
/-- The rows do not hang on the cursor. -/
theorem rowsL_eq (p t : ByteArray) (cur w : Int) : rowsL p t cur w = (((layL (cntW w) t (st0L p w) (clusL t)).1 ++ [(layL (cntW w) t (st0L p w) (clusL t)).2])).map trimR := by
 unfold rowsL
 have : (endL p t cur w).1 = layL (cntW w) t (st0L p w) (clusL t) := atL_fst _ _ _ _ _
 rw [this]
theorem lay_f (p t : ByteArray) (cur w : Int) (hp : p.size ≤ 34359738368) (ht : t.size ≤ 34359738368) : layout_Lay.f p t cur w = some (cntW w,rowsL p t cur w,(endL p t cur w).2.1,(endL p t cur w).2.2) := by
 unfold layout_Lay.f
 rw [if_pos ⟨hp,ht⟩,rowsL_cur,endL_cur]
theorem st0_in (p : ByteArray) (w : Int) : (st0L p w).In (cntW w) := layL_in _ _ _ _ (ly_new (cntW_in w).1 (cntW_in w).2)
theorem fin_in (p t : ByteArray) (w : Int) : (layL (cntW w) t (st0L p w) (clusL t)).In (cntW w) := layL_in _ _ _ _ (st0_in p w)
theorem st0_len (p : ByteArray) (w : Int) : (st0L p w).1.length ≤ 3 * p.size := by
 have h1 := layL_len (cntW w) p (clusL p) ([],[])
 have h2 := clusL_length p
 simp at h1
 unfold st0L
 omega
theorem fin_len (p t : ByteArray) (w : Int) : (layL (cntW w) t (st0L p w) (clusL t)).1.length ≤ 3 * p.size + 3 * t.size := by
 have h1 := layL_len (cntW w) t (clusL t) (st0L p w)
 have h2 := clusL_length t
 have h3 := st0_len p w
 omega
theorem rowsL_len (p t : ByteArray) (cur w : Int) : (rowsL p t cur w).length = (layL (cntW w) t (st0L p w) (clusL t)).1.length + 1 := by rw [rowsL_eq];simp
theorem trimR_len (L : List Cl) : (trimR L).length ≤ L.length := by unfold trimR;rw [List.length_take];omega
theorem rowsL_row (p t : ByteArray) (cur w : Int) (i : Int) : ((rd_L3 (rowsL p t cur w) i).length : Int) ≤ cntW w := by
 rw [rowsL_eq]
 unfold rd_L3
 rw [List.getD_eq_getElem?_getD,List.getElem?_map]
 have h := (fin_in p t w).rows i.toNat
 rw [List.getD_eq_getElem?_getD] at h
 cases hx : ((layL (cntW w) t (st0L p w) (clusL t)).1 ++ [(layL (cntW w) t (st0L p w) (clusL t)).2])[i.toNat]? with
 | none => have := (cntW_in w).1;simp;omega
 | some L =>
  rw [hx] at h
  have := trimR_len L
  simp only [Option.map_some,Option.getD_some] at h ⊢
  omega
theorem rowsL_rb (p t : ByteArray) (cur w : Int) (hp : p.size ≤ 34359738368) (ht : t.size ≤ 34359738368) : Rb (rowsL p t cur w) := by
 refine ⟨?_,fun i => ?_⟩
 ·rw [rowsL_len]
  have := fin_len p t w
  omega
 ·have h1 := rowsL_row p t cur w i
  have h2 := (cntW_in w).2
  omega
end Go.Proofs.YtnpjaaldppemlaaDoor.Pu
end
section
namespace Go.Proofs.YtnpjaaldppemlaaDoor.Pu
open Go Go.RowKit Go.Proofs.YtnpjaaldppemlaaDoor.Mu Go.Proofs.YtnpjaaldppemlaaDoor.U Go.Proofs.YtnpjaaldppemlaaDoorW.PrintWords Go.Proofs.YtnpjaaldppemlaaDoorW.PrintLast Go.Proofs.YtnpjaaldppemlaaDoorW.PrintMore
set_option linter.unusedVariables false
/-- A text,but for a blank. -/
def blkT (x : ByteArray) : List UInt8 := if x.data.toList = [32] then [] else x.data.toList
def bareC (s : ByteArray) (cs : List S60) : List UInt8 := cs.flatMap fun c => blkT (s.extract c.f0.toNat c.f1.toNat)
def bareB (d : ByteArray) : List UInt8 := bareC d (clusL d)
def wantC (s : ByteArray) (cs : List S60) : List UInt8 := cs.flatMap fun c => bareB (drawnS (s.extract c.f0.toNat c.f1.toNat))
def shR (L : List Cl) : List UInt8 := L.flatMap fun x => blkT x.f0
def shL (s : Ly) : List UInt8 := s.1.flatMap shR ++ shR s.2
theorem shL_down (s : Ly) : shL s.down = shL s := by
 unfold shL Ly.down
 simp [shR]
theorem shL_cell (wd : Int) (s : Ly) (x : Cl) : shL (s.cell wd x) = shL s ++ blkT x.f0 := by
 unfold Ly.cell
 split
 ·unfold shL;simp [shR]
 ·unfold shL;simp [shR]
theorem blk_nil : blkT ⟨#[]⟩ = [] := by unfold blkT;rfl
theorem blk_le (x : ByteArray) : (blkT x).length ≤ x.size := by
 unfold blkT
 split
 ·exact Nat.zero_le _
 ·exact Nat.le_refl _
theorem bare_nil : bareB ⟨#[]⟩ = [] := by
 have e : clusL ⟨#[]⟩ = [] := by rw [clusL_ctl];exact ctl_end ⟨#[]⟩ 0 (Nat.le_refl 0)
 unfold bareB
 rw [e]
 rfl
theorem extract_all (d : ByteArray) : d.extract 0 d.size = d := by
 apply ByteArray.ext
 apply Array.toList_inj.1
 rw [Lib.extract_data,List.drop_zero,Nat.sub_zero,List.take_of_length_le (by rw [← Lib.size_eq];exact Nat.le_refl _)]
theorem bare_one {d : ByteArray} {k : Int} (h : OneC d k) : bareB d = blkT d := by
 unfold bareB bareC
 rw [h.clus,List.flatMap_cons,List.flatMap_nil,List.append_nil]
 show blkT (d.extract 0 ((d.size : Int).toNat)) = _
 rw [Int.toNat_natCast,extract_all]
theorem caret_bare : ((List.range 94).all fun k => (bareB ((⟨#[94]⟩ : ByteArray) ++ ⟨#[UInt8.ofNat (k + 33)]⟩) == [94,UInt8.ofNat (k + 33)]) && (Lib.decodeGo ((⟨#[94]⟩ : ByteArray) ++ ⟨#[UInt8.ofNat (k + 33)]⟩)).2 == 1) = true := by kernel_rfl
theorem caret_one (b : UInt8) (h1 : 33 ≤ b.toNat) (h2 : b.toNat < 127) : bareB ((⟨#[94]⟩ : ByteArray) ++ ⟨#[b]⟩) = [94,b] ∧ (Lib.decodeGo ((⟨#[94]⟩ : ByteArray) ++ ⟨#[b]⟩)).2 = 1 := by
 have h := List.all_eq_true.1 caret_bare (b.toNat - 33) (List.mem_range.2 (by omega))
 rw [show b.toNat - 33 + 33 = b.toNat by omega,UInt8.ofNat_toNat] at h
 simpa using h
theorem blk_byte (b : UInt8) (h : b.toNat ≠ 32) : blkT ⟨#[b]⟩ = [b] := by
 unfold blkT
 rw [if_neg]
 intro e
 have : b = 32 := by simpa using e
 rw [this] at h
 exact h rfl
theorem kind_lay {wd : Int} (h2 : 2 ≤ wd) (s : Ly) {c k : Int} {d : ByteArray} (h : Kind c k d) : shL (s.lay wd c k d (Lib.decodeGo d).2) = shL s ++ bareB d := by
 have hm : shL (if (s.2.length : Int) = wd - 1 then s.down else s) = shL s := by
  split
  ·exact shL_down s
  ·rfl
 unfold Ly.lay
 rcases h with ⟨rfl,rfl⟩ | ⟨rfl,h⟩ | ⟨rfl,rfl,h⟩ | ⟨rfl,hc,b,hb1,hb2,rfl⟩
 ·rw [if_pos rfl,shL_down,bare_nil,List.append_nil]
 ·rw [if_neg (by decide),if_pos rfl,shL_cell,bare_one h]
 ·rw [if_neg (by decide),if_neg (by decide),if_neg (by omega),if_pos rfl,shL_cell,shL_cell,hm,bare_one h,blk_nil,List.append_nil]
 ·obtain ⟨e1,e2⟩ := caret_one b hb1 hb2
  rw [if_neg (by decide),if_neg (by decide),if_neg (by omega),if_neg hc,shL_cell,shL_cell,hm,e1,e2]
  have f1 : ((⟨#[94]⟩ : ByteArray) ++ ⟨#[b]⟩).extract 0 1 = ⟨#[94]⟩ := rfl
  have f2 : ((⟨#[94]⟩ : ByteArray) ++ ⟨#[b]⟩).extract 1 ((⟨#[94]⟩ : ByteArray) ++ ⟨#[b]⟩).size = ⟨#[b]⟩ := rfl
  show shL s ++ blkT (((⟨#[94]⟩ : ByteArray) ++ ⟨#[b]⟩).extract 0 1) ++ blkT (((⟨#[94]⟩ : ByteArray) ++ ⟨#[b]⟩).extract 1 ((⟨#[94]⟩ : ByteArray) ++ ⟨#[b]⟩).size) = _
  rw [f1,f2,blk_byte 94 (by decide),blk_byte b (by omega),List.append_assoc]
  rfl
theorem kind_bare_le {c k : Int} {d : ByteArray} (h : Kind c k d) : (bareB d).length ≤ d.data.toList.length := by
 rcases h with ⟨_,rfl⟩ | ⟨_,h⟩ | ⟨_,_,h⟩ | ⟨_,_,b,hb1,hb2,rfl⟩
 ·rw [bare_nil];exact Nat.zero_le _
 ·rw [bare_one h];exact blk_le d
 ·rw [bare_one h];exact blk_le d
 ·rw [(caret_one b hb1 hb2).1,data_app];exact Nat.le_refl _
theorem clu_kind (t : ByteArray) (c : S60) (h : c ∈ clusL t) : Kind c.f2 c.f3 (drawnS (t.extract c.f0.toNat c.f1.toNat)) ∧ drawnS (t.extract c.f0.toNat c.f1.toNat) = drawB t c := by
 obtain ⟨i,hci,hi,rfl⟩ := clus_mem t t.size 0 (cb_zero t) c h
 have e0 : (clAt t i).f0.toNat = i := Int.toNat_natCast i
 have e1 : (clAt t i).f1.toNat = nxt t i := Int.toNat_natCast _
 rw [e0,e1,(piece_one t i hci hi).2.2]
 exact ⟨drawn_kind t i hci hi,rfl⟩
theorem want_go (t : ByteArray) (c : S60) (cs : List S60) : wantC t (c :: cs) = bareB (drawnS (t.extract c.f0.toNat c.f1.toNat)) ++ wantC t cs := by unfold wantC;rw [List.flatMap_cons]
theorem shL_layL {wd : Int} (h2 : 2 ≤ wd) (t : ByteArray) (cs : List S60) : ∀ (st : Ly),(∀ c ∈ cs,c ∈ clusL t) → shL (layL wd t st cs) = shL st ++ wantC t cs := by
 induction cs with
 | nil =>
  intro st _
  have e : layL wd t st [] = st := by unfold layL;rw [List.foldl_nil]
  have e2 : wantC t [] = [] := by unfold wantC;rw [List.flatMap_nil]
  rw [e,e2,List.append_nil]
 | cons c cs ih =>
  intro st h
  have e : layL wd t st (c :: cs) = layL wd t (layC wd t st c) cs := by unfold layL;rw [List.foldl_cons]
  have e2 : wantC t (c :: cs) = bareB (drawnS (t.extract c.f0.toNat c.f1.toNat)) ++ wantC t cs := by unfold wantC;rw [List.flatMap_cons]
  have e3 : shL (layC wd t st c) = shL st ++ bareB (drawnS (t.extract c.f0.toNat c.f1.toNat)) := by
   unfold layC
   exact kind_lay h2 st (clu_kind t c (h c (by simp))).1
  rw [e,ih _ (fun c hc => h c (List.mem_cons_of_mem _ hc)),e3,e2,List.append_assoc]
theorem want_le (t : ByteArray) (cs : List S60) : (∀ c ∈ cs,c ∈ clusL t) → (wantC t cs).length ≤ (drawU t cs).length := by
 induction cs with
 | nil => intro _;unfold wantC;rw [List.flatMap_nil];exact Nat.zero_le _
 | cons c cs ih =>
  intro h
  have e2 : wantC t (c :: cs) = bareB (drawnS (t.extract c.f0.toNat c.f1.toNat)) ++ wantC t cs := by unfold wantC;rw [List.flatMap_cons]
  obtain ⟨hk,he⟩ := clu_kind t c (h c (by simp))
  have := kind_bare_le hk
  rw [he] at this
  rw [e2,drawU_cons,List.length_append,List.length_append,he]
  have := ih (fun c hc => h c (List.mem_cons_of_mem _ hc))
  omega
theorem want_size (t : ByteArray) : (wantC t (clusL t)).length ≤ 3 * t.size := by
 have h1 := want_le t (clusL t) (fun _ h => h)
 have h2 := draw_size t (clusL t) 0 (cb_zero t) (Nat.zero_le _) (List.prefix_refl _)
 omega
theorem trim_show (row : List Cl) : ∀ n,n ≤ row.length → shR (row.take (trimN row n)) = shR (row.take n)
 | 0,_ => by unfold trimN;rfl
 | n + 1,h => by
  unfold trimN
  split
  ·rename_i hb
   rw [trim_show row n (by omega),List.take_add_one,List.getElem?_eq_getElem (by omega)]
   have hg : rd_T35 row (n : Int) = row[n] := by
    unfold rd_T35
    rw [Int.toNat_natCast,List.getD_eq_getElem?_getD,List.getElem?_eq_getElem (by omega)]
    rfl
   rw [hg] at hb
   unfold isBl at hb
   have hb2 := (Bool.and_eq_true _ _ ▸ hb).1
   rw [toList_bytes] at hb2
   have hb3 : blkT (row[n]).f0 = [] := by unfold blkT;rw [if_pos (by simpa using hb2)]
   unfold shR
   rw [List.flatMap_append]
   simp [hb3]
  ·rfl
theorem shR_trim (row : List Cl) : shR (trimR row) = shR row := by
 unfold trimR
 rw [trim_show row _ (Nat.le_refl _),List.take_length]
theorem rows_show (p t : ByteArray) (cur w : Int) (h2 : 2 ≤ cntW w) : (rowsL p t cur w).flatMap shR = wantC p (clusL p) ++ wantC t (clusL t) := by
 have e : ∀ R : List (List Cl),(R.map trimR).flatMap shR = R.flatMap shR := fun R => by
  rw [List.flatMap_map]
  congr 1
  funext x
  exact shR_trim x
 rw [rowsL_eq,e,List.flatMap_append,List.flatMap_cons,List.flatMap_nil,List.append_nil]
 show shL (layL (cntW w) t (st0L p w) (clusL t)) = _
 rw [shL_layL h2 t (clusL t) _ (fun _ h => h)]
 unfold st0L
 rw [shL_layL h2 p (clusL p) _ (fun _ h => h)]
 rfl
end Go.Proofs.YtnpjaaldppemlaaDoor.Pu
end
section
namespace Go.Proofs.YtnpjaaldppemlaaDoor.Pure
open Go Go.RowKit Go.Proofs.YtnpjaaldppemlaaDoor.Mu Go.Proofs.YtnpjaaldppemlaaDoor.Pu Go.Proofs.YtnpjaaldppemlaaDoor.U Go.Proofs.YtnpjaaldppemlaaDoorW.PrintWords Go.Proofs.YtnpjaaldppemlaaDoorW.PrintLast Go.Proofs.YtnpjaaldppemlaaDoorW.PrintMore
set_option linter.unusedVariables false
def mkB (l : List UInt8) : ByteArray := ⟨l.toArray⟩
theorem app_nil (a : ByteArray) : a ++ mkB [] = a := by
 apply bytes_ext'
 rw [data_app]
 simp [mkB]
theorem app_more (a x : ByteArray) (l : List UInt8) : (a ++ x) ++ mkB l = a ++ mkB (x.data.toList ++ l) := by
 apply bytes_ext'
 rw [data_app,data_app,data_app]
 simp [mkB]
theorem mk_size (l : List UInt8) : (mkB l).size = l.length := by simp [mkB,ByteArray.size]
theorem bare_loop (s : ByteArray) (hs : s.size ≤ 1099511627776) : ∀ m i : Nat,s.size - i ≤ m → CB s i → i ≤ s.size → ∀ acc : ByteArray,acc.size ≤ i → Ev (fun k => bodkinlaw20_bare.l0 k s acc (i : Int)) (acc ++ mkB (bareC s (ctl s i))) := by
 intro m
 induction m with
 | zero =>
  intro i hm hc hi acc ha
  have e : bareC s [] = [] := by unfold bareC;rw [List.flatMap_nil]
  rw [ctl_end s i (by omega),e,app_nil]
  exact Ev.step (fun k => bodkinlaw20_bare.l0.eq_2 ..) (ev_neg (by omega) (Ev.now _))
 | succ m ih =>
  intro i hm hc hi acc ha
  rcases Nat.lt_or_ge i s.size with hlt | hge
  ·have h1 := nxt_pos s i hlt
   have h2 := nxt_le s i hc.1 hlt
   have hz : (s.extract i (nxt s i)).size = nxt s i - i := size_extract _ _ _ h2
   have hn := ih (nxt s i) (by omega) (nxt_cb s i hc.1 hlt) h2
   have e : bareC s (ctl s i) = blkT (s.extract i (nxt s i)) ++ bareC s (ctl s (nxt s i)) := by
    rw [ctl_go s i hlt]
    unfold bareC
    rw [List.flatMap_cons]
    rfl
   refine Ev.step (fun k => bodkinlaw20_bare.l0.eq_2 ..) (ev_pos (by omega) (Ev.bind (cnext_ev hs (nxtS s i hc.1 hlt (i : Int) (by omega) (by omega))) (ev_neg (by omega) (ev_pos (by omega) (ev_pos (by omega) (ev_pos (by omega) ?_))))))
   rw [Int.toNat_natCast,Int.toNat_natCast,e,toList_bytes]
   by_cases hb : (s.extract i (nxt s i)).data.toList = [32]
   ·refine ev_pos hb ?_
    unfold blkT
    rw [if_pos hb,List.nil_append]
    exact hn acc (by omega)
   ·refine ev_neg hb (ev_pos (by omega) ?_)
    unfold blkT
    rw [if_neg hb,← app_more]
    exact hn _ (by rw [ByteArray.size_append];omega)
  ·have e : bareC s [] = [] := by unfold bareC;rw [List.flatMap_nil]
   rw [ctl_end s i (by omega),e,app_nil]
   exact Ev.step (fun k => bodkinlaw20_bare.l0.eq_2 ..) (ev_neg (by omega) (Ev.now _))
theorem bare_ans (s : ByteArray) (hs : s.size ≤ 1099511627776) : Ev (fun k => bodkinlaw20_bare.f k s) (mkB (bareB s)) := by
 have h := bare_loop s hs s.size 0 (by omega) (cb_zero s) (Nat.zero_le _) ⟨#[]⟩ (Nat.le_refl _)
 have e : (⟨#[]⟩ : ByteArray) ++ mkB (bareC s (ctl s 0)) = mkB (bareB s) := by
  apply bytes_ext'
  rw [data_app]
  rfl
 rw [e] at h
 exact h
theorem drop_row (row : List Cz) (j : Nat) (h : j < row.length) : row.drop j = rd_T35 row (j : Int) :: row.drop (j + 1) := by
 rw [List.drop_eq_getElem_cons h]
 unfold rd_T35
 rw [Int.toNat_natCast,List.getD_eq_getElem?_getD,List.getElem?_eq_getElem h]
 rfl
theorem drop_rows (L : List (List Cz)) (i : Nat) (h : i < L.length) : L.drop i = rd_L3 L (i : Int) :: L.drop (i + 1) := by
 rw [List.drop_eq_getElem_cons h]
 unfold rd_L3
 rw [Int.toNat_natCast,List.getD_eq_getElem?_getD,List.getElem?_eq_getElem h]
 rfl
theorem shown_row (w r c : Int) (L : List (List Cz)) (i : Nat) (hi : i < L.length) (hL : L.length ≤ 1099511627776) (hr : (rd_L3 L (i : Int)).length ≤ 1099511627776) (R : List UInt8)
  (hn : ∀ acc : ByteArray,acc.size + R.length ≤ 1099511627776 → Ev (fun k => bodkinlaw20_shown.l0 k acc ((i + 1 : Nat) : Int) w L r c) (acc ++ mkB R)) :
  ∀ n j : Nat,j + n = (rd_L3 L (i : Int)).length → ∀ acc : ByteArray,acc.size + (shR ((rd_L3 L (i : Int)).drop j)).length + R.length ≤ 1099511627776 → Ev (fun k => bodkinlaw20_shown.l1 k acc (i : Int) (j : Int) w L r c) (acc ++ mkB (shR ((rd_L3 L (i : Int)).drop j) ++ R)) := by
 intro n
 induction n with
 | zero =>
  intro j hj acc ha
  rw [List.drop_eq_nil_of_le (by omega)] at ha ⊢
  have e : wrap64 ((i : Int) + 1) = ((i + 1 : Nat) : Int) := by rw [w64 (by omega) (by omega)];rfl
  have := hn acc (by simpa [shR] using ha)
  rw [← e] at this
  exact Ev.step (fun k => bodkinlaw20_shown.l1.eq_2 ..) (ev_pos (by omega) (ev_pos (by omega) (ev_neg (by omega) this)))
 | succ n ih =>
  intro j hj acc ha
  have hd := drop_row (rd_L3 L (i : Int)) j (by omega)
  have e : wrap64 ((j : Int) + 1) = ((j + 1 : Nat) : Int) := by rw [w64 (by omega) (by omega)];rfl
  have es : shR ((rd_L3 L (i : Int)).drop j) = blkT (rd_T35 (rd_L3 L (i : Int)) (j : Int)).f0 ++ shR ((rd_L3 L (i : Int)).drop (j + 1)) := by
   rw [hd]
   unfold shR
   rw [List.flatMap_cons]
  rw [es] at ha ⊢
  refine Ev.step (fun k => bodkinlaw20_shown.l1.eq_2 ..) (ev_pos (by omega) (ev_pos (by omega) (ev_pos (by omega) (ev_pos (by omega) ?_))))
  rw [e,toList_bytes]
  generalize (rd_T35 (rd_L3 L (i : Int)) (j : Int)).f0 = x at ha ⊢
  unfold blkT at ha ⊢
  by_cases hb : x.data.toList = [32]
  ·rw [if_pos hb] at ha ⊢
   refine ev_pos hb ?_
   exact ih (j + 1) (by omega) acc (by simpa using ha)
  ·rw [if_neg hb] at ha ⊢
   have hx : x.data.toList.length = x.size := rfl
   rw [List.length_append] at ha
   refine ev_neg hb (ev_pos (by omega) ?_)
   rw [List.append_assoc,← app_more]
   exact ih (j + 1) (by omega) _ (by rw [ByteArray.size_append];omega)
theorem shown_loop (w r c : Int) (L : List (List Cz)) (hL : Rb L) : ∀ n i : Nat,i + n = L.length → ∀ acc : ByteArray,acc.size + ((L.drop i).flatMap shR).length ≤ 1099511627776 → Ev (fun k => bodkinlaw20_shown.l0 k acc (i : Int) w L r c) (acc ++ mkB ((L.drop i).flatMap shR)) := by
 have hl := hL.1
 intro n
 induction n with
 | zero =>
  intro i hi acc ha
  rw [List.drop_eq_nil_of_le (by omega),List.flatMap_nil,app_nil]
  exact Ev.step (fun k => bodkinlaw20_shown.l0.eq_2 ..) (ev_neg (by omega) (Ev.now _))
 | succ n ih =>
  intro i hi acc ha
  rw [drop_rows L i (by omega),List.flatMap_cons] at ha ⊢
  rw [List.length_append] at ha
  refine Ev.step (fun k => bodkinlaw20_shown.l0.eq_2 ..) (ev_pos (by omega) ?_)
  have h := shown_row w r c L i (by omega) hl (hL.2 _) _ (fun acc h => ih (i + 1) (by omega) acc h) (rd_L3 L (i : Int)).length 0 (by omega) acc (by rw [List.drop_zero];omega)
  rw [List.drop_zero] at h
  exact h
theorem shown_ans (w r c : Int) (L : List (List Cz)) (hL : Rb L) (hz : (L.flatMap shR).length ≤ 1099511627776) : Ev (fun k => bodkinlaw20_shown.f k w L r c) (mkB (L.flatMap shR)) := by
 have h := shown_loop w r c L hL L.length 0 (by omega) ⟨#[]⟩ (by rw [List.drop_zero];show 0 + _ ≤ _;omega)
 rw [List.drop_zero] at h
 have e : (⟨#[]⟩ : ByteArray) ++ mkB (L.flatMap shR) = mkB (L.flatMap shR) := by
  apply bytes_ext'
  rw [data_app]
  rfl
 rw [e] at h
 exact h
theorem want_cons (s : ByteArray) (i : Nat) (hc : CB s i) (h : i < s.size) : wantC s (ctl s i) = bareB (drawB s (clAt s i)) ++ wantC s (ctl s (nxt s i)) := by
 have e0 : (clAt s i).f0.toNat = i := Int.toNat_natCast i
 have e1 : (clAt s i).f1.toNat = nxt s i := Int.toNat_natCast _
 rw [ctl_go s i h,want_go,e0,e1,(piece_one s i hc h).2.2]
theorem want_nil (s : ByteArray) (i : Nat) (h : s.size ≤ i) : wantC s (ctl s i) = [] := by
 rw [ctl_end s i h]
 unfold wantC
 rw [List.flatMap_nil]
theorem drawB_le (s : ByteArray) (hs : s.size ≤ 34359738368) (i : Nat) (hc : CB s i) (hi : i < s.size) : (drawB s (clAt s i)).size ≤ 1099511627776 := by
 have h3 := draw_size s [clAt s i] i hc (by omega) ⟨ctl s (nxt s i),by rw [ctl_go s i hi];rfl⟩
 rw [drawU_cons,drawU_nil,List.append_nil,← Lib.size_eq] at h3
 omega
theorem cdrawn_f (s : ByteArray) (hs : s.size ≤ 34359738368) (i : Nat) (hc : CB s i) (hi : i < s.size) : cluster_Drawn.f (s.extract i (nxt s i)) = some (drawB s (clAt s i)) := by
 have hle := nxt_le s i hc.1 hi
 have hz : (s.extract i (nxt s i)).size = nxt s i - i := size_extract _ _ _ hle
 unfold cluster_Drawn.f
 rw [if_pos (by omega),(piece_one s i hc hi).2.2]
theorem want1 (p t : ByteArray) (ht : t.size ≤ 34359738368) (x2 x3 y0 y2 y3 : Int) (L : List (List Cz)) (v : Bool) : ∀ m i : Nat,t.size - i ≤ m → CB t i → i ≤ t.size → ∀ acc : ByteArray,acc.size + (wantC t (ctl t i)).length ≤ 1099511627776 →
  Ev (fun k => (bodkinlaw20_shown.f k y0 L y2 y3).bind fun t308 => some (t308.toList == (acc ++ mkB (wantC t (ctl t i))).toList)) v → Ev (fun k => bodkinlaw20_LayoutShows.l1 k acc (i : Int) p t x2 x3 y0 L y2 y3) v := by
 intro m
 induction m with
 | zero =>
  intro i hm hc hi acc ha hv
  rw [want_nil t i (by omega),app_nil] at hv
  exact Ev.step (fun k => bodkinlaw20_LayoutShows.l1.eq_2 ..) (ev_neg (by omega) hv)
 | succ m ih =>
  intro i hm hc hi acc ha hv
  rcases Nat.lt_or_ge i t.size with hlt | hge
  ·have h1 := nxt_pos t i hlt
   have h2 := nxt_le t i hc.1 hlt
   rw [want_cons t i hc hlt] at ha hv
   rw [List.length_append] at ha
   have hn := ih (nxt t i) (by omega) (nxt_cb t i hc.1 hlt) h2 (acc ++ mkB (bareB (drawB t (clAt t i)))) (by rw [ByteArray.size_append,mk_size];omega) (by rw [app_more];exact hv)
   refine Ev.step (fun k => bodkinlaw20_LayoutShows.l1.eq_2 ..) (ev_pos (by omega) (Ev.bind (cnext_ev (by omega) (nxtS t i hc.1 hlt (i : Int) (by omega) (by omega))) (ev_neg (by omega) (ev_pos (by omega) (ev_pos (by omega) (ev_pos (by omega) ?_))))))
   rw [Int.toNat_natCast,Int.toNat_natCast]
   exact ev_some (cdrawn_f t ht i hc hlt) (Ev.bind (bare_ans _ (drawB_le t ht i hc hlt)) (ev_pos (by rw [mk_size];omega) hn))
  ·rw [want_nil t i (by omega),app_nil] at hv
   exact Ev.step (fun k => bodkinlaw20_LayoutShows.l1.eq_2 ..) (ev_neg (by omega) hv)
theorem want0 (p t : ByteArray) (hp : p.size ≤ 34359738368) (x2 x3 y0 y2 y3 : Int) (L : List (List Cz)) (v : Bool) : ∀ m i : Nat,p.size - i ≤ m → CB p i → i ≤ p.size → ∀ acc : ByteArray,acc.size + (wantC p (ctl p i)).length ≤ 1099511627776 →
  Ev (fun k => bodkinlaw20_LayoutShows.l1 k (acc ++ mkB (wantC p (ctl p i))) 0 p t x2 x3 y0 L y2 y3) v → Ev (fun k => bodkinlaw20_LayoutShows.l0 k acc (i : Int) p t x2 x3 y0 L y2 y3) v := by
 intro m
 induction m with
 | zero =>
  intro i hm hc hi acc ha hv
  rw [want_nil p i (by omega),app_nil] at hv
  exact Ev.step (fun k => bodkinlaw20_LayoutShows.l0.eq_2 ..) (ev_neg (by omega) hv)
 | succ m ih =>
  intro i hm hc hi acc ha hv
  rcases Nat.lt_or_ge i p.size with hlt | hge
  ·have h1 := nxt_pos p i hlt
   have h2 := nxt_le p i hc.1 hlt
   rw [want_cons p i hc hlt] at ha hv
   rw [List.length_append] at ha
   have hn := ih (nxt p i) (by omega) (nxt_cb p i hc.1 hlt) h2 (acc ++ mkB (bareB (drawB p (clAt p i)))) (by rw [ByteArray.size_append,mk_size];omega) (by rw [app_more];exact hv)
   refine Ev.step (fun k => bodkinlaw20_LayoutShows.l0.eq_2 ..) (ev_pos (by omega) (Ev.bind (cnext_ev (by omega) (nxtS p i hc.1 hlt (i : Int) (by omega) (by omega))) (ev_neg (by omega) (ev_pos (by omega) (ev_pos (by omega) (ev_pos (by omega) ?_))))))
   rw [Int.toNat_natCast,Int.toNat_natCast]
   exact ev_some (cdrawn_f p hp i hc hlt) (Ev.bind (bare_ans _ (drawB_le p hp i hc hlt)) (ev_pos (by rw [mk_size];omega) hn))
  ·rw [want_nil p i (by omega),app_nil] at hv
   exact Ev.step (fun k => bodkinlaw20_LayoutShows.l0.eq_2 ..) (ev_neg (by omega) hv)
theorem LayoutShows (a0_0 a0_1 : ByteArray) (a0_2 a0_3 : Int) (u0_0 : a0_0.size ≤ 1048576) (u0_1 : a0_1.size ≤ 1048576) : ∃ k,bodkinlaw20_LayoutShows.f k a0_0 a0_1 a0_2 a0_3 = some true := by
 apply Ev.rounds
 unfold bodkinlaw20_LayoutShows.f
 have h0 : a0_0.size ≤ 34359738368 := by omega
 have h1 : a0_1.size ≤ 34359738368 := by omega
 refine Ev.bind awake20 (ev_pos rfl (ev_some (show bodkinlaw20_width.f a0_3 = some (cntW a0_3) from rfl) ?_))
 by_cases hw : cntW a0_3 < 2
 ·exact ev_pos hw (Ev.now _)
 refine ev_neg hw (ev_some (lay_f a0_0 a0_1 a0_2 a0_3 h0 h1) ?_)
 have hr := rows_show a0_0 a0_1 a0_2 a0_3 (by omega)
 have z0 := want_size a0_0
 have z1 := want_size a0_1
 have hs := shown_ans (cntW a0_3) (endL a0_0 a0_1 a0_2 a0_3).2.1 (endL a0_0 a0_1 a0_2 a0_3).2.2 (rowsL a0_0 a0_1 a0_2 a0_3) (rowsL_rb a0_0 a0_1 a0_2 a0_3 h0 h1) (by rw [hr,List.length_append];omega)
 refine want0 a0_0 a0_1 h0 _ _ _ _ _ _ true a0_0.size 0 (by omega) (cb_zero _) (Nat.zero_le _) ⟨#[]⟩ (by show 0 + (wantC a0_0 (clusL a0_0)).length ≤ _;omega) ?_
 refine want1 a0_0 a0_1 h1 _ _ _ _ _ _ true a0_1.size 0 (by omega) (cb_zero _) (Nat.zero_le _) _ (by rw [ByteArray.size_append,mk_size];show 0 + (wantC a0_0 (clusL a0_0)).length + (wantC a0_1 (clusL a0_1)).length ≤ _;omega) ?_
 refine Ev.bind hs (ev_now ?_)
 rw [hr,toList_bytes,toList_bytes,data_app,data_app]
 simp [mkB,clusL_ctl]
end Go.Proofs.YtnpjaaldppemlaaDoor.Pure
end
section
namespace Go.Proofs.YtnpjaaldppemlaaDoor.Lf
open Go.Lib Go.Proofs
theorem own : ownKnob Tryd.prog.godebug = none := by kernel_rfl
theorem laidOut : laidOutB Tryd.prog = true := by kernel_rfl
theorem extra : U8Extra Tryd.prog Tryd.lays260_ren := {
 n3 := by kernel_rfl
 n4 := by kernel_rfl
 y3 := by kernel_rfl
 y4 := by kernel_rfl
 c5 := by kernel_rfl
 c119 := by kernel_rfl
 c138 := by kernel_rfl }
theorem first_eq : Rows.laid_unicode_utf8_first = Lib.firstData := by kernel_rfl
theorem accept_eq : (Rows.laid_unicode_utf8_acceptRanges : DataW Unit) = Lib.acceptData := by kernel_rfl
abbrev laid : List (String × DataW Unit) := [("unicode/utf8.acceptRanges", Rows.laid_unicode_utf8_acceptRanges), ("unicode/utf8.first", Rows.laid_unicode_utf8_first)]
/-- The two tables lie as the contracts ask. -/
theorem tabs {W : World} (h : laidMetH Tryd.prog laid W) : Lib.Utf8Tabs 0 1 W := by
  rw [MakeChecks.laidMetH_plain _ _ _ (by kernel_rfl)] at h
  have h3 := laidMet.reads h (n := "unicode/utf8.first") (d := Rows.laid_unicode_utf8_first) (List.mem_cons_of_mem _ List.mem_cons_self)
  have h4 := laidMet.reads h (n := "unicode/utf8.acceptRanges") (d := Rows.laid_unicode_utf8_acceptRanges) List.mem_cons_self
  rw [first_eq] at h3
  rw [accept_eq] at h4
  exact utf8Tabs_of_reads Tryd.lays260 extra h3 h4
/-- The world of the witness: the settled one,the tables laid. -/
noncomputable abbrev wit (os : Os) : World := World.laidAll Tryd.prog os laid
theorem wit_laid (os : Os) (args : Array Value) : laidMetH Tryd.prog laid ((wit os).forCall (fun _ _ => 0) ⟨#[],args,[]⟩).memory := by
 rw [MakeChecks.laidMetH_plain _ _ _ (by kernel_rfl)]
 exact laidMet_laidAll _ (by kernel_rfl) (by kernel_rfl)
theorem wit_shaped (os : Os) (args : Array Value) : ((wit os).forCall (fun _ _ => 0) ⟨#[],args,[]⟩).Shaped Tryd.prog :=
 World.shaped_of_ZipB (by kernel_rfl) (by kernel_rfl)
end Go.Proofs.YtnpjaaldppemlaaDoor.Lf
end
