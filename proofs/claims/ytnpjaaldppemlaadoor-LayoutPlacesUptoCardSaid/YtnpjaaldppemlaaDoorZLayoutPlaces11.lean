/- What the law LayoutPlaces reaches of this seat's own texts, merged; what nothing uses is left out. -/
import Derived.Test.YtnpjaaldppemlaaDoorZLayoutPlaces0
import Derived.Test.YtnpjaaldppemlaaDoorZLayoutPlaces1
import Derived.Test.YtnpjaaldppemlaaDoorZLayoutPlaces2
import Derived.Test.YtnpjaaldppemlaaDoorZLayoutPlaces3
import Derived.Test.YtnpjaaldppemlaaDoorZLayoutPlaces5
import Derived.Test.YtnpjaaldppemlaaDoorZLayoutPlaces10
section
namespace Go.Proofs.YtnpjaaldppemlaaDoor.U
open Go.RowKit Go.Proofs.YtnpjaaldppemlaaDoorW.PrintWords Go.Proofs.YtnpjaaldppemlaaDoorW.PrintLast Go.Proofs.YtnpjaaldppemlaaDoorW.PrintMore
attribute [local go_sem] max2_int min2_int max_two min_two max_three min_three max_four min_four   -- for this text's walks alone
set_option linter.unusedVariables false
set_option linter.unusedSimpArgs false
attribute [local go_sem high] eqA27 eqA35
def bodkinlaw20_awake.f (k : Nat)  : Option (Bool) := (cluster_Next.f k (⟨#[97]⟩ : ByteArray) 0).bind fun t149 => (if t149 = 1 then ((layout_Lay.f (⟨#[62,32]⟩ : ByteArray) (⟨#[97,98]⟩ : ByteArray) 1 5).bind fun bt150 => ((layout_Lay.f (⟨#[]⟩ : ByteArray) (⟨#[97,228,184,128]⟩ : ByteArray) 1 2).bind fun bt157 => (if bt150.1 = 5 then (if (bt150.2.1.length : Int) = 1 then (if 0 < (bt150.2.1.length : Int) then (if ((rd_L3 bt150.2.1 0).length : Int) = 4 then (if 2 < ((rd_L3 bt150.2.1 0).length : Int) then (if ((((rd_T35 (rd_L3 bt150.2.1 0) 2).f0).toList) == ([97] : List UInt8) && (((rd_T35 (rd_L3 bt150.2.1 0) 2).f1) == 1)) = true then (if (bt150.2.2.1 == 0 && (bt150.2.2.2 == 3)) = true then (if (bt157.2.1.length : Int) = 3 then (if 0 < (bt157.2.1.length : Int) then (if ((rd_L3 bt157.2.1 0).length : Int) = 1 then (if 1 < (bt157.2.1.length : Int) then (if ((rd_L3 bt157.2.1 1).length : Int) = 2 then (if 1 < ((rd_L3 bt157.2.1 1).length : Int) then (if ((((rd_T35 (rd_L3 bt157.2.1 1) 1).f0).toList) == ([] : List UInt8) && (((rd_T35 (rd_L3 bt157.2.1 1) 1).f1) == 0)) = true then (some (bt157.2.2.1 == 0 && (bt157.2.2.2 == 1))) else (some false)) else (none)) else (some false)) else (none)) else (some false)) else (none)) else (some false)) else (some false)) else (some false)) else (none)) else (some false)) else (none)) else (some false)) else (some false)))) else (some false))
theorem bodkinlaw20_awake.mono : ∀ k,LeO (bodkinlaw20_awake.f k ) (bodkinlaw20_awake.f (k + 1) ) := by
 intro  k
 unfold bodkinlaw20_awake.f
 repeat' first
   | (with_reducible exact cluster_Next.mono _ _ _)
   | (with_reducible exact LeO.refl _)
   | (with_reducible exact LeO.none _)
   | (with_reducible refine LeO.ite ?_ ?_)
   | (with_reducible refine LeO.bind ?_ (fun _ => ?_))
   | exact cluster_Next.mono _ _ _
   | exact LeO.none _
   | refine LeO.ite ?_ ?_
   | refine LeO.bind ?_ (fun _ => ?_)
set_option maxHeartbeats 8000000 in
set_option maxRecDepth 100000 in
theorem bodkinlaw20_awake.calls (k : Nat)  (r : Bool) (hr_ : r = true) (w : World) (hT : Lib.Utf8Tabs 0 1 w) (h : bodkinlaw20_awake.f k  = some r) :
  Calls Tryd.prog 12 #[] w fun e w' => e = .returned (.bool r) ∧ Below w.heap.size w w' := by
 have hu29 := Tryd.underlying29
 have hu35 := Tryd.underlying35
 have hu27 := Tryd.underlying27
 have HT := Aside0.mk hT
 clear hT
 have HB := Aside0.mk (Below.refl w.heap.size w)
 have H : ((cluster_Next.f k (⟨#[97]⟩ : ByteArray) 0).bind fun t149 => (if t149 = 1 then ((layout_Lay.f (⟨#[62,32]⟩ : ByteArray) (⟨#[97,98]⟩ : ByteArray) 1 5).bind fun bt150 => ((layout_Lay.f (⟨#[]⟩ : ByteArray) (⟨#[97,228,184,128]⟩ : ByteArray) 1 2).bind fun bt157 => (if bt150.1 = 5 then (if (bt150.2.1.length : Int) = 1 then (if 0 < (bt150.2.1.length : Int) then (if ((rd_L3 bt150.2.1 0).length : Int) = 4 then (if 2 < ((rd_L3 bt150.2.1 0).length : Int) then (if ((((rd_T35 (rd_L3 bt150.2.1 0) 2).f0).toList) == ([97] : List UInt8) && (((rd_T35 (rd_L3 bt150.2.1 0) 2).f1) == 1)) = true then (if (bt150.2.2.1 == 0 && (bt150.2.2.2 == 3)) = true then (if (bt157.2.1.length : Int) = 3 then (if 0 < (bt157.2.1.length : Int) then (if ((rd_L3 bt157.2.1 0).length : Int) = 1 then (if 1 < (bt157.2.1.length : Int) then (if ((rd_L3 bt157.2.1 1).length : Int) = 2 then (if 1 < ((rd_L3 bt157.2.1 1).length : Int) then (if ((((rd_T35 (rd_L3 bt157.2.1 1) 1).f0).toList) == ([] : List UInt8) && (((rd_T35 (rd_L3 bt157.2.1 1) 1).f1) == 0)) = true then (some (bt157.2.2.1 == 0 && (bt157.2.2.2 == 1))) else (some false)) else (none)) else (some false)) else (none)) else (some false)) else (none)) else (some false)) else (some false)) else (some false)) else (none)) else (some false)) else (none)) else (some false)) else (some false)))) else (some false))) = some r := h
 clear h
 replace H := Option.bind_eq_some_iff.mp H
 obtain ⟨t149,A10,H⟩ := H
 replace H : (if t149 = 1 then ((layout_Lay.f (⟨#[62,32]⟩ : ByteArray) (⟨#[97,98]⟩ : ByteArray) 1 5).bind fun bt150 => ((layout_Lay.f (⟨#[]⟩ : ByteArray) (⟨#[97,228,184,128]⟩ : ByteArray) 1 2).bind fun bt157 => (if bt150.1 = 5 then (if (bt150.2.1.length : Int) = 1 then (if 0 < (bt150.2.1.length : Int) then (if ((rd_L3 bt150.2.1 0).length : Int) = 4 then (if 2 < ((rd_L3 bt150.2.1 0).length : Int) then (if ((((rd_T35 (rd_L3 bt150.2.1 0) 2).f0).toList) == ([97] : List UInt8) && (((rd_T35 (rd_L3 bt150.2.1 0) 2).f1) == 1)) = true then (if (bt150.2.2.1 == 0 && (bt150.2.2.2 == 3)) = true then (if (bt157.2.1.length : Int) = 3 then (if 0 < (bt157.2.1.length : Int) then (if ((rd_L3 bt157.2.1 0).length : Int) = 1 then (if 1 < (bt157.2.1.length : Int) then (if ((rd_L3 bt157.2.1 1).length : Int) = 2 then (if 1 < ((rd_L3 bt157.2.1 1).length : Int) then (if ((((rd_T35 (rd_L3 bt157.2.1 1) 1).f0).toList) == ([] : List UInt8) && (((rd_T35 (rd_L3 bt157.2.1 1) 1).f1) == 0)) = true then (some (bt157.2.2.1 == 0 && (bt157.2.2.2 == 1))) else (some false)) else (none)) else (some false)) else (none)) else (some false)) else (none)) else (some false)) else (some false)) else (some false)) else (none)) else (some false)) else (none)) else (some false)) else (some false)))) else (some false)) = some r := H
 have A1 := Aside0.mk A10
 clear A10
 by_cases c2 : t149 = 1
 ·rw [if_pos c2] at H
  have c2b0 : (t149 == 1) = true := beq_iff_eq.mpr c2
  have c2b1 : (t149 != 1) = false := bne_eq_false_iff_eq.mpr c2
  clear c2
  replace H := Option.bind_eq_some_iff.mp H
  obtain ⟨⟨t150,t151,t154,t155⟩,A30,H⟩ := H
  replace H : ((layout_Lay.f (⟨#[]⟩ : ByteArray) (⟨#[97,228,184,128]⟩ : ByteArray) 1 2).bind fun bt157 => (if t150 = 5 then (if (t151.length : Int) = 1 then (if 0 < (t151.length : Int) then (if ((rd_L3 t151 0).length : Int) = 4 then (if 2 < ((rd_L3 t151 0).length : Int) then (if ((((rd_T35 (rd_L3 t151 0) 2).f0).toList) == ([97] : List UInt8) && (((rd_T35 (rd_L3 t151 0) 2).f1) == 1)) = true then (if (t154 == 0 && (t155 == 3)) = true then (if (bt157.2.1.length : Int) = 3 then (if 0 < (bt157.2.1.length : Int) then (if ((rd_L3 bt157.2.1 0).length : Int) = 1 then (if 1 < (bt157.2.1.length : Int) then (if ((rd_L3 bt157.2.1 1).length : Int) = 2 then (if 1 < ((rd_L3 bt157.2.1 1).length : Int) then (if ((((rd_T35 (rd_L3 bt157.2.1 1) 1).f0).toList) == ([] : List UInt8) && (((rd_T35 (rd_L3 bt157.2.1 1) 1).f1) == 0)) = true then (some (bt157.2.2.1 == 0 && (bt157.2.2.2 == 1))) else (some false)) else (none)) else (some false)) else (none)) else (some false)) else (none)) else (some false)) else (some false)) else (some false)) else (none)) else (some false)) else (none)) else (some false)) else (some false))) = some r := H
  have A3 := Aside0.mk A30
  clear A30
  replace H := Option.bind_eq_some_iff.mp H
  obtain ⟨⟨t157,t158,t161,t162⟩,A40,H⟩ := H
  replace H : (if t150 = 5 then (if (t151.length : Int) = 1 then (if 0 < (t151.length : Int) then (if ((rd_L3 t151 0).length : Int) = 4 then (if 2 < ((rd_L3 t151 0).length : Int) then (if ((((rd_T35 (rd_L3 t151 0) 2).f0).toList) == ([97] : List UInt8) && (((rd_T35 (rd_L3 t151 0) 2).f1) == 1)) = true then (if (t154 == 0 && (t155 == 3)) = true then (if (t158.length : Int) = 3 then (if 0 < (t158.length : Int) then (if ((rd_L3 t158 0).length : Int) = 1 then (if 1 < (t158.length : Int) then (if ((rd_L3 t158 1).length : Int) = 2 then (if 1 < ((rd_L3 t158 1).length : Int) then (if ((((rd_T35 (rd_L3 t158 1) 1).f0).toList) == ([] : List UInt8) && (((rd_T35 (rd_L3 t158 1) 1).f1) == 0)) = true then (some (t161 == 0 && (t162 == 1))) else (some false)) else (none)) else (some false)) else (none)) else (some false)) else (none)) else (some false)) else (some false)) else (some false)) else (none)) else (some false)) else (none)) else (some false)) else (some false)) = some r := H
  have A4 := Aside0.mk A40
  clear A40
  by_cases c5 : t150 = 5
  ·rw [if_pos c5] at H
   have c5b0 : (t150 == 5) = true := beq_iff_eq.mpr c5
   have c5b1 : (t150 != 5) = false := bne_eq_false_iff_eq.mpr c5
   clear c5
   by_cases c6 : (t151.length : Int) = 1
   ·rw [if_pos c6] at H
    have c6b0 : ((t151.length : Int) == 1) = true := beq_iff_eq.mpr c6
    have c6b1 : ((t151.length : Int) != 1) = false := bne_eq_false_iff_eq.mpr c6
    clear c6
    by_cases c7 : 0 < (t151.length : Int)
    ·rw [if_pos c7] at H
     have c7b0 : decide (0 < (t151.length : Int)) = true := decide_eq_true c7
     have c7b1 : decide (0 < t151.length) = true := decide_eq_true (by omega)
     clear c7
     by_cases c8 : ((rd_L3 t151 0).length : Int) = 4
     ·rw [if_pos c8] at H
      have c8b0 : (((rd_L3 t151 0).length : Int) == 4) = true := beq_iff_eq.mpr c8
      have c8b1 : (((rd_L3 t151 0).length : Int) != 4) = false := bne_eq_false_iff_eq.mpr c8
      clear c8
      by_cases c9 : 2 < ((rd_L3 t151 0).length : Int)
      ·rw [if_pos c9] at H
       have c9b0 : decide (2 < ((rd_L3 t151 0).length : Int)) = true := decide_eq_true c9
       have c9b1 : decide (2 < (rd_L3 t151 0).length) = true := decide_eq_true (by omega)
       clear c9
       by_cases c10 : ((((rd_T35 (rd_L3 t151 0) 2).f0).toList) == ([97] : List UInt8) && (((rd_T35 (rd_L3 t151 0) 2).f1) == 1)) = true
       ·rw [if_pos c10] at H
        have c10b0 : ((((rd_T35 (rd_L3 t151 0) 2).f0).toList) == ([97] : List UInt8) && (((rd_T35 (rd_L3 t151 0) 2).f1) == 1)) = true := c10
        (try (have c10b1 : decide ((((rd_T35 (rd_L3 t151 0) 2).f0).toList) = ([97] : List UInt8) && (((rd_T35 (rd_L3 t151 0) 2).f1) == 1)) = true := by simpa using c10))
        (try (have c10b2 : ((((rd_T35 (rd_L3 t151 0) 2).f0).toList) == ([97] : List UInt8) && (((rd_T35 (rd_L3 t151 0) 2).f1) == 1)) = true := by simpa using c10))
        clear c10
        by_cases c11 : (t154 == 0 && (t155 == 3)) = true
        ·rw [if_pos c11] at H
         have c11b0 : (t154 == 0 && (t155 == 3)) = true := c11
         (try (have c11b1 : decide (t154 = 0 && (t155 == 3)) = true := by simpa using c11))
         (try (have c11b2 : (t154 == 0 && (t155 == 3)) = true := by simpa using c11))
         clear c11
         by_cases c12 : (t158.length : Int) = 3
         ·rw [if_pos c12] at H
          have c12b0 : ((t158.length : Int) == 3) = true := beq_iff_eq.mpr c12
          have c12b1 : ((t158.length : Int) != 3) = false := bne_eq_false_iff_eq.mpr c12
          clear c12
          by_cases c13 : 0 < (t158.length : Int)
          ·rw [if_pos c13] at H
           have c13b0 : decide (0 < (t158.length : Int)) = true := decide_eq_true c13
           have c13b1 : decide (0 < t158.length) = true := decide_eq_true (by omega)
           clear c13
           by_cases c14 : ((rd_L3 t158 0).length : Int) = 1
           ·rw [if_pos c14] at H
            have c14b0 : (((rd_L3 t158 0).length : Int) == 1) = true := beq_iff_eq.mpr c14
            have c14b1 : (((rd_L3 t158 0).length : Int) != 1) = false := bne_eq_false_iff_eq.mpr c14
            clear c14
            by_cases c15 : 1 < (t158.length : Int)
            ·rw [if_pos c15] at H
             have c15b0 : decide (1 < (t158.length : Int)) = true := decide_eq_true c15
             have c15b1 : decide (1 < t158.length) = true := decide_eq_true (by omega)
             clear c15
             by_cases c16 : ((rd_L3 t158 1).length : Int) = 2
             ·rw [if_pos c16] at H
              have c16b0 : (((rd_L3 t158 1).length : Int) == 2) = true := beq_iff_eq.mpr c16
              have c16b1 : (((rd_L3 t158 1).length : Int) != 2) = false := bne_eq_false_iff_eq.mpr c16
              clear c16
              by_cases c17 : 1 < ((rd_L3 t158 1).length : Int)
              ·rw [if_pos c17] at H
               have c17b0 : decide (1 < ((rd_L3 t158 1).length : Int)) = true := decide_eq_true c17
               have c17b1 : decide (1 < (rd_L3 t158 1).length) = true := decide_eq_true (by omega)
               clear c17
               by_cases c18 : ((((rd_T35 (rd_L3 t158 1) 1).f0).toList) == ([] : List UInt8) && (((rd_T35 (rd_L3 t158 1) 1).f1) == 0)) = true
               ·rw [if_pos c18] at H
                have c18b0 : ((((rd_T35 (rd_L3 t158 1) 1).f0).toList) == ([] : List UInt8) && (((rd_T35 (rd_L3 t158 1) 1).f1) == 0)) = true := c18
                have hc18 := c18
                (try (have c18b1 : decide ((((rd_T35 (rd_L3 t158 1) 1).f0).toList) = ([] : List UInt8) && (((rd_T35 (rd_L3 t158 1) 1).f1) == 0)) = true := by simpa using c18))
                (try (have c18b2 : ((((rd_T35 (rd_L3 t158 1) 1).f0).toList) == ([] : List UInt8) && (((rd_T35 (rd_L3 t158 1) 1).f1) == 0)) = true := by simpa using c18))
                clear c18
                obtain rfl := Option.some.inj H
                go_enter Tryd.func12,Tryd.ntmps12
                go_wp2_with (first | ((with_reducible refine gate_callee (f := 18) rfl ?_);refine goesL_ (some 3) rfl rfl Tryd.func18 (by kernel_rfl) rfl #[.string (⟨#[97]⟩ : ByteArray),.int .i64 0] rfl au1 ?_;(with_reducible refine (cluster_Next.calls k (⟨#[97]⟩ : ByteArray) 0 t149 _ ?side1 A1.out).mono ?_);(case side1 => exact tabs_below HT.out au0);rintro e w19 ⟨rfl,hb⟩;refine ⟨_,rfl,?_⟩;have n0_ := Aside0.mk (below_step au0 hb);clear HB;have HB := n0_;clear n0_;(try clear hb);(try clear hb2);(try clear hk);(try clear hi)) | ((with_reducible refine gate_callee (f := 14) rfl ?_);refine goesL_ (some 5) rfl rfl Tryd.func14 (by kernel_rfl) rfl #[.string (⟨#[62,32]⟩ : ByteArray),.string (⟨#[97,98]⟩ : ByteArray),.int .i64 1,.int .i64 5] rfl au1 ?_;(with_reducible refine (layout_Lay.calls (⟨#[62,32]⟩ : ByteArray) (⟨#[97,98]⟩ : ByteArray) 1 5 t150 t151 t154 t155 _ ?side1 A3.out).mono ?_);(case side1 => exact tabs_below HT.out au0);rintro e w20 ⟨v152,rfl,ho0,hb⟩;refine ⟨_,rfl,?_⟩;have n0_ := Aside0.mk (Kd.S_lower ho0 (below_size au0));have n1_ := Aside0.mk (below_step au0 hb);clear HB;have HO153 := n0_;have HB := n1_;clear n0_ n1_;(try clear hb);(try clear hb2);(try clear hk);(try clear hi);(try clear ho0)) | ((with_reducible refine gate_dst (N := 1) rfl ?_);(try (refine gate_guard (by rfl) ?_;dsimp only));refine box_event ?hg (N := 1) ?hd (cs := #[.int .i64 0,.slice none 0 0,.int .i64 0,.int .i64 0]) (t := 29) ?hr ?_;(case hd => rfl);(case hg => rfl);(case hr => first | (go_simp;done) | (go_simp;rfl));intro gb156 hg w21 hbox hb;have n0_ := Aside0.mk (Kd.S_below (by (with_reducible repeat (first | apply Kd.S_alloc | apply Kd.S_drewN | apply Kd.S_drew));exact HO153.out) hb);have n1_ := Aside0.mk (below_step au0 hb);have n2_ := Aside0.mk (hbox);have n3_ := Aside0.mk ((by rw [hg];exact (below_size au0) : w.heap.size ≤ gb156));have n4_ := Aside0.mk ((by rw [hg];exact (below_size au0) : w.heap.size ≤ gb156));clear HO153;clear HB;have HO153 := n0_;have HB := n1_;have BK156 := n2_;have GW156 := n3_;have GE156 := n4_;clear n0_ n1_ n2_ n3_ n4_;clear hb hbox hg;have hcz22_0 : w21.cell? ⟨gb156,0,none⟩ = some (.int .i64 0) := (blk_cell BK156.out 0).trans rfl;have hcz22_1 : w21.cell? ⟨gb156,1,none⟩ = some (.slice none 0 0) := (blk_cell BK156.out 1).trans rfl;have hcz22_2 : w21.cell? ⟨gb156,2,none⟩ = some (.int .i64 0) := (blk_cell BK156.out 2).trans rfl;have hcz22_3 : w21.cell? ⟨gb156,3,none⟩ = some (.int .i64 0) := (blk_cell BK156.out 3).trans rfl;have hfz22_0 := blk_frozen BK156.out 0;have hfz22_1 := blk_frozen BK156.out 1;have hfz22_2 := blk_frozen BK156.out 2;have hfz22_3 := blk_frozen BK156.out 3;obtain ⟨Ao23,co23,eo23⟩ := Kd.S_slice HO153.out;subst eo23) | ((with_reducible refine gate_callee (f := 14) rfl ?_);refine goesL_ (some 6) rfl rfl Tryd.func14 (by kernel_rfl) rfl #[.string (⟨#[]⟩ : ByteArray),.string (⟨#[97,228,184,128]⟩ : ByteArray),.int .i64 1,.int .i64 2] rfl au1 ?_;(with_reducible refine (layout_Lay.calls (⟨#[]⟩ : ByteArray) (⟨#[97,228,184,128]⟩ : ByteArray) 1 2 t157 t158 t161 t162 _ ?side1 A4.out).mono ?_);(case side1 => exact tabs_below HT.out au21);rintro e w24 ⟨v159,rfl,ho0,hb⟩;refine ⟨_,rfl,?_⟩;have n0_ := Aside0.mk (Kd.S_elder' au30 (Kd.S_base ho0) hb);have n1_ := Aside0.mk (Kd.S_lower (Kd.S_new' ho0 (Kd.S_lt au30)) (below_size au21));have n2_ := Aside0.mk (blk_below (g := gb156) (o := .cells #[.int .i64 t150,.slice Ao23 t151.length co23,.int .i64 t154,.int .i64 t155] 29 (0,0)) (by (with_reducible repeat (first | refine blk_drewN ?_ _ | refine blk_drew ?_ | refine blk_alloc ?_ _));refine blk_put (cs := #[.int .i64 t150,.slice Ao23 t151.length co23,.int .i64 t154,.int .i64 0]) ?_ 3 _ rfl;(with_reducible repeat (first | refine blk_drewN ?_ _ | refine blk_drew ?_ | refine blk_alloc ?_ _));refine blk_put (cs := #[.int .i64 t150,.slice Ao23 t151.length co23,.int .i64 0,.int .i64 0]) ?_ 2 _ rfl;(with_reducible repeat (first | refine blk_drewN ?_ _ | refine blk_drew ?_ | refine blk_alloc ?_ _));refine blk_put (cs := #[.int .i64 t150,.slice none 0 0,.int .i64 0,.int .i64 0]) ?_ 1 _ rfl;(with_reducible repeat (first | refine blk_drewN ?_ _ | refine blk_drew ?_ | refine blk_alloc ?_ _));refine blk_put (cs := #[.int .i64 0,.slice none 0 0,.int .i64 0,.int .i64 0]) ?_ 0 _ rfl;(with_reducible repeat (first | refine blk_drewN ?_ _ | refine blk_drew ?_ | refine blk_alloc ?_ _));exact BK156.out) hb);have n3_ := Aside0.mk (below_step au21 hb);clear HO153;clear BK156;clear HB;have HO153 := n0_;have HO160 := n1_;have BK156 := n2_;have HB := n3_;clear n0_ n1_ n2_ n3_;(try clear hb);(try clear hb2);(try clear hk);(try clear hi);(try clear ho0)) | ((with_reducible refine gate_dst (N := 2) rfl ?_);(try (refine gate_guard (by rfl) ?_;dsimp only));refine box_event ?hg (N := 2) ?hd (cs := #[.int .i64 0,.slice none 0 0,.int .i64 0,.int .i64 0]) (t := 29) ?hr ?_;(case hd => rfl);(case hg => rfl);(case hr => first | (go_simp;done) | (go_simp;rfl));intro gb163 hg w25 hbox hb;have n0_ := Aside0.mk (Kd.S_below (by (with_reducible repeat (first | apply Kd.S_alloc | apply Kd.S_drewN | apply Kd.S_drew));exact HO153.out) hb);have n1_ := Aside0.mk (Kd.S_below (by (with_reducible repeat (first | apply Kd.S_alloc | apply Kd.S_drewN | apply Kd.S_drew));exact HO160.out) hb);have n2_ := Aside0.mk (blk_below (g := gb156) (o := .cells #[.int .i64 t150,.slice Ao23 t151.length co23,.int .i64 t154,.int .i64 t155] 29 (0,0)) (by (with_reducible repeat (first | refine blk_drewN ?_ _ | refine blk_drew ?_ | refine blk_alloc ?_ _));exact BK156.out) hb);have n3_ := Aside0.mk (below_step au21 hb);have n4_ := Aside0.mk (hbox);have n5_ := Aside0.mk ((by rw [hg];exact (below_size au21) : w.heap.size ≤ gb163));have n6_ := Aside0.mk ((by rw [hg];exact (below_size au21) : w.heap.size ≤ gb163));have n7_ := Aside0.mk ((by rw [hg];exact Nat.ne_of_lt (blk_lt (g := gb156) (o := .cells #[.int .i64 t150,.slice Ao23 t151.length co23,.int .i64 t154,.int .i64 t155] 29 (0,0)) (by (with_reducible repeat (first | refine blk_drewN ?_ _ | refine blk_drew ?_ | refine blk_alloc ?_ _));exact BK156.out)) : gb156 ≠ gb163));have n8_ := Aside0.mk ((by rw [hg];exact Nat.ne_of_gt (blk_lt (g := gb156) (o := .cells #[.int .i64 t150,.slice Ao23 t151.length co23,.int .i64 t154,.int .i64 t155] 29 (0,0)) (by (with_reducible repeat (first | refine blk_drewN ?_ _ | refine blk_drew ?_ | refine blk_alloc ?_ _));exact BK156.out)) : gb163 ≠ gb156));clear HO153;clear HO160;clear BK156;clear HB;have HO153 := n0_;have HO160 := n1_;have BK156 := n2_;have HB := n3_;have BK163 := n4_;have GW163 := n5_;have GE163 := n6_;have NB156_163 := n7_;have NB163_156 := n8_;clear n0_ n1_ n2_ n3_ n4_ n5_ n6_ n7_ n8_;clear hb hbox hg;have hnb26 := NB163_156.out;have hnc26 := NB156_163.out;have hcz27_0 : w25.cell? ⟨gb163,0,none⟩ = some (.int .i64 0) := (blk_cell BK163.out 0).trans rfl;have hcz27_1 : w25.cell? ⟨gb163,1,none⟩ = some (.slice none 0 0) := (blk_cell BK163.out 1).trans rfl;have hcz27_2 : w25.cell? ⟨gb163,2,none⟩ = some (.int .i64 0) := (blk_cell BK163.out 2).trans rfl;have hcz27_3 : w25.cell? ⟨gb163,3,none⟩ = some (.int .i64 0) := (blk_cell BK163.out 3).trans rfl;have hfz27_0 := blk_frozen BK163.out 0;have hfz27_1 := blk_frozen BK163.out 1;have hfz27_2 := blk_frozen BK163.out 2;have hfz27_3 := blk_frozen BK163.out 3;obtain ⟨Ao28,co28,eo28⟩ := Kd.S_slice HO160.out;subst eo28) | ((with_reducible refine gate_store (t := 29) (p := 2) rfl ?_);refine store_event (t := 29) (p := 2) (v := ?vo_w29) (w1 := ((((w25.setCell ⟨gb163,0,none⟩ (.int .i64 t157)).setCell ⟨gb163,1,none⟩ (.slice Ao28 t158.length co28)).setCell ⟨gb163,2,none⟩ (.int .i64 t161)).setCell ⟨gb163,3,none⟩ (.int .i64 t162))) ?hg ?ho ?hn ?hr ?_;(case ho => rfl);(case hg => rfl);(case hn => rfl);(case hr => first | (go_simp;done) | (go_simp;rfl));intro w29 hw;have n0_ : Aside0 (Kd.S (Kd.slice 35 k35) 33 w29 w.heap.size (fun k_ => some k_ ≠ (.slice Ao28 t158.length co28 : Value).ownBlock) (.slice Ao23 t151.length co23) t151) := ⟨(by rw [hw];exact (by (with_reducible repeat (first | apply Kd.S_alloc | apply Kd.S_drewN | apply Kd.S_drew));exact Kd.S_mono (Kd.S_far (p := ⟨gb163,3,none⟩) (Kd.S_far (p := ⟨gb163,2,none⟩) (Kd.S_far (p := ⟨gb163,1,none⟩) (Kd.S_far (p := ⟨gb163,0,none⟩) (Kd.S_types HO153.out BK163.out (by decide)) (fun _ hk => hk.2) (.int .i64 t157)) (fun _ hk => hk.2) (.slice Ao28 t158.length co28)) (fun _ hk => hk.2) (.int .i64 t161)) (fun _ hk => hk.2) (.int .i64 t162)) (fun _ hk => hk.1.2)))⟩;have n1_ : Aside0 (Kd.S (Kd.slice 35 k35) 33 w29 w.heap.size (fun k_ => some k_ ≠ (.slice Ao23 t151.length co23 : Value).ownBlock) (.slice Ao28 t158.length co28) t158) := ⟨(by rw [hw];exact (by (with_reducible repeat (first | apply Kd.S_alloc | apply Kd.S_drewN | apply Kd.S_drew));exact Kd.S_mono (Kd.S_far (p := ⟨gb163,3,none⟩) (Kd.S_far (p := ⟨gb163,2,none⟩) (Kd.S_far (p := ⟨gb163,1,none⟩) (Kd.S_far (p := ⟨gb163,0,none⟩) (Kd.S_types HO160.out BK163.out (by decide)) (fun _ hk => hk.2) (.int .i64 t157)) (fun _ hk => hk.2) (.slice Ao28 t158.length co28)) (fun _ hk => hk.2) (.int .i64 t161)) (fun _ hk => hk.2) (.int .i64 t162)) (fun _ hk => hk.1.2)))⟩;have n2_ : Aside0 (w29.heap[gb156]? = some (.cells #[.int .i64 t150,.slice Ao23 t151.length co23,.int .i64 t154,.int .i64 t155] 29 (0,0))) := ⟨(by rw [hw];exact (by (with_reducible repeat (first | refine blk_drewN ?_ _ | refine blk_drew ?_ | refine blk_alloc ?_ _));refine blk_far ?_ NB156_163.out _;(with_reducible repeat (first | refine blk_drewN ?_ _ | refine blk_drew ?_ | refine blk_alloc ?_ _));refine blk_far ?_ NB156_163.out _;(with_reducible repeat (first | refine blk_drewN ?_ _ | refine blk_drew ?_ | refine blk_alloc ?_ _));refine blk_far ?_ NB156_163.out _;(with_reducible repeat (first | refine blk_drewN ?_ _ | refine blk_drew ?_ | refine blk_alloc ?_ _));refine blk_far ?_ NB156_163.out _;(with_reducible repeat (first | refine blk_drewN ?_ _ | refine blk_drew ?_ | refine blk_alloc ?_ _));exact BK156.out))⟩;have n3_ : Aside0 (w29.heap[gb163]? = some (.cells #[.int .i64 t157,.slice Ao28 t158.length co28,.int .i64 t161,.int .i64 t162] 29 (0,0))) := ⟨(by rw [hw];exact (by (with_reducible repeat (first | refine blk_drewN ?_ _ | refine blk_drew ?_ | refine blk_alloc ?_ _));refine blk_put (cs := #[.int .i64 t157,.slice Ao28 t158.length co28,.int .i64 t161,.int .i64 0]) ?_ 3 _ rfl;(with_reducible repeat (first | refine blk_drewN ?_ _ | refine blk_drew ?_ | refine blk_alloc ?_ _));refine blk_put (cs := #[.int .i64 t157,.slice Ao28 t158.length co28,.int .i64 0,.int .i64 0]) ?_ 2 _ rfl;(with_reducible repeat (first | refine blk_drewN ?_ _ | refine blk_drew ?_ | refine blk_alloc ?_ _));refine blk_put (cs := #[.int .i64 t157,.slice none 0 0,.int .i64 0,.int .i64 0]) ?_ 1 _ rfl;(with_reducible repeat (first | refine blk_drewN ?_ _ | refine blk_drew ?_ | refine blk_alloc ?_ _));refine blk_put (cs := #[.int .i64 0,.slice none 0 0,.int .i64 0,.int .i64 0]) ?_ 0 _ rfl;(with_reducible repeat (first | refine blk_drewN ?_ _ | refine blk_drew ?_ | refine blk_alloc ?_ _));exact BK163.out))⟩;have n4_ : Aside0 (Below w.heap.size w w29) := ⟨(by rw [hw];exact (by repeat (first | (with_reducible first | exact HB.out | apply below_alloc | apply pw_below_drewN | apply below_drew1 | refine below_set ?_ GE156.out | refine below_set ?_ GE163.out) | exact HB.out)))⟩;clear hw;clear HO153;clear HO160;clear BK156;clear BK163;clear HB;have HO153 := n0_;have HO160 := n1_;have BK156 := n2_;have BK163 := n3_;have HB := n4_;clear n0_ n1_ n2_ n3_ n4_;have hcz30_0 : w29.cell? ⟨gb156,0,none⟩ = some (.int .i64 t150) := (blk_cell BK156.out 0).trans rfl;have hcz30_1 : w29.cell? ⟨gb156,1,none⟩ = some (.slice Ao23 t151.length co23) := (blk_cell BK156.out 1).trans rfl;have hcz30_2 : w29.cell? ⟨gb156,2,none⟩ = some (.int .i64 t154) := (blk_cell BK156.out 2).trans rfl;have hcz30_3 : w29.cell? ⟨gb156,3,none⟩ = some (.int .i64 t155) := (blk_cell BK156.out 3).trans rfl;have hfz30_0 := blk_frozen BK156.out 0;have hfz30_1 := blk_frozen BK156.out 1;have hfz30_2 := blk_frozen BK156.out 2;have hfz30_3 := blk_frozen BK156.out 3;have p164 : 0 ≤ (0 : Int) := (by omega);have q164 : 0 < (t151.length : Int) := of_decide_eq_true au3;obtain ⟨ad164,A164_0,c164_0,e164,hx164_0,hl164_0,hi164_0⟩ := at_L3 (Kd.S_reads' HO153.out).2.2 0 p164 q164;cases e164;obtain ⟨ce164,hce164,hMe164,hcc164⟩ := Kd.S_get HO153.out [] 0 p164 (by first | exact q164 | exact of_decide_eq_true au3 | (have e_ := (Kd.S_reads' HO153.out).1;omega));obtain ⟨ve164_0,rfl,ge164_0⟩ := hMe164;have hv164_0 := hcc164 0 _ rfl;rw [Nat.add_zero,show ((Kd.slice 35 k35)).sz = 1 from rfl,Nat.mul_one] at hv164_0;replace hv164_0 := Option.some.inj (hv164_0.symm.trans hx164_0);rw [hv164_0] at ge164_0;have HL164_0 := Aside0.mk (show Kd.R k35 35 _ _ _ _ (rd_L3 t151 0) from ge164_0);clear hv164_0 ge164_0;clear hcc164 hce164;have qi164 : (0 < t151.length) = True := eq_true (by omega);(try rw [show ((0 : Int)).toNat = 0 from rfl] at hx164_0);(try rw [Addr.add_zero'] at hx164_0);have HR164_0 := Aside0.mk hi164_0;have HC164_0 := Aside0.mk hl164_0;clear hi164_0 hl164_0;replace p164 := eq_true p164;replace q164 := eq_true q164;have p165 : 0 ≤ (0 : Int) := (by omega);have q165 : 0 < (t151.length : Int) := of_decide_eq_true au3;obtain ⟨ad165,A165_0,c165_0,e165,hx165_0,hl165_0,hi165_0⟩ := at_L3 (Kd.S_reads' HO153.out).2.2 0 p165 q165;obtain rfl : ad164 = ad165 := (by injection e165);obtain ⟨ce165,hce165,hMe165,hcc165⟩ := Kd.S_get HO153.out [] 0 p165 (by first | exact q165 | exact of_decide_eq_true au3 | (have e_ := (Kd.S_reads' HO153.out).1;omega));obtain ⟨ve165_0,rfl,ge165_0⟩ := hMe165;have hv165_0 := hcc165 0 _ rfl;rw [Nat.add_zero,show ((Kd.slice 35 k35)).sz = 1 from rfl,Nat.mul_one] at hv165_0;replace hv165_0 := Option.some.inj (hv165_0.symm.trans hx165_0);rw [hv165_0] at ge165_0;have HL165_0 := Aside0.mk (show Kd.R k35 35 _ _ _ _ (rd_L3 t151 0) from ge165_0);clear hv165_0 ge165_0;clear hcc165 hce165;have qi165 : (0 < t151.length) = True := eq_true (by omega);(try rw [show ((0 : Int)).toNat = 0 from rfl] at hx165_0);(try rw [Addr.add_zero'] at hx165_0);have HR165_0 := Aside0.mk hi165_0;have HC165_0 := Aside0.mk hl165_0;clear hi165_0 hl165_0;replace p165 := eq_true p165;replace q165 := eq_true q165;have ea_ := Option.some.inj (hx164_0.symm.trans hx165_0);injection ea_ with ea_ en_ ec_;subst ea_;subst ec_;clear en_;have p166 : 0 ≤ (2 : Int) := (by omega);have q166 : 2 < ((rd_L3 t151 0).length : Int) := of_decide_eq_true au3;obtain ⟨ad166,e166,hx166_0,hx166_1⟩ := at_T35 (by repeat (first | (with_reducible exact HR165_0.out) | (with_reducible refine Kd.C_alloc ?_ _) | (with_reducible refine Kd.C_drewN ?_ _) | (with_reducible refine Kd.C_drew ?_) | exact HR165_0.out)) 2 p166 q166;cases e166;(try simp only [show (2 : Int).toNat = 2 from rfl,Nat.reduceMul,Nat.reduceEqDiff,Go.Addr.add,↓reduceIte] at hx166_0);(try simp only [show (2 : Int).toNat = 2 from rfl,Nat.reduceMul,Nat.reduceEqDiff,Go.Addr.add,↓reduceIte] at hx166_1);have qi166 : (2 < (rd_L3 t151 0).length) = True := eq_true (by omega);(try rw [show ((2 : Int)).toNat = 2 from rfl] at hx166_0);(try rw [show 2 * 2 = 4 from rfl] at hx166_0);(try rw [show ((2 : Int)).toNat = 2 from rfl] at hx166_1);(try rw [show 2 * 2 = 4 from rfl] at hx166_1);replace p166 := eq_true p166;replace q166 := eq_true q166;have hcz31_0 : w29.cell? ⟨gb163,0,none⟩ = some (.int .i64 t157) := (blk_cell BK163.out 0).trans rfl;have hcz31_1 : w29.cell? ⟨gb163,1,none⟩ = some (.slice Ao28 t158.length co28) := (blk_cell BK163.out 1).trans rfl;have hcz31_2 : w29.cell? ⟨gb163,2,none⟩ = some (.int .i64 t161) := (blk_cell BK163.out 2).trans rfl;have hcz31_3 : w29.cell? ⟨gb163,3,none⟩ = some (.int .i64 t162) := (blk_cell BK163.out 3).trans rfl;have hfz31_0 := blk_frozen BK163.out 0;have hfz31_1 := blk_frozen BK163.out 1;have hfz31_2 := blk_frozen BK163.out 2;have hfz31_3 := blk_frozen BK163.out 3;have p167 : 0 ≤ (0 : Int) := (by omega);have q167 : 0 < (t158.length : Int) := of_decide_eq_true au3;obtain ⟨ad167,A167_0,c167_0,e167,hx167_0,hl167_0,hi167_0⟩ := at_L3 (Kd.S_reads' HO160.out).2.2 0 p167 q167;cases e167;obtain ⟨ce167,hce167,hMe167,hcc167⟩ := Kd.S_get HO160.out [] 0 p167 (by first | exact q167 | exact of_decide_eq_true au3 | (have e_ := (Kd.S_reads' HO160.out).1;omega));obtain ⟨ve167_0,rfl,ge167_0⟩ := hMe167;have hv167_0 := hcc167 0 _ rfl;rw [Nat.add_zero,show ((Kd.slice 35 k35)).sz = 1 from rfl,Nat.mul_one] at hv167_0;replace hv167_0 := Option.some.inj (hv167_0.symm.trans hx167_0);rw [hv167_0] at ge167_0;have HL167_0 := Aside0.mk (show Kd.R k35 35 _ _ _ _ (rd_L3 t158 0) from ge167_0);clear hv167_0 ge167_0;clear hcc167 hce167;have qi167 : (0 < t158.length) = True := eq_true (by omega);(try rw [show ((0 : Int)).toNat = 0 from rfl] at hx167_0);(try rw [Addr.add_zero'] at hx167_0);have HR167_0 := Aside0.mk hi167_0;have HC167_0 := Aside0.mk hl167_0;clear hi167_0 hl167_0;replace p167 := eq_true p167;replace q167 := eq_true q167;have p168 : 0 ≤ (1 : Int) := (by omega);have q168 : 1 < (t158.length : Int) := of_decide_eq_true au3;obtain ⟨ad168,A168_0,c168_0,e168,hx168_0,hl168_0,hi168_0⟩ := at_L3 (Kd.S_reads' HO160.out).2.2 1 p168 q168;obtain rfl : ad167 = ad168 := (by injection e168);obtain ⟨ce168,hce168,hMe168,hcc168⟩ := Kd.S_get HO160.out [] 1 p168 (by first | exact q168 | exact of_decide_eq_true au3 | (have e_ := (Kd.S_reads' HO160.out).1;omega));obtain ⟨ve168_0,rfl,ge168_0⟩ := hMe168;have hv168_0 := hcc168 0 _ rfl;rw [Nat.add_zero,show ((Kd.slice 35 k35)).sz = 1 from rfl,Nat.mul_one] at hv168_0;replace hv168_0 := Option.some.inj (hv168_0.symm.trans hx168_0);rw [hv168_0] at ge168_0;have HL168_0 := Aside0.mk (show Kd.R k35 35 _ _ _ _ (rd_L3 t158 1) from ge168_0);clear hv168_0 ge168_0;clear hcc168 hce168;(try simp only [show (1 : Int).toNat = 1 from rfl,Nat.reduceMul,Nat.reduceEqDiff,Go.Addr.add,↓reduceIte] at hx168_0);have qi168 : (1 < t158.length) = True := eq_true (by omega);(try rw [show ((1 : Int)).toNat = 1 from rfl] at hx168_0);have HR168_0 := Aside0.mk hi168_0;have HC168_0 := Aside0.mk hl168_0;clear hi168_0 hl168_0;replace p168 := eq_true p168;replace q168 := eq_true q168;have p169 : 0 ≤ (1 : Int) := (by omega);have q169 : 1 < (t158.length : Int) := of_decide_eq_true au3;obtain ⟨ad169,A169_0,c169_0,e169,hx169_0,hl169_0,hi169_0⟩ := at_L3 (Kd.S_reads' HO160.out).2.2 1 p169 q169;obtain rfl : ad167 = ad169 := (by injection e169);obtain ⟨ce169,hce169,hMe169,hcc169⟩ := Kd.S_get HO160.out [] 1 p169 (by first | exact q169 | exact of_decide_eq_true au3 | (have e_ := (Kd.S_reads' HO160.out).1;omega));obtain ⟨ve169_0,rfl,ge169_0⟩ := hMe169;have hv169_0 := hcc169 0 _ rfl;rw [Nat.add_zero,show ((Kd.slice 35 k35)).sz = 1 from rfl,Nat.mul_one] at hv169_0;replace hv169_0 := Option.some.inj (hv169_0.symm.trans hx169_0);rw [hv169_0] at ge169_0;have HL169_0 := Aside0.mk (show Kd.R k35 35 _ _ _ _ (rd_L3 t158 1) from ge169_0);clear hv169_0 ge169_0;clear hcc169 hce169;(try simp only [show (1 : Int).toNat = 1 from rfl,Nat.reduceMul,Nat.reduceEqDiff,Go.Addr.add,↓reduceIte] at hx169_0);have qi169 : (1 < t158.length) = True := eq_true (by omega);(try rw [show ((1 : Int)).toNat = 1 from rfl] at hx169_0);have HR169_0 := Aside0.mk hi169_0;have HC169_0 := Aside0.mk hl169_0;clear hi169_0 hl169_0;replace p169 := eq_true p169;replace q169 := eq_true q169;have ea_ := Option.some.inj (hx168_0.symm.trans hx169_0);injection ea_ with ea_ en_ ec_;subst ea_;subst ec_;clear en_;have p170 : 0 ≤ (1 : Int) := (by omega);have q170 : 1 < ((rd_L3 t158 1).length : Int) := of_decide_eq_true au3;obtain ⟨ad170,e170,hx170_0,hx170_1⟩ := at_T35 (by repeat (first | (with_reducible exact HR169_0.out) | (with_reducible refine Kd.C_alloc ?_ _) | (with_reducible refine Kd.C_drewN ?_ _) | (with_reducible refine Kd.C_drew ?_) | exact HR169_0.out)) 1 p170 q170;cases e170;(try simp only [show (1 : Int).toNat = 1 from rfl,Nat.reduceMul,Nat.reduceEqDiff,Go.Addr.add,↓reduceIte] at hx170_0);(try simp only [show (1 : Int).toNat = 1 from rfl,Nat.reduceMul,Nat.reduceEqDiff,Go.Addr.add,↓reduceIte] at hx170_1);have qi170 : (1 < (rd_L3 t158 1).length) = True := eq_true (by omega);(try rw [show ((1 : Int)).toNat = 1 from rfl] at hx170_0);(try rw [show 1 * 2 = 2 from rfl] at hx170_0);(try rw [show ((1 : Int)).toNat = 1 from rfl] at hx170_1);(try rw [show 1 * 2 = 2 from rfl] at hx170_1);replace p170 := eq_true p170;replace q170 := eq_true q170))
                go_ret
                exact ⟨au2,by repeat (first | (with_reducible first | exact HB.out | apply below_alloc | apply pw_below_drewN | apply below_drew1 | refine below_set ?_ GE156.out | refine below_set ?_ GE163.out) | exact HB.out)⟩
                rename_i hx_
                exfalso
                apply hx_
                have h1_ := hc18
                rw [Bool.and_eq_true] at h1_
                exact ⟨by simpa using h1_.1,by simpa using h1_.2⟩
               ·rw [if_neg c18] at H
                have c18b0 : ((((rd_T35 (rd_L3 t158 1) 1).f0).toList) == ([] : List UInt8) && (((rd_T35 (rd_L3 t158 1) 1).f1) == 0)) = false := by simpa using c18
                (try (have c18b1 : decide ((((rd_T35 (rd_L3 t158 1) 1).f0).toList) = ([] : List UInt8) && (((rd_T35 (rd_L3 t158 1) 1).f1) == 0)) = false := by simpa using c18))
                (try (have c18b2 : ((((rd_T35 (rd_L3 t158 1) 1).f0).toList) == ([] : List UInt8) && (((rd_T35 (rd_L3 t158 1) 1).f1) == 0)) = false := by simpa using c18))
                (try (have c18b3 : ¬ ((((rd_T35 (rd_L3 t158 1) 1).f0).toList) = ([] : List UInt8) && (((rd_T35 (rd_L3 t158 1) 1).f1) == 0)) := by simpa using c18))
                clear c18
                obtain rfl := Option.some.inj H
                cases hr_
              ·rw [if_neg c17] at H
               exact absurd H (by simp)
             ·rw [if_neg c16] at H
              have c16b0 : (((rd_L3 t158 1).length : Int) == 2) = false := beq_eq_false_iff_ne.mpr c16
              have c16b1 : (((rd_L3 t158 1).length : Int) != 2) = true := bne_iff_ne.mpr c16
              obtain rfl := Option.some.inj H
              cases hr_
            ·rw [if_neg c15] at H
             exact absurd H (by simp)
           ·rw [if_neg c14] at H
            have c14b0 : (((rd_L3 t158 0).length : Int) == 1) = false := beq_eq_false_iff_ne.mpr c14
            have c14b1 : (((rd_L3 t158 0).length : Int) != 1) = true := bne_iff_ne.mpr c14
            obtain rfl := Option.some.inj H
            cases hr_
          ·rw [if_neg c13] at H
           exact absurd H (by simp)
         ·rw [if_neg c12] at H
          have c12b0 : ((t158.length : Int) == 3) = false := beq_eq_false_iff_ne.mpr c12
          have c12b1 : ((t158.length : Int) != 3) = true := bne_iff_ne.mpr c12
          obtain rfl := Option.some.inj H
          cases hr_
        ·rw [if_neg c11] at H
         have c11b0 : (t154 == 0 && (t155 == 3)) = false := by simpa using c11
         (try (have c11b1 : decide (t154 = 0 && (t155 == 3)) = false := by simpa using c11))
         (try (have c11b2 : (t154 == 0 && (t155 == 3)) = false := by simpa using c11))
         (try (have c11b3 : ¬ (t154 = 0 && (t155 == 3)) := by simpa using c11))
         clear c11
         obtain rfl := Option.some.inj H
         cases hr_
       ·rw [if_neg c10] at H
        have c10b0 : ((((rd_T35 (rd_L3 t151 0) 2).f0).toList) == ([97] : List UInt8) && (((rd_T35 (rd_L3 t151 0) 2).f1) == 1)) = false := by simpa using c10
        (try (have c10b1 : decide ((((rd_T35 (rd_L3 t151 0) 2).f0).toList) = ([97] : List UInt8) && (((rd_T35 (rd_L3 t151 0) 2).f1) == 1)) = false := by simpa using c10))
        (try (have c10b2 : ((((rd_T35 (rd_L3 t151 0) 2).f0).toList) == ([97] : List UInt8) && (((rd_T35 (rd_L3 t151 0) 2).f1) == 1)) = false := by simpa using c10))
        (try (have c10b3 : ¬ ((((rd_T35 (rd_L3 t151 0) 2).f0).toList) = ([97] : List UInt8) && (((rd_T35 (rd_L3 t151 0) 2).f1) == 1)) := by simpa using c10))
        clear c10
        obtain rfl := Option.some.inj H
        cases hr_
      ·rw [if_neg c9] at H
       exact absurd H (by simp)
     ·rw [if_neg c8] at H
      have c8b0 : (((rd_L3 t151 0).length : Int) == 4) = false := beq_eq_false_iff_ne.mpr c8
      have c8b1 : (((rd_L3 t151 0).length : Int) != 4) = true := bne_iff_ne.mpr c8
      obtain rfl := Option.some.inj H
      cases hr_
    ·rw [if_neg c7] at H
     exact absurd H (by simp)
   ·rw [if_neg c6] at H
    have c6b0 : ((t151.length : Int) == 1) = false := beq_eq_false_iff_ne.mpr c6
    have c6b1 : ((t151.length : Int) != 1) = true := bne_iff_ne.mpr c6
    obtain rfl := Option.some.inj H
    cases hr_
  ·rw [if_neg c5] at H
   have c5b0 : (t150 == 5) = false := beq_eq_false_iff_ne.mpr c5
   have c5b1 : (t150 != 5) = true := bne_iff_ne.mpr c5
   obtain rfl := Option.some.inj H
   cases hr_
 ·rw [if_neg c2] at H
  have c2b0 : (t149 == 1) = false := beq_eq_false_iff_ne.mpr c2
  have c2b1 : (t149 != 1) = true := bne_iff_ne.mpr c2
  obtain rfl := Option.some.inj H
  cases hr_
end Go.Proofs.YtnpjaaldppemlaaDoor.U
end
section
namespace Go.Proofs.YtnpjaaldppemlaaDoor.U
open Go.RowKit Go.Proofs.YtnpjaaldppemlaaDoorW.PrintWords Go.Proofs.YtnpjaaldppemlaaDoorW.PrintLast Go.Proofs.YtnpjaaldppemlaaDoorW.PrintMore
attribute [local go_sem] max2_int min2_int max_two min_two max_three min_three max_four min_four   -- for this text's walks alone
set_option linter.unusedVariables false
set_option linter.unusedSimpArgs false
mutual
def bodkinlaw20_LayoutPlaces.l0 : Nat → List (S27) → List (S27) → List (S27) → Int → ByteArray → ByteArray → Int → Int → Option (Bool)
 | 0,_,_,_,_,_,_,_,_ => none
 | k + 1,x3,x4,x5,x6,x364000,x364001,x364002,x364003 => if x6 < (x4.length : Int) then (if 0 ≤ x6 then (bodkinlaw20_LayoutPlaces.l0 k x3 (x4.set (x6 : Int).toNat (⟨(-1),0⟩ : S27)) x5 (wrap64 (x6 + 1)) x364000 x364001 x364002 x364003) else (none)) else (bodkinlaw20_LayoutPlaces.l1 k x3 x4 x5 0 x364000 x364001 x364002 x364003)
def bodkinlaw20_LayoutPlaces.l1 : Nat → List (S27) → List (S27) → List (S27) → Int → ByteArray → ByteArray → Int → Int → Option (Bool)
 | 0,_,_,_,_,_,_,_,_ => none
 | k + 1,x3,x4,x5,x7,x364000,x364001,x364002,x364003 => if x7 < 9 then (if x4.length < 8796093022208 then (bodkinlaw20_LayoutPlaces.l1 k x3 (x4 ++ [(⟨(-2),0⟩ : S27)]) x5 (wrap64 (x7 + 1)) x364000 x364001 x364002 x364003) else (none)) else ((bodkinref20_SamePlaces.f k x5 x3).bind fun t379 => (if t379 = true then ((layout_Places.f x364000 x364001 x364003).bind fun t380 => ((bodkinref20_SamePlaces.f k t380 x3).bind fun t383 => (some t383))) else (some false)))
end
def bodkinlaw20_LayoutPlaces.f (k : Nat) (a0_0 : ByteArray) (a0_1 : ByteArray) (a0_2 : Int) (a0_3 : Int) : Option (Bool) := (bodkinlaw20_awake.f k).bind fun t364 => (if t364 = true then ((bodkinref20_Places.f a0_0 a0_1 a0_3).bind fun t365 => ((layout_Places.f a0_0 a0_1 a0_3).bind fun t368 => ((layout_Places.f a0_0 a0_1 a0_3).bind fun t371 => ((bodkinref20_SamePlaces.f k t368 t365).bind fun t374 => (if t374 = true then (bodkinlaw20_LayoutPlaces.l0 k t365 t368 t371 0 a0_0 a0_1 a0_2 a0_3) else (some false)))))) else (some false))
set_option maxHeartbeats 8000000 in
set_option maxRecDepth 100000 in
theorem bodkinlaw20_LayoutPlaces.calls (k : Nat) (a0_0 : ByteArray) (a0_1 : ByteArray) (a0_2 : Int) (a0_3 : Int) (r : Bool) (hr_ : r = true) (w : World) (hT : Lib.Utf8Tabs 0 1 w) (h : bodkinlaw20_LayoutPlaces.f k a0_0 a0_1 a0_2 a0_3 = some r) :
  Calls Tryd.prog 6 #[.agg #[.string a0_0,.string a0_1,.int .i64 a0_2,.int .i64 a0_3]] w fun e w' => e = .returned (.bool r) ∧ Below w.heap.size w w' := by
 have hu23 := Tryd.underlying23
 have hu27 := Tryd.underlying27
 have HT := Aside0.mk hT
 clear hT
 have HB := Aside0.mk (Below.refl w.heap.size w)
 have H : ((bodkinlaw20_awake.f k).bind fun t364 => (if t364 = true then ((bodkinref20_Places.f a0_0 a0_1 a0_3).bind fun t365 => ((layout_Places.f a0_0 a0_1 a0_3).bind fun t368 => ((layout_Places.f a0_0 a0_1 a0_3).bind fun t371 => ((bodkinref20_SamePlaces.f k t368 t365).bind fun t374 => (if t374 = true then (bodkinlaw20_LayoutPlaces.l0 k t365 t368 t371 0 a0_0 a0_1 a0_2 a0_3) else (some false)))))) else (some false))) = some r := h
 clear h
 replace H := Option.bind_eq_some_iff.mp H
 obtain ⟨t364,A20,H⟩ := H
 replace H : (if t364 = true then ((bodkinref20_Places.f a0_0 a0_1 a0_3).bind fun t365 => ((layout_Places.f a0_0 a0_1 a0_3).bind fun t368 => ((layout_Places.f a0_0 a0_1 a0_3).bind fun t371 => ((bodkinref20_SamePlaces.f k t368 t365).bind fun t374 => (if t374 = true then (bodkinlaw20_LayoutPlaces.l0 k t365 t368 t371 0 a0_0 a0_1 a0_2 a0_3) else (some false)))))) else (some false)) = some r := H
 have A2 := Aside0.mk A20
 clear A20
 by_cases c3 : t364 = true
 ·subst c3
  have H1 : ((bodkinref20_Places.f a0_0 a0_1 a0_3).bind fun t365 => ((layout_Places.f a0_0 a0_1 a0_3).bind fun t368 => ((layout_Places.f a0_0 a0_1 a0_3).bind fun t371 => ((bodkinref20_SamePlaces.f k t368 t365).bind fun t374 => (if t374 = true then (bodkinlaw20_LayoutPlaces.l0 k t365 t368 t371 0 a0_0 a0_1 a0_2 a0_3) else (some false)))))) = some r := by rw [if_pos rfl] at H;exact H
  clear H
  have H := H1
  clear H1
  replace H := Option.bind_eq_some_iff.mp H
  obtain ⟨t365,A40,H⟩ := H
  replace H : ((layout_Places.f a0_0 a0_1 a0_3).bind fun t368 => ((layout_Places.f a0_0 a0_1 a0_3).bind fun t371 => ((bodkinref20_SamePlaces.f k t368 t365).bind fun t374 => (if t374 = true then (bodkinlaw20_LayoutPlaces.l0 k t365 t368 t371 0 a0_0 a0_1 a0_2 a0_3) else (some false))))) = some r := H
  have A4 := Aside0.mk A40
  clear A40
  replace H := Option.bind_eq_some_iff.mp H
  obtain ⟨t368,A50,H⟩ := H
  replace H : ((layout_Places.f a0_0 a0_1 a0_3).bind fun t371 => ((bodkinref20_SamePlaces.f k t368 t365).bind fun t374 => (if t374 = true then (bodkinlaw20_LayoutPlaces.l0 k t365 t368 t371 0 a0_0 a0_1 a0_2 a0_3) else (some false)))) = some r := H
  have A5 := Aside0.mk A50
  clear A50
  replace H := Option.bind_eq_some_iff.mp H
  obtain ⟨t371,A60,H⟩ := H
  replace H : ((bodkinref20_SamePlaces.f k t368 t365).bind fun t374 => (if t374 = true then (bodkinlaw20_LayoutPlaces.l0 k t365 t368 t371 0 a0_0 a0_1 a0_2 a0_3) else (some false))) = some r := H
  have A6 := Aside0.mk A60
  clear A60
  replace H := Option.bind_eq_some_iff.mp H
  obtain ⟨t374,A70,H⟩ := H
  replace H : (if t374 = true then (bodkinlaw20_LayoutPlaces.l0 k t365 t368 t371 0 a0_0 a0_1 a0_2 a0_3) else (some false)) = some r := H
  have A7 := Aside0.mk A70
  clear A70
  by_cases c8 : t374 = true
  ·subst c8
   have H1 : (bodkinlaw20_LayoutPlaces.l0 k t365 t368 t371 0 a0_0 a0_1 a0_2 a0_3) = some r := by rw [if_pos rfl] at H;exact H
   clear H
   have H := H1
   clear H1
   have H' := Aside0.mk H
   clear H
   go_enter Tryd.func6,Tryd.ntmps6
   go_wp2_with (first | ((with_reducible refine gate_dst (N := 1) rfl ?_);refine box_event ?hg (N := 1) ?hd (cs := #[.string a0_0,.string a0_1,.int .i64 a0_2,.int .i64 a0_3]) (t := 23) ?hr ?_;(case hd => rfl);(case hg => rfl);(case hr => first | (go_simp;done) | (go_simp;rfl));intro gb363 hg w9 hbox hb;have n0_ := Aside0.mk (below_step au0 hb);have n1_ := Aside0.mk (hbox);have n2_ := Aside0.mk ((by rw [hg];exact (below_size au0) : w.heap.size ≤ gb363));have n3_ := Aside0.mk ((by rw [hg];exact (below_size au0) : w.heap.size ≤ gb363));clear HB;have HB := n0_;have BK363 := n1_;have GW363 := n2_;have GE363 := n3_;clear n0_ n1_ n2_ n3_;clear hb hbox hg) | ((with_reducible refine gate_callee (f := 12) rfl ?_);refine goesL_ (some 8) rfl rfl Tryd.func12 (by kernel_rfl) rfl #[] rfl au1 ?_;(with_reducible refine (bodkinlaw20_awake.calls k true rfl _ ?side1 A2.out).mono ?_);(case side1 => exact tabs_below HT.out au6);rintro e w10 ⟨rfl,hb⟩;refine ⟨_,rfl,?_⟩;have n0_ := Aside0.mk (blk_below (g := gb363) (o := .cells #[.string a0_0,.string a0_1,.int .i64 a0_2,.int .i64 a0_3] 23 (0,0)) au22 hb);have n1_ := Aside0.mk (below_step au6 hb);clear BK363;clear HB;have BK363 := n0_;have HB := n1_;clear n0_ n1_;(try clear hb);(try clear hb2);(try clear hk);(try clear hi);have hcz11_0 : w10.cell? ⟨gb363,0,none⟩ = some (.string a0_0) := (blk_cell BK363.out 0).trans rfl;have hcz11_1 : w10.cell? ⟨gb363,1,none⟩ = some (.string a0_1) := (blk_cell BK363.out 1).trans rfl;have hcz11_2 : w10.cell? ⟨gb363,2,none⟩ = some (.int .i64 a0_2) := (blk_cell BK363.out 2).trans rfl;have hcz11_3 : w10.cell? ⟨gb363,3,none⟩ = some (.int .i64 a0_3) := (blk_cell BK363.out 3).trans rfl;have hfz11_0 := blk_frozen BK363.out 0;have hfz11_1 := blk_frozen BK363.out 1;have hfz11_2 := blk_frozen BK363.out 2;have hfz11_3 := blk_frozen BK363.out 3) | ((with_reducible refine gate_callee (f := 24) rfl ?_);refine goesL_ (some 16) rfl rfl Tryd.func24 (by kernel_rfl) rfl #[.string a0_0,.string a0_1,.int .i64 a0_3] rfl au1 ?_;(with_reducible refine (bodkinref20_Places.calls a0_0 a0_1 a0_3 t365 _ A4.out).mono ?_);rintro e w12 ⟨v366,rfl,ho0,hb⟩;refine ⟨_,rfl,?_⟩;have n0_ := Aside0.mk (Kd.R_lower ho0 (below_size au6));have n1_ := Aside0.mk (blk_below (g := gb363) (o := .cells #[.string a0_0,.string a0_1,.int .i64 a0_2,.int .i64 a0_3] 23 (0,0)) au22 hb);have n2_ := Aside0.mk (below_step au6 hb);clear BK363;clear HB;have HO367 := n0_;have BK363 := n1_;have HB := n2_;clear n0_ n1_ n2_;(try clear hb);(try clear hb2);(try clear hk);(try clear hi);(try clear ho0);have hcz13_0 : w12.cell? ⟨gb363,0,none⟩ = some (.string a0_0) := (blk_cell BK363.out 0).trans rfl;have hcz13_1 : w12.cell? ⟨gb363,1,none⟩ = some (.string a0_1) := (blk_cell BK363.out 1).trans rfl;have hcz13_2 : w12.cell? ⟨gb363,2,none⟩ = some (.int .i64 a0_2) := (blk_cell BK363.out 2).trans rfl;have hcz13_3 : w12.cell? ⟨gb363,3,none⟩ = some (.int .i64 a0_3) := (blk_cell BK363.out 3).trans rfl;have hfz13_0 := blk_frozen BK363.out 0;have hfz13_1 := blk_frozen BK363.out 1;have hfz13_2 := blk_frozen BK363.out 2;have hfz13_3 := blk_frozen BK363.out 3) | ((with_reducible refine gate_callee (f := 25) rfl ?_);refine goesL_ (some 23) rfl rfl Tryd.func25 (by kernel_rfl) rfl #[.string a0_0,.string a0_1,.int .i64 a0_3] rfl au1 ?_;(with_reducible refine (layout_Places.calls a0_0 a0_1 a0_3 t368 _ ?side1 A5.out).mono ?_);(case side1 => exact tabs_below HT.out au6);rintro e w14 ⟨v369,rfl,ho0,hb⟩;refine ⟨_,rfl,?_⟩;have n0_ := Aside0.mk (Kd.R_elder' (by (with_reducible repeat (first | apply Kd.R_alloc | apply Kd.R_drewN | apply Kd.R_drew));exact HO367.out) (Kd.R_base ho0) hb);have n1_ := Aside0.mk (Kd.R_lower (Kd.R_new' ho0 (Kd.R_lt (by (with_reducible repeat (first | apply Kd.R_alloc | apply Kd.R_drewN | apply Kd.R_drew));exact HO367.out))) (below_size au6));have n2_ := Aside0.mk (blk_below (g := gb363) (o := .cells #[.string a0_0,.string a0_1,.int .i64 a0_2,.int .i64 a0_3] 23 (0,0)) au22 hb);have n3_ := Aside0.mk (below_step au6 hb);clear HO367;clear BK363;clear HB;have HO367 := n0_;have HO370 := n1_;have BK363 := n2_;have HB := n3_;clear n0_ n1_ n2_ n3_;(try clear hb);(try clear hb2);(try clear hk);(try clear hi);(try clear ho0);have hcz15_0 : w14.cell? ⟨gb363,0,none⟩ = some (.string a0_0) := (blk_cell BK363.out 0).trans rfl;have hcz15_1 : w14.cell? ⟨gb363,1,none⟩ = some (.string a0_1) := (blk_cell BK363.out 1).trans rfl;have hcz15_2 : w14.cell? ⟨gb363,2,none⟩ = some (.int .i64 a0_2) := (blk_cell BK363.out 2).trans rfl;have hcz15_3 : w14.cell? ⟨gb363,3,none⟩ = some (.int .i64 a0_3) := (blk_cell BK363.out 3).trans rfl;have hfz15_0 := blk_frozen BK363.out 0;have hfz15_1 := blk_frozen BK363.out 1;have hfz15_2 := blk_frozen BK363.out 2;have hfz15_3 := blk_frozen BK363.out 3) | ((with_reducible refine gate_callee (f := 25) rfl ?_);refine goesL_ (some 30) rfl rfl Tryd.func25 (by kernel_rfl) rfl #[.string a0_0,.string a0_1,.int .i64 a0_3] rfl au1 ?_;(with_reducible refine (layout_Places.calls a0_0 a0_1 a0_3 t371 _ ?side1 A6.out).mono ?_);(case side1 => exact tabs_below HT.out au6);rintro e w16 ⟨v372,rfl,ho0,hb⟩;refine ⟨_,rfl,?_⟩;have n0_ := Aside0.mk (Kd.R_elder' (by (with_reducible repeat (first | apply Kd.R_alloc | apply Kd.R_drewN | apply Kd.R_drew));exact HO367.out) (Kd.R_base ho0) hb);have n1_ := Aside0.mk (Kd.R_elder' (by (with_reducible repeat (first | apply Kd.R_alloc | apply Kd.R_drewN | apply Kd.R_drew));exact HO370.out) (Kd.R_base ho0) hb);have n2_ := Aside0.mk (Kd.R_lower (Kd.R_new' (Kd.R_new' ho0 (Kd.R_lt (by (with_reducible repeat (first | apply Kd.R_alloc | apply Kd.R_drewN | apply Kd.R_drew));exact HO367.out))) (Kd.R_lt (by (with_reducible repeat (first | apply Kd.R_alloc | apply Kd.R_drewN | apply Kd.R_drew));exact HO370.out))) (below_size au6));have n3_ := Aside0.mk (blk_below (g := gb363) (o := .cells #[.string a0_0,.string a0_1,.int .i64 a0_2,.int .i64 a0_3] 23 (0,0)) au22 hb);have n4_ := Aside0.mk (below_step au6 hb);clear HO367;clear HO370;clear BK363;clear HB;have HO367 := n0_;have HO370 := n1_;have HO373 := n2_;have BK363 := n3_;have HB := n4_;clear n0_ n1_ n2_ n3_ n4_;(try clear hb);(try clear hb2);(try clear hk);(try clear hi);(try clear ho0);obtain ⟨Ao17,co17,eo17⟩ := Kd.R_slice HO370.out;subst eo17;obtain ⟨Ao18,co18,eo18⟩ := Kd.R_slice HO367.out;subst eo18) | ((with_reducible refine gate_callee (f := 26) rfl ?_);refine goesL_ (some 33) rfl rfl Tryd.func26 (by kernel_rfl) rfl #[.slice Ao17 t368.length co17,.slice Ao18 t365.length co18] rfl au1 ?_;(with_reducible refine (bodkinref20_SamePlaces.calls k _ _ t368 _ _ t365 true _ ?side1 ?side2 ?side3 ?side4 A7.out).mono ?_);(case side1 => repeat (first | exact (Kd.R_reads' HO370.out).2.2 | (with_reducible refine Kd.C_alloc ?_ _) | (with_reducible refine Kd.C_drewN ?_ _) | (with_reducible refine Kd.C_drew ?_)));(case side2 => exact (Kd.R_reads' HO370.out).2.1);(case side3 => repeat (first | exact (Kd.R_reads' HO367.out).2.2 | (with_reducible refine Kd.C_alloc ?_ _) | (with_reducible refine Kd.C_drewN ?_ _) | (with_reducible refine Kd.C_drew ?_)));(case side4 => exact (Kd.R_reads' HO367.out).2.1);rintro e w' ⟨rfl,⟨nd,rfl⟩⟩;refine ⟨_,rfl,?_⟩))
   go_loopg [6] k (fun kq v6 w' => ∃ (x4_1 : List (S27)) (x6_1 : Int),v6 = .int .i64 x6_1 ∧ Aside0 (bodkinlaw20_LayoutPlaces.l0 kq t365 x4_1 t371 x6_1 a0_0 a0_1 a0_2 a0_3 = some r) ∧ Aside0 (kq ≤ k) ∧ Aside0 (Kd.R k27 27 w' w.heap.size (fun k_ => some k_ ≠ ((.slice Ao17 t368.length co17) : Value).ownBlock ∧ some k_ ≠ (v372 : Value).ownBlock) (.slice Ao18 t365.length co18) t365) ∧ Aside0 (Kd.R k27 27 w' w.heap.size (fun k_ => some k_ ≠ ((.slice Ao18 t365.length co18) : Value).ownBlock ∧ some k_ ≠ (v372 : Value).ownBlock) (.slice Ao17 t368.length co17) x4_1) ∧ Aside0 (Kd.R k27 27 w' w.heap.size (fun k_ => some k_ ≠ ((.slice Ao18 t365.length co18) : Value).ownBlock ∧ some k_ ≠ ((.slice Ao17 t368.length co17) : Value).ownBlock) v372 t371) ∧ Aside0 (w'.heap[gb363]? = some (.cells #[.string a0_0,.string a0_1,.int .i64 a0_2,.int .i64 a0_3] 23 (0,0))) ∧ Aside0 (Below w.heap.size w w'))
   case atStart => exact ⟨(t368),(0),au4,H',⟨Nat.le_refl _⟩,⟨by (with_reducible repeat (first | apply Kd.R_alloc | apply Kd.R_drewN | apply Kd.R_drew));exact Kd.R_mono HO367.out (fun _ hk => ⟨hk.1.2,hk.2⟩)⟩,⟨by (with_reducible repeat (first | apply Kd.R_alloc | apply Kd.R_drewN | apply Kd.R_drew));exact Kd.R_mono HO370.out (fun _ hk => ⟨hk.1.2,hk.2⟩)⟩,⟨by (with_reducible repeat (first | apply Kd.R_alloc | apply Kd.R_drewN | apply Kd.R_drew));exact Kd.R_mono HO373.out (fun _ hk => ⟨hk.1.2,hk.2⟩)⟩,⟨by (with_reducible repeat (first | refine blk_drewN ?_ _ | refine blk_drew ?_ | refine blk_alloc ?_ _));exact BK363.out⟩,⟨by repeat (first | (with_reducible first | exact HB.out | apply below_alloc | apply pw_below_drewN | apply below_drew1 | refine below_set ?_ GE363.out) | exact HB.out)⟩⟩
   case round =>
    clear H'
    try clear c1
    try clear c2
    try clear p2
    try clear c3
    try clear c6
    try clear c8
    try clear c12
    try clear hcz11_0
    try clear hcz11_1
    try clear hcz11_2
    try clear hcz11_3
    try clear hcz13_0
    try clear hcz13_1
    try clear hcz13_2
    try clear hcz13_3
    try clear hcz15_0
    try clear hcz15_1
    try clear hcz15_2
    try clear hcz15_3
    try clear hfz11_0
    try clear hfz11_1
    try clear hfz11_2
    try clear hfz11_3
    try clear hfz13_0
    try clear hfz13_1
    try clear hfz13_2
    try clear hfz13_3
    try clear hfz15_0
    try clear hfz15_1
    try clear hfz15_2
    try clear hfz15_3
    obtain ⟨x4_1,x6_1,rfl,HA,HK1,HO_3,HO_4,HO_5,BK363,HB⟩ := hrel
    have hl4_1 := (Kd.R_reads' HO_4.out).1
    rw [hl4_1] at HO_4
    (try simp only [hl4_1])
    (try simp only [hl4_1] at BK363)
    (try simp only [hl4_1] at HO_3)
    (try simp only [hl4_1] at HO_5)
    cases gk with
    | zero => exact absurd HA.out (by simp [bodkinlaw20_LayoutPlaces.l0])
    | succ k1 =>
     have H := HA.out
     clear HA
     simp only [bodkinlaw20_LayoutPlaces.l0] at H
     by_cases c19 : x6_1 < (x4_1.length : Int)
     ·rw [if_pos c19] at H
      have c19b0 : decide (x6_1 < (x4_1.length : Int)) = true := decide_eq_true c19
      clear c19
      by_cases c20 : 0 ≤ x6_1
      ·rw [if_pos c20] at H
       have c20b0 : decide (0 ≤ x6_1) = true := decide_eq_true c20
       clear c20
       obtain ⟨y375,hy375⟩ : ∃ y_ : List (S27),y_ = (x4_1.set (x6_1 : Int).toNat (⟨(-1),0⟩ : S27)) := ⟨_,rfl⟩
       replace H : (bodkinlaw20_LayoutPlaces.l0 k1 t365 y375 t371 (wrap64 (x6_1 + 1)) a0_0 a0_1 a0_2 a0_3) = some r := by first | (rw [hy375];with_reducible exact H) | (have H2_ := (Option.bind_some _ _).symm.trans H;rw [hy375];with_reducible exact H2_) | (have H2_ := (Option.bind_some _ _).symm.trans H;with_reducible exact H2_) | with_reducible exact H | (rw [hy375];exact H) | exact H
       have Ny375 := Aside0.mk hy375
       clear hy375
       have H' := Aside0.mk H
       clear H
       have p21 : 0 ≤ (x6_1 : Int) := of_decide_eq_true au3
       have q21 : (x6_1 : Int) < ((x4_1.length : Int) : Int) := of_decide_eq_true au3
       obtain ⟨go21,co21,eo21,gb21,gl21,cl21,HG21⟩ := Kd.R_form HO_4.out (by omega)
       (first | cases eo21 | (injection eo21 with ea_ en_ ec_;(first | subst ea_ | (injection ea_ with ea_;subst ea_));subst ec_;clear en_))
       have GB21 := Aside0.mk gb21
       have GG21 := Aside0.mk HG21
       clear gb21 gl21 HG21
       obtain ⟨ce21,hcl21,hM21,hcc21,hfr21⟩ := Kd.R_elem HO_4.out z27 (x6_1 : Int) p21 q21
       obtain rfl := k27_openM hM21
       have hx21_0 : wr.cell? ⟨go21,(x6_1 : Int).toNat * 2,none⟩ = some (.int .i64 ((rd_T27 x4_1 x6_1).f0)) := hcc21 0 _ rfl
       have hx21_1 : wr.cell? ⟨go21,(x6_1 : Int).toNat * 2 + 1,none⟩ = some (.int .i64 ((rd_T27 x4_1 x6_1).f1)) := hcc21 1 _ rfl
       have hf21_0 : wr.frozen? ⟨go21,(x6_1 : Int).toNat * 2,none⟩ = false := hfr21 0
       have hf21_1 : wr.frozen? ⟨go21,(x6_1 : Int).toNat * 2 + 1,none⟩ = false := hfr21 1
       clear hcl21 hcc21 hfr21 hM21
       replace p21 := eq_true p21
       replace q21 := eq_true q21
       have HX22 := Aside0.mk (show Kd.R k27 27 wr w.heap.size (fun k_ => some k_ ≠ (.slice Ao18 t365.length co18 : Value).ownBlock ∧ some k_ ≠ (v372 : Value).ownBlock) (.slice (some ⟨go21,0,none⟩) x4_1.length co17) x4_1 from au10)
       obtain ⟨ce22,hcl22,hM22,hcc22,hfr22⟩ := Kd.R_elem HX22.out z27 (x6_1 : Int) (of_decide_eq_true au3) (by have h_ : (x6_1 : Int) < ((x4_1.length : Int) : Int) := of_decide_eq_true au3;first | exact h_ | (have e_ := (Kd.R_reads' HO_4.out).1;omega) | simpa using h_)
       obtain rfl := k27_openM hM22
       have HP22 := Kd.R_seg HX22.out (x6_1 : Int) (of_decide_eq_true au3) (by have h_ : (x6_1 : Int) < ((x4_1.length : Int) : Int) := of_decide_eq_true au3;first | exact h_ | (have e_ := (Kd.R_reads' HO_4.out).1;omega) | simpa using h_) (seg := [.int .i64 (-1),.int .i64 0]) (j := 0) hcl22 hcc22 (show 2 ≤ 2 from by decide) (x' := (⟨(-1),0⟩ : S27)) (k27_mkM _ _ _ (⟨(-1),0⟩ : S27) ) (fun _ hk => hk)
       have hx22_0 := hcc22 0 _ rfl
       (try simp only [show (k27).sz = 2 from rfl,Nat.mul_one,Nat.add_zero] at hx22_0)
       have hf22_0 := hfr22 0
       (try simp only [show (k27).sz = 2 from rfl,Nat.mul_one,Nat.add_zero] at hf22_0)
       have hx22_1 := hcc22 1 _ rfl
       (try simp only [show (k27).sz = 2 from rfl,Nat.mul_one,Nat.add_zero] at hx22_1)
       have hf22_1 := hfr22 1
       (try simp only [show (k27).sz = 2 from rfl,Nat.mul_one,Nat.add_zero] at hf22_1)
       clear hcl22 hcc22 hfr22 hM22
       go_wp2_with (first | ((with_reducible refine gate_store (t := 27) (p := 44) rfl ?_);refine store_event (t := 27) (p := 44) (v := ?vo_w23) (w1 := ((wr.setCell ⟨go21,(x6_1 : Int).toNat * 2,none⟩ (.int .i64 (-1))).setCell ⟨go21,(x6_1 : Int).toNat * 2 + 1,none⟩ (.int .i64 0))) ?hg ?ho ?hn ?hr ?_;(case ho => rfl);(case hg => rfl);(case hn => rfl);(case hr => first | (go_simp;done) | (go_simp;rfl));intro w23 hw;have hg : wr.grownBy w23 (some go21) := (by rw [hw];exact HP22.2);have hp_ : Kd.R k27 27 w23 w.heap.size (fun k_ => some k_ ≠ (.slice Ao18 t365.length co18 : Value).ownBlock ∧ some k_ ≠ (v372 : Value).ownBlock) (.slice (some ⟨go21,0,none⟩) x4_1.length co17) y375 := (by rw [hw,Ny375.out];exact HP22.1);clear HP22;have n0_ := Aside0.mk (Kd.R_after (v := (.slice (some ⟨go21,0,none⟩) x4_1.length co17)) (v1 := (.slice (some ⟨go21,0,none⟩) x4_1.length co17)) (ok := (fun k_ => some k_ ≠ (v372 : Value).ownBlock)) (by (with_reducible repeat (first | apply Kd.R_alloc | apply Kd.R_drewN | apply Kd.R_drew));exact Kd.R_mono HO_3.out (fun _ hk => ⟨hk.2,hk.1⟩)) hg (.inl rfl));have n1_ := Aside0.mk (hp_);have n2_ := Aside0.mk (Kd.R_after (v := (.slice (some ⟨go21,0,none⟩) x4_1.length co17)) (v1 := (.slice (some ⟨go21,0,none⟩) x4_1.length co17)) (ok := (fun k_ => some k_ ≠ (.slice Ao18 t365.length co18 : Value).ownBlock)) au33 hg (.inl rfl));have n3_ := Aside0.mk (blk_grown (g := gb363) (o := .cells #[.string a0_0,.string a0_1,.int .i64 a0_2,.int .i64 a0_3] 23 (0,0)) au22 hg (Kd.R_ne HO_4.out BK363.out (by decide)));have n4_ := Aside0.mk ((by rw [hw];exact below_set (below_set (HB.out) GB21.out) GB21.out : Below w.heap.size w w23));clear HO_3;clear HO_4;clear HO_5;clear BK363;clear HB;have HO_3 := n0_;have HO_4 := n1_;have HO_5 := n2_;have BK363 := n3_;have HB := n4_;clear n0_ n1_ n2_ n3_ n4_;clear hg hw hp_))
       (try simp only [← hl4_1])
       go_roundg k1
       case measure => have := HK1.out;omega
       case rel => exact ⟨(y375),(wrap64 (x6_1 + 1)),au4,H',⟨by have := HK1.out;omega⟩,⟨by (try simp only [hl4_1]);(with_reducible repeat (first | apply Kd.R_alloc | apply Kd.R_drewN | apply Kd.R_drew));exact Kd.R_mono HO_3.out (fun _ hk => ⟨hk.2,hk.1⟩)⟩,⟨by (try simp only [hl4_1]);(with_reducible repeat (first | apply Kd.R_alloc | apply Kd.R_drewN | apply Kd.R_drew));exact HO_4.out⟩,⟨by (try simp only [hl4_1]);(with_reducible repeat (first | apply Kd.R_alloc | apply Kd.R_drewN | apply Kd.R_drew));exact HO_5.out⟩,⟨by (try simp only [hl4_1]);(with_reducible repeat (first | refine blk_drewN ?_ _ | refine blk_drew ?_ | refine blk_alloc ?_ _));exact BK363.out⟩,⟨by repeat (first | (with_reducible first | exact HB.out | apply below_alloc | apply pw_below_drewN | apply below_drew1 | refine below_set ?_ GE363.out) | exact HB.out)⟩⟩
      ·rw [if_neg c20] at H
       exact absurd H (by simp)
     ·rw [if_neg c19] at H
      have c19b0 : decide (x6_1 < (x4_1.length : Int)) = false := decide_eq_false c19
      clear c19
      have H' := Aside0.mk H
      clear H
      go_wp2
      go_loopg [4,7] k1 (fun kq v4 v7 w' => ∃ (x4_2 : List (S27)) (x7_2 : Int),v7 = .int .i64 x7_2 ∧ Aside0 (bodkinlaw20_LayoutPlaces.l1 kq t365 x4_2 t371 x7_2 a0_0 a0_1 a0_2 a0_3 = some r) ∧ Aside0 (kq ≤ k1) ∧ Aside0 (Kd.R k27 27 w' w.heap.size (fun k_ => some k_ ≠ (v4 : Value).ownBlock ∧ some k_ ≠ (v372 : Value).ownBlock) (.slice Ao18 t365.length co18) t365) ∧ Aside0 (Kd.R k27 27 w' w.heap.size (fun k_ => some k_ ≠ ((.slice Ao18 t365.length co18) : Value).ownBlock ∧ some k_ ≠ (v372 : Value).ownBlock) v4 x4_2) ∧ Aside0 (Kd.R k27 27 w' w.heap.size (fun k_ => some k_ ≠ ((.slice Ao18 t365.length co18) : Value).ownBlock ∧ some k_ ≠ (v4 : Value).ownBlock) v372 t371) ∧ Aside0 (w'.heap[gb363]? = some (.cells #[.string a0_0,.string a0_1,.int .i64 a0_2,.int .i64 a0_3] 23 (0,0))) ∧ Aside0 (Below w.heap.size w w'))
      case atStart => exact ⟨(x4_1),(0),au4,H',⟨Nat.le_refl _⟩,⟨by (try simp only [hl4_1]);(with_reducible repeat (first | apply Kd.R_alloc | apply Kd.R_drewN | apply Kd.R_drew));exact HO_3.out⟩,⟨by (try simp only [hl4_1]);(with_reducible repeat (first | apply Kd.R_alloc | apply Kd.R_drewN | apply Kd.R_drew));exact HO_4.out⟩,⟨by (try simp only [hl4_1]);(with_reducible repeat (first | apply Kd.R_alloc | apply Kd.R_drewN | apply Kd.R_drew));exact HO_5.out⟩,⟨by (try simp only [hl4_1]);(with_reducible repeat (first | refine blk_drewN ?_ _ | refine blk_drew ?_ | refine blk_alloc ?_ _));exact BK363.out⟩,⟨by repeat (first | (with_reducible first | exact HB.out | apply below_alloc | apply pw_below_drewN | apply below_drew1 | refine below_set ?_ GE363.out) | exact HB.out)⟩⟩
      case round =>
       clear H'
       try clear c1
       try clear c2
       try clear p2
       try clear q2
       try clear hx2
       try clear hf2
       try clear c3
       try clear c6
       try clear p6
       try clear c8
       try clear c12
       try clear c19
       try clear c19b0
       try clear c20
       try clear c20b0
       try clear c21
       try clear p21
       try clear q21
       try clear hx21
       try clear hf21
       try clear c22
       try clear hx22
       try clear hf22
       try clear hcz11_0
       try clear hcz11_1
       try clear hcz11_2
       try clear hcz11_3
       try clear hcz13_0
       try clear hcz13_1
       try clear hcz13_2
       try clear hcz13_3
       try clear hcz15_0
       try clear hcz15_1
       try clear hcz15_2
       try clear hcz15_3
       try clear hfz11_0
       try clear hfz11_1
       try clear hfz11_2
       try clear hfz11_3
       try clear hfz13_0
       try clear hfz13_1
       try clear hfz13_2
       try clear hfz13_3
       try clear hfz15_0
       try clear hfz15_1
       try clear hfz15_2
       try clear hfz15_3
       try clear hx21_0
       try clear hx21_1
       try clear hx22_0
       try clear hx22_1
       try clear p2
       try clear p21
       try clear q21
       obtain ⟨x4_2,x7_2,rfl,HA,HK2,HO_3,HO_4,HO_5,BK363,HB⟩ := hrel
       cases gk with
       | zero => exact absurd HA.out (by simp [bodkinlaw20_LayoutPlaces.l1])
       | succ k2 =>
        have H := HA.out
        clear HA
        simp only [bodkinlaw20_LayoutPlaces.l1] at H
        by_cases c24 : x7_2 < 9
        ·rw [if_pos c24] at H
         have c24b0 : decide (x7_2 < 9) = true := decide_eq_true c24
         clear c24
         by_cases c25 : x4_2.length < 8796093022208
         ·rw [if_pos c25] at H
          have LMc25 := Aside0.mk c25
          clear c25
          obtain ⟨y376,hy376⟩ : ∃ y_ : List (S27),y_ = (x4_2 ++ [(⟨(-2),0⟩ : S27)]) := ⟨_,rfl⟩
          replace H : (bodkinlaw20_LayoutPlaces.l1 k2 t365 y376 t371 (wrap64 (x7_2 + 1)) a0_0 a0_1 a0_2 a0_3) = some r := by first | (rw [hy376];with_reducible exact H) | (have H2_ := (Option.bind_some _ _).symm.trans H;rw [hy376];with_reducible exact H2_) | (have H2_ := (Option.bind_some _ _).symm.trans H;with_reducible exact H2_) | with_reducible exact H | (rw [hy376];exact H) | exact H
          have Ny376 := Aside0.mk hy376
          clear hy376
          have H' := Aside0.mk H
          clear H
          go_wp2_with (first | ((with_reducible refine gate_builtin (b := .append) (xs := #[.tmp 49,.tmp 51]) rfl ?_);at_builtin;refine Kd.R_append k27 (w0 := w) w.heap.size rfl (.tmp 49) (.tmp 51) 43 27 (.agg #[(.int .i64 0),(.int .i64 0)]) 16 rfl Tryd.underlying43 info27 rfl (by decide) (by omega) u4 x4_2 (⟨(-2),0⟩ : S27) [.int .i64 (-2),.int .i64 0] (fun k_ => some k_ ≠ (.slice Ao18 t365.length co18 : Value).ownBlock ∧ some k_ ≠ (v372 : Value).ownBlock) (fun _ => False) rfl rfl ?aP (fun _ hk => hk.elim) ?aF ?aO ?aB ?aS ?aL ?_;(case aP => exact k27_mkM _ _ _ (⟨(-2),0⟩ : S27));(case aB => exact au6);(case aF => exact (fun k_ hk => ⟨Kd.fresh' (Kd.R_lt au7) k_ hk,Kd.fresh' (Kd.R_lt au33) k_ hk⟩));(case aO => exact au10);(case aS => exact (below_size au6));(case aL => have := LMc25.out;omega);intro v377 w26 ho hb hg hat;rw [← Ny376.out] at ho;have n0_ := Aside0.mk (Kd.R_after (ok := (fun k_ => some k_ ≠ (v372 : Value).ownBlock)) (by (with_reducible repeat (first | apply Kd.R_alloc | apply Kd.R_drewN | apply Kd.R_drew));exact Kd.R_mono HO_3.out (fun _ hk => ⟨hk.2,hk.1⟩)) hg hat);have n1_ := Aside0.mk (Kd.R_after (ok := (fun k_ => some k_ ≠ (.slice Ao18 t365.length co18 : Value).ownBlock)) au33 hg hat);have n2_ := Aside0.mk (blk_grown (g := gb363) (o := .cells #[.string a0_0,.string a0_1,.int .i64 a0_2,.int .i64 a0_3] 23 (0,0)) au22 hg (Kd.R_ne HO_4.out BK363.out (by decide)));have n3_ := Aside0.mk (hb);have n4_ := Aside0.mk (ho);clear HO_3;clear HO_5;clear BK363;clear HB;clear HO_4;have HO_3 := n0_;have HO_5 := n1_;have BK363 := n2_;have HB := n3_;have HO378 := n4_;clear n0_ n1_ n2_ n3_ n4_;clear ho hb hg hat))
          go_roundg k2
          case measure => have := HK1.out;have := HK2.out;omega
          case rel => exact ⟨(y376),(wrap64 (x7_2 + 1)),au4,H',⟨by have := HK1.out;have := HK2.out;omega⟩,⟨by (try simp only [hl4_1]);(with_reducible repeat (first | apply Kd.R_alloc | apply Kd.R_drewN | apply Kd.R_drew));exact Kd.R_mono HO_3.out (fun _ hk => ⟨hk.2,hk.1⟩)⟩,⟨by (try simp only [hl4_1]);(with_reducible repeat (first | apply Kd.R_alloc | apply Kd.R_drewN | apply Kd.R_drew));exact HO378.out⟩,⟨by (try simp only [hl4_1]);(with_reducible repeat (first | apply Kd.R_alloc | apply Kd.R_drewN | apply Kd.R_drew));exact HO_5.out⟩,⟨by (try simp only [hl4_1]);(with_reducible repeat (first | refine blk_drewN ?_ _ | refine blk_drew ?_ | refine blk_alloc ?_ _));exact BK363.out⟩,⟨by repeat (first | (with_reducible first | exact HB.out | apply below_alloc | apply pw_below_drewN | apply below_drew1 | refine below_set ?_ GE363.out) | exact HB.out)⟩⟩
         ·rw [if_neg c25] at H
          exact absurd H (by simp)
        ·rw [if_neg c24] at H
         have c24b0 : decide (x7_2 < 9) = false := decide_eq_false c24
         clear c24
         replace H := Option.bind_eq_some_iff.mp H
         obtain ⟨t379,A270,H⟩ := H
         replace H : (if t379 = true then ((layout_Places.f a0_0 a0_1 a0_3).bind fun t380 => ((bodkinref20_SamePlaces.f k2 t380 t365).bind fun t383 => (some t383))) else (some false)) = some r := H
         have A27 := Aside0.mk A270
         clear A270
         by_cases c28 : t379 = true
         ·subst c28
          have H1 : ((layout_Places.f a0_0 a0_1 a0_3).bind fun t380 => ((bodkinref20_SamePlaces.f k2 t380 t365).bind fun t383 => (some t383))) = some r := by rw [if_pos rfl] at H;exact H
          clear H
          have H := H1
          clear H1
          replace H := Option.bind_eq_some_iff.mp H
          obtain ⟨t380,A290,H⟩ := H
          replace H : ((bodkinref20_SamePlaces.f k2 t380 t365).bind fun t383 => (some t383)) = some r := H
          have A29 := Aside0.mk A290
          clear A290
          replace H := Option.bind_eq_some_iff.mp H
          obtain ⟨t383,A300,H⟩ := H
          replace H : (some t383) = some r := H
          have A30 := Aside0.mk A300
          clear A300
          obtain rfl := Option.some.inj H
          obtain ⟨Ao31,co31,eo31⟩ := Kd.R_slice HO_5.out
          subst eo31
          go_wp2_with (first | ((with_reducible refine gate_callee (f := 26) rfl ?_);refine goesL_ (some 55) rfl rfl Tryd.func26 (by kernel_rfl) rfl #[.slice Ao31 t371.length co31,.slice Ao18 t365.length co18] rfl au1 ?_;(with_reducible refine (bodkinref20_SamePlaces.calls k2 _ _ t371 _ _ t365 true _ ?side1 ?side2 ?side3 ?side4 A27.out).mono ?_);(case side1 => repeat (first | exact (Kd.R_reads' HO_5.out).2.2 | (with_reducible refine Kd.C_alloc ?_ _) | (with_reducible refine Kd.C_drewN ?_ _) | (with_reducible refine Kd.C_drew ?_)));(case side2 => exact (Kd.R_reads' HO_5.out).2.1);(case side3 => repeat (first | exact (Kd.R_reads' HO_3.out).2.2 | (with_reducible refine Kd.C_alloc ?_ _) | (with_reducible refine Kd.C_drewN ?_ _) | (with_reducible refine Kd.C_drew ?_)));(case side4 => exact (Kd.R_reads' HO_3.out).2.1);rintro e w' ⟨rfl,⟨nd,rfl⟩⟩;refine ⟨_,rfl,?_⟩;have hcz32_0 : wr.cell? ⟨gb363,0,none⟩ = some (.string a0_0) := (blk_cell BK363.out 0).trans rfl;have hcz32_1 : wr.cell? ⟨gb363,1,none⟩ = some (.string a0_1) := (blk_cell BK363.out 1).trans rfl;have hcz32_2 : wr.cell? ⟨gb363,2,none⟩ = some (.int .i64 a0_2) := (blk_cell BK363.out 2).trans rfl;have hcz32_3 : wr.cell? ⟨gb363,3,none⟩ = some (.int .i64 a0_3) := (blk_cell BK363.out 3).trans rfl;have hfz32_0 := blk_frozen BK363.out 0;have hfz32_1 := blk_frozen BK363.out 1;have hfz32_2 := blk_frozen BK363.out 2;have hfz32_3 := blk_frozen BK363.out 3) | (go_at_call 25;(with_reducible refine (layout_Places.calls a0_0 a0_1 a0_3 t380 _ ?side1 A29.out).mono ?_);(case side1 => exact tabs_below HT.out au6);rintro e w33 ⟨v381,rfl,ho0,hb⟩;have n0_ := Aside0.mk (Kd.R_elder' au7 (Kd.R_base ho0) hb);have n1_ := Aside0.mk (Kd.R_elder' au10 (Kd.R_base ho0) hb);have n2_ := Aside0.mk (Kd.R_elder' au33 (Kd.R_base ho0) hb);have n3_ := Aside0.mk (Kd.R_lower (Kd.R_new' (Kd.R_new' (Kd.R_new' ho0 (Kd.R_lt au7)) (Kd.R_lt au10)) (Kd.R_lt au33)) (below_size au6));have n4_ := Aside0.mk (blk_below (g := gb363) (o := .cells #[.string a0_0,.string a0_1,.int .i64 a0_2,.int .i64 a0_3] 23 (0,0)) au22 hb);have n5_ := Aside0.mk (below_step au6 hb);clear HO_3;clear HO_4;clear HO_5;clear BK363;clear HB;have HO_3 := n0_;have HO_4 := n1_;have HO_5 := n2_;have HO382 := n3_;have BK363 := n4_;have HB := n5_;clear n0_ n1_ n2_ n3_ n4_ n5_;(try clear hb);(try clear hb2);(try clear hk);(try clear hi);(try clear ho0);obtain ⟨Ao34,co34,eo34⟩ := Kd.R_slice HO382.out;subst eo34) | (go_at_call 26;(with_reducible refine (bodkinref20_SamePlaces.calls k2 _ _ t380 _ _ t365 t383 _ ?side1 ?side2 ?side3 ?side4 A30.out).mono ?_);(case side1 => repeat (first | exact (Kd.R_reads' HO382.out).2.2 | (with_reducible refine Kd.C_alloc ?_ _) | (with_reducible refine Kd.C_drewN ?_ _) | (with_reducible refine Kd.C_drew ?_)));(case side2 => exact (Kd.R_reads' HO382.out).2.1);(case side3 => repeat (first | exact (Kd.R_reads' HO_3.out).2.2 | (with_reducible refine Kd.C_alloc ?_ _) | (with_reducible refine Kd.C_drewN ?_ _) | (with_reducible refine Kd.C_drew ?_)));(case side4 => exact (Kd.R_reads' HO_3.out).2.1);rintro e w' ⟨rfl,⟨nd,rfl⟩⟩))
          go_ret
          exact ⟨au2,by repeat (first | (with_reducible first | exact HB.out | apply below_alloc | apply pw_below_drewN | apply below_drew1 | refine below_set ?_ GE363.out) | exact HB.out)⟩
         ·replace c28 := Bool.eq_false_iff.mpr c28
          subst c28
          have H1 : (some false) = some r := by rw [if_neg (show ¬ (false = true) by decide)] at H;exact H
          clear H
          have H := H1
          clear H1
          obtain rfl := Option.some.inj H
          cases hr_
  ·replace c8 := Bool.eq_false_iff.mpr c8
   subst c8
   have H1 : (some false) = some r := by rw [if_neg (show ¬ (false = true) by decide)] at H;exact H
   clear H
   have H := H1
   clear H1
   obtain rfl := Option.some.inj H
   cases hr_
 ·replace c3 := Bool.eq_false_iff.mpr c3
  subst c3
  have H1 : (some false) = some r := by rw [if_neg (show ¬ (false = true) by decide)] at H;exact H
  clear H
  have H := H1
  clear H1
  obtain rfl := Option.some.inj H
  cases hr_
end Go.Proofs.YtnpjaaldppemlaaDoor.U
end
section
namespace Go.Proofs.YtnpjaaldppemlaaDoor.Pu
open Go Go.RowKit Go.Proofs.YtnpjaaldppemlaaDoor.Mu Go.Proofs.YtnpjaaldppemlaaDoor.U Go.Proofs.YtnpjaaldppemlaaDoorW.PrintWords Go.Proofs.YtnpjaaldppemlaaDoorW.PrintLast Go.Proofs.YtnpjaaldppemlaaDoorW.PrintMore
set_option linter.unusedVariables false
theorem spl_loop (a : List S27) (ha : a.length ≤ 1099511627776) : ∀ n i : Nat,i + n = a.length → Ev (fun k => bodkinref20_SamePlaces.l0 k a a (i : Int)) true := by
 intro n
 induction n with
 | zero => intro i hi;exact Ev.step (fun k => bodkinref20_SamePlaces.l0.eq_2 ..) (ev_neg (by omega) (Ev.now _))
 | succ n ih =>
  intro i hi
  refine Ev.step (fun k => bodkinref20_SamePlaces.l0.eq_2 ..) (ev_pos (by omega) (ev_pos (by omega) (ev_pos (by omega) (ev_neg (by simp) ?_))))
  rw [w64 (by omega) (by omega)]
  exact ih (i + 1) (by omega)
theorem spl_ans (a : List S27) (ha : a.length ≤ 1099511627776) : Ev (fun k => bodkinref20_SamePlaces.f k a a) true := by
 unfold bodkinref20_SamePlaces.f
 exact ev_pos rfl (spl_loop a ha a.length 0 (by omega))
end Go.Proofs.YtnpjaaldppemlaaDoor.Pu
end
section
namespace Go.Proofs.YtnpjaaldppemlaaDoor.Pu
open Go Go.RowKit Go.Proofs.YtnpjaaldppemlaaDoor.Mu Go.Proofs.YtnpjaaldppemlaaDoor.U Go.Proofs.YtnpjaaldppemlaaDoorW.PrintWords Go.Proofs.YtnpjaaldppemlaaDoorW.PrintLast Go.Proofs.YtnpjaaldppemlaaDoorW.PrintMore
set_option linter.unusedVariables false
theorem awake20 : Ev (fun k => bodkinlaw20_awake.f k) true := Ev.of (fun k => bodkinlaw20_awake.mono k) (k := 200) (by kernel_rfl)
theorem pl_f (p t : ByteArray) (w : Int) (hp : p.size ≤ 34359738368) (ht : t.size ≤ 34359738368) : layout_Places.f p t w = some (placesL p t w) := by
 unfold layout_Places.f
 rw [if_pos ⟨hp,ht⟩]
theorem rpl_f (p t : ByteArray) (w : Int) (hp : p.size ≤ 34359738368) (ht : t.size ≤ 34359738368) : bodkinref20_Places.f p t w = some (placesL p t w) := by
 unfold bodkinref20_Places.f
 rw [if_pos ⟨hp,ht⟩]
theorem placesL_len (p t : ByteArray) (w : Int) : (placesL p t w).length = (clusL t).length + 1 := by unfold placesL;rw [List.length_cons,plsL_len]
end Go.Proofs.YtnpjaaldppemlaaDoor.Pu
end
section
namespace Go.Proofs.YtnpjaaldppemlaaDoor.Pure
open Go Go.RowKit Go.Proofs.YtnpjaaldppemlaaDoor.Mu Go.Proofs.YtnpjaaldppemlaaDoor.Pu Go.Proofs.YtnpjaaldppemlaaDoor.U Go.Proofs.YtnpjaaldppemlaaDoorW.PrintWords Go.Proofs.YtnpjaaldppemlaaDoorW.PrintLast Go.Proofs.YtnpjaaldppemlaaDoorW.PrintMore
set_option linter.unusedVariables false
theorem lpl_app (W : List S27) (hW : W.length ≤ 1099511627776) (p t : ByteArray) (c w : Int) (hf : layout_Places.f p t w = some W) : ∀ (n i : Nat) (X : List S27),i + n = 9 → X.length ≤ 1099511627776 + i → Ev (fun k => bodkinlaw20_LayoutPlaces.l1 k W X W (i : Int) p t c w) true := by
 intro n
 induction n with
 | zero =>
  intro i X hi hX
  exact Ev.step (fun k => bodkinlaw20_LayoutPlaces.l1.eq_2 ..) (ev_neg (by omega) (Ev.bind (spl_ans W hW) (ev_pos rfl (ev_some hf (Ev.bind (spl_ans W hW) (Ev.now _))))))
 | succ n ih =>
  intro i X hi hX
  refine Ev.step (fun k => bodkinlaw20_LayoutPlaces.l1.eq_2 ..) (ev_pos (by omega) (ev_pos (by omega) ?_))
  rw [w64 (by omega) (by omega)]
  exact ih (i + 1) _ (by omega) (by rw [List.length_append,List.length_singleton];omega)
theorem lpl_set (W : List S27) (hW : W.length ≤ 1099511627776) (p t : ByteArray) (c w : Int) (hf : layout_Places.f p t w = some W) : ∀ (n i : Nat) (X : List S27),i + n = X.length → X.length ≤ 1099511627776 → Ev (fun k => bodkinlaw20_LayoutPlaces.l0 k W X W (i : Int) p t c w) true := by
 intro n
 induction n with
 | zero =>
  intro i X hi hX
  exact Ev.step (fun k => bodkinlaw20_LayoutPlaces.l0.eq_2 ..) (ev_neg (by omega) (lpl_app W hW p t c w hf 9 0 X (by omega) (by omega)))
 | succ n ih =>
  intro i X hi hX
  refine Ev.step (fun k => bodkinlaw20_LayoutPlaces.l0.eq_2 ..) (ev_pos (by omega) (ev_pos (by omega) ?_))
  rw [w64 (by omega) (by omega)]
  exact ih (i + 1) _ (by rw [List.length_set];omega) (by rw [List.length_set];omega)
theorem LayoutPlaces (a0_0 a0_1 : ByteArray) (a0_2 a0_3 : Int) (u0_0 : a0_0.size ≤ 1048576) (u0_1 : a0_1.size ≤ 1048576) : ∃ k,bodkinlaw20_LayoutPlaces.f k a0_0 a0_1 a0_2 a0_3 = some true := by
 apply Ev.rounds
 unfold bodkinlaw20_LayoutPlaces.f
 have h0 : a0_0.size ≤ 34359738368 := by omega
 have h1 : a0_1.size ≤ 34359738368 := by omega
 have hW : (placesL a0_0 a0_1 a0_3).length ≤ 1099511627776 := by rw [placesL_len];have := clusL_length a0_1;omega
 have hf := pl_f a0_0 a0_1 a0_3 h0 h1
 exact Ev.bind awake20 (ev_pos rfl (ev_some (rpl_f _ _ _ h0 h1) (ev_some hf (ev_some hf (Ev.bind (spl_ans _ hW) (ev_pos rfl (lpl_set _ hW a0_0 a0_1 a0_2 a0_3 hf (placesL a0_0 a0_1 a0_3).length 0 _ (by omega) hW)))))))
end Go.Proofs.YtnpjaaldppemlaaDoor.Pure
end
section
namespace Go.Proofs.YtnpjaaldppemlaaDoor.Lf
open Go.Lib Go.Proofs
theorem own : ownKnob Tryd.prog.godebug = none := by kernel_rfl
theorem laidOut : laidOutB Tryd.prog = true := by kernel_rfl
theorem extra : U8Extra Tryd.prog Tryd.lays260_ren := {
 n3 := by kernel_rfl
 n4 := by kernel_rfl
 y3 := by kernel_rfl
 y4 := by kernel_rfl
 c5 := by kernel_rfl
 c119 := by kernel_rfl
 c138 := by kernel_rfl }
theorem first_eq : Rows.laid_unicode_utf8_first = Lib.firstData := by kernel_rfl
theorem accept_eq : (Rows.laid_unicode_utf8_acceptRanges : DataW Unit) = Lib.acceptData := by kernel_rfl
abbrev laid : List (String × DataW Unit) := [("unicode/utf8.acceptRanges", Rows.laid_unicode_utf8_acceptRanges), ("unicode/utf8.first", Rows.laid_unicode_utf8_first)]
/-- The two tables lie as the contracts ask. -/
theorem tabs {W : World} (h : laidMetH Tryd.prog laid W) : Lib.Utf8Tabs 0 1 W := by
  rw [MakeChecks.laidMetH_plain _ _ _ (by kernel_rfl)] at h
  have h3 := laidMet.reads h (n := "unicode/utf8.first") (d := Rows.laid_unicode_utf8_first) (List.mem_cons_of_mem _ List.mem_cons_self)
  have h4 := laidMet.reads h (n := "unicode/utf8.acceptRanges") (d := Rows.laid_unicode_utf8_acceptRanges) List.mem_cons_self
  rw [first_eq] at h3
  rw [accept_eq] at h4
  exact utf8Tabs_of_reads Tryd.lays260 extra h3 h4
/-- The world of the witness: the settled one,the tables laid. -/
noncomputable abbrev wit (os : Os) : World := World.laidAll Tryd.prog os laid
theorem wit_laid (os : Os) (args : Array Value) : laidMetH Tryd.prog laid ((wit os).forCall (fun _ _ => 0) ⟨#[],args,[]⟩).memory := by
 rw [MakeChecks.laidMetH_plain _ _ _ (by kernel_rfl)]
 exact laidMet_laidAll _ (by kernel_rfl) (by kernel_rfl)
theorem wit_shaped (os : Os) (args : Array Value) : ((wit os).forCall (fun _ _ => 0) ⟨#[],args,[]⟩).Shaped Tryd.prog :=
 World.shaped_of_ZipB (by kernel_rfl) (by kernel_rfl)
end Go.Proofs.YtnpjaaldppemlaaDoor.Lf
end
section
namespace Go.Proofs.YtnpjaaldppemlaaDoor.Lf
open Go Go.RowKit Go.ChangeShapes Go.WideShapes Go.Proofs.YtnpjaaldppemlaaDoor.U Go.Proofs.YtnpjaaldppemlaaDoorW.PrintWords Go.Proofs.YtnpjaaldppemlaaDoorW.PrintLast Go.Proofs.YtnpjaaldppemlaaDoorW.PrintMore
set_option linter.unusedVariables false
set_option linter.unusedSimpArgs false
theorem ly_gen {H : Type} {enc : TypeId × Value → H} {P : Program} {w : World} {base : Nat} {sp : Nat → Bool} {held : Bool} {t : TypeId} {p0 p1 p2 p3 : Field} (ht : P.underlying t = some (.struct #[p0,p1,p2,p3])) (ce : P.cellsOf t = 4)
  (o0 : p0.offset = 0) (c0 : P.cellsOf p0.type = 1) (u0 : P.underlying p0.type = some .string) (o1 : p1.offset = 1) (c1 : P.cellsOf p1.type = 1) (u1 : P.underlying p1.type = some .string) (o2 : p2.offset = 2) (c2 : P.cellsOf p2.type = 1) (u2 : P.underlying p2.type = some (.int .i64)) (o3 : p3.offset = 3) (c3 : P.cellsOf p3.type = 1) (u3 : P.underlying p3.type = some (.int .i64))
  {fuel : Nat} {cs : List Value} {x : DataW H × List MemPlace} (h : DataW.trod enc P w base sp held fuel t cs = some x) : ∃ (x0 : ByteArray) (x1 : ByteArray) (x2 : Int) (x3 : Int),cs = [.string x0,.string x1,.int .i64 x2,.int .i64 x3] ∧ x0.size + 1 ≤ Rows.uptoBulk x.1 ∧ x1.size + 1 ≤ Rows.uptoBulk x.1 := by
 obtain ⟨xs,n,_,rfl,hl,hlen,hf⟩ := DataW.trod_struct ht h
 rw [ce] at hl
 match xs,hlen,cs,hl with
 | [y0,y1,y2,y3],_,[v0,v1,v2,v3],_ =>
  have g0 := hf 0 p0 rfl
  have g1 := hf 1 p1 rfl
  have g2 := hf 2 p2 rfl
  have g3 := hf 3 p3 rfl
  simp [o0,c0,o1,c1,o2,c2,o3,c3] at g0 g1 g2 g3
  obtain ⟨x0,e0,f0,_⟩ := DataW.trod_string u0 g0
  injection e0 with e0
  subst e0
  obtain ⟨x1,e1,f1,_⟩ := DataW.trod_string u1 g1
  injection e1 with e1
  subst e1
  obtain ⟨x2,e2,f2,_⟩ := DataW.trod_int u2 g2
  injection e2 with e2
  subst e2
  obtain ⟨x3,e3,f3,_⟩ := DataW.trod_int u3 g3
  injection e3 with e3
  subst e3
  refine ⟨x0,x1,x2,x3,rfl,?_⟩
  simp only [List.map_cons,List.map_nil,Rows.uptoBulk,Rows.uptoBulkAll]
  rw [congrArg Prod.fst f0]
  rw [congrArg Prod.fst f1]
  simp only [show ∀ b : List UInt8,Rows.uptoBulk (DataW.lit (H := H) (.string b)) = b.length + 1 from fun b => by simp [Rows.uptoBulk]]
  have z0 : x0.data.toList.length = x0.size := rfl
  have z1 : x1.data.toList.length = x1.size := rfl
  refine ⟨by omega,by omega⟩
theorem ly_open_gen {W : World} {r : Reach} {b0 : Nat} {H : Type} {enc : TypeId × Value → H} {P : Program} {w : World} {base : Nat} {sp : Nat → Bool} {held : Bool} {t : TypeId} {p0 p1 p2 p3 : Field} (ht : P.underlying t = some (.struct #[p0,p1,p2,p3])) (ce : P.cellsOf t = 4)
  (o0 : p0.offset = 0) (c0 : P.cellsOf p0.type = 1) (u0 : P.underlying p0.type = some .string) (o1 : p1.offset = 1) (c1 : P.cellsOf p1.type = 1) (u1 : P.underlying p1.type = some .string) (o2 : p2.offset = 2) (c2 : P.cellsOf p2.type = 1) (u2 : P.underlying p2.type = some (.int .i64)) (o3 : p3.offset = 3) (c3 : P.cellsOf p3.type = 1) (u3 : P.underlying p3.type = some (.int .i64))
  {v : Value} {d : DataW H} {ps : List MemPlace} (hval : Value.okWide P W r b0 t v) (hd : DataW.Trod enc P w base sp held t v d ps) : ∃ (x0 : ByteArray) (x1 : ByteArray) (x2 : Int) (x3 : Int),v = .agg #[.string x0,.string x1,.int .i64 x2,.int .i64 x3] ∧ x0.size + 1 ≤ Rows.uptoBulk d ∧ x1.size + 1 ≤ Rows.uptoBulk d := by
 obtain ⟨cs,rfl,_⟩ := okWide_struct ht hval
 obtain ⟨fuel,hf⟩ := hd
 obtain ⟨x0,x1,x2,x3,e,hb⟩ := ly_gen ht ce o0 c0 u0 o1 c1 u1 o2 c2 u2 o3 c3 u3 hf
 refine ⟨x0,x1,x2,x3,?_,hb⟩
 have e2 : cs.toList = [.string x0,.string x1,.int .i64 x2,.int .i64 x3] := e
 rw [← Array.toArray_toList (xs := cs),e2]
set_option maxRecDepth 100000 in
theorem ly_open {W : World} {r : Reach} {b0 : Nat} {H : Type} {enc : TypeId × Value → H} {w : World} {base : Nat} {sp : Nat → Bool} {held : Bool} {v : Value} {d : DataW H} {ps : List MemPlace} (hval : Value.okWide Tryd.prog W r b0 23 v) (hd : DataW.Trod enc Tryd.prog w base sp held 23 v d ps) : ∃ (x0 : ByteArray) (x1 : ByteArray) (x2 : Int) (x3 : Int),v = .agg #[.string x0,.string x1,.int .i64 x2,.int .i64 x3] ∧ x0.size + 1 ≤ Rows.uptoBulk d ∧ x1.size + 1 ≤ Rows.uptoBulk d :=
 ly_open_gen Tryd.underlying23 (by kernel_rfl) rfl (by kernel_rfl) Tryd.underlying9 rfl (by kernel_rfl) Tryd.underlying9 rfl (by kernel_rfl) Tryd.underlying3 rfl (by kernel_rfl) Tryd.underlying3 hval hd
end Go.Proofs.YtnpjaaldppemlaaDoor.Lf
end
