/- What the law LayoutLays reaches of this seat's own texts, merged; what nothing uses is left out. -/
import Derived.Test.YtnpjaaldppemlaaDoorZLayoutLays0
import Derived.Test.YtnpjaaldppemlaaDoorZLayoutLays1
import Derived.Test.YtnpjaaldppemlaaDoorZLayoutLays2
import Derived.Test.YtnpjaaldppemlaaDoorZLayoutLays4
import Derived.Test.YtnpjaaldppemlaaDoorZLayoutLays6
import Derived.Test.YtnpjaaldppemlaaDoorZLayoutLays11
section
namespace Go.Proofs.YtnpjaaldppemlaaDoor.U
open Go.RowKit Go.Proofs.YtnpjaaldppemlaaDoorW.PrintWords Go.Proofs.YtnpjaaldppemlaaDoorW.PrintLast Go.Proofs.YtnpjaaldppemlaaDoorW.PrintMore
attribute [local go_sem] max2_int min2_int max_two min_two max_three min_three max_four min_four   -- for this text's walks alone
set_option linter.unusedVariables false
set_option linter.unusedSimpArgs false
attribute [local go_sem high] eqA27 eqA35
def bodkinlaw20_awake.f (k : Nat)  : Option (Bool) := (cluster_Next.f k (⟨#[97]⟩ : ByteArray) 0).bind fun t149 => (if t149 = 1 then ((layout_Lay.f (⟨#[62,32]⟩ : ByteArray) (⟨#[97,98]⟩ : ByteArray) 1 5).bind fun bt150 => ((layout_Lay.f (⟨#[]⟩ : ByteArray) (⟨#[97,228,184,128]⟩ : ByteArray) 1 2).bind fun bt157 => (if bt150.1 = 5 then (if (bt150.2.1.length : Int) = 1 then (if 0 < (bt150.2.1.length : Int) then (if ((rd_L3 bt150.2.1 0).length : Int) = 4 then (if 2 < ((rd_L3 bt150.2.1 0).length : Int) then (if ((((rd_T35 (rd_L3 bt150.2.1 0) 2).f0).toList) == ([97] : List UInt8) && (((rd_T35 (rd_L3 bt150.2.1 0) 2).f1) == 1)) = true then (if (bt150.2.2.1 == 0 && (bt150.2.2.2 == 3)) = true then (if (bt157.2.1.length : Int) = 3 then (if 0 < (bt157.2.1.length : Int) then (if ((rd_L3 bt157.2.1 0).length : Int) = 1 then (if 1 < (bt157.2.1.length : Int) then (if ((rd_L3 bt157.2.1 1).length : Int) = 2 then (if 1 < ((rd_L3 bt157.2.1 1).length : Int) then (if ((((rd_T35 (rd_L3 bt157.2.1 1) 1).f0).toList) == ([] : List UInt8) && (((rd_T35 (rd_L3 bt157.2.1 1) 1).f1) == 0)) = true then (some (bt157.2.2.1 == 0 && (bt157.2.2.2 == 1))) else (some false)) else (none)) else (some false)) else (none)) else (some false)) else (none)) else (some false)) else (some false)) else (some false)) else (none)) else (some false)) else (none)) else (some false)) else (some false)))) else (some false))
theorem bodkinlaw20_awake.mono : ∀ k,LeO (bodkinlaw20_awake.f k ) (bodkinlaw20_awake.f (k + 1) ) := by
 intro  k
 unfold bodkinlaw20_awake.f
 repeat' first
   | (with_reducible exact cluster_Next.mono _ _ _)
   | (with_reducible exact LeO.refl _)
   | (with_reducible exact LeO.none _)
   | (with_reducible refine LeO.ite ?_ ?_)
   | (with_reducible refine LeO.bind ?_ (fun _ => ?_))
   | exact cluster_Next.mono _ _ _
   | exact LeO.none _
   | refine LeO.ite ?_ ?_
   | refine LeO.bind ?_ (fun _ => ?_)
set_option maxHeartbeats 8000000 in
set_option maxRecDepth 100000 in
theorem bodkinlaw20_awake.calls (k : Nat)  (r : Bool) (hr_ : r = true) (w : World) (hT : Lib.Utf8Tabs 0 1 w) (h : bodkinlaw20_awake.f k  = some r) :
  Calls Tryd.prog 12 #[] w fun e w' => e = .returned (.bool r) ∧ Below w.heap.size w w' := by
 have hu29 := Tryd.underlying29
 have hu35 := Tryd.underlying35
 have hu27 := Tryd.underlying27
 have HT := Aside0.mk hT
 clear hT
 have HB := Aside0.mk (Below.refl w.heap.size w)
 have H : ((cluster_Next.f k (⟨#[97]⟩ : ByteArray) 0).bind fun t149 => (if t149 = 1 then ((layout_Lay.f (⟨#[62,32]⟩ : ByteArray) (⟨#[97,98]⟩ : ByteArray) 1 5).bind fun bt150 => ((layout_Lay.f (⟨#[]⟩ : ByteArray) (⟨#[97,228,184,128]⟩ : ByteArray) 1 2).bind fun bt157 => (if bt150.1 = 5 then (if (bt150.2.1.length : Int) = 1 then (if 0 < (bt150.2.1.length : Int) then (if ((rd_L3 bt150.2.1 0).length : Int) = 4 then (if 2 < ((rd_L3 bt150.2.1 0).length : Int) then (if ((((rd_T35 (rd_L3 bt150.2.1 0) 2).f0).toList) == ([97] : List UInt8) && (((rd_T35 (rd_L3 bt150.2.1 0) 2).f1) == 1)) = true then (if (bt150.2.2.1 == 0 && (bt150.2.2.2 == 3)) = true then (if (bt157.2.1.length : Int) = 3 then (if 0 < (bt157.2.1.length : Int) then (if ((rd_L3 bt157.2.1 0).length : Int) = 1 then (if 1 < (bt157.2.1.length : Int) then (if ((rd_L3 bt157.2.1 1).length : Int) = 2 then (if 1 < ((rd_L3 bt157.2.1 1).length : Int) then (if ((((rd_T35 (rd_L3 bt157.2.1 1) 1).f0).toList) == ([] : List UInt8) && (((rd_T35 (rd_L3 bt157.2.1 1) 1).f1) == 0)) = true then (some (bt157.2.2.1 == 0 && (bt157.2.2.2 == 1))) else (some false)) else (none)) else (some false)) else (none)) else (some false)) else (none)) else (some false)) else (some false)) else (some false)) else (none)) else (some false)) else (none)) else (some false)) else (some false)))) else (some false))) = some r := h
 clear h
 replace H := Option.bind_eq_some_iff.mp H
 obtain ⟨t149,A10,H⟩ := H
 replace H : (if t149 = 1 then ((layout_Lay.f (⟨#[62,32]⟩ : ByteArray) (⟨#[97,98]⟩ : ByteArray) 1 5).bind fun bt150 => ((layout_Lay.f (⟨#[]⟩ : ByteArray) (⟨#[97,228,184,128]⟩ : ByteArray) 1 2).bind fun bt157 => (if bt150.1 = 5 then (if (bt150.2.1.length : Int) = 1 then (if 0 < (bt150.2.1.length : Int) then (if ((rd_L3 bt150.2.1 0).length : Int) = 4 then (if 2 < ((rd_L3 bt150.2.1 0).length : Int) then (if ((((rd_T35 (rd_L3 bt150.2.1 0) 2).f0).toList) == ([97] : List UInt8) && (((rd_T35 (rd_L3 bt150.2.1 0) 2).f1) == 1)) = true then (if (bt150.2.2.1 == 0 && (bt150.2.2.2 == 3)) = true then (if (bt157.2.1.length : Int) = 3 then (if 0 < (bt157.2.1.length : Int) then (if ((rd_L3 bt157.2.1 0).length : Int) = 1 then (if 1 < (bt157.2.1.length : Int) then (if ((rd_L3 bt157.2.1 1).length : Int) = 2 then (if 1 < ((rd_L3 bt157.2.1 1).length : Int) then (if ((((rd_T35 (rd_L3 bt157.2.1 1) 1).f0).toList) == ([] : List UInt8) && (((rd_T35 (rd_L3 bt157.2.1 1) 1).f1) == 0)) = true then (some (bt157.2.2.1 == 0 && (bt157.2.2.2 == 1))) else (some false)) else (none)) else (some false)) else (none)) else (some false)) else (none)) else (some false)) else (some false)) else (some false)) else (none)) else (some false)) else (none)) else (some false)) else (some false)))) else (some false)) = some r := H
 have A1 := Aside0.mk A10
 clear A10
 by_cases c2 : t149 = 1
 ·rw [if_pos c2] at H
  have c2b0 : (t149 == 1) = true := beq_iff_eq.mpr c2
  have c2b1 : (t149 != 1) = false := bne_eq_false_iff_eq.mpr c2
  clear c2
  replace H := Option.bind_eq_some_iff.mp H
  obtain ⟨⟨t150,t151,t154,t155⟩,A30,H⟩ := H
  replace H : ((layout_Lay.f (⟨#[]⟩ : ByteArray) (⟨#[97,228,184,128]⟩ : ByteArray) 1 2).bind fun bt157 => (if t150 = 5 then (if (t151.length : Int) = 1 then (if 0 < (t151.length : Int) then (if ((rd_L3 t151 0).length : Int) = 4 then (if 2 < ((rd_L3 t151 0).length : Int) then (if ((((rd_T35 (rd_L3 t151 0) 2).f0).toList) == ([97] : List UInt8) && (((rd_T35 (rd_L3 t151 0) 2).f1) == 1)) = true then (if (t154 == 0 && (t155 == 3)) = true then (if (bt157.2.1.length : Int) = 3 then (if 0 < (bt157.2.1.length : Int) then (if ((rd_L3 bt157.2.1 0).length : Int) = 1 then (if 1 < (bt157.2.1.length : Int) then (if ((rd_L3 bt157.2.1 1).length : Int) = 2 then (if 1 < ((rd_L3 bt157.2.1 1).length : Int) then (if ((((rd_T35 (rd_L3 bt157.2.1 1) 1).f0).toList) == ([] : List UInt8) && (((rd_T35 (rd_L3 bt157.2.1 1) 1).f1) == 0)) = true then (some (bt157.2.2.1 == 0 && (bt157.2.2.2 == 1))) else (some false)) else (none)) else (some false)) else (none)) else (some false)) else (none)) else (some false)) else (some false)) else (some false)) else (none)) else (some false)) else (none)) else (some false)) else (some false))) = some r := H
  have A3 := Aside0.mk A30
  clear A30
  replace H := Option.bind_eq_some_iff.mp H
  obtain ⟨⟨t157,t158,t161,t162⟩,A40,H⟩ := H
  replace H : (if t150 = 5 then (if (t151.length : Int) = 1 then (if 0 < (t151.length : Int) then (if ((rd_L3 t151 0).length : Int) = 4 then (if 2 < ((rd_L3 t151 0).length : Int) then (if ((((rd_T35 (rd_L3 t151 0) 2).f0).toList) == ([97] : List UInt8) && (((rd_T35 (rd_L3 t151 0) 2).f1) == 1)) = true then (if (t154 == 0 && (t155 == 3)) = true then (if (t158.length : Int) = 3 then (if 0 < (t158.length : Int) then (if ((rd_L3 t158 0).length : Int) = 1 then (if 1 < (t158.length : Int) then (if ((rd_L3 t158 1).length : Int) = 2 then (if 1 < ((rd_L3 t158 1).length : Int) then (if ((((rd_T35 (rd_L3 t158 1) 1).f0).toList) == ([] : List UInt8) && (((rd_T35 (rd_L3 t158 1) 1).f1) == 0)) = true then (some (t161 == 0 && (t162 == 1))) else (some false)) else (none)) else (some false)) else (none)) else (some false)) else (none)) else (some false)) else (some false)) else (some false)) else (none)) else (some false)) else (none)) else (some false)) else (some false)) = some r := H
  have A4 := Aside0.mk A40
  clear A40
  by_cases c5 : t150 = 5
  ·rw [if_pos c5] at H
   have c5b0 : (t150 == 5) = true := beq_iff_eq.mpr c5
   have c5b1 : (t150 != 5) = false := bne_eq_false_iff_eq.mpr c5
   clear c5
   by_cases c6 : (t151.length : Int) = 1
   ·rw [if_pos c6] at H
    have c6b0 : ((t151.length : Int) == 1) = true := beq_iff_eq.mpr c6
    have c6b1 : ((t151.length : Int) != 1) = false := bne_eq_false_iff_eq.mpr c6
    clear c6
    by_cases c7 : 0 < (t151.length : Int)
    ·rw [if_pos c7] at H
     have c7b0 : decide (0 < (t151.length : Int)) = true := decide_eq_true c7
     have c7b1 : decide (0 < t151.length) = true := decide_eq_true (by omega)
     clear c7
     by_cases c8 : ((rd_L3 t151 0).length : Int) = 4
     ·rw [if_pos c8] at H
      have c8b0 : (((rd_L3 t151 0).length : Int) == 4) = true := beq_iff_eq.mpr c8
      have c8b1 : (((rd_L3 t151 0).length : Int) != 4) = false := bne_eq_false_iff_eq.mpr c8
      clear c8
      by_cases c9 : 2 < ((rd_L3 t151 0).length : Int)
      ·rw [if_pos c9] at H
       have c9b0 : decide (2 < ((rd_L3 t151 0).length : Int)) = true := decide_eq_true c9
       have c9b1 : decide (2 < (rd_L3 t151 0).length) = true := decide_eq_true (by omega)
       clear c9
       by_cases c10 : ((((rd_T35 (rd_L3 t151 0) 2).f0).toList) == ([97] : List UInt8) && (((rd_T35 (rd_L3 t151 0) 2).f1) == 1)) = true
       ·rw [if_pos c10] at H
        have c10b0 : ((((rd_T35 (rd_L3 t151 0) 2).f0).toList) == ([97] : List UInt8) && (((rd_T35 (rd_L3 t151 0) 2).f1) == 1)) = true := c10
        (try (have c10b1 : decide ((((rd_T35 (rd_L3 t151 0) 2).f0).toList) = ([97] : List UInt8) && (((rd_T35 (rd_L3 t151 0) 2).f1) == 1)) = true := by simpa using c10))
        (try (have c10b2 : ((((rd_T35 (rd_L3 t151 0) 2).f0).toList) == ([97] : List UInt8) && (((rd_T35 (rd_L3 t151 0) 2).f1) == 1)) = true := by simpa using c10))
        clear c10
        by_cases c11 : (t154 == 0 && (t155 == 3)) = true
        ·rw [if_pos c11] at H
         have c11b0 : (t154 == 0 && (t155 == 3)) = true := c11
         (try (have c11b1 : decide (t154 = 0 && (t155 == 3)) = true := by simpa using c11))
         (try (have c11b2 : (t154 == 0 && (t155 == 3)) = true := by simpa using c11))
         clear c11
         by_cases c12 : (t158.length : Int) = 3
         ·rw [if_pos c12] at H
          have c12b0 : ((t158.length : Int) == 3) = true := beq_iff_eq.mpr c12
          have c12b1 : ((t158.length : Int) != 3) = false := bne_eq_false_iff_eq.mpr c12
          clear c12
          by_cases c13 : 0 < (t158.length : Int)
          ·rw [if_pos c13] at H
           have c13b0 : decide (0 < (t158.length : Int)) = true := decide_eq_true c13
           have c13b1 : decide (0 < t158.length) = true := decide_eq_true (by omega)
           clear c13
           by_cases c14 : ((rd_L3 t158 0).length : Int) = 1
           ·rw [if_pos c14] at H
            have c14b0 : (((rd_L3 t158 0).length : Int) == 1) = true := beq_iff_eq.mpr c14
            have c14b1 : (((rd_L3 t158 0).length : Int) != 1) = false := bne_eq_false_iff_eq.mpr c14
            clear c14
            by_cases c15 : 1 < (t158.length : Int)
            ·rw [if_pos c15] at H
             have c15b0 : decide (1 < (t158.length : Int)) = true := decide_eq_true c15
             have c15b1 : decide (1 < t158.length) = true := decide_eq_true (by omega)
             clear c15
             by_cases c16 : ((rd_L3 t158 1).length : Int) = 2
             ·rw [if_pos c16] at H
              have c16b0 : (((rd_L3 t158 1).length : Int) == 2) = true := beq_iff_eq.mpr c16
              have c16b1 : (((rd_L3 t158 1).length : Int) != 2) = false := bne_eq_false_iff_eq.mpr c16
              clear c16
              by_cases c17 : 1 < ((rd_L3 t158 1).length : Int)
              ·rw [if_pos c17] at H
               have c17b0 : decide (1 < ((rd_L3 t158 1).length : Int)) = true := decide_eq_true c17
               have c17b1 : decide (1 < (rd_L3 t158 1).length) = true := decide_eq_true (by omega)
               clear c17
               by_cases c18 : ((((rd_T35 (rd_L3 t158 1) 1).f0).toList) == ([] : List UInt8) && (((rd_T35 (rd_L3 t158 1) 1).f1) == 0)) = true
               ·rw [if_pos c18] at H
                have c18b0 : ((((rd_T35 (rd_L3 t158 1) 1).f0).toList) == ([] : List UInt8) && (((rd_T35 (rd_L3 t158 1) 1).f1) == 0)) = true := c18
                have hc18 := c18
                (try (have c18b1 : decide ((((rd_T35 (rd_L3 t158 1) 1).f0).toList) = ([] : List UInt8) && (((rd_T35 (rd_L3 t158 1) 1).f1) == 0)) = true := by simpa using c18))
                (try (have c18b2 : ((((rd_T35 (rd_L3 t158 1) 1).f0).toList) == ([] : List UInt8) && (((rd_T35 (rd_L3 t158 1) 1).f1) == 0)) = true := by simpa using c18))
                clear c18
                obtain rfl := Option.some.inj H
                go_enter Tryd.func12,Tryd.ntmps12
                go_wp2_with (first | ((with_reducible refine gate_callee (f := 18) rfl ?_);refine goesL_ (some 3) rfl rfl Tryd.func18 (by kernel_rfl) rfl #[.string (⟨#[97]⟩ : ByteArray),.int .i64 0] rfl au1 ?_;(with_reducible refine (cluster_Next.calls k (⟨#[97]⟩ : ByteArray) 0 t149 _ ?side1 A1.out).mono ?_);(case side1 => exact tabs_below HT.out au0);rintro e w19 ⟨rfl,hb⟩;refine ⟨_,rfl,?_⟩;have n0_ := Aside0.mk (below_step au0 hb);clear HB;have HB := n0_;clear n0_;(try clear hb);(try clear hb2);(try clear hk);(try clear hi)) | ((with_reducible refine gate_callee (f := 14) rfl ?_);refine goesL_ (some 5) rfl rfl Tryd.func14 (by kernel_rfl) rfl #[.string (⟨#[62,32]⟩ : ByteArray),.string (⟨#[97,98]⟩ : ByteArray),.int .i64 1,.int .i64 5] rfl au1 ?_;(with_reducible refine (layout_Lay.calls (⟨#[62,32]⟩ : ByteArray) (⟨#[97,98]⟩ : ByteArray) 1 5 t150 t151 t154 t155 _ ?side1 A3.out).mono ?_);(case side1 => exact tabs_below HT.out au0);rintro e w20 ⟨v152,rfl,ho0,hb⟩;refine ⟨_,rfl,?_⟩;have n0_ := Aside0.mk (Kd.S_lower ho0 (below_size au0));have n1_ := Aside0.mk (below_step au0 hb);clear HB;have HO153 := n0_;have HB := n1_;clear n0_ n1_;(try clear hb);(try clear hb2);(try clear hk);(try clear hi);(try clear ho0)) | ((with_reducible refine gate_dst (N := 1) rfl ?_);(try (refine gate_guard (by rfl) ?_;dsimp only));refine box_event ?hg (N := 1) ?hd (cs := #[.int .i64 0,.slice none 0 0,.int .i64 0,.int .i64 0]) (t := 29) ?hr ?_;(case hd => rfl);(case hg => rfl);(case hr => first | (go_simp;done) | (go_simp;rfl));intro gb156 hg w21 hbox hb;have n0_ := Aside0.mk (Kd.S_below (by (with_reducible repeat (first | apply Kd.S_alloc | apply Kd.S_drewN | apply Kd.S_drew));exact HO153.out) hb);have n1_ := Aside0.mk (below_step au0 hb);have n2_ := Aside0.mk (hbox);have n3_ := Aside0.mk ((by rw [hg];exact (below_size au0) : w.heap.size ≤ gb156));have n4_ := Aside0.mk ((by rw [hg];exact (below_size au0) : w.heap.size ≤ gb156));clear HO153;clear HB;have HO153 := n0_;have HB := n1_;have BK156 := n2_;have GW156 := n3_;have GE156 := n4_;clear n0_ n1_ n2_ n3_ n4_;clear hb hbox hg;have hcz22_0 : w21.cell? ⟨gb156,0,none⟩ = some (.int .i64 0) := (blk_cell BK156.out 0).trans rfl;have hcz22_1 : w21.cell? ⟨gb156,1,none⟩ = some (.slice none 0 0) := (blk_cell BK156.out 1).trans rfl;have hcz22_2 : w21.cell? ⟨gb156,2,none⟩ = some (.int .i64 0) := (blk_cell BK156.out 2).trans rfl;have hcz22_3 : w21.cell? ⟨gb156,3,none⟩ = some (.int .i64 0) := (blk_cell BK156.out 3).trans rfl;have hfz22_0 := blk_frozen BK156.out 0;have hfz22_1 := blk_frozen BK156.out 1;have hfz22_2 := blk_frozen BK156.out 2;have hfz22_3 := blk_frozen BK156.out 3;obtain ⟨Ao23,co23,eo23⟩ := Kd.S_slice HO153.out;subst eo23) | ((with_reducible refine gate_callee (f := 14) rfl ?_);refine goesL_ (some 6) rfl rfl Tryd.func14 (by kernel_rfl) rfl #[.string (⟨#[]⟩ : ByteArray),.string (⟨#[97,228,184,128]⟩ : ByteArray),.int .i64 1,.int .i64 2] rfl au1 ?_;(with_reducible refine (layout_Lay.calls (⟨#[]⟩ : ByteArray) (⟨#[97,228,184,128]⟩ : ByteArray) 1 2 t157 t158 t161 t162 _ ?side1 A4.out).mono ?_);(case side1 => exact tabs_below HT.out au23);rintro e w24 ⟨v159,rfl,ho0,hb⟩;refine ⟨_,rfl,?_⟩;have n0_ := Aside0.mk (Kd.S_elder' au33 (Kd.S_base ho0) hb);have n1_ := Aside0.mk (Kd.S_lower (Kd.S_new' ho0 (Kd.S_lt au33)) (below_size au23));have n2_ := Aside0.mk (blk_below (g := gb156) (o := .cells #[.int .i64 t150,.slice Ao23 t151.length co23,.int .i64 t154,.int .i64 t155] 29 (0,0)) (by (with_reducible repeat (first | refine blk_drewN ?_ _ | refine blk_drew ?_ | refine blk_alloc ?_ _));refine blk_put (cs := #[.int .i64 t150,.slice Ao23 t151.length co23,.int .i64 t154,.int .i64 0]) ?_ 3 _ rfl;(with_reducible repeat (first | refine blk_drewN ?_ _ | refine blk_drew ?_ | refine blk_alloc ?_ _));refine blk_put (cs := #[.int .i64 t150,.slice Ao23 t151.length co23,.int .i64 0,.int .i64 0]) ?_ 2 _ rfl;(with_reducible repeat (first | refine blk_drewN ?_ _ | refine blk_drew ?_ | refine blk_alloc ?_ _));refine blk_put (cs := #[.int .i64 t150,.slice none 0 0,.int .i64 0,.int .i64 0]) ?_ 1 _ rfl;(with_reducible repeat (first | refine blk_drewN ?_ _ | refine blk_drew ?_ | refine blk_alloc ?_ _));refine blk_put (cs := #[.int .i64 0,.slice none 0 0,.int .i64 0,.int .i64 0]) ?_ 0 _ rfl;(with_reducible repeat (first | refine blk_drewN ?_ _ | refine blk_drew ?_ | refine blk_alloc ?_ _));exact BK156.out) hb);have n3_ := Aside0.mk (below_step au23 hb);clear HO153;clear BK156;clear HB;have HO153 := n0_;have HO160 := n1_;have BK156 := n2_;have HB := n3_;clear n0_ n1_ n2_ n3_;(try clear hb);(try clear hb2);(try clear hk);(try clear hi);(try clear ho0)) | ((with_reducible refine gate_dst (N := 2) rfl ?_);(try (refine gate_guard (by rfl) ?_;dsimp only));refine box_event ?hg (N := 2) ?hd (cs := #[.int .i64 0,.slice none 0 0,.int .i64 0,.int .i64 0]) (t := 29) ?hr ?_;(case hd => rfl);(case hg => rfl);(case hr => first | (go_simp;done) | (go_simp;rfl));intro gb163 hg w25 hbox hb;have n0_ := Aside0.mk (Kd.S_below (by (with_reducible repeat (first | apply Kd.S_alloc | apply Kd.S_drewN | apply Kd.S_drew));exact HO153.out) hb);have n1_ := Aside0.mk (Kd.S_below (by (with_reducible repeat (first | apply Kd.S_alloc | apply Kd.S_drewN | apply Kd.S_drew));exact HO160.out) hb);have n2_ := Aside0.mk (blk_below (g := gb156) (o := .cells #[.int .i64 t150,.slice Ao23 t151.length co23,.int .i64 t154,.int .i64 t155] 29 (0,0)) (by (with_reducible repeat (first | refine blk_drewN ?_ _ | refine blk_drew ?_ | refine blk_alloc ?_ _));exact BK156.out) hb);have n3_ := Aside0.mk (below_step au23 hb);have n4_ := Aside0.mk (hbox);have n5_ := Aside0.mk ((by rw [hg];exact (below_size au23) : w.heap.size ≤ gb163));have n6_ := Aside0.mk ((by rw [hg];exact (below_size au23) : w.heap.size ≤ gb163));have n7_ := Aside0.mk ((by rw [hg];exact Nat.ne_of_lt (blk_lt (g := gb156) (o := .cells #[.int .i64 t150,.slice Ao23 t151.length co23,.int .i64 t154,.int .i64 t155] 29 (0,0)) (by (with_reducible repeat (first | refine blk_drewN ?_ _ | refine blk_drew ?_ | refine blk_alloc ?_ _));exact BK156.out)) : gb156 ≠ gb163));have n8_ := Aside0.mk ((by rw [hg];exact Nat.ne_of_gt (blk_lt (g := gb156) (o := .cells #[.int .i64 t150,.slice Ao23 t151.length co23,.int .i64 t154,.int .i64 t155] 29 (0,0)) (by (with_reducible repeat (first | refine blk_drewN ?_ _ | refine blk_drew ?_ | refine blk_alloc ?_ _));exact BK156.out)) : gb163 ≠ gb156));clear HO153;clear HO160;clear BK156;clear HB;have HO153 := n0_;have HO160 := n1_;have BK156 := n2_;have HB := n3_;have BK163 := n4_;have GW163 := n5_;have GE163 := n6_;have NB156_163 := n7_;have NB163_156 := n8_;clear n0_ n1_ n2_ n3_ n4_ n5_ n6_ n7_ n8_;clear hb hbox hg;have hnb26 := NB163_156.out;have hnc26 := NB156_163.out;have hcz27_0 : w25.cell? ⟨gb163,0,none⟩ = some (.int .i64 0) := (blk_cell BK163.out 0).trans rfl;have hcz27_1 : w25.cell? ⟨gb163,1,none⟩ = some (.slice none 0 0) := (blk_cell BK163.out 1).trans rfl;have hcz27_2 : w25.cell? ⟨gb163,2,none⟩ = some (.int .i64 0) := (blk_cell BK163.out 2).trans rfl;have hcz27_3 : w25.cell? ⟨gb163,3,none⟩ = some (.int .i64 0) := (blk_cell BK163.out 3).trans rfl;have hfz27_0 := blk_frozen BK163.out 0;have hfz27_1 := blk_frozen BK163.out 1;have hfz27_2 := blk_frozen BK163.out 2;have hfz27_3 := blk_frozen BK163.out 3;obtain ⟨Ao28,co28,eo28⟩ := Kd.S_slice HO160.out;subst eo28) | ((with_reducible refine gate_store (t := 29) (p := 2) rfl ?_);refine store_event (t := 29) (p := 2) (v := ?vo_w29) (w1 := ((((w25.setCell ⟨gb163,0,none⟩ (.int .i64 t157)).setCell ⟨gb163,1,none⟩ (.slice Ao28 t158.length co28)).setCell ⟨gb163,2,none⟩ (.int .i64 t161)).setCell ⟨gb163,3,none⟩ (.int .i64 t162))) ?hg ?ho ?hn ?hr ?_;(case ho => rfl);(case hg => rfl);(case hn => rfl);(case hr => first | (go_simp;done) | (go_simp;rfl));intro w29 hw;have n0_ : Aside0 (Kd.S (Kd.slice 35 k35) 33 w29 w.heap.size (fun k_ => some k_ ≠ (.slice Ao28 t158.length co28 : Value).ownBlock) (.slice Ao23 t151.length co23) t151) := ⟨(by rw [hw];exact (by (with_reducible repeat (first | apply Kd.S_alloc | apply Kd.S_drewN | apply Kd.S_drew));exact Kd.S_mono (Kd.S_far (p := ⟨gb163,3,none⟩) (Kd.S_far (p := ⟨gb163,2,none⟩) (Kd.S_far (p := ⟨gb163,1,none⟩) (Kd.S_far (p := ⟨gb163,0,none⟩) (Kd.S_types HO153.out BK163.out (by decide)) (fun _ hk => hk.2) (.int .i64 t157)) (fun _ hk => hk.2) (.slice Ao28 t158.length co28)) (fun _ hk => hk.2) (.int .i64 t161)) (fun _ hk => hk.2) (.int .i64 t162)) (fun _ hk => hk.1.2)))⟩;have n1_ : Aside0 (Kd.S (Kd.slice 35 k35) 33 w29 w.heap.size (fun k_ => some k_ ≠ (.slice Ao23 t151.length co23 : Value).ownBlock) (.slice Ao28 t158.length co28) t158) := ⟨(by rw [hw];exact (by (with_reducible repeat (first | apply Kd.S_alloc | apply Kd.S_drewN | apply Kd.S_drew));exact Kd.S_mono (Kd.S_far (p := ⟨gb163,3,none⟩) (Kd.S_far (p := ⟨gb163,2,none⟩) (Kd.S_far (p := ⟨gb163,1,none⟩) (Kd.S_far (p := ⟨gb163,0,none⟩) (Kd.S_types HO160.out BK163.out (by decide)) (fun _ hk => hk.2) (.int .i64 t157)) (fun _ hk => hk.2) (.slice Ao28 t158.length co28)) (fun _ hk => hk.2) (.int .i64 t161)) (fun _ hk => hk.2) (.int .i64 t162)) (fun _ hk => hk.1.2)))⟩;have n2_ : Aside0 (w29.heap[gb156]? = some (.cells #[.int .i64 t150,.slice Ao23 t151.length co23,.int .i64 t154,.int .i64 t155] 29 (0,0))) := ⟨(by rw [hw];exact (by (with_reducible repeat (first | refine blk_drewN ?_ _ | refine blk_drew ?_ | refine blk_alloc ?_ _));refine blk_far ?_ NB156_163.out _;(with_reducible repeat (first | refine blk_drewN ?_ _ | refine blk_drew ?_ | refine blk_alloc ?_ _));refine blk_far ?_ NB156_163.out _;(with_reducible repeat (first | refine blk_drewN ?_ _ | refine blk_drew ?_ | refine blk_alloc ?_ _));refine blk_far ?_ NB156_163.out _;(with_reducible repeat (first | refine blk_drewN ?_ _ | refine blk_drew ?_ | refine blk_alloc ?_ _));refine blk_far ?_ NB156_163.out _;(with_reducible repeat (first | refine blk_drewN ?_ _ | refine blk_drew ?_ | refine blk_alloc ?_ _));exact BK156.out))⟩;have n3_ : Aside0 (w29.heap[gb163]? = some (.cells #[.int .i64 t157,.slice Ao28 t158.length co28,.int .i64 t161,.int .i64 t162] 29 (0,0))) := ⟨(by rw [hw];exact (by (with_reducible repeat (first | refine blk_drewN ?_ _ | refine blk_drew ?_ | refine blk_alloc ?_ _));refine blk_put (cs := #[.int .i64 t157,.slice Ao28 t158.length co28,.int .i64 t161,.int .i64 0]) ?_ 3 _ rfl;(with_reducible repeat (first | refine blk_drewN ?_ _ | refine blk_drew ?_ | refine blk_alloc ?_ _));refine blk_put (cs := #[.int .i64 t157,.slice Ao28 t158.length co28,.int .i64 0,.int .i64 0]) ?_ 2 _ rfl;(with_reducible repeat (first | refine blk_drewN ?_ _ | refine blk_drew ?_ | refine blk_alloc ?_ _));refine blk_put (cs := #[.int .i64 t157,.slice none 0 0,.int .i64 0,.int .i64 0]) ?_ 1 _ rfl;(with_reducible repeat (first | refine blk_drewN ?_ _ | refine blk_drew ?_ | refine blk_alloc ?_ _));refine blk_put (cs := #[.int .i64 0,.slice none 0 0,.int .i64 0,.int .i64 0]) ?_ 0 _ rfl;(with_reducible repeat (first | refine blk_drewN ?_ _ | refine blk_drew ?_ | refine blk_alloc ?_ _));exact BK163.out))⟩;have n4_ : Aside0 (Below w.heap.size w w29) := ⟨(by rw [hw];exact (by repeat (first | (with_reducible first | exact HB.out | apply below_alloc | apply pw_below_drewN | apply below_drew1 | refine below_set ?_ GE156.out | refine below_set ?_ GE163.out) | exact HB.out)))⟩;clear hw;clear HO153;clear HO160;clear BK156;clear BK163;clear HB;have HO153 := n0_;have HO160 := n1_;have BK156 := n2_;have BK163 := n3_;have HB := n4_;clear n0_ n1_ n2_ n3_ n4_;have hcz30_0 : w29.cell? ⟨gb156,0,none⟩ = some (.int .i64 t150) := (blk_cell BK156.out 0).trans rfl;have hcz30_1 : w29.cell? ⟨gb156,1,none⟩ = some (.slice Ao23 t151.length co23) := (blk_cell BK156.out 1).trans rfl;have hcz30_2 : w29.cell? ⟨gb156,2,none⟩ = some (.int .i64 t154) := (blk_cell BK156.out 2).trans rfl;have hcz30_3 : w29.cell? ⟨gb156,3,none⟩ = some (.int .i64 t155) := (blk_cell BK156.out 3).trans rfl;have hfz30_0 := blk_frozen BK156.out 0;have hfz30_1 := blk_frozen BK156.out 1;have hfz30_2 := blk_frozen BK156.out 2;have hfz30_3 := blk_frozen BK156.out 3;have p164 : 0 ≤ (0 : Int) := (by omega);have q164 : 0 < (t151.length : Int) := of_decide_eq_true au3;obtain ⟨ad164,A164_0,c164_0,e164,hx164_0,hl164_0,hi164_0⟩ := at_L3 (Kd.S_reads' HO153.out).2.2 0 p164 q164;cases e164;obtain ⟨ce164,hce164,hMe164,hcc164⟩ := Kd.S_get HO153.out [] 0 p164 (by first | exact q164 | exact of_decide_eq_true au3 | (have e_ := (Kd.S_reads' HO153.out).1;omega));obtain ⟨ve164_0,rfl,ge164_0⟩ := hMe164;have hv164_0 := hcc164 0 _ rfl;rw [Nat.add_zero,show ((Kd.slice 35 k35)).sz = 1 from rfl,Nat.mul_one] at hv164_0;replace hv164_0 := Option.some.inj (hv164_0.symm.trans hx164_0);rw [hv164_0] at ge164_0;have HL164_0 := Aside0.mk (show Kd.R k35 35 _ _ _ _ (rd_L3 t151 0) from ge164_0);clear hv164_0 ge164_0;clear hcc164 hce164;have qi164 : (0 < t151.length) = True := eq_true (by omega);(try rw [show ((0 : Int)).toNat = 0 from rfl] at hx164_0);(try rw [Addr.add_zero'] at hx164_0);have HR164_0 := Aside0.mk hi164_0;have HC164_0 := Aside0.mk hl164_0;clear hi164_0 hl164_0;replace p164 := eq_true p164;replace q164 := eq_true q164;have p165 : 0 ≤ (0 : Int) := (by omega);have q165 : 0 < (t151.length : Int) := of_decide_eq_true au3;obtain ⟨ad165,A165_0,c165_0,e165,hx165_0,hl165_0,hi165_0⟩ := at_L3 (Kd.S_reads' HO153.out).2.2 0 p165 q165;obtain rfl : ad164 = ad165 := (by injection e165);obtain ⟨ce165,hce165,hMe165,hcc165⟩ := Kd.S_get HO153.out [] 0 p165 (by first | exact q165 | exact of_decide_eq_true au3 | (have e_ := (Kd.S_reads' HO153.out).1;omega));obtain ⟨ve165_0,rfl,ge165_0⟩ := hMe165;have hv165_0 := hcc165 0 _ rfl;rw [Nat.add_zero,show ((Kd.slice 35 k35)).sz = 1 from rfl,Nat.mul_one] at hv165_0;replace hv165_0 := Option.some.inj (hv165_0.symm.trans hx165_0);rw [hv165_0] at ge165_0;have HL165_0 := Aside0.mk (show Kd.R k35 35 _ _ _ _ (rd_L3 t151 0) from ge165_0);clear hv165_0 ge165_0;clear hcc165 hce165;have qi165 : (0 < t151.length) = True := eq_true (by omega);(try rw [show ((0 : Int)).toNat = 0 from rfl] at hx165_0);(try rw [Addr.add_zero'] at hx165_0);have HR165_0 := Aside0.mk hi165_0;have HC165_0 := Aside0.mk hl165_0;clear hi165_0 hl165_0;replace p165 := eq_true p165;replace q165 := eq_true q165;have ea_ := Option.some.inj (hx164_0.symm.trans hx165_0);injection ea_ with ea_ en_ ec_;subst ea_;subst ec_;clear en_;have p166 : 0 ≤ (2 : Int) := (by omega);have q166 : 2 < ((rd_L3 t151 0).length : Int) := of_decide_eq_true au3;obtain ⟨ad166,e166,hx166_0,hx166_1⟩ := at_T35 (by repeat (first | (with_reducible exact HR165_0.out) | (with_reducible refine Kd.C_alloc ?_ _) | (with_reducible refine Kd.C_drewN ?_ _) | (with_reducible refine Kd.C_drew ?_) | exact HR165_0.out)) 2 p166 q166;cases e166;(try simp only [show (2 : Int).toNat = 2 from rfl,Nat.reduceMul,Nat.reduceEqDiff,Go.Addr.add,↓reduceIte] at hx166_0);(try simp only [show (2 : Int).toNat = 2 from rfl,Nat.reduceMul,Nat.reduceEqDiff,Go.Addr.add,↓reduceIte] at hx166_1);have qi166 : (2 < (rd_L3 t151 0).length) = True := eq_true (by omega);(try rw [show ((2 : Int)).toNat = 2 from rfl] at hx166_0);(try rw [show 2 * 2 = 4 from rfl] at hx166_0);(try rw [show ((2 : Int)).toNat = 2 from rfl] at hx166_1);(try rw [show 2 * 2 = 4 from rfl] at hx166_1);replace p166 := eq_true p166;replace q166 := eq_true q166;have hcz31_0 : w29.cell? ⟨gb163,0,none⟩ = some (.int .i64 t157) := (blk_cell BK163.out 0).trans rfl;have hcz31_1 : w29.cell? ⟨gb163,1,none⟩ = some (.slice Ao28 t158.length co28) := (blk_cell BK163.out 1).trans rfl;have hcz31_2 : w29.cell? ⟨gb163,2,none⟩ = some (.int .i64 t161) := (blk_cell BK163.out 2).trans rfl;have hcz31_3 : w29.cell? ⟨gb163,3,none⟩ = some (.int .i64 t162) := (blk_cell BK163.out 3).trans rfl;have hfz31_0 := blk_frozen BK163.out 0;have hfz31_1 := blk_frozen BK163.out 1;have hfz31_2 := blk_frozen BK163.out 2;have hfz31_3 := blk_frozen BK163.out 3;have p167 : 0 ≤ (0 : Int) := (by omega);have q167 : 0 < (t158.length : Int) := of_decide_eq_true au3;obtain ⟨ad167,A167_0,c167_0,e167,hx167_0,hl167_0,hi167_0⟩ := at_L3 (Kd.S_reads' HO160.out).2.2 0 p167 q167;cases e167;obtain ⟨ce167,hce167,hMe167,hcc167⟩ := Kd.S_get HO160.out [] 0 p167 (by first | exact q167 | exact of_decide_eq_true au3 | (have e_ := (Kd.S_reads' HO160.out).1;omega));obtain ⟨ve167_0,rfl,ge167_0⟩ := hMe167;have hv167_0 := hcc167 0 _ rfl;rw [Nat.add_zero,show ((Kd.slice 35 k35)).sz = 1 from rfl,Nat.mul_one] at hv167_0;replace hv167_0 := Option.some.inj (hv167_0.symm.trans hx167_0);rw [hv167_0] at ge167_0;have HL167_0 := Aside0.mk (show Kd.R k35 35 _ _ _ _ (rd_L3 t158 0) from ge167_0);clear hv167_0 ge167_0;clear hcc167 hce167;have qi167 : (0 < t158.length) = True := eq_true (by omega);(try rw [show ((0 : Int)).toNat = 0 from rfl] at hx167_0);(try rw [Addr.add_zero'] at hx167_0);have HR167_0 := Aside0.mk hi167_0;have HC167_0 := Aside0.mk hl167_0;clear hi167_0 hl167_0;replace p167 := eq_true p167;replace q167 := eq_true q167;have p168 : 0 ≤ (1 : Int) := (by omega);have q168 : 1 < (t158.length : Int) := of_decide_eq_true au3;obtain ⟨ad168,A168_0,c168_0,e168,hx168_0,hl168_0,hi168_0⟩ := at_L3 (Kd.S_reads' HO160.out).2.2 1 p168 q168;obtain rfl : ad167 = ad168 := (by injection e168);obtain ⟨ce168,hce168,hMe168,hcc168⟩ := Kd.S_get HO160.out [] 1 p168 (by first | exact q168 | exact of_decide_eq_true au3 | (have e_ := (Kd.S_reads' HO160.out).1;omega));obtain ⟨ve168_0,rfl,ge168_0⟩ := hMe168;have hv168_0 := hcc168 0 _ rfl;rw [Nat.add_zero,show ((Kd.slice 35 k35)).sz = 1 from rfl,Nat.mul_one] at hv168_0;replace hv168_0 := Option.some.inj (hv168_0.symm.trans hx168_0);rw [hv168_0] at ge168_0;have HL168_0 := Aside0.mk (show Kd.R k35 35 _ _ _ _ (rd_L3 t158 1) from ge168_0);clear hv168_0 ge168_0;clear hcc168 hce168;(try simp only [show (1 : Int).toNat = 1 from rfl,Nat.reduceMul,Nat.reduceEqDiff,Go.Addr.add,↓reduceIte] at hx168_0);have qi168 : (1 < t158.length) = True := eq_true (by omega);(try rw [show ((1 : Int)).toNat = 1 from rfl] at hx168_0);have HR168_0 := Aside0.mk hi168_0;have HC168_0 := Aside0.mk hl168_0;clear hi168_0 hl168_0;replace p168 := eq_true p168;replace q168 := eq_true q168;have p169 : 0 ≤ (1 : Int) := (by omega);have q169 : 1 < (t158.length : Int) := of_decide_eq_true au3;obtain ⟨ad169,A169_0,c169_0,e169,hx169_0,hl169_0,hi169_0⟩ := at_L3 (Kd.S_reads' HO160.out).2.2 1 p169 q169;obtain rfl : ad167 = ad169 := (by injection e169);obtain ⟨ce169,hce169,hMe169,hcc169⟩ := Kd.S_get HO160.out [] 1 p169 (by first | exact q169 | exact of_decide_eq_true au3 | (have e_ := (Kd.S_reads' HO160.out).1;omega));obtain ⟨ve169_0,rfl,ge169_0⟩ := hMe169;have hv169_0 := hcc169 0 _ rfl;rw [Nat.add_zero,show ((Kd.slice 35 k35)).sz = 1 from rfl,Nat.mul_one] at hv169_0;replace hv169_0 := Option.some.inj (hv169_0.symm.trans hx169_0);rw [hv169_0] at ge169_0;have HL169_0 := Aside0.mk (show Kd.R k35 35 _ _ _ _ (rd_L3 t158 1) from ge169_0);clear hv169_0 ge169_0;clear hcc169 hce169;(try simp only [show (1 : Int).toNat = 1 from rfl,Nat.reduceMul,Nat.reduceEqDiff,Go.Addr.add,↓reduceIte] at hx169_0);have qi169 : (1 < t158.length) = True := eq_true (by omega);(try rw [show ((1 : Int)).toNat = 1 from rfl] at hx169_0);have HR169_0 := Aside0.mk hi169_0;have HC169_0 := Aside0.mk hl169_0;clear hi169_0 hl169_0;replace p169 := eq_true p169;replace q169 := eq_true q169;have ea_ := Option.some.inj (hx168_0.symm.trans hx169_0);injection ea_ with ea_ en_ ec_;subst ea_;subst ec_;clear en_;have p170 : 0 ≤ (1 : Int) := (by omega);have q170 : 1 < ((rd_L3 t158 1).length : Int) := of_decide_eq_true au3;obtain ⟨ad170,e170,hx170_0,hx170_1⟩ := at_T35 (by repeat (first | (with_reducible exact HR169_0.out) | (with_reducible refine Kd.C_alloc ?_ _) | (with_reducible refine Kd.C_drewN ?_ _) | (with_reducible refine Kd.C_drew ?_) | exact HR169_0.out)) 1 p170 q170;cases e170;(try simp only [show (1 : Int).toNat = 1 from rfl,Nat.reduceMul,Nat.reduceEqDiff,Go.Addr.add,↓reduceIte] at hx170_0);(try simp only [show (1 : Int).toNat = 1 from rfl,Nat.reduceMul,Nat.reduceEqDiff,Go.Addr.add,↓reduceIte] at hx170_1);have qi170 : (1 < (rd_L3 t158 1).length) = True := eq_true (by omega);(try rw [show ((1 : Int)).toNat = 1 from rfl] at hx170_0);(try rw [show 1 * 2 = 2 from rfl] at hx170_0);(try rw [show ((1 : Int)).toNat = 1 from rfl] at hx170_1);(try rw [show 1 * 2 = 2 from rfl] at hx170_1);replace p170 := eq_true p170;replace q170 := eq_true q170))
                go_ret
                exact ⟨au2,by repeat (first | (with_reducible first | exact HB.out | apply below_alloc | apply pw_below_drewN | apply below_drew1 | refine below_set ?_ GE156.out | refine below_set ?_ GE163.out) | exact HB.out)⟩
                rename_i hx_
                exfalso
                apply hx_
                have h1_ := hc18
                rw [Bool.and_eq_true] at h1_
                exact ⟨by simpa using h1_.1,by simpa using h1_.2⟩
               ·rw [if_neg c18] at H
                have c18b0 : ((((rd_T35 (rd_L3 t158 1) 1).f0).toList) == ([] : List UInt8) && (((rd_T35 (rd_L3 t158 1) 1).f1) == 0)) = false := by simpa using c18
                (try (have c18b1 : decide ((((rd_T35 (rd_L3 t158 1) 1).f0).toList) = ([] : List UInt8) && (((rd_T35 (rd_L3 t158 1) 1).f1) == 0)) = false := by simpa using c18))
                (try (have c18b2 : ((((rd_T35 (rd_L3 t158 1) 1).f0).toList) == ([] : List UInt8) && (((rd_T35 (rd_L3 t158 1) 1).f1) == 0)) = false := by simpa using c18))
                (try (have c18b3 : ¬ ((((rd_T35 (rd_L3 t158 1) 1).f0).toList) = ([] : List UInt8) && (((rd_T35 (rd_L3 t158 1) 1).f1) == 0)) := by simpa using c18))
                clear c18
                obtain rfl := Option.some.inj H
                cases hr_
              ·rw [if_neg c17] at H
               exact absurd H (by simp)
             ·rw [if_neg c16] at H
              have c16b0 : (((rd_L3 t158 1).length : Int) == 2) = false := beq_eq_false_iff_ne.mpr c16
              have c16b1 : (((rd_L3 t158 1).length : Int) != 2) = true := bne_iff_ne.mpr c16
              obtain rfl := Option.some.inj H
              cases hr_
            ·rw [if_neg c15] at H
             exact absurd H (by simp)
           ·rw [if_neg c14] at H
            have c14b0 : (((rd_L3 t158 0).length : Int) == 1) = false := beq_eq_false_iff_ne.mpr c14
            have c14b1 : (((rd_L3 t158 0).length : Int) != 1) = true := bne_iff_ne.mpr c14
            obtain rfl := Option.some.inj H
            cases hr_
          ·rw [if_neg c13] at H
           exact absurd H (by simp)
         ·rw [if_neg c12] at H
          have c12b0 : ((t158.length : Int) == 3) = false := beq_eq_false_iff_ne.mpr c12
          have c12b1 : ((t158.length : Int) != 3) = true := bne_iff_ne.mpr c12
          obtain rfl := Option.some.inj H
          cases hr_
        ·rw [if_neg c11] at H
         have c11b0 : (t154 == 0 && (t155 == 3)) = false := by simpa using c11
         (try (have c11b1 : decide (t154 = 0 && (t155 == 3)) = false := by simpa using c11))
         (try (have c11b2 : (t154 == 0 && (t155 == 3)) = false := by simpa using c11))
         (try (have c11b3 : ¬ (t154 = 0 && (t155 == 3)) := by simpa using c11))
         clear c11
         obtain rfl := Option.some.inj H
         cases hr_
       ·rw [if_neg c10] at H
        have c10b0 : ((((rd_T35 (rd_L3 t151 0) 2).f0).toList) == ([97] : List UInt8) && (((rd_T35 (rd_L3 t151 0) 2).f1) == 1)) = false := by simpa using c10
        (try (have c10b1 : decide ((((rd_T35 (rd_L3 t151 0) 2).f0).toList) = ([97] : List UInt8) && (((rd_T35 (rd_L3 t151 0) 2).f1) == 1)) = false := by simpa using c10))
        (try (have c10b2 : ((((rd_T35 (rd_L3 t151 0) 2).f0).toList) == ([97] : List UInt8) && (((rd_T35 (rd_L3 t151 0) 2).f1) == 1)) = false := by simpa using c10))
        (try (have c10b3 : ¬ ((((rd_T35 (rd_L3 t151 0) 2).f0).toList) = ([97] : List UInt8) && (((rd_T35 (rd_L3 t151 0) 2).f1) == 1)) := by simpa using c10))
        clear c10
        obtain rfl := Option.some.inj H
        cases hr_
      ·rw [if_neg c9] at H
       exact absurd H (by simp)
     ·rw [if_neg c8] at H
      have c8b0 : (((rd_L3 t151 0).length : Int) == 4) = false := beq_eq_false_iff_ne.mpr c8
      have c8b1 : (((rd_L3 t151 0).length : Int) != 4) = true := bne_iff_ne.mpr c8
      obtain rfl := Option.some.inj H
      cases hr_
    ·rw [if_neg c7] at H
     exact absurd H (by simp)
   ·rw [if_neg c6] at H
    have c6b0 : ((t151.length : Int) == 1) = false := beq_eq_false_iff_ne.mpr c6
    have c6b1 : ((t151.length : Int) != 1) = true := bne_iff_ne.mpr c6
    obtain rfl := Option.some.inj H
    cases hr_
  ·rw [if_neg c5] at H
   have c5b0 : (t150 == 5) = false := beq_eq_false_iff_ne.mpr c5
   have c5b1 : (t150 != 5) = true := bne_iff_ne.mpr c5
   obtain rfl := Option.some.inj H
   cases hr_
 ·rw [if_neg c2] at H
  have c2b0 : (t149 == 1) = false := beq_eq_false_iff_ne.mpr c2
  have c2b1 : (t149 != 1) = true := bne_iff_ne.mpr c2
  obtain rfl := Option.some.inj H
  cases hr_
def layout_Rows.f (a0 : ByteArray) (a1 : ByteArray) (a2 : Int) : Option (Int) := (layout_Places.f a0 a1 a2).bind fun t234 => (if 0 ≤ (wrap64 ((t234.length : Int) - 1)) then (if (wrap64 ((t234.length : Int) - 1)) < (t234.length : Int) then (some (wrap64 (((rd_T27 t234 (wrap64 ((t234.length : Int) - 1))).f0) + 1))) else (none)) else (none))
set_option maxHeartbeats 8000000 in
set_option maxRecDepth 100000 in
theorem layout_Rows.calls (a0 : ByteArray) (a1 : ByteArray) (a2 : Int) (r : Int) (w : World) (hT : Lib.Utf8Tabs 0 1 w) (h : layout_Rows.f a0 a1 a2 = some r) :
  Calls Tryd.prog 27 #[.string a0,.string a1,.int .i64 a2] w fun e w' => e = .returned (.int .i64 r) ∧ Below w.heap.size w w' := by
 have HT := Aside0.mk hT
 clear hT
 have HB := Aside0.mk (Below.refl w.heap.size w)
 have H : ((layout_Places.f a0 a1 a2).bind fun t234 => (if 0 ≤ (wrap64 ((t234.length : Int) - 1)) then (if (wrap64 ((t234.length : Int) - 1)) < (t234.length : Int) then (some (wrap64 (((rd_T27 t234 (wrap64 ((t234.length : Int) - 1))).f0) + 1))) else (none)) else (none))) = some r := h
 clear h
 replace H := Option.bind_eq_some_iff.mp H
 obtain ⟨t234,A40,H⟩ := H
 replace H : (if 0 ≤ (wrap64 ((t234.length : Int) - 1)) then (if (wrap64 ((t234.length : Int) - 1)) < (t234.length : Int) then (some (wrap64 (((rd_T27 t234 (wrap64 ((t234.length : Int) - 1))).f0) + 1))) else (none)) else (none)) = some r := H
 have A4 := Aside0.mk A40
 clear A40
 obtain ⟨ji5,hji5⟩ : ∃ j_ : Int,(wrap64 ((t234.length : Int) - 1)) = j_ := ⟨_,rfl⟩
 replace H : (if 0 ≤ (ji5) then (if (ji5) < (t234.length : Int) then (some (wrap64 (((rd_T27 t234 (ji5)).f0) + 1))) else (none)) else (none)) = some r := by first | (rw [hji5] at H;exact H) | (simp only [hji5] at H ⊢;exact H)
 (try rw [hji5] at A4)
 have hji5w : (IntKind.i64.wrap ((t234.length : Int) - 1)) = ji5 := (i64_w _).trans hji5
 by_cases c6 : 0 ≤ (ji5)
 ·rw [if_pos c6] at H
  have c6b0 : decide (0 ≤ (ji5)) = true := decide_eq_true c6
  clear c6
  by_cases c7 : (ji5) < (t234.length : Int)
  ·rw [if_pos c7] at H
   have c7b0 : decide ((ji5) < (t234.length : Int)) = true := decide_eq_true c7
   clear c7
   obtain rfl := Option.some.inj H
   go_enter Tryd.func27,Tryd.ntmps27
   go_wp2_with (first | ((with_reducible refine gate_callee (f := 25) rfl ?_);refine goesL_ (some 11) rfl rfl Tryd.func25 (by kernel_rfl) rfl #[.string a0,.string a1,.int .i64 a2] rfl au1 ?_;(with_reducible refine (layout_Places.calls a0 a1 a2 t234 _ ?side1 A4.out).mono ?_);(case side1 => exact tabs_below HT.out au0);rintro e w8 ⟨v235,rfl,ho0,hb⟩;refine ⟨_,rfl,?_⟩;have n0_ := Aside0.mk (Kd.R_lower ho0 (below_size au0));have n1_ := Aside0.mk (below_step au0 hb);clear HB;have HO236 := n0_;have HB := n1_;clear n0_ n1_;(try clear hb);(try clear hb2);(try clear hk);(try clear hi);(try clear ho0);obtain ⟨Ao9,co9,eo9⟩ := Kd.R_slice HO236.out;subst eo9;have p237 : 0 ≤ ((ji5) : Int) := of_decide_eq_true au3;have q237 : (ji5) < (t234.length : Int) := of_decide_eq_true au3;obtain ⟨ad237,e237,hx237_0,hx237_1⟩ := at_T27 (Kd.R_reads' HO236.out).2.2 (ji5) p237 q237;cases e237;replace p237 := eq_true p237;replace q237 := eq_true q237))
   go_ret
   exact ⟨by first | rfl | (simp [errW_none,errW_some] <;> rfl) | (simp only [← hji5];first | rfl | (simp [errW_none,errW_some] <;> rfl)) | (simp [*,errW_none,errW_some] <;> rfl),au0⟩
  ·rw [if_neg c7] at H
   exact absurd H (by simp)
 ·rw [if_neg c6] at H
  exact absurd H (by simp)
end Go.Proofs.YtnpjaaldppemlaaDoor.U
end
section
namespace Go.Proofs.YtnpjaaldppemlaaDoor.U
open Go.RowKit Go.Proofs.YtnpjaaldppemlaaDoorW.PrintWords Go.Proofs.YtnpjaaldppemlaaDoorW.PrintLast Go.Proofs.YtnpjaaldppemlaaDoorW.PrintMore
attribute [local go_sem] max2_int min2_int max_two min_two max_three min_three max_four min_four   -- for this text's walks alone
set_option linter.unusedVariables false
set_option linter.unusedSimpArgs false
def bodkinlaw20_LayoutLays.l0 : Nat → List (S23) → Int → Option (Bool)
 | 0,_,_ => none
 | k + 1,x0,x3 => if x3 < (x0.length : Int) then (if 0 ≤ x3 then ((bodkinref20_Lay.f ((rd_T23 x0 x3).f0) ((rd_T23 x0 x3).f1) ((rd_T23 x0 x3).f2) ((rd_T23 x0 x3).f3)).bind fun bt346 => ((layout_Lay.f ((rd_T23 x0 x3).f0) ((rd_T23 x0 x3).f1) ((rd_T23 x0 x3).f2) ((rd_T23 x0 x3).f3)).bind fun bt353 => ((bodkinref20_Same.f k bt353.1 bt353.2.1 bt353.2.2.1 bt353.2.2.2 bt346.1 bt346.2.1 bt346.2.2.1 bt346.2.2.2).bind fun t359 => (if t359 = true then ((layout_Rows.f ((rd_T23 x0 x3).f0) ((rd_T23 x0 x3).f1) ((rd_T23 x0 x3).f3)).bind fun t360 => (if t360 = (bt346.2.1.length : Int) then (bodkinlaw20_LayoutLays.l0 k x0 (wrap64 (x3 + 1))) else (some false))) else (some false))))) else (none)) else (some true)
def bodkinlaw20_LayoutLays.f (k : Nat) (l0 : List (S23)) : Option (Bool) := (bodkinlaw20_awake.f k).bind fun t343 => (if t343 = true then (bodkinlaw20_LayoutLays.l0 k l0 0) else (some false))
def bodkinlaw20_LayoutLays.T8 : Bool × List (List Nat × List Nat) := (true,[([],[]),([0],[0]),([],[]),([2],[2]),([],[]),([4],[4]),([],[]),([6],[6]),([1,3,5,7],[1,3,5,7]),([],[]),([8,9,8],[8,9]),([10],[10]),([11,10],[11]),([12],[12]),([13,12],[12,13]),([12],[12]),([15,12],[12,15]),([12],[12]),([17,12],[12,17]),([14,16,18,12,12],[12,14,16,18]),([12],[12]),([20,12],[12,20]),([21,12],[12,21]),([19,22,12],[12,19,22]),([12,23],[12,23])])
def bodkinlaw20_LayoutLays.B8 : List Nat := [0,1,0,4,0,16,0,64,255,0,1023,2047,4095,8191,16383,8191,40959,8191,139263,524287,8191,1056767,3153919,8388607,16777215]
theorem bodkinlaw20_LayoutLays.tab8 : rtab .any (opsOf Tryd.f7 8) = bodkinlaw20_LayoutLays.T8 := by kernel_rfl
theorem bodkinlaw20_LayoutLays.bits8 : waitsOk bodkinlaw20_LayoutLays.T8.2 bodkinlaw20_LayoutLays.B8 = true := by kernel_rfl
set_option maxHeartbeats 8000000 in
set_option maxRecDepth 100000 in
theorem bodkinlaw20_LayoutLays.calls (k : Nat) (A0 : Option Addr) (c0 : Nat) (l0 : List (S23)) (r : Bool) (hr_ : r = true) (w : World) (hr0 : Kd.C k23 w A0 l0.length l0) (hc0 : l0.length ≤ c0) (hT : Lib.Utf8Tabs 0 1 w) (h : bodkinlaw20_LayoutLays.f k l0 = some r) :
  Calls Tryd.prog 7 #[.slice A0 l0.length c0] w fun e w' => e = .returned (.bool r) ∧ Below w.heap.size w w' := by
 have hu23 := Tryd.underlying23
 have hu29 := Tryd.underlying29
 have HT := Aside0.mk hT
 clear hT
 have HR0 := Aside0.mk hr0
 have HC0 := Aside0.mk hc0
 clear hr0 hc0
 have HB := Aside0.mk (Below.refl w.heap.size w)
 have H : ((bodkinlaw20_awake.f k).bind fun t343 => (if t343 = true then (bodkinlaw20_LayoutLays.l0 k l0 0) else (some false))) = some r := h
 clear h
 replace H := Option.bind_eq_some_iff.mp H
 obtain ⟨t343,A20,H⟩ := H
 replace H : (if t343 = true then (bodkinlaw20_LayoutLays.l0 k l0 0) else (some false)) = some r := H
 have A2 := Aside0.mk A20
 clear A20
 by_cases c3 : t343 = true
 ·subst c3
  have H1 : (bodkinlaw20_LayoutLays.l0 k l0 0) = some r := by rw [if_pos rfl] at H;exact H
  clear H
  have H := H1
  clear H1
  have H' := Aside0.mk H
  clear H
  go_enter Tryd.func7,Tryd.ntmps7
  go_wp2_with (first | ((with_reducible refine gate_callee (f := 12) rfl ?_);refine goesL_ (some 6) rfl rfl Tryd.func12 (by kernel_rfl) rfl #[] rfl au1 ?_;(with_reducible refine (bodkinlaw20_awake.calls k true rfl _ ?side1 A2.out).mono ?_);(case side1 => exact tabs_below HT.out au0);rintro e w4 ⟨rfl,hb⟩;refine ⟨_,rfl,?_⟩;have n0_ := Aside0.mk (below_step au0 hb);clear HB;have HB := n0_;clear n0_;(try clear hb);(try clear hb2);(try clear hk);(try clear hi)))
  go_loopg [3] k (fun kq v3 w' => ∃ (x3_1 : Int),v3 = .int .i64 x3_1 ∧ Aside0 (bodkinlaw20_LayoutLays.l0 kq l0 x3_1 = some r) ∧ Aside0 (kq ≤ k) ∧ Aside0 (Below w.heap.size w w'))
  case atStart => exact ⟨(0),au4,H',⟨Nat.le_refl _⟩,⟨au0⟩⟩
  case round =>
   clear H'
   try clear c1
   try clear p2
   try clear c3
   obtain ⟨x3_1,rfl,HA,HK1,HB⟩ := hrel
   cases gk with
   | zero => exact absurd HA.out (by simp [bodkinlaw20_LayoutLays.l0])
   | succ k1 =>
    have H := HA.out
    clear HA
    simp only [bodkinlaw20_LayoutLays.l0] at H
    by_cases c5 : x3_1 < (l0.length : Int)
    ·rw [if_pos c5] at H
     have c5b0 : decide (x3_1 < (l0.length : Int)) = true := decide_eq_true c5
     clear c5
     by_cases c6 : 0 ≤ x3_1
     ·rw [if_pos c6] at H
      have c6b0 : decide (0 ≤ x3_1) = true := decide_eq_true c6
      clear c6
      replace H := Option.bind_eq_some_iff.mp H
      obtain ⟨⟨t346,t347,t350,t351⟩,A70,H⟩ := H
      replace H : ((layout_Lay.f ((rd_T23 l0 x3_1).f0) ((rd_T23 l0 x3_1).f1) ((rd_T23 l0 x3_1).f2) ((rd_T23 l0 x3_1).f3)).bind fun bt353 => ((bodkinref20_Same.f k1 bt353.1 bt353.2.1 bt353.2.2.1 bt353.2.2.2 t346 t347 t350 t351).bind fun t359 => (if t359 = true then ((layout_Rows.f ((rd_T23 l0 x3_1).f0) ((rd_T23 l0 x3_1).f1) ((rd_T23 l0 x3_1).f3)).bind fun t360 => (if t360 = (t347.length : Int) then (bodkinlaw20_LayoutLays.l0 k1 l0 (wrap64 (x3_1 + 1))) else (some false))) else (some false)))) = some r := H
      have A7 := Aside0.mk A70
      clear A70
      replace H := Option.bind_eq_some_iff.mp H
      obtain ⟨⟨t353,t354,t357,t358⟩,A80,H⟩ := H
      replace H : ((bodkinref20_Same.f k1 t353 t354 t357 t358 t346 t347 t350 t351).bind fun t359 => (if t359 = true then ((layout_Rows.f ((rd_T23 l0 x3_1).f0) ((rd_T23 l0 x3_1).f1) ((rd_T23 l0 x3_1).f3)).bind fun t360 => (if t360 = (t347.length : Int) then (bodkinlaw20_LayoutLays.l0 k1 l0 (wrap64 (x3_1 + 1))) else (some false))) else (some false))) = some r := H
      have A8 := Aside0.mk A80
      clear A80
      replace H := Option.bind_eq_some_iff.mp H
      obtain ⟨t359,A90,H⟩ := H
      replace H : (if t359 = true then ((layout_Rows.f ((rd_T23 l0 x3_1).f0) ((rd_T23 l0 x3_1).f1) ((rd_T23 l0 x3_1).f3)).bind fun t360 => (if t360 = (t347.length : Int) then (bodkinlaw20_LayoutLays.l0 k1 l0 (wrap64 (x3_1 + 1))) else (some false))) else (some false)) = some r := H
      have A9 := Aside0.mk A90
      clear A90
      by_cases c10 : t359 = true
      ·subst c10
       have H1 : ((layout_Rows.f ((rd_T23 l0 x3_1).f0) ((rd_T23 l0 x3_1).f1) ((rd_T23 l0 x3_1).f3)).bind fun t360 => (if t360 = (t347.length : Int) then (bodkinlaw20_LayoutLays.l0 k1 l0 (wrap64 (x3_1 + 1))) else (some false))) = some r := by rw [if_pos rfl] at H;exact H
       clear H
       have H := H1
       clear H1
       replace H := Option.bind_eq_some_iff.mp H
       obtain ⟨t360,A110,H⟩ := H
       replace H : (if t360 = (t347.length : Int) then (bodkinlaw20_LayoutLays.l0 k1 l0 (wrap64 (x3_1 + 1))) else (some false)) = some r := H
       have A11 := Aside0.mk A110
       clear A110
       by_cases c12 : t360 = (t347.length : Int)
       ·rw [if_pos c12] at H
        have c12b0 : (t360 == (t347.length : Int)) = true := beq_iff_eq.mpr c12
        have c12b1 : (t360 != (t347.length : Int)) = false := bne_eq_false_iff_eq.mpr c12
        clear c12
        have H' := Aside0.mk H
        clear H
        have p344 : 0 ≤ (x3_1 : Int) := of_decide_eq_true au3
        have q344 : x3_1 < (l0.length : Int) := of_decide_eq_true au3
        obtain ⟨ad344,e344,hx344_0,hx344_1,hx344_2,hx344_3⟩ := at_T23 HR0.out x3_1 p344 q344
        cases e344
        replace hx344_0 := (HB.out.cell (World.block_lt_of_cell? w _ hx344_0)).trans hx344_0
        replace hx344_1 := (HB.out.cell (World.block_lt_of_cell? w _ hx344_1)).trans hx344_1
        replace hx344_2 := (HB.out.cell (World.block_lt_of_cell? w _ hx344_2)).trans hx344_2
        replace hx344_3 := (HB.out.cell (World.block_lt_of_cell? w _ hx344_3)).trans hx344_3
        replace p344 := eq_true p344
        replace q344 := eq_true q344
        try go_wp2_with (first | ((with_reducible refine gate_dst (N := 4) rfl ?_);(try (refine gate_guard (by rfl) ?_;dsimp only));refine box_event ?hg (N := 4) ?hd (cs := #[.string (⟨#[]⟩ : ByteArray),.string (⟨#[]⟩ : ByteArray),.int .i64 0,.int .i64 0]) (t := 23) ?hr ?_;(case hd => rfl);(case hg => rfl);(case hr => first | (go_simp;done) | (go_simp;rfl));intro gb345 hg w13 hbox hb;have n0_ := Aside0.mk (below_step au0 hb);have n1_ := Aside0.mk (hbox);have n2_ := Aside0.mk ((by rw [hg];exact (below_size au0) : w.heap.size ≤ gb345));have n3_ := Aside0.mk ((by rw [hg];exact (below_size au0) : w.heap.size ≤ gb345));clear HB;have HB := n0_;have BK345 := n1_;have GW345 := n2_;have GE345 := n3_;clear n0_ n1_ n2_ n3_;clear hb hbox hg;have hcz14_0 : w13.cell? ⟨gb345,0,none⟩ = some (.string (⟨#[]⟩ : ByteArray)) := (blk_cell BK345.out 0).trans rfl;have hcz14_1 : w13.cell? ⟨gb345,1,none⟩ = some (.string (⟨#[]⟩ : ByteArray)) := (blk_cell BK345.out 1).trans rfl;have hcz14_2 : w13.cell? ⟨gb345,2,none⟩ = some (.int .i64 0) := (blk_cell BK345.out 2).trans rfl;have hcz14_3 : w13.cell? ⟨gb345,3,none⟩ = some (.int .i64 0) := (blk_cell BK345.out 3).trans rfl;have hfz14_0 := blk_frozen BK345.out 0;have hfz14_1 := blk_frozen BK345.out 1;have hfz14_2 := blk_frozen BK345.out 2;have hfz14_3 := blk_frozen BK345.out 3) | ((with_reducible refine gate_callee (f := 13) rfl ?_);refine goesL_ (some 26) rfl rfl Tryd.func13 (by kernel_rfl) rfl #[.string ((rd_T23 l0 x3_1).f0),.string ((rd_T23 l0 x3_1).f1),.int .i64 ((rd_T23 l0 x3_1).f2),.int .i64 ((rd_T23 l0 x3_1).f3)] rfl au1 ?_;(with_reducible refine (bodkinref20_Lay.calls ((rd_T23 l0 x3_1).f0) ((rd_T23 l0 x3_1).f1) ((rd_T23 l0 x3_1).f2) ((rd_T23 l0 x3_1).f3) t346 t347 t350 t351 _ A7.out).mono ?_);rintro e w15 ⟨v348,rfl,ho0,hb⟩;refine ⟨_,rfl,?_⟩;have n0_ := Aside0.mk (Kd.S_lower ho0 (below_size au27));have n1_ := Aside0.mk (blk_below (g := gb345) (o := .cells #[.string ((rd_T23 l0 x3_1).f0),.string ((rd_T23 l0 x3_1).f1),.int .i64 ((rd_T23 l0 x3_1).f2),.int .i64 ((rd_T23 l0 x3_1).f3)] 23 (0,0)) (by (with_reducible repeat (first | refine blk_drewN ?_ _ | refine blk_drew ?_ | refine blk_alloc ?_ _));refine blk_put (cs := #[.string ((rd_T23 l0 x3_1).f0),.string ((rd_T23 l0 x3_1).f1),.int .i64 ((rd_T23 l0 x3_1).f2),.int .i64 0]) ?_ 3 _ rfl;(with_reducible repeat (first | refine blk_drewN ?_ _ | refine blk_drew ?_ | refine blk_alloc ?_ _));refine blk_put (cs := #[.string ((rd_T23 l0 x3_1).f0),.string ((rd_T23 l0 x3_1).f1),.int .i64 0,.int .i64 0]) ?_ 2 _ rfl;(with_reducible repeat (first | refine blk_drewN ?_ _ | refine blk_drew ?_ | refine blk_alloc ?_ _));refine blk_put (cs := #[.string ((rd_T23 l0 x3_1).f0),.string (⟨#[]⟩ : ByteArray),.int .i64 0,.int .i64 0]) ?_ 1 _ rfl;(with_reducible repeat (first | refine blk_drewN ?_ _ | refine blk_drew ?_ | refine blk_alloc ?_ _));refine blk_put (cs := #[.string (⟨#[]⟩ : ByteArray),.string (⟨#[]⟩ : ByteArray),.int .i64 0,.int .i64 0]) ?_ 0 _ rfl;(with_reducible repeat (first | refine blk_drewN ?_ _ | refine blk_drew ?_ | refine blk_alloc ?_ _));exact BK345.out) hb);have n2_ := Aside0.mk (below_step au27 hb);clear BK345;clear HB;have HO349 := n0_;have BK345 := n1_;have HB := n2_;clear n0_ n1_ n2_;(try clear hb);(try clear hb2);(try clear hk);(try clear hi);(try clear ho0)) | ((with_reducible refine gate_dst (N := 5) rfl ?_);(try (refine gate_guard (by rfl) ?_;dsimp only));refine box_event ?hg (N := 5) ?hd (cs := #[.int .i64 0,.slice none 0 0,.int .i64 0,.int .i64 0]) (t := 29) ?hr ?_;(case hd => rfl);(case hg => rfl);(case hr => first | (go_simp;done) | (go_simp;rfl));intro gb352 hg w16 hbox hb;have n0_ := Aside0.mk (Kd.S_below au36 hb);have n1_ := Aside0.mk (blk_below (g := gb345) (o := .cells #[.string ((rd_T23 l0 x3_1).f0),.string ((rd_T23 l0 x3_1).f1),.int .i64 ((rd_T23 l0 x3_1).f2),.int .i64 ((rd_T23 l0 x3_1).f3)] 23 (0,0)) au31 hb);have n2_ := Aside0.mk (below_step au27 hb);have n3_ := Aside0.mk (hbox);have n4_ := Aside0.mk ((by rw [hg];exact (below_size au27) : w.heap.size ≤ gb352));have n5_ := Aside0.mk ((by rw [hg];exact (below_size au27) : w.heap.size ≤ gb352));have n6_ := Aside0.mk ((by rw [hg];exact Nat.ne_of_lt (blk_lt (g := gb345) (o := .cells #[.string ((rd_T23 l0 x3_1).f0),.string ((rd_T23 l0 x3_1).f1),.int .i64 ((rd_T23 l0 x3_1).f2),.int .i64 ((rd_T23 l0 x3_1).f3)] 23 (0,0)) au31) : gb345 ≠ gb352));have n7_ := Aside0.mk ((by rw [hg];exact Nat.ne_of_gt (blk_lt (g := gb345) (o := .cells #[.string ((rd_T23 l0 x3_1).f0),.string ((rd_T23 l0 x3_1).f1),.int .i64 ((rd_T23 l0 x3_1).f2),.int .i64 ((rd_T23 l0 x3_1).f3)] 23 (0,0)) au31) : gb352 ≠ gb345));clear HO349;clear BK345;clear HB;have HO349 := n0_;have BK345 := n1_;have HB := n2_;have BK352 := n3_;have GW352 := n4_;have GE352 := n5_;have NB345_352 := n6_;have NB352_345 := n7_;clear n0_ n1_ n2_ n3_ n4_ n5_ n6_ n7_;clear hb hbox hg;have hnb17 := NB352_345.out;have hnc17 := NB345_352.out;have hcz18_0 : w16.cell? ⟨gb352,0,none⟩ = some (.int .i64 0) := (blk_cell BK352.out 0).trans rfl;have hcz18_1 : w16.cell? ⟨gb352,1,none⟩ = some (.slice none 0 0) := (blk_cell BK352.out 1).trans rfl;have hcz18_2 : w16.cell? ⟨gb352,2,none⟩ = some (.int .i64 0) := (blk_cell BK352.out 2).trans rfl;have hcz18_3 : w16.cell? ⟨gb352,3,none⟩ = some (.int .i64 0) := (blk_cell BK352.out 3).trans rfl;have hfz18_0 := blk_frozen BK352.out 0;have hfz18_1 := blk_frozen BK352.out 1;have hfz18_2 := blk_frozen BK352.out 2;have hfz18_3 := blk_frozen BK352.out 3;obtain ⟨Ao19,co19,eo19⟩ := Kd.S_slice HO349.out;subst eo19))
        have n0_ : Aside0 (Kd.S (Kd.slice 35 k35) 33 ((((w16.setCell ⟨gb352,0,none⟩ (.int .i64 t346)).setCell ⟨gb352,1,none⟩ (.slice Ao19 t347.length co19)).setCell ⟨gb352,2,none⟩ (.int .i64 t350)).setCell ⟨gb352,3,none⟩ (.int .i64 t351)) w.heap.size (fun _ => True) (.slice Ao19 t347.length co19) t347) := ⟨by (with_reducible repeat (first | apply Kd.S_alloc | apply Kd.S_drewN | apply Kd.S_drew));exact Kd.S_mono (Kd.S_far (p := ⟨gb352,3,none⟩) (Kd.S_far (p := ⟨gb352,2,none⟩) (Kd.S_far (p := ⟨gb352,1,none⟩) (Kd.S_far (p := ⟨gb352,0,none⟩) (Kd.S_types HO349.out BK352.out (by decide)) (fun _ hk => hk.2) (.int .i64 t346)) (fun _ hk => hk.2) (.slice Ao19 t347.length co19)) (fun _ hk => hk.2) (.int .i64 t350)) (fun _ hk => hk.2) (.int .i64 t351)) (fun _ hk => trivial)⟩
        have n1_ : Aside0 (((((w16.setCell ⟨gb352,0,none⟩ (.int .i64 t346)).setCell ⟨gb352,1,none⟩ (.slice Ao19 t347.length co19)).setCell ⟨gb352,2,none⟩ (.int .i64 t350)).setCell ⟨gb352,3,none⟩ (.int .i64 t351)).heap[gb345]? = some (.cells #[.string ((rd_T23 l0 x3_1).f0),.string ((rd_T23 l0 x3_1).f1),.int .i64 ((rd_T23 l0 x3_1).f2),.int .i64 ((rd_T23 l0 x3_1).f3)] 23 (0,0))) := ⟨by (with_reducible repeat (first | refine blk_drewN ?_ _ | refine blk_drew ?_ | refine blk_alloc ?_ _));refine blk_far ?_ NB345_352.out _;(with_reducible repeat (first | refine blk_drewN ?_ _ | refine blk_drew ?_ | refine blk_alloc ?_ _));refine blk_far ?_ NB345_352.out _;(with_reducible repeat (first | refine blk_drewN ?_ _ | refine blk_drew ?_ | refine blk_alloc ?_ _));refine blk_far ?_ NB345_352.out _;(with_reducible repeat (first | refine blk_drewN ?_ _ | refine blk_drew ?_ | refine blk_alloc ?_ _));refine blk_far ?_ NB345_352.out _;(with_reducible repeat (first | refine blk_drewN ?_ _ | refine blk_drew ?_ | refine blk_alloc ?_ _));exact BK345.out⟩
        have n2_ : Aside0 (((((w16.setCell ⟨gb352,0,none⟩ (.int .i64 t346)).setCell ⟨gb352,1,none⟩ (.slice Ao19 t347.length co19)).setCell ⟨gb352,2,none⟩ (.int .i64 t350)).setCell ⟨gb352,3,none⟩ (.int .i64 t351)).heap[gb352]? = some (.cells #[.int .i64 t346,.slice Ao19 t347.length co19,.int .i64 t350,.int .i64 t351] 29 (0,0))) := ⟨by (with_reducible repeat (first | refine blk_drewN ?_ _ | refine blk_drew ?_ | refine blk_alloc ?_ _));refine blk_put (cs := #[.int .i64 t346,.slice Ao19 t347.length co19,.int .i64 t350,.int .i64 0]) ?_ 3 _ rfl;(with_reducible repeat (first | refine blk_drewN ?_ _ | refine blk_drew ?_ | refine blk_alloc ?_ _));refine blk_put (cs := #[.int .i64 t346,.slice Ao19 t347.length co19,.int .i64 0,.int .i64 0]) ?_ 2 _ rfl;(with_reducible repeat (first | refine blk_drewN ?_ _ | refine blk_drew ?_ | refine blk_alloc ?_ _));refine blk_put (cs := #[.int .i64 t346,.slice none 0 0,.int .i64 0,.int .i64 0]) ?_ 1 _ rfl;(with_reducible repeat (first | refine blk_drewN ?_ _ | refine blk_drew ?_ | refine blk_alloc ?_ _));refine blk_put (cs := #[.int .i64 0,.slice none 0 0,.int .i64 0,.int .i64 0]) ?_ 0 _ rfl;(with_reducible repeat (first | refine blk_drewN ?_ _ | refine blk_drew ?_ | refine blk_alloc ?_ _));exact BK352.out⟩
        have n3_ : Aside0 (Below w.heap.size w ((((w16.setCell ⟨gb352,0,none⟩ (.int .i64 t346)).setCell ⟨gb352,1,none⟩ (.slice Ao19 t347.length co19)).setCell ⟨gb352,2,none⟩ (.int .i64 t350)).setCell ⟨gb352,3,none⟩ (.int .i64 t351))) := ⟨by repeat (first | (with_reducible first | exact HB.out | apply below_alloc | apply pw_below_drewN | apply below_drew1 | refine below_set ?_ GE345.out | refine below_set ?_ GE352.out) | exact HB.out)⟩
        (try clear HO349)
        (try clear BK345)
        (try clear BK352)
        (try clear HB)
        generalize ((((w16.setCell ⟨gb352,0,none⟩ (.int .i64 t346)).setCell ⟨gb352,1,none⟩ (.slice Ao19 t347.length co19)).setCell ⟨gb352,2,none⟩ (.int .i64 t350)).setCell ⟨gb352,3,none⟩ (.int .i64 t351)) = w20 at n0_ n1_ n2_ n3_ ⊢
        have HO349 := n0_
        have BK345 := n1_
        have BK352 := n2_
        have HB := n3_
        clear n0_ n1_ n2_ n3_
        have n0_ := Aside0.mk (Kd.S_drew HO349.out)
        have n1_ := Aside0.mk (blk_drew BK345.out)
        have n2_ := Aside0.mk (blk_drew BK352.out)
        have n3_ := Aside0.mk (below_drew1 HB.out)
        clear HO349
        clear BK345
        clear BK352
        clear HB
        have HO349 := n0_
        have BK345 := n1_
        have BK352 := n2_
        have HB := n3_
        clear n0_ n1_ n2_ n3_
        refine start_ (n := 25) (S := fun w' => w'.cell? ⟨gb345,0,none⟩ = some (.string ((rd_T23 l0 x3_1).f0)) ∧ w'.cell? ⟨gb345,1,none⟩ = some (.string ((rd_T23 l0 x3_1).f1)) ∧ w'.cell? ⟨gb345,2,none⟩ = some (.int .i64 ((rd_T23 l0 x3_1).f2)) ∧ w'.cell? ⟨gb345,3,none⟩ = some (.int .i64 ((rd_T23 l0 x3_1).f3)) ∧ w'.cell? ⟨gb352,0,none⟩ = some (.int .i64 t346) ∧ w'.cell? ⟨gb352,1,none⟩ = some (.slice Ao19 t347.length co19) ∧ w'.cell? ⟨gb352,2,none⟩ = some (.int .i64 t350) ∧ w'.cell? ⟨gb352,3,none⟩ = some (.int .i64 t351)) (ds := []) #[false,false,false,false,false,false,false,false,false,false,false,false,false,false,false,false,false,false,false,false,false,false,false,false,false] (by kernel_rfl) rfl rfl ⟨(blk_cell BK345.out 0).trans rfl,(blk_cell BK345.out 1).trans rfl,(blk_cell BK345.out 2).trans rfl,(blk_cell BK345.out 3).trans rfl,(blk_cell BK352.out 0).trans rfl,(blk_cell BK352.out 1).trans rfl,(blk_cell BK352.out 2).trans rfl,(blk_cell BK352.out 3).trans rfl⟩ (fun hHeld => ?_);refine with_tabW bodkinlaw20_LayoutLays.tab8 bodkinlaw20_LayoutLays.bits8 (fun HT_ HW_ => ?_)
        generalize w20.drew = w21 at HO349 BK345 BK352 HB hHeld ⊢
        refine pure_ (i := 0) (N := some 27) (v := ?_) (a' := ?_) #[true,false,false,false,false,false,false,false,false,false,false,false,false,false,false,false,false,false,false,false,false,false,false,false,false] rfl rfl (any_of HT_.out (by kernel_rfl)) (fun _ _ _ h => h) (Or.inl ⟨by rfl,?_⟩) ?_ ?_
        rotate_left
        ·intro w'
         go_simp
         with_reducible rfl
        rotate_left
        ·simp only [Act.put,List.setIfInBounds_toArray,List.set_cons_zero,List.set_cons_succ,i64_w,i32_w]
         rfl
        refine pure_ (i := 2) (N := some 29) (v := ?_) (a' := ?_) #[true,false,true,false,false,false,false,false,false,false,false,false,false,false,false,false,false,false,false,false,false,false,false,false,false] rfl rfl (any_of HT_.out (by kernel_rfl)) (fun _ _ _ h => h) (Or.inl ⟨by rfl,?_⟩) ?_ ?_
        rotate_left
        ·intro w'
         go_simp
         with_reducible rfl
        rotate_left
        ·simp only [Act.put,List.setIfInBounds_toArray,List.set_cons_zero,List.set_cons_succ,i64_w,i32_w]
         rfl
        refine pure_ (i := 4) (N := some 31) (v := ?_) (a' := ?_) #[true,false,true,false,true,false,false,false,false,false,false,false,false,false,false,false,false,false,false,false,false,false,false,false,false] rfl rfl (any_of HT_.out (by kernel_rfl)) (fun _ _ _ h => h) (Or.inl ⟨by rfl,?_⟩) ?_ ?_
        rotate_left
        ·intro w'
         go_simp
         with_reducible rfl
        rotate_left
        ·simp only [Act.put,List.setIfInBounds_toArray,List.set_cons_zero,List.set_cons_succ,i64_w,i32_w]
         rfl
        refine pure_ (i := 6) (N := some 33) (v := ?_) (a' := ?_) #[true,false,true,false,true,false,true,false,false,false,false,false,false,false,false,false,false,false,false,false,false,false,false,false,false] rfl rfl (any_of HT_.out (by kernel_rfl)) (fun _ _ _ h => h) (Or.inl ⟨by rfl,?_⟩) ?_ ?_
        rotate_left
        ·intro w'
         go_simp
         with_reducible rfl
        rotate_left
        ·simp only [Act.put,List.setIfInBounds_toArray,List.set_cons_zero,List.set_cons_succ,i64_w,i32_w]
         rfl
        refine take_ (i := 1) (N := some 28) (v := ?_) (a' := ?_) #[true,true,true,false,true,false,true,false,false,false,false,false,false,false,false,false,false,false,false,false,false,false,false,false,false] rfl rfl (take_ofW HT_.out HW_.out (by kernel_rfl)) (fun _ _ _ h => h) (Or.inl ⟨by rfl,?_⟩) hHeld ?_ ?_
        rotate_left
        ·rintro w' ⟨s0,s1,s2,s3,s4,s5,s6,s7⟩
         go_simp
         with_reducible rfl
        rotate_left
        ·simp only [Act.put,List.setIfInBounds_toArray,List.set_cons_zero,List.set_cons_succ,i64_w,i32_w]
         rfl
        refine take_ (i := 3) (N := some 30) (v := ?_) (a' := ?_) #[true,true,true,true,true,false,true,false,false,false,false,false,false,false,false,false,false,false,false,false,false,false,false,false,false] rfl rfl (take_ofW HT_.out HW_.out (by kernel_rfl)) (fun _ _ _ h => h) (Or.inl ⟨by rfl,?_⟩) hHeld ?_ ?_
        rotate_left
        ·rintro w' ⟨s0,s1,s2,s3,s4,s5,s6,s7⟩
         go_simp
         with_reducible rfl
        rotate_left
        ·simp only [Act.put,List.setIfInBounds_toArray,List.set_cons_zero,List.set_cons_succ,i64_w,i32_w]
         rfl
        refine take_ (i := 5) (N := some 32) (v := ?_) (a' := ?_) #[true,true,true,true,true,true,true,false,false,false,false,false,false,false,false,false,false,false,false,false,false,false,false,false,false] rfl rfl (take_ofW HT_.out HW_.out (by kernel_rfl)) (fun _ _ _ h => h) (Or.inl ⟨by rfl,?_⟩) hHeld ?_ ?_
        rotate_left
        ·rintro w' ⟨s0,s1,s2,s3,s4,s5,s6,s7⟩
         go_simp
         with_reducible rfl
        rotate_left
        ·simp only [Act.put,List.setIfInBounds_toArray,List.set_cons_zero,List.set_cons_succ,i64_w,i32_w]
         rfl
        refine take_ (i := 7) (N := some 34) (v := ?_) (a' := ?_) #[true,true,true,true,true,true,true,true,false,false,false,false,false,false,false,false,false,false,false,false,false,false,false,false,false] rfl rfl (take_ofW HT_.out HW_.out (by kernel_rfl)) (fun _ _ _ h => h) (Or.inl ⟨by rfl,?_⟩) hHeld ?_ ?_
        rotate_left
        ·rintro w' ⟨s0,s1,s2,s3,s4,s5,s6,s7⟩
         go_simp
         with_reducible rfl
        rotate_left
        ·simp only [Act.put,List.setIfInBounds_toArray,List.set_cons_zero,List.set_cons_succ,i64_w,i32_w]
         rfl
        refine take_ (i := 9) (N := some 36) (v := ?_) (a' := ?_) #[true,true,true,true,true,true,true,true,false,true,false,false,false,false,false,false,false,false,false,false,false,false,false,false,false] rfl rfl (take_ofW HT_.out HW_.out (by kernel_rfl)) (fun _ _ _ h => h) (Or.inl ⟨by rfl,?_⟩) hHeld ?_ ?_
        rotate_left
        ·rintro w' ⟨s0,s1,s2,s3,s4,s5,s6,s7⟩
         go_simp
         with_reducible rfl
        rotate_left
        ·simp only [Act.put,List.setIfInBounds_toArray,List.set_cons_zero,List.set_cons_succ,i64_w,i32_w]
         rfl
        refine one_ (i := 8) (N := some 35) #[true,true,true,true,true,true,true,true,true,true,false,false,false,false,false,false,false,false,false,false,false,false,false,false,false] rfl rfl (one_of HT_.out (by kernel_rfl)) (by decide) (fun K hK => ?_)
        refine goes_ Tryd.func14 (by kernel_rfl) rfl #[.string ((rd_T23 l0 x3_1).f0),.string ((rd_T23 l0 x3_1).f1),.int .i64 ((rd_T23 l0 x3_1).f2),.int .i64 ((rd_T23 l0 x3_1).f3)] (by rfl) rfl rfl au1 ?_
        with_reducible refine (layout_Lay.calls ((rd_T23 l0 x3_1).f0) ((rd_T23 l0 x3_1).f1) ((rd_T23 l0 x3_1).f2) ((rd_T23 l0 x3_1).f3) t353 t354 t357 t358 _ ?side1 A8.out).mono ?_
        (case side1 => exact tabs_below HT.out au13)
        rintro e w22 ⟨v355,rfl,ho0,hb⟩
        refine ⟨_,rfl,?_⟩
        have n0_ := Aside0.mk (Kd.S_elder' au36 (Kd.S_base ho0) hb)
        have n1_ := Aside0.mk (Kd.S_lower (Kd.S_new' ho0 (Kd.S_lt au36)) (below_size au13))
        have n2_ := Aside0.mk (blk_below (g := gb345) (o := .cells #[.string ((rd_T23 l0 x3_1).f0),.string ((rd_T23 l0 x3_1).f1),.int .i64 ((rd_T23 l0 x3_1).f2),.int .i64 ((rd_T23 l0 x3_1).f3)] 23 (0,0)) au31 hb)
        have n3_ := Aside0.mk (blk_below (g := gb352) (o := .cells #[.int .i64 t346,.slice Ao19 t347.length co19,.int .i64 t350,.int .i64 t351] 29 (0,0)) (by (with_reducible repeat (first | refine blk_drewN ?_ _ | refine blk_drew ?_ | refine blk_alloc ?_ _));exact BK352.out) hb)
        have n4_ := Aside0.mk (below_step au13 hb)
        clear HO349
        clear BK345
        clear BK352
        clear HB
        have HO349 := n0_
        have HO356 := n1_
        have BK345 := n2_
        have BK352 := n3_
        have HB := n4_
        clear n0_ n1_ n2_ n3_ n4_
        (try clear hb)
        (try clear hb2)
        (try clear hk)
        (try clear hi)
        (try clear ho0)
        obtain ⟨Ao23,co23,eo23⟩ := Kd.S_slice HO356.out
        (first | subst eo23 | (injection eo23 with f1_ f2_ f3_;have f4_ := f1_.symm;have f5_ := f3_.symm;clear f1_ f2_ f3_;subst f4_;subst f5_))
        refine hK.out _ _ ⟨(blk_cell BK345.out 0).trans rfl,(blk_cell BK345.out 1).trans rfl,(blk_cell BK345.out 2).trans rfl,(blk_cell BK345.out 3).trans rfl,(blk_cell BK352.out 0).trans rfl,(blk_cell BK352.out 1).trans rfl,(blk_cell BK352.out 2).trans rfl,(blk_cell BK352.out 3).trans rfl⟩ (fun hHeld => ?_)
        clear hK K
        refine norm_ (a' := ?_) ?_ ?_
        rotate_left
        ·show Act.put _ (some 35) _ = _
         simp only [Act.put,List.setIfInBounds_toArray,List.set_cons_zero,List.set_cons_succ,i64_w,i32_w]
         rfl
        refine one_ (i := 10) (N := some 37) #[true,true,true,true,true,true,true,true,true,true,true,false,false,false,false,false,false,false,false,false,false,false,false,false,false] rfl rfl (one_of HT_.out (by kernel_rfl)) (by decide) (fun K hK => ?_)
        refine goes_ Tryd.func15 (by kernel_rfl) rfl #[.agg #[.int .i64 t353,.slice Ao23 t354.length co23,.int .i64 t357,.int .i64 t358],.agg #[.int .i64 t346,.slice Ao19 t347.length co19,.int .i64 t350,.int .i64 t351]] (by rfl) rfl rfl au1 ?_
        with_reducible refine (bodkinref20_Same.calls k1 t353 _ _ t354 t357 t358 t346 _ _ t347 t350 t351 true _ ?side1 ?side2 ?side3 ?side4 A9.out).mono ?_
        (case side1 => repeat (first | exact (Kd.S_reads' HO356.out).2.2 | (with_reducible refine Kd.C_alloc ?_ _) | (with_reducible refine Kd.C_drewN ?_ _) | (with_reducible refine Kd.C_drew ?_)))
        (case side2 => exact (Kd.S_reads' HO356.out).2.1)
        (case side3 => repeat (first | exact (Kd.S_reads' HO349.out).2.2 | (with_reducible refine Kd.C_alloc ?_ _) | (with_reducible refine Kd.C_drewN ?_ _) | (with_reducible refine Kd.C_drew ?_)))
        (case side4 => exact (Kd.S_reads' HO349.out).2.1)
        rintro e w24 ⟨rfl,hb⟩
        refine ⟨_,rfl,?_⟩
        have n0_ := Aside0.mk (Kd.S_below au36 hb)
        have n1_ := Aside0.mk (Kd.S_below (by (with_reducible repeat (first | apply Kd.S_alloc | apply Kd.S_drewN | apply Kd.S_drew));exact HO356.out) hb)
        have n2_ := Aside0.mk (blk_below (g := gb345) (o := .cells #[.string ((rd_T23 l0 x3_1).f0),.string ((rd_T23 l0 x3_1).f1),.int .i64 ((rd_T23 l0 x3_1).f2),.int .i64 ((rd_T23 l0 x3_1).f3)] 23 (0,0)) au31 hb)
        have n3_ := Aside0.mk (blk_below (g := gb352) (o := .cells #[.int .i64 t346,.slice Ao19 t347.length co19,.int .i64 t350,.int .i64 t351] 29 (0,0)) (by (with_reducible repeat (first | refine blk_drewN ?_ _ | refine blk_drew ?_ | refine blk_alloc ?_ _));exact BK352.out) hb)
        have n4_ := Aside0.mk (below_step au13 hb)
        clear HO349
        clear HO356
        clear BK345
        clear BK352
        clear HB
        have HO349 := n0_
        have HO356 := n1_
        have BK345 := n2_
        have BK352 := n3_
        have HB := n4_
        clear n0_ n1_ n2_ n3_ n4_
        (try clear hb)
        (try clear hb2)
        (try clear hk)
        (try clear hi)
        refine hK.out _ _ ⟨(blk_cell BK345.out 0).trans rfl,(blk_cell BK345.out 1).trans rfl,(blk_cell BK345.out 2).trans rfl,(blk_cell BK345.out 3).trans rfl,(blk_cell BK352.out 0).trans rfl,(blk_cell BK352.out 1).trans rfl,(blk_cell BK352.out 2).trans rfl,(blk_cell BK352.out 3).trans rfl⟩ (fun hHeld => ?_)
        clear hK K
        refine norm_ (a' := ?_) ?_ ?_
        rotate_left
        ·show Act.put _ (some 37) _ = _
         simp only [Act.put,List.setIfInBounds_toArray,List.set_cons_zero,List.set_cons_succ,i64_w,i32_w]
         rfl
        refine pure_ (i := 11) (N := some 38) (v := ?_) (a' := ?_) #[true,true,true,true,true,true,true,true,true,true,true,true,false,false,false,false,false,false,false,false,false,false,false,false,false] rfl rfl (any_of HT_.out (by kernel_rfl)) (fun _ _ _ h => h) (Or.inl ⟨by rfl,?_⟩) ?_ ?_
        rotate_left
        ·intro w'
         go_simp
         with_reducible rfl
        rotate_left
        ·simp only [Act.put,List.setIfInBounds_toArray,List.set_cons_zero,List.set_cons_succ,i64_w,i32_w]
         rfl
        refine pure_ (i := 12) (N := some 39) (v := ?_) (a' := ?_) #[true,true,true,true,true,true,true,true,true,true,true,true,true,false,false,false,false,false,false,false,false,false,false,false,false] rfl rfl (any_of HT_.out (by kernel_rfl)) (fun _ _ _ h => h) (Or.inl ⟨by rfl,?_⟩) ?_ ?_
        rotate_left
        ·intro w'
         go_simp
         with_reducible rfl
        rotate_left
        ·simp only [Act.put,List.setIfInBounds_toArray,List.set_cons_zero,List.set_cons_succ,i64_w,i32_w]
         rfl
        refine pure_ (i := 13) (N := some 40) (v := ?_) (a' := ?_) #[true,true,true,true,true,true,true,true,true,true,true,true,true,true,false,false,false,false,false,false,false,false,false,false,false] rfl rfl (any_of HT_.out (by kernel_rfl)) (fun _ _ _ h => h) (Or.inl ⟨by rfl,?_⟩) ?_ ?_
        rotate_left
        ·intro w'
         go_simp
         with_reducible rfl
        rotate_left
        ·simp only [Act.put,List.setIfInBounds_toArray,List.set_cons_zero,List.set_cons_succ,i64_w,i32_w]
         rfl
        refine pure_ (i := 15) (N := some 42) (v := ?_) (a' := ?_) #[true,true,true,true,true,true,true,true,true,true,true,true,true,true,false,true,false,false,false,false,false,false,false,false,false] rfl rfl (any_of HT_.out (by kernel_rfl)) (fun _ _ _ h => h) (Or.inl ⟨by rfl,?_⟩) ?_ ?_
        rotate_left
        ·intro w'
         go_simp
         with_reducible rfl
        rotate_left
        ·simp only [Act.put,List.setIfInBounds_toArray,List.set_cons_zero,List.set_cons_succ,i64_w,i32_w]
         rfl
        refine pure_ (i := 17) (N := some 44) (v := ?_) (a' := ?_) #[true,true,true,true,true,true,true,true,true,true,true,true,true,true,false,true,false,true,false,false,false,false,false,false,false] rfl rfl (any_of HT_.out (by kernel_rfl)) (fun _ _ _ h => h) (Or.inl ⟨by rfl,?_⟩) ?_ ?_
        rotate_left
        ·intro w'
         go_simp
         with_reducible rfl
        rotate_left
        ·simp only [Act.put,List.setIfInBounds_toArray,List.set_cons_zero,List.set_cons_succ,i64_w,i32_w]
         rfl
        refine pure_ (i := 20) (N := some 47) (v := ?_) (a' := ?_) #[true,true,true,true,true,true,true,true,true,true,true,true,true,true,false,true,false,true,false,false,true,false,false,false,false] rfl rfl (any_of HT_.out (by kernel_rfl)) (fun _ _ _ h => h) (Or.inl ⟨by rfl,?_⟩) ?_ ?_
        rotate_left
        ·intro w'
         go_simp
         with_reducible rfl
        rotate_left
        ·simp only [Act.put,List.setIfInBounds_toArray,List.set_cons_zero,List.set_cons_succ,i64_w,i32_w]
         rfl
        refine take_ (i := 14) (N := some 41) (v := ?_) (a' := ?_) #[true,true,true,true,true,true,true,true,true,true,true,true,true,true,true,true,false,true,false,false,true,false,false,false,false] rfl rfl (take_ofW HT_.out HW_.out (by kernel_rfl)) (fun _ _ _ h => h) (Or.inl ⟨by rfl,?_⟩) hHeld ?_ ?_
        rotate_left
        ·rintro w' ⟨s0,s1,s2,s3,s4,s5,s6,s7⟩
         go_simp
         with_reducible rfl
        rotate_left
        ·simp only [Act.put,List.setIfInBounds_toArray,List.set_cons_zero,List.set_cons_succ,i64_w,i32_w]
         rfl
        refine take_ (i := 16) (N := some 43) (v := ?_) (a' := ?_) #[true,true,true,true,true,true,true,true,true,true,true,true,true,true,true,true,true,true,false,false,true,false,false,false,false] rfl rfl (take_ofW HT_.out HW_.out (by kernel_rfl)) (fun _ _ _ h => h) (Or.inl ⟨by rfl,?_⟩) hHeld ?_ ?_
        rotate_left
        ·rintro w' ⟨s0,s1,s2,s3,s4,s5,s6,s7⟩
         go_simp
         with_reducible rfl
        rotate_left
        ·simp only [Act.put,List.setIfInBounds_toArray,List.set_cons_zero,List.set_cons_succ,i64_w,i32_w]
         rfl
        refine take_ (i := 18) (N := some 45) (v := ?_) (a' := ?_) #[true,true,true,true,true,true,true,true,true,true,true,true,true,true,true,true,true,true,true,false,true,false,false,false,false] rfl rfl (take_ofW HT_.out HW_.out (by kernel_rfl)) (fun _ _ _ h => h) (Or.inl ⟨by rfl,?_⟩) hHeld ?_ ?_
        rotate_left
        ·rintro w' ⟨s0,s1,s2,s3,s4,s5,s6,s7⟩
         go_simp
         with_reducible rfl
        rotate_left
        ·simp only [Act.put,List.setIfInBounds_toArray,List.set_cons_zero,List.set_cons_succ,i64_w,i32_w]
         rfl
        refine take_ (i := 21) (N := some 48) (v := ?_) (a' := ?_) #[true,true,true,true,true,true,true,true,true,true,true,true,true,true,true,true,true,true,true,false,true,true,false,false,false] rfl rfl (take_ofW HT_.out HW_.out (by kernel_rfl)) (fun _ _ _ h => h) (Or.inl ⟨by rfl,?_⟩) hHeld ?_ ?_
        rotate_left
        ·rintro w' ⟨s0,s1,s2,s3,s4,s5,s6,s7⟩
         go_simp
         with_reducible rfl
        rotate_left
        ·simp only [Act.put,List.setIfInBounds_toArray,List.set_cons_zero,List.set_cons_succ,i64_w,i32_w]
         rfl
        refine pure_ (i := 22) (N := some 49) (v := ?_) (a' := ?_) #[true,true,true,true,true,true,true,true,true,true,true,true,true,true,true,true,true,true,true,false,true,true,true,false,false] rfl rfl (any_of HT_.out (by kernel_rfl)) (fun _ _ _ h => h) (Or.inl ⟨by rfl,?_⟩) ?_ ?_
        rotate_left
        ·intro w'
         go_simp
         with_reducible rfl
        rotate_left
        ·simp only [Act.put,List.setIfInBounds_toArray,List.set_cons_zero,List.set_cons_succ,i64_w,i32_w]
         rfl
        refine one_ (i := 19) (N := some 46) #[true,true,true,true,true,true,true,true,true,true,true,true,true,true,true,true,true,true,true,true,true,true,true,false,false] rfl rfl (one_of HT_.out (by kernel_rfl)) (by decide) (fun K hK => ?_)
        refine goes_ Tryd.func27 (by kernel_rfl) rfl #[.string ((rd_T23 l0 x3_1).f0),.string ((rd_T23 l0 x3_1).f1),.int .i64 ((rd_T23 l0 x3_1).f3)] (by rfl) rfl rfl au1 ?_
        with_reducible refine (layout_Rows.calls ((rd_T23 l0 x3_1).f0) ((rd_T23 l0 x3_1).f1) ((rd_T23 l0 x3_1).f3) t360 _ ?side1 A11.out).mono ?_
        (case side1 => exact tabs_below HT.out au13)
        rintro e w25 ⟨rfl,hb⟩
        refine ⟨_,rfl,?_⟩
        have n0_ := Aside0.mk (Kd.S_below au36 hb)
        have n1_ := Aside0.mk (Kd.S_below (by (with_reducible repeat (first | apply Kd.S_alloc | apply Kd.S_drewN | apply Kd.S_drew));exact HO356.out) hb)
        have n2_ := Aside0.mk (blk_below (g := gb345) (o := .cells #[.string ((rd_T23 l0 x3_1).f0),.string ((rd_T23 l0 x3_1).f1),.int .i64 ((rd_T23 l0 x3_1).f2),.int .i64 ((rd_T23 l0 x3_1).f3)] 23 (0,0)) au31 hb)
        have n3_ := Aside0.mk (blk_below (g := gb352) (o := .cells #[.int .i64 t346,.slice Ao19 t347.length co19,.int .i64 t350,.int .i64 t351] 29 (0,0)) (by (with_reducible repeat (first | refine blk_drewN ?_ _ | refine blk_drew ?_ | refine blk_alloc ?_ _));exact BK352.out) hb)
        have n4_ := Aside0.mk (below_step au13 hb)
        clear HO349
        clear HO356
        clear BK345
        clear BK352
        clear HB
        have HO349 := n0_
        have HO356 := n1_
        have BK345 := n2_
        have BK352 := n3_
        have HB := n4_
        clear n0_ n1_ n2_ n3_ n4_
        (try clear hb)
        (try clear hb2)
        (try clear hk)
        (try clear hi)
        refine hK.out _ _ ⟨(blk_cell BK345.out 0).trans rfl,(blk_cell BK345.out 1).trans rfl,(blk_cell BK345.out 2).trans rfl,(blk_cell BK345.out 3).trans rfl,(blk_cell BK352.out 0).trans rfl,(blk_cell BK352.out 1).trans rfl,(blk_cell BK352.out 2).trans rfl,(blk_cell BK352.out 3).trans rfl⟩ (fun hHeld => ?_)
        clear hK K
        refine norm_ (a' := ?_) ?_ ?_
        rotate_left
        ·show Act.put _ (some 46) _ = _
         simp only [Act.put,List.setIfInBounds_toArray,List.set_cons_zero,List.set_cons_succ,i64_w,i32_w]
         rfl
        refine pure_ (i := 23) (N := some 50) (v := ?_) (a' := ?_) #[true,true,true,true,true,true,true,true,true,true,true,true,true,true,true,true,true,true,true,true,true,true,true,true,false] rfl rfl (any_of HT_.out (by kernel_rfl)) (fun _ _ _ h => h) (Or.inl ⟨by rfl,?_⟩) ?_ ?_
        rotate_left
        ·intro w'
         go_simp
         with_reducible rfl
        rotate_left
        ·simp only [Act.put,List.setIfInBounds_toArray,List.set_cons_zero,List.set_cons_succ,i64_w,i32_w]
         rfl
        refine pure_ (i := 24) (N := some 51) (v := ?_) (a' := ?_) #[true,true,true,true,true,true,true,true,true,true,true,true,true,true,true,true,true,true,true,true,true,true,true,true,true] rfl rfl (any_of HT_.out (by kernel_rfl)) (fun _ _ _ h => h) (Or.inl ⟨by rfl,?_⟩) ?_ ?_
        rotate_left
        ·intro w'
         go_simp
         with_reducible rfl
        rotate_left
        ·simp only [Act.put,List.setIfInBounds_toArray,List.set_cons_zero,List.set_cons_succ,i64_w,i32_w]
         rfl
        refine done_ (done_of HT_.out (by kernel_rfl)) ?_
        try go_wp2
        go_roundg k1
        case measure => have := HK1.out;omega
        case rel => exact ⟨(wrap64 (x3_1 + 1)),au4,H',⟨by have := HK1.out;omega⟩,⟨by repeat (first | (with_reducible first | exact HB.out | apply below_alloc | apply pw_below_drewN | apply below_drew1 | refine below_set ?_ GE345.out | refine below_set ?_ GE352.out) | exact HB.out)⟩⟩
       ·rw [if_neg c12] at H
        have c12b0 : (t360 == (t347.length : Int)) = false := beq_eq_false_iff_ne.mpr c12
        have c12b1 : (t360 != (t347.length : Int)) = true := bne_iff_ne.mpr c12
        obtain rfl := Option.some.inj H
        cases hr_
      ·replace c10 := Bool.eq_false_iff.mpr c10
       subst c10
       have H1 : (some false) = some r := by rw [if_neg (show ¬ (false = true) by decide)] at H;exact H
       clear H
       have H := H1
       clear H1
       obtain rfl := Option.some.inj H
       cases hr_
     ·rw [if_neg c6] at H
      exact absurd H (by simp)
    ·rw [if_neg c5] at H
     have c5b0 : decide (x3_1 < (l0.length : Int)) = false := decide_eq_false c5
     clear c5
     obtain rfl := Option.some.inj H
     go_wp2
     go_ret
     exact ⟨au2,au0⟩
 ·replace c3 := Bool.eq_false_iff.mpr c3
  subst c3
  have H1 : (some false) = some r := by rw [if_neg (show ¬ (false = true) by decide)] at H;exact H
  clear H
  have H := H1
  clear H1
  obtain rfl := Option.some.inj H
  cases hr_
end Go.Proofs.YtnpjaaldppemlaaDoor.U
end
section
namespace Go.Proofs.YtnpjaaldppemlaaDoor.Pu
open Go Go.RowKit Go.Proofs.YtnpjaaldppemlaaDoor.Mu Go.Proofs.YtnpjaaldppemlaaDoor.U Go.Proofs.YtnpjaaldppemlaaDoorW.PrintWords Go.Proofs.YtnpjaaldppemlaaDoorW.PrintLast Go.Proofs.YtnpjaaldppemlaaDoorW.PrintMore
set_option linter.unusedVariables false
theorem ev_if {α : Type} {c : Prop} [Decidable c] {a b : Nat → Option α} {v v' : α} (h : c → Ev a v) (h' : ¬ c → Ev b v') : Ev (fun k => if c then a k else b k) (if c then v else v') := by
 by_cases hc : c
 ·rw [if_pos hc];exact ev_pos hc (h hc)
 ·rw [if_neg hc];exact ev_neg hc (h' hc)
theorem ne_len {a b : Nat} (h : ((a : Int) != (b : Int)) = false) : a = b := by
 have h3 : (a : Int) = (b : Int) := by simpa using h
 omega
abbrev Cz := S35
/-- Do the n cells from number i on differ nowhere? -/
def rowFrom (a b : List Cz) : Nat → Nat → Bool
 | 0,_ => true
 | n + 1,i => if (!(((rd_T35 a (i : Int)).f0.toList) == ((rd_T35 b (i : Int)).f0.toList)) || (!((rd_T35 a (i : Int)).f1 == (rd_T35 b (i : Int)).f1))) = true then false else rowFrom a b n (i + 1)
def rowE (a b : List Cz) : Bool := if (a.length : Int) = (b.length : Int) then rowFrom a b a.length 0 else false
def rowsFrom (A B : List (List Cz)) : Nat → Nat → Bool
 | 0,_ => true
 | n + 1,i => if rowE (rd_L3 A (i : Int)) (rd_L3 B (i : Int)) = true then rowsFrom A B n (i + 1) else false
/-- The same frames. -/
def frE (w : Int) (A : List (List Cz)) (r c w' : Int) (B : List (List Cz)) (r' c' : Int) : Bool := if w = w' then (if (!(r == r') || (!(c == c'))) = true then false else if ((A.length : Int) != (B.length : Int)) = true then false else rowsFrom A B A.length 0) else false
theorem rowFrom_refl (a : List Cz) : ∀ n i,rowFrom a a n i = true
 | 0,_ => rfl
 | n + 1,i => by rw [rowFrom,if_neg (by simp)];exact rowFrom_refl a n (i + 1)
theorem rowE_refl (a : List Cz) : rowE a a = true := by unfold rowE;rw [if_pos rfl];exact rowFrom_refl a _ _
theorem rowsFrom_refl (A : List (List Cz)) : ∀ n i,rowsFrom A A n i = true
 | 0,_ => rfl
 | n + 1,i => by rw [rowsFrom,if_pos (rowE_refl _)];exact rowsFrom_refl A n (i + 1)
theorem frE_refl (w : Int) (A : List (List Cz)) (r c : Int) : frE w A r c w A r c = true := by
 unfold frE
 rw [if_pos rfl,if_neg (by simp),if_neg (by simp)]
 exact rowsFrom_refl A _ _
theorem srow_loop (a b : List Cz) (ha : a.length ≤ 1099511627776) (hb : a.length = b.length) : ∀ n i : Nat,i + n = a.length → Ev (fun k => bodkinref20_SameRow.l0 k a b (i : Int)) (rowFrom a b n i) := by
 intro n
 induction n with
 | zero => intro i hi;exact Ev.step (fun k => bodkinref20_SameRow.l0.eq_2 ..) (ev_neg (by omega) (Ev.now _))
 | succ n ih =>
  intro i hi
  refine Ev.step (fun k => bodkinref20_SameRow.l0.eq_2 ..) (ev_pos (by omega) (ev_pos (by omega) (ev_pos (by omega) ?_)))
  rw [rowFrom]
  refine ev_if (fun h => Ev.now _) (fun h => ?_)
  rw [w64 (by omega) (by omega)]
  exact ih (i + 1) (by omega)
theorem srow_ans (a b : List Cz) (ha : a.length ≤ 1099511627776) : Ev (fun k => bodkinref20_SameRow.f k a b) (rowE a b) := by
 unfold bodkinref20_SameRow.f rowE
 exact ev_if (fun h => srow_loop a b ha (by omega) a.length 0 (by omega)) (fun h => Ev.now _)
/-- No row is too long. -/
def Rb (A : List (List Cz)) : Prop := A.length ≤ 1099511627776 ∧ ∀ i : Int,(rd_L3 A i).length ≤ 1099511627776
theorem rsame_loop (w r c w' r' c' : Int) (A B : List (List Cz)) (hA : Rb A) (hB : A.length = B.length) : ∀ n i : Nat,i + n = A.length → Ev (fun k => bodkinref20_Same.l0 k (i : Int) w A r c w' B r' c') (rowsFrom A B n i) := by
 have hA1 := hA.1
 intro n
 induction n with
 | zero => intro i hi;exact Ev.step (fun k => bodkinref20_Same.l0.eq_2 ..) (ev_neg (by omega) (Ev.now _))
 | succ n ih =>
  intro i hi
  refine Ev.step (fun k => bodkinref20_Same.l0.eq_2 ..) (ev_pos (by omega) (ev_pos (by omega) (ev_pos (by omega) (Ev.bind (srow_ans _ _ (hA.2 _)) ?_))))
  rw [rowsFrom]
  refine ev_if (fun h => ?_) (fun h => Ev.now _)
  rw [w64 (by omega) (by omega)]
  exact ih (i + 1) (by omega)
theorem rsame_j (w r c w' r' c' : Int) (A B : List (List Cz)) (hA : Rb A) (b : Bool) (hb : b = false → A.length = B.length) : Ev (fun k => bodkinref20_Same.j0 k b w A r c w' B r' c') (if b = true then false else rowsFrom A B A.length 0) := by
 refine Ev.step (fun k => bodkinref20_Same.j0.eq_2 ..) ?_
 cases b with
 | true => exact ev_pos rfl (Ev.now _)
 | false => exact ev_neg (by simp) (rsame_loop w r c w' r' c' A B hA (hb rfl) A.length 0 (by omega))
theorem rsame_ans (w r c w' r' c' : Int) (A B : List (List Cz)) (hA : Rb A) : Ev (fun k => bodkinref20_Same.f k w A r c w' B r' c') (frE w A r c w' B r' c') := by
 unfold bodkinref20_Same.f frE
 refine ev_if (fun h => ev_if (fun h2 => ?_) (fun h2 => ?_)) (fun h => ?_)
 ·exact rsame_j w r c w' r' c' A B hA true (by simp)
 ·exact rsame_j w r c w' r' c' A B hA _ ne_len
 ·exact rsame_j w r c w' r' c' A B hA true (by simp)
theorem rsame_refl (w r c : Int) (A : List (List Cz)) (hA : Rb A) : Ev (fun k => bodkinref20_Same.f k w A r c w A r c) true := by
 have h := rsame_ans w r c w r c A A hA
 rwa [frE_refl] at h
end Go.Proofs.YtnpjaaldppemlaaDoor.Pu
end
section
namespace Go.Proofs.YtnpjaaldppemlaaDoor.Pu
open Go Go.RowKit Go.Proofs.YtnpjaaldppemlaaDoor.Mu Go.Proofs.YtnpjaaldppemlaaDoor.U Go.Proofs.YtnpjaaldppemlaaDoorW.PrintWords Go.Proofs.YtnpjaaldppemlaaDoorW.PrintLast Go.Proofs.YtnpjaaldppemlaaDoorW.PrintMore
set_option linter.unusedVariables false
theorem awake20 : Ev (fun k => bodkinlaw20_awake.f k) true := Ev.of (fun k => bodkinlaw20_awake.mono k) (k := 200) (by kernel_rfl)
theorem cntW_in (w : Int) : 1 ≤ cntW w ∧ cntW w ≤ 65535 := held_in (held_w w)
theorem cf1_pos (t : ByteArray) (c : S60) (h : c ∈ clusL t) : 1 ≤ c.f1 := by
 obtain ⟨i,hci,hi,rfl⟩ := clus_mem t t.size 0 (cb_zero t) c h
 have := nxt_pos t i hi
 show (1 : Int) ≤ (nxt t i : Int)
 omega
theorem atL_cur (wd : Int) (t : ByteArray) (cur : Int) : ∀ (cs : List S60) (s : Ly × (Int × Int)),(∀ c ∈ cs,1 ≤ c.f1) → atL wd t (if cur < 0 then 0 else cur) s cs = atL wd t cur s cs
 | [],_,_ => rfl
 | c :: cs,s,h => by
  have h1 := h c (by simp)
  have e : atF wd t (if cur < 0 then 0 else cur) s c = atF wd t cur s c := by
   unfold atF
   by_cases hn : cur < 0
   ·rw [if_pos hn,if_neg (by omega),if_neg (by omega)]
   ·rw [if_neg hn]
  show atL wd t _ (atF wd t _ s c) cs = atL wd t cur (atF wd t cur s c) cs
  rw [e]
  exact atL_cur wd t cur cs _ (fun c hc => h c (List.mem_cons_of_mem _ hc))
theorem endL_cur (p t : ByteArray) (cur w : Int) : endL p t (if cur < 0 then 0 else cur) w = endL p t cur w := atL_cur _ t cur _ _ (fun c hc => cf1_pos t c hc)
theorem rowsL_cur (p t : ByteArray) (cur w : Int) : rowsL p t (if cur < 0 then 0 else cur) w = rowsL p t cur w := by unfold rowsL;rw [endL_cur]
/-- The rows do not hang on the cursor. -/
theorem rowsL_eq (p t : ByteArray) (cur w : Int) : rowsL p t cur w = (((layL (cntW w) t (st0L p w) (clusL t)).1 ++ [(layL (cntW w) t (st0L p w) (clusL t)).2])).map trimR := by
 unfold rowsL
 have : (endL p t cur w).1 = layL (cntW w) t (st0L p w) (clusL t) := atL_fst _ _ _ _ _
 rw [this]
theorem lay_f (p t : ByteArray) (cur w : Int) (hp : p.size ≤ 34359738368) (ht : t.size ≤ 34359738368) : layout_Lay.f p t cur w = some (cntW w,rowsL p t cur w,(endL p t cur w).2.1,(endL p t cur w).2.2) := by
 unfold layout_Lay.f
 rw [if_pos ⟨hp,ht⟩,rowsL_cur,endL_cur]
theorem rlay_f (p t : ByteArray) (cur w : Int) (hp : p.size ≤ 34359738368) (ht : t.size ≤ 34359738368) : bodkinref20_Lay.f p t cur w = some (cntW w,rowsL p t cur w,(endL p t cur w).2.1,(endL p t cur w).2.2) := by
 unfold bodkinref20_Lay.f
 rw [if_pos ⟨hp,ht⟩]
theorem pl_f (p t : ByteArray) (w : Int) (hp : p.size ≤ 34359738368) (ht : t.size ≤ 34359738368) : layout_Places.f p t w = some (placesL p t w) := by
 unfold layout_Places.f
 rw [if_pos ⟨hp,ht⟩]
theorem st0_in (p : ByteArray) (w : Int) : (st0L p w).In (cntW w) := layL_in _ _ _ _ (ly_new (cntW_in w).1 (cntW_in w).2)
theorem fin_in (p t : ByteArray) (w : Int) : (layL (cntW w) t (st0L p w) (clusL t)).In (cntW w) := layL_in _ _ _ _ (st0_in p w)
theorem st0_len (p : ByteArray) (w : Int) : (st0L p w).1.length ≤ 3 * p.size := by
 have h1 := layL_len (cntW w) p (clusL p) ([],[])
 have h2 := clusL_length p
 simp at h1
 unfold st0L
 omega
theorem fin_len (p t : ByteArray) (w : Int) : (layL (cntW w) t (st0L p w) (clusL t)).1.length ≤ 3 * p.size + 3 * t.size := by
 have h1 := layL_len (cntW w) t (clusL t) (st0L p w)
 have h2 := clusL_length t
 have h3 := st0_len p w
 omega
theorem rowsL_len (p t : ByteArray) (cur w : Int) : (rowsL p t cur w).length = (layL (cntW w) t (st0L p w) (clusL t)).1.length + 1 := by rw [rowsL_eq];simp
theorem trimR_len (L : List Cl) : (trimR L).length ≤ L.length := by unfold trimR;rw [List.length_take];omega
theorem rowsL_row (p t : ByteArray) (cur w : Int) (i : Int) : ((rd_L3 (rowsL p t cur w) i).length : Int) ≤ cntW w := by
 rw [rowsL_eq]
 unfold rd_L3
 rw [List.getD_eq_getElem?_getD,List.getElem?_map]
 have h := (fin_in p t w).rows i.toNat
 rw [List.getD_eq_getElem?_getD] at h
 cases hx : ((layL (cntW w) t (st0L p w) (clusL t)).1 ++ [(layL (cntW w) t (st0L p w) (clusL t)).2])[i.toNat]? with
 | none => have := (cntW_in w).1;simp;omega
 | some L =>
  rw [hx] at h
  have := trimR_len L
  simp only [Option.map_some,Option.getD_some] at h ⊢
  omega
theorem rowsL_rb (p t : ByteArray) (cur w : Int) (hp : p.size ≤ 34359738368) (ht : t.size ≤ 34359738368) : Rb (rowsL p t cur w) := by
 refine ⟨?_,fun i => ?_⟩
 ·rw [rowsL_len]
  have := fin_len p t w
  omega
 ·have h1 := rowsL_row p t cur w i
  have h2 := (cntW_in w).2
  omega
theorem placesL_len (p t : ByteArray) (w : Int) : (placesL p t w).length = (clusL t).length + 1 := by unfold placesL;rw [List.length_cons,plsL_len]
theorem pl_at (p t : ByteArray) (w : Int) (i : Nat) (h : i ≤ (clusL t).length) : rd_T27 (placesL p t w) (i : Int) = (layL (cntW w) t (st0L p w) ((clusL t).take i)).pl := by
 unfold rd_T27 placesL
 rw [Int.toNat_natCast,List.getD_eq_getElem?_getD]
 cases i with
 | zero => rw [List.getElem?_cons_zero,List.take_zero];simp only [Option.getD_some,layL,List.foldl_nil]
 | succ i => rw [List.getElem?_cons_succ,plsL_get (cntW w) t _ _ i (by omega)];simp only [Option.getD_some]
theorem pl_last (p t : ByteArray) (w : Int) : rd_T27 (placesL p t w) ((clusL t).length : Int) = (layL (cntW w) t (st0L p w) (clusL t)).pl := by
 have h := pl_at p t w (clusL t).length (Nat.le_refl _)
 rwa [List.take_length] at h
theorem rows_f (p t : ByteArray) (cur w : Int) (hp : p.size ≤ 34359738368) (ht : t.size ≤ 34359738368) : layout_Rows.f p t w = some ((rowsL p t cur w).length : Int) := by
 have hl := placesL_len p t w
 have hn := clusL_length t
 have hf := fin_len p t w
 have h1 := pl_last p t w
 have hr := rowsL_len p t cur w
 unfold layout_Rows.f
 have e : wrap64 (((placesL p t w).length : Int) - 1) = ((clusL t).length : Int) := by rw [hl,w64 (by omega) (by omega)];omega
 rw [pl_f p t w hp ht,Option.bind_some,e,if_pos (by omega),if_pos (by omega),h1,hr]
 show some (wrap64 (((layL (cntW w) t (st0L p w) (clusL t)).1.length : Int) + 1)) = _
 rw [w64 (by omega) (by omega)]
 rfl
end Go.Proofs.YtnpjaaldppemlaaDoor.Pu
end
section
namespace Go.Proofs.YtnpjaaldppemlaaDoor.Pure
open Go Go.RowKit Go.Proofs.YtnpjaaldppemlaaDoor.Mu Go.Proofs.YtnpjaaldppemlaaDoor.Pu Go.Proofs.YtnpjaaldppemlaaDoor.U Go.Proofs.YtnpjaaldppemlaaDoorW.PrintWords Go.Proofs.YtnpjaaldppemlaaDoorW.PrintLast Go.Proofs.YtnpjaaldppemlaaDoorW.PrintMore
set_option linter.unusedVariables false
theorem rdA_mem (l : List S23) (i : Nat) (h : i < l.length) : rd_T23 l (i : Int) ∈ l := by
 unfold rd_T23
 rw [Int.toNat_natCast,List.getD_eq_getElem?_getD,List.getElem?_eq_getElem h]
 exact List.getElem_mem h
theorem llays_loop (L : List S23) (hL : L.length ≤ 1048576) (hs : ∀ q ∈ L,q.f0.size ≤ 1048576 ∧ q.f1.size ≤ 1048576) : ∀ n i : Nat,i + n = L.length → Ev (fun k => bodkinlaw20_LayoutLays.l0 k L (i : Int)) true := by
 intro n
 induction n with
 | zero => intro i hi;exact Ev.step (fun k => bodkinlaw20_LayoutLays.l0.eq_2 ..) (ev_neg (by omega) (Ev.now _))
 | succ n ih =>
  intro i hi
  obtain ⟨q,hq⟩ : ∃ q,rd_T23 L (i : Int) = q := ⟨_,rfl⟩
  have hm := hs _ (rdA_mem L i (by omega))
  rw [hq] at hm
  have h0 : q.f0.size ≤ 34359738368 := by omega
  have h1 : q.f1.size ≤ 34359738368 := by omega
  refine Ev.step (fun k => bodkinlaw20_LayoutLays.l0.eq_2 ..) (ev_pos (by omega) (ev_pos (by omega) ?_))
  rw [hq]
  have hS := rsame_refl (cntW q.f3) (endL q.f0 q.f1 q.f2 q.f3).2.1 (endL q.f0 q.f1 q.f2 q.f3).2.2 _ (rowsL_rb q.f0 q.f1 q.f2 q.f3 h0 h1)
  refine ev_some (rlay_f _ _ _ _ h0 h1) (ev_some (lay_f _ _ _ _ h0 h1) (Ev.bind hS (ev_pos rfl (ev_some (rows_f _ _ q.f2 _ h0 h1) (ev_pos rfl ?_)))))
  rw [w64 (by omega) (by omega)]
  exact ih (i + 1) (by omega)
theorem LayoutLays (l0 : List S23) (u0 : l0.length ≤ 1048576) (s0 : ∀ q ∈ l0,q.f0.size ≤ 1048576 ∧ q.f1.size ≤ 1048576) : ∃ k,bodkinlaw20_LayoutLays.f k l0 = some true := by
 apply Ev.rounds
 unfold bodkinlaw20_LayoutLays.f
 exact Ev.bind awake20 (ev_pos rfl (llays_loop l0 u0 s0 l0.length 0 (by omega)))
end Go.Proofs.YtnpjaaldppemlaaDoor.Pure
end
section
namespace Go.Proofs.YtnpjaaldppemlaaDoor.Lf
open Go.Lib Go.Proofs
theorem own : ownKnob Tryd.prog.godebug = none := by kernel_rfl
theorem laidOut : laidOutB Tryd.prog = true := by kernel_rfl
theorem extra : U8Extra Tryd.prog Tryd.lays260_ren := {
 n3 := by kernel_rfl
 n4 := by kernel_rfl
 y3 := by kernel_rfl
 y4 := by kernel_rfl
 c5 := by kernel_rfl
 c119 := by kernel_rfl
 c138 := by kernel_rfl }
theorem first_eq : Rows.laid_unicode_utf8_first = Lib.firstData := by kernel_rfl
theorem accept_eq : (Rows.laid_unicode_utf8_acceptRanges : DataW Unit) = Lib.acceptData := by kernel_rfl
abbrev laid : List (String × DataW Unit) := [("unicode/utf8.acceptRanges", Rows.laid_unicode_utf8_acceptRanges), ("unicode/utf8.first", Rows.laid_unicode_utf8_first)]
/-- The two tables lie as the contracts ask. -/
theorem tabs {W : World} (h : laidMetH Tryd.prog laid W) : Lib.Utf8Tabs 0 1 W := by
  rw [MakeChecks.laidMetH_plain _ _ _ (by kernel_rfl)] at h
  have h3 := laidMet.reads h (n := "unicode/utf8.first") (d := Rows.laid_unicode_utf8_first) (List.mem_cons_of_mem _ List.mem_cons_self)
  have h4 := laidMet.reads h (n := "unicode/utf8.acceptRanges") (d := Rows.laid_unicode_utf8_acceptRanges) List.mem_cons_self
  rw [first_eq] at h3
  rw [accept_eq] at h4
  exact utf8Tabs_of_reads Tryd.lays260 extra h3 h4
/-- The world of the witness: the settled one,the tables laid. -/
noncomputable abbrev wit (os : Os) : World := World.laidAll Tryd.prog os laid
theorem wit_laid (os : Os) (args : Array Value) : laidMetH Tryd.prog laid ((wit os).forCall (fun _ _ => 0) ⟨#[],args,[]⟩).memory := by
 rw [MakeChecks.laidMetH_plain _ _ _ (by kernel_rfl)]
 exact laidMet_laidAll _ (by kernel_rfl) (by kernel_rfl)
theorem wit_shaped (os : Os) (args : Array Value) : ((wit os).forCall (fun _ _ => 0) ⟨#[],args,[]⟩).Shaped Tryd.prog :=
 World.shaped_of_ZipB (by kernel_rfl) (by kernel_rfl)
end Go.Proofs.YtnpjaaldppemlaaDoor.Lf
end
section
namespace Go.Proofs.YtnpjaaldppemlaaDoor.Lf
open Go Go.RowKit
theorem bulk_one {H : Type} (d : DataW H) : 1 ≤ Rows.uptoBulk d := by
 cases d with
 | lit l => cases l <;> simp [Rows.uptoBulk]
 | nil => simp [Rows.uptoBulk]
 | ptr d => simp [Rows.uptoBulk]
 | slice elems spare => simp [Rows.uptoBulk]
 | agg parts => simp [Rows.uptoBulk]
 | iface t d => simp [Rows.uptoBulk]
 | map entries => simp [Rows.uptoBulk]
 | held h => simp [Rows.uptoBulk]
theorem bulk_len {H : Type} (l : List (DataW H)) : l.length ≤ Rows.uptoBulkAll l := by
 induction l with
 | nil => simp [Rows.uptoBulkAll]
 | cons x r ih => have := bulk_one x;simp only [Rows.uptoBulkAll,List.length_cons];omega
theorem bulk_mem {H : Type} {x : DataW H} : ∀ {l : List (DataW H)},x ∈ l → Rows.uptoBulk x ≤ Rows.uptoBulkAll l
 | y :: r,h => by
  simp only [Rows.uptoBulkAll]
  rcases List.mem_cons.1 h with rfl | h
  ·omega
  ·have := bulk_mem h;omega
end Go.Proofs.YtnpjaaldppemlaaDoor.Lf
end
section
namespace Go.Proofs.YtnpjaaldppemlaaDoor.Lf
open Go Go.RowKit Go.ChangeShapes Go.WideShapes Go.Proofs.YtnpjaaldppemlaaDoor.U Go.Proofs.YtnpjaaldppemlaaDoorW.PrintWords Go.Proofs.YtnpjaaldppemlaaDoorW.PrintLast Go.Proofs.YtnpjaaldppemlaaDoorW.PrintMore
set_option linter.unusedVariables false
set_option linter.unusedSimpArgs false
theorem lz_gen {H : Type} {enc : TypeId × Value → H} {P : Program} {w : World} {base : Nat} {sp : Nat → Bool} {held : Bool} {t : TypeId} {p0 p1 p2 p3 : Field} (ht : P.underlying t = some (.struct #[p0,p1,p2,p3])) (ce : P.cellsOf t = 4)
  (o0 : p0.offset = 0) (c0 : P.cellsOf p0.type = 1) (u0 : P.underlying p0.type = some .string) (o1 : p1.offset = 1) (c1 : P.cellsOf p1.type = 1) (u1 : P.underlying p1.type = some .string) (o2 : p2.offset = 2) (c2 : P.cellsOf p2.type = 1) (u2 : P.underlying p2.type = some (.int .i64)) (o3 : p3.offset = 3) (c3 : P.cellsOf p3.type = 1) (u3 : P.underlying p3.type = some (.int .i64))
  {fuel : Nat} {cs : List Value} {x : DataW H × List MemPlace} (h : DataW.trod enc P w base sp held fuel t cs = some x) : ∃ (x0 : ByteArray) (x1 : ByteArray) (x2 : Int) (x3 : Int),cs = [.string x0,.string x1,.int .i64 x2,.int .i64 x3] ∧ x0.size + 1 ≤ Rows.uptoBulk x.1 ∧ x1.size + 1 ≤ Rows.uptoBulk x.1 := by
 obtain ⟨xs,n,_,rfl,hl,hlen,hf⟩ := DataW.trod_struct ht h
 rw [ce] at hl
 match xs,hlen,cs,hl with
 | [y0,y1,y2,y3],_,[v0,v1,v2,v3],_ =>
  have g0 := hf 0 p0 rfl
  have g1 := hf 1 p1 rfl
  have g2 := hf 2 p2 rfl
  have g3 := hf 3 p3 rfl
  simp [o0,c0,o1,c1,o2,c2,o3,c3] at g0 g1 g2 g3
  obtain ⟨x0,e0,f0,_⟩ := DataW.trod_string u0 g0
  injection e0 with e0
  subst e0
  obtain ⟨x1,e1,f1,_⟩ := DataW.trod_string u1 g1
  injection e1 with e1
  subst e1
  obtain ⟨x2,e2,f2,_⟩ := DataW.trod_int u2 g2
  injection e2 with e2
  subst e2
  obtain ⟨x3,e3,f3,_⟩ := DataW.trod_int u3 g3
  injection e3 with e3
  subst e3
  refine ⟨x0,x1,x2,x3,rfl,?_⟩
  simp only [List.map_cons,List.map_nil,Rows.uptoBulk,Rows.uptoBulkAll]
  rw [congrArg Prod.fst f0]
  rw [congrArg Prod.fst f1]
  simp only [show ∀ b : List UInt8,Rows.uptoBulk (DataW.lit (H := H) (.string b)) = b.length + 1 from fun b => by simp [Rows.uptoBulk]]
  have z0 : x0.data.toList.length = x0.size := rfl
  have z1 : x1.data.toList.length = x1.size := rfl
  refine ⟨by omega,by omega⟩
theorem lz_el {H : Type} {enc : TypeId × Value → H} {w : World} {base : Nat} {sp : Nat → Bool} {held : Bool} {fuel : Nat} {cs : List Value} {x : DataW H × List MemPlace} (h : DataW.trod enc Tryd.prog w base sp held fuel 23 cs = some x) : ∃ (x0 : ByteArray) (x1 : ByteArray) (x2 : Int) (x3 : Int),cs = [.string x0,.string x1,.int .i64 x2,.int .i64 x3] ∧ x0.size + 1 ≤ Rows.uptoBulk x.1 ∧ x1.size + 1 ≤ Rows.uptoBulk x.1 :=
 lz_gen Tryd.underlying23 (by kernel_rfl) rfl (by kernel_rfl) Tryd.underlying9 rfl (by kernel_rfl) Tryd.underlying9 rfl (by kernel_rfl) Tryd.underlying3 rfl (by kernel_rfl) Tryd.underlying3 h
theorem lz_read {H : Type} {enc : TypeId × Value → H} {w : World} {base : Nat} {held : Bool} {fuel : Nat} {a : Option Addr} {len cap : Nat} {x : DataW H × List MemPlace}
  (h : DataW.trod enc Tryd.prog w base (fun _ => true) held fuel 46 (Value.slice a len cap).cells.toList = some x) :
  ∃ l : List S23,len = l.length ∧ Kd.C k23 w a l.length l ∧ l.length ≤ cap ∧ len ≤ Rows.uptoBulk x.1 ∧ ∀ q ∈ l,q.f0.size ≤ Rows.uptoBulk x.1 ∧ q.f1.size ≤ Rows.uptoBulk x.1 := by
 rcases Deep.open_slice Tryd.underlying46 h with ⟨hcs,hx⟩ | ⟨ad,l',c',m,n,D,Pl,hcs,_,hl,hm,hmm,hx,hc⟩
 ·simp [Value.cells] at hcs
  obtain ⟨rfl,rfl,rfl⟩ := hcs
  exact ⟨[],rfl,Kd.C_nil _ _,Nat.le_refl _,Nat.zero_le _,by simp⟩
 ·simp [Value.cells] at hcs
  obtain ⟨rfl,rfl,rfl⟩ := hcs
  simp only [if_true] at hmm
  subst hmm
  have ce : Tryd.prog.cellsOf 23 = 4 := by kernel_rfl
  have hv : ∀ i,i < len → ∃ q : S23,(∀ j v,[.string q.f0,.string q.f1,.int .i64 q.f2,.int .i64 q.f3][j]? = some v → w.cell? (ad.add (i * 4 + j)) = some v) ∧ q.f0.size + 1 ≤ Rows.uptoBulk (D i) ∧ q.f1.size + 1 ≤ Rows.uptoBulk (D i) := by
   intro i hi
   obtain ⟨cs',h1,h2⟩ := hc i (by omega)
   obtain ⟨x0,x1,x2,x3,rfl,hb⟩ := lz_el h2
   obtain ⟨_,_,hcell⟩ := World.cells?_some h1
   rw [ce] at hcell
   refine ⟨⟨x0,x1,x2,x3⟩,fun j v hj => ?_,hb⟩
   have hjl : j < 4 := (List.getElem?_eq_some_iff.1 hj).1
   have := hcell j hjl
   rw [Deep.add_add] at this
   rw [this]
   exact hj
  haveI : Inhabited S23 := ⟨z23⟩
  obtain ⟨q,hq⟩ := Deep.choose_lt hv
  have hb : Rows.uptoBulkAll ((List.range len).map D) ≤ Rows.uptoBulk x.1 := by
   rw [hx]
   simp only [Rows.uptoBulk]
   omega
  refine ⟨(List.range len).map q,by simp,⟨rfl,by simp;unfold maxLen at hm;omega,fun _ => ⟨ad,rfl,fun j p hj => ?_⟩⟩,by simpa using hl,?_,fun p hp => ?_⟩
  ·rw [List.getElem?_map] at hj
   by_cases hjl : j < len
   ·rw [List.getElem?_range hjl] at hj
    obtain rfl := Option.some.inj hj
    have c := (hq j hjl).1
    refine ⟨_,rfl,k23_mk w (q j),fun i u hu => ?_⟩
    match i,hu with
    | 0,hu => obtain rfl := Option.some.inj hu;exact c 0 _ rfl
    | 1,hu => obtain rfl := Option.some.inj hu;exact c 1 _ rfl
    | 2,hu => obtain rfl := Option.some.inj hu;exact c 2 _ rfl
    | 3,hu => obtain rfl := Option.some.inj hu;exact c 3 _ rfl
    | (i + 4),hu => simp at hu
   ·rw [List.getElem?_eq_none (by simpa using hjl)] at hj
    cases hj
  ·refine Nat.le_trans ?_ hb
   refine Nat.le_trans (Nat.le_of_eq ?_) (bulk_len _)
   simp
  ·obtain ⟨i,hi,rfl⟩ := List.mem_map.1 hp
   have hi := List.mem_range.1 hi
   have h1 := bulk_mem (l := (List.range len).map D) (List.mem_map_of_mem (List.mem_range.2 hi))
   have h2 := (hq i hi).2
   refine ⟨by omega,by omega⟩
end Go.Proofs.YtnpjaaldppemlaaDoor.Lf
end
