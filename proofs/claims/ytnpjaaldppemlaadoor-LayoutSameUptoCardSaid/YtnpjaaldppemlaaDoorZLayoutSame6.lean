/- What the law LayoutSame reaches of this seat's own texts, merged; what nothing uses is left out. -/
import Derived.Test.YtnpjaaldppemlaaDoorZLayoutSame0
import Derived.Test.YtnpjaaldppemlaaDoorZLayoutSame1
import Derived.Test.YtnpjaaldppemlaaDoorZLayoutSame2
import Derived.Test.YtnpjaaldppemlaaDoorZLayoutSame3
import Derived.Test.YtnpjaaldppemlaaDoorZLayoutSame5
section
namespace Go.Proofs.YtnpjaaldppemlaaDoor.U
open Go.RowKit Go.Proofs.YtnpjaaldppemlaaDoorW.PrintWords Go.Proofs.YtnpjaaldppemlaaDoorW.PrintLast Go.Proofs.YtnpjaaldppemlaaDoorW.PrintMore
attribute [local go_sem] max2_int min2_int max_two min_two max_three min_three max_four min_four   -- for this text's walks alone
set_option linter.unusedVariables false
set_option linter.unusedSimpArgs false
attribute [local go_sem high] eqA27 eqA35
def bodkinlaw20_awake.f (k : Nat)  : Option (Bool) := (cluster_Next.f k (⟨#[97]⟩ : ByteArray) 0).bind fun t149 => (if t149 = 1 then ((layout_Lay.f (⟨#[62,32]⟩ : ByteArray) (⟨#[97,98]⟩ : ByteArray) 1 5).bind fun bt150 => ((layout_Lay.f (⟨#[]⟩ : ByteArray) (⟨#[97,228,184,128]⟩ : ByteArray) 1 2).bind fun bt157 => (if bt150.1 = 5 then (if (bt150.2.1.length : Int) = 1 then (if 0 < (bt150.2.1.length : Int) then (if ((rd_L3 bt150.2.1 0).length : Int) = 4 then (if 2 < ((rd_L3 bt150.2.1 0).length : Int) then (if ((((rd_T35 (rd_L3 bt150.2.1 0) 2).f0).toList) == ([97] : List UInt8) && (((rd_T35 (rd_L3 bt150.2.1 0) 2).f1) == 1)) = true then (if (bt150.2.2.1 == 0 && (bt150.2.2.2 == 3)) = true then (if (bt157.2.1.length : Int) = 3 then (if 0 < (bt157.2.1.length : Int) then (if ((rd_L3 bt157.2.1 0).length : Int) = 1 then (if 1 < (bt157.2.1.length : Int) then (if ((rd_L3 bt157.2.1 1).length : Int) = 2 then (if 1 < ((rd_L3 bt157.2.1 1).length : Int) then (if ((((rd_T35 (rd_L3 bt157.2.1 1) 1).f0).toList) == ([] : List UInt8) && (((rd_T35 (rd_L3 bt157.2.1 1) 1).f1) == 0)) = true then (some (bt157.2.2.1 == 0 && (bt157.2.2.2 == 1))) else (some false)) else (none)) else (some false)) else (none)) else (some false)) else (none)) else (some false)) else (some false)) else (some false)) else (none)) else (some false)) else (none)) else (some false)) else (some false)))) else (some false))
theorem bodkinlaw20_awake.mono : ∀ k,LeO (bodkinlaw20_awake.f k ) (bodkinlaw20_awake.f (k + 1) ) := by
 intro  k
 unfold bodkinlaw20_awake.f
 repeat' first
   | (with_reducible exact cluster_Next.mono _ _ _)
   | (with_reducible exact LeO.refl _)
   | (with_reducible exact LeO.none _)
   | (with_reducible refine LeO.ite ?_ ?_)
   | (with_reducible refine LeO.bind ?_ (fun _ => ?_))
   | exact cluster_Next.mono _ _ _
   | exact LeO.none _
   | refine LeO.ite ?_ ?_
   | refine LeO.bind ?_ (fun _ => ?_)
set_option maxHeartbeats 8000000 in
set_option maxRecDepth 100000 in
theorem bodkinlaw20_awake.calls (k : Nat)  (r : Bool) (hr_ : r = true) (w : World) (hT : Lib.Utf8Tabs 0 1 w) (h : bodkinlaw20_awake.f k  = some r) :
  Calls Tryd.prog 12 #[] w fun e w' => e = .returned (.bool r) ∧ Below w.heap.size w w' := by
 have hu29 := Tryd.underlying29
 have hu35 := Tryd.underlying35
 have hu27 := Tryd.underlying27
 have HT := Aside0.mk hT
 clear hT
 have HB := Aside0.mk (Below.refl w.heap.size w)
 have H : ((cluster_Next.f k (⟨#[97]⟩ : ByteArray) 0).bind fun t149 => (if t149 = 1 then ((layout_Lay.f (⟨#[62,32]⟩ : ByteArray) (⟨#[97,98]⟩ : ByteArray) 1 5).bind fun bt150 => ((layout_Lay.f (⟨#[]⟩ : ByteArray) (⟨#[97,228,184,128]⟩ : ByteArray) 1 2).bind fun bt157 => (if bt150.1 = 5 then (if (bt150.2.1.length : Int) = 1 then (if 0 < (bt150.2.1.length : Int) then (if ((rd_L3 bt150.2.1 0).length : Int) = 4 then (if 2 < ((rd_L3 bt150.2.1 0).length : Int) then (if ((((rd_T35 (rd_L3 bt150.2.1 0) 2).f0).toList) == ([97] : List UInt8) && (((rd_T35 (rd_L3 bt150.2.1 0) 2).f1) == 1)) = true then (if (bt150.2.2.1 == 0 && (bt150.2.2.2 == 3)) = true then (if (bt157.2.1.length : Int) = 3 then (if 0 < (bt157.2.1.length : Int) then (if ((rd_L3 bt157.2.1 0).length : Int) = 1 then (if 1 < (bt157.2.1.length : Int) then (if ((rd_L3 bt157.2.1 1).length : Int) = 2 then (if 1 < ((rd_L3 bt157.2.1 1).length : Int) then (if ((((rd_T35 (rd_L3 bt157.2.1 1) 1).f0).toList) == ([] : List UInt8) && (((rd_T35 (rd_L3 bt157.2.1 1) 1).f1) == 0)) = true then (some (bt157.2.2.1 == 0 && (bt157.2.2.2 == 1))) else (some false)) else (none)) else (some false)) else (none)) else (some false)) else (none)) else (some false)) else (some false)) else (some false)) else (none)) else (some false)) else (none)) else (some false)) else (some false)))) else (some false))) = some r := h
 clear h
 replace H := Option.bind_eq_some_iff.mp H
 obtain ⟨t149,A10,H⟩ := H
 replace H : (if t149 = 1 then ((layout_Lay.f (⟨#[62,32]⟩ : ByteArray) (⟨#[97,98]⟩ : ByteArray) 1 5).bind fun bt150 => ((layout_Lay.f (⟨#[]⟩ : ByteArray) (⟨#[97,228,184,128]⟩ : ByteArray) 1 2).bind fun bt157 => (if bt150.1 = 5 then (if (bt150.2.1.length : Int) = 1 then (if 0 < (bt150.2.1.length : Int) then (if ((rd_L3 bt150.2.1 0).length : Int) = 4 then (if 2 < ((rd_L3 bt150.2.1 0).length : Int) then (if ((((rd_T35 (rd_L3 bt150.2.1 0) 2).f0).toList) == ([97] : List UInt8) && (((rd_T35 (rd_L3 bt150.2.1 0) 2).f1) == 1)) = true then (if (bt150.2.2.1 == 0 && (bt150.2.2.2 == 3)) = true then (if (bt157.2.1.length : Int) = 3 then (if 0 < (bt157.2.1.length : Int) then (if ((rd_L3 bt157.2.1 0).length : Int) = 1 then (if 1 < (bt157.2.1.length : Int) then (if ((rd_L3 bt157.2.1 1).length : Int) = 2 then (if 1 < ((rd_L3 bt157.2.1 1).length : Int) then (if ((((rd_T35 (rd_L3 bt157.2.1 1) 1).f0).toList) == ([] : List UInt8) && (((rd_T35 (rd_L3 bt157.2.1 1) 1).f1) == 0)) = true then (some (bt157.2.2.1 == 0 && (bt157.2.2.2 == 1))) else (some false)) else (none)) else (some false)) else (none)) else (some false)) else (none)) else (some false)) else (some false)) else (some false)) else (none)) else (some false)) else (none)) else (some false)) else (some false)))) else (some false)) = some r := H
 have A1 := Aside0.mk A10
 clear A10
 by_cases c2 : t149 = 1
 ·rw [if_pos c2] at H
  have c2b0 : (t149 == 1) = true := beq_iff_eq.mpr c2
  have c2b1 : (t149 != 1) = false := bne_eq_false_iff_eq.mpr c2
  clear c2
  replace H := Option.bind_eq_some_iff.mp H
  obtain ⟨⟨t150,t151,t154,t155⟩,A30,H⟩ := H
  replace H : ((layout_Lay.f (⟨#[]⟩ : ByteArray) (⟨#[97,228,184,128]⟩ : ByteArray) 1 2).bind fun bt157 => (if t150 = 5 then (if (t151.length : Int) = 1 then (if 0 < (t151.length : Int) then (if ((rd_L3 t151 0).length : Int) = 4 then (if 2 < ((rd_L3 t151 0).length : Int) then (if ((((rd_T35 (rd_L3 t151 0) 2).f0).toList) == ([97] : List UInt8) && (((rd_T35 (rd_L3 t151 0) 2).f1) == 1)) = true then (if (t154 == 0 && (t155 == 3)) = true then (if (bt157.2.1.length : Int) = 3 then (if 0 < (bt157.2.1.length : Int) then (if ((rd_L3 bt157.2.1 0).length : Int) = 1 then (if 1 < (bt157.2.1.length : Int) then (if ((rd_L3 bt157.2.1 1).length : Int) = 2 then (if 1 < ((rd_L3 bt157.2.1 1).length : Int) then (if ((((rd_T35 (rd_L3 bt157.2.1 1) 1).f0).toList) == ([] : List UInt8) && (((rd_T35 (rd_L3 bt157.2.1 1) 1).f1) == 0)) = true then (some (bt157.2.2.1 == 0 && (bt157.2.2.2 == 1))) else (some false)) else (none)) else (some false)) else (none)) else (some false)) else (none)) else (some false)) else (some false)) else (some false)) else (none)) else (some false)) else (none)) else (some false)) else (some false))) = some r := H
  have A3 := Aside0.mk A30
  clear A30
  replace H := Option.bind_eq_some_iff.mp H
  obtain ⟨⟨t157,t158,t161,t162⟩,A40,H⟩ := H
  replace H : (if t150 = 5 then (if (t151.length : Int) = 1 then (if 0 < (t151.length : Int) then (if ((rd_L3 t151 0).length : Int) = 4 then (if 2 < ((rd_L3 t151 0).length : Int) then (if ((((rd_T35 (rd_L3 t151 0) 2).f0).toList) == ([97] : List UInt8) && (((rd_T35 (rd_L3 t151 0) 2).f1) == 1)) = true then (if (t154 == 0 && (t155 == 3)) = true then (if (t158.length : Int) = 3 then (if 0 < (t158.length : Int) then (if ((rd_L3 t158 0).length : Int) = 1 then (if 1 < (t158.length : Int) then (if ((rd_L3 t158 1).length : Int) = 2 then (if 1 < ((rd_L3 t158 1).length : Int) then (if ((((rd_T35 (rd_L3 t158 1) 1).f0).toList) == ([] : List UInt8) && (((rd_T35 (rd_L3 t158 1) 1).f1) == 0)) = true then (some (t161 == 0 && (t162 == 1))) else (some false)) else (none)) else (some false)) else (none)) else (some false)) else (none)) else (some false)) else (some false)) else (some false)) else (none)) else (some false)) else (none)) else (some false)) else (some false)) = some r := H
  have A4 := Aside0.mk A40
  clear A40
  by_cases c5 : t150 = 5
  ·rw [if_pos c5] at H
   have c5b0 : (t150 == 5) = true := beq_iff_eq.mpr c5
   have c5b1 : (t150 != 5) = false := bne_eq_false_iff_eq.mpr c5
   clear c5
   by_cases c6 : (t151.length : Int) = 1
   ·rw [if_pos c6] at H
    have c6b0 : ((t151.length : Int) == 1) = true := beq_iff_eq.mpr c6
    have c6b1 : ((t151.length : Int) != 1) = false := bne_eq_false_iff_eq.mpr c6
    clear c6
    by_cases c7 : 0 < (t151.length : Int)
    ·rw [if_pos c7] at H
     have c7b0 : decide (0 < (t151.length : Int)) = true := decide_eq_true c7
     have c7b1 : decide (0 < t151.length) = true := decide_eq_true (by omega)
     clear c7
     by_cases c8 : ((rd_L3 t151 0).length : Int) = 4
     ·rw [if_pos c8] at H
      have c8b0 : (((rd_L3 t151 0).length : Int) == 4) = true := beq_iff_eq.mpr c8
      have c8b1 : (((rd_L3 t151 0).length : Int) != 4) = false := bne_eq_false_iff_eq.mpr c8
      clear c8
      by_cases c9 : 2 < ((rd_L3 t151 0).length : Int)
      ·rw [if_pos c9] at H
       have c9b0 : decide (2 < ((rd_L3 t151 0).length : Int)) = true := decide_eq_true c9
       have c9b1 : decide (2 < (rd_L3 t151 0).length) = true := decide_eq_true (by omega)
       clear c9
       by_cases c10 : ((((rd_T35 (rd_L3 t151 0) 2).f0).toList) == ([97] : List UInt8) && (((rd_T35 (rd_L3 t151 0) 2).f1) == 1)) = true
       ·rw [if_pos c10] at H
        have c10b0 : ((((rd_T35 (rd_L3 t151 0) 2).f0).toList) == ([97] : List UInt8) && (((rd_T35 (rd_L3 t151 0) 2).f1) == 1)) = true := c10
        (try (have c10b1 : decide ((((rd_T35 (rd_L3 t151 0) 2).f0).toList) = ([97] : List UInt8) && (((rd_T35 (rd_L3 t151 0) 2).f1) == 1)) = true := by simpa using c10))
        (try (have c10b2 : ((((rd_T35 (rd_L3 t151 0) 2).f0).toList) == ([97] : List UInt8) && (((rd_T35 (rd_L3 t151 0) 2).f1) == 1)) = true := by simpa using c10))
        clear c10
        by_cases c11 : (t154 == 0 && (t155 == 3)) = true
        ·rw [if_pos c11] at H
         have c11b0 : (t154 == 0 && (t155 == 3)) = true := c11
         (try (have c11b1 : decide (t154 = 0 && (t155 == 3)) = true := by simpa using c11))
         (try (have c11b2 : (t154 == 0 && (t155 == 3)) = true := by simpa using c11))
         clear c11
         by_cases c12 : (t158.length : Int) = 3
         ·rw [if_pos c12] at H
          have c12b0 : ((t158.length : Int) == 3) = true := beq_iff_eq.mpr c12
          have c12b1 : ((t158.length : Int) != 3) = false := bne_eq_false_iff_eq.mpr c12
          clear c12
          by_cases c13 : 0 < (t158.length : Int)
          ·rw [if_pos c13] at H
           have c13b0 : decide (0 < (t158.length : Int)) = true := decide_eq_true c13
           have c13b1 : decide (0 < t158.length) = true := decide_eq_true (by omega)
           clear c13
           by_cases c14 : ((rd_L3 t158 0).length : Int) = 1
           ·rw [if_pos c14] at H
            have c14b0 : (((rd_L3 t158 0).length : Int) == 1) = true := beq_iff_eq.mpr c14
            have c14b1 : (((rd_L3 t158 0).length : Int) != 1) = false := bne_eq_false_iff_eq.mpr c14
            clear c14
            by_cases c15 : 1 < (t158.length : Int)
            ·rw [if_pos c15] at H
             have c15b0 : decide (1 < (t158.length : Int)) = true := decide_eq_true c15
             have c15b1 : decide (1 < t158.length) = true := decide_eq_true (by omega)
             clear c15
             by_cases c16 : ((rd_L3 t158 1).length : Int) = 2
             ·rw [if_pos c16] at H
              have c16b0 : (((rd_L3 t158 1).length : Int) == 2) = true := beq_iff_eq.mpr c16
              have c16b1 : (((rd_L3 t158 1).length : Int) != 2) = false := bne_eq_false_iff_eq.mpr c16
              clear c16
              by_cases c17 : 1 < ((rd_L3 t158 1).length : Int)
              ·rw [if_pos c17] at H
               have c17b0 : decide (1 < ((rd_L3 t158 1).length : Int)) = true := decide_eq_true c17
               have c17b1 : decide (1 < (rd_L3 t158 1).length) = true := decide_eq_true (by omega)
               clear c17
               by_cases c18 : ((((rd_T35 (rd_L3 t158 1) 1).f0).toList) == ([] : List UInt8) && (((rd_T35 (rd_L3 t158 1) 1).f1) == 0)) = true
               ·rw [if_pos c18] at H
                have c18b0 : ((((rd_T35 (rd_L3 t158 1) 1).f0).toList) == ([] : List UInt8) && (((rd_T35 (rd_L3 t158 1) 1).f1) == 0)) = true := c18
                have hc18 := c18
                (try (have c18b1 : decide ((((rd_T35 (rd_L3 t158 1) 1).f0).toList) = ([] : List UInt8) && (((rd_T35 (rd_L3 t158 1) 1).f1) == 0)) = true := by simpa using c18))
                (try (have c18b2 : ((((rd_T35 (rd_L3 t158 1) 1).f0).toList) == ([] : List UInt8) && (((rd_T35 (rd_L3 t158 1) 1).f1) == 0)) = true := by simpa using c18))
                clear c18
                obtain rfl := Option.some.inj H
                go_enter Tryd.func12,Tryd.ntmps12
                go_wp2_with (first | ((with_reducible refine gate_callee (f := 18) rfl ?_);refine goesL_ (some 3) rfl rfl Tryd.func18 (by kernel_rfl) rfl #[.string (⟨#[97]⟩ : ByteArray),.int .i64 0] rfl au1 ?_;(with_reducible refine (cluster_Next.calls k (⟨#[97]⟩ : ByteArray) 0 t149 _ ?side1 A1.out).mono ?_);(case side1 => exact tabs_below HT.out au0);rintro e w19 ⟨rfl,hb⟩;refine ⟨_,rfl,?_⟩;have n0_ := Aside0.mk (below_step au0 hb);clear HB;have HB := n0_;clear n0_;(try clear hb);(try clear hb2);(try clear hk);(try clear hi)) | ((with_reducible refine gate_callee (f := 14) rfl ?_);refine goesL_ (some 5) rfl rfl Tryd.func14 (by kernel_rfl) rfl #[.string (⟨#[62,32]⟩ : ByteArray),.string (⟨#[97,98]⟩ : ByteArray),.int .i64 1,.int .i64 5] rfl au1 ?_;(with_reducible refine (layout_Lay.calls (⟨#[62,32]⟩ : ByteArray) (⟨#[97,98]⟩ : ByteArray) 1 5 t150 t151 t154 t155 _ ?side1 A3.out).mono ?_);(case side1 => exact tabs_below HT.out au0);rintro e w20 ⟨v152,rfl,ho0,hb⟩;refine ⟨_,rfl,?_⟩;have n0_ := Aside0.mk (Kd.S_lower ho0 (below_size au0));have n1_ := Aside0.mk (below_step au0 hb);clear HB;have HO153 := n0_;have HB := n1_;clear n0_ n1_;(try clear hb);(try clear hb2);(try clear hk);(try clear hi);(try clear ho0)) | ((with_reducible refine gate_dst (N := 1) rfl ?_);(try (refine gate_guard (by rfl) ?_;dsimp only));refine box_event ?hg (N := 1) ?hd (cs := #[.int .i64 0,.slice none 0 0,.int .i64 0,.int .i64 0]) (t := 29) ?hr ?_;(case hd => rfl);(case hg => rfl);(case hr => first | (go_simp;done) | (go_simp;rfl));intro gb156 hg w21 hbox hb;have n0_ := Aside0.mk (Kd.S_below (by (with_reducible repeat (first | apply Kd.S_alloc | apply Kd.S_drewN | apply Kd.S_drew));exact HO153.out) hb);have n1_ := Aside0.mk (below_step au0 hb);have n2_ := Aside0.mk (hbox);have n3_ := Aside0.mk ((by rw [hg];exact (below_size au0) : w.heap.size ≤ gb156));have n4_ := Aside0.mk ((by rw [hg];exact (below_size au0) : w.heap.size ≤ gb156));clear HO153;clear HB;have HO153 := n0_;have HB := n1_;have BK156 := n2_;have GW156 := n3_;have GE156 := n4_;clear n0_ n1_ n2_ n3_ n4_;clear hb hbox hg;have hcz22_0 : w21.cell? ⟨gb156,0,none⟩ = some (.int .i64 0) := (blk_cell BK156.out 0).trans rfl;have hcz22_1 : w21.cell? ⟨gb156,1,none⟩ = some (.slice none 0 0) := (blk_cell BK156.out 1).trans rfl;have hcz22_2 : w21.cell? ⟨gb156,2,none⟩ = some (.int .i64 0) := (blk_cell BK156.out 2).trans rfl;have hcz22_3 : w21.cell? ⟨gb156,3,none⟩ = some (.int .i64 0) := (blk_cell BK156.out 3).trans rfl;have hfz22_0 := blk_frozen BK156.out 0;have hfz22_1 := blk_frozen BK156.out 1;have hfz22_2 := blk_frozen BK156.out 2;have hfz22_3 := blk_frozen BK156.out 3;obtain ⟨Ao23,co23,eo23⟩ := Kd.S_slice HO153.out;subst eo23) | ((with_reducible refine gate_callee (f := 14) rfl ?_);refine goesL_ (some 6) rfl rfl Tryd.func14 (by kernel_rfl) rfl #[.string (⟨#[]⟩ : ByteArray),.string (⟨#[97,228,184,128]⟩ : ByteArray),.int .i64 1,.int .i64 2] rfl au1 ?_;(with_reducible refine (layout_Lay.calls (⟨#[]⟩ : ByteArray) (⟨#[97,228,184,128]⟩ : ByteArray) 1 2 t157 t158 t161 t162 _ ?side1 A4.out).mono ?_);(case side1 => exact tabs_below HT.out au19);rintro e w24 ⟨v159,rfl,ho0,hb⟩;refine ⟨_,rfl,?_⟩;have n0_ := Aside0.mk (Kd.S_elder' au24 (Kd.S_base ho0) hb);have n1_ := Aside0.mk (Kd.S_lower (Kd.S_new' ho0 (Kd.S_lt au24)) (below_size au19));have n2_ := Aside0.mk (blk_below (g := gb156) (o := .cells #[.int .i64 t150,.slice Ao23 t151.length co23,.int .i64 t154,.int .i64 t155] 29 (0,0)) (by (with_reducible repeat (first | refine blk_drewN ?_ _ | refine blk_drew ?_ | refine blk_alloc ?_ _));refine blk_put (cs := #[.int .i64 t150,.slice Ao23 t151.length co23,.int .i64 t154,.int .i64 0]) ?_ 3 _ rfl;(with_reducible repeat (first | refine blk_drewN ?_ _ | refine blk_drew ?_ | refine blk_alloc ?_ _));refine blk_put (cs := #[.int .i64 t150,.slice Ao23 t151.length co23,.int .i64 0,.int .i64 0]) ?_ 2 _ rfl;(with_reducible repeat (first | refine blk_drewN ?_ _ | refine blk_drew ?_ | refine blk_alloc ?_ _));refine blk_put (cs := #[.int .i64 t150,.slice none 0 0,.int .i64 0,.int .i64 0]) ?_ 1 _ rfl;(with_reducible repeat (first | refine blk_drewN ?_ _ | refine blk_drew ?_ | refine blk_alloc ?_ _));refine blk_put (cs := #[.int .i64 0,.slice none 0 0,.int .i64 0,.int .i64 0]) ?_ 0 _ rfl;(with_reducible repeat (first | refine blk_drewN ?_ _ | refine blk_drew ?_ | refine blk_alloc ?_ _));exact BK156.out) hb);have n3_ := Aside0.mk (below_step au19 hb);clear HO153;clear BK156;clear HB;have HO153 := n0_;have HO160 := n1_;have BK156 := n2_;have HB := n3_;clear n0_ n1_ n2_ n3_;(try clear hb);(try clear hb2);(try clear hk);(try clear hi);(try clear ho0)) | ((with_reducible refine gate_dst (N := 2) rfl ?_);(try (refine gate_guard (by rfl) ?_;dsimp only));refine box_event ?hg (N := 2) ?hd (cs := #[.int .i64 0,.slice none 0 0,.int .i64 0,.int .i64 0]) (t := 29) ?hr ?_;(case hd => rfl);(case hg => rfl);(case hr => first | (go_simp;done) | (go_simp;rfl));intro gb163 hg w25 hbox hb;have n0_ := Aside0.mk (Kd.S_below (by (with_reducible repeat (first | apply Kd.S_alloc | apply Kd.S_drewN | apply Kd.S_drew));exact HO153.out) hb);have n1_ := Aside0.mk (Kd.S_below (by (with_reducible repeat (first | apply Kd.S_alloc | apply Kd.S_drewN | apply Kd.S_drew));exact HO160.out) hb);have n2_ := Aside0.mk (blk_below (g := gb156) (o := .cells #[.int .i64 t150,.slice Ao23 t151.length co23,.int .i64 t154,.int .i64 t155] 29 (0,0)) (by (with_reducible repeat (first | refine blk_drewN ?_ _ | refine blk_drew ?_ | refine blk_alloc ?_ _));exact BK156.out) hb);have n3_ := Aside0.mk (below_step au19 hb);have n4_ := Aside0.mk (hbox);have n5_ := Aside0.mk ((by rw [hg];exact (below_size au19) : w.heap.size ≤ gb163));have n6_ := Aside0.mk ((by rw [hg];exact (below_size au19) : w.heap.size ≤ gb163));have n7_ := Aside0.mk ((by rw [hg];exact Nat.ne_of_lt (blk_lt (g := gb156) (o := .cells #[.int .i64 t150,.slice Ao23 t151.length co23,.int .i64 t154,.int .i64 t155] 29 (0,0)) (by (with_reducible repeat (first | refine blk_drewN ?_ _ | refine blk_drew ?_ | refine blk_alloc ?_ _));exact BK156.out)) : gb156 ≠ gb163));have n8_ := Aside0.mk ((by rw [hg];exact Nat.ne_of_gt (blk_lt (g := gb156) (o := .cells #[.int .i64 t150,.slice Ao23 t151.length co23,.int .i64 t154,.int .i64 t155] 29 (0,0)) (by (with_reducible repeat (first | refine blk_drewN ?_ _ | refine blk_drew ?_ | refine blk_alloc ?_ _));exact BK156.out)) : gb163 ≠ gb156));clear HO153;clear HO160;clear BK156;clear HB;have HO153 := n0_;have HO160 := n1_;have BK156 := n2_;have HB := n3_;have BK163 := n4_;have GW163 := n5_;have GE163 := n6_;have NB156_163 := n7_;have NB163_156 := n8_;clear n0_ n1_ n2_ n3_ n4_ n5_ n6_ n7_ n8_;clear hb hbox hg;have hnb26 := NB163_156.out;have hnc26 := NB156_163.out;have hcz27_0 : w25.cell? ⟨gb163,0,none⟩ = some (.int .i64 0) := (blk_cell BK163.out 0).trans rfl;have hcz27_1 : w25.cell? ⟨gb163,1,none⟩ = some (.slice none 0 0) := (blk_cell BK163.out 1).trans rfl;have hcz27_2 : w25.cell? ⟨gb163,2,none⟩ = some (.int .i64 0) := (blk_cell BK163.out 2).trans rfl;have hcz27_3 : w25.cell? ⟨gb163,3,none⟩ = some (.int .i64 0) := (blk_cell BK163.out 3).trans rfl;have hfz27_0 := blk_frozen BK163.out 0;have hfz27_1 := blk_frozen BK163.out 1;have hfz27_2 := blk_frozen BK163.out 2;have hfz27_3 := blk_frozen BK163.out 3;obtain ⟨Ao28,co28,eo28⟩ := Kd.S_slice HO160.out;subst eo28) | ((with_reducible refine gate_store (t := 29) (p := 2) rfl ?_);refine store_event (t := 29) (p := 2) (v := ?vo_w29) (w1 := ((((w25.setCell ⟨gb163,0,none⟩ (.int .i64 t157)).setCell ⟨gb163,1,none⟩ (.slice Ao28 t158.length co28)).setCell ⟨gb163,2,none⟩ (.int .i64 t161)).setCell ⟨gb163,3,none⟩ (.int .i64 t162))) ?hg ?ho ?hn ?hr ?_;(case ho => rfl);(case hg => rfl);(case hn => rfl);(case hr => first | (go_simp;done) | (go_simp;rfl));intro w29 hw;have n0_ : Aside0 (Kd.S (Kd.slice 35 k35) 33 w29 w.heap.size (fun k_ => some k_ ≠ (.slice Ao28 t158.length co28 : Value).ownBlock) (.slice Ao23 t151.length co23) t151) := ⟨(by rw [hw];exact (by (with_reducible repeat (first | apply Kd.S_alloc | apply Kd.S_drewN | apply Kd.S_drew));exact Kd.S_mono (Kd.S_far (p := ⟨gb163,3,none⟩) (Kd.S_far (p := ⟨gb163,2,none⟩) (Kd.S_far (p := ⟨gb163,1,none⟩) (Kd.S_far (p := ⟨gb163,0,none⟩) (Kd.S_types HO153.out BK163.out (by decide)) (fun _ hk => hk.2) (.int .i64 t157)) (fun _ hk => hk.2) (.slice Ao28 t158.length co28)) (fun _ hk => hk.2) (.int .i64 t161)) (fun _ hk => hk.2) (.int .i64 t162)) (fun _ hk => hk.1.2)))⟩;have n1_ : Aside0 (Kd.S (Kd.slice 35 k35) 33 w29 w.heap.size (fun k_ => some k_ ≠ (.slice Ao23 t151.length co23 : Value).ownBlock) (.slice Ao28 t158.length co28) t158) := ⟨(by rw [hw];exact (by (with_reducible repeat (first | apply Kd.S_alloc | apply Kd.S_drewN | apply Kd.S_drew));exact Kd.S_mono (Kd.S_far (p := ⟨gb163,3,none⟩) (Kd.S_far (p := ⟨gb163,2,none⟩) (Kd.S_far (p := ⟨gb163,1,none⟩) (Kd.S_far (p := ⟨gb163,0,none⟩) (Kd.S_types HO160.out BK163.out (by decide)) (fun _ hk => hk.2) (.int .i64 t157)) (fun _ hk => hk.2) (.slice Ao28 t158.length co28)) (fun _ hk => hk.2) (.int .i64 t161)) (fun _ hk => hk.2) (.int .i64 t162)) (fun _ hk => hk.1.2)))⟩;have n2_ : Aside0 (w29.heap[gb156]? = some (.cells #[.int .i64 t150,.slice Ao23 t151.length co23,.int .i64 t154,.int .i64 t155] 29 (0,0))) := ⟨(by rw [hw];exact (by (with_reducible repeat (first | refine blk_drewN ?_ _ | refine blk_drew ?_ | refine blk_alloc ?_ _));refine blk_far ?_ NB156_163.out _;(with_reducible repeat (first | refine blk_drewN ?_ _ | refine blk_drew ?_ | refine blk_alloc ?_ _));refine blk_far ?_ NB156_163.out _;(with_reducible repeat (first | refine blk_drewN ?_ _ | refine blk_drew ?_ | refine blk_alloc ?_ _));refine blk_far ?_ NB156_163.out _;(with_reducible repeat (first | refine blk_drewN ?_ _ | refine blk_drew ?_ | refine blk_alloc ?_ _));refine blk_far ?_ NB156_163.out _;(with_reducible repeat (first | refine blk_drewN ?_ _ | refine blk_drew ?_ | refine blk_alloc ?_ _));exact BK156.out))⟩;have n3_ : Aside0 (w29.heap[gb163]? = some (.cells #[.int .i64 t157,.slice Ao28 t158.length co28,.int .i64 t161,.int .i64 t162] 29 (0,0))) := ⟨(by rw [hw];exact (by (with_reducible repeat (first | refine blk_drewN ?_ _ | refine blk_drew ?_ | refine blk_alloc ?_ _));refine blk_put (cs := #[.int .i64 t157,.slice Ao28 t158.length co28,.int .i64 t161,.int .i64 0]) ?_ 3 _ rfl;(with_reducible repeat (first | refine blk_drewN ?_ _ | refine blk_drew ?_ | refine blk_alloc ?_ _));refine blk_put (cs := #[.int .i64 t157,.slice Ao28 t158.length co28,.int .i64 0,.int .i64 0]) ?_ 2 _ rfl;(with_reducible repeat (first | refine blk_drewN ?_ _ | refine blk_drew ?_ | refine blk_alloc ?_ _));refine blk_put (cs := #[.int .i64 t157,.slice none 0 0,.int .i64 0,.int .i64 0]) ?_ 1 _ rfl;(with_reducible repeat (first | refine blk_drewN ?_ _ | refine blk_drew ?_ | refine blk_alloc ?_ _));refine blk_put (cs := #[.int .i64 0,.slice none 0 0,.int .i64 0,.int .i64 0]) ?_ 0 _ rfl;(with_reducible repeat (first | refine blk_drewN ?_ _ | refine blk_drew ?_ | refine blk_alloc ?_ _));exact BK163.out))⟩;have n4_ : Aside0 (Below w.heap.size w w29) := ⟨(by rw [hw];exact (by repeat (first | (with_reducible first | exact HB.out | apply below_alloc | apply pw_below_drewN | apply below_drew1 | refine below_set ?_ GE156.out | refine below_set ?_ GE163.out) | exact HB.out)))⟩;clear hw;clear HO153;clear HO160;clear BK156;clear BK163;clear HB;have HO153 := n0_;have HO160 := n1_;have BK156 := n2_;have BK163 := n3_;have HB := n4_;clear n0_ n1_ n2_ n3_ n4_;have hcz30_0 : w29.cell? ⟨gb156,0,none⟩ = some (.int .i64 t150) := (blk_cell BK156.out 0).trans rfl;have hcz30_1 : w29.cell? ⟨gb156,1,none⟩ = some (.slice Ao23 t151.length co23) := (blk_cell BK156.out 1).trans rfl;have hcz30_2 : w29.cell? ⟨gb156,2,none⟩ = some (.int .i64 t154) := (blk_cell BK156.out 2).trans rfl;have hcz30_3 : w29.cell? ⟨gb156,3,none⟩ = some (.int .i64 t155) := (blk_cell BK156.out 3).trans rfl;have hfz30_0 := blk_frozen BK156.out 0;have hfz30_1 := blk_frozen BK156.out 1;have hfz30_2 := blk_frozen BK156.out 2;have hfz30_3 := blk_frozen BK156.out 3;have p164 : 0 ≤ (0 : Int) := (by omega);have q164 : 0 < (t151.length : Int) := of_decide_eq_true au3;obtain ⟨ad164,A164_0,c164_0,e164,hx164_0,hl164_0,hi164_0⟩ := at_L3 (Kd.S_reads' HO153.out).2.2 0 p164 q164;cases e164;obtain ⟨ce164,hce164,hMe164,hcc164⟩ := Kd.S_get HO153.out [] 0 p164 (by first | exact q164 | exact of_decide_eq_true au3 | (have e_ := (Kd.S_reads' HO153.out).1;omega));obtain ⟨ve164_0,rfl,ge164_0⟩ := hMe164;have hv164_0 := hcc164 0 _ rfl;rw [Nat.add_zero,show ((Kd.slice 35 k35)).sz = 1 from rfl,Nat.mul_one] at hv164_0;replace hv164_0 := Option.some.inj (hv164_0.symm.trans hx164_0);rw [hv164_0] at ge164_0;have HL164_0 := Aside0.mk (show Kd.R k35 35 _ _ _ _ (rd_L3 t151 0) from ge164_0);clear hv164_0 ge164_0;clear hcc164 hce164;have qi164 : (0 < t151.length) = True := eq_true (by omega);(try rw [show ((0 : Int)).toNat = 0 from rfl] at hx164_0);(try rw [Addr.add_zero'] at hx164_0);have HR164_0 := Aside0.mk hi164_0;have HC164_0 := Aside0.mk hl164_0;clear hi164_0 hl164_0;replace p164 := eq_true p164;replace q164 := eq_true q164;have p165 : 0 ≤ (0 : Int) := (by omega);have q165 : 0 < (t151.length : Int) := of_decide_eq_true au3;obtain ⟨ad165,A165_0,c165_0,e165,hx165_0,hl165_0,hi165_0⟩ := at_L3 (Kd.S_reads' HO153.out).2.2 0 p165 q165;obtain rfl : ad164 = ad165 := (by injection e165);obtain ⟨ce165,hce165,hMe165,hcc165⟩ := Kd.S_get HO153.out [] 0 p165 (by first | exact q165 | exact of_decide_eq_true au3 | (have e_ := (Kd.S_reads' HO153.out).1;omega));obtain ⟨ve165_0,rfl,ge165_0⟩ := hMe165;have hv165_0 := hcc165 0 _ rfl;rw [Nat.add_zero,show ((Kd.slice 35 k35)).sz = 1 from rfl,Nat.mul_one] at hv165_0;replace hv165_0 := Option.some.inj (hv165_0.symm.trans hx165_0);rw [hv165_0] at ge165_0;have HL165_0 := Aside0.mk (show Kd.R k35 35 _ _ _ _ (rd_L3 t151 0) from ge165_0);clear hv165_0 ge165_0;clear hcc165 hce165;have qi165 : (0 < t151.length) = True := eq_true (by omega);(try rw [show ((0 : Int)).toNat = 0 from rfl] at hx165_0);(try rw [Addr.add_zero'] at hx165_0);have HR165_0 := Aside0.mk hi165_0;have HC165_0 := Aside0.mk hl165_0;clear hi165_0 hl165_0;replace p165 := eq_true p165;replace q165 := eq_true q165;have ea_ := Option.some.inj (hx164_0.symm.trans hx165_0);injection ea_ with ea_ en_ ec_;subst ea_;subst ec_;clear en_;have p166 : 0 ≤ (2 : Int) := (by omega);have q166 : 2 < ((rd_L3 t151 0).length : Int) := of_decide_eq_true au3;obtain ⟨ad166,e166,hx166_0,hx166_1⟩ := at_T35 (by repeat (first | (with_reducible exact HR165_0.out) | (with_reducible refine Kd.C_alloc ?_ _) | (with_reducible refine Kd.C_drewN ?_ _) | (with_reducible refine Kd.C_drew ?_) | exact HR165_0.out)) 2 p166 q166;cases e166;(try simp only [show (2 : Int).toNat = 2 from rfl,Nat.reduceMul,Nat.reduceEqDiff,Go.Addr.add,↓reduceIte] at hx166_0);(try simp only [show (2 : Int).toNat = 2 from rfl,Nat.reduceMul,Nat.reduceEqDiff,Go.Addr.add,↓reduceIte] at hx166_1);have qi166 : (2 < (rd_L3 t151 0).length) = True := eq_true (by omega);(try rw [show ((2 : Int)).toNat = 2 from rfl] at hx166_0);(try rw [show 2 * 2 = 4 from rfl] at hx166_0);(try rw [show ((2 : Int)).toNat = 2 from rfl] at hx166_1);(try rw [show 2 * 2 = 4 from rfl] at hx166_1);replace p166 := eq_true p166;replace q166 := eq_true q166;have hcz31_0 : w29.cell? ⟨gb163,0,none⟩ = some (.int .i64 t157) := (blk_cell BK163.out 0).trans rfl;have hcz31_1 : w29.cell? ⟨gb163,1,none⟩ = some (.slice Ao28 t158.length co28) := (blk_cell BK163.out 1).trans rfl;have hcz31_2 : w29.cell? ⟨gb163,2,none⟩ = some (.int .i64 t161) := (blk_cell BK163.out 2).trans rfl;have hcz31_3 : w29.cell? ⟨gb163,3,none⟩ = some (.int .i64 t162) := (blk_cell BK163.out 3).trans rfl;have hfz31_0 := blk_frozen BK163.out 0;have hfz31_1 := blk_frozen BK163.out 1;have hfz31_2 := blk_frozen BK163.out 2;have hfz31_3 := blk_frozen BK163.out 3;have p167 : 0 ≤ (0 : Int) := (by omega);have q167 : 0 < (t158.length : Int) := of_decide_eq_true au3;obtain ⟨ad167,A167_0,c167_0,e167,hx167_0,hl167_0,hi167_0⟩ := at_L3 (Kd.S_reads' HO160.out).2.2 0 p167 q167;cases e167;obtain ⟨ce167,hce167,hMe167,hcc167⟩ := Kd.S_get HO160.out [] 0 p167 (by first | exact q167 | exact of_decide_eq_true au3 | (have e_ := (Kd.S_reads' HO160.out).1;omega));obtain ⟨ve167_0,rfl,ge167_0⟩ := hMe167;have hv167_0 := hcc167 0 _ rfl;rw [Nat.add_zero,show ((Kd.slice 35 k35)).sz = 1 from rfl,Nat.mul_one] at hv167_0;replace hv167_0 := Option.some.inj (hv167_0.symm.trans hx167_0);rw [hv167_0] at ge167_0;have HL167_0 := Aside0.mk (show Kd.R k35 35 _ _ _ _ (rd_L3 t158 0) from ge167_0);clear hv167_0 ge167_0;clear hcc167 hce167;have qi167 : (0 < t158.length) = True := eq_true (by omega);(try rw [show ((0 : Int)).toNat = 0 from rfl] at hx167_0);(try rw [Addr.add_zero'] at hx167_0);have HR167_0 := Aside0.mk hi167_0;have HC167_0 := Aside0.mk hl167_0;clear hi167_0 hl167_0;replace p167 := eq_true p167;replace q167 := eq_true q167;have p168 : 0 ≤ (1 : Int) := (by omega);have q168 : 1 < (t158.length : Int) := of_decide_eq_true au3;obtain ⟨ad168,A168_0,c168_0,e168,hx168_0,hl168_0,hi168_0⟩ := at_L3 (Kd.S_reads' HO160.out).2.2 1 p168 q168;obtain rfl : ad167 = ad168 := (by injection e168);obtain ⟨ce168,hce168,hMe168,hcc168⟩ := Kd.S_get HO160.out [] 1 p168 (by first | exact q168 | exact of_decide_eq_true au3 | (have e_ := (Kd.S_reads' HO160.out).1;omega));obtain ⟨ve168_0,rfl,ge168_0⟩ := hMe168;have hv168_0 := hcc168 0 _ rfl;rw [Nat.add_zero,show ((Kd.slice 35 k35)).sz = 1 from rfl,Nat.mul_one] at hv168_0;replace hv168_0 := Option.some.inj (hv168_0.symm.trans hx168_0);rw [hv168_0] at ge168_0;have HL168_0 := Aside0.mk (show Kd.R k35 35 _ _ _ _ (rd_L3 t158 1) from ge168_0);clear hv168_0 ge168_0;clear hcc168 hce168;(try simp only [show (1 : Int).toNat = 1 from rfl,Nat.reduceMul,Nat.reduceEqDiff,Go.Addr.add,↓reduceIte] at hx168_0);have qi168 : (1 < t158.length) = True := eq_true (by omega);(try rw [show ((1 : Int)).toNat = 1 from rfl] at hx168_0);have HR168_0 := Aside0.mk hi168_0;have HC168_0 := Aside0.mk hl168_0;clear hi168_0 hl168_0;replace p168 := eq_true p168;replace q168 := eq_true q168;have p169 : 0 ≤ (1 : Int) := (by omega);have q169 : 1 < (t158.length : Int) := of_decide_eq_true au3;obtain ⟨ad169,A169_0,c169_0,e169,hx169_0,hl169_0,hi169_0⟩ := at_L3 (Kd.S_reads' HO160.out).2.2 1 p169 q169;obtain rfl : ad167 = ad169 := (by injection e169);obtain ⟨ce169,hce169,hMe169,hcc169⟩ := Kd.S_get HO160.out [] 1 p169 (by first | exact q169 | exact of_decide_eq_true au3 | (have e_ := (Kd.S_reads' HO160.out).1;omega));obtain ⟨ve169_0,rfl,ge169_0⟩ := hMe169;have hv169_0 := hcc169 0 _ rfl;rw [Nat.add_zero,show ((Kd.slice 35 k35)).sz = 1 from rfl,Nat.mul_one] at hv169_0;replace hv169_0 := Option.some.inj (hv169_0.symm.trans hx169_0);rw [hv169_0] at ge169_0;have HL169_0 := Aside0.mk (show Kd.R k35 35 _ _ _ _ (rd_L3 t158 1) from ge169_0);clear hv169_0 ge169_0;clear hcc169 hce169;(try simp only [show (1 : Int).toNat = 1 from rfl,Nat.reduceMul,Nat.reduceEqDiff,Go.Addr.add,↓reduceIte] at hx169_0);have qi169 : (1 < t158.length) = True := eq_true (by omega);(try rw [show ((1 : Int)).toNat = 1 from rfl] at hx169_0);have HR169_0 := Aside0.mk hi169_0;have HC169_0 := Aside0.mk hl169_0;clear hi169_0 hl169_0;replace p169 := eq_true p169;replace q169 := eq_true q169;have ea_ := Option.some.inj (hx168_0.symm.trans hx169_0);injection ea_ with ea_ en_ ec_;subst ea_;subst ec_;clear en_;have p170 : 0 ≤ (1 : Int) := (by omega);have q170 : 1 < ((rd_L3 t158 1).length : Int) := of_decide_eq_true au3;obtain ⟨ad170,e170,hx170_0,hx170_1⟩ := at_T35 (by repeat (first | (with_reducible exact HR169_0.out) | (with_reducible refine Kd.C_alloc ?_ _) | (with_reducible refine Kd.C_drewN ?_ _) | (with_reducible refine Kd.C_drew ?_) | exact HR169_0.out)) 1 p170 q170;cases e170;(try simp only [show (1 : Int).toNat = 1 from rfl,Nat.reduceMul,Nat.reduceEqDiff,Go.Addr.add,↓reduceIte] at hx170_0);(try simp only [show (1 : Int).toNat = 1 from rfl,Nat.reduceMul,Nat.reduceEqDiff,Go.Addr.add,↓reduceIte] at hx170_1);have qi170 : (1 < (rd_L3 t158 1).length) = True := eq_true (by omega);(try rw [show ((1 : Int)).toNat = 1 from rfl] at hx170_0);(try rw [show 1 * 2 = 2 from rfl] at hx170_0);(try rw [show ((1 : Int)).toNat = 1 from rfl] at hx170_1);(try rw [show 1 * 2 = 2 from rfl] at hx170_1);replace p170 := eq_true p170;replace q170 := eq_true q170))
                go_ret
                exact ⟨au2,by repeat (first | (with_reducible first | exact HB.out | apply below_alloc | apply pw_below_drewN | apply below_drew1 | refine below_set ?_ GE156.out | refine below_set ?_ GE163.out) | exact HB.out)⟩
                rename_i hx_
                exfalso
                apply hx_
                have h1_ := hc18
                rw [Bool.and_eq_true] at h1_
                exact ⟨by simpa using h1_.1,by simpa using h1_.2⟩
               ·rw [if_neg c18] at H
                have c18b0 : ((((rd_T35 (rd_L3 t158 1) 1).f0).toList) == ([] : List UInt8) && (((rd_T35 (rd_L3 t158 1) 1).f1) == 0)) = false := by simpa using c18
                (try (have c18b1 : decide ((((rd_T35 (rd_L3 t158 1) 1).f0).toList) = ([] : List UInt8) && (((rd_T35 (rd_L3 t158 1) 1).f1) == 0)) = false := by simpa using c18))
                (try (have c18b2 : ((((rd_T35 (rd_L3 t158 1) 1).f0).toList) == ([] : List UInt8) && (((rd_T35 (rd_L3 t158 1) 1).f1) == 0)) = false := by simpa using c18))
                (try (have c18b3 : ¬ ((((rd_T35 (rd_L3 t158 1) 1).f0).toList) = ([] : List UInt8) && (((rd_T35 (rd_L3 t158 1) 1).f1) == 0)) := by simpa using c18))
                clear c18
                obtain rfl := Option.some.inj H
                cases hr_
              ·rw [if_neg c17] at H
               exact absurd H (by simp)
             ·rw [if_neg c16] at H
              have c16b0 : (((rd_L3 t158 1).length : Int) == 2) = false := beq_eq_false_iff_ne.mpr c16
              have c16b1 : (((rd_L3 t158 1).length : Int) != 2) = true := bne_iff_ne.mpr c16
              obtain rfl := Option.some.inj H
              cases hr_
            ·rw [if_neg c15] at H
             exact absurd H (by simp)
           ·rw [if_neg c14] at H
            have c14b0 : (((rd_L3 t158 0).length : Int) == 1) = false := beq_eq_false_iff_ne.mpr c14
            have c14b1 : (((rd_L3 t158 0).length : Int) != 1) = true := bne_iff_ne.mpr c14
            obtain rfl := Option.some.inj H
            cases hr_
          ·rw [if_neg c13] at H
           exact absurd H (by simp)
         ·rw [if_neg c12] at H
          have c12b0 : ((t158.length : Int) == 3) = false := beq_eq_false_iff_ne.mpr c12
          have c12b1 : ((t158.length : Int) != 3) = true := bne_iff_ne.mpr c12
          obtain rfl := Option.some.inj H
          cases hr_
        ·rw [if_neg c11] at H
         have c11b0 : (t154 == 0 && (t155 == 3)) = false := by simpa using c11
         (try (have c11b1 : decide (t154 = 0 && (t155 == 3)) = false := by simpa using c11))
         (try (have c11b2 : (t154 == 0 && (t155 == 3)) = false := by simpa using c11))
         (try (have c11b3 : ¬ (t154 = 0 && (t155 == 3)) := by simpa using c11))
         clear c11
         obtain rfl := Option.some.inj H
         cases hr_
       ·rw [if_neg c10] at H
        have c10b0 : ((((rd_T35 (rd_L3 t151 0) 2).f0).toList) == ([97] : List UInt8) && (((rd_T35 (rd_L3 t151 0) 2).f1) == 1)) = false := by simpa using c10
        (try (have c10b1 : decide ((((rd_T35 (rd_L3 t151 0) 2).f0).toList) = ([97] : List UInt8) && (((rd_T35 (rd_L3 t151 0) 2).f1) == 1)) = false := by simpa using c10))
        (try (have c10b2 : ((((rd_T35 (rd_L3 t151 0) 2).f0).toList) == ([97] : List UInt8) && (((rd_T35 (rd_L3 t151 0) 2).f1) == 1)) = false := by simpa using c10))
        (try (have c10b3 : ¬ ((((rd_T35 (rd_L3 t151 0) 2).f0).toList) = ([97] : List UInt8) && (((rd_T35 (rd_L3 t151 0) 2).f1) == 1)) := by simpa using c10))
        clear c10
        obtain rfl := Option.some.inj H
        cases hr_
      ·rw [if_neg c9] at H
       exact absurd H (by simp)
     ·rw [if_neg c8] at H
      have c8b0 : (((rd_L3 t151 0).length : Int) == 4) = false := beq_eq_false_iff_ne.mpr c8
      have c8b1 : (((rd_L3 t151 0).length : Int) != 4) = true := bne_iff_ne.mpr c8
      obtain rfl := Option.some.inj H
      cases hr_
    ·rw [if_neg c7] at H
     exact absurd H (by simp)
   ·rw [if_neg c6] at H
    have c6b0 : ((t151.length : Int) == 1) = false := beq_eq_false_iff_ne.mpr c6
    have c6b1 : ((t151.length : Int) != 1) = true := bne_iff_ne.mpr c6
    obtain rfl := Option.some.inj H
    cases hr_
  ·rw [if_neg c5] at H
   have c5b0 : (t150 == 5) = false := beq_eq_false_iff_ne.mpr c5
   have c5b1 : (t150 != 5) = true := bne_iff_ne.mpr c5
   obtain rfl := Option.some.inj H
   cases hr_
 ·rw [if_neg c2] at H
  have c2b0 : (t149 == 1) = false := beq_eq_false_iff_ne.mpr c2
  have c2b1 : (t149 != 1) = true := bne_iff_ne.mpr c2
  obtain rfl := Option.some.inj H
  cases hr_
end Go.Proofs.YtnpjaaldppemlaaDoor.U
end
section
namespace Go.Proofs.YtnpjaaldppemlaaDoor.U
open Go.RowKit Go.Proofs.YtnpjaaldppemlaaDoorW.PrintWords Go.Proofs.YtnpjaaldppemlaaDoorW.PrintLast Go.Proofs.YtnpjaaldppemlaaDoorW.PrintMore
attribute [local go_sem] max2_int min2_int max_two min_two max_three min_three max_four min_four   -- for this text's walks alone
set_option linter.unusedVariables false
set_option linter.unusedSimpArgs false
def bodkinlaw20_LayoutSame.j0 : Nat → Bool → Int → List (List (S35)) → Int → Int → Int → List (List (S35)) → Int → Int → Option (Bool)
 | 0,_,_,_,_,_,_,_,_,_ => none
 | k + 1,x18,x214000,x214001,x214002,x214003,x215000,x215001,x215002,x215003 => if x18 = true then (some false) else ((layout_Same.f k x214000 x214001 x214002 x214003 x215000 x215001 x215002 x215003).bind fun t218 => ((bodkinref20_Same.f k x214000 x214001 x214002 x214003 x215000 x215001 x215002 x215003).bind fun t219 => (if (t218 == t219) = true then ((layout_Same.f k x215000 x215001 x215002 x215003 x214000 x214001 x214002 x214003).bind fun t220 => ((bodkinref20_Same.f k x215000 x215001 x215002 x215003 x214000 x214001 x214002 x214003).bind fun t221 => (some (t220 == t221)))) else (some false))))
def bodkinlaw20_LayoutSame.f (k : Nat) (a0_0 : Int) (l0_1 : List (List (S35))) (a0_2 : Int) (a0_3 : Int) (a1_0 : Int) (l1_1 : List (List (S35))) (a1_2 : Int) (a1_3 : Int) : Option (Bool) := (bodkinlaw20_awake.f k).bind fun t215 => (if t215 = true then ((layout_Same.f k a0_0 l0_1 a0_2 a0_3 a0_0 l0_1 a0_2 a0_3).bind fun t216 => (if t216 = true then ((layout_Same.f k a1_0 l1_1 a1_2 a1_3 a1_0 l1_1 a1_2 a1_3).bind fun t217 => (bodkinlaw20_LayoutSame.j0 k (!t217) a0_0 l0_1 a0_2 a0_3 a1_0 l1_1 a1_2 a1_3)) else (bodkinlaw20_LayoutSame.j0 k true a0_0 l0_1 a0_2 a0_3 a1_0 l1_1 a1_2 a1_3))) else (bodkinlaw20_LayoutSame.j0 k true a0_0 l0_1 a0_2 a0_3 a1_0 l1_1 a1_2 a1_3))
def bodkinlaw20_LayoutSame.T3 : Bool × List (List Nat × List Nat) := (true,[([],[]),([],[]),([0,1],[0,1]),([],[]),([],[]),([3,4,2],[3,4]),([2,5],[2,5]),([6,5],[6]),([7],[7]),([7],[7]),([8,9,7,7],[7,8,9]),([7],[7]),([7],[7]),([11,12,10,7],[7,11,12]),([10,13,7],[7,10,13]),([7,14],[7,14]),([15,13,0,1,2,3,4,5,6,7,8,9,10,11,12,13,14,15],[15])])
def bodkinlaw20_LayoutSame.B3 : List Nat := [0,0,3,0,0,31,63,127,255,255,1023,255,255,8191,16383,32767,65535]
theorem bodkinlaw20_LayoutSame.tab3 : rtab .any (opsOf Tryd.f9 3) = bodkinlaw20_LayoutSame.T3 := by kernel_rfl
theorem bodkinlaw20_LayoutSame.bits3 : waitsOk bodkinlaw20_LayoutSame.T3.2 bodkinlaw20_LayoutSame.B3 = true := by kernel_rfl
set_option maxHeartbeats 8000000 in
set_option maxRecDepth 100000 in
theorem bodkinlaw20_LayoutSame.calls (k : Nat) (a0_0 : Int) (A0_1 : Option Addr) (c0_1 : Nat) (l0_1 : List (List (S35))) (a0_2 : Int) (a0_3 : Int) (a1_0 : Int) (A1_1 : Option Addr) (c1_1 : Nat) (l1_1 : List (List (S35))) (a1_2 : Int) (a1_3 : Int) (r : Bool) (hr_ : r = true) (w : World) (hr0_1 : Kd.C (Kd.slice 35 k35) w A0_1 l0_1.length l0_1) (hc0_1 : l0_1.length ≤ c0_1) (hr1_1 : Kd.C (Kd.slice 35 k35) w A1_1 l1_1.length l1_1) (hc1_1 : l1_1.length ≤ c1_1) (hT : Lib.Utf8Tabs 0 1 w) (h : bodkinlaw20_LayoutSame.f k a0_0 l0_1 a0_2 a0_3 a1_0 l1_1 a1_2 a1_3 = some r) :
  Calls Tryd.prog 9 #[.agg #[.int .i64 a0_0,.slice A0_1 l0_1.length c0_1,.int .i64 a0_2,.int .i64 a0_3],.agg #[.int .i64 a1_0,.slice A1_1 l1_1.length c1_1,.int .i64 a1_2,.int .i64 a1_3]] w fun e w' => e = .returned (.bool r) ∧ Below w.heap.size w w' := by
 have hu29 := Tryd.underlying29
 have HT := Aside0.mk hT
 clear hT
 have HR0_1 := Aside0.mk hr0_1
 have HC0_1 := Aside0.mk hc0_1
 clear hr0_1 hc0_1
 have HR1_1 := Aside0.mk hr1_1
 have HC1_1 := Aside0.mk hc1_1
 clear hr1_1 hc1_1
 have HB := Aside0.mk (Below.refl w.heap.size w)
 have H : ((bodkinlaw20_awake.f k).bind fun t215 => (if t215 = true then ((layout_Same.f k a0_0 l0_1 a0_2 a0_3 a0_0 l0_1 a0_2 a0_3).bind fun t216 => (if t216 = true then ((layout_Same.f k a1_0 l1_1 a1_2 a1_3 a1_0 l1_1 a1_2 a1_3).bind fun t217 => (bodkinlaw20_LayoutSame.j0 k (!t217) a0_0 l0_1 a0_2 a0_3 a1_0 l1_1 a1_2 a1_3)) else (bodkinlaw20_LayoutSame.j0 k true a0_0 l0_1 a0_2 a0_3 a1_0 l1_1 a1_2 a1_3))) else (bodkinlaw20_LayoutSame.j0 k true a0_0 l0_1 a0_2 a0_3 a1_0 l1_1 a1_2 a1_3))) = some r := h
 clear h
 have HC3 := Aside0.mk H
 clear H
 go_enter Tryd.func9,Tryd.ntmps9
 go_upto_region 1 with (first | ((with_reducible refine gate_dst (N := 2) rfl ?_);refine box_event ?hg (N := 2) ?hd (cs := #[.int .i64 a0_0,.slice A0_1 l0_1.length c0_1,.int .i64 a0_2,.int .i64 a0_3]) (t := 29) ?hr ?_;(case hd => rfl);(case hg => rfl);(case hr => first | (go_simp;done) | (go_simp;rfl));intro gb213 hg w4 hbox hb;have n0_ := Aside0.mk (below_step au0 hb);have n1_ := Aside0.mk (hbox);have n2_ := Aside0.mk ((by rw [hg];exact (below_size au0) : w.heap.size ≤ gb213));have n3_ := Aside0.mk ((by rw [hg];exact (below_size au0) : w.heap.size ≤ gb213));clear HB;have HB := n0_;have BK213 := n1_;have GW213 := n2_;have GE213 := n3_;clear n0_ n1_ n2_ n3_;clear hb hbox hg) | ((with_reducible refine gate_dst (N := 3) rfl ?_);refine box_event ?hg (N := 3) ?hd (cs := #[.int .i64 a1_0,.slice A1_1 l1_1.length c1_1,.int .i64 a1_2,.int .i64 a1_3]) (t := 29) ?hr ?_;(case hd => rfl);(case hg => rfl);(case hr => first | (go_simp;done) | (go_simp;rfl));intro gb214 hg w5 hbox hb;have n0_ := Aside0.mk (blk_below (g := gb213) (o := .cells #[.int .i64 a0_0,.slice A0_1 l0_1.length c0_1,.int .i64 a0_2,.int .i64 a0_3] 29 (0,0)) au12 hb);have n1_ := Aside0.mk (below_step (by repeat (first | (with_reducible first | exact HB.out | apply below_alloc | apply pw_below_drewN | apply below_drew1 | refine below_set ?_ GE213.out) | exact HB.out)) hb);have n2_ := Aside0.mk (hbox);have n3_ := Aside0.mk ((by rw [hg];exact (below_size (by repeat (first | (with_reducible first | exact HB.out | apply below_alloc | apply pw_below_drewN | apply below_drew1 | refine below_set ?_ GE213.out) | exact HB.out))) : w.heap.size ≤ gb214));have n4_ := Aside0.mk ((by rw [hg];exact (below_size (by repeat (first | (with_reducible first | exact HB.out | apply below_alloc | apply pw_below_drewN | apply below_drew1 | refine below_set ?_ GE213.out) | exact HB.out))) : w.heap.size ≤ gb214));have n5_ := Aside0.mk ((by rw [hg];exact Nat.ne_of_lt (blk_lt (g := gb213) (o := .cells #[.int .i64 a0_0,.slice A0_1 l0_1.length c0_1,.int .i64 a0_2,.int .i64 a0_3] 29 (0,0)) au12) : gb213 ≠ gb214));have n6_ := Aside0.mk ((by rw [hg];exact Nat.ne_of_gt (blk_lt (g := gb213) (o := .cells #[.int .i64 a0_0,.slice A0_1 l0_1.length c0_1,.int .i64 a0_2,.int .i64 a0_3] 29 (0,0)) au12) : gb214 ≠ gb213));clear BK213;clear HB;have BK213 := n0_;have HB := n1_;have BK214 := n2_;have GW214 := n3_;have GE214 := n4_;have NB213_214 := n5_;have NB214_213 := n6_;clear n0_ n1_ n2_ n3_ n4_ n5_ n6_;clear hb hbox hg))
 (try simp only [Act.put,List.setIfInBounds_toArray,List.set_cons_zero,List.set_cons_succ])
 go_cut [18] (fun v18 wc => ∃ (kq : Nat) (x18_2 : Bool),v18 = .bool x18_2 ∧ Aside0 (bodkinlaw20_LayoutSame.j0 kq x18_2 a0_0 l0_1 a0_2 a0_3 a1_0 l1_1 a1_2 a1_3 = some r) ∧ Aside0 (kq ≤ k) ∧ Aside0 (wc.heap[gb213]? = some (.cells #[.int .i64 a0_0,(.slice A0_1 l0_1.length c0_1),.int .i64 a0_2,.int .i64 a0_3] 29 (0,0))) ∧ Aside0 (wc.heap[gb214]? = some (.cells #[.int .i64 a1_0,(.slice A1_1 l1_1.length c1_1),.int .i64 a1_2,.int .i64 a1_3] 29 (0,0))) ∧ Aside0 (Below w.heap.size w wc))
 case first =>
  have H := HC3.out
  clear HC3
  replace H := Option.bind_eq_some_iff.mp H
  obtain ⟨t215,A60,H⟩ := H
  replace H : (if t215 = true then ((layout_Same.f k a0_0 l0_1 a0_2 a0_3 a0_0 l0_1 a0_2 a0_3).bind fun t216 => (if t216 = true then ((layout_Same.f k a1_0 l1_1 a1_2 a1_3 a1_0 l1_1 a1_2 a1_3).bind fun t217 => (bodkinlaw20_LayoutSame.j0 k (!t217) a0_0 l0_1 a0_2 a0_3 a1_0 l1_1 a1_2 a1_3)) else (bodkinlaw20_LayoutSame.j0 k true a0_0 l0_1 a0_2 a0_3 a1_0 l1_1 a1_2 a1_3))) else (bodkinlaw20_LayoutSame.j0 k true a0_0 l0_1 a0_2 a0_3 a1_0 l1_1 a1_2 a1_3)) = some r := H
  have A6 := Aside0.mk A60
  clear A60
  by_cases c7 : t215 = true
  ·subst c7
   have H1 : ((layout_Same.f k a0_0 l0_1 a0_2 a0_3 a0_0 l0_1 a0_2 a0_3).bind fun t216 => (if t216 = true then ((layout_Same.f k a1_0 l1_1 a1_2 a1_3 a1_0 l1_1 a1_2 a1_3).bind fun t217 => (bodkinlaw20_LayoutSame.j0 k (!t217) a0_0 l0_1 a0_2 a0_3 a1_0 l1_1 a1_2 a1_3)) else (bodkinlaw20_LayoutSame.j0 k true a0_0 l0_1 a0_2 a0_3 a1_0 l1_1 a1_2 a1_3))) = some r := by rw [if_pos rfl] at H;exact H
   clear H
   have H := H1
   clear H1
   replace H := Option.bind_eq_some_iff.mp H
   obtain ⟨t216,A80,H⟩ := H
   replace H : (if t216 = true then ((layout_Same.f k a1_0 l1_1 a1_2 a1_3 a1_0 l1_1 a1_2 a1_3).bind fun t217 => (bodkinlaw20_LayoutSame.j0 k (!t217) a0_0 l0_1 a0_2 a0_3 a1_0 l1_1 a1_2 a1_3)) else (bodkinlaw20_LayoutSame.j0 k true a0_0 l0_1 a0_2 a0_3 a1_0 l1_1 a1_2 a1_3)) = some r := H
   have A8 := Aside0.mk A80
   clear A80
   by_cases c9 : t216 = true
   ·subst c9
    have H1 : ((layout_Same.f k a1_0 l1_1 a1_2 a1_3 a1_0 l1_1 a1_2 a1_3).bind fun t217 => (bodkinlaw20_LayoutSame.j0 k (!t217) a0_0 l0_1 a0_2 a0_3 a1_0 l1_1 a1_2 a1_3)) = some r := by rw [if_pos rfl] at H;exact H
    clear H
    have H := H1
    clear H1
    replace H := Option.bind_eq_some_iff.mp H
    obtain ⟨t217,A100,H⟩ := H
    replace H : (bodkinlaw20_LayoutSame.j0 k (!t217) a0_0 l0_1 a0_2 a0_3 a1_0 l1_1 a1_2 a1_3) = some r := H
    have A10 := Aside0.mk A100
    clear A100
    have H' := Aside0.mk H
    clear H
    go_wp2_with (first | ((with_reducible refine gate_callee (f := 12) rfl ?_);refine goesL_ (some 5) rfl rfl Tryd.func12 (by kernel_rfl) rfl #[] rfl au1 ?_;(with_reducible refine (bodkinlaw20_awake.calls k true rfl _ ?side1 A6.out).mono ?_);(case side1 => exact tabs_below HT.out au7);rintro e w11 ⟨rfl,hb⟩;refine ⟨_,rfl,?_⟩;have n0_ := Aside0.mk (blk_below (g := gb213) (o := .cells #[.int .i64 a0_0,.slice A0_1 l0_1.length c0_1,.int .i64 a0_2,.int .i64 a0_3] 29 (0,0)) au12 hb);have n1_ := Aside0.mk (blk_below (g := gb214) (o := .cells #[.int .i64 a1_0,.slice A1_1 l1_1.length c1_1,.int .i64 a1_2,.int .i64 a1_3] 29 (0,0)) au20 hb);have n2_ := Aside0.mk (below_step au7 hb);clear BK213;clear BK214;clear HB;have BK213 := n0_;have BK214 := n1_;have HB := n2_;clear n0_ n1_ n2_;(try clear hb);(try clear hb2);(try clear hk);(try clear hi);have hnb12 := NB213_214.out;have hnc12 := NB214_213.out;have hcz13_0 : w11.cell? ⟨gb213,0,none⟩ = some (.int .i64 a0_0) := (blk_cell BK213.out 0).trans rfl;have hcz13_1 : w11.cell? ⟨gb213,1,none⟩ = some (.slice A0_1 l0_1.length c0_1) := (blk_cell BK213.out 1).trans rfl;have hcz13_2 : w11.cell? ⟨gb213,2,none⟩ = some (.int .i64 a0_2) := (blk_cell BK213.out 2).trans rfl;have hcz13_3 : w11.cell? ⟨gb213,3,none⟩ = some (.int .i64 a0_3) := (blk_cell BK213.out 3).trans rfl;have hfz13_0 := blk_frozen BK213.out 0;have hfz13_1 := blk_frozen BK213.out 1;have hfz13_2 := blk_frozen BK213.out 2;have hfz13_3 := blk_frozen BK213.out 3) | (go_at_call 30;(with_reducible refine (layout_Same.calls k a0_0 _ _ l0_1 a0_2 a0_3 a0_0 _ _ l0_1 a0_2 a0_3 true _ ?side1 ?side2 ?side3 ?side4 A8.out).mono ?_);(case side1 => repeat (first | exact (Kd.C_below HR0_1.out HB.out) | (with_reducible refine Kd.C_alloc ?_ _) | (with_reducible refine Kd.C_drewN ?_ _) | (with_reducible refine Kd.C_drew ?_)));(case side2 => exact HC0_1.out);(case side3 => repeat (first | exact (Kd.C_below HR0_1.out HB.out) | (with_reducible refine Kd.C_alloc ?_ _) | (with_reducible refine Kd.C_drewN ?_ _) | (with_reducible refine Kd.C_drew ?_)));(case side4 => exact HC0_1.out);rintro e w14 ⟨rfl,hb⟩;have n0_ := Aside0.mk (blk_below (g := gb213) (o := .cells #[.int .i64 a0_0,.slice A0_1 l0_1.length c0_1,.int .i64 a0_2,.int .i64 a0_3] 29 (0,0)) au12 hb);have n1_ := Aside0.mk (blk_below (g := gb214) (o := .cells #[.int .i64 a1_0,.slice A1_1 l1_1.length c1_1,.int .i64 a1_2,.int .i64 a1_3] 29 (0,0)) au20 hb);have n2_ := Aside0.mk (below_step au7 hb);clear BK213;clear BK214;clear HB;have BK213 := n0_;have BK214 := n1_;have HB := n2_;clear n0_ n1_ n2_;(try clear hb);(try clear hb2);(try clear hk);(try clear hi);have hcz15_0 : w14.cell? ⟨gb214,0,none⟩ = some (.int .i64 a1_0) := (blk_cell BK214.out 0).trans rfl;have hcz15_1 : w14.cell? ⟨gb214,1,none⟩ = some (.slice A1_1 l1_1.length c1_1) := (blk_cell BK214.out 1).trans rfl;have hcz15_2 : w14.cell? ⟨gb214,2,none⟩ = some (.int .i64 a1_2) := (blk_cell BK214.out 2).trans rfl;have hcz15_3 : w14.cell? ⟨gb214,3,none⟩ = some (.int .i64 a1_3) := (blk_cell BK214.out 3).trans rfl;have hfz15_0 := blk_frozen BK214.out 0;have hfz15_1 := blk_frozen BK214.out 1;have hfz15_2 := blk_frozen BK214.out 2;have hfz15_3 := blk_frozen BK214.out 3) | (go_at_call 30;(with_reducible refine (layout_Same.calls k a1_0 _ _ l1_1 a1_2 a1_3 a1_0 _ _ l1_1 a1_2 a1_3 t217 _ ?side1 ?side2 ?side3 ?side4 A10.out).mono ?_);(case side1 => repeat (first | exact (Kd.C_below HR1_1.out HB.out) | (with_reducible refine Kd.C_alloc ?_ _) | (with_reducible refine Kd.C_drewN ?_ _) | (with_reducible refine Kd.C_drew ?_)));(case side2 => exact HC1_1.out);(case side3 => repeat (first | exact (Kd.C_below HR1_1.out HB.out) | (with_reducible refine Kd.C_alloc ?_ _) | (with_reducible refine Kd.C_drewN ?_ _) | (with_reducible refine Kd.C_drew ?_)));(case side4 => exact HC1_1.out);rintro e w16 ⟨rfl,hb⟩;have n0_ := Aside0.mk (blk_below (g := gb213) (o := .cells #[.int .i64 a0_0,.slice A0_1 l0_1.length c0_1,.int .i64 a0_2,.int .i64 a0_3] 29 (0,0)) au12 hb);have n1_ := Aside0.mk (blk_below (g := gb214) (o := .cells #[.int .i64 a1_0,.slice A1_1 l1_1.length c1_1,.int .i64 a1_2,.int .i64 a1_3] 29 (0,0)) au20 hb);have n2_ := Aside0.mk (below_step au7 hb);clear BK213;clear BK214;clear HB;have BK213 := n0_;have BK214 := n1_;have HB := n2_;clear n0_ n1_ n2_;(try clear hb);(try clear hb2);(try clear hk);(try clear hi)))
    go_meet
    case rel => exact ⟨_,(!t217),au10,H',⟨by first | omega | exact Nat.le_refl _⟩,⟨by (with_reducible repeat (first | refine blk_drewN ?_ _ | refine blk_drew ?_ | refine blk_alloc ?_ _));exact BK213.out⟩,⟨by (with_reducible repeat (first | refine blk_drewN ?_ _ | refine blk_drew ?_ | refine blk_alloc ?_ _));exact BK214.out⟩,⟨by repeat (first | (with_reducible first | exact HB.out | apply below_alloc | apply pw_below_drewN | apply below_drew1 | refine below_set ?_ GE213.out | refine below_set ?_ GE214.out) | exact HB.out)⟩⟩
   ·replace c9 := Bool.eq_false_iff.mpr c9
    subst c9
    have H1 : (bodkinlaw20_LayoutSame.j0 k true a0_0 l0_1 a0_2 a0_3 a1_0 l1_1 a1_2 a1_3) = some r := by rw [if_neg (show ¬ (false = true) by decide)] at H;exact H
    clear H
    have H := H1
    clear H1
    exfalso
    subst hr_
    cases k <;> simp [bodkinlaw20_LayoutSame.j0] at H
  ·replace c7 := Bool.eq_false_iff.mpr c7
   subst c7
   have H1 : (bodkinlaw20_LayoutSame.j0 k true a0_0 l0_1 a0_2 a0_3 a1_0 l1_1 a1_2 a1_3) = some r := by rw [if_neg (show ¬ (false = true) by decide)] at H;exact H
   clear H
   have H := H1
   clear H1
   exfalso
   subst hr_
   cases k <;> simp [bodkinlaw20_LayoutSame.j0] at H
 case rest =>
  clear HC3
  try clear c1
  try clear p2
  try clear c7
  try clear c9
  try clear c12
  try clear c18
  try clear hcz13_0
  try clear hcz13_1
  try clear hcz13_2
  try clear hcz13_3
  try clear hcz15_0
  try clear hcz15_1
  try clear hcz15_2
  try clear hcz15_3
  try clear hcz19_0
  try clear hcz19_1
  try clear hcz19_2
  try clear hcz19_3
  try clear hfz13_0
  try clear hfz13_1
  try clear hfz13_2
  try clear hfz13_3
  try clear hfz15_0
  try clear hfz15_1
  try clear hfz15_2
  try clear hfz15_3
  try clear hfz19_0
  try clear hfz19_1
  try clear hfz19_2
  try clear hfz19_3
  obtain ⟨kq,x18_2,rfl,HA,HJ2,BK213,BK214,HB⟩ := hcut
  cases kq with
  | zero => exact absurd HA.out (by simp [bodkinlaw20_LayoutSame.j0])
  | succ kj2 =>
   have H := HA.out
   clear HA
   simp only [bodkinlaw20_LayoutSame.j0] at H
   by_cases c22 : x18_2 = true
   ·subst c22
    have H1 : (some false) = some r := by rw [if_pos rfl] at H;exact H
    clear H
    have H := H1
    clear H1
    obtain rfl := Option.some.inj H
    cases hr_
   ·replace c22 := Bool.eq_false_iff.mpr c22
    subst c22
    have H1 : ((layout_Same.f kj2 a0_0 l0_1 a0_2 a0_3 a1_0 l1_1 a1_2 a1_3).bind fun t218 => ((bodkinref20_Same.f kj2 a0_0 l0_1 a0_2 a0_3 a1_0 l1_1 a1_2 a1_3).bind fun t219 => (if (t218 == t219) = true then ((layout_Same.f kj2 a1_0 l1_1 a1_2 a1_3 a0_0 l0_1 a0_2 a0_3).bind fun t220 => ((bodkinref20_Same.f kj2 a1_0 l1_1 a1_2 a1_3 a0_0 l0_1 a0_2 a0_3).bind fun t221 => (some (t220 == t221)))) else (some false)))) = some r := by rw [if_neg (show ¬ (false = true) by decide)] at H;exact H
    clear H
    have H := H1
    clear H1
    replace H := Option.bind_eq_some_iff.mp H
    obtain ⟨t218,A230,H⟩ := H
    replace H : ((bodkinref20_Same.f kj2 a0_0 l0_1 a0_2 a0_3 a1_0 l1_1 a1_2 a1_3).bind fun t219 => (if (t218 == t219) = true then ((layout_Same.f kj2 a1_0 l1_1 a1_2 a1_3 a0_0 l0_1 a0_2 a0_3).bind fun t220 => ((bodkinref20_Same.f kj2 a1_0 l1_1 a1_2 a1_3 a0_0 l0_1 a0_2 a0_3).bind fun t221 => (some (t220 == t221)))) else (some false))) = some r := H
    have A23 := Aside0.mk A230
    clear A230
    replace H := Option.bind_eq_some_iff.mp H
    obtain ⟨t219,A240,H⟩ := H
    replace H : (if (t218 == t219) = true then ((layout_Same.f kj2 a1_0 l1_1 a1_2 a1_3 a0_0 l0_1 a0_2 a0_3).bind fun t220 => ((bodkinref20_Same.f kj2 a1_0 l1_1 a1_2 a1_3 a0_0 l0_1 a0_2 a0_3).bind fun t221 => (some (t220 == t221)))) else (some false)) = some r := H
    have A24 := Aside0.mk A240
    clear A240
    by_cases c25 : (t218 == t219) = true
    ·rw [if_pos c25] at H
     have c25b0 : (t218 == t219) = true := c25
     (try (have c25b1 : decide (t218 = t219) = true := by simpa using c25))
     (try (have c25b2 : (t218 == t219) = true := by simpa using c25))
     clear c25
     replace H := Option.bind_eq_some_iff.mp H
     obtain ⟨t220,A260,H⟩ := H
     replace H : ((bodkinref20_Same.f kj2 a1_0 l1_1 a1_2 a1_3 a0_0 l0_1 a0_2 a0_3).bind fun t221 => (some (t220 == t221))) = some r := H
     have A26 := Aside0.mk A260
     clear A260
     replace H := Option.bind_eq_some_iff.mp H
     obtain ⟨t221,A270,H⟩ := H
     replace H : (some (t220 == t221)) = some r := H
     have A27 := Aside0.mk A270
     clear A270
     obtain rfl := Option.some.inj H
     try go_wp2
     have n0_ := Aside0.mk (blk_drew BK213.out)
     have n1_ := Aside0.mk (blk_drew BK214.out)
     have n2_ := Aside0.mk (below_drew1 HB.out)
     clear BK213
     clear BK214
     clear HB
     have BK213 := n0_
     have BK214 := n1_
     have HB := n2_
     clear n0_ n1_ n2_
     refine start_ (n := 17) (S := fun w' => w'.cell? ⟨gb213,0,none⟩ = some (.int .i64 a0_0) ∧ w'.cell? ⟨gb213,1,none⟩ = some (.slice A0_1 l0_1.length c0_1) ∧ w'.cell? ⟨gb213,2,none⟩ = some (.int .i64 a0_2) ∧ w'.cell? ⟨gb213,3,none⟩ = some (.int .i64 a0_3) ∧ w'.cell? ⟨gb214,0,none⟩ = some (.int .i64 a1_0) ∧ w'.cell? ⟨gb214,1,none⟩ = some (.slice A1_1 l1_1.length c1_1) ∧ w'.cell? ⟨gb214,2,none⟩ = some (.int .i64 a1_2) ∧ w'.cell? ⟨gb214,3,none⟩ = some (.int .i64 a1_3)) (ds := []) #[false,false,false,false,false,false,false,false,false,false,false,false,false,false,false,false,false] (by kernel_rfl) rfl rfl ⟨(blk_cell BK213.out 0).trans rfl,(blk_cell BK213.out 1).trans rfl,(blk_cell BK213.out 2).trans rfl,(blk_cell BK213.out 3).trans rfl,(blk_cell BK214.out 0).trans rfl,(blk_cell BK214.out 1).trans rfl,(blk_cell BK214.out 2).trans rfl,(blk_cell BK214.out 3).trans rfl⟩ (fun hHeld => ?_);refine with_tabW bodkinlaw20_LayoutSame.tab3 bodkinlaw20_LayoutSame.bits3 (fun HT_ HW_ => ?_)
     generalize wc.drew = w28 at BK213 BK214 HB hHeld ⊢
     refine take_ (i := 0) (N := some 19) (v := ?_) (a' := ?_) #[true,false,false,false,false,false,false,false,false,false,false,false,false,false,false,false,false] rfl rfl (take_ofW HT_.out HW_.out (by kernel_rfl)) (fun _ _ _ h => h) (Or.inl ⟨by rfl,?_⟩) hHeld ?_ ?_
     rotate_left
     ·rintro w' ⟨s0,s1,s2,s3,s4,s5,s6,s7⟩
      go_simp
      with_reducible rfl
     rotate_left
     ·simp only [Act.put,List.setIfInBounds_toArray,List.set_cons_zero,List.set_cons_succ,i64_w,i32_w]
      rfl
     refine take_ (i := 1) (N := some 20) (v := ?_) (a' := ?_) #[true,true,false,false,false,false,false,false,false,false,false,false,false,false,false,false,false] rfl rfl (take_ofW HT_.out HW_.out (by kernel_rfl)) (fun _ _ _ h => h) (Or.inl ⟨by rfl,?_⟩) hHeld ?_ ?_
     rotate_left
     ·rintro w' ⟨s0,s1,s2,s3,s4,s5,s6,s7⟩
      go_simp
      with_reducible rfl
     rotate_left
     ·simp only [Act.put,List.setIfInBounds_toArray,List.set_cons_zero,List.set_cons_succ,i64_w,i32_w]
      rfl
     refine take_ (i := 3) (N := some 22) (v := ?_) (a' := ?_) #[true,true,false,true,false,false,false,false,false,false,false,false,false,false,false,false,false] rfl rfl (take_ofW HT_.out HW_.out (by kernel_rfl)) (fun _ _ _ h => h) (Or.inl ⟨by rfl,?_⟩) hHeld ?_ ?_
     rotate_left
     ·rintro w' ⟨s0,s1,s2,s3,s4,s5,s6,s7⟩
      go_simp
      with_reducible rfl
     rotate_left
     ·simp only [Act.put,List.setIfInBounds_toArray,List.set_cons_zero,List.set_cons_succ,i64_w,i32_w]
      rfl
     refine take_ (i := 4) (N := some 23) (v := ?_) (a' := ?_) #[true,true,false,true,true,false,false,false,false,false,false,false,false,false,false,false,false] rfl rfl (take_ofW HT_.out HW_.out (by kernel_rfl)) (fun _ _ _ h => h) (Or.inl ⟨by rfl,?_⟩) hHeld ?_ ?_
     rotate_left
     ·rintro w' ⟨s0,s1,s2,s3,s4,s5,s6,s7⟩
      go_simp
      with_reducible rfl
     rotate_left
     ·simp only [Act.put,List.setIfInBounds_toArray,List.set_cons_zero,List.set_cons_succ,i64_w,i32_w]
      rfl
     refine one_ (i := 2) (N := some 21) #[true,true,true,true,true,false,false,false,false,false,false,false,false,false,false,false,false] rfl rfl (one_of HT_.out (by kernel_rfl)) (by decide) (fun K hK => ?_)
     refine goes_ Tryd.func30 (by kernel_rfl) rfl #[.agg #[.int .i64 a0_0,.slice A0_1 l0_1.length c0_1,.int .i64 a0_2,.int .i64 a0_3],.agg #[.int .i64 a1_0,.slice A1_1 l1_1.length c1_1,.int .i64 a1_2,.int .i64 a1_3]] (by rfl) rfl rfl au1 ?_
     with_reducible refine (layout_Same.calls kj2 a0_0 _ _ l0_1 a0_2 a0_3 a1_0 _ _ l1_1 a1_2 a1_3 t218 _ ?side1 ?side2 ?side3 ?side4 A23.out).mono ?_
     (case side1 => repeat (first | exact (Kd.C_below HR0_1.out HB.out) | (with_reducible refine Kd.C_alloc ?_ _) | (with_reducible refine Kd.C_drewN ?_ _) | (with_reducible refine Kd.C_drew ?_)))
     (case side2 => exact HC0_1.out)
     (case side3 => repeat (first | exact (Kd.C_below HR1_1.out HB.out) | (with_reducible refine Kd.C_alloc ?_ _) | (with_reducible refine Kd.C_drewN ?_ _) | (with_reducible refine Kd.C_drew ?_)))
     (case side4 => exact HC1_1.out)
     rintro e w29 ⟨rfl,hb⟩
     refine ⟨_,rfl,?_⟩
     have n0_ := Aside0.mk (blk_below (g := gb213) (o := .cells #[.int .i64 a0_0,.slice A0_1 l0_1.length c0_1,.int .i64 a0_2,.int .i64 a0_3] 29 (0,0)) au12 hb)
     have n1_ := Aside0.mk (blk_below (g := gb214) (o := .cells #[.int .i64 a1_0,.slice A1_1 l1_1.length c1_1,.int .i64 a1_2,.int .i64 a1_3] 29 (0,0)) au20 hb)
     have n2_ := Aside0.mk (below_step au7 hb)
     clear BK213
     clear BK214
     clear HB
     have BK213 := n0_
     have BK214 := n1_
     have HB := n2_
     clear n0_ n1_ n2_
     (try clear hb)
     (try clear hb2)
     (try clear hk)
     (try clear hi)
     refine hK.out _ _ ⟨(blk_cell BK213.out 0).trans rfl,(blk_cell BK213.out 1).trans rfl,(blk_cell BK213.out 2).trans rfl,(blk_cell BK213.out 3).trans rfl,(blk_cell BK214.out 0).trans rfl,(blk_cell BK214.out 1).trans rfl,(blk_cell BK214.out 2).trans rfl,(blk_cell BK214.out 3).trans rfl⟩ (fun hHeld => ?_)
     clear hK K
     refine norm_ (a' := ?_) ?_ ?_
     rotate_left
     ·show Act.put _ (some 21) _ = _
      simp only [Act.put,List.setIfInBounds_toArray,List.set_cons_zero,List.set_cons_succ,i64_w,i32_w]
      rfl
     refine one_ (i := 5) (N := some 24) #[true,true,true,true,true,true,false,false,false,false,false,false,false,false,false,false,false] rfl rfl (one_of HT_.out (by kernel_rfl)) (by decide) (fun K hK => ?_)
     refine goes_ Tryd.func15 (by kernel_rfl) rfl #[.agg #[.int .i64 a0_0,.slice A0_1 l0_1.length c0_1,.int .i64 a0_2,.int .i64 a0_3],.agg #[.int .i64 a1_0,.slice A1_1 l1_1.length c1_1,.int .i64 a1_2,.int .i64 a1_3]] (by rfl) rfl rfl au1 ?_
     with_reducible refine (bodkinref20_Same.calls kj2 a0_0 _ _ l0_1 a0_2 a0_3 a1_0 _ _ l1_1 a1_2 a1_3 t219 _ ?side1 ?side2 ?side3 ?side4 A24.out).mono ?_
     (case side1 => repeat (first | exact (Kd.C_below HR0_1.out HB.out) | (with_reducible refine Kd.C_alloc ?_ _) | (with_reducible refine Kd.C_drewN ?_ _) | (with_reducible refine Kd.C_drew ?_)))
     (case side2 => exact HC0_1.out)
     (case side3 => repeat (first | exact (Kd.C_below HR1_1.out HB.out) | (with_reducible refine Kd.C_alloc ?_ _) | (with_reducible refine Kd.C_drewN ?_ _) | (with_reducible refine Kd.C_drew ?_)))
     (case side4 => exact HC1_1.out)
     rintro e w30 ⟨rfl,hb⟩
     refine ⟨_,rfl,?_⟩
     have n0_ := Aside0.mk (blk_below (g := gb213) (o := .cells #[.int .i64 a0_0,.slice A0_1 l0_1.length c0_1,.int .i64 a0_2,.int .i64 a0_3] 29 (0,0)) au12 hb)
     have n1_ := Aside0.mk (blk_below (g := gb214) (o := .cells #[.int .i64 a1_0,.slice A1_1 l1_1.length c1_1,.int .i64 a1_2,.int .i64 a1_3] 29 (0,0)) au20 hb)
     have n2_ := Aside0.mk (below_step au7 hb)
     clear BK213
     clear BK214
     clear HB
     have BK213 := n0_
     have BK214 := n1_
     have HB := n2_
     clear n0_ n1_ n2_
     (try clear hb)
     (try clear hb2)
     (try clear hk)
     (try clear hi)
     refine hK.out _ _ ⟨(blk_cell BK213.out 0).trans rfl,(blk_cell BK213.out 1).trans rfl,(blk_cell BK213.out 2).trans rfl,(blk_cell BK213.out 3).trans rfl,(blk_cell BK214.out 0).trans rfl,(blk_cell BK214.out 1).trans rfl,(blk_cell BK214.out 2).trans rfl,(blk_cell BK214.out 3).trans rfl⟩ (fun hHeld => ?_)
     clear hK K
     refine norm_ (a' := ?_) ?_ ?_
     rotate_left
     ·show Act.put _ (some 24) _ = _
      simp only [Act.put,List.setIfInBounds_toArray,List.set_cons_zero,List.set_cons_succ,i64_w,i32_w]
      rfl
     refine pure_ (i := 6) (N := some 25) (v := ?_) (a' := ?_) #[true,true,true,true,true,true,true,false,false,false,false,false,false,false,false,false,false] rfl rfl (any_of HT_.out (by kernel_rfl)) (fun _ _ _ h => h) (Or.inl ⟨by rfl,?_⟩) ?_ ?_
     rotate_left
     ·intro w'
      go_simp
      with_reducible rfl
     rotate_left
     ·simp only [Act.put,List.setIfInBounds_toArray,List.set_cons_zero,List.set_cons_succ,i64_w,i32_w]
      rfl
     refine pure_ (i := 7) (N := some 26) (v := ?_) (a' := ?_) #[true,true,true,true,true,true,true,true,false,false,false,false,false,false,false,false,false] rfl rfl (any_of HT_.out (by kernel_rfl)) (fun _ _ _ h => h) (Or.inl ⟨by rfl,?_⟩) ?_ ?_
     rotate_left
     ·intro w'
      go_simp
      with_reducible rfl
     rotate_left
     ·simp only [Act.put,List.setIfInBounds_toArray,List.set_cons_zero,List.set_cons_succ,i64_w,i32_w]
      rfl
     refine take_ (i := 8) (N := some 27) (v := ?_) (a' := ?_) #[true,true,true,true,true,true,true,true,true,false,false,false,false,false,false,false,false] rfl rfl (take_ofW HT_.out HW_.out (by kernel_rfl)) (fun _ _ _ h => h) (Or.inl ⟨by rfl,?_⟩) hHeld ?_ ?_
     rotate_left
     ·rintro w' ⟨s0,s1,s2,s3,s4,s5,s6,s7⟩
      go_simp
      with_reducible rfl
     rotate_left
     ·simp only [Act.put,List.setIfInBounds_toArray,List.set_cons_zero,List.set_cons_succ,i64_w,i32_w]
      rfl
     refine take_ (i := 9) (N := some 28) (v := ?_) (a' := ?_) #[true,true,true,true,true,true,true,true,true,true,false,false,false,false,false,false,false] rfl rfl (take_ofW HT_.out HW_.out (by kernel_rfl)) (fun _ _ _ h => h) (Or.inl ⟨by rfl,?_⟩) hHeld ?_ ?_
     rotate_left
     ·rintro w' ⟨s0,s1,s2,s3,s4,s5,s6,s7⟩
      go_simp
      with_reducible rfl
     rotate_left
     ·simp only [Act.put,List.setIfInBounds_toArray,List.set_cons_zero,List.set_cons_succ,i64_w,i32_w]
      rfl
     refine take_ (i := 11) (N := some 30) (v := ?_) (a' := ?_) #[true,true,true,true,true,true,true,true,true,true,false,true,false,false,false,false,false] rfl rfl (take_ofW HT_.out HW_.out (by kernel_rfl)) (fun _ _ _ h => h) (Or.inl ⟨by rfl,?_⟩) hHeld ?_ ?_
     rotate_left
     ·rintro w' ⟨s0,s1,s2,s3,s4,s5,s6,s7⟩
      go_simp
      with_reducible rfl
     rotate_left
     ·simp only [Act.put,List.setIfInBounds_toArray,List.set_cons_zero,List.set_cons_succ,i64_w,i32_w]
      rfl
     refine take_ (i := 12) (N := some 31) (v := ?_) (a' := ?_) #[true,true,true,true,true,true,true,true,true,true,false,true,true,false,false,false,false] rfl rfl (take_ofW HT_.out HW_.out (by kernel_rfl)) (fun _ _ _ h => h) (Or.inl ⟨by rfl,?_⟩) hHeld ?_ ?_
     rotate_left
     ·rintro w' ⟨s0,s1,s2,s3,s4,s5,s6,s7⟩
      go_simp
      with_reducible rfl
     rotate_left
     ·simp only [Act.put,List.setIfInBounds_toArray,List.set_cons_zero,List.set_cons_succ,i64_w,i32_w]
      rfl
     refine one_ (i := 10) (N := some 29) #[true,true,true,true,true,true,true,true,true,true,true,true,true,false,false,false,false] rfl rfl (one_of HT_.out (by kernel_rfl)) (by decide) (fun K hK => ?_)
     refine goes_ Tryd.func30 (by kernel_rfl) rfl #[.agg #[.int .i64 a1_0,.slice A1_1 l1_1.length c1_1,.int .i64 a1_2,.int .i64 a1_3],.agg #[.int .i64 a0_0,.slice A0_1 l0_1.length c0_1,.int .i64 a0_2,.int .i64 a0_3]] (by rfl) rfl rfl au1 ?_
     with_reducible refine (layout_Same.calls kj2 a1_0 _ _ l1_1 a1_2 a1_3 a0_0 _ _ l0_1 a0_2 a0_3 t220 _ ?side1 ?side2 ?side3 ?side4 A26.out).mono ?_
     (case side1 => repeat (first | exact (Kd.C_below HR1_1.out HB.out) | (with_reducible refine Kd.C_alloc ?_ _) | (with_reducible refine Kd.C_drewN ?_ _) | (with_reducible refine Kd.C_drew ?_)))
     (case side2 => exact HC1_1.out)
     (case side3 => repeat (first | exact (Kd.C_below HR0_1.out HB.out) | (with_reducible refine Kd.C_alloc ?_ _) | (with_reducible refine Kd.C_drewN ?_ _) | (with_reducible refine Kd.C_drew ?_)))
     (case side4 => exact HC0_1.out)
     rintro e w31 ⟨rfl,hb⟩
     refine ⟨_,rfl,?_⟩
     have n0_ := Aside0.mk (blk_below (g := gb213) (o := .cells #[.int .i64 a0_0,.slice A0_1 l0_1.length c0_1,.int .i64 a0_2,.int .i64 a0_3] 29 (0,0)) au12 hb)
     have n1_ := Aside0.mk (blk_below (g := gb214) (o := .cells #[.int .i64 a1_0,.slice A1_1 l1_1.length c1_1,.int .i64 a1_2,.int .i64 a1_3] 29 (0,0)) au20 hb)
     have n2_ := Aside0.mk (below_step au7 hb)
     clear BK213
     clear BK214
     clear HB
     have BK213 := n0_
     have BK214 := n1_
     have HB := n2_
     clear n0_ n1_ n2_
     (try clear hb)
     (try clear hb2)
     (try clear hk)
     (try clear hi)
     refine hK.out _ _ ⟨(blk_cell BK213.out 0).trans rfl,(blk_cell BK213.out 1).trans rfl,(blk_cell BK213.out 2).trans rfl,(blk_cell BK213.out 3).trans rfl,(blk_cell BK214.out 0).trans rfl,(blk_cell BK214.out 1).trans rfl,(blk_cell BK214.out 2).trans rfl,(blk_cell BK214.out 3).trans rfl⟩ (fun hHeld => ?_)
     clear hK K
     refine norm_ (a' := ?_) ?_ ?_
     rotate_left
     ·show Act.put _ (some 29) _ = _
      simp only [Act.put,List.setIfInBounds_toArray,List.set_cons_zero,List.set_cons_succ,i64_w,i32_w]
      rfl
     refine one_ (i := 13) (N := some 32) #[true,true,true,true,true,true,true,true,true,true,true,true,true,true,false,false,false] rfl rfl (one_of HT_.out (by kernel_rfl)) (by decide) (fun K hK => ?_)
     refine goes_ Tryd.func15 (by kernel_rfl) rfl #[.agg #[.int .i64 a1_0,.slice A1_1 l1_1.length c1_1,.int .i64 a1_2,.int .i64 a1_3],.agg #[.int .i64 a0_0,.slice A0_1 l0_1.length c0_1,.int .i64 a0_2,.int .i64 a0_3]] (by rfl) rfl rfl au1 ?_
     with_reducible refine (bodkinref20_Same.calls kj2 a1_0 _ _ l1_1 a1_2 a1_3 a0_0 _ _ l0_1 a0_2 a0_3 t221 _ ?side1 ?side2 ?side3 ?side4 A27.out).mono ?_
     (case side1 => repeat (first | exact (Kd.C_below HR1_1.out HB.out) | (with_reducible refine Kd.C_alloc ?_ _) | (with_reducible refine Kd.C_drewN ?_ _) | (with_reducible refine Kd.C_drew ?_)))
     (case side2 => exact HC1_1.out)
     (case side3 => repeat (first | exact (Kd.C_below HR0_1.out HB.out) | (with_reducible refine Kd.C_alloc ?_ _) | (with_reducible refine Kd.C_drewN ?_ _) | (with_reducible refine Kd.C_drew ?_)))
     (case side4 => exact HC0_1.out)
     rintro e w32 ⟨rfl,hb⟩
     refine ⟨_,rfl,?_⟩
     have n0_ := Aside0.mk (blk_below (g := gb213) (o := .cells #[.int .i64 a0_0,.slice A0_1 l0_1.length c0_1,.int .i64 a0_2,.int .i64 a0_3] 29 (0,0)) au12 hb)
     have n1_ := Aside0.mk (blk_below (g := gb214) (o := .cells #[.int .i64 a1_0,.slice A1_1 l1_1.length c1_1,.int .i64 a1_2,.int .i64 a1_3] 29 (0,0)) au20 hb)
     have n2_ := Aside0.mk (below_step au7 hb)
     clear BK213
     clear BK214
     clear HB
     have BK213 := n0_
     have BK214 := n1_
     have HB := n2_
     clear n0_ n1_ n2_
     (try clear hb)
     (try clear hb2)
     (try clear hk)
     (try clear hi)
     refine hK.out _ _ ⟨(blk_cell BK213.out 0).trans rfl,(blk_cell BK213.out 1).trans rfl,(blk_cell BK213.out 2).trans rfl,(blk_cell BK213.out 3).trans rfl,(blk_cell BK214.out 0).trans rfl,(blk_cell BK214.out 1).trans rfl,(blk_cell BK214.out 2).trans rfl,(blk_cell BK214.out 3).trans rfl⟩ (fun hHeld => ?_)
     clear hK K
     refine norm_ (a' := ?_) ?_ ?_
     rotate_left
     ·show Act.put _ (some 32) _ = _
      simp only [Act.put,List.setIfInBounds_toArray,List.set_cons_zero,List.set_cons_succ,i64_w,i32_w]
      rfl
     refine pure_ (i := 14) (N := some 33) (v := ?_) (a' := ?_) #[true,true,true,true,true,true,true,true,true,true,true,true,true,true,true,false,false] rfl rfl (any_of HT_.out (by kernel_rfl)) (fun _ _ _ h => h) (Or.inl ⟨by rfl,?_⟩) ?_ ?_
     rotate_left
     ·intro w'
      go_simp
      with_reducible rfl
     rotate_left
     ·simp only [Act.put,List.setIfInBounds_toArray,List.set_cons_zero,List.set_cons_succ,i64_w,i32_w]
      rfl
     refine pure_ (i := 15) (N := some 34) (v := ?_) (a' := ?_) #[true,true,true,true,true,true,true,true,true,true,true,true,true,true,true,true,false] rfl rfl (any_of HT_.out (by kernel_rfl)) (fun _ _ _ h => h) (Or.inl ⟨by rfl,?_⟩) ?_ ?_
     rotate_left
     ·intro w'
      go_simp
      with_reducible rfl
     rotate_left
     ·simp only [Act.put,List.setIfInBounds_toArray,List.set_cons_zero,List.set_cons_succ,i64_w,i32_w]
      rfl
     refine pure_ (i := 16) (N := some 4) (v := ?_) (a' := ?_) #[true,true,true,true,true,true,true,true,true,true,true,true,true,true,true,true,true] rfl rfl (any_of HT_.out (by kernel_rfl)) (fun _ _ _ h => h) (Or.inl ⟨by rfl,?_⟩) ?_ ?_
     rotate_left
     ·intro w'
      go_simp
      with_reducible rfl
     rotate_left
     ·simp only [Act.put,List.setIfInBounds_toArray,List.set_cons_zero,List.set_cons_succ,i64_w,i32_w]
      rfl
     refine done_ (done_of HT_.out (by kernel_rfl)) ?_
     try go_wp2
     go_ret
     exact ⟨au2,by repeat (first | (with_reducible first | exact HB.out | apply below_alloc | apply pw_below_drewN | apply below_drew1 | refine below_set ?_ GE213.out | refine below_set ?_ GE214.out) | exact HB.out)⟩
    ·rw [if_neg c25] at H
     have c25b0 : (t218 == t219) = false := by simpa using c25
     (try (have c25b1 : decide (t218 = t219) = false := by simpa using c25))
     (try (have c25b2 : (t218 == t219) = false := by simpa using c25))
     (try (have c25b3 : ¬ (t218 = t219) := by simpa using c25))
     clear c25
     obtain rfl := Option.some.inj H
     cases hr_
end Go.Proofs.YtnpjaaldppemlaaDoor.U
end
section
namespace Go.Proofs.YtnpjaaldppemlaaDoor.Pu
open Go Go.RowKit Go.Proofs.YtnpjaaldppemlaaDoor.Mu Go.Proofs.YtnpjaaldppemlaaDoor.U Go.Proofs.YtnpjaaldppemlaaDoorW.PrintWords Go.Proofs.YtnpjaaldppemlaaDoorW.PrintLast Go.Proofs.YtnpjaaldppemlaaDoorW.PrintMore
set_option linter.unusedVariables false
theorem ev_if {α : Type} {c : Prop} [Decidable c] {a b : Nat → Option α} {v v' : α} (h : c → Ev a v) (h' : ¬ c → Ev b v') : Ev (fun k => if c then a k else b k) (if c then v else v') := by
 by_cases hc : c
 ·rw [if_pos hc];exact ev_pos hc (h hc)
 ·rw [if_neg hc];exact ev_neg hc (h' hc)
theorem ne_len {a b : Nat} (h : ((a : Int) != (b : Int)) = false) : a = b := by
 have h3 : (a : Int) = (b : Int) := by simpa using h
 omega
abbrev Cz := S35
/-- Do the n cells from number i on differ nowhere? -/
def rowFrom (a b : List Cz) : Nat → Nat → Bool
 | 0,_ => true
 | n + 1,i => if (!(((rd_T35 a (i : Int)).f0.toList) == ((rd_T35 b (i : Int)).f0.toList)) || (!((rd_T35 a (i : Int)).f1 == (rd_T35 b (i : Int)).f1))) = true then false else rowFrom a b n (i + 1)
def rowE (a b : List Cz) : Bool := if (a.length : Int) = (b.length : Int) then rowFrom a b a.length 0 else false
def rowsFrom (A B : List (List Cz)) : Nat → Nat → Bool
 | 0,_ => true
 | n + 1,i => if rowE (rd_L3 A (i : Int)) (rd_L3 B (i : Int)) = true then rowsFrom A B n (i + 1) else false
/-- The same frames. -/
def frE (w : Int) (A : List (List Cz)) (r c w' : Int) (B : List (List Cz)) (r' c' : Int) : Bool := if w = w' then (if (!(r == r') || (!(c == c'))) = true then false else if ((A.length : Int) != (B.length : Int)) = true then false else rowsFrom A B A.length 0) else false
theorem rowFrom_refl (a : List Cz) : ∀ n i,rowFrom a a n i = true
 | 0,_ => rfl
 | n + 1,i => by rw [rowFrom,if_neg (by simp)];exact rowFrom_refl a n (i + 1)
theorem rowE_refl (a : List Cz) : rowE a a = true := by unfold rowE;rw [if_pos rfl];exact rowFrom_refl a _ _
theorem rowsFrom_refl (A : List (List Cz)) : ∀ n i,rowsFrom A A n i = true
 | 0,_ => rfl
 | n + 1,i => by rw [rowsFrom,if_pos (rowE_refl _)];exact rowsFrom_refl A n (i + 1)
theorem frE_refl (w : Int) (A : List (List Cz)) (r c : Int) : frE w A r c w A r c = true := by
 unfold frE
 rw [if_pos rfl,if_neg (by simp),if_neg (by simp)]
 exact rowsFrom_refl A _ _
theorem srow_loop (a b : List Cz) (ha : a.length ≤ 1099511627776) (hb : a.length = b.length) : ∀ n i : Nat,i + n = a.length → Ev (fun k => bodkinref20_SameRow.l0 k a b (i : Int)) (rowFrom a b n i) := by
 intro n
 induction n with
 | zero => intro i hi;exact Ev.step (fun k => bodkinref20_SameRow.l0.eq_2 ..) (ev_neg (by omega) (Ev.now _))
 | succ n ih =>
  intro i hi
  refine Ev.step (fun k => bodkinref20_SameRow.l0.eq_2 ..) (ev_pos (by omega) (ev_pos (by omega) (ev_pos (by omega) ?_)))
  rw [rowFrom]
  refine ev_if (fun h => Ev.now _) (fun h => ?_)
  rw [w64 (by omega) (by omega)]
  exact ih (i + 1) (by omega)
theorem srow_ans (a b : List Cz) (ha : a.length ≤ 1099511627776) : Ev (fun k => bodkinref20_SameRow.f k a b) (rowE a b) := by
 unfold bodkinref20_SameRow.f rowE
 exact ev_if (fun h => srow_loop a b ha (by omega) a.length 0 (by omega)) (fun h => Ev.now _)
/-- No row is too long. -/
def Rb (A : List (List Cz)) : Prop := A.length ≤ 1099511627776 ∧ ∀ i : Int,(rd_L3 A i).length ≤ 1099511627776
theorem rsame_loop (w r c w' r' c' : Int) (A B : List (List Cz)) (hA : Rb A) (hB : A.length = B.length) : ∀ n i : Nat,i + n = A.length → Ev (fun k => bodkinref20_Same.l0 k (i : Int) w A r c w' B r' c') (rowsFrom A B n i) := by
 have hA1 := hA.1
 intro n
 induction n with
 | zero => intro i hi;exact Ev.step (fun k => bodkinref20_Same.l0.eq_2 ..) (ev_neg (by omega) (Ev.now _))
 | succ n ih =>
  intro i hi
  refine Ev.step (fun k => bodkinref20_Same.l0.eq_2 ..) (ev_pos (by omega) (ev_pos (by omega) (ev_pos (by omega) (Ev.bind (srow_ans _ _ (hA.2 _)) ?_))))
  rw [rowsFrom]
  refine ev_if (fun h => ?_) (fun h => Ev.now _)
  rw [w64 (by omega) (by omega)]
  exact ih (i + 1) (by omega)
theorem rsame_j (w r c w' r' c' : Int) (A B : List (List Cz)) (hA : Rb A) (b : Bool) (hb : b = false → A.length = B.length) : Ev (fun k => bodkinref20_Same.j0 k b w A r c w' B r' c') (if b = true then false else rowsFrom A B A.length 0) := by
 refine Ev.step (fun k => bodkinref20_Same.j0.eq_2 ..) ?_
 cases b with
 | true => exact ev_pos rfl (Ev.now _)
 | false => exact ev_neg (by simp) (rsame_loop w r c w' r' c' A B hA (hb rfl) A.length 0 (by omega))
theorem rsame_ans (w r c w' r' c' : Int) (A B : List (List Cz)) (hA : Rb A) : Ev (fun k => bodkinref20_Same.f k w A r c w' B r' c') (frE w A r c w' B r' c') := by
 unfold bodkinref20_Same.f frE
 refine ev_if (fun h => ev_if (fun h2 => ?_) (fun h2 => ?_)) (fun h => ?_)
 ·exact rsame_j w r c w' r' c' A B hA true (by simp)
 ·exact rsame_j w r c w' r' c' A B hA _ ne_len
 ·exact rsame_j w r c w' r' c' A B hA true (by simp)
theorem lsame_row (w r c w' r' c' : Int) (A B : List (List Cz)) (hA : Rb A) (hB : A.length = B.length) (m i : Nat) (hi : i < A.length) (x30 : Int) (hl : (rd_L3 A (i : Int)).length = (rd_L3 B (i : Int)).length) (v : Bool) (hn : Ev (fun k => layout_Same.l0 k x30 (wrap64 ((i : Int) + 1)) w A r c w' B r' c') v) : ∀ n j : Nat,j + n = (rd_L3 A (i : Int)).length →
  Ev (fun k => layout_Same.l1 k (i : Int) x30 (i : Int) ((rd_L3 A (i : Int)).length : Int) (j : Int) w A r c w' B r' c') (if rowFrom (rd_L3 A (i : Int)) (rd_L3 B (i : Int)) n j = true then v else false) := by
 have hA1 := hA.1
 have hA2 := hA.2 (i : Int)
 intro n
 induction n with
 | zero => intro j hj;exact Ev.step (fun k => layout_Same.l1.eq_2 ..) (ev_neg (by omega) hn)
 | succ n ih =>
  intro j hj
  refine Ev.step (fun k => layout_Same.l1.eq_2 ..) (ev_pos (by omega) (ev_pos (by omega) (ev_pos (by omega) (ev_pos (by omega) (ev_pos (by omega) (ev_pos (by omega) (ev_pos (by omega) ?_)))))))
  rw [rowFrom]
  by_cases h : (!(((rd_T35 (rd_L3 A (i : Int)) (j : Int)).f0.toList) == ((rd_T35 (rd_L3 B (i : Int)) (j : Int)).f0.toList)) || (!((rd_T35 (rd_L3 A (i : Int)) (j : Int)).f1 == (rd_T35 (rd_L3 B (i : Int)) (j : Int)).f1))) = true
  ·rw [if_pos h]
   exact ev_pos h (ev_now rfl)
  ·rw [if_neg h]
   refine ev_neg h ?_
   rw [w64 (by omega) (by omega)]
   exact ih (j + 1) (by omega)
theorem lsame_loop (w r c w' r' c' : Int) (A B : List (List Cz)) (hA : Rb A) (hB : A.length = B.length) : ∀ n i : Nat,i + n = A.length → Ev (fun k => layout_Same.l0 k (A.length : Int) (i : Int) w A r c w' B r' c') (rowsFrom A B n i) := by
 have hA1 := hA.1
 intro n
 induction n with
 | zero => intro i hi;exact Ev.step (fun k => layout_Same.l0.eq_2 ..) (ev_neg (by omega) (Ev.now _))
 | succ n ih =>
  intro i hi
  refine Ev.step (fun k => layout_Same.l0.eq_2 ..) (ev_pos (by omega) (ev_pos (by omega) (ev_pos (by omega) (ev_pos (by omega) ?_))))
  rw [rowsFrom]
  by_cases h : ((rd_L3 A (i : Int)).length : Int) = ((rd_L3 B (i : Int)).length : Int)
  ·refine ev_pos h ?_
   have hn : Ev (fun k => layout_Same.l0 k (A.length : Int) (wrap64 ((i : Int) + 1)) w A r c w' B r' c') (rowsFrom A B n (i + 1)) := by
    rw [w64 (by omega) (by omega)]
    exact ih (i + 1) (by omega)
   have := lsame_row w r c w' r' c' A B hA hB n i (by omega) _ (by omega) _ hn (rd_L3 A (i : Int)).length 0 (by omega)
   unfold rowE
   rw [if_pos h]
   exact this
  ·refine ev_neg h (ev_now ?_)
   unfold rowE
   rw [if_neg h]
   rfl
theorem lsame_j (w r c w' r' c' : Int) (A B : List (List Cz)) (hA : Rb A) (b : Bool) (hb : b = false → A.length = B.length) : Ev (fun k => layout_Same.j0 k b w A r c w' B r' c') (if b = true then false else rowsFrom A B A.length 0) := by
 refine Ev.step (fun k => layout_Same.j0.eq_2 ..) ?_
 cases b with
 | true => exact ev_pos rfl (Ev.now _)
 | false => exact ev_neg (by simp) (lsame_loop w r c w' r' c' A B hA (hb rfl) A.length 0 (by omega))
theorem lsame_ans (w r c w' r' c' : Int) (A B : List (List Cz)) (hA : Rb A) : Ev (fun k => layout_Same.f k w A r c w' B r' c') (frE w A r c w' B r' c') := by
 unfold layout_Same.f frE
 refine ev_if (fun h => ev_if (fun h2 => ?_) (fun h2 => ?_)) (fun h => ?_)
 ·exact lsame_j w r c w' r' c' A B hA true (by simp)
 ·exact lsame_j w r c w' r' c' A B hA _ ne_len
 ·exact lsame_j w r c w' r' c' A B hA true (by simp)
theorem lsame_refl (w r c : Int) (A : List (List Cz)) (hA : Rb A) : Ev (fun k => layout_Same.f k w A r c w A r c) true := by
 have h := lsame_ans w r c w r c A A hA
 rwa [frE_refl] at h
end Go.Proofs.YtnpjaaldppemlaaDoor.Pu
end
section
namespace Go.Proofs.YtnpjaaldppemlaaDoor.Pu
open Go Go.RowKit Go.Proofs.YtnpjaaldppemlaaDoor.Mu Go.Proofs.YtnpjaaldppemlaaDoor.U Go.Proofs.YtnpjaaldppemlaaDoorW.PrintWords Go.Proofs.YtnpjaaldppemlaaDoorW.PrintLast Go.Proofs.YtnpjaaldppemlaaDoorW.PrintMore
set_option linter.unusedVariables false
theorem awake20 : Ev (fun k => bodkinlaw20_awake.f k) true := Ev.of (fun k => bodkinlaw20_awake.mono k) (k := 200) (by kernel_rfl)
end Go.Proofs.YtnpjaaldppemlaaDoor.Pu
end
section
namespace Go.Proofs.YtnpjaaldppemlaaDoor.Pure
open Go Go.RowKit Go.Proofs.YtnpjaaldppemlaaDoor.Mu Go.Proofs.YtnpjaaldppemlaaDoor.Pu Go.Proofs.YtnpjaaldppemlaaDoor.U Go.Proofs.YtnpjaaldppemlaaDoorW.PrintWords Go.Proofs.YtnpjaaldppemlaaDoorW.PrintLast Go.Proofs.YtnpjaaldppemlaaDoorW.PrintMore
set_option linter.unusedVariables false
theorem LayoutSame (a0_0 : Int) (l0_1 : List (List Cz)) (a0_2 a0_3 : Int) (a1_0 : Int) (l1_1 : List (List Cz)) (a1_2 a1_3 : Int) (h0 : Rb l0_1) (h1 : Rb l1_1) : ∃ k,bodkinlaw20_LayoutSame.f k a0_0 l0_1 a0_2 a0_3 a1_0 l1_1 a1_2 a1_3 = some true := by
 apply Ev.rounds
 unfold bodkinlaw20_LayoutSame.f
 refine Ev.bind awake20 (ev_pos rfl (Ev.bind (lsame_refl a0_0 a0_2 a0_3 _ h0) (ev_pos rfl (Ev.bind (lsame_refl a1_0 a1_2 a1_3 _ h1) ?_))))
 exact Ev.step (fun k => bodkinlaw20_LayoutSame.j0.eq_2 ..) (ev_neg (by simp) (Ev.bind (lsame_ans _ _ _ _ _ _ _ l1_1 h0) (Ev.bind (rsame_ans _ _ _ _ _ _ _ l1_1 h0) (ev_pos (by simp) (Ev.bind (lsame_ans _ _ _ _ _ _ _ l0_1 h1) (Ev.bind (rsame_ans _ _ _ _ _ _ _ l0_1 h1) (ev_now (by simp))))))))
end Go.Proofs.YtnpjaaldppemlaaDoor.Pure
end
section
namespace Go.Proofs.YtnpjaaldppemlaaDoor.Lf
open Go.Lib Go.Proofs
theorem own : ownKnob Tryd.prog.godebug = none := by kernel_rfl
theorem laidOut : laidOutB Tryd.prog = true := by kernel_rfl
theorem extra : U8Extra Tryd.prog Tryd.lays260_ren := {
 n3 := by kernel_rfl
 n4 := by kernel_rfl
 y3 := by kernel_rfl
 y4 := by kernel_rfl
 c5 := by kernel_rfl
 c119 := by kernel_rfl
 c138 := by kernel_rfl }
theorem first_eq : Rows.laid_unicode_utf8_first = Lib.firstData := by kernel_rfl
theorem accept_eq : (Rows.laid_unicode_utf8_acceptRanges : DataW Unit) = Lib.acceptData := by kernel_rfl
abbrev laid : List (String × DataW Unit) := [("unicode/utf8.acceptRanges", Rows.laid_unicode_utf8_acceptRanges), ("unicode/utf8.first", Rows.laid_unicode_utf8_first)]
/-- The two tables lie as the contracts ask. -/
theorem tabs {W : World} (h : laidMetH Tryd.prog laid W) : Lib.Utf8Tabs 0 1 W := by
  rw [MakeChecks.laidMetH_plain _ _ _ (by kernel_rfl)] at h
  have h3 := laidMet.reads h (n := "unicode/utf8.first") (d := Rows.laid_unicode_utf8_first) (List.mem_cons_of_mem _ List.mem_cons_self)
  have h4 := laidMet.reads h (n := "unicode/utf8.acceptRanges") (d := Rows.laid_unicode_utf8_acceptRanges) List.mem_cons_self
  rw [first_eq] at h3
  rw [accept_eq] at h4
  exact utf8Tabs_of_reads Tryd.lays260 extra h3 h4
/-- The world of the witness: the settled one,the tables laid. -/
noncomputable abbrev wit (os : Os) : World := World.laidAll Tryd.prog os laid
theorem wit_laid (os : Os) (args : Array Value) : laidMetH Tryd.prog laid ((wit os).forCall (fun _ _ => 0) ⟨#[],args,[]⟩).memory := by
 rw [MakeChecks.laidMetH_plain _ _ _ (by kernel_rfl)]
 exact laidMet_laidAll _ (by kernel_rfl) (by kernel_rfl)
theorem wit_shaped (os : Os) (args : Array Value) : ((wit os).forCall (fun _ _ => 0) ⟨#[],args,[]⟩).Shaped Tryd.prog :=
 World.shaped_of_ZipB (by kernel_rfl) (by kernel_rfl)
end Go.Proofs.YtnpjaaldppemlaaDoor.Lf
end
section
namespace Go.Proofs.YtnpjaaldppemlaaDoor.Lf
open Go Go.RowKit
theorem bulk_one {H : Type} (d : DataW H) : 1 ≤ Rows.uptoBulk d := by
 cases d with
 | lit l => cases l <;> simp [Rows.uptoBulk]
 | nil => simp [Rows.uptoBulk]
 | ptr d => simp [Rows.uptoBulk]
 | slice elems spare => simp [Rows.uptoBulk]
 | agg parts => simp [Rows.uptoBulk]
 | iface t d => simp [Rows.uptoBulk]
 | map entries => simp [Rows.uptoBulk]
 | held h => simp [Rows.uptoBulk]
theorem bulk_len {H : Type} (l : List (DataW H)) : l.length ≤ Rows.uptoBulkAll l := by
 induction l with
 | nil => simp [Rows.uptoBulkAll]
 | cons x r ih => have := bulk_one x;simp only [Rows.uptoBulkAll,List.length_cons];omega
theorem bulk_mem {H : Type} {x : DataW H} : ∀ {l : List (DataW H)},x ∈ l → Rows.uptoBulk x ≤ Rows.uptoBulkAll l
 | y :: r,h => by
  simp only [Rows.uptoBulkAll]
  rcases List.mem_cons.1 h with rfl | h
  ·omega
  ·have := bulk_mem h;omega
end Go.Proofs.YtnpjaaldppemlaaDoor.Lf
end
section
namespace Go.Proofs.YtnpjaaldppemlaaDoor.Lf
open Go Go.RowKit Go.ChangeShapes Go.WideShapes Go.Proofs.YtnpjaaldppemlaaDoor.U Go.Proofs.YtnpjaaldppemlaaDoorW.PrintWords Go.Proofs.YtnpjaaldppemlaaDoorW.PrintLast Go.Proofs.YtnpjaaldppemlaaDoorW.PrintMore
set_option linter.unusedVariables false
set_option linter.unusedSimpArgs false
theorem fr_gen {H : Type} {enc : TypeId × Value → H} {P : Program} {w : World} {base : Nat} {sp : Nat → Bool} {held : Bool} {t : TypeId} {p0 p1 p2 r0 r1 : Field} (ht : P.underlying t = some (.struct #[p0,p1,p2])) (ce : P.cellsOf t = 4)
  (o0 : p0.offset = 0) (c0 : P.cellsOf p0.type = 1) (u0 : P.underlying p0.type = some (.int .i64)) (o1 : p1.offset = 1) (c1 : P.cellsOf p1.type = 1) (o2 : p2.offset = 2) (c2 : P.cellsOf p2.type = 2) (u2 : P.underlying p2.type = some (.struct #[r0,r1])) (z0 : r0.offset = 0) (e0 : P.cellsOf r0.type = 1) (w0 : P.underlying r0.type = some (.int .i64)) (z1 : r1.offset = 1) (e1 : P.cellsOf r1.type = 1) (w1 : P.underlying r1.type = some (.int .i64))
  {fuel : Nat} {cs : List Value} {x : DataW H × List MemPlace} (h : DataW.trod enc P w base sp held fuel t cs = some x) : ∃ (x0 : Int) (v1 : Value) (x2 x3 : Int) (y : DataW H × List MemPlace) (n : Nat),cs = [.int .i64 x0,v1,.int .i64 x2,.int .i64 x3] ∧ DataW.trod enc P w base sp held n p1.type [v1] = some y ∧ Rows.uptoBulk y.1 ≤ Rows.uptoBulk x.1 := by
 obtain ⟨xs,n,_,rfl,hl,hlen,hf⟩ := DataW.trod_struct ht h
 rw [ce] at hl
 match xs,hlen,cs,hl with
 | [y0,y1,y2],_,[v0,v1,v2,v3],_ =>
  have g0 := hf 0 p0 rfl
  have g1 := hf 1 p1 rfl
  have g2 := hf 2 p2 rfl
  simp [o0,c0,o1,c1,o2,c2] at g0 g1 g2
  obtain ⟨x0,q0,f0,_⟩ := DataW.trod_int u0 g0
  injection q0 with q0
  subst q0
  obtain ⟨ys,m,_,rfl,hl2,hlen2,hf2⟩ := DataW.trod_struct u2 g2
  match ys,hlen2 with
  | [s0,s1],_ =>
   have k0 := hf2 0 r0 rfl
   have k1 := hf2 1 r1 rfl
   simp [z0,e0,z1,e1] at k0 k1
   obtain ⟨x2,q2,f2,_⟩ := DataW.trod_int w0 k0
   injection q2 with q2
   subst q2
   obtain ⟨x3,q3,f3,_⟩ := DataW.trod_int w1 k1
   injection q3 with q3
   subst q3
   refine ⟨x0,v1,x2,x3,y1,_,rfl,g1,?_⟩
   simp only [List.map_cons,List.map_nil,Rows.uptoBulk,Rows.uptoBulkAll]
   omega
theorem cells_read {H : Type} {enc : TypeId × Value → H} {w : World} {base : Nat} {held : Bool} {sp : Nat → Bool} {fuel : Nat} {cs : List Value} {x : DataW H × List MemPlace}
  (h : DataW.trod enc Tryd.prog w base sp held fuel 33 cs = some x) :
  ∃ (a : Option Addr) (cap : Nat) (l : List S35),cs = [.slice a l.length cap] ∧ l.length ≤ cap ∧ Kd.C k35 w a l.length l ∧ l.length ≤ Rows.uptoBulk x.1 := by
 rcases Deep.open_slice_pairs Tryd.underlying33 Tryd.underlying35 (by kernel_rfl) rfl rfl (by kernel_rfl) (by kernel_rfl) h with ⟨hcs,hx⟩ | ⟨ad,len,cap,m,n,V0,V1,D0,D1,P0,P1,hcs,_,hl,hm,hmm,hx,hc⟩
 ·exact ⟨none,0,[],hcs,Nat.le_refl _,Kd.C_nil _ _,Nat.zero_le _⟩
 ·have hlm : len ≤ m := by rw [hmm];split <;> omega
  have hv : ∀ i,i < len → ∃ q : S35,V0 i = .string q.f0 ∧ V1 i = .int .i64 q.f1 := by
   intro i hi
   obtain ⟨_,_,h0,h1⟩ := hc i (by omega)
   obtain ⟨s,e0,e1,_⟩ := DataW.trod_string Tryd.underlying9 h0
   obtain ⟨k,f0,f1,_⟩ := DataW.trod_int Tryd.underlying3 h1
   injection e0 with e0
   injection f0 with f0
   exact ⟨⟨s,k⟩,e0,f0⟩
  haveI : Inhabited S35 := ⟨z35⟩
  obtain ⟨q,hq⟩ := Deep.choose_lt hv
  have hb : Rows.uptoBulkAll ((List.range len).map fun i => (.agg [D0 i,D1 i] : DataW H)) ≤ Rows.uptoBulk x.1 := by
   rw [hx]
   simp only [Rows.uptoBulk]
   omega
  have hlen : ((List.range len).map q).length = len := by simp
  refine ⟨some ad,cap,(List.range len).map q,by rw [hlen];exact hcs,by rw [hlen];exact hl,⟨rfl,by rw [hlen];unfold maxLen at hm;omega,fun _ => ⟨ad,rfl,fun j p hj => ?_⟩⟩,?_⟩
  ·rw [List.getElem?_map] at hj
   by_cases hjl : j < len
   ·rw [List.getElem?_range hjl] at hj
    obtain rfl := Option.some.inj hj
    obtain ⟨c0,c1,_⟩ := hc j (by omega)
    obtain ⟨e0,e1⟩ := hq j hjl
    refine ⟨_,rfl,k35_mk w (q j),fun i u hu => ?_⟩
    match i,hu with
    | 0,hu => obtain rfl := Option.some.inj hu;rw [e0] at c0;exact c0
    | 1,hu => obtain rfl := Option.some.inj hu;rw [e1] at c1;exact c1
    | (i + 2),hu => simp at hu
   ·rw [List.getElem?_eq_none (by simpa using hjl)] at hj
    cases hj
  ·refine Nat.le_trans ?_ hb
   refine Nat.le_trans (Nat.le_of_eq ?_) (bulk_len _)
   simp
theorem rows_read {H : Type} {enc : TypeId × Value → H} {w : World} {base : Nat} {held : Bool} {sp : Nat → Bool} {fuel : Nat} {cs : List Value} {x : DataW H × List MemPlace}
  (h : DataW.trod enc Tryd.prog w base sp held fuel 25 cs = some x) :
  ∃ (a : Option Addr) (cap : Nat) (L : List (List S35)),cs = [.slice a L.length cap] ∧ L.length ≤ cap ∧ Kd.C (Kd.slice 35 k35) w a L.length L ∧ L.length ≤ Rows.uptoBulk x.1 ∧ ∀ l ∈ L,l.length ≤ Rows.uptoBulk x.1 := by
 rcases Deep.open_slice Tryd.underlying25 h with ⟨hcs,hx⟩ | ⟨ad,len,cap,m,n,D,Pl,hcs,_,hl,hm,hmm,hx,hc⟩
 ·exact ⟨none,0,[],hcs,Nat.le_refl _,Kd.C_nil _ _,Nat.zero_le _,by simp⟩
 ·have hlm : len ≤ m := by rw [hmm];split <;> omega
  have ce : Tryd.prog.cellsOf 33 = 1 := by kernel_rfl
  have hv : ∀ i,i < len → ∃ q : List S35,(∃ A c,w.cell? (ad.add i) = some (.slice A q.length c) ∧ q.length ≤ c ∧ Kd.C k35 w A q.length q) ∧ q.length ≤ Rows.uptoBulk (D i) := by
   intro i hi
   obtain ⟨cs',h1,h2⟩ := hc i (by omega)
   obtain ⟨A,c,q,rfl,hqc,hq,hqb⟩ := cells_read h2
   obtain ⟨_,_,hcell⟩ := World.cells?_some h1
   rw [ce] at hcell
   have h0 := hcell 0 (by omega)
   rw [Deep.add_add,Nat.mul_one,Nat.add_zero] at h0
   exact ⟨q,⟨A,c,h0,hqc,hq⟩,hqb⟩
  haveI : Inhabited (List S35) := ⟨[]⟩
  obtain ⟨q,hq⟩ := Deep.choose_lt hv
  have hb : Rows.uptoBulkAll ((List.range len).map D) ≤ Rows.uptoBulk x.1 := by
   rw [hx]
   simp only [Rows.uptoBulk]
   omega
  have hlen : ((List.range len).map q).length = len := by simp
  refine ⟨some ad,cap,(List.range len).map q,by rw [hlen];exact hcs,by rw [hlen];exact hl,⟨rfl,by rw [hlen];unfold maxLen at hm;omega,fun _ => ⟨ad,rfl,fun j p hj => ?_⟩⟩,?_,fun l hl' => ?_⟩
  ·rw [List.getElem?_map] at hj
   by_cases hjl : j < len
   ·rw [List.getElem?_range hjl] at hj
    obtain rfl := Option.some.inj hj
    obtain ⟨⟨A,c,h0,hqc,hqk⟩,_⟩ := hq j hjl
    refine ⟨_,rfl,⟨A,c,rfl,hqc,hqk⟩,fun i u hu => ?_⟩
    match i,hu with
    | 0,hu => obtain rfl := Option.some.inj hu;exact (congrArg (fun y => w.cell? (ad.add y)) (show j * 1 + 0 = j by omega)).trans h0
    | (i + 1),hu => simp at hu
   ·rw [List.getElem?_eq_none (by simpa using hjl)] at hj
    cases hj
  ·refine Nat.le_trans ?_ hb
   refine Nat.le_trans (Nat.le_of_eq ?_) (bulk_len _)
   simp
  ·obtain ⟨i,hi,rfl⟩ := List.mem_map.1 hl'
   have hi := List.mem_range.1 hi
   have h1 := bulk_mem (l := (List.range len).map D) (List.mem_map_of_mem (List.mem_range.2 hi))
   have h2 := (hq i hi).2
   omega
set_option maxRecDepth 100000 in
theorem fr_open {W : World} {r : Reach} {b0 : Nat} {H : Type} {enc : TypeId × Value → H} {w : World} {base : Nat} {sp : Nat → Bool} {held : Bool} {v : Value} {d : DataW H} {ps : List MemPlace} (hval : Value.okWide Tryd.prog W r b0 29 v) (hd : DataW.Trod enc Tryd.prog w base sp held 29 v d ps) :
  ∃ (x0 : Int) (A : Option Addr) (c : Nat) (L : List (List S35)) (x2 x3 : Int),v = .agg #[.int .i64 x0,.slice A L.length c,.int .i64 x2,.int .i64 x3] ∧ Kd.C (Kd.slice 35 k35) w A L.length L ∧ L.length ≤ c ∧ L.length ≤ Rows.uptoBulk d ∧ ∀ l ∈ L,l.length ≤ Rows.uptoBulk d := by
 obtain ⟨cs,rfl,_⟩ := okWide_struct Tryd.underlying29 hval
 obtain ⟨fuel,hf⟩ := hd
 obtain ⟨x0,v1,x2,x3,y,n,e,hy,hb⟩ := fr_gen Tryd.underlying29 (by kernel_rfl) rfl (by kernel_rfl) Tryd.underlying3 rfl (by kernel_rfl) rfl (by kernel_rfl) Tryd.underlying27 rfl (by kernel_rfl) Tryd.underlying3 rfl (by kernel_rfl) Tryd.underlying3 hf
 obtain ⟨A,c,L,e1,hc,hr,hb1,hb2⟩ := rows_read hy
 injection e1 with e1
 subst e1
 refine ⟨x0,A,c,L,x2,x3,?_,hr,hc,Nat.le_trans hb1 hb,fun l hl => Nat.le_trans (hb2 l hl) hb⟩
 have e2 : cs.toList = [.int .i64 x0,.slice A L.length c,.int .i64 x2,.int .i64 x3] := e
 rw [← Array.toArray_toList (xs := cs),e2]
theorem fr_rb {L : List (List S35)} {m : Nat} (h : L.length ≤ m ∧ ∀ l ∈ L,l.length ≤ m) (hm : m ≤ 1048576) : Pu.Rb L := by
 refine ⟨by have := h.1;omega,fun i => ?_⟩
 show (L.getD i.toNat []).length ≤ _
 rw [List.getD_eq_getElem?_getD]
 cases hg : L[i.toNat]? with
 | none => exact Nat.zero_le _
 | some l => exact Nat.le_trans (h.2 l (List.mem_of_getElem? hg)) (by omega)
end Go.Proofs.YtnpjaaldppemlaaDoor.Lf
end
