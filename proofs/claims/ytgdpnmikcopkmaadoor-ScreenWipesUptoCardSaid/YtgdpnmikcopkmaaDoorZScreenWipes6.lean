/- What the law ScreenWipes reaches of this seat's own texts, merged; what nothing uses is left out. -/
import Derived.Test.YtgdpnmikcopkmaaDoorZScreenWipes0
import Derived.Test.YtgdpnmikcopkmaaDoorZScreenWipes1
import Derived.Test.YtgdpnmikcopkmaaDoorZScreenWipes4
import Derived.Test.YtgdpnmikcopkmaaDoorZScreenWipes5
section
namespace Go.Proofs.YtgdpnmikcopkmaaDoor.U
open Go.RowKit Go.Proofs.YtgdpnmikcopkmaaDoorW.PrintWords Go.Proofs.YtgdpnmikcopkmaaDoorW.PrintLast Go.Proofs.YtgdpnmikcopkmaaDoorW.PrintMore
attribute [local go_sem] max2_int min2_int max_two min_two max_three min_three max_four min_four   -- for this text's walks alone
set_option linter.unusedVariables false
set_option linter.unusedSimpArgs false
def cluster_Boundary.j0 : Nat → ByteArray → Int → Bool → Option (Bool)
 | 0,_,_,_ => none
 | k + 1,x0,x1,x16 => if x16 = true then (if x1 = 0 then (some true) else (some (x1 == (x0.size : Int)))) else ((unit_Boundary.f k x0 x1).bind fun t179 => (if t179 = true then ((unit_Prev.f k x0 x1).bind fun t180 => ((unit_At.f k x0 t180).bind fun bt181 => ((unit_At.f k x0 x1).bind fun bt185 => ((cluster_glued.f k bt181.1 bt185.1).bind fun t189 => (some (!t189)))))) else (some false)))
def cluster_Boundary.f (k : Nat) (a0 : ByteArray) (a1 : Int) : Option (Bool) := if a1 ≤ 0 then (cluster_Boundary.j0 k a0 a1 true) else (cluster_Boundary.j0 k a0 a1 (decide (a1 ≥ (a0.size : Int))))
set_option maxHeartbeats 8000000 in
set_option maxRecDepth 100000 in
theorem cluster_Boundary.calls (k : Nat) (a0 : ByteArray) (a1 : Int) (r : Bool) (w : World) (hT : Lib.Utf8Tabs 0 1 w) (h : cluster_Boundary.f k a0 a1 = some r) :
  Calls Tryd.prog 35 #[.string a0,.int .i64 a1] w fun e w' => e = .returned (.bool r) ∧ Below w.heap.size w w' := by
 have hu83 := Tryd.underlying83
 have HT := Aside0.mk hT
 clear hT
 have HB := Aside0.mk (Below.refl w.heap.size w)
 have H : (if a1 ≤ 0 then (cluster_Boundary.j0 k a0 a1 true) else (cluster_Boundary.j0 k a0 a1 (decide (a1 ≥ (a0.size : Int))))) = some r := h
 clear h
 have HC3 := Aside0.mk H
 clear H
 go_enter Tryd.func35,Tryd.ntmps35
 go_upto_region 1 with (fail)
 go_cut [16] (fun v16 wc => ∃ (kq : Nat) (x16_2 : Bool),v16 = .bool x16_2 ∧ Aside0 (cluster_Boundary.j0 kq a0 a1 x16_2 = some r) ∧ Aside0 (kq ≤ k) ∧ Aside0 (Below w.heap.size w wc))
 case first =>
  have H := HC3.out
  clear HC3
  by_cases c4 : a1 ≤ 0
  ·rw [if_pos c4] at H
   have c4b0 : decide (a1 ≤ 0) = true := decide_eq_true c4
   clear c4
   (first | rw [c4b0] | (simp only [i64_w,i32_w];rw [c4b0]) | skip)
   have H' := Aside0.mk H
   clear H
   go_wp2
   go_meet
   case rel => exact ⟨_,(true),au4,H',⟨by first | omega | exact Nat.le_refl _⟩,⟨au0⟩⟩
  ·rw [if_neg c4] at H
   have c4b0 : decide (a1 ≤ 0) = false := decide_eq_false c4
   clear c4
   (first | rw [c4b0] | (simp only [i64_w,i32_w];rw [c4b0]) | skip)
   have H' := Aside0.mk H
   clear H
   go_wp2
   go_meet
   case rel => exact ⟨_,(decide (a1 ≥ (a0.size : Int))),au4,H',⟨by first | omega | exact Nat.le_refl _⟩,⟨au0⟩⟩
 case rest =>
  clear HC3
  try clear p2
  try clear c3
  try clear c4
  try clear c4b0
  obtain ⟨kq,x16_2,rfl,HA,HJ2,HB⟩ := hcut
  cases kq with
  | zero => exact absurd HA.out (by simp [cluster_Boundary.j0])
  | succ kj2 =>
   have H := HA.out
   clear HA
   simp only [cluster_Boundary.j0] at H
   by_cases c5 : x16_2 = true
   ·subst c5
    have H1 : (if a1 = 0 then (some true) else (some (a1 == (a0.size : Int)))) = some r := by rw [if_pos rfl] at H;exact H
    clear H
    have H := H1
    clear H1
    by_cases c6 : a1 = 0
    ·rw [if_pos c6] at H
     have c6b0 : (a1 == 0) = true := beq_iff_eq.mpr c6
     have c6b1 : (a1 != 0) = false := bne_eq_false_iff_eq.mpr c6
     clear c6
     obtain rfl := Option.some.inj H
     go_wp2
     go_ret
     exact ⟨au2,au0⟩
    ·rw [if_neg c6] at H
     have c6b0 : (a1 == 0) = false := beq_eq_false_iff_ne.mpr c6
     have c6b1 : (a1 != 0) = true := bne_iff_ne.mpr c6
     obtain rfl := Option.some.inj H
     go_wp2
     go_ret
     exact ⟨au2,au0⟩
   ·replace c5 := Bool.eq_false_iff.mpr c5
    subst c5
    have H1 : ((unit_Boundary.f kj2 a0 a1).bind fun t179 => (if t179 = true then ((unit_Prev.f kj2 a0 a1).bind fun t180 => ((unit_At.f kj2 a0 t180).bind fun bt181 => ((unit_At.f kj2 a0 a1).bind fun bt185 => ((cluster_glued.f kj2 bt181.1 bt185.1).bind fun t189 => (some (!t189)))))) else (some false))) = some r := by rw [if_neg (show ¬ (false = true) by decide)] at H;exact H
    clear H
    have H := H1
    clear H1
    replace H := Option.bind_eq_some_iff.mp H
    obtain ⟨t179,A70,H⟩ := H
    replace H : (if t179 = true then ((unit_Prev.f kj2 a0 a1).bind fun t180 => ((unit_At.f kj2 a0 t180).bind fun bt181 => ((unit_At.f kj2 a0 a1).bind fun bt185 => ((cluster_glued.f kj2 bt181.1 bt185.1).bind fun t189 => (some (!t189)))))) else (some false)) = some r := H
    have A7 := Aside0.mk A70
    clear A70
    by_cases c8 : t179 = true
    ·subst c8
     have H1 : ((unit_Prev.f kj2 a0 a1).bind fun t180 => ((unit_At.f kj2 a0 t180).bind fun bt181 => ((unit_At.f kj2 a0 a1).bind fun bt185 => ((cluster_glued.f kj2 bt181.1 bt185.1).bind fun t189 => (some (!t189)))))) = some r := by rw [if_pos rfl] at H;exact H
     clear H
     have H := H1
     clear H1
     replace H := Option.bind_eq_some_iff.mp H
     obtain ⟨t180,A90,H⟩ := H
     replace H : ((unit_At.f kj2 a0 t180).bind fun bt181 => ((unit_At.f kj2 a0 a1).bind fun bt185 => ((cluster_glued.f kj2 bt181.1 bt185.1).bind fun t189 => (some (!t189))))) = some r := H
     have A9 := Aside0.mk A90
     clear A90
     replace H := Option.bind_eq_some_iff.mp H
     obtain ⟨⟨t181,t182,t183⟩,A100,H⟩ := H
     replace H : ((unit_At.f kj2 a0 a1).bind fun bt185 => ((cluster_glued.f kj2 t181 bt185.1).bind fun t189 => (some (!t189)))) = some r := H
     have A10 := Aside0.mk A100
     clear A100
     replace H := Option.bind_eq_some_iff.mp H
     obtain ⟨⟨t185,t186,t187⟩,A110,H⟩ := H
     replace H : ((cluster_glued.f kj2 t181 t185).bind fun t189 => (some (!t189))) = some r := H
     have A11 := Aside0.mk A110
     clear A110
     replace H := Option.bind_eq_some_iff.mp H
     obtain ⟨t189,A120,H⟩ := H
     replace H : (some (!t189)) = some r := H
     have A12 := Aside0.mk A120
     clear A120
     obtain rfl := Option.some.inj H
     go_wp2_with (first | ((with_reducible refine gate_callee (f := 57) rfl ?_);refine goesL_ (some 27) rfl rfl Tryd.func57 (by kernel_rfl) rfl #[.string a0,.int .i64 a1] rfl au1 ?_;(with_reducible refine (unit_Boundary.calls kj2 a0 a1 true _ ?side1 A7.out).mono ?_);(case side1 => exact tabs_below HT.out au0);rintro e w13 ⟨rfl,hb⟩;refine ⟨_,rfl,?_⟩;have n0_ := Aside0.mk (below_step au0 hb);clear HB;have HB := n0_;clear n0_;(try clear hb);(try clear hb2);(try clear hk);(try clear hi)) | ((with_reducible refine gate_callee (f := 59) rfl ?_);refine goesL_ (some 33) rfl rfl Tryd.func59 (by kernel_rfl) rfl #[.string a0,.int .i64 a1] rfl au1 ?_;(with_reducible refine (unit_Prev.calls kj2 a0 a1 t180 _ ?side1 A9.out).mono ?_);(case side1 => exact tabs_below HT.out au0);rintro e w14 ⟨rfl,hb⟩;refine ⟨_,rfl,?_⟩;have n0_ := Aside0.mk (below_step au0 hb);clear HB;have HB := n0_;clear n0_;(try clear hb);(try clear hb2);(try clear hk);(try clear hi)) | ((with_reducible refine gate_callee (f := 58) rfl ?_);refine goesL_ (some 34) rfl rfl Tryd.func58 (by kernel_rfl) rfl #[.string a0,.int .i64 t180] rfl au1 ?_;(with_reducible refine (unit_At.calls kj2 a0 t180 t181 t182 t183 _ ?side1 A10.out).mono ?_);(case side1 => exact tabs_below HT.out au0);rintro e w15 ⟨rfl,hb⟩;refine ⟨_,rfl,?_⟩;have n0_ := Aside0.mk (below_step au0 hb);clear HB;have HB := n0_;clear n0_;(try clear hb);(try clear hb2);(try clear hk);(try clear hi)) | ((with_reducible refine gate_dst (N := 5) rfl ?_);(try (refine gate_guard (by rfl) ?_;dsimp only));refine box_event ?hg (N := 5) ?hd (cs := #[.int .i32 0,.int .i64 0]) (t := 83) ?hr ?_;(case hd => rfl);(case hg => rfl);(case hr => first | (go_simp;done) | (go_simp;rfl));intro gb184 hg w16 hbox hb;have n0_ := Aside0.mk (below_step au0 hb);have n1_ := Aside0.mk (hbox);have n2_ := Aside0.mk ((by rw [hg];exact (below_size au0) : w.heap.size ≤ gb184));have n3_ := Aside0.mk ((by rw [hg];exact (below_size au0) : w.heap.size ≤ gb184));clear HB;have HB := n0_;have BK184 := n1_;have GW184 := n2_;have GE184 := n3_;clear n0_ n1_ n2_ n3_;clear hb hbox hg;have hcz17_0 : w16.cell? ⟨gb184,0,none⟩ = some (.int .i32 0) := (blk_cell BK184.out 0).trans rfl;have hcz17_1 : w16.cell? ⟨gb184,1,none⟩ = some (.int .i64 0) := (blk_cell BK184.out 1).trans rfl;have hfz17_0 := blk_frozen BK184.out 0;have hfz17_1 := blk_frozen BK184.out 1) | ((with_reducible refine gate_callee (f := 58) rfl ?_);refine goesL_ (some 40) rfl rfl Tryd.func58 (by kernel_rfl) rfl #[.string a0,.int .i64 a1] rfl au1 ?_;(with_reducible refine (unit_At.calls kj2 a0 a1 t185 t186 t187 _ ?side1 A11.out).mono ?_);(case side1 => exact tabs_below HT.out au12);rintro e w18 ⟨rfl,hb⟩;refine ⟨_,rfl,?_⟩;have n0_ := Aside0.mk (blk_below (g := gb184) (o := .cells #[.int .i32 t181,.int .i64 t182] 83 (0,0)) (by (with_reducible repeat (first | refine blk_drewN ?_ _ | refine blk_drew ?_ | refine blk_alloc ?_ _));refine blk_put (cs := #[.int .i32 t181,.int .i64 0]) ?_ 1 _ rfl;(with_reducible repeat (first | refine blk_drewN ?_ _ | refine blk_drew ?_ | refine blk_alloc ?_ _));refine blk_put (cs := #[.int .i32 0,.int .i64 0]) ?_ 0 _ rfl;(with_reducible repeat (first | refine blk_drewN ?_ _ | refine blk_drew ?_ | refine blk_alloc ?_ _));exact BK184.out) hb);have n1_ := Aside0.mk (below_step au12 hb);clear BK184;clear HB;have BK184 := n0_;have HB := n1_;clear n0_ n1_;(try clear hb);(try clear hb2);(try clear hk);(try clear hi)) | ((with_reducible refine gate_dst (N := 7) rfl ?_);(try (refine gate_guard (by rfl) ?_;dsimp only));refine box_event ?hg (N := 7) ?hd (cs := #[.int .i32 0,.int .i64 0]) (t := 83) ?hr ?_;(case hd => rfl);(case hg => rfl);(case hr => first | (go_simp;done) | (go_simp;rfl));intro gb188 hg w19 hbox hb;have n0_ := Aside0.mk (blk_below (g := gb184) (o := .cells #[.int .i32 t181,.int .i64 t182] 83 (0,0)) (by (with_reducible repeat (first | refine blk_drewN ?_ _ | refine blk_drew ?_ | refine blk_alloc ?_ _));exact BK184.out) hb);have n1_ := Aside0.mk (below_step au12 hb);have n2_ := Aside0.mk (hbox);have n3_ := Aside0.mk ((by rw [hg];exact (below_size au12) : w.heap.size ≤ gb188));have n4_ := Aside0.mk ((by rw [hg];exact (below_size au12) : w.heap.size ≤ gb188));have n5_ := Aside0.mk ((by rw [hg];exact Nat.ne_of_lt (blk_lt (g := gb184) (o := .cells #[.int .i32 t181,.int .i64 t182] 83 (0,0)) (by (with_reducible repeat (first | refine blk_drewN ?_ _ | refine blk_drew ?_ | refine blk_alloc ?_ _));exact BK184.out)) : gb184 ≠ gb188));have n6_ := Aside0.mk ((by rw [hg];exact Nat.ne_of_gt (blk_lt (g := gb184) (o := .cells #[.int .i32 t181,.int .i64 t182] 83 (0,0)) (by (with_reducible repeat (first | refine blk_drewN ?_ _ | refine blk_drew ?_ | refine blk_alloc ?_ _));exact BK184.out)) : gb188 ≠ gb184));clear BK184;clear HB;have BK184 := n0_;have HB := n1_;have BK188 := n2_;have GW188 := n3_;have GE188 := n4_;have NB184_188 := n5_;have NB188_184 := n6_;clear n0_ n1_ n2_ n3_ n4_ n5_ n6_;clear hb hbox hg;have hnb20 := NB188_184.out;have hnc20 := NB184_188.out;have hcz21_0 : w19.cell? ⟨gb188,0,none⟩ = some (.int .i32 0) := (blk_cell BK188.out 0).trans rfl;have hcz21_1 : w19.cell? ⟨gb188,1,none⟩ = some (.int .i64 0) := (blk_cell BK188.out 1).trans rfl;have hfz21_0 := blk_frozen BK188.out 0;have hfz21_1 := blk_frozen BK188.out 1;have hcz22_0 : w19.cell? ⟨gb184,0,none⟩ = some (.int .i32 t181) := (blk_cell BK184.out 0).trans rfl;have hcz22_1 : w19.cell? ⟨gb184,1,none⟩ = some (.int .i64 t182) := (blk_cell BK184.out 1).trans rfl;have hfz22_0 := blk_frozen BK184.out 0;have hfz22_1 := blk_frozen BK184.out 1) | ((with_reducible refine gate_callee (f := 60) rfl ?_);refine goesL_ (some 47) rfl rfl Tryd.func60 (by kernel_rfl) rfl #[.int .i32 t181,.int .i32 t185] rfl au1 ?_;(with_reducible refine (cluster_glued.calls kj2 t181 t185 t189 _ A12.out).mono ?_);rintro e w23 ⟨rfl,hb⟩;refine ⟨_,rfl,?_⟩;have n0_ := Aside0.mk (blk_below (g := gb184) (o := .cells #[.int .i32 t181,.int .i64 t182] 83 (0,0)) (by (with_reducible repeat (first | refine blk_drewN ?_ _ | refine blk_drew ?_ | refine blk_alloc ?_ _));refine blk_far ?_ NB184_188.out _;(with_reducible repeat (first | refine blk_drewN ?_ _ | refine blk_drew ?_ | refine blk_alloc ?_ _));refine blk_far ?_ NB184_188.out _;(with_reducible repeat (first | refine blk_drewN ?_ _ | refine blk_drew ?_ | refine blk_alloc ?_ _));exact BK184.out) hb);have n1_ := Aside0.mk (blk_below (g := gb188) (o := .cells #[.int .i32 t185,.int .i64 t186] 83 (0,0)) (by (with_reducible repeat (first | refine blk_drewN ?_ _ | refine blk_drew ?_ | refine blk_alloc ?_ _));refine blk_put (cs := #[.int .i32 t185,.int .i64 0]) ?_ 1 _ rfl;(with_reducible repeat (first | refine blk_drewN ?_ _ | refine blk_drew ?_ | refine blk_alloc ?_ _));refine blk_put (cs := #[.int .i32 0,.int .i64 0]) ?_ 0 _ rfl;(with_reducible repeat (first | refine blk_drewN ?_ _ | refine blk_drew ?_ | refine blk_alloc ?_ _));exact BK188.out) hb);have n2_ := Aside0.mk (below_step (by repeat (first | (with_reducible first | exact HB.out | apply below_alloc | apply pw_below_drewN | apply below_drew1 | refine below_set ?_ GE184.out | refine below_set ?_ GE188.out) | exact HB.out)) hb);clear BK184;clear BK188;clear HB;have BK184 := n0_;have BK188 := n1_;have HB := n2_;clear n0_ n1_ n2_;(try clear hb);(try clear hb2);(try clear hk);(try clear hi)))
     go_ret
     exact ⟨au2,by repeat (first | (with_reducible first | exact HB.out | apply below_alloc | apply pw_below_drewN | apply below_drew1 | refine below_set ?_ GE184.out | refine below_set ?_ GE188.out) | exact HB.out)⟩
    ·replace c8 := Bool.eq_false_iff.mpr c8
     subst c8
     have H1 : (some false) = some r := by rw [if_neg (show ¬ (false = true) by decide)] at H;exact H
     clear H
     have H := H1
     clear H1
     obtain rfl := Option.some.inj H
     go_wp2_with (first | ((with_reducible refine gate_callee (f := 57) rfl ?_);refine goesL_ (some 27) rfl rfl Tryd.func57 (by kernel_rfl) rfl #[.string a0,.int .i64 a1] rfl au1 ?_;(with_reducible refine (unit_Boundary.calls kj2 a0 a1 false _ ?side1 A7.out).mono ?_);(case side1 => exact tabs_below HT.out au0);rintro e w24 ⟨rfl,hb⟩;refine ⟨_,rfl,?_⟩;have n0_ := Aside0.mk (below_step au0 hb);clear HB;have HB := n0_;clear n0_;(try clear hb);(try clear hb2);(try clear hk);(try clear hi)))
     go_ret
     exact ⟨au2,au0⟩
end Go.Proofs.YtgdpnmikcopkmaaDoor.U
end
section
namespace Go.Proofs.YtgdpnmikcopkmaaDoor.U
open Go.RowKit Go.Proofs.YtgdpnmikcopkmaaDoorW.PrintWords Go.Proofs.YtgdpnmikcopkmaaDoorW.PrintLast Go.Proofs.YtgdpnmikcopkmaaDoorW.PrintMore
attribute [local go_sem] max2_int min2_int max_two min_two max_three min_three max_four min_four   -- for this text's walks alone
set_option linter.unusedVariables false
set_option linter.unusedSimpArgs false
def cluster_Next.l0 : Nat → ByteArray → Int → Option (Int)
 | 0,_,_ => none
 | k + 1,x0,x1 => if x1 < (x0.size : Int) then ((unit_Next.f k x0 x1).bind fun t192 => ((cluster_Boundary.f k x0 t192).bind fun t193 => (if t193 = true then (some t192) else (cluster_Next.l0 k x0 t192)))) else (some (x0.size : Int))
def cluster_Next.f (k : Nat) (a0 : ByteArray) (a1 : Int) : Option (Int) := if a1 < 0 then (some 0) else (cluster_Next.l0 k a0 a1)
set_option maxHeartbeats 8000000 in
set_option maxRecDepth 100000 in
theorem cluster_Next.calls (k : Nat) (a0 : ByteArray) (a1 : Int) (r : Int) (w : World) (hT : Lib.Utf8Tabs 0 1 w) (h : cluster_Next.f k a0 a1 = some r) :
  Calls Tryd.prog 39 #[.string a0,.int .i64 a1] w fun e w' => e = .returned (.int .i64 r) ∧ Below w.heap.size w w' := by
 have HT := Aside0.mk hT
 clear hT
 have HB := Aside0.mk (Below.refl w.heap.size w)
 have H : (if a1 < 0 then (some 0) else (cluster_Next.l0 k a0 a1)) = some r := h
 clear h
 by_cases c3 : a1 < 0
 ·rw [if_pos c3] at H
  have c3b0 : decide (a1 < 0) = true := decide_eq_true c3
  clear c3
  obtain rfl := Option.some.inj H
  go_enter Tryd.func39,Tryd.ntmps39
  go_wp2
  go_ret
  exact ⟨au2,au0⟩
 ·rw [if_neg c3] at H
  have c3b0 : decide (a1 < 0) = false := decide_eq_false c3
  clear c3
  have H' := Aside0.mk H
  clear H
  go_enter Tryd.func39,Tryd.ntmps39
  go_wp2
  go_loopg [1] k (fun kq v1 w' => ∃ (x1_1 : Int),v1 = .int .i64 x1_1 ∧ Aside0 (cluster_Next.l0 kq a0 x1_1 = some r) ∧ Aside0 (kq ≤ k) ∧ Aside0 (Below w.heap.size w w'))
  case atStart => exact ⟨(a1),au4,H',⟨Nat.le_refl _⟩,⟨au0⟩⟩
  case round =>
   clear H'
   try clear p2
   try clear c3
   try clear c3b0
   obtain ⟨x1_1,rfl,HA,HK1,HB⟩ := hrel
   cases gk with
   | zero => exact absurd HA.out (by simp [cluster_Next.l0])
   | succ k1 =>
    have H := HA.out
    clear HA
    simp only [cluster_Next.l0] at H
    by_cases c4 : x1_1 < (a0.size : Int)
    ·rw [if_pos c4] at H
     have c4b0 : decide (x1_1 < (a0.size : Int)) = true := decide_eq_true c4
     clear c4
     replace H := Option.bind_eq_some_iff.mp H
     obtain ⟨t192,A50,H⟩ := H
     replace H : ((cluster_Boundary.f k1 a0 t192).bind fun t193 => (if t193 = true then (some t192) else (cluster_Next.l0 k1 a0 t192))) = some r := H
     have A5 := Aside0.mk A50
     clear A50
     replace H := Option.bind_eq_some_iff.mp H
     obtain ⟨t193,A60,H⟩ := H
     replace H : (if t193 = true then (some t192) else (cluster_Next.l0 k1 a0 t192)) = some r := H
     have A6 := Aside0.mk A60
     clear A60
     by_cases c7 : t193 = true
     ·subst c7
      have H1 : (some t192) = some r := by rw [if_pos rfl] at H;exact H
      clear H
      have H := H1
      clear H1
      obtain rfl := Option.some.inj H
      go_wp2_with (first | ((with_reducible refine gate_callee (f := 62) rfl ?_);refine goesL_ (some 13) rfl rfl Tryd.func62 (by kernel_rfl) rfl #[.string a0,.int .i64 x1_1] rfl au1 ?_;(with_reducible refine (unit_Next.calls k1 a0 x1_1 t192 _ ?side1 A5.out).mono ?_);(case side1 => exact tabs_below HT.out au0);rintro e w8 ⟨rfl,hb⟩;refine ⟨_,rfl,?_⟩;have n0_ := Aside0.mk (below_step au0 hb);clear HB;have HB := n0_;clear n0_;(try clear hb);(try clear hb2);(try clear hk);(try clear hi)) | ((with_reducible refine gate_callee (f := 35) rfl ?_);refine goesL_ (some 16) rfl rfl Tryd.func35 (by kernel_rfl) rfl #[.string a0,.int .i64 t192] rfl au1 ?_;(with_reducible refine (cluster_Boundary.calls k1 a0 t192 true _ ?side1 A6.out).mono ?_);(case side1 => exact tabs_below HT.out au0);rintro e w9 ⟨rfl,hb⟩;refine ⟨_,rfl,?_⟩;have n0_ := Aside0.mk (below_step au0 hb);clear HB;have HB := n0_;clear n0_;(try clear hb);(try clear hb2);(try clear hk);(try clear hi)))
      go_ret
      exact ⟨au2,au0⟩
     ·replace c7 := Bool.eq_false_iff.mpr c7
      subst c7
      have H1 : (cluster_Next.l0 k1 a0 t192) = some r := by rw [if_neg (show ¬ (false = true) by decide)] at H;exact H
      clear H
      have H := H1
      clear H1
      have H' := Aside0.mk H
      clear H
      go_wp2_with (first | ((with_reducible refine gate_callee (f := 62) rfl ?_);refine goesL_ (some 13) rfl rfl Tryd.func62 (by kernel_rfl) rfl #[.string a0,.int .i64 x1_1] rfl au1 ?_;(with_reducible refine (unit_Next.calls k1 a0 x1_1 t192 _ ?side1 A5.out).mono ?_);(case side1 => exact tabs_below HT.out au0);rintro e w10 ⟨rfl,hb⟩;refine ⟨_,rfl,?_⟩;have n0_ := Aside0.mk (below_step au0 hb);clear HB;have HB := n0_;clear n0_;(try clear hb);(try clear hb2);(try clear hk);(try clear hi)) | ((with_reducible refine gate_callee (f := 35) rfl ?_);refine goesL_ (some 16) rfl rfl Tryd.func35 (by kernel_rfl) rfl #[.string a0,.int .i64 t192] rfl au1 ?_;(with_reducible refine (cluster_Boundary.calls k1 a0 t192 false _ ?side1 A6.out).mono ?_);(case side1 => exact tabs_below HT.out au0);rintro e w11 ⟨rfl,hb⟩;refine ⟨_,rfl,?_⟩;have n0_ := Aside0.mk (below_step au0 hb);clear HB;have HB := n0_;clear n0_;(try clear hb);(try clear hb2);(try clear hk);(try clear hi)))
      go_roundg k1
      case measure => have := HK1.out;omega
      case rel => exact ⟨(t192),au4,H',⟨by have := HK1.out;omega⟩,⟨au0⟩⟩
    ·rw [if_neg c4] at H
     have c4b0 : decide (x1_1 < (a0.size : Int)) = false := decide_eq_false c4
     clear c4
     obtain rfl := Option.some.inj H
     go_wp2
     go_ret
     exact ⟨au2,au0⟩
end Go.Proofs.YtgdpnmikcopkmaaDoor.U
end
section
namespace Go.Proofs.YtgdpnmikcopkmaaDoor.Pu
open Go Go.RowKit Go.Proofs.YtgdpnmikcopkmaaDoor.Mu Go.Proofs.YtgdpnmikcopkmaaDoor.U Go.Proofs.YtgdpnmikcopkmaaDoorW.PrintWords Go.Proofs.YtgdpnmikcopkmaaDoorW.PrintLast Go.Proofs.YtgdpnmikcopkmaaDoorW.PrintMore
set_option linter.unusedVariables false
theorem srow_loop (a : List Cl) (ha : a.length ≤ 1099511627776) : ∀ n i : Nat,i + n = a.length → Ev (fun k => bodkinref22_SameRow.l0 k a a (i : Int)) true := by
 intro n
 induction n with
 | zero => intro i hi;exact Ev.step (fun k => bodkinref22_SameRow.l0.eq_2 ..) (ev_neg (by omega) (Ev.now _))
 | succ n ih =>
  intro i hi
  refine Ev.step (fun k => bodkinref22_SameRow.l0.eq_2 ..) (ev_pos (by omega) (ev_pos (by omega) (ev_pos (by omega) (ev_neg (by simp) ?_))))
  rw [w64 (by omega) (by omega)]
  exact ih (i + 1) (by omega)
theorem srow_refl (a : List Cl) (ha : a.length ≤ 1099511627776) : Ev (fun k => bodkinref22_SameRow.f k a a) true := by
 unfold bodkinref22_SameRow.f
 exact ev_pos rfl (srow_loop a ha a.length 0 (by omega))
theorem sframe_loop (w r c : Int) (A : List (List Cl)) (hA : A.length ≤ 1099511627776) (hR : ∀ row ∈ A,row.length ≤ 1099511627776) : ∀ n i : Nat,i + n = A.length → Ev (fun k => bodkinref22_SameFrame.l0 k (i : Int) w A r c w A r c) true := by
 intro n
 induction n with
 | zero => intro i hi;exact Ev.step (fun k => bodkinref22_SameFrame.l0.eq_2 ..) (ev_neg (by omega) (Ev.now _))
 | succ n ih =>
  intro i hi
  have hrow : (rd_L3 A (i : Int)).length ≤ 1099511627776 := by
   unfold rd_L3
   rw [Int.toNat_natCast,List.getD_eq_getElem?_getD,List.getElem?_eq_getElem (by omega)]
   exact hR _ (List.getElem_mem _)
  refine Ev.step (fun k => bodkinref22_SameFrame.l0.eq_2 ..) (ev_pos (by omega) (ev_pos (by omega) (ev_pos (by omega) (Ev.bind (srow_refl _ hrow) (ev_pos rfl ?_)))))
  rw [w64 (by omega) (by omega)]
  exact ih (i + 1) (by omega)
theorem sframe_refl (w r c : Int) (A : List (List Cl)) (hA : A.length ≤ 1099511627776) (hR : ∀ row ∈ A,row.length ≤ 1099511627776) : Ev (fun k => bodkinref22_SameFrame.f k w A r c w A r c) true := by
 unfold bodkinref22_SameFrame.f
 refine ev_pos rfl (ev_neg (by simp) (Ev.step (fun k => bodkinref22_SameFrame.j0.eq_2 ..) (ev_neg (by simp) (sframe_loop w r c A hA hR A.length 0 (by omega)))))
/-- The document's examples. -/
def exA : Sc × ByteArray := feedS (newSc 3 2,⟨#[]⟩) ⟨#[97,98,99]⟩
def exB : Sc × ByteArray := feedS exA ⟨#[27,91,75,100]⟩
theorem exA_c : exA.1.c = 2 := by kernel_rfl
theorem exA_r : exA.1.r = 0 := by kernel_rfl
theorem exA_full : exA.1.full = true := by kernel_rfl
def exR0 : List Cl := [⟨⟨#[97]⟩,1⟩,⟨⟨#[98]⟩,1⟩]
def exR1 : List Cl := [⟨⟨#[100]⟩,1⟩]
theorem ex_row0 : bodkinlaw22_row.f 10 ⟨#[97,98]⟩ = some exR0 := by kernel_rfl
theorem ex_row1 : bodkinlaw22_row.f 10 ⟨#[100]⟩ = some exR1 := by kernel_rfl
theorem exB_n : exB.1.frameN 2 = 2 := by kernel_rfl
theorem exB_nr : exB.1.nrows = 2 := by kernel_rfl
theorem exB_frame : frameL exB.1.rows 2 = [exR0,exR1] := by kernel_rfl
theorem ex_same0 : bodkinref22_SameRow.f 10 exR0 exR0 = some true := by kernel_rfl
theorem ex_same1 : bodkinref22_SameRow.f 10 exR1 exR1 = some true := by kernel_rfl
theorem exB_all : allEq [exR0,exR1] exB.1.rows 2 = true := by kernel_rfl
theorem ex_next : cluster_Next.f 50 ⟨#[97]⟩ 0 = some 1 := by kernel_rfl
theorem exA_fit : Fit exA 11 := (fit_new 3 2).feed ⟨#[97,98,99]⟩
theorem exB_fit : Fit exB 26 := exA_fit.feed ⟨#[27,91,75,100]⟩
end Go.Proofs.YtgdpnmikcopkmaaDoor.Pu
end
section
namespace Go.Proofs.YtgdpnmikcopkmaaDoor.U
open Go.RowKit Go.Proofs.YtgdpnmikcopkmaaDoor.Mu Go.Proofs.YtgdpnmikcopkmaaDoor.Pu Go.Proofs.YtgdpnmikcopkmaaDoorW.PrintWords Go.Proofs.YtgdpnmikcopkmaaDoorW.PrintLast Go.Proofs.YtgdpnmikcopkmaaDoorW.PrintMore
set_option linter.unusedVariables false
set_option linter.unusedSimpArgs false
attribute [local go_sem high] place_eq
def ex9.T : Bool × List (List Nat × List Nat) := (true,[([],[]),([0],[0]),([1],[1]),([2],[2]),([3],[3]),([4],[4]),([5,4],[4,5]),([6,4],[4,6]),([7,4],[4,7]),([4,4],[4]),([8,9,9,4],[4,8,9]),([4,10],[4,10]),([11,10],[11]),([12],[12]),([13,12],[12,13]),([14,12],[12,14]),([15,12],[12,15]),([12,12],[12]),([16,17,17,12],[12,16,17]),([12,18],[12,18]),([19,18],[19]),([20],[20]),([20],[20]),([21,22,20,20],[20,21,22]),([20,23],[20,23]),([24,23],[24]),([25],[25]),([26,25,25],[25,26]),([27,25],[25,27]),([25,28],[25,28]),([29,27,0,1,2,3,4,5,6,7,8,9,10,11,12,13,14,15,16,17,18,19,20,21,22,23,24,25,26,27,28,29],[29])])
def ex9.B : List Nat := [0,1,3,7,15,31,63,127,255,31,1023,2047,4095,8191,16383,32767,65535,8191,262143,524287,1048575,2097151,2097151,8388607,16777215,33554431,67108863,134217727,268435455,536870911,1073741823]
theorem ex9.tab : rtab .any (opsOf Tryd.f13 9) = ex9.T := by kernel_rfl
theorem ex9.bits : waitsOk ex9.T.2 ex9.B = true := by kernel_rfl
theorem sees6 {w w' : World} {a0 a1 a2 a3 a4 a5 : Addr} {v0 v1 v2 v3 v4 v5 : Value} (h : w.cell? a0 = some v0 ∧ w.cell? a1 = some v1 ∧ w.cell? a2 = some v2 ∧ w.cell? a3 = some v3 ∧ w.cell? a4 = some v4 ∧ w.cell? a5 = some v5) (hb : Below w.heap.size w w') : w'.cell? a0 = some v0 ∧ w'.cell? a1 = some v1 ∧ w'.cell? a2 = some v2 ∧ w'.cell? a3 = some v3 ∧ w'.cell? a4 = some v4 ∧ w'.cell? a5 = some v5 := ⟨cell_below h.1 hb,cell_below h.2.1 hb,cell_below h.2.2.1 hb,cell_below h.2.2.2.1 hb,cell_below h.2.2.2.2.1 hb,cell_below h.2.2.2.2.2 hb⟩
theorem sees6k {w w' : World} {q g : Nat} {T : Nat → Prop} {v0 v1 v2 v3 v4 v5 : Value} (h : w.cell? ⟨q,0,none⟩ = some v0 ∧ w.cell? ⟨q,1,none⟩ = some v1 ∧ w.cell? ⟨q,2,none⟩ = some v2 ∧ w.cell? ⟨q,3,none⟩ = some v3 ∧ w.cell? ⟨g,0,none⟩ = some v4 ∧ w.cell? ⟨g,1,none⟩ = some v5) (hk : Kept w w' T) (hq : ¬ T q) (hg : ¬ T g) : w'.cell? ⟨q,0,none⟩ = some v0 ∧ w'.cell? ⟨q,1,none⟩ = some v1 ∧ w'.cell? ⟨q,2,none⟩ = some v2 ∧ w'.cell? ⟨q,3,none⟩ = some v3 ∧ w'.cell? ⟨g,0,none⟩ = some v4 ∧ w'.cell? ⟨g,1,none⟩ = some v5 :=
 ⟨kept_cell h.1 hk hq,kept_cell h.2.1 hk hq,kept_cell h.2.2.1 hk hq,kept_cell h.2.2.2.1 hk hq,kept_cell h.2.2.2.2.1 hk hg,kept_cell h.2.2.2.2.2 hk hg⟩
set_option maxRecDepth 100000 in
set_option maxHeartbeats 8000000 in
theorem law_shows (W : World) (hT : Lib.Utf8Tabs 0 1 W) (h2 : 2 ≤ W.heap.size) :
  Calls Tryd.prog 13 #[] W fun e w' => e = .returned (.bool true) ∧ Below W.heap.size W w' := by
 have hnil : ∀ (w : World) p,(binOp .neq 28 (.pointer (some p)) (.pointer none)).run Tryd.prog w = (binOp .neq 28 (.pointer (some p)) (.pointer none)).run Tryd.prog w := fun _ _ => rfl
 have hq : ∀ (w : World) (a : Option Addr),(binOp .eql 28 (.pointer a) (.pointer none)).run Tryd.prog w = .ok (.bool a.isNone) w := fun w a => run_eql_ptr_nil (tp := 28) (te := 69) w a Tryd.underlying28 (j := _) rfl
 clear hnil
 have eC := exA_c
 have eR := exA_r
 have eF := exA_full
 have fA := exA_fit
 have fB := exB_fit
 have hAe := Lib.hid (show feedS (newSc 3 2,⟨#[]⟩) ⟨#[97,98,99]⟩ = exA from rfl)
 have hBe := Lib.hid (show feedS exA ⟨#[27,91,75,100]⟩ = exB from rfl)
 go_enter Tryd.func13,Tryd.ntmps13
 go_upto_region 5 with (first | (go_at_call 39;refine (cluster_Next.calls 50 _ _ _ _ hT ex_next).mono ?_;rintro e w1 ⟨rfl,hb1⟩) | (go_at_call 14;refine (scr_new 3 2 _).mono ?_;rintro e w2 ⟨p,rfl,hp,hS,hb2⟩;have hb12 := hb1.trans (hb2.mono hb1.size);have hS2 := hS W.heap.size hb1.size;have hT2 := tabs_below hT hb12;have hsz2 := hb12.size;clear hS) | (go_at_call 16;refine (scr_feed hS2 hsz2 h2 hT2 (fit_new 3 2) ⟨#[97,98,99]⟩ (by decide)).mono ?_;rintro e w3 ⟨rfl,O3,hM3⟩;rw [hAe.out] at hM3))
 have hM3' := hM3
 have hs3 := hM3.scr.at_
 have hcur := sc_cursor hs3
 have hful := sc_full hs3
 rw [eC,eR] at hcur
 rw [eF] at hful
 have hT3 := tabs_base hT2 hM3.below h2
 clear hb1 hb2 hT hS2
 go_upto_region 7 with (first | (go_at_call 26;refine hcur.mono ?_;rintro e w4 ⟨rfl,hb4⟩;have hful4 := sc_full (hs3.below hb4);rw [eF] at hful4) | (go_at_call 25;refine hful4.mono ?_;rintro e w5 ⟨rfl,hb5⟩))
 have hb45 := hb4.trans (hb5.mono hb4.size)
 have hsz3 : W.heap.size ≤ w3.heap.size := Nat.le_trans hsz2 hM3.kept.1
 have hM5 := hM3.then_ (Made.of_below hM3.scr hb45 hsz3)
 have hsz5 : W.heap.size ≤ w5.heap.size := Nat.le_trans hsz3 hb45.size
 have hT5 := tabs_below hT3 hb45
 clear hb4 hb5 hb45 hcur hful hful4 hs3 hM3 hM3' hT3
 go_upto_region 9 with (first | (go_at_call 16;refine (scr_feed hM5.scr hsz5 h2 hT5 fA ⟨#[27,91,75,100]⟩ (by decide)).mono ?_;rintro e w6 ⟨rfl,O6,hM6⟩;rw [hBe.out] at hM6;have hsz6 : W.heap.size ≤ w6.heap.size := Nat.le_trans hsz5 hM6.kept.1) | (go_at_call 20;refine (scr_frame hM6.scr hsz6 fB.ok 2).mono ?_;rintro e w7 ⟨rv,rfl,hS7,hM7⟩;rw [exB_n,exB_frame] at hS7;obtain ⟨gF,cF,rfl,hgF,hgF2,_,_⟩ := Kd.S_form hS7 (by decide)))
 have hM67 := (hM5.then_ hM6).then_ hM7
 have hsz7 : W.heap.size ≤ w7.heap.size := Nat.le_trans hsz6 hM7.kept.1
 have hal := below_alloc (Below.refl _ w7) (.cells #[.int .i64 exB.1.w,.slice (some ⟨gF,0,none⟩) 2 cF,.int .i64 exB.1.r,.int .i64 exB.1.c] 26 (0,0))
 have hM8 := hM67.then_ (Made.of_below hM67.scr hal hsz7)
 have hF8 := Kd.S_below hS7 hal
 have hq8 := World.alloc_heap_new w7 (.cells #[.int .i64 exB.1.w,.slice (some ⟨gF,0,none⟩) 2 cF,.int .i64 exB.1.r,.int .i64 exB.1.c] 26 (0,0))
 obtain ⟨ad0,A0,k0,had0,r0,hk0,hC0⟩ := at_L3 (Kd.S_reads' hF8).2.2 0 (by decide) (by decide)
 obtain ⟨ad1,A1,k1,had1,r1,hk1,hC1⟩ := at_L3 (Kd.S_reads' hF8).2.2 1 (by decide) (by decide)
 injection had0 with had0
 subst had0
 injection had1 with had1
 subst had1
 have hC0 : Kd.C k38 _ A0 2 exR0 := hC0
 have hC1 : Kd.C k38 _ A1 1 exR1 := hC1
 have hk0 : 2 ≤ k0 := hk0
 have hk1 : 1 ≤ k1 := hk1
 have r0 : (w7.alloc (.cells #[.int .i64 exB.1.w,.slice (some ⟨gF,0,none⟩) 2 cF,.int .i64 exB.1.r,.int .i64 exB.1.c] 26 (0,0))).cell? ⟨gF,0,none⟩ = some (.slice A0 2 k0) := r0
 have r1 : (w7.alloc (.cells #[.int .i64 exB.1.w,.slice (some ⟨gF,0,none⟩) 2 cF,.int .i64 exB.1.r,.int .i64 exB.1.c] 26 (0,0))).cell? ⟨gF,1,none⟩ = some (.slice A1 1 k1) := r1
 have hpq := hM6.scr.lt
 have hOq := hM6.scr.bd
 have hq6 : w6.heap.size ≤ w7.heap.size := hM7.kept.1
 have hnk : ∀ k,w6.heap.size ≤ k → ¬ (O6 k ∨ k = p) := fun k hk he => he.elim (fun h => by have := hOq k h;omega) (fun h => by omega)
 have eN := exB_nr
 have eA := exB_all
 generalize hqe : w7.heap.size = q at hq8 hq6 ⊢
 have hsz8 : W.heap.size ≤ (w7.alloc (.cells #[.int .i64 exB.1.w,.slice (some ⟨gF,0,none⟩) 2 cF,.int .i64 exB.1.r,.int .i64 exB.1.c] 26 (0,0))).heap.size := by rw [World.size_alloc];omega
 generalize w7.alloc (.cells #[.int .i64 exB.1.w,.slice (some ⟨gF,0,none⟩) 2 cF,.int .i64 exB.1.r,.int .i64 exB.1.c] 26 (0,0)) = w8 at hM8 hF8 hq8 hC0 hC1 r0 r1 hsz8 ⊢
 clear hM67 hal hM5 hM6 hM7 hS7 hT5 eC eR eF hAe hBe hqe hgF2 hq
 refine start_ (n := 31) (S := fun w' => w'.cell? ⟨q,0,none⟩ = some (.int .i64 exB.1.w) ∧ w'.cell? ⟨q,1,none⟩ = some (.slice (some ⟨gF,0,none⟩) 2 cF) ∧ w'.cell? ⟨q,2,none⟩ = some (.int .i64 exB.1.r) ∧ w'.cell? ⟨q,3,none⟩ = some (.int .i64 exB.1.c) ∧ w'.cell? ⟨gF,0,none⟩ = some (.slice A0 2 k0) ∧ w'.cell? ⟨gF,1,none⟩ = some (.slice A1 1 k1)) (ds := []) #[false,false,false,false,false,false,false,false,false,false,false,false,false,false,false,false,false,false,false,false,false,false,false,false,false,false,false,false,false,false,false] (by kernel_rfl) rfl rfl ⟨blk_cell hq8 0,blk_cell hq8 1,blk_cell hq8 2,blk_cell hq8 3,r0,r1⟩ (fun hHeld => ?_);refine with_tabW ex9.tab ex9.bits (fun HT_ HW_ => ?_)
 have hdr8 : Below w8.heap.size w8 w8.drew := below_drew (Below.refl _ _)
 have hM9 := hM8.then_ (Made.of_below hM8.scr hdr8 hsz8)
 have hF9 := Kd.S_below hF8 hdr8
 have hC0 := Kd.C_below hC0 hdr8
 have hC1 := Kd.C_below hC1 hdr8
 have hsz9 : W.heap.size ≤ w8.drew.heap.size := hsz8
 generalize w8.drew = w9 at hM9 hF9 hC0 hC1 hsz9 hHeld ⊢
 clear hM8 hF8 hq8 r0 r1 hdr8
 refine pure_ (i := 0) (N := (some 25)) (v := ?_) (a' := ?_) #[true,false,false,false,false,false,false,false,false,false,false,false,false,false,false,false,false,false,false,false,false,false,false,false,false,false,false,false,false,false,false] rfl rfl (any_of HT_.out (by kernel_rfl)) (fun _ _ _ h => h) (Or.inl ⟨by rfl,?_⟩) ?_ ?_
 rotate_left
 ·intro w'
  go_simp
  with_reducible rfl
 rotate_left
 ·simp only [Act.put,List.setIfInBounds_toArray,List.set_cons_zero,List.set_cons_succ,i64_w,i32_w]
  rfl
 refine take_ (i := 1) (N := (some 26)) (v := ?_) (a' := ?_) #[true,true,false,false,false,false,false,false,false,false,false,false,false,false,false,false,false,false,false,false,false,false,false,false,false,false,false,false,false,false,false] rfl rfl (take_ofW HT_.out HW_.out (by kernel_rfl)) (fun _ _ _ h => h) (Or.inl ⟨by rfl,?_⟩) hHeld ?_ ?_
 rotate_left
 ·rintro w' ⟨s1,s2,s3,s4,s5,s6⟩
  go_simp
  with_reducible rfl
 rotate_left
 ·simp only [Act.put,List.setIfInBounds_toArray,List.set_cons_zero,List.set_cons_succ,i64_w,i32_w]
  rfl
 refine pure_ (i := 2) (N := (some 27)) (v := ?_) (a' := ?_) #[true,true,true,false,false,false,false,false,false,false,false,false,false,false,false,false,false,false,false,false,false,false,false,false,false,false,false,false,false,false,false] rfl rfl (any_of HT_.out (by kernel_rfl)) (fun _ _ _ h => h) (Or.inl ⟨by rfl,?_⟩) ?_ ?_
 rotate_left
 ·intro w'
  go_simp
  with_reducible rfl
 rotate_left
 ·simp only [Act.put,List.setIfInBounds_toArray,List.set_cons_zero,List.set_cons_succ,i64_w,i32_w]
  rfl
 refine pure_ (i := 3) (N := (some 28)) (v := ?_) (a' := ?_) #[true,true,true,true,false,false,false,false,false,false,false,false,false,false,false,false,false,false,false,false,false,false,false,false,false,false,false,false,false,false,false] rfl rfl (any_of HT_.out (by kernel_rfl)) (fun _ _ _ h => h) (Or.inl ⟨by rfl,?_⟩) ?_ ?_
 rotate_left
 ·intro w'
  go_simp
  with_reducible rfl
 rotate_left
 ·simp only [Act.put,List.setIfInBounds_toArray,List.set_cons_zero,List.set_cons_succ,i64_w,i32_w]
  rfl
 refine pure_ (i := 4) (N := (some 29)) (v := ?_) (a' := ?_) #[true,true,true,true,true,false,false,false,false,false,false,false,false,false,false,false,false,false,false,false,false,false,false,false,false,false,false,false,false,false,false] rfl rfl (any_of HT_.out (by kernel_rfl)) (fun _ _ _ h => h) (Or.inl ⟨by rfl,?_⟩) ?_ ?_
 rotate_left
 ·intro w'
  go_simp
  with_reducible rfl
 rotate_left
 ·simp only [Act.put,List.setIfInBounds_toArray,List.set_cons_zero,List.set_cons_succ,i64_w,i32_w]
  rfl
 refine pure_ (i := 5) (N := (some 30)) (v := ?_) (a' := ?_) #[true,true,true,true,true,true,false,false,false,false,false,false,false,false,false,false,false,false,false,false,false,false,false,false,false,false,false,false,false,false,false] rfl rfl (any_of HT_.out (by kernel_rfl)) (fun _ _ _ h => h) (Or.inl ⟨by rfl,?_⟩) ?_ ?_
 rotate_left
 ·intro w'
  go_simp
  with_reducible rfl
 rotate_left
 ·simp only [Act.put,List.setIfInBounds_toArray,List.set_cons_zero,List.set_cons_succ,i64_w,i32_w]
  rfl
 refine take_ (i := 6) (N := (some 31)) (v := ?_) (a' := ?_) #[true,true,true,true,true,true,true,false,false,false,false,false,false,false,false,false,false,false,false,false,false,false,false,false,false,false,false,false,false,false,false] rfl rfl (take_ofW HT_.out HW_.out (by kernel_rfl)) (fun _ _ _ h => h) (Or.inl ⟨by rfl,?_⟩) hHeld ?_ ?_
 rotate_left
 ·rintro w' ⟨s1,s2,s3,s4,s5,s6⟩
  go_simp
  with_reducible rfl
 rotate_left
 ·simp only [Act.put,List.setIfInBounds_toArray,List.set_cons_zero,List.set_cons_succ,i64_w,i32_w]
  rfl
 refine pure_ (i := 7) (N := (some 32)) (v := ?_) (a' := ?_) #[true,true,true,true,true,true,true,true,false,false,false,false,false,false,false,false,false,false,false,false,false,false,false,false,false,false,false,false,false,false,false] rfl rfl (any_of HT_.out (by kernel_rfl)) (fun _ _ _ h => h) (Or.inl ⟨by rfl,?_⟩) ?_ ?_
 rotate_left
 ·intro w'
  go_simp
  with_reducible rfl
 rotate_left
 ·simp only [Act.put,List.setIfInBounds_toArray,List.set_cons_zero,List.set_cons_succ,i64_w,i32_w]
  rfl
 refine take_ (i := 8) (N := (some 33)) (v := ?_) (a' := ?_) #[true,true,true,true,true,true,true,true,true,false,false,false,false,false,false,false,false,false,false,false,false,false,false,false,false,false,false,false,false,false,false] rfl rfl (take_ofW HT_.out HW_.out (by kernel_rfl)) (fun _ _ _ h => h) (Or.inl ⟨by rfl,?_⟩) hHeld ?_ ?_
 rotate_left
 ·rintro w' ⟨s1,s2,s3,s4,s5,s6⟩
  go_simp
  with_reducible rfl
 rotate_left
 ·simp only [Act.put,List.setIfInBounds_toArray,List.set_cons_zero,List.set_cons_succ,i64_w,i32_w]
  rfl
 refine one_ (i := 9) (N := (some 34)) #[true,true,true,true,true,true,true,true,true,true,false,false,false,false,false,false,false,false,false,false,false,false,false,false,false,false,false,false,false,false,false] rfl rfl (one_of HT_.out (by kernel_rfl)) (by decide) (fun K hK => ?_)
 refine call_ 27 #[.string ⟨#[97,98]⟩] (by rfl) rfl au8 ?_
 refine (bodkinlaw22_row.calls 10 _ _ _ ex_row0).mono ?_
 rintro e w10 ⟨va,rfl,hVa,hba⟩
 obtain ⟨Ba,da,rfl⟩ := Kd.R_slice hVa
 have hM10 := hM9.then_ (Made.of_below hM9.scr hba hsz9)
 have hF10 := Kd.S_below hF9 hba
 have hsz10 : W.heap.size ≤ w10.heap.size := Nat.le_trans hsz9 hba.size
 have hC0 := Kd.C_below hC0 hba
 have hC1 := Kd.C_below hC1 hba
 have hDa := (Kd.R_reads' hVa).2.2
 have hDca := (Kd.R_reads' hVa).2.1
 refine ⟨_,rfl,hK.out _ _ (sees6 hHeld hba) (fun hHeld => ?_)⟩
 clear hK K hM9 hF9
 refine norm_ (a' := ?_) ?_ ?_
 rotate_left
 ·show Act.put _ (some 34) _ = _
  simp only [Act.put,List.setIfInBounds_toArray,List.set_cons_zero,List.set_cons_succ,i64_w,i32_w]
  rfl
 refine one_ (i := 10) (N := (some 35)) #[true,true,true,true,true,true,true,true,true,true,true,false,false,false,false,false,false,false,false,false,false,false,false,false,false,false,false,false,false,false,false] rfl rfl (one_of HT_.out (by kernel_rfl)) (by decide) (fun K hK => ?_)
 refine call_ 36 #[.slice A0 2 k0,.slice Ba exR0.length da] (by rfl) rfl au8 ?_
 refine (bodkinref22_SameRow.calls 10 A0 k0 exR0 Ba da exR0 true _ hC0 (by assumption) hDa (by assumption) ex_same0).mono ?_
 rintro e w11 ⟨rfl,hdr10⟩
 have hbs10 := hdr10.below
 have hM11 := hM10.then_ (Made.of_below hM10.scr hbs10 hsz10)
 have hF11 := Kd.S_below hF10 hbs10
 have hsz11 : W.heap.size ≤ w11.heap.size := Nat.le_trans hsz10 hbs10.size
 have hC0 := Kd.C_below hC0 hbs10
 have hC1 := Kd.C_below hC1 hbs10
 refine ⟨_,rfl,hK.out _ _ (sees6 hHeld hbs10) (fun hHeld => ?_)⟩
 clear hK K hM10 hF10
 refine norm_ (a' := ?_) ?_ ?_
 rotate_left
 ·show Act.put _ (some 35) _ = _
  simp only [Act.put,List.setIfInBounds_toArray,List.set_cons_zero,List.set_cons_succ,i64_w,i32_w]
  rfl
 refine pure_ (i := 11) (N := (some 36)) (v := ?_) (a' := ?_) #[true,true,true,true,true,true,true,true,true,true,true,true,false,false,false,false,false,false,false,false,false,false,false,false,false,false,false,false,false,false,false] rfl rfl (any_of HT_.out (by kernel_rfl)) (fun _ _ _ h => h) (Or.inl ⟨by rfl,?_⟩) ?_ ?_
 rotate_left
 ·intro w'
  go_simp
  with_reducible rfl
 rotate_left
 ·simp only [Act.put,List.setIfInBounds_toArray,List.set_cons_zero,List.set_cons_succ,i64_w,i32_w]
  rfl
 refine pure_ (i := 12) (N := (some 37)) (v := ?_) (a' := ?_) #[true,true,true,true,true,true,true,true,true,true,true,true,true,false,false,false,false,false,false,false,false,false,false,false,false,false,false,false,false,false,false] rfl rfl (any_of HT_.out (by kernel_rfl)) (fun _ _ _ h => h) (Or.inl ⟨by rfl,?_⟩) ?_ ?_
 rotate_left
 ·intro w'
  go_simp
  with_reducible rfl
 rotate_left
 ·simp only [Act.put,List.setIfInBounds_toArray,List.set_cons_zero,List.set_cons_succ,i64_w,i32_w]
  rfl
 refine pure_ (i := 13) (N := (some 38)) (v := ?_) (a' := ?_) #[true,true,true,true,true,true,true,true,true,true,true,true,true,true,false,false,false,false,false,false,false,false,false,false,false,false,false,false,false,false,false] rfl rfl (any_of HT_.out (by kernel_rfl)) (fun _ _ _ h => h) (Or.inl ⟨by rfl,?_⟩) ?_ ?_
 rotate_left
 ·intro w'
  go_simp
  with_reducible rfl
 rotate_left
 ·simp only [Act.put,List.setIfInBounds_toArray,List.set_cons_zero,List.set_cons_succ,i64_w,i32_w]
  rfl
 refine take_ (i := 14) (N := (some 39)) (v := ?_) (a' := ?_) #[true,true,true,true,true,true,true,true,true,true,true,true,true,true,true,false,false,false,false,false,false,false,false,false,false,false,false,false,false,false,false] rfl rfl (take_ofW HT_.out HW_.out (by kernel_rfl)) (fun _ _ _ h => h) (Or.inl ⟨by rfl,?_⟩) hHeld ?_ ?_
 rotate_left
 ·rintro w' ⟨s1,s2,s3,s4,s5,s6⟩
  go_simp
  with_reducible rfl
 rotate_left
 ·simp only [Act.put,List.setIfInBounds_toArray,List.set_cons_zero,List.set_cons_succ,i64_w,i32_w]
  rfl
 refine pure_ (i := 15) (N := (some 40)) (v := ?_) (a' := ?_) #[true,true,true,true,true,true,true,true,true,true,true,true,true,true,true,true,false,false,false,false,false,false,false,false,false,false,false,false,false,false,false] rfl rfl (any_of HT_.out (by kernel_rfl)) (fun _ _ _ h => h) (Or.inl ⟨by rfl,?_⟩) ?_ ?_
 rotate_left
 ·intro w'
  go_simp
  with_reducible rfl
 rotate_left
 ·simp only [Act.put,List.setIfInBounds_toArray,List.set_cons_zero,List.set_cons_succ,i64_w,i32_w]
  rfl
 refine take_ (i := 16) (N := (some 41)) (v := ?_) (a' := ?_) #[true,true,true,true,true,true,true,true,true,true,true,true,true,true,true,true,true,false,false,false,false,false,false,false,false,false,false,false,false,false,false] rfl rfl (take_ofW HT_.out HW_.out (by kernel_rfl)) (fun _ _ _ h => h) (Or.inl ⟨by rfl,?_⟩) hHeld ?_ ?_
 rotate_left
 ·rintro w' ⟨s1,s2,s3,s4,s5,s6⟩
  go_simp
  with_reducible rfl
 rotate_left
 ·simp only [Act.put,List.setIfInBounds_toArray,List.set_cons_zero,List.set_cons_succ,i64_w,i32_w]
  rfl
 refine one_ (i := 17) (N := (some 42)) #[true,true,true,true,true,true,true,true,true,true,true,true,true,true,true,true,true,true,false,false,false,false,false,false,false,false,false,false,false,false,false] rfl rfl (one_of HT_.out (by kernel_rfl)) (by decide) (fun K hK => ?_)
 refine call_ 27 #[.string ⟨#[100]⟩] (by rfl) rfl au8 ?_
 refine (bodkinlaw22_row.calls 10 _ _ _ ex_row1).mono ?_
 rintro e w12 ⟨vb,rfl,hVb,hbb⟩
 obtain ⟨Bb,db,rfl⟩ := Kd.R_slice hVb
 have hM12 := hM11.then_ (Made.of_below hM11.scr hbb hsz11)
 have hF12 := Kd.S_below hF11 hbb
 have hsz12 : W.heap.size ≤ w12.heap.size := Nat.le_trans hsz11 hbb.size
 have hC0 := Kd.C_below hC0 hbb
 have hC1 := Kd.C_below hC1 hbb
 have hDb := (Kd.R_reads' hVb).2.2
 have hDcb := (Kd.R_reads' hVb).2.1
 refine ⟨_,rfl,hK.out _ _ (sees6 hHeld hbb) (fun hHeld => ?_)⟩
 clear hK K hM11 hF11
 refine norm_ (a' := ?_) ?_ ?_
 rotate_left
 ·show Act.put _ (some 42) _ = _
  simp only [Act.put,List.setIfInBounds_toArray,List.set_cons_zero,List.set_cons_succ,i64_w,i32_w]
  rfl
 refine one_ (i := 18) (N := (some 43)) #[true,true,true,true,true,true,true,true,true,true,true,true,true,true,true,true,true,true,true,false,false,false,false,false,false,false,false,false,false,false,false] rfl rfl (one_of HT_.out (by kernel_rfl)) (by decide) (fun K hK => ?_)
 refine call_ 36 #[.slice A1 1 k1,.slice Bb exR1.length db] (by rfl) rfl au8 ?_
 refine (bodkinref22_SameRow.calls 10 A1 k1 exR1 Bb db exR1 true _ hC1 (by assumption) hDb (by assumption) ex_same1).mono ?_
 rintro e w13 ⟨rfl,hdr12⟩
 have hbs12 := hdr12.below
 have hM13 := hM12.then_ (Made.of_below hM12.scr hbs12 hsz12)
 have hF13 := Kd.S_below hF12 hbs12
 have hsz13 : W.heap.size ≤ w13.heap.size := Nat.le_trans hsz12 hbs12.size
 have hC0 := Kd.C_below hC0 hbs12
 have hC1 := Kd.C_below hC1 hbs12
 refine ⟨_,rfl,hK.out _ _ (sees6 hHeld hbs12) (fun hHeld => ?_)⟩
 clear hK K hM12 hF12
 refine norm_ (a' := ?_) ?_ ?_
 rotate_left
 ·show Act.put _ (some 43) _ = _
  simp only [Act.put,List.setIfInBounds_toArray,List.set_cons_zero,List.set_cons_succ,i64_w,i32_w]
  rfl
 refine pure_ (i := 19) (N := (some 44)) (v := ?_) (a' := ?_) #[true,true,true,true,true,true,true,true,true,true,true,true,true,true,true,true,true,true,true,true,false,false,false,false,false,false,false,false,false,false,false] rfl rfl (any_of HT_.out (by kernel_rfl)) (fun _ _ _ h => h) (Or.inl ⟨by rfl,?_⟩) ?_ ?_
 rotate_left
 ·intro w'
  go_simp
  with_reducible rfl
 rotate_left
 ·simp only [Act.put,List.setIfInBounds_toArray,List.set_cons_zero,List.set_cons_succ,i64_w,i32_w]
  rfl
 refine pure_ (i := 20) (N := (some 45)) (v := ?_) (a' := ?_) #[true,true,true,true,true,true,true,true,true,true,true,true,true,true,true,true,true,true,true,true,true,false,false,false,false,false,false,false,false,false,false] rfl rfl (any_of HT_.out (by kernel_rfl)) (fun _ _ _ h => h) (Or.inl ⟨by rfl,?_⟩) ?_ ?_
 rotate_left
 ·intro w'
  go_simp
  with_reducible rfl
 rotate_left
 ·simp only [Act.put,List.setIfInBounds_toArray,List.set_cons_zero,List.set_cons_succ,i64_w,i32_w]
  rfl
 refine pure_ (i := 21) (N := (some 46)) (v := ?_) (a' := ?_) #[true,true,true,true,true,true,true,true,true,true,true,true,true,true,true,true,true,true,true,true,true,true,false,false,false,false,false,false,false,false,false] rfl rfl (any_of HT_.out (by kernel_rfl)) (fun _ _ _ h => h) (Or.inl ⟨by rfl,?_⟩) ?_ ?_
 rotate_left
 ·intro w'
  go_simp
  with_reducible rfl
 rotate_left
 ·simp only [Act.put,List.setIfInBounds_toArray,List.set_cons_zero,List.set_cons_succ,i64_w,i32_w]
  rfl
 refine take_ (i := 22) (N := (some 47)) (v := ?_) (a' := ?_) #[true,true,true,true,true,true,true,true,true,true,true,true,true,true,true,true,true,true,true,true,true,true,true,false,false,false,false,false,false,false,false] rfl rfl (take_ofW HT_.out HW_.out (by kernel_rfl)) (fun _ _ _ h => h) (Or.inl ⟨by rfl,?_⟩) hHeld ?_ ?_
 rotate_left
 ·rintro w' ⟨s1,s2,s3,s4,s5,s6⟩
  go_simp
  with_reducible rfl
 rotate_left
 ·simp only [Act.put,List.setIfInBounds_toArray,List.set_cons_zero,List.set_cons_succ,i64_w,i32_w]
  rfl
 refine one_ (i := 23) (N := (some 48)) #[true,true,true,true,true,true,true,true,true,true,true,true,true,true,true,true,true,true,true,true,true,true,true,true,false,false,false,false,false,false,false] rfl rfl (one_of HT_.out (by kernel_rfl)) (by decide) (fun K hK => ?_)
 refine call_ 18 #[.pointer (some ⟨p,0,none⟩),.agg #[.int .i64 exB.1.w,.slice (some ⟨gF,0,none⟩) 2 cF,.int .i64 exB.1.r,.int .i64 exB.1.c]] (by rfl) rfl au8 ?_
 have hFk := hF13
 refine (sc_shows hM13.scr.at_ hsz13 fB.ok exB.1.w exB.1.r exB.1.c (some ⟨gF,0,none⟩) cF [exR0,exR1] (fun w hk => (Kd.S_reads' (Kd.S_kept hFk hk (fun k hk he => hnk k hk (he.imp And.left id)))).2.2) (Kd.S_reads' hFk).2.1 (by decide) rfl (by decide) (by decide) (by rw [eN];decide) rfl rfl).mono ?_
 rintro e w14 ⟨rfl,hst14⟩
 have hM14 := hM13.then_ (Made.of_same hM13.scr.bd hst14)
 have hsz14 : W.heap.size ≤ w14.heap.size := Nat.le_trans hsz13 hst14.size
 have eA2 : allEq [exR0,exR1] exB.1.rows [exR0,exR1].length = true := eA
 rw [eA2]
 refine ⟨_,rfl,hK.out _ _ (sees6k hHeld (hst14.kept) (fun he => hnk q hq6 (he.imp And.left id)) (fun he => hnk gF hgF (he.imp And.left id))) (fun hHeld => ?_)⟩
 clear hK K hM13 hF13 hFk hst14
 refine norm_ (a' := ?_) ?_ ?_
 rotate_left
 ·show Act.put _ (some 48) _ = _
  simp only [Act.put,List.setIfInBounds_toArray,List.set_cons_zero,List.set_cons_succ,i64_w,i32_w]
  rfl
 refine pure_ (i := 24) (N := (some 49)) (v := ?_) (a' := ?_) #[true,true,true,true,true,true,true,true,true,true,true,true,true,true,true,true,true,true,true,true,true,true,true,true,true,false,false,false,false,false,false] rfl rfl (any_of HT_.out (by kernel_rfl)) (fun _ _ _ h => h) (Or.inl ⟨by rfl,?_⟩) ?_ ?_
 rotate_left
 ·intro w'
  go_simp
  with_reducible rfl
 rotate_left
 ·simp only [Act.put,List.setIfInBounds_toArray,List.set_cons_zero,List.set_cons_succ,i64_w,i32_w]
  rfl
 refine pure_ (i := 25) (N := (some 50)) (v := ?_) (a' := ?_) #[true,true,true,true,true,true,true,true,true,true,true,true,true,true,true,true,true,true,true,true,true,true,true,true,true,true,false,false,false,false,false] rfl rfl (any_of HT_.out (by kernel_rfl)) (fun _ _ _ h => h) (Or.inl ⟨by rfl,?_⟩) ?_ ?_
 rotate_left
 ·intro w'
  go_simp
  with_reducible rfl
 rotate_left
 ·simp only [Act.put,List.setIfInBounds_toArray,List.set_cons_zero,List.set_cons_succ,i64_w,i32_w]
  rfl
 refine pure_ (i := 26) (N := (some 51)) (v := ?_) (a' := ?_) #[true,true,true,true,true,true,true,true,true,true,true,true,true,true,true,true,true,true,true,true,true,true,true,true,true,true,true,false,false,false,false] rfl rfl (any_of HT_.out (by kernel_rfl)) (fun _ _ _ h => h) (Or.inl ⟨by rfl,?_⟩) ?_ ?_
 rotate_left
 ·intro w'
  go_simp
  with_reducible rfl
 rotate_left
 ·simp only [Act.put,List.setIfInBounds_toArray,List.set_cons_zero,List.set_cons_succ,i64_w,i32_w]
  rfl
 refine one_ (i := 27) (N := (some 52)) #[true,true,true,true,true,true,true,true,true,true,true,true,true,true,true,true,true,true,true,true,true,true,true,true,true,true,true,true,false,false,false] rfl rfl (one_of HT_.out (by kernel_rfl)) (by decide) (fun K hK => ?_)
 refine call_ 21 #[.pointer (some ⟨p,0,none⟩)] (by rfl) rfl au8 ?_
 refine (scr_rows hM14.scr hsz14 fB.ok).mono ?_
 rintro e w15 ⟨rfl,hr15⟩
 have hM15 := hM14.then_ hr15
 rw [eN]
 refine ⟨_,rfl,hK.out _ _ (sees6k hHeld hr15.kept (fun he => hnk q hq6 he) (fun he => hnk gF hgF he)) (fun hHeld => ?_)⟩
 clear hK K hM14 hr15
 refine norm_ (a' := ?_) ?_ ?_
 rotate_left
 ·show Act.put _ (some 52) _ = _
  simp only [Act.put,List.setIfInBounds_toArray,List.set_cons_zero,List.set_cons_succ,i64_w,i32_w]
  rfl
 refine pure_ (i := 28) (N := (some 53)) (v := ?_) (a' := ?_) #[true,true,true,true,true,true,true,true,true,true,true,true,true,true,true,true,true,true,true,true,true,true,true,true,true,true,true,true,true,false,false] rfl rfl (any_of HT_.out (by kernel_rfl)) (fun _ _ _ h => h) (Or.inl ⟨by rfl,?_⟩) ?_ ?_
 rotate_left
 ·intro w'
  go_simp
  with_reducible rfl
 rotate_left
 ·simp only [Act.put,List.setIfInBounds_toArray,List.set_cons_zero,List.set_cons_succ,i64_w,i32_w]
  rfl
 refine pure_ (i := 29) (N := (some 54)) (v := ?_) (a' := ?_) #[true,true,true,true,true,true,true,true,true,true,true,true,true,true,true,true,true,true,true,true,true,true,true,true,true,true,true,true,true,true,false] rfl rfl (any_of HT_.out (by kernel_rfl)) (fun _ _ _ h => h) (Or.inl ⟨by rfl,?_⟩) ?_ ?_
 rotate_left
 ·intro w'
  go_simp
  with_reducible rfl
 rotate_left
 ·simp only [Act.put,List.setIfInBounds_toArray,List.set_cons_zero,List.set_cons_succ,i64_w,i32_w]
  rfl
 refine pure_ (i := 30) (N := (some 0)) (v := ?_) (a' := ?_) #[true,true,true,true,true,true,true,true,true,true,true,true,true,true,true,true,true,true,true,true,true,true,true,true,true,true,true,true,true,true,true] rfl rfl (any_of HT_.out (by kernel_rfl)) (fun _ _ _ h => h) (Or.inl ⟨by rfl,?_⟩) ?_ ?_
 rotate_left
 ·intro w'
  go_simp
  with_reducible rfl
 rotate_left
 ·simp only [Act.put,List.setIfInBounds_toArray,List.set_cons_zero,List.set_cons_succ,i64_w,i32_w]
  rfl
 refine done_ (done_of HT_.out (by kernel_rfl)) ?_
 clear HT_ HW_
 go_wp2
 first | refine bodyPost_ret (results_tmp rfl _ _ _) rfl ?_ | ((try simp only [Exit.inBlock,Exit.then]);refine bodyPost_ret (results_tmp rfl _ _ _) rfl ?_) | (go_wp2;refine bodyPost_ret (results_tmp rfl _ _ _) rfl ?_)
 exact ⟨rfl,hb12.trans hM15.below⟩
end Go.Proofs.YtgdpnmikcopkmaaDoor.U
end
section
namespace Go.Proofs.YtgdpnmikcopkmaaDoor.U
open Go.RowKit Go.Proofs.YtgdpnmikcopkmaaDoor.Mu Go.Proofs.YtgdpnmikcopkmaaDoor.Pu Go.Proofs.YtgdpnmikcopkmaaDoorW.PrintWords Go.Proofs.YtgdpnmikcopkmaaDoorW.PrintLast Go.Proofs.YtgdpnmikcopkmaaDoorW.PrintMore
set_option linter.unusedVariables false
set_option linter.unusedSimpArgs false
/-- Two screens,from one world to another. -/
structure Two (base pa pb : Nat) (w0 : World) (A0 B0 : Nat → Prop) (w : World) (Oa Ob : Nat → Prop) (Sa Sb : Sc × ByteArray) : Prop where
 a : Scr base pa Oa w Sa
 b : Scr base pb Ob w Sb
 ap : Apart pa Oa pb Ob
 sa : ∀ k,Oa k → A0 k ∨ w0.heap.size ≤ k
 sb : ∀ k,Ob k → B0 k ∨ w0.heap.size ≤ k
 below : Below base w0 w
 kept : Kept w0 w (fun k => (A0 k ∨ k = pa) ∨ (B0 k ∨ k = pb))
 bs : base ≤ w.heap.size
section
variable {base pa pb : Nat} {w0 w w1 : World} {A0 B0 Oa Ob O' : Nat → Prop} {Sa Sb S' : Sc × ByteArray}
theorem Two.start (ha : Scr base pa Oa w Sa) (hb : Scr base pb Ob w Sb) (hp : Apart pa Oa pb Ob) (hbs : base ≤ w.heap.size) : Two base pa pb w Oa Ob w Oa Ob Sa Sb :=
 ⟨ha,hb,hp,fun k hk => .inl hk,fun k hk => .inl hk,Below.refl _ _,Kept.refl _ _,hbs⟩
theorem Two.skip (h : Two base pa pb w0 A0 B0 w Oa Ob Sa Sb) (hb : Below w.heap.size w w1) : Two base pa pb w0 A0 B0 w1 Oa Ob Sa Sb :=
 ⟨h.a.below hb,h.b.below hb,h.ap,h.sa,h.sb,h.below.trans (hb.mono h.bs),h.kept.below hb,Nat.le_trans h.bs hb.size⟩
theorem Two.callA (h : Two base pa pb w0 A0 B0 w Oa Ob Sa Sb) (hm : Made base pa Oa O' w w1 S') : Two base pa pb w0 A0 B0 w1 O' Ob S' Sb := by
 obtain ⟨hb,hap⟩ := hm.other h.b h.ap
 exact ⟨hm.scr,hb,hap,fun k hk => (hm.sub k hk).elim (h.sa k) (fun h3 => .inr (Nat.le_trans h.kept.1 h3)),h.sb,h.below.trans hm.below,h.kept.then_ hm.kept (fun k hk => hk.elim (fun h3 => (h.sa k h3).imp (fun h4 => .inl (.inl h4)) id) (fun h3 => .inl (.inl (.inr h3)))),Nat.le_trans h.bs hm.kept.1⟩
theorem Two.callB (h : Two base pa pb w0 A0 B0 w Oa Ob Sa Sb) (hm : Made base pb Ob O' w w1 S') : Two base pa pb w0 A0 B0 w1 Oa O' Sa S' := by
 obtain ⟨ha,hap⟩ := hm.other h.a h.ap.symm
 exact ⟨ha,hm.scr,hap.symm,h.sa,fun k hk => (hm.sub k hk).elim (h.sb k) (fun h3 => .inr (Nat.le_trans h.kept.1 h3)),h.below.trans hm.below,h.kept.then_ hm.kept (fun k hk => hk.elim (fun h3 => (h.sb k h3).imp (fun h4 => .inr (.inl h4)) id) (fun h3 => .inl (.inr (.inr h3)))),Nat.le_trans h.bs hm.kept.1⟩
end
/-- The same bytes,n times. -/
def feedI (S : Sc × ByteArray) (m : ByteArray) : Nat → Sc × ByteArray
 | 0 => S
 | n + 1 => feedS (feedI S m n) m
def sizI (N m : Nat) : Nat → Nat
 | 0 => N
 | n + 1 => sizI N m n + (sizI N m n + m)
theorem fitI {S : Sc × ByteArray} {N : Nat} (h : Fit S N) (m : ByteArray) : ∀ n,Fit (feedI S m n) (sizI N m.size n)
 | 0 => h
 | n + 1 => (fitI h m n).feed m
theorem sizI_le {N m : Nat} : ∀ n,n ≤ 2 → sizI N m n ≤ 4 * N + 3 * m
 | 0,_ => by show N ≤ _;omega
 | 1,_ => by show N + (N + m) ≤ _;omega
 | 2,_ => by show (N + (N + m)) + ((N + (N + m)) + m) ≤ _;omega
 | n + 3,h => by omega
theorem frame_rows {s : Sc} (hO : s.Ok) (n : Int) : (frameL s.rows (s.frameN n)).length ≤ 1099511627776 ∧ ∀ row ∈ frameL s.rows (s.frameN n),row.length ≤ 1099511627776 := by
 refine ⟨by rw [frameL_len];have := hO.h2;unfold Sc.frameN;omega,fun row hr => ?_⟩
 unfold frameL at hr
 obtain ⟨i,_,rfl⟩ := List.mem_map.1 hr
 rw [trimR_len]
 refine Nat.le_trans (trimN_le _ _) ?_
 rw [List.getD_eq_getElem?_getD]
 cases hq : s.rows[i]? with
 | none => exact Nat.zero_le _
 | some r =>
  have := hO.cl r (List.mem_of_getElem? hq)
  have := hO.w2
  show r.length ≤ _
  omega
end Go.Proofs.YtgdpnmikcopkmaaDoor.U
end
section
namespace Go.Proofs.YtgdpnmikcopkmaaDoor.U
open Go.RowKit Go.Proofs.YtgdpnmikcopkmaaDoor.Mu Go.Proofs.YtgdpnmikcopkmaaDoor.Pu Go.Proofs.YtgdpnmikcopkmaaDoorW.PrintWords Go.Proofs.YtgdpnmikcopkmaaDoorW.PrintLast Go.Proofs.YtgdpnmikcopkmaaDoorW.PrintMore
set_option linter.unusedVariables false
set_option linter.unusedSimpArgs false
/-- An escape ends what was begun ahead of it. -/
theorem escJ_esc (x y : ByteArray) (hy : 0 < y.size) (h27 : byt y 0 = 27) : ∀ k k' j,escJ x k j = x.size → j ≤ x.size → x.size ≤ j + k → x.size ≤ j + k' → escJ (x ++ y) k' j = x.size
 | 0,k',j,h,hj,hk,hk' => by
  have e : j = x.size := h
  subst e
  cases k' with
  | zero => rfl
  | succ m =>
   have e0 := byt_append_right x y 0
   rw [Nat.add_zero] at e0
   rw [escJ_succ,if_neg]
   intro h2
   omega
 | k + 1,k',j,h,hj,hk,hk' => by
  rw [escJ_succ] at h
  split at h
  ·rename_i hc
   obtain ⟨m,rfl⟩ : ∃ m,k' = m + 1 := ⟨k' - 1,by omega⟩
   rw [escJ_succ,if_pos ⟨by rw [app_size];omega,by rw [app_byt x y j hc.1];exact hc.2⟩]
   exact escJ_esc x y hy h27 k m (j + 1) h (by omega) (by omega) (by omega)
  ·have e : j = x.size := h
   subst e
   cases k' with
   | zero => rfl
   | succ m =>
    have e0 := byt_append_right x y 0
    rw [Nat.add_zero] at e0
    rw [escJ_succ,if_neg]
    intro h2
    omega
theorem full_esc (x y : ByteArray) (h0 : 0 < x.size) (hy : 0 < y.size) (h27 : byt y 0 = 27) (hf : fullB x = false) : fullB (x ++ y) = true ∧ uN (x ++ y) 0 ≤ x.size := by
 have hs := app_size x y
 have e0 := app_byt x y 0 h0
 have e1 : 1 < x.size → byt (x ++ y) 1 = byt x 1 := app_byt x y 1
 have e2 : 2 < x.size → byt (x ++ y) 2 = byt x 2 := app_byt x y 2
 have er := byt_append_right x y 0
 rw [Nat.add_zero,h27] at er
 have hn : ¬ FullC x.size (byt x 0) (byt x 1) (byt x 2) := fun h => by
  rw [show fullB x = true from (full_iff _ _ _ _ (byt_lt x 0)).2 h] at hf
  cases hf
 have f1 : x.size = 1 → byt (x ++ y) 1 = 27 := fun h => by rw [h] at er;exact er
 have f2 : x.size = 2 → byt (x ++ y) 2 = 27 := fun h => by rw [h] at er;exact er
 have f3 : x.size = 3 → byt (x ++ y) 3 = 27 := fun h => by rw [h] at er;exact er
 have g1 := byt_lt (x ++ y) 1
 have g2 := byt_lt (x ++ y) 2
 have g3 := byt_lt (x ++ y) 3
 refine ⟨(full_iff _ _ _ _ (byt_lt _ 0)).2 ?_,?_⟩
 ·show FullC (x ++ y).size (byt (x ++ y) 0) (byt (x ++ y) 1) (byt (x ++ y) 2)
  unfold FullC at hn ⊢
  rw [e0,hs]
  by_cases h1 : x.size = 1
  ·have := f1 h1;omega
  ·by_cases h2 : x.size = 2
   ·have := f2 h2;have := e1 (by omega);omega
   ·omega
 ·unfold uN
  rw [dec_eq,Nat.sub_zero,Nat.zero_add,Nat.zero_add,Nat.zero_add]
  by_cases h4 : 4 ≤ x.size
  ·have := Lib.decodeN_le4 (x ++ y).size (byt (x ++ y) 0) (byt (x ++ y) 1) (byt (x ++ y) 2) (byt (x ++ y) 3)
   omega
  ·rcases dec_cases (x ++ y).size (byt (x ++ y) 0) (byt (x ++ y) 1) (byt (x ++ y) 2) (byt (x ++ y) 3) (byt_lt _ 0) with A | A | A | A | A
   ·rw [A.2];exact h0
   ·rw [A.2];exact h0
   ·obtain ⟨_,_,_,A4,_,A6⟩ := A
    rw [A6]
    show 2 ≤ x.size
    by_cases h1 : x.size = 1
    ·have := f1 h1;omega
    ·omega
   ·obtain ⟨_,_,_,A4,A5,_,_,A6⟩ := A
    rw [A6]
    show 3 ≤ x.size
    by_cases h1 : x.size = 1
    ·have := f1 h1;omega
    ·by_cases h2 : x.size = 2
     ·have := f2 h2;omega
     ·omega
   ·obtain ⟨_,_,_,A4,A5,A7,_,_,A6⟩ := A
    rw [A6]
    show 4 ≤ x.size
    by_cases h1 : x.size = 1
    ·have := f1 h1;omega
    ·by_cases h2 : x.size = 2
     ·have := f2 h2;omega
     ·have := f3 (by omega);omega
theorem step_esc (s : Sc) (x y : ByteArray) (h0 : 0 < x.size) (hy : 0 < y.size) (h27 : byt y 0 = 27) : (s.step (x ++ y)).2 ≠ 0 ∧ (s.step (x ++ y)).2 ≤ x.size := by
 by_cases hz : (s.step x).2 = 0
 ·have hb := app_byt x y
  have hs := app_size x y
  have er := byt_append_right x y 0
  rw [Nat.add_zero,h27] at er
  unfold Sc.step at hz ⊢
  rw [hb 0 h0]
  split at hz
  ·rename_i h1
   rw [if_pos h1]
   unfold Sc.escape at hz ⊢
   rw [if_neg (show ¬ (x ++ y).size = 1 by omega)]
   by_cases hx1 : x.size = 1
   ·rw [hx1] at er
    rw [if_pos er]
    exact ⟨Nat.one_ne_zero,h0⟩
   ·rw [if_neg hx1] at hz
    rw [hb 1 (by omega)]
    split at hz
    ·cases hz
    ·rename_i h2
     rw [if_neg h2]
     split at hz
     ·cases hz
     ·rename_i h3
      rw [if_neg h3]
      split at hz
      ·rename_i h4
       have he : escE (x ++ y) = x.size := escJ_esc x y hy h27 _ _ 2 h4 (by omega) (by omega) (by omega)
       rw [he,if_neg (by omega),er,if_pos (by omega)]
       exact ⟨by show x.size ≠ 0;omega,Nat.le_refl _⟩
      ·split at hz
       ·have hz : escE x = 0 := hz
        have := (escJ_bd x x.size 2).1
        unfold escE at hz
        omega
       ·cases hz
  ·rename_i h1
   rw [if_neg h1]
   split at hz
   ·cases hz
   ·rename_i h2
    rw [if_neg h2]
    split at hz
    ·rename_i h3
     obtain ⟨f1,f2⟩ := full_esc x y h0 hy h27 h3
     rw [f1,if_neg (by simp)]
     have := uN_pos (x ++ y) 0
     exact ⟨by show uN (x ++ y) 0 ≠ 0;omega,f2⟩
    ·have hz : uN x 0 = 0 := hz
     have := uN_pos x 0
     omega
 ·rw [step_app s x y h0 hz]
  exact ⟨hz,step_le s x h0⟩
/-- A step keeps the measures. -/
structure Kin (s t : Sc) : Prop where
 w : t.w = s.w
 h : t.h = s.h
theorem Kin.refl (s : Sc) : Kin s s := ⟨rfl,rfl⟩
theorem Kin.trans {s t u : Sc} (a : Kin s t) (b : Kin t u) : Kin s u := ⟨b.w.trans a.w,b.h.trans a.h⟩
theorem kin_down (s : Sc) : Kin s s.down := by
 unfold Sc.down;repeat' split
 all_goals exact ⟨rfl,rfl⟩
theorem kin_clrR (s : Sc) (i col : Nat) : Kin s (s.clrR i col) := by unfold Sc.clrR;split <;> exact ⟨rfl,rfl⟩
theorem kin_write (s : Sc) (t : ByteArray) (n : Nat) : Kin s (s.write t n) := by
 have := kin_down s
 unfold Sc.write
 dsimp only
 split <;> split <;> first | exact ⟨rfl,rfl⟩ | exact ⟨this.w,this.h⟩
theorem kin_mark (s : Sc) (t : ByteArray) : Kin s (s.mark t) := by unfold Sc.mark;split <;> exact ⟨rfl,rfl⟩
theorem kin_control (s : Sc) (b : Nat) : Kin s (s.control b) := by
 unfold Sc.control
 dsimp only
 repeat' split
 ·exact ⟨rfl,rfl⟩
 ·have := kin_down { s with full := false,marks := false };exact ⟨this.w,this.h⟩
 ·exact ⟨rfl,rfl⟩
 ·exact ⟨rfl,rfl⟩
theorem kin_carry (s : Sc) (e : Nat) (l : List Int) (ok : Bool) : Kin s (s.carry e l ok) := by
 have := kin_clrR s s.r s.c
 unfold Sc.carry
 dsimp only
 repeat' split
 all_goals first | exact ⟨rfl,rfl⟩ | exact ⟨this.w,this.h⟩
theorem kin_escape (s : Sc) (all : ByteArray) : Kin s (s.escape all).1 := by
 unfold Sc.escape
 repeat' split
 all_goals first | exact ⟨rfl,rfl⟩ | (have := kin_carry { s with marks := false } (byt all (escE all)) (numsL (all.extract 2 (escE all))) (numsB (all.extract 2 (escE all)));exact ⟨this.w,this.h⟩)
theorem kin_unit (s : Sc) (cl : Int) (t : ByteArray) : Kin s (s.unit cl t) := by
 unfold Sc.unit
 repeat' split
 all_goals first | exact kin_mark s _ | exact kin_write s _ _ | exact ⟨rfl,rfl⟩
theorem kin_step (s : Sc) (all : ByteArray) : Kin s (s.step all).1 := by
 unfold Sc.step
 repeat' split
 all_goals first | exact kin_escape s _ | exact kin_control s _ | exact kin_unit s _ _ | exact ⟨rfl,rfl⟩
theorem kin_feedN : ∀ k (s : Sc) all,Kin s (Sc.feedN k s all).1
 | 0,s,all => ⟨rfl,rfl⟩
 | k + 1,s,all => by
  unfold Sc.feedN
  split
  ·exact ⟨rfl,rfl⟩
  split
  ·exact kin_step s all
  ·exact (kin_step s all).trans (kin_feedN k _ _)
/-- Whatever came: at an escape,a step begins. -/
theorem feed_esc (y : ByteArray) (hy : 0 < y.size) (h27 : byt y 0 = 27) : ∀ (n : Nat) (s : Sc) (x : ByteArray),x.size ≤ n → s.Ok → ∃ t : Sc,t.Ok ∧ Kin s t ∧ Sc.feedN (x ++ y).size s (x ++ y) = Sc.feedN y.size t y
 | 0,s,x,h,hO => by
  have e : x = ⟨#[]⟩ := by
   apply ByteArray.ext
   exact Array.eq_empty_of_size_eq_zero (by have : x.size = x.data.size := rfl;omega)
  subst e
  have e2 : (⟨#[]⟩ : ByteArray) ++ y = y := by
   apply ByteArray.ext
   simp
  rw [e2]
  exact ⟨s,hO,Kin.refl s,rfl⟩
 | n + 1,s,x,h,hO => by
  by_cases h0 : x.size = 0
  ·exact feed_esc y hy h27 n s x (by omega) hO
  ·obtain ⟨h1,h2⟩ := step_esc s x y (by omega) hy h27
   have hs := app_size x y
   obtain ⟨t,ht1,ht2,ht3⟩ := feed_esc y hy h27 n (s.step (x ++ y)).1 (x.extract (s.step (x ++ y)).2 x.size) (by rw [size_extract _ _ _ (Nat.le_refl _)];omega) (hO.step _)
   refine ⟨t,ht1,(kin_step s _).trans ht2,?_⟩
   rw [← ht3]
   obtain ⟨m,hm⟩ : ∃ m,(x ++ y).size = m + 1 := ⟨(x ++ y).size - 1,by omega⟩
   conv => lhs;rw [hm]
   rw [show Sc.feedN (m + 1) s (x ++ y) = Sc.feedN m (s.step (x ++ y)).1 ((x ++ y).extract (s.step (x ++ y)).2 (x ++ y).size) by rw [Sc.feedN,if_neg (by omega),if_neg h1]]
   rw [ext_cut x y _ h2]
   refine feedN_fuel _ _ _ _ ?_ (Nat.le_refl _)
   rw [app_size,size_extract _ _ _ (Nat.le_refl _)]
   omega
end Go.Proofs.YtgdpnmikcopkmaaDoor.U
end
section
namespace Go.Proofs.YtgdpnmikcopkmaaDoor.U
open Go.RowKit Go.Proofs.YtgdpnmikcopkmaaDoor.Mu Go.Proofs.YtgdpnmikcopkmaaDoor.Pu Go.Proofs.YtgdpnmikcopkmaaDoorW.PrintWords Go.Proofs.YtgdpnmikcopkmaaDoorW.PrintLast Go.Proofs.YtgdpnmikcopkmaaDoorW.PrintMore
set_option linter.unusedVariables false
set_option linter.unusedSimpArgs false
theorem rw_nil (rows : List (List Cl)) (i : Nat) (h : rows.length ≤ i) : rows.getD i [] = [] := by
 rw [List.getD_eq_getElem?_getD,List.getElem?_eq_none h]
 rfl
theorem rw_set (rows : List (List Cl)) (i : Nat) (x : List Cl) (j : Nat) (h : i < rows.length) : (rows.set i x).getD j [] = if j = i then x else rows.getD j [] := by
 rw [List.getD_eq_getElem?_getD,List.getD_eq_getElem?_getD]
 by_cases hj : j = i
 ·subst hj
  rw [if_pos rfl,List.getElem?_set_self h]
  rfl
 ·rw [if_neg hj,List.getElem?_set_ne (fun e => hj e.symm)]
theorem rw_more (rows : List (List Cl)) (n j : Nat) : (rows ++ List.replicate n []).getD j [] = rows.getD j [] := by
 rw [List.getD_eq_getElem?_getD,List.getD_eq_getElem?_getD]
 by_cases hj : j < rows.length
 ·rw [List.getElem?_append_left hj]
 ·rw [List.getElem?_append_right (by omega),List.getElem?_eq_none (l := rows) (by omega),List.getElem?_replicate]
  split <;> rfl
theorem rw_drop (rows : List (List Cl)) (j : Nat) : (rows.drop 1).getD j [] = rows.getD (j + 1) [] := by
 rw [List.getD_eq_getElem?_getD,List.getD_eq_getElem?_getD,List.getElem?_drop,Nat.add_comm 1 j]
theorem rw_take (rows : List (List Cl)) (n j : Nat) : (rows.take n).getD j [] = if j < n then rows.getD j [] else [] := by
 rw [List.getD_eq_getElem?_getD,List.getD_eq_getElem?_getD,List.getElem?_take]
 split <;> rfl
/-- The same look: the same but for empty rows at the end,and for where a mark would go when none may. -/
def Eqv (s t : Sc) : Prop := ∃ R L C,t = { s with rows := R,lr := L,lc := C } ∧ (s.marks = true → L = s.lr ∧ C = s.lc) ∧ ∀ i,R.getD i [] = s.rows.getD i []
theorem Eqv.refl (s : Sc) : Eqv s s := ⟨s.rows,s.lr,s.lc,rfl,fun _ => ⟨rfl,rfl⟩,fun _ => rfl⟩
theorem clrR_alt (s : Sc) (i col : Nat) : s.clrR i col = if (s.rows.getD i []).length ≤ col then s else { s with rows := s.rows.set i ((clrH (s.rows.getD i []) col).take col) } := by
 unfold Sc.clrR
 by_cases h : (s.rows.getD i []).length ≤ col
 ·rw [if_pos h,if_pos (.inr h)]
 ·rw [if_neg h,if_neg]
  intro h2
  rcases h2 with h2 | h2
  ·rw [rw_nil _ _ h2] at h
   exact h (Nat.zero_le _)
  ·exact h h2
theorem rw_lt (rows : List (List Cl)) (i col : Nat) (h : ¬ (rows.getD i []).length ≤ col) : i < rows.length := by
 rcases Nat.lt_or_ge i rows.length with h2 | h2
 ·exact h2
 ·rw [rw_nil _ _ h2] at h
  exact absurd (Nat.zero_le _) h
theorem Eqv.clrR {s t : Sc} (h : Eqv s t) (i col : Nat) : Eqv (s.clrR i col) (t.clrR i col) := by
 obtain ⟨R,L,C,rfl,hm,hg⟩ := h
 rw [clrR_alt,clrR_alt]
 dsimp only
 rw [hg i]
 split
 ·exact ⟨R,L,C,rfl,hm,hg⟩
 ·rename_i hc
  have hc2 : ¬ (R.getD i []).length ≤ col := by rw [hg i];exact hc
  refine ⟨_,L,C,rfl,hm,fun j => ?_⟩
  show (R.set i _).getD j [] = (s.rows.set i _).getD j []
  rw [rw_set _ _ _ _ (rw_lt _ _ _ hc),rw_set _ _ _ _ (rw_lt _ _ _ hc2),hg j]
theorem down_alt (s : Sc) : s.down = if s.r + 1 < s.h then { s with r := s.r + 1 } else { s with rows := if s.rows.length = s.h then s.rows.drop 1 ++ [[]] else s.rows.drop 1 } := by
 unfold Sc.down
 split
 ·rfl
 ·split <;> rfl
theorem rw_down (rows : List (List Cl)) (h j : Nat) : (if rows.length = h then rows.drop 1 ++ [[]] else rows.drop 1).getD j [] = rows.getD (j + 1) [] := by
 split
 ·rw [show rows.drop 1 ++ [[]] = rows.drop 1 ++ List.replicate 1 [] from rfl,rw_more,rw_drop]
 ·rw [rw_drop]
theorem Eqv.down {s t : Sc} (h : Eqv s t) : Eqv s.down t.down := by
 obtain ⟨R,L,C,rfl,hm,hg⟩ := h
 rw [down_alt,down_alt]
 dsimp only
 split
 ·exact ⟨R,L,C,rfl,hm,hg⟩
 ·refine ⟨_,L,C,rfl,hm,fun j => ?_⟩
  show (if R.length = s.h then R.drop 1 ++ [[]] else R.drop 1).getD j [] = (if s.rows.length = s.h then s.rows.drop 1 ++ [[]] else s.rows.drop 1).getD j []
  rw [rw_down,rw_down,hg]
theorem Eqv.at_ {s t : Sc} (h : Eqv s t) (r c : Nat) (full : Bool) : Eqv { s with r := r,c := c,full := full } { t with r := r,c := c,full := full } := by
 obtain ⟨R,L,C,rfl,hm,hg⟩ := h
 exact ⟨R,L,C,rfl,hm,hg⟩
theorem Eqv.unmark {s t : Sc} (h : Eqv s t) : Eqv { s with marks := false } { t with marks := false } := by
 obtain ⟨R,L,C,rfl,hm,hg⟩ := h
 exact ⟨R,L,C,rfl,(fun hq => by cases hq),hg⟩
theorem Eqv.fields {s t : Sc} (h : Eqv s t) : t.w = s.w ∧ t.h = s.h ∧ t.r = s.r ∧ t.c = s.c ∧ t.full = s.full ∧ t.marks = s.marks := by
 obtain ⟨R,L,C,rfl,hm,hg⟩ := h
 exact ⟨rfl,rfl,rfl,rfl,rfl,rfl⟩
def Sc.front (s : Sc) (span : Nat) : Sc := if s.full = true ∨ (span = 2 ∧ s.c + 1 = s.w) then { s.down with c := 0,full := false } else s
def Sc.put (s : Sc) (t : ByteArray) (span : Nat) : Sc := { s with rows := (padR s.rows (s.r + 1)).set s.r (putC ((padR s.rows (s.r + 1)).getD s.r []) s.c span t),lr := s.r,lc := s.c,marks := true }
theorem write_alt (s : Sc) (t : ByteArray) (span : Nat) : s.write t span = if s.w ≤ (Sc.front s span).c + span then { Sc.put (Sc.front s span) t span with c := s.w - 1,full := true } else { Sc.put (Sc.front s span) t span with c := (Sc.front s span).c + span } := rfl
theorem Eqv.front {s t : Sc} (h : Eqv s t) (span : Nat) : Eqv (Sc.front s span) (Sc.front t span) := by
 obtain ⟨h1,h2,h3,h4,h5,h6⟩ := h.fields
 unfold Sc.front
 rw [h5,h4,h1]
 split
 ·have h7 := h.down
  obtain ⟨R,L,C,e,hm,hg⟩ := h7
  rw [e]
  exact ⟨R,L,C,rfl,hm,hg⟩
 ·exact h
theorem Eqv.put {s t : Sc} (h : Eqv s t) (x : ByteArray) (span : Nat) : Eqv (Sc.put s x span) (Sc.put t x span) := by
 obtain ⟨R,L,C,rfl,hm,hg⟩ := h
 refine ⟨_,_,_,rfl,fun _ => ⟨rfl,rfl⟩,fun j => ?_⟩
 show ((padR R (s.r + 1)).set s.r (putC ((padR R (s.r + 1)).getD s.r []) s.c span x)).getD j [] = ((padR s.rows (s.r + 1)).set s.r (putC ((padR s.rows (s.r + 1)).getD s.r []) s.c span x)).getD j []
 rw [rw_set _ _ _ _ (by rw [padR_length];omega),rw_set _ _ _ _ (by rw [padR_length];omega)]
 unfold padR
 rw [rw_more,rw_more,rw_more,rw_more,hg,hg]
theorem Eqv.write {s t : Sc} (h : Eqv s t) (x : ByteArray) (span : Nat) : Eqv (s.write x span) (t.write x span) := by
 have h1 := (h.front span).put x span
 obtain ⟨f1,f2,f3,f4,f5,f6⟩ := h.fields
 obtain ⟨g1,g2,g3,g4,g5,g6⟩ := (h.front span).fields
 rw [write_alt,write_alt,f1,g4]
 obtain ⟨R,L,C,e,hm,hg⟩ := h1
 rw [e]
 split
 ·exact ⟨R,L,C,rfl,hm,hg⟩
 ·exact ⟨R,L,C,rfl,hm,hg⟩
theorem Eqv.mark {s t : Sc} (h : Eqv s t) (hs : s.Ok) (ht : t.Ok) (x : ByteArray) : Eqv (s.mark x) (t.mark x) := by
 obtain ⟨R,L,C,rfl,hm,hg⟩ := h
 unfold Sc.mark
 dsimp only
 split
 ·rename_i hk
  obtain ⟨rfl,rfl⟩ := hm hk
  refine ⟨_,_,_,rfl,fun _ => ⟨rfl,rfl⟩,fun j => ?_⟩
  have h1 := (hs.ma hk).1
  have h2 : s.lr < R.length := (ht.ma hk).1
  show (R.set s.lr _).getD j [] = (s.rows.set s.lr _).getD j []
  rw [rw_set _ _ _ _ h1,rw_set _ _ _ _ h2,hg,hg]
 ·exact ⟨R,L,C,rfl,hm,hg⟩
theorem Eqv.control {s t : Sc} (h : Eqv s t) (b : Nat) : Eqv (s.control b) (t.control b) := by
 have h1 : Eqv { s with full := false,marks := false } { t with full := false,marks := false } := by
  obtain ⟨R,L,C,rfl,hm,hg⟩ := h
  exact ⟨R,L,C,rfl,(fun hq => by cases hq),hg⟩
 unfold Sc.control
 dsimp only
 by_cases h8 : b = 8
 ·rw [if_pos h8,if_pos h8]
  obtain ⟨R,L,C,rfl,hm,hg⟩ := h
  exact ⟨R,L,C,rfl,(fun hq => by cases hq),hg⟩
 rw [if_neg h8,if_neg h8]
 by_cases h10 : b = 10
 ·rw [if_pos h10,if_pos h10]
  exact h1.down
 rw [if_neg h10,if_neg h10]
 by_cases h13 : b = 13
 ·rw [if_pos h13,if_pos h13]
  obtain ⟨R,L,C,rfl,hm,hg⟩ := h
  exact ⟨R,L,C,rfl,(fun hq => by cases hq),hg⟩
 rw [if_neg h13,if_neg h13]
 exact h1
theorem Eqv.carry {s t : Sc} (h : Eqv s t) (e : Nat) (l : List Int) (ok : Bool) : Eqv (s.carry e l ok) (t.carry e l ok) := by
 obtain ⟨f1,f2,f3,f4,f5,f6⟩ := h.fields
 have h1 := h.clrR s.r s.c
 unfold Sc.carry
 dsimp only
 rw [f1,f2,f3,f4]
 split
 ·split
  ·obtain ⟨R,L,C,e,hm,hg⟩ := h1
   rw [e]
   refine ⟨_,L,C,rfl,hm,fun j => ?_⟩
   show (R.take _).getD j [] = ((s.clrR s.r s.c).rows.take _).getD j []
   rw [rw_take,rw_take,hg]
  ·exact h
 split
 ·split
  ·exact h1
  ·exact h
 split
 ·exact h
 split
 ·obtain ⟨R,L,C,rfl,hm,hg⟩ := h
  exact ⟨R,L,C,rfl,hm,hg⟩
 ·obtain ⟨R,L,C,rfl,hm,hg⟩ := h
  exact ⟨R,L,C,rfl,hm,hg⟩
theorem Eqv.escape {s t : Sc} (h : Eqv s t) (all : ByteArray) : Eqv (s.escape all).1 (t.escape all).1 ∧ (t.escape all).2 = (s.escape all).2 := by
 have h1 := h.unmark
 unfold Sc.escape
 repeat' split
 all_goals first | exact ⟨h,rfl⟩ | exact ⟨h1,rfl⟩ | exact ⟨h1.carry _ _ _,rfl⟩
theorem Eqv.unit {s t : Sc} (h : Eqv s t) (hs : s.Ok) (ht : t.Ok) (cl : Int) (x : ByteArray) : Eqv (s.unit cl x) (t.unit cl x) := by
 obtain ⟨f1,f2,f3,f4,f5,f6⟩ := h.fields
 unfold Sc.unit
 rw [f1]
 repeat' split
 all_goals first | exact h.mark hs ht _ | exact h.write _ _ | skip
 obtain ⟨R,L,C,rfl,hm,hg⟩ := h
 exact ⟨R,L,C,rfl,(fun hq => by cases hq),hg⟩
theorem Eqv.step {s t : Sc} (h : Eqv s t) (hs : s.Ok) (ht : t.Ok) (all : ByteArray) : Eqv (s.step all).1 (t.step all).1 ∧ (t.step all).2 = (s.step all).2 := by
 unfold Sc.step
 split
 ·exact h.escape all
 split
 ·exact ⟨h.control _,rfl⟩
 split
 ·exact ⟨h,rfl⟩
 ·exact ⟨h.unit hs ht _ _,rfl⟩
theorem Eqv.feedN : ∀ (k : Nat) {s t : Sc} (h : Eqv s t) (hs : s.Ok) (ht : t.Ok) (all : ByteArray),Eqv (Sc.feedN k s all).1 (Sc.feedN k t all).1 ∧ (Sc.feedN k t all).2 = (Sc.feedN k s all).2
 | 0,s,t,h,hs,ht,all => ⟨h,rfl⟩
 | k + 1,s,t,h,hs,ht,all => by
  obtain ⟨h1,h2⟩ := h.step hs ht all
  unfold Sc.feedN
  rw [h2]
  split
  ·exact ⟨h,rfl⟩
  split
  ·exact ⟨h1,rfl⟩
  ·exact Eqv.feedN k h1 (hs.step all) (ht.step all) _
structure EqvS (S T : Sc × ByteArray) : Prop where
 s : Eqv S.1 T.1
 held : T.2 = S.2
 o1 : S.1.Ok
 o2 : T.1.Ok
theorem EqvS.feed {S T : Sc × ByteArray} (h : EqvS S T) (b : ByteArray) : EqvS (feedS S b) (feedS T b) := by
 have h1 := Eqv.feedN (S.2 ++ b).size h.s h.o1 h.o2 (S.2 ++ b)
 refine ⟨?_,?_,feedS_ok h.o1 b,feedS_ok h.o2 b⟩
 ·unfold feedS;rw [h.held];exact h1.1
 ·unfold feedS;rw [h.held];exact h1.2
/-- What is seen is the same. -/
theorem lastN_more (rows : List (List Cl)) : ∀ k,lastN rows (rows.length + k) = lastN rows rows.length
 | 0 => rfl
 | k + 1 => by
  show (if (trimR (rows.getD (rows.length + k) [])).length = 0 then lastN rows (rows.length + k) else _) = _
  rw [rw_nil _ _ (by omega),if_pos (by rfl),lastN_more rows k]
theorem lastN_eq {rows R : List (List Cl)} (h : ∀ i,R.getD i [] = rows.getD i []) : ∀ n,lastN R n = lastN rows n
 | 0 => rfl
 | n + 1 => by
  unfold lastN
  rw [h n,lastN_eq h n]
theorem Eqv.nrows {s t : Sc} (h : Eqv s t) : t.nrows = s.nrows := by
 obtain ⟨R,L,C,rfl,hm,hg⟩ := h
 show max (lastN R R.length) (s.r + 1) = max (lastN s.rows s.rows.length) (s.r + 1)
 have h1 := lastN_more R s.rows.length
 have h2 := lastN_more s.rows R.length
 rw [lastN_eq hg,Nat.add_comm] at h1
 rw [← h1,h2]
theorem Eqv.frames {s t : Sc} (h : Eqv s t) (n : Int) : frameL t.rows (t.frameN n) = frameL s.rows (s.frameN n) := by
 obtain ⟨R,L,C,rfl,hm,hg⟩ := h
 unfold frameL
 show List.map _ (List.range (s.frameN n)) = _
 congr 1
 funext i
 rw [hg i]
end Go.Proofs.YtgdpnmikcopkmaaDoor.U
end
section
namespace Go.Proofs.YtgdpnmikcopkmaaDoor.U
open Go.RowKit Go.Proofs.YtgdpnmikcopkmaaDoor.Mu Go.Proofs.YtgdpnmikcopkmaaDoor.Pu Go.Proofs.YtgdpnmikcopkmaaDoorW.PrintWords Go.Proofs.YtgdpnmikcopkmaaDoorW.PrintLast Go.Proofs.YtgdpnmikcopkmaaDoorW.PrintMore
set_option linter.unusedVariables false
set_option linter.unusedSimpArgs false
theorem EqvS.many {S T : Sc × ByteArray} (h : EqvS S T) (b : ByteArray) : ∀ n,EqvS (feedI S b n) (feedI T b n)
 | 0 => h
 | n + 1 => (EqvS.many h b n).feed b
section
variable {base p : Nat} {O : Nat → Prop} {w : World} {S S2 : Sc × ByteArray}
theorem scr_rows' (h : Scr base p O w S2) (hb : base ≤ w.heap.size) (he : EqvS S S2) :
  Calls Tryd.prog 21 #[.pointer (some ⟨p,0,none⟩)] w fun e w' => e = .returned (.int .i64 (S.1.nrows : Nat)) ∧ Made base p O O w w' S2 :=
 (scr_rows h hb he.o2).mono fun e w' hh => by rw [he.s.nrows] at hh;exact hh
theorem scr_frame' (h : Scr base p O w S2) (hb : base ≤ w.heap.size) (he : EqvS S S2) (n : Int) :
  Calls Tryd.prog 20 #[.pointer (some ⟨p,0,none⟩),.int .i64 n] w fun e w' => ∃ rv,e = .returned (.agg #[.int .i64 S.1.w,rv,.int .i64 S.1.r,.int .i64 S.1.c]) ∧ Kd.S kRow 36 w' w.heap.size (fun k => w.heap.size ≤ k) rv (frameL S.1.rows (S.1.frameN n)) ∧ Made base p O O w w' S2 :=
 (scr_frame h hb he.o2 n).mono fun e w' hh => by
  obtain ⟨h1,h2,h3,h4,h5,h6⟩ := he.s.fields
  rw [he.s.frames n,h1,h3,h4] at hh
  exact hh
theorem scr_held' (h : Scr base p O w S2) (hb : base ≤ w.heap.size) (he : EqvS S S2) : Calls Tryd.prog 24 #[.pointer (some ⟨p,0,none⟩)] w fun e w' => e = .returned (.int .i64 (S.2.size : Nat)) ∧ Below w.heap.size w w' :=
 (scr_held h hb).mono fun e w' hh => by rw [he.held] at hh;exact hh
theorem scr_full' (h : Scr base p O w S2) (hb : base ≤ w.heap.size) (he : EqvS S S2) : Calls Tryd.prog 25 #[.pointer (some ⟨p,0,none⟩)] w fun e w' => e = .returned (.bool S.1.full) ∧ Below w.heap.size w w' :=
 (scr_full h hb).mono fun e w' hh => by rw [he.s.fields.2.2.2.2.1] at hh;exact hh
end
set_option maxRecDepth 100000 in
set_option maxHeartbeats 8000000 in
theorem law_alike {base pa pb : Nat} {w0 : World} {A0 B0 : Nat → Prop} {S S2 : Sc × ByteArray} (he0 : EqvS S S2) (h : Two base pa pb w0 A0 B0 w0 A0 B0 S S2) (h2 : 2 ≤ base) (hT : Lib.Utf8Tabs 0 1 w0) {N : Nat} (hf0 : Fit S N) (hf02 : Fit S2 N) (more : ByteArray) (hz : 4 * N + 4 * more.size ≤ 549755813888) :
  Calls Tryd.prog 23 #[.pointer (some ⟨pa,0,none⟩),.pointer (some ⟨pb,0,none⟩),.string more] w0 fun e w' => e = .returned (.bool true) ∧ ∃ Oa Ob,Two base pa pb w0 A0 B0 w' Oa Ob (feedI S more 2) (feedI S2 more 2) := by
 go_enter Tryd.func23,Tryd.ntmps23
 go_wp2_with (fail)
 go_loopw [7] (fun v wr => ∃ (i : Nat) (Oa Ob : Nat → Prop),v = .int .i64 i ∧ i ≤ 2 ∧ Two base pa pb w0 A0 B0 wr Oa Ob (feedI S more i) (feedI S2 more i)) (fun v _ => 2 - (intOf v).toNat)
 case atStart => exact ⟨0,A0,B0,rfl,Nat.zero_le _,h⟩
 case round =>
  obtain ⟨i,Oa,Ob,rfl,hi,hP0⟩ := hrel
  clear h
  by_cases hlt : i < 2
  ·have hlt' : (i : Int) < 2 := by omega
   have hf := fitI hf0 more i
   have hsz := sizI_le (N := N) (m := more.size) i (by omega)
   have hnx : feedS (feedI S more i) more = feedI S more (i + 1) := rfl
   have hf2 := fitI hf02 more i
   have hnx2 : feedS (feedI S2 more i) more = feedI S2 more (i + 1) := rfl
   have heI := he0.many more i
   generalize feedI S2 more i = T2 at hP0 hf2 hnx2 heI
   generalize feedI S more i = T at hP0 hf hnx heI
   generalize sizI N more.size i = M at hf hf2 hsz
   obtain ⟨hr1,hr2⟩ := frame_rows hf.ok (T.1.nrows : Int)
   obtain ⟨kS,hSF'⟩ := sframe_refl T.1.w T.1.r T.1.c _ hr1 hr2
   have hSF := hSF' kS (Nat.le_refl _)
   clear hSF' hr1 hr2
   generalize hFL : frameL T.1.rows (T.1.frameN T.1.nrows) = FL at hSF
   have hFLH := Lib.hid hFL
   clear hFL
   go_wp2_with (first | (go_at_call 16;refine (scr_feed hP12.b hP12.bs h2 (tabs_base hT hP12.below h2) hf2 more (by omega)).mono ?_;rintro e w13 ⟨rfl,O13,hM⟩;have hP13 := hP12.callB hM;clear hP12 hM) | (go_at_call 16;refine (scr_feed hP11.a hP11.bs h2 (tabs_base hT hP11.below h2) hf more (by omega)).mono ?_;rintro e w12 ⟨rfl,O12,hM⟩;have hP12 := hP11.callA hM;clear hP11 hM) | (go_at_call 29;refine (bodkinref22_SameFrame.calls kS _ FA fc _ _ _ _ GA gc _ _ _ true _ (Kd.S_reads' hF10).2.2 (Kd.S_reads' hF10).2.1 (Kd.S_reads' hG10).2.2 (Kd.S_reads' hG10).2.1 hSF).mono ?_;rintro e w11 ⟨rfl,hb⟩;have hP11 := hP10.skip hb;clear hP10 hb hF10 hG10) | (go_at_call 20;refine (scr_frame' hP9.b hP9.bs heI _).mono ?_;rintro e w10 ⟨rv10,rfl,hG10,hM⟩;rw [hFLH.out] at hG10;have hP10 := hP9.callB hM;have hF10 := Kd.S_kept hF9 hM.kept (fun k hk he => he.elim (fun h => by have := hs7' k h;omega) (fun h => by omega));obtain ⟨GA,gc,rfl⟩ := Kd.R_slice (Kd.S_R hG10);clear hP9 hM hF9) | (go_at_call 21;refine (scr_rows' hP8.b hP8.bs heI).mono ?_;rintro e w9 ⟨rfl,hM⟩;have hP9 := hP8.callB hM;have hF9 := Kd.S_kept hF8 hM.kept (fun k hk he => he.elim (fun h => by have := hs7' k h;omega) (fun h => by omega));clear hF8;clear hP8 hM) | (go_at_call 20;refine (scr_frame hP7.a hP7.bs hf.ok _).mono ?_;rintro e w8 ⟨rv8,rfl,hF8,hM⟩;rw [hFLH.out] at hF8;have hP8 := hP7.callA hM;have hs7 := hP7.b.lt;have hs7' := hP7.b.bd;have hs7a := hP7.a.lt;have hs7b := hP7.a.bd;have hs78 := hM.kept.1;obtain ⟨FA,fc,rfl⟩ := Kd.R_slice (Kd.S_R hF8);clear hP7 hM) | (go_at_call 21;refine (scr_rows hP6.a hP6.bs hf.ok).mono ?_;rintro e w7 ⟨rfl,hM⟩;have hP7 := hP6.callA hM;clear hP6 hM) | (go_at_call 21;refine (scr_rows' hP5.b hP5.bs heI).mono ?_;rintro e w6 ⟨rfl,hM⟩;have hP6 := hP5.callB hM;clear hP5 hM) | (go_at_call 21;refine (scr_rows hP4.a hP4.bs hf.ok).mono ?_;rintro e w5 ⟨rfl,hM⟩;have hP5 := hP4.callA hM;clear hP4 hM) | (go_at_call 25;refine (scr_full' hP3.b hP3.bs heI).mono ?_;rintro e w4 ⟨rfl,hb⟩;have hP4 := hP3.skip hb;clear hP3 hb) | (go_at_call 25;refine (scr_full hP2.a hP2.bs).mono ?_;rintro e w3 ⟨rfl,hb⟩;have hP3 := hP2.skip hb;clear hP2 hb) | (go_at_call 24;refine (scr_held' hP1.b hP1.bs heI).mono ?_;rintro e w2 ⟨rfl,hb⟩;have hP2 := hP1.skip hb;clear hP1 hb) | (go_at_call 24;refine (scr_held hP0.a hP0.bs).mono ?_;rintro e w1 ⟨rfl,hb⟩;have hP1 := hP0.skip hb;clear hP0 hb))
   rw [hnx,hnx2] at hP13
   go_roundw
   case rel => exact ⟨i + 1,_,_,by go_num,by omega,hP13⟩
   case measure => simp [intOf];omega
  ·have hie : i = 2 := by omega
   subst hie
   go_wp2
   go_ret
   exact ⟨rfl,Oa,Ob,hP0⟩
end Go.Proofs.YtgdpnmikcopkmaaDoor.U
end
section
namespace Go.Proofs.YtgdpnmikcopkmaaDoor.U
open Go.RowKit Go.Proofs.YtgdpnmikcopkmaaDoor.Mu Go.Proofs.YtgdpnmikcopkmaaDoor.Pu Go.Proofs.YtgdpnmikcopkmaaDoorW.PrintWords Go.Proofs.YtgdpnmikcopkmaaDoorW.PrintLast Go.Proofs.YtgdpnmikcopkmaaDoorW.PrintMore
set_option linter.unusedVariables false
set_option linter.unusedSimpArgs false
/-- Three screens. -/
structure Three (base pa pb pc : Nat) (w0 w : World) (Oa Ob Oc : Nat → Prop) (Sa Sb Sc' : Sc × ByteArray) : Prop where
 a : Scr base pa Oa w Sa
 b : Scr base pb Ob w Sb
 c : Scr base pc Oc w Sc'
 ab : Apart pa Oa pb Ob
 ac : Apart pa Oa pc Oc
 bc : Apart pb Ob pc Oc
 below : Below base w0 w
 bs : base ≤ w.heap.size
section
variable {base pa pb pc : Nat} {w0 w w1 : World} {Oa Ob Oc O' : Nat → Prop} {Sa Sb Sc' S' : Sc × ByteArray}
theorem Three.callA (h : Three base pa pb pc w0 w Oa Ob Oc Sa Sb Sc') (hm : Made base pa Oa O' w w1 S') : Three base pa pb pc w0 w1 O' Ob Oc S' Sb Sc' := by
 obtain ⟨hb,hab⟩ := hm.other h.b h.ab
 obtain ⟨hc,hac⟩ := hm.other h.c h.ac
 exact ⟨hm.scr,hb,hc,hab,hac,h.bc,h.below.trans hm.below,Nat.le_trans h.bs hm.kept.1⟩
theorem Three.callB (h : Three base pa pb pc w0 w Oa Ob Oc Sa Sb Sc') (hm : Made base pb Ob O' w w1 S') : Three base pa pb pc w0 w1 Oa O' Oc Sa S' Sc' := by
 obtain ⟨ha,hab⟩ := hm.other h.a h.ab.symm
 obtain ⟨hc,hbc⟩ := hm.other h.c h.bc
 exact ⟨ha,hm.scr,hc,hab.symm,h.ac,hbc,h.below.trans hm.below,Nat.le_trans h.bs hm.kept.1⟩
end
theorem tabs_two {w : World} (hT : Lib.Utf8Tabs 0 1 w) : 2 ≤ w.heap.size := by
 have := World.block_lt_of_cell? w _ (hT.2 0 (by decide)).1
 exact this
end Go.Proofs.YtgdpnmikcopkmaaDoor.U
end
section
namespace Go.Proofs.YtgdpnmikcopkmaaDoor.U
open Go.RowKit Go.Proofs.YtgdpnmikcopkmaaDoor.Mu Go.Proofs.YtgdpnmikcopkmaaDoor.Pu Go.Proofs.YtgdpnmikcopkmaaDoorW.PrintWords Go.Proofs.YtgdpnmikcopkmaaDoorW.PrintLast Go.Proofs.YtgdpnmikcopkmaaDoorW.PrintMore
set_option linter.unusedVariables false
set_option linter.unusedSimpArgs false
def homeS : ByteArray := ⟨#[27,91,72]⟩
def clearS : ByteArray := ⟨#[27,91,74]⟩
def wipeS : ByteArray := ⟨#[27,91,72,27,91,74]⟩
theorem feedN_nil (k : Nat) (s : Sc) (all : ByteArray) (h : all.size = 0) : Sc.feedN k s all = (s,all) := by
 cases k with
 | zero => rfl
 | succ k => unfold Sc.feedN;rw [if_pos h]
theorem feedN_on (k : Nat) (s : Sc) (all : ByteArray) (h0 : all.size ≠ 0) (h : (s.step all).2 ≠ 0) : Sc.feedN (k + 1) s all = Sc.feedN k (s.step all).1 (all.extract (s.step all).2 all.size) := by
 rw [Sc.feedN,if_neg h0,if_neg h]
theorem step_seq (s : Sc) (all : ByteArray) (e : Nat) (h0 : byt all 0 = 27) (h1 : byt all 1 = 91) (hj : escE all = 2) (hz : 2 < all.size) (he : byt all 2 = e) (he1 : 64 ≤ e) (he2 : e ≤ 126) (hn : numsL (all.extract 2 2) = [0]) (hb : numsB (all.extract 2 2) = true) :
  s.step all = (({ s with marks := false } : Sc).carry e [0] true,3) := by
 unfold Sc.step
 rw [if_pos h0]
 unfold Sc.escape
 rw [if_neg (by omega),if_neg (by omega),if_neg (by omega),hj,if_neg (by omega),he,if_neg (by omega),hn,hb]
theorem carry_home (s : Sc) (hO : s.Ok) : s.carry 72 [0] true = { s with full := false,r := 0,c := 0 } := by
 have h1 := hO.h1
 have h2 := hO.w1
 unfold Sc.carry
 rw [if_neg (by decide),if_neg (by decide),if_neg (by decide)]
 dsimp only
 rw [if_pos ⟨rfl,rfl⟩]
 have e1 : (min (max (([0] : List Int).getD 0 0) 1) (s.h : Int) - 1).toNat = 0 := by
  show (min (max (0 : Int) 1) (s.h : Int) - 1).toNat = 0
  omega
 have e2 : (min (max (([0] : List Int).getD 1 0) 1) (s.w : Int) - 1).toNat = 0 := by
  show (min (max (0 : Int) 1) (s.w : Int) - 1).toNat = 0
  omega
 rw [e1,e2]
theorem carry_clear (s : Sc) : s.carry 74 [0] true = { s.clrR s.r s.c with rows := (s.clrR s.r s.c).rows.take ((s.clrR s.r s.c).r + 1) } := by
 unfold Sc.carry
 rw [if_pos rfl,if_pos ⟨rfl,rfl⟩]
theorem step_home (s : Sc) (hO : s.Ok) : s.step wipeS = ({ s with full := false,marks := false,r := 0,c := 0 },3) := by
 rw [step_seq s wipeS 72 (by kernel_rfl) (by kernel_rfl) (by kernel_rfl) (by decide) (by kernel_rfl) (by decide) (by decide) (by kernel_rfl) (by kernel_rfl),carry_home _ hO.unmark]
theorem step_home' (s : Sc) (hO : s.Ok) : s.step homeS = ({ s with full := false,marks := false,r := 0,c := 0 },3) := by
 rw [step_seq s homeS 72 (by kernel_rfl) (by kernel_rfl) (by kernel_rfl) (by decide) (by kernel_rfl) (by decide) (by decide) (by kernel_rfl) (by kernel_rfl),carry_home _ hO.unmark]
theorem step_clear (s : Sc) : s.step clearS = (({ s with marks := false } : Sc).carry 74 [0] true,3) :=
 step_seq s clearS 74 (by kernel_rfl) (by kernel_rfl) (by kernel_rfl) (by decide) (by kernel_rfl) (by decide) (by decide) (by kernel_rfl) (by kernel_rfl)
theorem home_new (a b : Int) : feedS (newSc a b,⟨#[]⟩) homeS = (newSc a b,⟨#[]⟩) := by
 show Sc.feedN 3 (newSc a b) homeS = _
 have h := step_home' _ (newSc_ok a b)
 rw [feedN_on 2 _ homeS (by decide) (by rw [h];exact Nat.succ_ne_zero 2),h]
 show Sc.feedN 2 _ ⟨#[]⟩ = _
 rw [feedN_nil _ _ _ rfl]
 rfl
theorem cleared (s : Sc) (hr : s.r = 0) (hc : s.c = 0) (i : Nat) : ((s.clrR s.r s.c).rows.take ((s.clrR s.r s.c).r + 1)).getD i [] = [] := by
 rw [rw_take,clrR_alt,hr,hc]
 by_cases h2 : (s.rows.getD 0 []).length ≤ 0
 ·rw [if_pos h2]
  split
  ·rename_i h
   rw [hr] at h
   obtain rfl : i = 0 := by omega
   exact List.eq_nil_of_length_eq_zero (by omega)
  ·rfl
 ·rw [if_neg h2]
  split
  ·rename_i h
   have h : i < 0 + 1 := h
   obtain rfl : i = 0 := by omega
   show (s.rows.set 0 _).getD 0 [] = []
   rw [rw_set _ _ _ _ (rw_lt _ _ _ h2),if_pos rfl]
   rfl
  ·rfl
theorem wiped (a b : Int) (S : Sc × ByteArray) (hO : S.1.Ok) (hw : S.1.w = cntI a) (hh : S.1.h = cntI b) : EqvS (newSc a b,⟨#[]⟩) (feedS S wipeS) := by
 obtain ⟨t,ht,hk,e⟩ := feed_esc wipeS (by decide) (by kernel_rfl) S.2.size S.1 S.2 (Nat.le_refl _) hO
 have hF : feedS S wipeS = Sc.feedN wipeS.size t wipeS := e
 have h := step_home t ht
 have hO2 := feedS_ok hO wipeS
 rw [hF] at hO2 ⊢
 obtain ⟨t2,ht2⟩ : ∃ t2 : Sc,t2 = { t with full := false,marks := false,r := 0,c := 0 } := ⟨_,rfl⟩
 rw [← ht2] at h
 have h2 := step_clear t2
 have e2 : Sc.feedN wipeS.size t wipeS = ((({ t2 with marks := false } : Sc).carry 74 [0] true),⟨#[]⟩) := by
  show Sc.feedN 6 t wipeS = _
  rw [feedN_on 5 _ wipeS (by decide) (by rw [h];exact Nat.succ_ne_zero 2),h]
  show Sc.feedN 5 t2 clearS = _
  rw [feedN_on 4 _ clearS (by decide) (by rw [h2];exact Nat.succ_ne_zero 2),h2]
  show Sc.feedN 4 _ ⟨#[]⟩ = _
  rw [feedN_nil _ _ _ rfl]
 rw [e2] at hO2 ⊢
 refine ⟨?_,rfl,newSc_ok a b,hO2⟩
 show Eqv (newSc a b) (({ t2 with marks := false } : Sc).carry 74 [0] true)
 rw [carry_clear]
 have hR := cleared ({ t2 with marks := false } : Sc) (by rw [ht2]) (by rw [ht2])
 generalize hQ : (Sc.clrR ({ t2 with marks := false } : Sc) ({ t2 with marks := false } : Sc).r ({ t2 with marks := false } : Sc).c) = Q at hR
 have hQf : Q.w = t.w ∧ Q.h = t.h ∧ Q.r = 0 ∧ Q.c = 0 ∧ Q.full = false ∧ Q.marks = false := by
  rw [← hQ,clrR_alt,ht2]
  split <;> exact ⟨rfl,rfl,rfl,rfl,rfl,rfl⟩
 obtain ⟨q1,q2,q3,q4,q5,q6⟩ := hQf
 refine ⟨Q.rows.take (Q.r + 1),Q.lr,Q.lc,?_,(fun hq => by cases hq),fun i => ?_⟩
 ·obtain ⟨qw,qh,qrows,qr,qc,qf,ql,qlc,qm⟩ := Q
  dsimp only at q1 q2 q3 q4 q5 q6 ⊢
  subst q3 q4 q5 q6
  show _ = Sc.mk (newSc a b).w (newSc a b).h _ 0 0 false _ _ false
  rw [q1,q2,hk.w,hk.h,hw,hh]
  rfl
 ·rw [hR i]
  rfl
theorem kin_feed (S : Sc × ByteArray) (b : ByteArray) : Kin S.1 (feedS S b).1 := kin_feedN _ _ _
theorem Eqv.symm {s t : Sc} (h : Eqv s t) : Eqv t s := by
 obtain ⟨R,L,C,rfl,hm,hg⟩ := h
 exact ⟨s.rows,s.lr,s.lc,rfl,fun hq => ⟨(hm hq).1.symm,(hm hq).2.symm⟩,fun i => (hg i).symm⟩
theorem EqvS.symm {S T : Sc × ByteArray} (h : EqvS S T) : EqvS T S := ⟨h.s.symm,h.held.symm,h.o2,h.o1⟩
end Go.Proofs.YtgdpnmikcopkmaaDoor.U
end
section
namespace Go.Proofs.YtgdpnmikcopkmaaDoor.U
open Go.RowKit Go.Proofs.YtgdpnmikcopkmaaDoor.Mu Go.Proofs.YtgdpnmikcopkmaaDoor.Pu Go.Proofs.YtgdpnmikcopkmaaDoorW.PrintWords Go.Proofs.YtgdpnmikcopkmaaDoorW.PrintLast Go.Proofs.YtgdpnmikcopkmaaDoorW.PrintMore
set_option linter.unusedVariables false
set_option linter.unusedSimpArgs false
section
variable {base p : Nat} {O : Nat → Prop} {w : World} {T : Sc × ByteArray} {a b : Int}
theorem obs_held (h : Scr base p O w T) (hb : base ≤ w.heap.size) (he : EqvS (newSc a b,⟨#[]⟩) T) : Calls Tryd.prog 24 #[.pointer (some ⟨p,0,none⟩)] w fun e w' => e = .returned (.int .i64 0) ∧ Below w.heap.size w w' := scr_held' h hb he
theorem obs_full (h : Scr base p O w T) (hb : base ≤ w.heap.size) (he : EqvS (newSc a b,⟨#[]⟩) T) : Calls Tryd.prog 25 #[.pointer (some ⟨p,0,none⟩)] w fun e w' => e = .returned (.bool false) ∧ Below w.heap.size w w' := scr_full' h hb he
theorem obs_rows (h : Scr base p O w T) (hb : base ≤ w.heap.size) (he : EqvS (newSc a b,⟨#[]⟩) T) : Calls Tryd.prog 21 #[.pointer (some ⟨p,0,none⟩)] w fun e w' => e = .returned (.int .i64 1) ∧ Made base p O O w w' T := scr_rows' h hb he
theorem obs_cursor (h : Scr base p O w T) (he : EqvS (newSc a b,⟨#[]⟩) T) : Calls Tryd.prog 26 #[.pointer (some ⟨p,0,none⟩)] w fun e w' => e = .returned (.agg #[.int .i64 0,.int .i64 0]) ∧ Below w.heap.size w w' :=
 (sc_cursor h.at_).mono fun e w' hh => by
  obtain ⟨h1,h2,h3,h4,h5,h6⟩ := he.s.fields
  rw [h3,h4] at hh
  exact hh
theorem obs_frame (h : Scr base p O w T) (hb : base ≤ w.heap.size) (he : EqvS (newSc a b,⟨#[]⟩) T) :
  Calls Tryd.prog 20 #[.pointer (some ⟨p,0,none⟩),.int .i64 1] w fun e w' => ∃ rv,e = .returned (.agg #[.int .i64 (cntI a),rv,.int .i64 0,.int .i64 0]) ∧ Kd.S kRow 36 w' w.heap.size (fun k => w.heap.size ≤ k) rv [[]] ∧ Made base p O O w w' T :=
 (scr_frame' h hb he 1).mono fun e w' hh => by
  obtain ⟨rv,h1,h2,h3⟩ := hh
  refine ⟨rv,h1,?_,h3⟩
  have hb := cntI_bd b
  have e1 : (newSc a b).frameN 1 = 1 := by
   show (min (max (1 : Int) 1) (cntI b : Int)).toNat = 1
   omega
  rw [show frameL (newSc a b,(⟨#[]⟩ : ByteArray)).1.rows ((newSc a b,(⟨#[]⟩ : ByteArray)).1.frameN 1) = [[]] from by show frameL [] ((newSc a b).frameN 1) = [[]];rw [e1];rfl] at h2
  exact h2
end
/-- A frame with one empty row,and its own block. -/
structure FrB (w : World) (b0 g : Nat) (cs : Array Value) (rv : Value) : Prop where
 blk : w.heap[g]? = some (.cells cs 26 (0,0))
 rows : Kd.S kRow 36 w b0 (fun k => b0 ≤ k) rv [[]]
 gb : b0 ≤ g
theorem FrB.kept {w w' : World} {b0 g : Nat} {cs : Array Value} {rv : Value} {Q : Nat → Prop} (h : FrB w b0 g cs rv) (hk : Kept w w' Q) (hq : ∀ k,Q k → k < b0) : FrB w' b0 g cs rv :=
 ⟨blk_kept h.blk hk (fun he => by have := hq g he;have := h.gb;omega),Kd.S_kept h.rows hk (fun k hk2 he => by have := hq k he;omega),h.gb⟩
theorem FrB.below {w w' : World} {b0 g : Nat} {cs : Array Value} {rv : Value} (h : FrB w b0 g cs rv) (hb : Below w.heap.size w w') : FrB w' b0 g cs rv := h.kept (Kept.of_below hb (fun _ => False)) (fun k hk => hk.elim)
theorem FrB.cells {w : World} {b0 g : Nat} {x y z : Value} {FA : Option Addr} {fc : Nat} (h : FrB w b0 g #[x,.slice FA 1 fc,y,z] (.slice FA 1 fc)) :
  ∃ ad A0 c0,FA = some ad ∧ w.cell? ⟨g,1,none⟩ = some (.slice FA 1 fc) ∧ w.cell? ad = some (.slice A0 0 c0) := by
 obtain ⟨ad,A0,c0,h1,h2,_⟩ := at_L3 (Kd.S_reads' h.rows).2.2 0 (by omega) (by decide)
 have e : ad.add ((0 : Int).toNat) = ad := by cases ad;rfl
 rw [e] at h2
 exact ⟨ad,A0,c0,h1,blk_cell h.blk 1,h2⟩
set_option maxRecDepth 100000 in
set_option maxHeartbeats 8000000 in
theorem wipes_any (a0 a1 : Int) (h0 : 0 ≤ a0 ∧ a0 ≤ 255) (h1 : 0 ≤ a1 ∧ a1 ≤ 255) (junk bytes : ByteArray) (W : World) (hj : junk.size ≤ 1048576) (hz : bytes.size ≤ 1048576) (hT : Lib.Utf8Tabs 0 1 W) :
  Calls Tryd.prog 5 #[.int .u8 a0,.int .u8 a1,.string junk,.string bytes] W fun e w' => e = .returned (.bool true) ∧ Below W.heap.size W w' := by
 have h2 := tabs_two hT
 go_enter Tryd.func5,Tryd.ntmps5
 go_upto_region 4 with (first | (go_at_call 13;refine (law_shows _ hT h2).mono ?_;rintro e w1 ⟨rfl,hb1⟩;have hN1 := hb1) | (go_at_call 14;refine (scr_new a0 a1 _).mono ?_;rintro e w3 ⟨pb,rfl,hpb,hSb,hb3⟩;have hB3 := hSb W.heap.size hN2.size;have hB3lt := hB3.lt;have hA3 := hA2.below hb3;have hN3 := hN2.trans (hb3.mono hN2.size);clear hA2) | (go_at_call 14;refine (scr_new a0 a1 _).mono ?_;rintro e w2 ⟨pa,rfl,hpa,hSa,hb2⟩;have hA2 := hSa W.heap.size hN1.size;have hA2lt := hA2.lt;have hN2 := hN1.trans (hb2.mono hN1.size)))
 have hlab : pa < pb := Nat.lt_of_lt_of_le (show pa < w2.heap.size from hA2lt) hpb
 have hP0 : Two W.heap.size pa pb w3 (fun _ => False) (fun _ => False) w3 (fun _ => False) (fun _ => False) (newSc a0 a1,⟨#[]⟩) (newSc a0 a1,⟨#[]⟩) :=
  Two.start hA3 hB3 ⟨Nat.ne_of_lt hlab,fun h => h,fun h => h,fun k h => h.elim⟩ hN3.size
 have hfit := fit_new a0 a1
 have hJ1 := (hfit.feed junk)
 have hw1 : (feedS (newSc a0 a1,⟨#[]⟩) junk).1.w = cntI a0 := (kin_feed _ _).w
 have hw2 : (feedS (newSc a0 a1,⟨#[]⟩) junk).1.h = cntI a1 := (kin_feed _ _).h
 have hEq := wiped a0 a1 (feedS (newSc a0 a1,⟨#[]⟩) junk) hJ1.ok hw1 hw2
 have hJ2 := (hJ1.feed wipeS).mono (M := 2097174) (by show (4 + (4 + junk.size)) + ((4 + (4 + junk.size)) + 6) ≤ _;omega)
 clear hw1 hw2 hA3 hB3 hN1 hN2 hb1 hb2 hb3 hSa hSb hlab hA2lt hB3lt hpa hpb
 go_upto_region 6 with (first | (go_at_call 16;refine (scr_feed hP1.a hP1.bs h2 (tabs_base hT (hN3.trans hP1.below) h2) hJ1 wipeS (by show (4 + (4 + junk.size)) + 6 ≤ _;omega)).mono ?_;rintro e w5 ⟨rfl,O5,hM⟩;have hP2 := hP1.callA hM;clear hP1 hM) | (go_at_call 16;refine (scr_feed hP0.a hP0.bs h2 (tabs_base hT (hN3.trans hP0.below) h2) hfit junk (by omega)).mono ?_;rintro e w4 ⟨rfl,O4,hM⟩;have hP1 := hP0.callA hM;clear hP0 hM))
 generalize feedS (feedS (newSc a0 a1,⟨#[]⟩) junk) wipeS = T at hP2 hEq hJ2
 clear hJ1
 go_upto_region 7 with (go_at_call 20;refine (obs_frame hP2.a hP2.bs hEq).mono ?_;rintro e w6 ⟨rv,rfl,hF6,hM⟩;have hP3 := hP2.callA hM;obtain ⟨FA,fc,rfl⟩ := Kd.R_slice (Kd.S_R hF6);have hs1 := hP2.a.lt;have hs2 := hP2.a.bd;have hs3 := hP2.b.lt;have hs4 := hP2.b.bd;have hs5 := hM.kept.1;clear hP2 hM)
 have hal := below_alloc (Below.refl _ w6) (.cells #[.int .i64 (cntI a0),.slice FA 1 fc,.int .i64 0,.int .i64 0] 26 (0,0))
 have hP4 := hP3.skip hal
 have hB4 : FrB (w6.alloc (.cells #[.int .i64 (cntI a0),.slice FA 1 fc,.int .i64 0,.int .i64 0] 26 (0,0))) w5.heap.size w6.heap.size #[.int .i64 (cntI a0),.slice FA 1 fc,.int .i64 0,.int .i64 0] (.slice FA 1 fc) :=
  ⟨World.alloc_heap_new w6 _,Kd.S_kept hF6 (Kept.of_below hal (fun _ => False)) (fun k _ he => he.elim),hs5⟩
 generalize w6.alloc (.cells #[.int .i64 (cntI a0),.slice FA 1 fc,.int .i64 0,.int .i64 0] 26 (0,0)) = w7 at hP4 hB4 ⊢
 clear hP3 hal hF6
 go_upto_if 62 with (first | (go_at_call 26;refine (obs_cursor hP7.a hEq).mono ?_;rintro e w11 ⟨rfl,hb⟩;have hP8 := hP7.skip hb;have hB8 := hB7.below hb;obtain ⟨ad,A0,c0,rfl,l1,l2⟩ := hB8.cells;clear hP7 hB7 hb) | (go_at_call 21;refine (obs_rows hP6.a hP6.bs hEq).mono ?_;rintro e w10 ⟨rfl,hM⟩;have hP7 := hP6.callA hM;have hB7 := hB6.kept hM.kept (fun k hk => hk.elim (fun h => hs2 k h) (fun h => h ▸ hs1));clear hP6 hB6 hM) | (go_at_call 25;refine (obs_full hP5.a hP5.bs hEq).mono ?_;rintro e w9 ⟨rfl,hb⟩;have hP6 := hP5.skip hb;have hB6 := hB5.below hb;clear hP5 hB5 hb) | (go_at_call 24;refine (obs_held hP4.a hP4.bs hEq).mono ?_;rintro e w8 ⟨rfl,hb⟩;have hP5 := hP4.skip hb;have hB5 := hB4.below hb;clear hP4 hB4 hb))
 clear hB8 l1 l2
 have hEf := hEq.feed bytes
 have hJ3 := (hJ2.feed bytes).mono (M := 8000000) (by omega)
 have hJ4 := (hfit.feed bytes).mono (M := 8000000) (by omega)
 have hHome := home_new a0 a1
 generalize (newSc a0 a1,(⟨#[]⟩ : ByteArray)) = S0 at hP8 hEf hJ4 hHome hfit
 have hSm := hEf.symm
 clear hEf hEq
 have hHH := Lib.hid hHome
 clear hHome
 go_wp2_with (first | (go_at_call 23;refine (law_alike hSm hPT h2 (tabs_base hT (hN3.trans hbl) h2) hJ3 hJ4 ⟨#[120]⟩ (by show 4 * 8000000 + 4 * 1 ≤ _;omega)).mono ?_;rintro e w15 ⟨rfl,Oa,Ob,hP12⟩;have hbl2 := hbl.trans hP12.below;clear hP12 hPT) | (go_at_call 16;refine (scr_feed hP10.b hP10.bs h2 (tabs_base hT (hN3.trans hP10.below) h2) hfit bytes (by omega)).mono ?_;rintro e w14 ⟨rfl,O14,hM⟩;have hP11 := hP10.callB hM;have hPT := Two.start hP11.a hP11.b hP11.ap hP11.bs;have hbl := hP11.below;clear hP10 hM) | (go_at_call 16;refine (scr_feed hP9.a hP9.bs h2 (tabs_base hT (hN3.trans hP9.below) h2) hJ2 bytes (by omega)).mono ?_;rintro e w13 ⟨rfl,O13,hM⟩;have hP10 := hP9.callA hM;clear hP9 hM) | (go_at_call 16;refine (scr_feed hP8.b hP8.bs h2 (tabs_base hT (hN3.trans hP8.below) h2) hfit homeS (by show 4 + 3 ≤ _;omega)).mono ?_;rintro e w12 ⟨rfl,O12,hM⟩;rw [hHH.out] at hM;have hP9 := hP8.callB hM;clear hP8 hM))
 go_ret
 exact ⟨rfl,hN3.trans hbl2⟩
def bodkinlaw22_ScreenWipes.f (a0 a1 : Int) (a2 a3 : ByteArray) : Option Bool :=
 if (0 ≤ a0 ∧ a0 ≤ 255) ∧ (0 ≤ a1 ∧ a1 ≤ 255) ∧ a2.size ≤ 1048576 ∧ a3.size ≤ 1048576 then some true else none
theorem bodkinlaw22_ScreenWipes.calls (a0 a1 : Int) (a2 a3 : ByteArray) (r : Bool) (w : World) (hT : Lib.Utf8Tabs 0 1 w) (h : bodkinlaw22_ScreenWipes.f a0 a1 a2 a3 = some r) :
  Calls Tryd.prog 5 #[.int .u8 a0,.int .u8 a1,.string a2,.string a3] w fun e w' => e = .returned (.bool r) ∧ Below w.heap.size w w' := by
 unfold bodkinlaw22_ScreenWipes.f at h
 split at h
 ·rename_i hs
  obtain ⟨h0,h1,hj,hz⟩ := hs
  obtain rfl := Option.some.inj h
  exact wipes_any a0 a1 h0 h1 a2 a3 w hj hz hT
 ·cases h
end Go.Proofs.YtgdpnmikcopkmaaDoor.U
end
section
namespace Go.Proofs.YtgdpnmikcopkmaaDoor.Pure
open Go Go.RowKit Go.Proofs.YtgdpnmikcopkmaaDoor.U
theorem u8_wf {x : Int} (h : (Lit.int .u8 x).wf = true) : 0 ≤ x ∧ x ≤ 255 := by
 simp only [Lit.wf,Bool.and_eq_true] at h
 exact ⟨of_decide_eq_true h.1,of_decide_eq_true h.2⟩
theorem ScreenWipes (a0 a1 : Int) (a2 a3 : ByteArray) (w0 : (Lit.int .u8 a0).wf = true) (w1 : (Lit.int .u8 a1).wf = true) (u2 : a2.size ≤ 1048576) (u3 : a3.size ≤ 1048576) : bodkinlaw22_ScreenWipes.f a0 a1 a2 a3 = some true := by
 unfold bodkinlaw22_ScreenWipes.f
 rw [if_pos ⟨u8_wf w0,u8_wf w1,u2,u3⟩]
end Go.Proofs.YtgdpnmikcopkmaaDoor.Pure
end
section
namespace Go.Proofs.YtgdpnmikcopkmaaDoor.Lf
open Go.Lib Go.Proofs
theorem own : ownKnob Tryd.prog.godebug = none := by kernel_rfl
theorem extra : U8Extra Tryd.prog Tryd.lays260_ren := {
 n3 := by kernel_rfl
 n4 := by kernel_rfl
 y3 := by kernel_rfl
 y4 := by kernel_rfl
 c5 := by kernel_rfl
 c119 := by kernel_rfl
 c138 := by kernel_rfl }
theorem first_eq : Rows.laid_unicode_utf8_first = Lib.firstData := by kernel_rfl
theorem accept_eq : (Rows.laid_unicode_utf8_acceptRanges : DataW Unit) = Lib.acceptData := by kernel_rfl
abbrev laid : List (String × DataW Unit) := [("unicode/utf8.acceptRanges", Rows.laid_unicode_utf8_acceptRanges), ("unicode/utf8.first", Rows.laid_unicode_utf8_first)]
/-- The two tables lie as the contracts ask. -/
theorem tabs {W : World} (h : laidMetH Tryd.prog laid W) : Lib.Utf8Tabs 0 1 W := by
  rw [MakeChecks.laidMetH_plain _ _ _ (by kernel_rfl)] at h
  have h3 := laidMet.reads h (n := "unicode/utf8.first") (d := Rows.laid_unicode_utf8_first) (List.mem_cons_of_mem _ List.mem_cons_self)
  have h4 := laidMet.reads h (n := "unicode/utf8.acceptRanges") (d := Rows.laid_unicode_utf8_acceptRanges) List.mem_cons_self
  rw [first_eq] at h3
  rw [accept_eq] at h4
  exact utf8Tabs_of_reads Tryd.lays260 extra h3 h4
/-- The world of the witness: the settled one,the tables laid. -/
noncomputable abbrev wit (os : Os) : World := World.laidAll Tryd.prog os laid
theorem wit_laid (os : Os) (args : Array Value) : laidMetH Tryd.prog laid ((wit os).forCall (fun _ _ => 0) ⟨#[],args,[]⟩).memory := by
 rw [MakeChecks.laidMetH_plain _ _ _ (by kernel_rfl)]
 exact laidMet_laidAll _ (by kernel_rfl) (by kernel_rfl)
theorem wit_shaped (os : Os) (args : Array Value) : ((wit os).forCall (fun _ _ => 0) ⟨#[],args,[]⟩).Shaped Tryd.prog :=
 World.shaped_of_ZipB (by kernel_rfl) (by kernel_rfl)
end Go.Proofs.YtgdpnmikcopkmaaDoor.Lf
end
