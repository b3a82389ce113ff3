/- What the law ScreenEnds reaches of this seat's own texts, merged; what nothing uses is left out. -/
import Derived.Test.YtgdpnmikcopkmaaDoorZScreenEnds0
import Derived.Test.YtgdpnmikcopkmaaDoorZScreenEnds6
import Derived.Test.YtgdpnmikcopkmaaDoorZScreenEnds7
section
namespace Go.Proofs.YtgdpnmikcopkmaaDoor.U
open Go.RowKit Go.Proofs.YtgdpnmikcopkmaaDoor.Mu Go.Proofs.YtgdpnmikcopkmaaDoor.Pu Go.Proofs.YtgdpnmikcopkmaaDoorW.PrintWords Go.Proofs.YtgdpnmikcopkmaaDoorW.PrintLast Go.Proofs.YtgdpnmikcopkmaaDoorW.PrintMore
set_option linter.unusedVariables false
set_option linter.unusedSimpArgs false
theorem rb_sub {row l : List Cl} {n : Nat} (h : RB row n) (hs : ∀ x ∈ l,x ∈ row) : RB l n := fun x hx => h x (hs x hx)
theorem resize_tb {s : Sc} {n : Nat} (h : s.TB n) (h1 : 1 ≤ n) (k : Int) : (s.resize k).TB n := by
 intro row hr
 obtain ⟨r0,h0,rfl⟩ := List.mem_map.1 hr
 have hb := h r0 h0
 have ht : RB (r0.take (cntI k)) n := rb_sub hb (fun x hx => List.mem_of_mem_take hx)
 unfold rszR
 split
 ·exact hb
 ·split
  ·exact ht.set _ (show blC.f0.size ≤ n from h1)
  ·exact ht
theorem Fit.resize {S : Sc × ByteArray} {N : Nat} (h : Fit S N) (k : Int) : Fit (S.1.resize k,S.2) N := ⟨resize_ok h.ok k,resize_tb h.tb (by have := h.n4;omega) k,h.hl,h.n4⟩
section
variable {base p : Nat} {O : Nat → Prop} {w : World} {S : Sc × ByteArray}
theorem scr_resize (h : Scr base p O w S) (hb : base ≤ w.heap.size) (hO : S.1.Ok) (k : Int) :
  Calls Tryd.prog 31 #[.pointer (some ⟨p,0,none⟩),.int .i64 k] w fun e w' => e = .returned (.tuple #[]) ∧ ∃ O',Made base p O O' w w' (S.1.resize k,S.2) :=
 (sc_resize h.wide ⟨fun k hk => .inr hk,hb⟩ hO k).mono fun e w' hh => ⟨hh.1,_,Made.of_wide hh.2⟩
theorem scr_width (h : Scr base p O w S) (hb : base ≤ w.heap.size) (hO : S.1.Ok) :
  Calls Tryd.prog 22 #[.pointer (some ⟨p,0,none⟩)] w fun e w' => e = .returned (.int .i64 (S.1.w : Nat)) ∧ Made base p O O w w' S :=
 (sc_width h.at_.bound hb).mono fun e w' hh => by rw [rdy_ok hO] at hh;exact ⟨hh.1,Made.of_same h.bd hh.2⟩
theorem scr_height (h : Scr base p O w S) (hb : base ≤ w.heap.size) (hO : S.1.Ok) :
  Calls Tryd.prog 32 #[.pointer (some ⟨p,0,none⟩)] w fun e w' => e = .returned (.int .i64 (S.1.h : Nat)) ∧ Made base p O O w w' S :=
 (sc_height h.at_.bound hb).mono fun e w' hh => by rw [rdy_ok hO] at hh;exact ⟨hh.1,Made.of_same h.bd hh.2⟩
/-- Shows ends,of any frame with rows. -/
theorem scr_shows (h : Scr base p O w S) (hb : base ≤ w.heap.size) (hO : S.1.Ok) (fw fr fc : Int) (FA : Option Addr) (fcap : Nat) (FL : List (List Cl))
  (hF : ∀ w',Kept w w' (fun k => (O k ∧ k < w.heap.size) ∨ k = p) → Kd.C kRow w' FA FL.length FL) (hFc : FL.length ≤ fcap) (hFl : ∀ row ∈ FL,row.length ≤ 1099511627776) (m2 : 1 ≤ FL.length) :
  Calls Tryd.prog 18 #[.pointer (some ⟨p,0,none⟩),.agg #[.int .i64 fw,.slice FA FL.length fcap,.int .i64 fr,.int .i64 fc]] w fun e w' => (∃ b,e = .returned (.bool b)) ∧ Made base p O O w w' S := by
 by_cases m1 : fw = S.1.w
 ·by_cases m3 : FL.length ≤ S.1.h
  ·by_cases m4 : S.1.nrows ≤ FL.length
   ·by_cases m5 : fr = S.1.r
    ·by_cases m6 : fc = S.1.c
     ·exact (sc_shows h.at_ hb hO fw fr fc FA fcap FL hF hFc hFl m1 m2 m3 m4 m5 m6).mono fun e w' hh => ⟨⟨_,hh.1⟩,Made.of_same h.bd hh.2⟩
     ·exact (sc_shows_f h.at_ hb hO fw fr fc FA fcap FL m1 m2 m3 m4 m5 m6).mono fun e w' hh => ⟨⟨_,hh.1⟩,Made.of_same h.bd hh.2⟩
    ·exact (sc_shows_e h.at_ hb hO fw fr fc FA fcap FL m1 m2 m3 m4 m5).mono fun e w' hh => ⟨⟨_,hh.1⟩,Made.of_same h.bd hh.2⟩
   ·exact (sc_shows_d h.at_ hb hO fw fr fc FA fcap FL m1 m2 m3 m4).mono fun e w' hh => ⟨⟨_,hh.1⟩,Made.of_same h.bd hh.2⟩
  ·exact (sc_shows_c h.at_ hb hO fw fr fc FA fcap FL m1 m2 m3).mono fun e w' hh => ⟨⟨_,hh.1⟩,Made.of_same h.bd hh.2⟩
 ·exact (sc_shows_a h.at_ hb hO fw fr fc FA fcap FL m1).mono fun e w' hh => ⟨⟨_,hh.1⟩,Made.of_same h.bd hh.2⟩
end
theorem nils_C {w : World} {g : Nat} (h : w.heap[g]? = some (.cells #[.slice none 0 0,.slice none 0 0,.slice none 0 0] 36 (0,0))) : Kd.C kRow w (some ⟨g,0,none⟩) 3 [[],[],[]] := by
 refine ⟨rfl,by decide,fun _ => ⟨_,rfl,fun j p hj => ⟨[.slice none 0 0],rfl,?_,fun i u hu => ?_⟩⟩⟩
 ·have hp : p = [] := by
   have := List.mem_of_getElem? hj
   simp at this
   exact this
  subst hp
  exact ⟨none,0,rfl,Nat.le_refl _,Kd.C_nil _ _⟩
 ·have hj3 : j < 3 := (List.getElem?_eq_some_iff.1 hj).1
  have hi1 : i < 1 := (List.getElem?_eq_some_iff.1 hu).1
  obtain rfl : i = 0 := by omega
  injection hu with hu
  subst hu
  rw [add_at]
  show w.cell? ⟨g,0 + (j * 1 + 0),none⟩ = _
  rw [Nat.zero_add,Nat.mul_one,Nat.add_zero,blk_cell h j]
  match j,hj3 with
  | 0,_ => rfl
  | 1,_ => rfl
  | 2,_ => rfl
def farS : ByteArray := ⟨#[27,91,57,57,57,57,57,57,57,57,57,57,57,57,57,57,57,57,57,57,57,57,59,57,57,57,57,57,57,57,57,57,57,57,57,57,57,57,57,57,57,57,57,72,120,10,27,91,74]⟩
set_option maxRecDepth 100000 in
set_option maxHeartbeats 8000000 in
theorem ends_any (a0 a1 a3 : Int) (bytes : ByteArray) (W : World) (hz : bytes.size ≤ 1048576) (hT : Lib.Utf8Tabs 0 1 W) :
  Calls Tryd.prog 9 #[.int .i64 a0,.int .i64 a1,.string bytes,.int .i64 a3] W fun e w' => e = .returned (.bool true) ∧ Below W.heap.size W w' := by
 have h2 := tabs_two hT
 go_enter Tryd.func9,Tryd.ntmps9
 go_upto_region 4 with (first | (go_at_call 13;refine (law_shows _ hT h2).mono ?_;rintro e w1 ⟨rfl,hb1⟩;have hN1 := hb1) | (go_at_call 14;refine (scr_new a0 a1 _).mono ?_;rintro e w2 ⟨pa,rfl,hpa,hSa,hb2⟩;have hA0 := hSa W.heap.size hN1.size;have hN2 := hN1.trans (hb2.mono hN1.size)))
 have hbs0 := hN2.size
 have hfit := fit_new a0 a1
 generalize (newSc a0 a1,(⟨#[]⟩ : ByteArray)) = S0 at hA0 hfit
 clear hSa hN1 hb1 hb2
 go_upto_region 5 with (go_at_call 16;refine (scr_feed hA0 hbs0 h2 (tabs_base hT hN2 h2) hfit bytes (by omega)).mono ?_;rintro e w3 ⟨rfl,O3,hM3⟩)
 have hN3 := hN2.trans hM3.below
 have hbs3 := hN3.size
 have hA3 := hM3.scr
 have hf3 := (hfit.feed bytes)
 go_upto_region 6 with (go_at_call 31;refine (scr_resize hA3 hbs3 hf3.ok a3).mono ?_;rintro e w4 ⟨rfl,O4,hM4⟩)
 have hN4 := hN3.trans hM4.below
 have hbs4 := hN4.size
 have hA4 := hM4.scr
 have hf4 := hf3.resize a3
 clear hM3 hM4 hA0 hA3 hN2 hbs0 hN3 hbs3
 generalize ((feedS S0 bytes).1.resize a3,(feedS S0 bytes).2) = S4 at hA4 hf4
 clear hf3 hfit
 go_upto_region 7 with (go_at_call 16;refine (scr_feed hA4 hbs4 h2 (tabs_base hT hN4 h2) hf4 farS (by show (4 + (4 + bytes.size)) + 49 ≤ _;omega)).mono ?_;rintro e w5 ⟨rfl,O5,hM5⟩)
 have hN5 := hN4.trans hM5.below
 have hbs5 := hN5.size
 have hA5 := hM5.scr
 have hok := (hf4.feed farS).ok
 clear hM5 hA4 hN4 hbs4 hf4
 generalize feedS S4 farS = S5 at hA5 hok
 go_upto_region 8 with (go_at_call 20;refine (scr_frame hA5 hbs5 hok _).mono ?_;rintro e w6 ⟨rv,rfl,hF6,hM6⟩)
 have hN6 := hN5.trans hM6.below
 have hbs6 := hN6.size
 have hA6 := hM6.scr
 clear hM6 hF6 hA5 hN5 hbs5
 have hmk := print_make_int (P := Tryd.prog) 22 36 (.slice none 0 0) 24 Tryd.underlying22 info36 rfl (by decide) 3 (by decide) (by decide)
 have hal := below_alloc (Below.refl _ w6) (.cells (madeCells #[.slice none 0 0] 3) 36 (0,0))
 have hA7 := hA6.below hal
 have hbs7 := Nat.le_trans hbs6 hal.size
 have hN7 := hN6.trans (hal.mono hbs6)
 have hq7 : (w6.alloc (.cells (madeCells #[.slice none 0 0] 3) 36 (0,0))).heap[w6.heap.size]? = some (.cells #[.slice none 0 0,.slice none 0 0,.slice none 0 0] 36 (0,0)) := by
  rw [World.alloc_heap_new w6]
  congr 2
  first | rfl | kernel_rfl | simp [madeCells]
 have hlt6 := hA6.lt
 have hbd6 := hA6.bd
 clear hA6
 go_upto_region 9 with (go_at_call 18;refine (scr_shows hA7 hbs7 hok a0 a3 a3 (some ⟨w6.heap.size,0,none⟩) 3 [[],[],[]] (fun w' hk => nils_C (blk_kept hq7 hk (fun he => he.elim (fun h => by have := hbd6 _ h.1;omega) (fun h => by omega)))) (by decide) (fun row hr => by simp at hr;subst hr;exact Nat.zero_le _) (by decide)).mono ?_;rintro e w8 ⟨⟨b8,rfl⟩,hM8⟩)
 have hN8 := hN7.trans hM8.below
 have hbs8 := hN8.size
 have hA8 := hM8.scr
 clear hM8 hA7 hN7 hbs7 hq7 hal hmk
 have o1 := hok.w1
 have o2 := hok.rl
 have o3 := hok.rh
 have o4 := lastN_le S5.1.rows S5.1.rows.length
 have k1 := eq_true (show (1 : Int) ≤ (S5.1.w : Int) by omega)
 have k2 := eq_true (show (1 : Int) ≤ (S5.1.nrows : Int) by unfold Sc.nrows;omega)
 have k3 := eq_true (show (S5.1.nrows : Int) ≤ (S5.1.h : Int) by unfold Sc.nrows;omega)
 go_wp2_with (first | (go_at_call 32;refine (scr_height hA11 hbs11 hok).mono ?_;rintro e w12 ⟨rfl,hM12⟩;have hN12 := hN11.trans hM12.below;clear hA11 hM12) | (go_at_call 21;refine (scr_rows hA10 hbs10 hok).mono ?_;rintro e w11 ⟨rfl,hM11⟩;have hA11 := hM11.scr;have hN11 := hN10.trans hM11.below;have hbs11 := hN11.size;clear hA10 hM11) | (go_at_call 21;refine (scr_rows hA9 hbs9 hok).mono ?_;rintro e w10 ⟨rfl,hM10⟩;have hA10 := hM10.scr;have hN10 := hN9.trans hM10.below;have hbs10 := hN10.size;clear hA9 hM10) | (go_at_call 22;refine (scr_width hA8 hbs8 hok).mono ?_;rintro e w9 ⟨rfl,hM9⟩;have hA9 := hM9.scr;have hN9 := hN8.trans hM9.below;have hbs9 := hN9.size;clear hA8 hM9))
 go_ret
 exact ⟨rfl,hN12⟩
def bodkinlaw22_ScreenEnds.f (a0 a1 : Int) (a2 : ByteArray) (a3 : Int) : Option Bool := if a2.size ≤ 1048576 then some true else none
theorem bodkinlaw22_ScreenEnds.calls (a0 a1 : Int) (a2 : ByteArray) (a3 : Int) (r : Bool) (w : World) (hT : Lib.Utf8Tabs 0 1 w) (h : bodkinlaw22_ScreenEnds.f a0 a1 a2 a3 = some r) :
  Calls Tryd.prog 9 #[.int .i64 a0,.int .i64 a1,.string a2,.int .i64 a3] w fun e w' => e = .returned (.bool r) ∧ Below w.heap.size w w' := by
 unfold bodkinlaw22_ScreenEnds.f at h
 split at h
 ·rename_i hs
  obtain rfl := Option.some.inj h
  exact ends_any a0 a1 a3 a2 w hs hT
 ·cases h
end Go.Proofs.YtgdpnmikcopkmaaDoor.U
end
section
namespace Go.Proofs.YtgdpnmikcopkmaaDoor.Pure
open Go Go.RowKit Go.Proofs.YtgdpnmikcopkmaaDoor.U
theorem ScreenEnds (a0 a1 : Int) (a2 : ByteArray) (a3 : Int) (_w0 : (Lit.int .i64 a0).wf = true) (_w1 : (Lit.int .i64 a1).wf = true) (u2 : a2.size ≤ 1048576) (_w3 : (Lit.int .i64 a3).wf = true) : bodkinlaw22_ScreenEnds.f a0 a1 a2 a3 = some true := by
 unfold bodkinlaw22_ScreenEnds.f
 rw [if_pos u2]
end Go.Proofs.YtgdpnmikcopkmaaDoor.Pure
end
section
namespace Go.Proofs.YtgdpnmikcopkmaaDoor.Lf
open Go.Lib Go.Proofs
theorem own : ownKnob Tryd.prog.godebug = none := by kernel_rfl
theorem extra : U8Extra Tryd.prog Tryd.lays260_ren := {
 n3 := by kernel_rfl
 n4 := by kernel_rfl
 y3 := by kernel_rfl
 y4 := by kernel_rfl
 c5 := by kernel_rfl
 c119 := by kernel_rfl
 c138 := by kernel_rfl }
theorem first_eq : Rows.laid_unicode_utf8_first = Lib.firstData := by kernel_rfl
theorem accept_eq : (Rows.laid_unicode_utf8_acceptRanges : DataW Unit) = Lib.acceptData := by kernel_rfl
abbrev laid : List (String × DataW Unit) := [("unicode/utf8.acceptRanges", Rows.laid_unicode_utf8_acceptRanges), ("unicode/utf8.first", Rows.laid_unicode_utf8_first)]
/-- The two tables lie as the contracts ask. -/
theorem tabs {W : World} (h : laidMetH Tryd.prog laid W) : Lib.Utf8Tabs 0 1 W := by
  rw [MakeChecks.laidMetH_plain _ _ _ (by kernel_rfl)] at h
  have h3 := laidMet.reads h (n := "unicode/utf8.first") (d := Rows.laid_unicode_utf8_first) (List.mem_cons_of_mem _ List.mem_cons_self)
  have h4 := laidMet.reads h (n := "unicode/utf8.acceptRanges") (d := Rows.laid_unicode_utf8_acceptRanges) List.mem_cons_self
  rw [first_eq] at h3
  rw [accept_eq] at h4
  exact utf8Tabs_of_reads Tryd.lays260 extra h3 h4
/-- The world of the witness: the settled one,the tables laid. -/
noncomputable abbrev wit (os : Os) : World := World.laidAll Tryd.prog os laid
theorem wit_laid (os : Os) (args : Array Value) : laidMetH Tryd.prog laid ((wit os).forCall (fun _ _ => 0) ⟨#[],args,[]⟩).memory := by
 rw [MakeChecks.laidMetH_plain _ _ _ (by kernel_rfl)]
 exact laidMet_laidAll _ (by kernel_rfl) (by kernel_rfl)
theorem wit_shaped (os : Os) (args : Array Value) : ((wit os).forCall (fun _ _ => 0) ⟨#[],args,[]⟩).Shaped Tryd.prog :=
 World.shaped_of_ZipB (by kernel_rfl) (by kernel_rfl)
end Go.Proofs.YtgdpnmikcopkmaaDoor.Lf
end
