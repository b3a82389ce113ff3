/- The first example of the document, as the laws of layer 1 ask it ahead of all: it answers true. -/
import Derived.Test.YtfhnfhgpaoddbaaDoorU4
import Derived.Test.YtfhnfhgpaoddbaaDoorU4
import Derived.Test.YtfhnfhgpaoddbaaDoorU4
import Derived.Test.YtfhnfhgpaoddbaaDoorU4
import Derived.Test.YtfhnfhgpaoddbaaDoorHu
namespace Go.Proofs.YtfhnfhgpaoddbaaDoor.U
open Go.RowKit Go.Proofs.YtfhnfhgpaoddbaaDoorW.PrintWords Go.Proofs.YtfhnfhgpaoddbaaDoorW.PrintLast Go.Proofs.YtfhnfhgpaoddbaaDoorW.PrintMore
set_option linter.unusedVariables false
set_option linter.unusedSimpArgs false

theorem cuts_next : unit_Next.f 100 ⟨#[97]⟩ 0 = some 1 := by kernel_rfl
theorem cuts_units : unitsL ⟨#[97, 195, 169, 195]⟩ = [⟨97, 1⟩, ⟨233, 2⟩, ⟨-1, 1⟩] := by kernel_rfl
theorem cuts_up : unit_Up.f 100 ⟨#[97, 195, 169]⟩ 2 = some 3 := by kernel_rfl
theorem cuts_boundary : unit_Boundary.f 100 ⟨#[97]⟩ 1 = some true := by kernel_rfl
theorem walk_not_nil (a : Addr) (W : World) : (binOp .eql 33 (.func (.func 60) #[] #[.pointer (some a)]) .nilFunc).run Tryd.prog W = .ok (.bool false) W := by kernel_rfl

theorem cuts_list (w : World) (hT : Lib.Utf8Tabs 0 1 w) :
    Calls Tryd.prog 23 #[.string ⟨#[97, 195, 169, 195]⟩] w fun e w' => ∃ (b o : Nat) (c : Nat), e = .returned (.slice (some ⟨b, o, none⟩) 3 c) ∧ 3 ≤ c ∧
      (w'.cell? ⟨b, o + 2, none⟩ = some (.int .i32 233) ∧ w'.cell? ⟨b, o + 2 + 1, none⟩ = some (.int .i64 2)) ∧ (w'.cell? ⟨b, o + 4, none⟩ = some (.int .i32 (-1)) ∧ w'.cell? ⟨b, o + 4 + 1, none⟩ = some (.int .i64 1)) ∧ Below w.heap.size w w' := by
  refine (units_any ⟨#[97, 195, 169, 195]⟩ _ (by decide) hT).mono ?_
  rintro e w2 ⟨v, rfl, hR, hb2⟩
  rw [cuts_units] at hR
  obtain ⟨inner, ho, hr⟩ := hR.2
  rcases ho.2 with ⟨_, h0⟩ | ⟨g, cap, cur, rfl, _⟩
  · simp at h0
  obtain ⟨A, c, he, hlc, hC⟩ := Kd.R_reads hR
  injection he with h1 h2 h3
  subst h1; subst h3
  obtain ⟨ad, e1, c10, c11⟩ := at_T30 hC 1 (by decide) (by decide)
  obtain ⟨ad', e2, c20, c21⟩ := at_T30 hC 2 (by decide) (by decide)
  obtain rfl := Option.some.inj e1
  obtain rfl := Option.some.inj e2
  exact ⟨g, 0, cap, rfl, hlc, ⟨c10, c11⟩, ⟨c20, c21⟩, hb2⟩

set_option maxRecDepth 100000 in
set_option maxHeartbeats 4000000 in
theorem cuts_any (w : World) (hT : Lib.Utf8Tabs 0 1 w) :
    Calls Tryd.prog 21 #[] w fun e w' => e = .returned (.bool true) ∧ Below w.heap.size w w' := by
  have hnn := walk_not_nil
  have hu := Tryd.underlying30
  have hT1 : Lib.Utf8Tabs 0 1 (w.alloc (.cells #[.string ⟨#[]⟩] 9)) := tabs_below hT ((Below.refl _ w).alloc (Nat.le_refl _) _)
  go_enter Tryd.func21, Tryd.ntmps21
  go_wp2_with (go_at_call 25; refine (walk_calls _ _).mono ?_; rintro e w' ⟨rfl, rfl⟩)
  refine (unit_Next.calls 100 ⟨#[97]⟩ 0 1 _ hT1 cuts_next).mono ?_
  rintro e w1 ⟨rfl, hb1⟩
  have hB1 : Below w.heap.size w w1 := ((Below.refl _ w).alloc (Nat.le_refl _) _).trans (hb1.mono (by simp))
  have hT2 := tabs_below hT hB1
  clear hT1 hb1
  go_wp2_with (go_at_call 23; refine (cuts_list _ hT2).mono ?_; rintro e w2 ⟨b, o, c, rfl, hlc, ⟨c10, c11⟩, ⟨c20, c21⟩, hb2⟩)
  have hB2 : Below w.heap.size w w2 := hB1.trans (hb2.mono hB1.size)
  have hT3 := tabs_below hT hB2
  clear hb2 hT2 hB1
  refine (unit_Up.calls 100 ⟨#[97, 195, 169]⟩ 2 3 _ hT3 cuts_up).mono ?_
  rintro e w3 ⟨rfl, hb3⟩
  have hB3 : Below w.heap.size w w3 := hB2.trans (hb3.mono hB2.size)
  have hT4 := tabs_below hT hB3
  clear hb3 hT3 hB2
  go_wp2_with (fail)
  refine (unit_Boundary.calls 100 ⟨#[97]⟩ 1 true _ hT4 cuts_boundary).mono ?_
  rintro e w4 ⟨rfl, hb4⟩
  have hB4 : Below w.heap.size w w4 := hB3.trans (hb4.mono hB3.size)
  clear hb4 hB3
  go_wp2
  go_ret
  exact ⟨rfl, hB4⟩
def bodkinlaw01_cuts.f : Option (Bool) := some true
theorem bodkinlaw01_cuts.calls (r : Bool) (w : World) (hT : Lib.Utf8Tabs 0 1 w) (h : bodkinlaw01_cuts.f = some r) :
    Calls Tryd.prog 21 #[] w fun e w' => e = .returned (.bool r) ∧ Below w.heap.size w w' := by
  obtain rfl := Option.some.inj h
  exact cuts_any w hT
end Go.Proofs.YtfhnfhgpaoddbaaDoor.U
