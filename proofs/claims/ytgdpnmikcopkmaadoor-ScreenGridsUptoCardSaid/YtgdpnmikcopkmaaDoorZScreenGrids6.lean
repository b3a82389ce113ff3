/- What the law ScreenGrids reaches of this seat's own texts, merged; what nothing uses is left out. -/
import Derived.Test.YtgdpnmikcopkmaaDoorZScreenGrids0
import Derived.Test.YtgdpnmikcopkmaaDoorZScreenGrids1
import Derived.Test.YtgdpnmikcopkmaaDoorZScreenGrids4
import Derived.Test.YtgdpnmikcopkmaaDoorZScreenGrids5
section
namespace Go.Proofs.YtgdpnmikcopkmaaDoor.Pu
open Go Go.RowKit Go.Proofs.YtgdpnmikcopkmaaDoor.Mu Go.Proofs.YtgdpnmikcopkmaaDoor.U Go.Proofs.YtgdpnmikcopkmaaDoorW.PrintWords Go.Proofs.YtgdpnmikcopkmaaDoorW.PrintLast Go.Proofs.YtgdpnmikcopkmaaDoorW.PrintMore
set_option linter.unusedVariables false
/-- The document's examples. -/
def exA : Sc × ByteArray := feedS (newSc 3 2,⟨#[]⟩) ⟨#[97,98,99]⟩
def exB : Sc × ByteArray := feedS exA ⟨#[27,91,75,100]⟩
theorem exA_c : exA.1.c = 2 := by kernel_rfl
theorem exA_r : exA.1.r = 0 := by kernel_rfl
theorem exA_full : exA.1.full = true := by kernel_rfl
def exR0 : List Cl := [⟨⟨#[97]⟩,1⟩,⟨⟨#[98]⟩,1⟩]
def exR1 : List Cl := [⟨⟨#[100]⟩,1⟩]
theorem ex_row0 : bodkinlaw22_row.f 10 ⟨#[97,98]⟩ = some exR0 := by kernel_rfl
theorem ex_row1 : bodkinlaw22_row.f 10 ⟨#[100]⟩ = some exR1 := by kernel_rfl
theorem exB_n : exB.1.frameN 2 = 2 := by kernel_rfl
theorem exB_nr : exB.1.nrows = 2 := by kernel_rfl
theorem exB_frame : frameL exB.1.rows 2 = [exR0,exR1] := by kernel_rfl
theorem ex_same0 : bodkinref22_SameRow.f 10 exR0 exR0 = some true := by kernel_rfl
theorem ex_same1 : bodkinref22_SameRow.f 10 exR1 exR1 = some true := by kernel_rfl
theorem exB_all : allEq [exR0,exR1] exB.1.rows 2 = true := by kernel_rfl
theorem ex_next : cluster_Next.f 50 ⟨#[97]⟩ 0 = some 1 := by kernel_rfl
theorem exA_fit : Fit exA 11 := (fit_new 3 2).feed ⟨#[97,98,99]⟩
theorem exB_fit : Fit exB 26 := exA_fit.feed ⟨#[27,91,75,100]⟩
end Go.Proofs.YtgdpnmikcopkmaaDoor.Pu
end
section
namespace Go.Proofs.YtgdpnmikcopkmaaDoor.U
open Go.RowKit Go.Proofs.YtgdpnmikcopkmaaDoor.Mu Go.Proofs.YtgdpnmikcopkmaaDoor.Pu Go.Proofs.YtgdpnmikcopkmaaDoorW.PrintWords Go.Proofs.YtgdpnmikcopkmaaDoorW.PrintLast Go.Proofs.YtgdpnmikcopkmaaDoorW.PrintMore
set_option linter.unusedVariables false
set_option linter.unusedSimpArgs false
attribute [local go_sem high] place_eq
def ex9.T : Bool × List (List Nat × List Nat) := (true,[([],[]),([0],[0]),([1],[1]),([2],[2]),([3],[3]),([4],[4]),([5,4],[4,5]),([6,4],[4,6]),([7,4],[4,7]),([4,4],[4]),([8,9,9,4],[4,8,9]),([4,10],[4,10]),([11,10],[11]),([12],[12]),([13,12],[12,13]),([14,12],[12,14]),([15,12],[12,15]),([12,12],[12]),([16,17,17,12],[12,16,17]),([12,18],[12,18]),([19,18],[19]),([20],[20]),([20],[20]),([21,22,20,20],[20,21,22]),([20,23],[20,23]),([24,23],[24]),([25],[25]),([26,25,25],[25,26]),([27,25],[25,27]),([25,28],[25,28]),([29,27,0,1,2,3,4,5,6,7,8,9,10,11,12,13,14,15,16,17,18,19,20,21,22,23,24,25,26,27,28,29],[29])])
def ex9.B : List Nat := [0,1,3,7,15,31,63,127,255,31,1023,2047,4095,8191,16383,32767,65535,8191,262143,524287,1048575,2097151,2097151,8388607,16777215,33554431,67108863,134217727,268435455,536870911,1073741823]
theorem ex9.tab : rtab .any (opsOf Tryd.f13 9) = ex9.T := by kernel_rfl
theorem ex9.bits : waitsOk ex9.T.2 ex9.B = true := by kernel_rfl
theorem sees6 {w w' : World} {a0 a1 a2 a3 a4 a5 : Addr} {v0 v1 v2 v3 v4 v5 : Value} (h : w.cell? a0 = some v0 ∧ w.cell? a1 = some v1 ∧ w.cell? a2 = some v2 ∧ w.cell? a3 = some v3 ∧ w.cell? a4 = some v4 ∧ w.cell? a5 = some v5) (hb : Below w.heap.size w w') : w'.cell? a0 = some v0 ∧ w'.cell? a1 = some v1 ∧ w'.cell? a2 = some v2 ∧ w'.cell? a3 = some v3 ∧ w'.cell? a4 = some v4 ∧ w'.cell? a5 = some v5 := ⟨cell_below h.1 hb,cell_below h.2.1 hb,cell_below h.2.2.1 hb,cell_below h.2.2.2.1 hb,cell_below h.2.2.2.2.1 hb,cell_below h.2.2.2.2.2 hb⟩
theorem sees6k {w w' : World} {q g : Nat} {T : Nat → Prop} {v0 v1 v2 v3 v4 v5 : Value} (h : w.cell? ⟨q,0,none⟩ = some v0 ∧ w.cell? ⟨q,1,none⟩ = some v1 ∧ w.cell? ⟨q,2,none⟩ = some v2 ∧ w.cell? ⟨q,3,none⟩ = some v3 ∧ w.cell? ⟨g,0,none⟩ = some v4 ∧ w.cell? ⟨g,1,none⟩ = some v5) (hk : Kept w w' T) (hq : ¬ T q) (hg : ¬ T g) : w'.cell? ⟨q,0,none⟩ = some v0 ∧ w'.cell? ⟨q,1,none⟩ = some v1 ∧ w'.cell? ⟨q,2,none⟩ = some v2 ∧ w'.cell? ⟨q,3,none⟩ = some v3 ∧ w'.cell? ⟨g,0,none⟩ = some v4 ∧ w'.cell? ⟨g,1,none⟩ = some v5 :=
 ⟨kept_cell h.1 hk hq,kept_cell h.2.1 hk hq,kept_cell h.2.2.1 hk hq,kept_cell h.2.2.2.1 hk hq,kept_cell h.2.2.2.2.1 hk hg,kept_cell h.2.2.2.2.2 hk hg⟩
set_option maxRecDepth 100000 in
set_option maxHeartbeats 8000000 in
theorem law_shows (W : World) (hT : Lib.Utf8Tabs 0 1 W) (h2 : 2 ≤ W.heap.size) :
  Calls Tryd.prog 13 #[] W fun e w' => e = .returned (.bool true) ∧ Below W.heap.size W w' := by
 have hnil : ∀ (w : World) p,(binOp .neq 28 (.pointer (some p)) (.pointer none)).run Tryd.prog w = (binOp .neq 28 (.pointer (some p)) (.pointer none)).run Tryd.prog w := fun _ _ => rfl
 have hq : ∀ (w : World) (a : Option Addr),(binOp .eql 28 (.pointer a) (.pointer none)).run Tryd.prog w = .ok (.bool a.isNone) w := fun w a => run_eql_ptr_nil (tp := 28) (te := 69) w a Tryd.underlying28 (j := _) rfl
 clear hnil
 have eC := exA_c
 have eR := exA_r
 have eF := exA_full
 have fA := exA_fit
 have fB := exB_fit
 have hAe := Lib.hid (show feedS (newSc 3 2,⟨#[]⟩) ⟨#[97,98,99]⟩ = exA from rfl)
 have hBe := Lib.hid (show feedS exA ⟨#[27,91,75,100]⟩ = exB from rfl)
 go_enter Tryd.func13,Tryd.ntmps13
 go_upto_region 5 with (first | (go_at_call 39;refine (cluster_Next.calls 50 _ _ _ _ hT ex_next).mono ?_;rintro e w1 ⟨rfl,hb1⟩) | (go_at_call 14;refine (scr_new 3 2 _).mono ?_;rintro e w2 ⟨p,rfl,hp,hS,hb2⟩;have hb12 := hb1.trans (hb2.mono hb1.size);have hS2 := hS W.heap.size hb1.size;have hT2 := tabs_below hT hb12;have hsz2 := hb12.size;clear hS) | (go_at_call 16;refine (scr_feed hS2 hsz2 h2 hT2 (fit_new 3 2) ⟨#[97,98,99]⟩ (by decide)).mono ?_;rintro e w3 ⟨rfl,O3,hM3⟩;rw [hAe.out] at hM3))
 have hM3' := hM3
 have hs3 := hM3.scr.at_
 have hcur := sc_cursor hs3
 have hful := sc_full hs3
 rw [eC,eR] at hcur
 rw [eF] at hful
 have hT3 := tabs_base hT2 hM3.below h2
 clear hb1 hb2 hT hS2
 go_upto_region 7 with (first | (go_at_call 26;refine hcur.mono ?_;rintro e w4 ⟨rfl,hb4⟩;have hful4 := sc_full (hs3.below hb4);rw [eF] at hful4) | (go_at_call 25;refine hful4.mono ?_;rintro e w5 ⟨rfl,hb5⟩))
 have hb45 := hb4.trans (hb5.mono hb4.size)
 have hsz3 : W.heap.size ≤ w3.heap.size := Nat.le_trans hsz2 hM3.kept.1
 have hM5 := hM3.then_ (Made.of_below hM3.scr hb45 hsz3)
 have hsz5 : W.heap.size ≤ w5.heap.size := Nat.le_trans hsz3 hb45.size
 have hT5 := tabs_below hT3 hb45
 clear hb4 hb5 hb45 hcur hful hful4 hs3 hM3 hM3' hT3
 go_upto_region 9 with (first | (go_at_call 16;refine (scr_feed hM5.scr hsz5 h2 hT5 fA ⟨#[27,91,75,100]⟩ (by decide)).mono ?_;rintro e w6 ⟨rfl,O6,hM6⟩;rw [hBe.out] at hM6;have hsz6 : W.heap.size ≤ w6.heap.size := Nat.le_trans hsz5 hM6.kept.1) | (go_at_call 20;refine (scr_frame hM6.scr hsz6 fB.ok 2).mono ?_;rintro e w7 ⟨rv,rfl,hS7,hM7⟩;rw [exB_n,exB_frame] at hS7;obtain ⟨gF,cF,rfl,hgF,hgF2,_,_⟩ := Kd.S_form hS7 (by decide)))
 have hM67 := (hM5.then_ hM6).then_ hM7
 have hsz7 : W.heap.size ≤ w7.heap.size := Nat.le_trans hsz6 hM7.kept.1
 have hal := below_alloc (Below.refl _ w7) (.cells #[.int .i64 exB.1.w,.slice (some ⟨gF,0,none⟩) 2 cF,.int .i64 exB.1.r,.int .i64 exB.1.c] 26 (0,0))
 have hM8 := hM67.then_ (Made.of_below hM67.scr hal hsz7)
 have hF8 := Kd.S_below hS7 hal
 have hq8 := World.alloc_heap_new w7 (.cells #[.int .i64 exB.1.w,.slice (some ⟨gF,0,none⟩) 2 cF,.int .i64 exB.1.r,.int .i64 exB.1.c] 26 (0,0))
 obtain ⟨ad0,A0,k0,had0,r0,hk0,hC0⟩ := at_L3 (Kd.S_reads' hF8).2.2 0 (by decide) (by decide)
 obtain ⟨ad1,A1,k1,had1,r1,hk1,hC1⟩ := at_L3 (Kd.S_reads' hF8).2.2 1 (by decide) (by decide)
 injection had0 with had0
 subst had0
 injection had1 with had1
 subst had1
 have hC0 : Kd.C k38 _ A0 2 exR0 := hC0
 have hC1 : Kd.C k38 _ A1 1 exR1 := hC1
 have hk0 : 2 ≤ k0 := hk0
 have hk1 : 1 ≤ k1 := hk1
 have r0 : (w7.alloc (.cells #[.int .i64 exB.1.w,.slice (some ⟨gF,0,none⟩) 2 cF,.int .i64 exB.1.r,.int .i64 exB.1.c] 26 (0,0))).cell? ⟨gF,0,none⟩ = some (.slice A0 2 k0) := r0
 have r1 : (w7.alloc (.cells #[.int .i64 exB.1.w,.slice (some ⟨gF,0,none⟩) 2 cF,.int .i64 exB.1.r,.int .i64 exB.1.c] 26 (0,0))).cell? ⟨gF,1,none⟩ = some (.slice A1 1 k1) := r1
 have hpq := hM6.scr.lt
 have hOq := hM6.scr.bd
 have hq6 : w6.heap.size ≤ w7.heap.size := hM7.kept.1
 have hnk : ∀ k,w6.heap.size ≤ k → ¬ (O6 k ∨ k = p) := fun k hk he => he.elim (fun h => by have := hOq k h;omega) (fun h => by omega)
 have eN := exB_nr
 have eA := exB_all
 generalize hqe : w7.heap.size = q at hq8 hq6 ⊢
 have hsz8 : W.heap.size ≤ (w7.alloc (.cells #[.int .i64 exB.1.w,.slice (some ⟨gF,0,none⟩) 2 cF,.int .i64 exB.1.r,.int .i64 exB.1.c] 26 (0,0))).heap.size := by rw [World.size_alloc];omega
 generalize w7.alloc (.cells #[.int .i64 exB.1.w,.slice (some ⟨gF,0,none⟩) 2 cF,.int .i64 exB.1.r,.int .i64 exB.1.c] 26 (0,0)) = w8 at hM8 hF8 hq8 hC0 hC1 r0 r1 hsz8 ⊢
 clear hM67 hal hM5 hM6 hM7 hS7 hT5 eC eR eF hAe hBe hqe hgF2 hq
 refine start_ (n := 31) (S := fun w' => w'.cell? ⟨q,0,none⟩ = some (.int .i64 exB.1.w) ∧ w'.cell? ⟨q,1,none⟩ = some (.slice (some ⟨gF,0,none⟩) 2 cF) ∧ w'.cell? ⟨q,2,none⟩ = some (.int .i64 exB.1.r) ∧ w'.cell? ⟨q,3,none⟩ = some (.int .i64 exB.1.c) ∧ w'.cell? ⟨gF,0,none⟩ = some (.slice A0 2 k0) ∧ w'.cell? ⟨gF,1,none⟩ = some (.slice A1 1 k1)) (ds := []) #[false,false,false,false,false,false,false,false,false,false,false,false,false,false,false,false,false,false,false,false,false,false,false,false,false,false,false,false,false,false,false] (by kernel_rfl) rfl rfl ⟨blk_cell hq8 0,blk_cell hq8 1,blk_cell hq8 2,blk_cell hq8 3,r0,r1⟩ (fun hHeld => ?_);refine with_tabW ex9.tab ex9.bits (fun HT_ HW_ => ?_)
 have hdr8 : Below w8.heap.size w8 w8.drew := below_drew (Below.refl _ _)
 have hM9 := hM8.then_ (Made.of_below hM8.scr hdr8 hsz8)
 have hF9 := Kd.S_below hF8 hdr8
 have hC0 := Kd.C_below hC0 hdr8
 have hC1 := Kd.C_below hC1 hdr8
 have hsz9 : W.heap.size ≤ w8.drew.heap.size := hsz8
 generalize w8.drew = w9 at hM9 hF9 hC0 hC1 hsz9 hHeld ⊢
 clear hM8 hF8 hq8 r0 r1 hdr8
 refine pure_ (i := 0) (N := (some 25)) (v := ?_) (a' := ?_) #[true,false,false,false,false,false,false,false,false,false,false,false,false,false,false,false,false,false,false,false,false,false,false,false,false,false,false,false,false,false,false] rfl rfl (any_of HT_.out (by kernel_rfl)) (fun _ _ _ h => h) (Or.inl ⟨by rfl,?_⟩) ?_ ?_
 rotate_left
 ·intro w'
  go_simp
  with_reducible rfl
 rotate_left
 ·simp only [Act.put,List.setIfInBounds_toArray,List.set_cons_zero,List.set_cons_succ,i64_w,i32_w]
  rfl
 refine take_ (i := 1) (N := (some 26)) (v := ?_) (a' := ?_) #[true,true,false,false,false,false,false,false,false,false,false,false,false,false,false,false,false,false,false,false,false,false,false,false,false,false,false,false,false,false,false] rfl rfl (take_ofW HT_.out HW_.out (by kernel_rfl)) (fun _ _ _ h => h) (Or.inl ⟨by rfl,?_⟩) hHeld ?_ ?_
 rotate_left
 ·rintro w' ⟨s1,s2,s3,s4,s5,s6⟩
  go_simp
  with_reducible rfl
 rotate_left
 ·simp only [Act.put,List.setIfInBounds_toArray,List.set_cons_zero,List.set_cons_succ,i64_w,i32_w]
  rfl
 refine pure_ (i := 2) (N := (some 27)) (v := ?_) (a' := ?_) #[true,true,true,false,false,false,false,false,false,false,false,false,false,false,false,false,false,false,false,false,false,false,false,false,false,false,false,false,false,false,false] rfl rfl (any_of HT_.out (by kernel_rfl)) (fun _ _ _ h => h) (Or.inl ⟨by rfl,?_⟩) ?_ ?_
 rotate_left
 ·intro w'
  go_simp
  with_reducible rfl
 rotate_left
 ·simp only [Act.put,List.setIfInBounds_toArray,List.set_cons_zero,List.set_cons_succ,i64_w,i32_w]
  rfl
 refine pure_ (i := 3) (N := (some 28)) (v := ?_) (a' := ?_) #[true,true,true,true,false,false,false,false,false,false,false,false,false,false,false,false,false,false,false,false,false,false,false,false,false,false,false,false,false,false,false] rfl rfl (any_of HT_.out (by kernel_rfl)) (fun _ _ _ h => h) (Or.inl ⟨by rfl,?_⟩) ?_ ?_
 rotate_left
 ·intro w'
  go_simp
  with_reducible rfl
 rotate_left
 ·simp only [Act.put,List.setIfInBounds_toArray,List.set_cons_zero,List.set_cons_succ,i64_w,i32_w]
  rfl
 refine pure_ (i := 4) (N := (some 29)) (v := ?_) (a' := ?_) #[true,true,true,true,true,false,false,false,false,false,false,false,false,false,false,false,false,false,false,false,false,false,false,false,false,false,false,false,false,false,false] rfl rfl (any_of HT_.out (by kernel_rfl)) (fun _ _ _ h => h) (Or.inl ⟨by rfl,?_⟩) ?_ ?_
 rotate_left
 ·intro w'
  go_simp
  with_reducible rfl
 rotate_left
 ·simp only [Act.put,List.setIfInBounds_toArray,List.set_cons_zero,List.set_cons_succ,i64_w,i32_w]
  rfl
 refine pure_ (i := 5) (N := (some 30)) (v := ?_) (a' := ?_) #[true,true,true,true,true,true,false,false,false,false,false,false,false,false,false,false,false,false,false,false,false,false,false,false,false,false,false,false,false,false,false] rfl rfl (any_of HT_.out (by kernel_rfl)) (fun _ _ _ h => h) (Or.inl ⟨by rfl,?_⟩) ?_ ?_
 rotate_left
 ·intro w'
  go_simp
  with_reducible rfl
 rotate_left
 ·simp only [Act.put,List.setIfInBounds_toArray,List.set_cons_zero,List.set_cons_succ,i64_w,i32_w]
  rfl
 refine take_ (i := 6) (N := (some 31)) (v := ?_) (a' := ?_) #[true,true,true,true,true,true,true,false,false,false,false,false,false,false,false,false,false,false,false,false,false,false,false,false,false,false,false,false,false,false,false] rfl rfl (take_ofW HT_.out HW_.out (by kernel_rfl)) (fun _ _ _ h => h) (Or.inl ⟨by rfl,?_⟩) hHeld ?_ ?_
 rotate_left
 ·rintro w' ⟨s1,s2,s3,s4,s5,s6⟩
  go_simp
  with_reducible rfl
 rotate_left
 ·simp only [Act.put,List.setIfInBounds_toArray,List.set_cons_zero,List.set_cons_succ,i64_w,i32_w]
  rfl
 refine pure_ (i := 7) (N := (some 32)) (v := ?_) (a' := ?_) #[true,true,true,true,true,true,true,true,false,false,false,false,false,false,false,false,false,false,false,false,false,false,false,false,false,false,false,false,false,false,false] rfl rfl (any_of HT_.out (by kernel_rfl)) (fun _ _ _ h => h) (Or.inl ⟨by rfl,?_⟩) ?_ ?_
 rotate_left
 ·intro w'
  go_simp
  with_reducible rfl
 rotate_left
 ·simp only [Act.put,List.setIfInBounds_toArray,List.set_cons_zero,List.set_cons_succ,i64_w,i32_w]
  rfl
 refine take_ (i := 8) (N := (some 33)) (v := ?_) (a' := ?_) #[true,true,true,true,true,true,true,true,true,false,false,false,false,false,false,false,false,false,false,false,false,false,false,false,false,false,false,false,false,false,false] rfl rfl (take_ofW HT_.out HW_.out (by kernel_rfl)) (fun _ _ _ h => h) (Or.inl ⟨by rfl,?_⟩) hHeld ?_ ?_
 rotate_left
 ·rintro w' ⟨s1,s2,s3,s4,s5,s6⟩
  go_simp
  with_reducible rfl
 rotate_left
 ·simp only [Act.put,List.setIfInBounds_toArray,List.set_cons_zero,List.set_cons_succ,i64_w,i32_w]
  rfl
 refine one_ (i := 9) (N := (some 34)) #[true,true,true,true,true,true,true,true,true,true,false,false,false,false,false,false,false,false,false,false,false,false,false,false,false,false,false,false,false,false,false] rfl rfl (one_of HT_.out (by kernel_rfl)) (by decide) (fun K hK => ?_)
 refine call_ 27 #[.string ⟨#[97,98]⟩] (by rfl) rfl au3 ?_
 refine (bodkinlaw22_row.calls 10 _ _ _ ex_row0).mono ?_
 rintro e w10 ⟨va,rfl,hVa,hba⟩
 obtain ⟨Ba,da,rfl⟩ := Kd.R_slice hVa
 have hM10 := hM9.then_ (Made.of_below hM9.scr hba hsz9)
 have hF10 := Kd.S_below hF9 hba
 have hsz10 : W.heap.size ≤ w10.heap.size := Nat.le_trans hsz9 hba.size
 have hC0 := Kd.C_below hC0 hba
 have hC1 := Kd.C_below hC1 hba
 have hDa := (Kd.R_reads' hVa).2.2
 have hDca := (Kd.R_reads' hVa).2.1
 refine ⟨_,rfl,hK.out _ _ (sees6 hHeld hba) (fun hHeld => ?_)⟩
 clear hK K hM9 hF9
 refine norm_ (a' := ?_) ?_ ?_
 rotate_left
 ·show Act.put _ (some 34) _ = _
  simp only [Act.put,List.setIfInBounds_toArray,List.set_cons_zero,List.set_cons_succ,i64_w,i32_w]
  rfl
 refine one_ (i := 10) (N := (some 35)) #[true,true,true,true,true,true,true,true,true,true,true,false,false,false,false,false,false,false,false,false,false,false,false,false,false,false,false,false,false,false,false] rfl rfl (one_of HT_.out (by kernel_rfl)) (by decide) (fun K hK => ?_)
 refine call_ 36 #[.slice A0 2 k0,.slice Ba exR0.length da] (by rfl) rfl au3 ?_
 refine (bodkinref22_SameRow.calls 10 A0 k0 exR0 Ba da exR0 true _ hC0 (by assumption) hDa (by assumption) ex_same0).mono ?_
 rintro e w11 ⟨rfl,hdr10⟩
 have hbs10 := hdr10.below
 have hM11 := hM10.then_ (Made.of_below hM10.scr hbs10 hsz10)
 have hF11 := Kd.S_below hF10 hbs10
 have hsz11 : W.heap.size ≤ w11.heap.size := Nat.le_trans hsz10 hbs10.size
 have hC0 := Kd.C_below hC0 hbs10
 have hC1 := Kd.C_below hC1 hbs10
 refine ⟨_,rfl,hK.out _ _ (sees6 hHeld hbs10) (fun hHeld => ?_)⟩
 clear hK K hM10 hF10
 refine norm_ (a' := ?_) ?_ ?_
 rotate_left
 ·show Act.put _ (some 35) _ = _
  simp only [Act.put,List.setIfInBounds_toArray,List.set_cons_zero,List.set_cons_succ,i64_w,i32_w]
  rfl
 refine pure_ (i := 11) (N := (some 36)) (v := ?_) (a' := ?_) #[true,true,true,true,true,true,true,true,true,true,true,true,false,false,false,false,false,false,false,false,false,false,false,false,false,false,false,false,false,false,false] rfl rfl (any_of HT_.out (by kernel_rfl)) (fun _ _ _ h => h) (Or.inl ⟨by rfl,?_⟩) ?_ ?_
 rotate_left
 ·intro w'
  go_simp
  with_reducible rfl
 rotate_left
 ·simp only [Act.put,List.setIfInBounds_toArray,List.set_cons_zero,List.set_cons_succ,i64_w,i32_w]
  rfl
 refine pure_ (i := 12) (N := (some 37)) (v := ?_) (a' := ?_) #[true,true,true,true,true,true,true,true,true,true,true,true,true,false,false,false,false,false,false,false,false,false,false,false,false,false,false,false,false,false,false] rfl rfl (any_of HT_.out (by kernel_rfl)) (fun _ _ _ h => h) (Or.inl ⟨by rfl,?_⟩) ?_ ?_
 rotate_left
 ·intro w'
  go_simp
  with_reducible rfl
 rotate_left
 ·simp only [Act.put,List.setIfInBounds_toArray,List.set_cons_zero,List.set_cons_succ,i64_w,i32_w]
  rfl
 refine pure_ (i := 13) (N := (some 38)) (v := ?_) (a' := ?_) #[true,true,true,true,true,true,true,true,true,true,true,true,true,true,false,false,false,false,false,false,false,false,false,false,false,false,false,false,false,false,false] rfl rfl (any_of HT_.out (by kernel_rfl)) (fun _ _ _ h => h) (Or.inl ⟨by rfl,?_⟩) ?_ ?_
 rotate_left
 ·intro w'
  go_simp
  with_reducible rfl
 rotate_left
 ·simp only [Act.put,List.setIfInBounds_toArray,List.set_cons_zero,List.set_cons_succ,i64_w,i32_w]
  rfl
 refine take_ (i := 14) (N := (some 39)) (v := ?_) (a' := ?_) #[true,true,true,true,true,true,true,true,true,true,true,true,true,true,true,false,false,false,false,false,false,false,false,false,false,false,false,false,false,false,false] rfl rfl (take_ofW HT_.out HW_.out (by kernel_rfl)) (fun _ _ _ h => h) (Or.inl ⟨by rfl,?_⟩) hHeld ?_ ?_
 rotate_left
 ·rintro w' ⟨s1,s2,s3,s4,s5,s6⟩
  go_simp
  with_reducible rfl
 rotate_left
 ·simp only [Act.put,List.setIfInBounds_toArray,List.set_cons_zero,List.set_cons_succ,i64_w,i32_w]
  rfl
 refine pure_ (i := 15) (N := (some 40)) (v := ?_) (a' := ?_) #[true,true,true,true,true,true,true,true,true,true,true,true,true,true,true,true,false,false,false,false,false,false,false,false,false,false,false,false,false,false,false] rfl rfl (any_of HT_.out (by kernel_rfl)) (fun _ _ _ h => h) (Or.inl ⟨by rfl,?_⟩) ?_ ?_
 rotate_left
 ·intro w'
  go_simp
  with_reducible rfl
 rotate_left
 ·simp only [Act.put,List.setIfInBounds_toArray,List.set_cons_zero,List.set_cons_succ,i64_w,i32_w]
  rfl
 refine take_ (i := 16) (N := (some 41)) (v := ?_) (a' := ?_) #[true,true,true,true,true,true,true,true,true,true,true,true,true,true,true,true,true,false,false,false,false,false,false,false,false,false,false,false,false,false,false] rfl rfl (take_ofW HT_.out HW_.out (by kernel_rfl)) (fun _ _ _ h => h) (Or.inl ⟨by rfl,?_⟩) hHeld ?_ ?_
 rotate_left
 ·rintro w' ⟨s1,s2,s3,s4,s5,s6⟩
  go_simp
  with_reducible rfl
 rotate_left
 ·simp only [Act.put,List.setIfInBounds_toArray,List.set_cons_zero,List.set_cons_succ,i64_w,i32_w]
  rfl
 refine one_ (i := 17) (N := (some 42)) #[true,true,true,true,true,true,true,true,true,true,true,true,true,true,true,true,true,true,false,false,false,false,false,false,false,false,false,false,false,false,false] rfl rfl (one_of HT_.out (by kernel_rfl)) (by decide) (fun K hK => ?_)
 refine call_ 27 #[.string ⟨#[100]⟩] (by rfl) rfl au3 ?_
 refine (bodkinlaw22_row.calls 10 _ _ _ ex_row1).mono ?_
 rintro e w12 ⟨vb,rfl,hVb,hbb⟩
 obtain ⟨Bb,db,rfl⟩ := Kd.R_slice hVb
 have hM12 := hM11.then_ (Made.of_below hM11.scr hbb hsz11)
 have hF12 := Kd.S_below hF11 hbb
 have hsz12 : W.heap.size ≤ w12.heap.size := Nat.le_trans hsz11 hbb.size
 have hC0 := Kd.C_below hC0 hbb
 have hC1 := Kd.C_below hC1 hbb
 have hDb := (Kd.R_reads' hVb).2.2
 have hDcb := (Kd.R_reads' hVb).2.1
 refine ⟨_,rfl,hK.out _ _ (sees6 hHeld hbb) (fun hHeld => ?_)⟩
 clear hK K hM11 hF11
 refine norm_ (a' := ?_) ?_ ?_
 rotate_left
 ·show Act.put _ (some 42) _ = _
  simp only [Act.put,List.setIfInBounds_toArray,List.set_cons_zero,List.set_cons_succ,i64_w,i32_w]
  rfl
 refine one_ (i := 18) (N := (some 43)) #[true,true,true,true,true,true,true,true,true,true,true,true,true,true,true,true,true,true,true,false,false,false,false,false,false,false,false,false,false,false,false] rfl rfl (one_of HT_.out (by kernel_rfl)) (by decide) (fun K hK => ?_)
 refine call_ 36 #[.slice A1 1 k1,.slice Bb exR1.length db] (by rfl) rfl au3 ?_
 refine (bodkinref22_SameRow.calls 10 A1 k1 exR1 Bb db exR1 true _ hC1 (by assumption) hDb (by assumption) ex_same1).mono ?_
 rintro e w13 ⟨rfl,hdr12⟩
 have hbs12 := hdr12.below
 have hM13 := hM12.then_ (Made.of_below hM12.scr hbs12 hsz12)
 have hF13 := Kd.S_below hF12 hbs12
 have hsz13 : W.heap.size ≤ w13.heap.size := Nat.le_trans hsz12 hbs12.size
 have hC0 := Kd.C_below hC0 hbs12
 have hC1 := Kd.C_below hC1 hbs12
 refine ⟨_,rfl,hK.out _ _ (sees6 hHeld hbs12) (fun hHeld => ?_)⟩
 clear hK K hM12 hF12
 refine norm_ (a' := ?_) ?_ ?_
 rotate_left
 ·show Act.put _ (some 43) _ = _
  simp only [Act.put,List.setIfInBounds_toArray,List.set_cons_zero,List.set_cons_succ,i64_w,i32_w]
  rfl
 refine pure_ (i := 19) (N := (some 44)) (v := ?_) (a' := ?_) #[true,true,true,true,true,true,true,true,true,true,true,true,true,true,true,true,true,true,true,true,false,false,false,false,false,false,false,false,false,false,false] rfl rfl (any_of HT_.out (by kernel_rfl)) (fun _ _ _ h => h) (Or.inl ⟨by rfl,?_⟩) ?_ ?_
 rotate_left
 ·intro w'
  go_simp
  with_reducible rfl
 rotate_left
 ·simp only [Act.put,List.setIfInBounds_toArray,List.set_cons_zero,List.set_cons_succ,i64_w,i32_w]
  rfl
 refine pure_ (i := 20) (N := (some 45)) (v := ?_) (a' := ?_) #[true,true,true,true,true,true,true,true,true,true,true,true,true,true,true,true,true,true,true,true,true,false,false,false,false,false,false,false,false,false,false] rfl rfl (any_of HT_.out (by kernel_rfl)) (fun _ _ _ h => h) (Or.inl ⟨by rfl,?_⟩) ?_ ?_
 rotate_left
 ·intro w'
  go_simp
  with_reducible rfl
 rotate_left
 ·simp only [Act.put,List.setIfInBounds_toArray,List.set_cons_zero,List.set_cons_succ,i64_w,i32_w]
  rfl
 refine pure_ (i := 21) (N := (some 46)) (v := ?_) (a' := ?_) #[true,true,true,true,true,true,true,true,true,true,true,true,true,true,true,true,true,true,true,true,true,true,false,false,false,false,false,false,false,false,false] rfl rfl (any_of HT_.out (by kernel_rfl)) (fun _ _ _ h => h) (Or.inl ⟨by rfl,?_⟩) ?_ ?_
 rotate_left
 ·intro w'
  go_simp
  with_reducible rfl
 rotate_left
 ·simp only [Act.put,List.setIfInBounds_toArray,List.set_cons_zero,List.set_cons_succ,i64_w,i32_w]
  rfl
 refine take_ (i := 22) (N := (some 47)) (v := ?_) (a' := ?_) #[true,true,true,true,true,true,true,true,true,true,true,true,true,true,true,true,true,true,true,true,true,true,true,false,false,false,false,false,false,false,false] rfl rfl (take_ofW HT_.out HW_.out (by kernel_rfl)) (fun _ _ _ h => h) (Or.inl ⟨by rfl,?_⟩) hHeld ?_ ?_
 rotate_left
 ·rintro w' ⟨s1,s2,s3,s4,s5,s6⟩
  go_simp
  with_reducible rfl
 rotate_left
 ·simp only [Act.put,List.setIfInBounds_toArray,List.set_cons_zero,List.set_cons_succ,i64_w,i32_w]
  rfl
 refine one_ (i := 23) (N := (some 48)) #[true,true,true,true,true,true,true,true,true,true,true,true,true,true,true,true,true,true,true,true,true,true,true,true,false,false,false,false,false,false,false] rfl rfl (one_of HT_.out (by kernel_rfl)) (by decide) (fun K hK => ?_)
 refine call_ 18 #[.pointer (some ⟨p,0,none⟩),.agg #[.int .i64 exB.1.w,.slice (some ⟨gF,0,none⟩) 2 cF,.int .i64 exB.1.r,.int .i64 exB.1.c]] (by rfl) rfl au3 ?_
 have hFk := hF13
 refine (sc_shows hM13.scr.at_ hsz13 fB.ok exB.1.w exB.1.r exB.1.c (some ⟨gF,0,none⟩) cF [exR0,exR1] (fun w hk => (Kd.S_reads' (Kd.S_kept hFk hk (fun k hk he => hnk k hk (he.imp And.left id)))).2.2) (Kd.S_reads' hFk).2.1 (by decide) rfl (by decide) (by decide) (by rw [eN];decide) rfl rfl).mono ?_
 rintro e w14 ⟨rfl,hst14⟩
 have hM14 := hM13.then_ (Made.of_same hM13.scr.bd hst14)
 have hsz14 : W.heap.size ≤ w14.heap.size := Nat.le_trans hsz13 hst14.size
 have eA2 : allEq [exR0,exR1] exB.1.rows [exR0,exR1].length = true := eA
 rw [eA2]
 refine ⟨_,rfl,hK.out _ _ (sees6k hHeld (hst14.kept) (fun he => hnk q hq6 (he.imp And.left id)) (fun he => hnk gF hgF (he.imp And.left id))) (fun hHeld => ?_)⟩
 clear hK K hM13 hF13 hFk hst14
 refine norm_ (a' := ?_) ?_ ?_
 rotate_left
 ·show Act.put _ (some 48) _ = _
  simp only [Act.put,List.setIfInBounds_toArray,List.set_cons_zero,List.set_cons_succ,i64_w,i32_w]
  rfl
 refine pure_ (i := 24) (N := (some 49)) (v := ?_) (a' := ?_) #[true,true,true,true,true,true,true,true,true,true,true,true,true,true,true,true,true,true,true,true,true,true,true,true,true,false,false,false,false,false,false] rfl rfl (any_of HT_.out (by kernel_rfl)) (fun _ _ _ h => h) (Or.inl ⟨by rfl,?_⟩) ?_ ?_
 rotate_left
 ·intro w'
  go_simp
  with_reducible rfl
 rotate_left
 ·simp only [Act.put,List.setIfInBounds_toArray,List.set_cons_zero,List.set_cons_succ,i64_w,i32_w]
  rfl
 refine pure_ (i := 25) (N := (some 50)) (v := ?_) (a' := ?_) #[true,true,true,true,true,true,true,true,true,true,true,true,true,true,true,true,true,true,true,true,true,true,true,true,true,true,false,false,false,false,false] rfl rfl (any_of HT_.out (by kernel_rfl)) (fun _ _ _ h => h) (Or.inl ⟨by rfl,?_⟩) ?_ ?_
 rotate_left
 ·intro w'
  go_simp
  with_reducible rfl
 rotate_left
 ·simp only [Act.put,List.setIfInBounds_toArray,List.set_cons_zero,List.set_cons_succ,i64_w,i32_w]
  rfl
 refine pure_ (i := 26) (N := (some 51)) (v := ?_) (a' := ?_) #[true,true,true,true,true,true,true,true,true,true,true,true,true,true,true,true,true,true,true,true,true,true,true,true,true,true,true,false,false,false,false] rfl rfl (any_of HT_.out (by kernel_rfl)) (fun _ _ _ h => h) (Or.inl ⟨by rfl,?_⟩) ?_ ?_
 rotate_left
 ·intro w'
  go_simp
  with_reducible rfl
 rotate_left
 ·simp only [Act.put,List.setIfInBounds_toArray,List.set_cons_zero,List.set_cons_succ,i64_w,i32_w]
  rfl
 refine one_ (i := 27) (N := (some 52)) #[true,true,true,true,true,true,true,true,true,true,true,true,true,true,true,true,true,true,true,true,true,true,true,true,true,true,true,true,false,false,false] rfl rfl (one_of HT_.out (by kernel_rfl)) (by decide) (fun K hK => ?_)
 refine call_ 21 #[.pointer (some ⟨p,0,none⟩)] (by rfl) rfl au3 ?_
 refine (scr_rows hM14.scr hsz14 fB.ok).mono ?_
 rintro e w15 ⟨rfl,hr15⟩
 have hM15 := hM14.then_ hr15
 rw [eN]
 refine ⟨_,rfl,hK.out _ _ (sees6k hHeld hr15.kept (fun he => hnk q hq6 he) (fun he => hnk gF hgF he)) (fun hHeld => ?_)⟩
 clear hK K hM14 hr15
 refine norm_ (a' := ?_) ?_ ?_
 rotate_left
 ·show Act.put _ (some 52) _ = _
  simp only [Act.put,List.setIfInBounds_toArray,List.set_cons_zero,List.set_cons_succ,i64_w,i32_w]
  rfl
 refine pure_ (i := 28) (N := (some 53)) (v := ?_) (a' := ?_) #[true,true,true,true,true,true,true,true,true,true,true,true,true,true,true,true,true,true,true,true,true,true,true,true,true,true,true,true,true,false,false] rfl rfl (any_of HT_.out (by kernel_rfl)) (fun _ _ _ h => h) (Or.inl ⟨by rfl,?_⟩) ?_ ?_
 rotate_left
 ·intro w'
  go_simp
  with_reducible rfl
 rotate_left
 ·simp only [Act.put,List.setIfInBounds_toArray,List.set_cons_zero,List.set_cons_succ,i64_w,i32_w]
  rfl
 refine pure_ (i := 29) (N := (some 54)) (v := ?_) (a' := ?_) #[true,true,true,true,true,true,true,true,true,true,true,true,true,true,true,true,true,true,true,true,true,true,true,true,true,true,true,true,true,true,false] rfl rfl (any_of HT_.out (by kernel_rfl)) (fun _ _ _ h => h) (Or.inl ⟨by rfl,?_⟩) ?_ ?_
 rotate_left
 ·intro w'
  go_simp
  with_reducible rfl
 rotate_left
 ·simp only [Act.put,List.setIfInBounds_toArray,List.set_cons_zero,List.set_cons_succ,i64_w,i32_w]
  rfl
 refine pure_ (i := 30) (N := (some 0)) (v := ?_) (a' := ?_) #[true,true,true,true,true,true,true,true,true,true,true,true,true,true,true,true,true,true,true,true,true,true,true,true,true,true,true,true,true,true,true] rfl rfl (any_of HT_.out (by kernel_rfl)) (fun _ _ _ h => h) (Or.inl ⟨by rfl,?_⟩) ?_ ?_
 rotate_left
 ·intro w'
  go_simp
  with_reducible rfl
 rotate_left
 ·simp only [Act.put,List.setIfInBounds_toArray,List.set_cons_zero,List.set_cons_succ,i64_w,i32_w]
  rfl
 refine done_ (done_of HT_.out (by kernel_rfl)) ?_
 clear HT_ HW_
 go_wp2
 first | refine bodyPost_ret (results_tmp rfl _ _ _) rfl ?_ | ((try simp only [Exit.inBlock,Exit.then]);refine bodyPost_ret (results_tmp rfl _ _ _) rfl ?_) | (go_wp2;refine bodyPost_ret (results_tmp rfl _ _ _) rfl ?_)
 exact ⟨rfl,hb12.trans hM15.below⟩
end Go.Proofs.YtgdpnmikcopkmaaDoor.U
end
section
namespace Go.Proofs.YtgdpnmikcopkmaaDoor.U
open Go.RowKit Go.Proofs.YtgdpnmikcopkmaaDoor.Mu Go.Proofs.YtgdpnmikcopkmaaDoor.Pu Go.Proofs.YtgdpnmikcopkmaaDoorW.PrintWords Go.Proofs.YtgdpnmikcopkmaaDoorW.PrintLast Go.Proofs.YtgdpnmikcopkmaaDoorW.PrintMore
set_option linter.unusedVariables false
set_option linter.unusedSimpArgs false
/-- Two screens,from one world to another. -/
structure Two (base pa pb : Nat) (w0 : World) (A0 B0 : Nat → Prop) (w : World) (Oa Ob : Nat → Prop) (Sa Sb : Sc × ByteArray) : Prop where
 a : Scr base pa Oa w Sa
 b : Scr base pb Ob w Sb
 ap : Apart pa Oa pb Ob
 sa : ∀ k,Oa k → A0 k ∨ w0.heap.size ≤ k
 sb : ∀ k,Ob k → B0 k ∨ w0.heap.size ≤ k
 below : Below base w0 w
 kept : Kept w0 w (fun k => (A0 k ∨ k = pa) ∨ (B0 k ∨ k = pb))
 bs : base ≤ w.heap.size
section
variable {base pa pb : Nat} {w0 w w1 : World} {A0 B0 Oa Ob O' : Nat → Prop} {Sa Sb S' : Sc × ByteArray}
theorem Two.start (ha : Scr base pa Oa w Sa) (hb : Scr base pb Ob w Sb) (hp : Apart pa Oa pb Ob) (hbs : base ≤ w.heap.size) : Two base pa pb w Oa Ob w Oa Ob Sa Sb :=
 ⟨ha,hb,hp,fun k hk => .inl hk,fun k hk => .inl hk,Below.refl _ _,Kept.refl _ _,hbs⟩
theorem Two.skip (h : Two base pa pb w0 A0 B0 w Oa Ob Sa Sb) (hb : Below w.heap.size w w1) : Two base pa pb w0 A0 B0 w1 Oa Ob Sa Sb :=
 ⟨h.a.below hb,h.b.below hb,h.ap,h.sa,h.sb,h.below.trans (hb.mono h.bs),h.kept.below hb,Nat.le_trans h.bs hb.size⟩
end
/-- The same bytes,n times. -/
def feedI (S : Sc × ByteArray) (m : ByteArray) : Nat → Sc × ByteArray
 | 0 => S
 | n + 1 => feedS (feedI S m n) m
end Go.Proofs.YtgdpnmikcopkmaaDoor.U
end
section
namespace Go.Proofs.YtgdpnmikcopkmaaDoor.U
open Go.RowKit Go.Proofs.YtgdpnmikcopkmaaDoor.Mu Go.Proofs.YtgdpnmikcopkmaaDoor.Pu Go.Proofs.YtgdpnmikcopkmaaDoorW.PrintWords Go.Proofs.YtgdpnmikcopkmaaDoorW.PrintLast Go.Proofs.YtgdpnmikcopkmaaDoorW.PrintMore
set_option linter.unusedVariables false
set_option linter.unusedSimpArgs false
section
variable {base pa pb pc : Nat} {w0 w w1 : World} {Oa Ob Oc O' : Nat → Prop} {Sa Sb Sc' S' : Sc × ByteArray}
end
theorem tabs_two {w : World} (hT : Lib.Utf8Tabs 0 1 w) : 2 ≤ w.heap.size := by
 have := World.block_lt_of_cell? w _ (hT.2 0 (by decide)).1
 exact this
end Go.Proofs.YtgdpnmikcopkmaaDoor.U
end
section
namespace Go.Proofs.YtgdpnmikcopkmaaDoor.U
open Go.RowKit Go.Proofs.YtgdpnmikcopkmaaDoor.Mu Go.Proofs.YtgdpnmikcopkmaaDoor.Pu Go.Proofs.YtgdpnmikcopkmaaDoorW.PrintWords Go.Proofs.YtgdpnmikcopkmaaDoorW.PrintLast Go.Proofs.YtgdpnmikcopkmaaDoorW.PrintMore
set_option linter.unusedVariables false
set_option linter.unusedSimpArgs false
theorem rb_sub {row l : List Cl} {n : Nat} (h : RB row n) (hs : ∀ x ∈ l,x ∈ row) : RB l n := fun x hx => h x (hs x hx)
theorem resize_tb {s : Sc} {n : Nat} (h : s.TB n) (h1 : 1 ≤ n) (k : Int) : (s.resize k).TB n := by
 intro row hr
 obtain ⟨r0,h0,rfl⟩ := List.mem_map.1 hr
 have hb := h r0 h0
 have ht : RB (r0.take (cntI k)) n := rb_sub hb (fun x hx => List.mem_of_mem_take hx)
 unfold rszR
 split
 ·exact hb
 ·split
  ·exact ht.set _ (show blC.f0.size ≤ n from h1)
  ·exact ht
theorem Fit.resize {S : Sc × ByteArray} {N : Nat} (h : Fit S N) (k : Int) : Fit (S.1.resize k,S.2) N := ⟨resize_ok h.ok k,resize_tb h.tb (by have := h.n4;omega) k,h.hl,h.n4⟩
section
variable {base p : Nat} {O : Nat → Prop} {w : World} {S : Sc × ByteArray}
theorem scr_resize (h : Scr base p O w S) (hb : base ≤ w.heap.size) (hO : S.1.Ok) (k : Int) :
  Calls Tryd.prog 31 #[.pointer (some ⟨p,0,none⟩),.int .i64 k] w fun e w' => e = .returned (.tuple #[]) ∧ ∃ O',Made base p O O' w w' (S.1.resize k,S.2) :=
 (sc_resize h.wide ⟨fun k hk => .inr hk,hb⟩ hO k).mono fun e w' hh => ⟨hh.1,_,Made.of_wide hh.2⟩
theorem scr_width (h : Scr base p O w S) (hb : base ≤ w.heap.size) (hO : S.1.Ok) :
  Calls Tryd.prog 22 #[.pointer (some ⟨p,0,none⟩)] w fun e w' => e = .returned (.int .i64 (S.1.w : Nat)) ∧ Made base p O O w w' S :=
 (sc_width h.at_.bound hb).mono fun e w' hh => by rw [rdy_ok hO] at hh;exact ⟨hh.1,Made.of_same h.bd hh.2⟩
theorem scr_height (h : Scr base p O w S) (hb : base ≤ w.heap.size) (hO : S.1.Ok) :
  Calls Tryd.prog 32 #[.pointer (some ⟨p,0,none⟩)] w fun e w' => e = .returned (.int .i64 (S.1.h : Nat)) ∧ Made base p O O w w' S :=
 (sc_height h.at_.bound hb).mono fun e w' hh => by rw [rdy_ok hO] at hh;exact ⟨hh.1,Made.of_same h.bd hh.2⟩
end
end Go.Proofs.YtgdpnmikcopkmaaDoor.U
end
section
namespace Go.Proofs.YtgdpnmikcopkmaaDoor.U
open Go.RowKit Go.Proofs.YtgdpnmikcopkmaaDoor.Mu Go.Proofs.YtgdpnmikcopkmaaDoor.Pu Go.Proofs.YtgdpnmikcopkmaaDoorW.PrintWords Go.Proofs.YtgdpnmikcopkmaaDoorW.PrintLast Go.Proofs.YtgdpnmikcopkmaaDoorW.PrintMore
set_option linter.unusedVariables false
set_option linter.unusedSimpArgs false
/-- A step keeps the measures. -/
structure Kin (s t : Sc) : Prop where
 w : t.w = s.w
 h : t.h = s.h
theorem Kin.refl (s : Sc) : Kin s s := ⟨rfl,rfl⟩
theorem Kin.trans {s t u : Sc} (a : Kin s t) (b : Kin t u) : Kin s u := ⟨b.w.trans a.w,b.h.trans a.h⟩
end Go.Proofs.YtgdpnmikcopkmaaDoor.U
end
section
namespace Go.Proofs.YtgdpnmikcopkmaaDoor.U
open Go.RowKit Go.Proofs.YtgdpnmikcopkmaaDoor.Mu Go.Proofs.YtgdpnmikcopkmaaDoor.Pu Go.Proofs.YtgdpnmikcopkmaaDoorW.PrintWords Go.Proofs.YtgdpnmikcopkmaaDoorW.PrintLast Go.Proofs.YtgdpnmikcopkmaaDoorW.PrintMore
set_option linter.unusedVariables false
set_option linter.unusedSimpArgs false
theorem rw_nil (rows : List (List Cl)) (i : Nat) (h : rows.length ≤ i) : rows.getD i [] = [] := by
 rw [List.getD_eq_getElem?_getD,List.getElem?_eq_none h]
 rfl
theorem rw_set (rows : List (List Cl)) (i : Nat) (x : List Cl) (j : Nat) (h : i < rows.length) : (rows.set i x).getD j [] = if j = i then x else rows.getD j [] := by
 rw [List.getD_eq_getElem?_getD,List.getD_eq_getElem?_getD]
 by_cases hj : j = i
 ·subst hj
  rw [if_pos rfl,List.getElem?_set_self h]
  rfl
 ·rw [if_neg hj,List.getElem?_set_ne (fun e => hj e.symm)]
theorem rw_more (rows : List (List Cl)) (n j : Nat) : (rows ++ List.replicate n []).getD j [] = rows.getD j [] := by
 rw [List.getD_eq_getElem?_getD,List.getD_eq_getElem?_getD]
 by_cases hj : j < rows.length
 ·rw [List.getElem?_append_left hj]
 ·rw [List.getElem?_append_right (by omega),List.getElem?_eq_none (l := rows) (by omega),List.getElem?_replicate]
  split <;> rfl
theorem rw_drop (rows : List (List Cl)) (j : Nat) : (rows.drop 1).getD j [] = rows.getD (j + 1) [] := by
 rw [List.getD_eq_getElem?_getD,List.getD_eq_getElem?_getD,List.getElem?_drop,Nat.add_comm 1 j]
theorem rw_take (rows : List (List Cl)) (n j : Nat) : (rows.take n).getD j [] = if j < n then rows.getD j [] else [] := by
 rw [List.getD_eq_getElem?_getD,List.getD_eq_getElem?_getD,List.getElem?_take]
 split <;> rfl
/-- The same look: the same but for empty rows at the end,and for where a mark would go when none may. -/
def Eqv (s t : Sc) : Prop := ∃ R L C,t = { s with rows := R,lr := L,lc := C } ∧ (s.marks = true → L = s.lr ∧ C = s.lc) ∧ ∀ i,R.getD i [] = s.rows.getD i []
theorem Eqv.refl (s : Sc) : Eqv s s := ⟨s.rows,s.lr,s.lc,rfl,fun _ => ⟨rfl,rfl⟩,fun _ => rfl⟩
theorem clrR_alt (s : Sc) (i col : Nat) : s.clrR i col = if (s.rows.getD i []).length ≤ col then s else { s with rows := s.rows.set i ((clrH (s.rows.getD i []) col).take col) } := by
 unfold Sc.clrR
 by_cases h : (s.rows.getD i []).length ≤ col
 ·rw [if_pos h,if_pos (.inr h)]
 ·rw [if_neg h,if_neg]
  intro h2
  rcases h2 with h2 | h2
  ·rw [rw_nil _ _ h2] at h
   exact h (Nat.zero_le _)
  ·exact h h2
theorem rw_lt (rows : List (List Cl)) (i col : Nat) (h : ¬ (rows.getD i []).length ≤ col) : i < rows.length := by
 rcases Nat.lt_or_ge i rows.length with h2 | h2
 ·exact h2
 ·rw [rw_nil _ _ h2] at h
  exact absurd (Nat.zero_le _) h
theorem Eqv.clrR {s t : Sc} (h : Eqv s t) (i col : Nat) : Eqv (s.clrR i col) (t.clrR i col) := by
 obtain ⟨R,L,C,rfl,hm,hg⟩ := h
 rw [clrR_alt,clrR_alt]
 dsimp only
 rw [hg i]
 split
 ·exact ⟨R,L,C,rfl,hm,hg⟩
 ·rename_i hc
  have hc2 : ¬ (R.getD i []).length ≤ col := by rw [hg i];exact hc
  refine ⟨_,L,C,rfl,hm,fun j => ?_⟩
  show (R.set i _).getD j [] = (s.rows.set i _).getD j []
  rw [rw_set _ _ _ _ (rw_lt _ _ _ hc),rw_set _ _ _ _ (rw_lt _ _ _ hc2),hg j]
theorem down_alt (s : Sc) : s.down = if s.r + 1 < s.h then { s with r := s.r + 1 } else { s with rows := if s.rows.length = s.h then s.rows.drop 1 ++ [[]] else s.rows.drop 1 } := by
 unfold Sc.down
 split
 ·rfl
 ·split <;> rfl
theorem rw_down (rows : List (List Cl)) (h j : Nat) : (if rows.length = h then rows.drop 1 ++ [[]] else rows.drop 1).getD j [] = rows.getD (j + 1) [] := by
 split
 ·rw [show rows.drop 1 ++ [[]] = rows.drop 1 ++ List.replicate 1 [] from rfl,rw_more,rw_drop]
 ·rw [rw_drop]
theorem Eqv.down {s t : Sc} (h : Eqv s t) : Eqv s.down t.down := by
 obtain ⟨R,L,C,rfl,hm,hg⟩ := h
 rw [down_alt,down_alt]
 dsimp only
 split
 ·exact ⟨R,L,C,rfl,hm,hg⟩
 ·refine ⟨_,L,C,rfl,hm,fun j => ?_⟩
  show (if R.length = s.h then R.drop 1 ++ [[]] else R.drop 1).getD j [] = (if s.rows.length = s.h then s.rows.drop 1 ++ [[]] else s.rows.drop 1).getD j []
  rw [rw_down,rw_down,hg]
theorem Eqv.at_ {s t : Sc} (h : Eqv s t) (r c : Nat) (full : Bool) : Eqv { s with r := r,c := c,full := full } { t with r := r,c := c,full := full } := by
 obtain ⟨R,L,C,rfl,hm,hg⟩ := h
 exact ⟨R,L,C,rfl,hm,hg⟩
theorem Eqv.unmark {s t : Sc} (h : Eqv s t) : Eqv { s with marks := false } { t with marks := false } := by
 obtain ⟨R,L,C,rfl,hm,hg⟩ := h
 exact ⟨R,L,C,rfl,(fun hq => by cases hq),hg⟩
theorem Eqv.fields {s t : Sc} (h : Eqv s t) : t.w = s.w ∧ t.h = s.h ∧ t.r = s.r ∧ t.c = s.c ∧ t.full = s.full ∧ t.marks = s.marks := by
 obtain ⟨R,L,C,rfl,hm,hg⟩ := h
 exact ⟨rfl,rfl,rfl,rfl,rfl,rfl⟩
def Sc.front (s : Sc) (span : Nat) : Sc := if s.full = true ∨ (span = 2 ∧ s.c + 1 = s.w) then { s.down with c := 0,full := false } else s
def Sc.put (s : Sc) (t : ByteArray) (span : Nat) : Sc := { s with rows := (padR s.rows (s.r + 1)).set s.r (putC ((padR s.rows (s.r + 1)).getD s.r []) s.c span t),lr := s.r,lc := s.c,marks := true }
theorem write_alt (s : Sc) (t : ByteArray) (span : Nat) : s.write t span = if s.w ≤ (Sc.front s span).c + span then { Sc.put (Sc.front s span) t span with c := s.w - 1,full := true } else { Sc.put (Sc.front s span) t span with c := (Sc.front s span).c + span } := rfl
theorem Eqv.front {s t : Sc} (h : Eqv s t) (span : Nat) : Eqv (Sc.front s span) (Sc.front t span) := by
 obtain ⟨h1,h2,h3,h4,h5,h6⟩ := h.fields
 unfold Sc.front
 rw [h5,h4,h1]
 split
 ·have h7 := h.down
  obtain ⟨R,L,C,e,hm,hg⟩ := h7
  rw [e]
  exact ⟨R,L,C,rfl,hm,hg⟩
 ·exact h
theorem Eqv.put {s t : Sc} (h : Eqv s t) (x : ByteArray) (span : Nat) : Eqv (Sc.put s x span) (Sc.put t x span) := by
 obtain ⟨R,L,C,rfl,hm,hg⟩ := h
 refine ⟨_,_,_,rfl,fun _ => ⟨rfl,rfl⟩,fun j => ?_⟩
 show ((padR R (s.r + 1)).set s.r (putC ((padR R (s.r + 1)).getD s.r []) s.c span x)).getD j [] = ((padR s.rows (s.r + 1)).set s.r (putC ((padR s.rows (s.r + 1)).getD s.r []) s.c span x)).getD j []
 rw [rw_set _ _ _ _ (by rw [padR_length];omega),rw_set _ _ _ _ (by rw [padR_length];omega)]
 unfold padR
 rw [rw_more,rw_more,rw_more,rw_more,hg,hg]
theorem Eqv.write {s t : Sc} (h : Eqv s t) (x : ByteArray) (span : Nat) : Eqv (s.write x span) (t.write x span) := by
 have h1 := (h.front span).put x span
 obtain ⟨f1,f2,f3,f4,f5,f6⟩ := h.fields
 obtain ⟨g1,g2,g3,g4,g5,g6⟩ := (h.front span).fields
 rw [write_alt,write_alt,f1,g4]
 obtain ⟨R,L,C,e,hm,hg⟩ := h1
 rw [e]
 split
 ·exact ⟨R,L,C,rfl,hm,hg⟩
 ·exact ⟨R,L,C,rfl,hm,hg⟩
theorem Eqv.mark {s t : Sc} (h : Eqv s t) (hs : s.Ok) (ht : t.Ok) (x : ByteArray) : Eqv (s.mark x) (t.mark x) := by
 obtain ⟨R,L,C,rfl,hm,hg⟩ := h
 unfold Sc.mark
 dsimp only
 split
 ·rename_i hk
  obtain ⟨rfl,rfl⟩ := hm hk
  refine ⟨_,_,_,rfl,fun _ => ⟨rfl,rfl⟩,fun j => ?_⟩
  have h1 := (hs.ma hk).1
  have h2 : s.lr < R.length := (ht.ma hk).1
  show (R.set s.lr _).getD j [] = (s.rows.set s.lr _).getD j []
  rw [rw_set _ _ _ _ h1,rw_set _ _ _ _ h2,hg,hg]
 ·exact ⟨R,L,C,rfl,hm,hg⟩
theorem Eqv.control {s t : Sc} (h : Eqv s t) (b : Nat) : Eqv (s.control b) (t.control b) := by
 have h1 : Eqv { s with full := false,marks := false } { t with full := false,marks := false } := by
  obtain ⟨R,L,C,rfl,hm,hg⟩ := h
  exact ⟨R,L,C,rfl,(fun hq => by cases hq),hg⟩
 unfold Sc.control
 dsimp only
 by_cases h8 : b = 8
 ·rw [if_pos h8,if_pos h8]
  obtain ⟨R,L,C,rfl,hm,hg⟩ := h
  exact ⟨R,L,C,rfl,(fun hq => by cases hq),hg⟩
 rw [if_neg h8,if_neg h8]
 by_cases h10 : b = 10
 ·rw [if_pos h10,if_pos h10]
  exact h1.down
 rw [if_neg h10,if_neg h10]
 by_cases h13 : b = 13
 ·rw [if_pos h13,if_pos h13]
  obtain ⟨R,L,C,rfl,hm,hg⟩ := h
  exact ⟨R,L,C,rfl,(fun hq => by cases hq),hg⟩
 rw [if_neg h13,if_neg h13]
 exact h1
theorem Eqv.carry {s t : Sc} (h : Eqv s t) (e : Nat) (l : List Int) (ok : Bool) : Eqv (s.carry e l ok) (t.carry e l ok) := by
 obtain ⟨f1,f2,f3,f4,f5,f6⟩ := h.fields
 have h1 := h.clrR s.r s.c
 unfold Sc.carry
 dsimp only
 rw [f1,f2,f3,f4]
 split
 ·split
  ·obtain ⟨R,L,C,e,hm,hg⟩ := h1
   rw [e]
   refine ⟨_,L,C,rfl,hm,fun j => ?_⟩
   show (R.take _).getD j [] = ((s.clrR s.r s.c).rows.take _).getD j []
   rw [rw_take,rw_take,hg]
  ·exact h
 split
 ·split
  ·exact h1
  ·exact h
 split
 ·exact h
 split
 ·obtain ⟨R,L,C,rfl,hm,hg⟩ := h
  exact ⟨R,L,C,rfl,hm,hg⟩
 ·obtain ⟨R,L,C,rfl,hm,hg⟩ := h
  exact ⟨R,L,C,rfl,hm,hg⟩
theorem Eqv.escape {s t : Sc} (h : Eqv s t) (all : ByteArray) : Eqv (s.escape all).1 (t.escape all).1 ∧ (t.escape all).2 = (s.escape all).2 := by
 have h1 := h.unmark
 unfold Sc.escape
 repeat' split
 all_goals first | exact ⟨h,rfl⟩ | exact ⟨h1,rfl⟩ | exact ⟨h1.carry _ _ _,rfl⟩
theorem Eqv.unit {s t : Sc} (h : Eqv s t) (hs : s.Ok) (ht : t.Ok) (cl : Int) (x : ByteArray) : Eqv (s.unit cl x) (t.unit cl x) := by
 obtain ⟨f1,f2,f3,f4,f5,f6⟩ := h.fields
 unfold Sc.unit
 rw [f1]
 repeat' split
 all_goals first | exact h.mark hs ht _ | exact h.write _ _ | skip
 obtain ⟨R,L,C,rfl,hm,hg⟩ := h
 exact ⟨R,L,C,rfl,(fun hq => by cases hq),hg⟩
theorem Eqv.step {s t : Sc} (h : Eqv s t) (hs : s.Ok) (ht : t.Ok) (all : ByteArray) : Eqv (s.step all).1 (t.step all).1 ∧ (t.step all).2 = (s.step all).2 := by
 unfold Sc.step
 split
 ·exact h.escape all
 split
 ·exact ⟨h.control _,rfl⟩
 split
 ·exact ⟨h,rfl⟩
 ·exact ⟨h.unit hs ht _ _,rfl⟩
theorem Eqv.feedN : ∀ (k : Nat) {s t : Sc} (h : Eqv s t) (hs : s.Ok) (ht : t.Ok) (all : ByteArray),Eqv (Sc.feedN k s all).1 (Sc.feedN k t all).1 ∧ (Sc.feedN k t all).2 = (Sc.feedN k s all).2
 | 0,s,t,h,hs,ht,all => ⟨h,rfl⟩
 | k + 1,s,t,h,hs,ht,all => by
  obtain ⟨h1,h2⟩ := h.step hs ht all
  unfold Sc.feedN
  rw [h2]
  split
  ·exact ⟨h,rfl⟩
  split
  ·exact ⟨h1,rfl⟩
  ·exact Eqv.feedN k h1 (hs.step all) (ht.step all) _
structure EqvS (S T : Sc × ByteArray) : Prop where
 s : Eqv S.1 T.1
 held : T.2 = S.2
 o1 : S.1.Ok
 o2 : T.1.Ok
theorem EqvS.feed {S T : Sc × ByteArray} (h : EqvS S T) (b : ByteArray) : EqvS (feedS S b) (feedS T b) := by
 have h1 := Eqv.feedN (S.2 ++ b).size h.s h.o1 h.o2 (S.2 ++ b)
 refine ⟨?_,?_,feedS_ok h.o1 b,feedS_ok h.o2 b⟩
 ·unfold feedS;rw [h.held];exact h1.1
 ·unfold feedS;rw [h.held];exact h1.2
/-- What is seen is the same. -/
theorem lastN_more (rows : List (List Cl)) : ∀ k,lastN rows (rows.length + k) = lastN rows rows.length
 | 0 => rfl
 | k + 1 => by
  show (if (trimR (rows.getD (rows.length + k) [])).length = 0 then lastN rows (rows.length + k) else _) = _
  rw [rw_nil _ _ (by omega),if_pos (by rfl),lastN_more rows k]
theorem lastN_eq {rows R : List (List Cl)} (h : ∀ i,R.getD i [] = rows.getD i []) : ∀ n,lastN R n = lastN rows n
 | 0 => rfl
 | n + 1 => by
  unfold lastN
  rw [h n,lastN_eq h n]
theorem Eqv.nrows {s t : Sc} (h : Eqv s t) : t.nrows = s.nrows := by
 obtain ⟨R,L,C,rfl,hm,hg⟩ := h
 show max (lastN R R.length) (s.r + 1) = max (lastN s.rows s.rows.length) (s.r + 1)
 have h1 := lastN_more R s.rows.length
 have h2 := lastN_more s.rows R.length
 rw [lastN_eq hg,Nat.add_comm] at h1
 rw [← h1,h2]
end Go.Proofs.YtgdpnmikcopkmaaDoor.U
end
section
namespace Go.Proofs.YtgdpnmikcopkmaaDoor.U
open Go.RowKit Go.Proofs.YtgdpnmikcopkmaaDoor.Mu Go.Proofs.YtgdpnmikcopkmaaDoor.Pu Go.Proofs.YtgdpnmikcopkmaaDoorW.PrintWords Go.Proofs.YtgdpnmikcopkmaaDoorW.PrintLast Go.Proofs.YtgdpnmikcopkmaaDoorW.PrintMore
set_option linter.unusedVariables false
set_option linter.unusedSimpArgs false
/-- Each cell but those of X is whole,and leans on none of X. -/
def Good (row : List Cl) (X : Nat → Prop) : Prop := ∀ i,i < row.length → ¬ X i →
 ((gC row i).f1 = 1 ∧ (gC row i).f0.size ≠ 0) ∨
 ((gC row i).f1 = 2 ∧ (gC row i).f0.size ≠ 0 ∧ i + 1 < row.length ∧ ¬ X (i + 1) ∧ (gC row (i + 1)).f1 = 0) ∨
 ((gC row i).f1 = 0 ∧ (gC row i).f0.size = 0 ∧ 0 < i ∧ ¬ X (i - 1) ∧ (gC row (i - 1)).f1 = 2)
abbrev X0 : Nat → Prop := fun _ => False
theorem gC_of_set (row : List Cl) (k : Nat) (x : Cl) (j : Nat) (h : k < row.length) : gC (row.set k x) j = if j = k then x else gC row j := by
 unfold gC
 rw [List.getD_eq_getElem?_getD,List.getD_eq_getElem?_getD]
 by_cases hj : j = k
 ·subst hj
  rw [if_pos rfl,List.getElem?_set_self h]
  rfl
 ·rw [if_neg hj,List.getElem?_set_ne (fun e => hj e.symm)]
theorem gC_take (row : List Cl) (n j : Nat) (h : j < n) : gC (row.take n) j = gC row j := by
 unfold gC
 rw [List.getD_eq_getElem?_getD,List.getD_eq_getElem?_getD,List.getElem?_take,if_pos h]
theorem good_clr {row : List Cl} {X : Nat → Prop} (h : Good row X) (col : Nat) (hc : col < row.length) (hx : ¬ X col) : Good (clrH row col) (fun i => X i ∨ i = col) := by
 have hgc := h col hc hx
 intro i hi hxi
 rw [clrH_length] at hi
 have hxi1 : ¬ X i := fun e => hxi (.inl e)
 have hxi2 : i ≠ col := fun e => hxi (.inr e)
 have hgi := h i hi hxi1
 rcases hgc with ⟨a1,a2⟩ | ⟨a1,a2,a3,a4,a5⟩ | ⟨a1,a2,a3,a4,a5⟩
 ·rw [clrH_none row col hc (fun e => by omega) (fun e => by omega)]
  rcases hgi with ⟨b1,b2⟩ | ⟨b1,b2,b3,b4,b5⟩ | ⟨b1,b2,b3,b4,b5⟩
  ·exact .inl ⟨b1,b2⟩
  ·refine .inr (.inl ⟨b1,b2,b3,?_,b5⟩)
   rintro (e | e)
   ·exact b4 e
   ·rw [e] at b5;omega
  ·refine .inr (.inr ⟨b1,b2,b3,?_,b5⟩)
   rintro (e | e)
   ·exact b4 e
   ·rw [e] at b5;omega
 ·rw [clrH_right row col hc a1 a3]
  rw [show (row.set (col + 1) blC).length = row.length from List.length_set,gC_of_set _ _ _ _ a3,gC_of_set _ _ _ _ a3,gC_of_set _ _ _ _ a3]
  by_cases e : i = col + 1
  ·rw [if_pos e]
   exact .inl ⟨rfl,by decide⟩
  ·rw [if_neg e]
   rcases hgi with ⟨b1,b2⟩ | ⟨b1,b2,b3,b4,b5⟩ | ⟨b1,b2,b3,b4,b5⟩
   ·exact .inl ⟨b1,b2⟩
   ·refine .inr (.inl ⟨b1,b2,b3,?_,?_⟩)
    ·rintro (e | e)
     ·exact b4 e
     ·rw [e] at b5;omega
    ·rw [if_neg (by omega)];exact b5
   ·refine .inr (.inr ⟨b1,b2,b3,?_,?_⟩)
    ·rintro (e | e)
     ·exact b4 e
     ·omega
    ·rw [if_neg (fun e2 => by rw [e2] at b5;omega)];exact b5
 ·rw [clrH_left row col hc a1 a3]
  have a6 : col - 1 < row.length := by omega
  rw [show (row.set (col - 1) blC).length = row.length from List.length_set,gC_of_set _ _ _ _ a6,gC_of_set _ _ _ _ a6,gC_of_set _ _ _ _ a6]
  by_cases e : i = col - 1
  ·rw [if_pos e]
   exact .inl ⟨rfl,by decide⟩
  ·rw [if_neg e]
   rcases hgi with ⟨b1,b2⟩ | ⟨b1,b2,b3,b4,b5⟩ | ⟨b1,b2,b3,b4,b5⟩
   ·exact .inl ⟨b1,b2⟩
   ·refine .inr (.inl ⟨b1,b2,b3,?_,?_⟩)
    ·rintro (e | e)
     ·exact b4 e
     ·omega
    ·rw [if_neg (fun e2 => by rw [e2] at b5;omega)];exact b5
   ·refine .inr (.inr ⟨b1,b2,b3,?_,?_⟩)
    ·rintro (e | e)
     ·exact b4 e
     ·rw [e] at b5;omega
    ·rw [if_neg (by omega)];exact b5
theorem Good.mono {row : List Cl} {X Y : Nat → Prop} (h : Good row X) (he : ∀ i,i < row.length → (X i ↔ Y i)) : Good row Y := fun i hi hy => by
 rcases h i hi (fun e => hy ((he i hi).1 e)) with a | ⟨b1,b2,b3,b4,b5⟩ | ⟨b1,b2,b3,b4,b5⟩
 ·exact .inl a
 ·exact .inr (.inl ⟨b1,b2,b3,fun e => b4 ((he _ b3).2 e),b5⟩)
 ·exact .inr (.inr ⟨b1,b2,b3,fun e => b4 ((he _ (by omega)).2 e),b5⟩)
theorem good_put1 {row : List Cl} {col : Nat} (h : Good row (fun i => X0 i ∨ i = col)) (hc : col < row.length) (t : ByteArray) (ht : t.size ≠ 0) : Good (row.set col ⟨t,1⟩) X0 := by
 intro i hi _
 rw [List.length_set] at hi
 rw [show (row.set col (⟨t,1⟩ : Cl)).length = row.length from List.length_set,gC_of_set _ _ _ _ hc,gC_of_set _ _ _ _ hc,gC_of_set _ _ _ _ hc]
 by_cases e : i = col
 ·rw [if_pos e];exact .inl ⟨rfl,ht⟩
 ·rw [if_neg e]
  rcases h i hi (fun e2 => e2.elim id e) with a | ⟨b1,b2,b3,b4,b5⟩ | ⟨b1,b2,b3,b4,b5⟩
  ·exact .inl a
  ·exact .inr (.inl ⟨b1,b2,b3,id,by rw [if_neg (fun e2 => b4 (.inr e2))];exact b5⟩)
  ·exact .inr (.inr ⟨b1,b2,b3,id,by rw [if_neg (fun e2 => b4 (.inr e2))];exact b5⟩)
theorem good_put2 {row : List Cl} {col : Nat} (h : Good row (fun i => (X0 i ∨ i = col) ∨ i = col + 1)) (hc : col + 1 < row.length) (t : ByteArray) (ht : t.size ≠ 0) : Good ((row.set col ⟨t,2⟩).set (col + 1) noC) X0 := by
 intro i hi _
 rw [List.length_set,List.length_set] at hi
 have h1 : col < row.length := by omega
 have h2 : col + 1 < (row.set col (⟨t,2⟩ : Cl)).length := by rw [List.length_set];exact hc
 rw [show ((row.set col (⟨t,2⟩ : Cl)).set (col + 1) noC).length = row.length from by rw [List.length_set,List.length_set],gC_of_set _ _ _ _ h2,gC_of_set _ _ _ _ h2,gC_of_set _ _ _ _ h2,gC_of_set _ _ _ _ h1,gC_of_set _ _ _ _ h1,gC_of_set _ _ _ _ h1]
 by_cases e : i = col + 1
 ·rw [if_pos e]
  refine .inr (.inr ⟨rfl,rfl,by omega,id,?_⟩)
  rw [if_neg (by omega),if_pos (by omega)]
 ·rw [if_neg e]
  by_cases e2 : i = col
  ·rw [if_pos e2]
   refine .inr (.inl ⟨rfl,ht,by omega,id,?_⟩)
   rw [if_pos (by omega)]
   rfl
  ·rw [if_neg e2]
   rcases h i hi (fun e3 => e3.elim (fun e3 => e3.elim id e2) e) with a | ⟨b1,b2,b3,b4,b5⟩ | ⟨b1,b2,b3,b4,b5⟩
   ·exact .inl a
   ·exact .inr (.inl ⟨b1,b2,b3,id,by rw [if_neg (fun e3 => b4 (.inr e3)),if_neg (fun e3 => b4 (.inl (.inr e3)))];exact b5⟩)
   ·exact .inr (.inr ⟨b1,b2,b3,id,by rw [if_neg (fun e3 => b4 (.inr e3)),if_neg (fun e3 => b4 (.inl (.inr e3)))];exact b5⟩)
theorem gC_pad (row : List Cl) (n j : Nat) : gC (padC row n) j = if j < row.length then gC row j else if j < n then blC else noC := by
 unfold gC padC
 rw [List.getD_eq_getElem?_getD,List.getD_eq_getElem?_getD]
 by_cases h : j < row.length
 ·rw [if_pos h,List.getElem?_append_left h]
 ·rw [if_neg h,List.getElem?_append_right (by omega),List.getElem?_replicate]
  by_cases h2 : j < n
  ·rw [if_pos (by omega),if_pos h2];rfl
  ·rw [if_neg (by omega),if_neg h2];rfl
theorem good_pad {row : List Cl} (h : Good row X0) (n : Nat) : Good (padC row n) X0 := by
 intro i hi _
 rw [padC_length] at hi
 rw [padC_length,gC_pad,gC_pad,gC_pad]
 by_cases e : i < row.length
 ·rw [if_pos e]
  rcases h i e id with a | ⟨b1,b2,b3,b4,b5⟩ | ⟨b1,b2,b3,b4,b5⟩
  ·exact .inl a
  ·exact .inr (.inl ⟨b1,b2,by omega,id,by rw [if_pos b3];exact b5⟩)
  ·exact .inr (.inr ⟨b1,b2,b3,id,by rw [if_pos (by omega)];exact b5⟩)
 ·rw [if_neg e,if_pos (by omega)]
  exact .inl ⟨rfl,by decide⟩
/-- A row cut where no wide cell is cut through. -/
theorem good_take {row : List Cl} {X : Nat → Prop} (h : Good row X) (n : Nat) (hx : ∀ i,i < n → ¬ X i) (hc : ∀ i,i + 1 = n → i + 1 < row.length → ¬ X (i + 1) → (gC row i).f1 = 2 → (gC row (i + 1)).f1 ≠ 0) : Good (row.take n) X0 := by
 intro i hi _
 rw [List.length_take] at hi
 rw [List.length_take,gC_take _ _ _ (show i < n by omega),gC_take _ _ _ (show i - 1 < n by omega)]
 rcases h i (by omega) (hx i (by omega)) with a | ⟨b1,b2,b3,b4,b5⟩ | ⟨b1,b2,b3,b4,b5⟩
 ·exact .inl a
 ·by_cases e : i + 1 = n
  ·exact absurd b5 (hc i e b3 b4 b1)
  ·exact .inr (.inl ⟨b1,b2,by omega,id,by rw [gC_take _ _ _ (show i + 1 < n by omega)];exact b5⟩)
 ·exact .inr (.inr ⟨b1,b2,b3,id,b5⟩)
theorem good_clrtake {row : List Cl} (h : Good row X0) (col : Nat) (hc : col < row.length) : Good ((clrH row col).take col) X0 :=
 good_take (good_clr h col hc id) col (fun i hi e => e.elim id (fun e => by omega)) (fun i e _ hx => absurd (.inr e) hx)
theorem good_rsz {row : List Cl} (h : Good row X0) (n : Nat) (h0 : 0 < n) : Good (rszR n row) X0 := by
 unfold rszR
 split
 ·exact h
 ·rename_i hl
  have hl2 : (row.take n).length = n := by rw [List.length_take];omega
  split
  ·rename_i h2
   rw [gC_take _ _ _ (by omega)] at h2
   intro i hi _
   rw [List.length_set,hl2] at hi
   have hn : n - 1 < (row.take n).length := by omega
   rw [show ((row.take n).set (n - 1) blC).length = n from by rw [List.length_set];exact hl2,gC_of_set _ _ _ _ hn,gC_of_set _ _ _ _ hn,gC_of_set _ _ _ _ hn]
   by_cases e : i = n - 1
   ·rw [if_pos e];exact .inl ⟨rfl,by decide⟩
   ·rw [if_neg e,gC_take _ _ _ hi]
    rcases h i (by omega) id with a | ⟨b1,b2,b3,b4,b5⟩ | ⟨b1,b2,b3,b4,b5⟩
    ·exact .inl a
    ·have e3 : i + 1 ≠ n - 1 := fun e3 => by rw [e3,h2] at b5;omega
     exact .inr (.inl ⟨b1,b2,by omega,id,by rw [if_neg e3,gC_take _ _ _ (by omega)];exact b5⟩)
    ·exact .inr (.inr ⟨b1,b2,b3,id,by rw [if_neg (by omega),gC_take _ _ _ (by omega)];exact b5⟩)
  ·rename_i h2
   rw [gC_take _ _ _ (by omega)] at h2
   exact good_take h n (fun i _ e => e) (fun i e _ _ h3 => absurd (by rw [← e];exact h3) h2)
theorem good_putC {row : List Cl} (h : Good row X0) (col span : Nat) (t : ByteArray) (ht : t.size ≠ 0) (hs : span = 1 ∨ span = 2) : Good (putC row col span t) X0 := by
 unfold putC
 dsimp only
 have hp := good_pad h (col + span)
 have hl : (padC row (col + span)).length = max row.length (col + span) := padC_length _ _
 generalize padC row (col + span) = R at hp hl
 have h1 := good_clr hp col (by omega) id
 rcases hs with rfl | rfl
 ·rw [if_neg (by decide),if_neg (by decide)]
  exact good_put1 h1 (by rw [clrH_length];omega) t ht
 ·rw [if_pos rfl,if_pos rfl]
  have h2 := good_clr h1 (col + 1) (by rw [clrH_length];omega) (fun e => e.elim id (fun e => by omega))
  exact good_put2 h2 (by rw [clrH_length,clrH_length];omega) t ht
end Go.Proofs.YtgdpnmikcopkmaaDoor.U
end
section
namespace Go.Proofs.YtgdpnmikcopkmaaDoor.U
open Go.RowKit Go.Proofs.YtgdpnmikcopkmaaDoor.Mu Go.Proofs.YtgdpnmikcopkmaaDoor.Pu Go.Proofs.YtgdpnmikcopkmaaDoorW.PrintWords Go.Proofs.YtgdpnmikcopkmaaDoorW.PrintLast Go.Proofs.YtgdpnmikcopkmaaDoorW.PrintMore
set_option linter.unusedVariables false
set_option linter.unusedSimpArgs false
theorem EqvS.many {S T : Sc × ByteArray} (h : EqvS S T) (b : ByteArray) : ∀ n,EqvS (feedI S b n) (feedI T b n)
 | 0 => h
 | n + 1 => (EqvS.many h b n).feed b
section
variable {base p : Nat} {O : Nat → Prop} {w : World} {S S2 : Sc × ByteArray}
end
end Go.Proofs.YtgdpnmikcopkmaaDoor.U
end
section
namespace Go.Proofs.YtgdpnmikcopkmaaDoor.U
open Go.RowKit Go.Proofs.YtgdpnmikcopkmaaDoor.Mu Go.Proofs.YtgdpnmikcopkmaaDoor.Pu Go.Proofs.YtgdpnmikcopkmaaDoorW.PrintWords Go.Proofs.YtgdpnmikcopkmaaDoorW.PrintLast Go.Proofs.YtgdpnmikcopkmaaDoorW.PrintMore
set_option linter.unusedVariables false
set_option linter.unusedSimpArgs false
theorem Eqv.symm {s t : Sc} (h : Eqv s t) : Eqv t s := by
 obtain ⟨R,L,C,rfl,hm,hg⟩ := h
 exact ⟨s.rows,s.lr,s.lc,rfl,fun hq => ⟨(hm hq).1.symm,(hm hq).2.symm⟩,fun i => (hg i).symm⟩
theorem EqvS.symm {S T : Sc × ByteArray} (h : EqvS S T) : EqvS T S := ⟨h.s.symm,h.held.symm,h.o2,h.o1⟩
end Go.Proofs.YtgdpnmikcopkmaaDoor.U
end
section
namespace Go.Proofs.YtgdpnmikcopkmaaDoor.U
open Go.RowKit Go.Proofs.YtgdpnmikcopkmaaDoor.Mu Go.Proofs.YtgdpnmikcopkmaaDoor.Pu Go.Proofs.YtgdpnmikcopkmaaDoorW.PrintWords Go.Proofs.YtgdpnmikcopkmaaDoorW.PrintLast Go.Proofs.YtgdpnmikcopkmaaDoorW.PrintMore
set_option linter.unusedVariables false
set_option linter.unusedSimpArgs false
def GR (s : Sc) : Prop := ∀ i,Good (s.rows.getD i []) X0
structure GS (s : Sc) : Prop where
 rows : GR s
 marks : s.marks = true → (gC (s.rows.getD s.lr []) s.lc).f1 ≠ 0
theorem good_nil : Good [] X0 := fun i hi _ => absurd hi (Nat.not_lt_zero i)
theorem gr_set {rows : List (List Cl)} (h : ∀ i,Good (rows.getD i []) X0) (k : Nat) (hk : k < rows.length) {row : List Cl} (hr : Good row X0) : ∀ i,Good ((rows.set k row).getD i []) X0 := fun i => by
 rw [rw_set _ _ _ _ hk]
 split
 ·exact hr
 ·exact h i
theorem gr_clrR {s : Sc} (h : GR s) (i col : Nat) : GR (s.clrR i col) := by
 rw [clrR_alt]
 split
 ·exact h
 ·rename_i hc
  exact gr_set h i (rw_lt _ _ _ hc) (good_clrtake (h i) col (by omega))
theorem gr_down {s : Sc} (h : GR s) : GR s.down := by
 rw [down_alt]
 split
 ·exact h
 ·intro i
  show Good ((if s.rows.length = s.h then s.rows.drop 1 ++ [[]] else s.rows.drop 1).getD i []) X0
  rw [rw_down]
  exact h _
theorem gC_putC (row : List Cl) (col span : Nat) (t : ByteArray) (hs : span = 1 ∨ span = 2) : (gC (putC row col span t) col).f1 ≠ 0 := by
 unfold putC
 dsimp only
 have hl : (padC row (col + span)).length = max row.length (col + span) := padC_length _ _
 generalize padC row (col + span) = R at hl
 rcases hs with rfl | rfl
 ·rw [if_neg (by decide),if_neg (by decide),gC_of_set _ _ _ _ (by rw [clrH_length];omega),if_pos rfl]
  exact Int.one_ne_zero
 ·rw [if_pos rfl,if_pos rfl,gC_of_set _ _ _ _ (by rw [List.length_set,clrH_length,clrH_length];omega),if_neg (by omega),gC_of_set _ _ _ _ (by rw [clrH_length,clrH_length];omega),if_pos rfl]
  exact (by decide : (2 : Int) ≠ 0)
theorem gs_put {s : Sc} (h : GR s) (t : ByteArray) (ht : t.size ≠ 0) (span : Nat) (hs : span = 1 ∨ span = 2) : GS (Sc.put s t span) := by
 have hp : ∀ i,Good ((padR s.rows (s.r + 1)).getD i []) X0 := fun i => by
  unfold padR
  rw [rw_more]
  exact h i
 have hl : s.r < (padR s.rows (s.r + 1)).length := by rw [padR_length];omega
 constructor
 ·exact gr_set hp s.r hl (good_putC (hp s.r) s.c span t ht hs)
 ·intro _
  show (gC (((padR s.rows (s.r + 1)).set s.r (putC ((padR s.rows (s.r + 1)).getD s.r []) s.c span t)).getD s.r []) s.c).f1 ≠ 0
  rw [rw_set _ _ _ _ hl,if_pos rfl]
  exact gC_putC _ _ _ _ hs
theorem gs_write {s : Sc} (h : GR s) (t : ByteArray) (ht : t.size ≠ 0) (span : Nat) (hs : span = 1 ∨ span = 2) : GS (s.write t span) := by
 have hf : GR (Sc.front s span) := by
  unfold Sc.front
  split
  ·exact gr_down h
  ·exact h
 have hp := gs_put hf t ht span hs
 rw [write_alt]
 split
 ·exact ⟨hp.rows,hp.marks⟩
 ·exact ⟨hp.rows,hp.marks⟩
theorem good_mark {row : List Cl} (h : Good row X0) (k : Nat) (hk : k < row.length) (hf : (gC row k).f1 ≠ 0) (t : ByteArray) : Good (row.set k ⟨(gC row k).f0 ++ t,(gC row k).f1⟩) X0 := by
 intro i hi _
 rw [List.length_set] at hi
 rw [show (row.set k (⟨(gC row k).f0 ++ t,(gC row k).f1⟩ : Cl)).length = row.length from List.length_set,gC_of_set _ _ _ _ hk,gC_of_set _ _ _ _ hk,gC_of_set _ _ _ _ hk]
 have hn : ∀ j,(if j = k then (⟨(gC row k).f0 ++ t,(gC row k).f1⟩ : Cl) else gC row j).f1 = (gC row j).f1 := fun j => by
  split
  ·rename_i e;rw [e]
  ·rfl
 rw [hn,hn,hn]
 have hz : (gC row i).f1 ≠ 0 → (gC row i).f0.size ≠ 0 → (if i = k then (⟨(gC row k).f0 ++ t,(gC row k).f1⟩ : Cl) else gC row i).f0.size ≠ 0 := fun h1 h2 => by
  split
  ·rename_i e
   show ((gC row k).f0 ++ t).size ≠ 0
   rw [ByteArray.size_append,← e]
   omega
  ·exact h2
 rcases h i hi id with ⟨b1,b2⟩ | ⟨b1,b2,b3⟩ | ⟨b1,b2,b3⟩
 ·exact .inl ⟨b1,hz (by omega) b2⟩
 ·exact .inr (.inl ⟨b1,hz (by omega) b2,b3⟩)
 ·refine .inr (.inr ⟨b1,?_,b3⟩)
  rw [if_neg (fun e => by subst e;exact hf b1)]
  exact b2
theorem gs_mark {s : Sc} (h : GS s) (hO : s.Ok) (t : ByteArray) : GS (s.mark t) := by
 unfold Sc.mark
 split
 ·rename_i hm
  obtain ⟨h1,h2⟩ := hO.ma hm
  have hf := h.marks hm
  constructor
  ·exact gr_set h.rows s.lr h1 (good_mark (h.rows s.lr) s.lc h2 hf t)
  ·intro _
   show (gC ((s.rows.set s.lr _).getD s.lr []) s.lc).f1 ≠ 0
   rw [rw_set _ _ _ _ h1,if_pos rfl,gC_of_set _ _ _ _ h2,if_pos rfl]
   exact hf
 ·exact h
theorem gs_un {s : Sc} (h : GR s) (hm : s.marks = false) : GS s := ⟨h,fun e => by rw [hm] at e;cases e⟩
theorem gr_control {s : Sc} (h : GR s) (b : Nat) : GS (s.control b) := by
 have h1 : GR { s with full := false,marks := false } := h
 unfold Sc.control
 dsimp only
 split
 ·exact gs_un h rfl
 split
 ·refine gs_un (gr_down h1) ?_
  rw [down_alt]
  split <;> rfl
 split
 ·exact gs_un h rfl
 ·exact gs_un h rfl
theorem gr_take {s : Sc} (h : GR s) (n : Nat) : GR { s with rows := s.rows.take n } := fun i => by
 show Good ((s.rows.take n).getD i []) X0
 rw [rw_take]
 split
 ·exact h i
 ·exact good_nil
theorem clrR_marks (s : Sc) (i col : Nat) : (s.clrR i col).marks = s.marks := by
 rw [clrR_alt]
 split <;> rfl
theorem gr_carry {s : Sc} (h : GR s) (hm : s.marks = false) (e : Nat) (l : List Int) (ok : Bool) : GS (s.carry e l ok) := by
 have h1 := gr_clrR h s.r s.c
 have h2 : (s.clrR s.r s.c).marks = false := by rw [clrR_marks];exact hm
 unfold Sc.carry
 dsimp only
 split
 ·split
  ·exact gs_un (gr_take h1 _) h2
  ·exact gs_un h hm
 split
 ·split
  ·exact gs_un h1 h2
  ·exact gs_un h hm
 split
 ·exact gs_un h hm
 split
 ·exact gs_un h hm
 ·exact gs_un h hm
theorem gs_escape {s : Sc} (h : GS s) (all : ByteArray) : GS (s.escape all).1 := by
 unfold Sc.escape
 split
 ·exact h
 split
 ·exact gs_un h.rows rfl
 split
 ·exact gs_un h.rows rfl
 split
 ·exact h
 split
 ·exact gs_un h.rows rfl
 ·exact gr_carry (s := { s with marks := false }) h.rows rfl _ _ _
theorem gs_unit {s : Sc} (h : GS s) (hO : s.Ok) (cl : Int) (t : ByteArray) (ht : t.size ≠ 0) : GS (s.unit cl t) := by
 unfold Sc.unit
 split
 ·exact gs_mark h hO t
 split
 ·exact gs_write h.rows t ht 1 (.inl rfl)
 split
 ·exact gs_write h.rows _ (by decide) 1 (.inl rfl)
 split
 ·split
  ·exact gs_write h.rows _ (by decide) 1 (.inl rfl)
  ·exact gs_write h.rows t ht 2 (.inr rfl)
 ·exact gs_un h.rows rfl
theorem gs_step {s : Sc} (h : GS s) (hO : s.Ok) (all : ByteArray) (h0 : all.size ≠ 0) : GS (s.step all).1 := by
 have h1 := uN_pos all 0
 have h2 := uN_le all 0 (by omega)
 unfold Sc.step
 split
 ·exact gs_escape h all
 split
 ·exact gr_control h.rows _
 split
 ·exact h
 ·exact gs_unit h hO _ _ (by rw [size_extract _ _ _ (by omega)];omega)
theorem gs_feedN : ∀ (k : Nat) {s : Sc} (h : GS s) (hO : s.Ok) (all : ByteArray),GS (Sc.feedN k s all).1
 | 0,s,h,hO,all => h
 | k + 1,s,h,hO,all => by
  unfold Sc.feedN
  split
  ·exact h
  ·rename_i h0
   split
   ·exact gs_step h hO all h0
   ·exact gs_feedN k (gs_step h hO all h0) (hO.step all) _
theorem gs_feed {S : Sc × ByteArray} (h : GS S.1) (hO : S.1.Ok) (b : ByteArray) : GS (feedS S b).1 := gs_feedN _ h hO _
theorem gs_resize {s : Sc} (h : GS s) (k : Int) : GS (s.resize k) := by
 refine gs_un (fun i => ?_) rfl
 have hc := cntI_bd k
 show Good ((s.rows.map (rszR (cntI k))).getD i []) X0
 have e : (s.rows.map (rszR (cntI k))).getD i [] = rszR (cntI k) (s.rows.getD i []) := by
  rw [List.getD_eq_getElem?_getD,List.getD_eq_getElem?_getD,List.getElem?_map]
  cases s.rows[i]? with
  | none => rfl
  | some r => rfl
 rw [e]
 exact good_rsz (h.rows i) _ (by omega)
theorem gs_new (a b : Int) : GS (newSc a b) := gs_un (fun i => by
 show Good (([] : List (List Cl)).getD i []) X0
 rw [rw_nil _ _ (Nat.zero_le _)]
 exact good_nil) rfl
/-- What is seen of a row. -/
theorem rd_gC (row : List Cl) (n : Nat) : rd_T38 row (n : Int) = gC row n := rfl
theorem trimN_last (row : List Cl) : ∀ n,trimN row n = 0 ∨ (0 < trimN row n ∧ isBl (gC row (trimN row n - 1)) = false)
 | 0 => .inl rfl
 | n + 1 => by
  unfold trimN
  rw [rd_gC]
  split
  ·exact trimN_last row n
  ·rename_i h
   exact .inr ⟨Nat.succ_pos n,by rw [Nat.add_sub_cancel];simpa using h⟩
theorem trimN_next (row : List Cl) : ∀ n j,trimN row n ≤ j → j < n → isBl (gC row j) = true
 | 0,j,_,h => absurd h (Nat.not_lt_zero j)
 | n + 1,j,h1,h2 => by
  unfold trimN at h1
  rw [rd_gC] at h1
  split at h1
  ·rename_i h
   by_cases e : j = n
   ·rw [e];exact h
   ·exact trimN_next row n j h1 (by omega)
  ·omega
theorem isBl_f1 {x : Cl} (h : isBl x = true) : x.f1 = 1 := by
 unfold isBl at h
 rw [Bool.and_eq_true] at h
 exact eq_of_beq h.2
theorem good_trim {row : List Cl} (h : Good row X0) : Good (trimR row) X0 ∧ (0 < (trimR row).length → isBl (gC (trimR row) ((trimR row).length - 1)) = false) := by
 have hle := trimN_le row row.length
 constructor
 ·unfold trimR
  refine good_take h _ (fun _ _ e => e) (fun i e hi _ h2 => ?_)
  rw [isBl_f1 (trimN_next row row.length (i + 1) (by omega) hi)]
  decide
 ·intro h0
  rw [trimR_len] at h0 ⊢
  rcases trimN_last row row.length with e | ⟨_,e⟩
  ·omega
  ·unfold trimR
   rw [gC_take _ _ _ (by omega)]
   exact e
end Go.Proofs.YtgdpnmikcopkmaaDoor.U
end
section
namespace Go.Proofs.YtgdpnmikcopkmaaDoor.U
open Go.RowKit Go.Proofs.YtgdpnmikcopkmaaDoor.Mu Go.Proofs.YtgdpnmikcopkmaaDoor.Pu Go.Proofs.YtgdpnmikcopkmaaDoorW.PrintWords Go.Proofs.YtgdpnmikcopkmaaDoorW.PrintLast Go.Proofs.YtgdpnmikcopkmaaDoorW.PrintMore
set_option linter.unusedVariables false
set_option linter.unusedSimpArgs false
theorem wrap64_in {x : Int} (h : -1099511627776 ≤ x) (h2 : x ≤ 1099511627776) : wrap64 x = x := by unfold wrap64;omega
theorem empty_iff (s : ByteArray) : (s.toList == ([] : List UInt8)) = (s.size == 0) := by
 have h : s.toList = s.data.toList := Lib.toList_data s
 rw [h]
 have h2 : s.size = s.data.toList.length := Lib.size_eq s
 rw [h2]
 cases s.data.toList with
 | nil => rfl
 | cons a l => rfl
structure CellI (row : List Cl) (i : Nat) : Prop where
 a : ¬ (gC row i).f1 < 0
 b : ¬ (gC row i).f1 > 2
 t : ((gC row i).f0.toList == ([] : List UInt8)) = ((gC row i).f1 == 0)
 p : 0 < i → ((gC row (i - 1)).f1 == 2) = ((gC row i).f1 == 0)
 z : i = 0 → ((gC row i).f1 == 0) = false
theorem cell_info {row : List Cl} (h : Good row X0) (i : Nat) (hi : i < row.length) : CellI row i := by
 have hp : 0 < i → (gC row (i - 1)).f1 = 2 → (gC row i).f1 = 0 := fun h0 h2 => by
  rcases h (i - 1) (by omega) id with ⟨b1,_⟩ | ⟨b1,_,_,_,b5⟩ | ⟨b1,_⟩
  ·omega
  ·rw [show i - 1 + 1 = i by omega] at b5;exact b5
  ·omega
 rcases h i hi id with ⟨b1,b2⟩ | ⟨b1,b2,b3⟩ | ⟨b1,b2,b3,b4,b5⟩
 ·refine ⟨by omega,by omega,?_,fun h0 => ?_,fun _ => by rw [b1];rfl⟩
  ·rw [empty_iff,b1];simpa using b2
  ·rw [b1,show ((1 : Int) == 0) = false from rfl]
   simp only [beq_eq_false_iff_ne]
   intro e
   have := hp h0 e
   omega
 ·refine ⟨by omega,by omega,?_,fun h0 => ?_,fun _ => by rw [b1];rfl⟩
  ·rw [empty_iff,b1];simpa using b2
  ·rw [b1,show ((2 : Int) == 0) = false from rfl]
   simp only [beq_eq_false_iff_ne]
   intro e
   have := hp h0 e
   omega
 ·refine ⟨by omega,by omega,?_,fun h0 => ?_,fun e => by omega⟩
  ·rw [empty_iff,b1,b2];rfl
  ·rw [b1,b5];rfl
theorem cells_at {row : List Cl} {A : Option Addr} {w : World} (hC : Kd.C k38 w A row.length row) (i : Nat) (hi : i < row.length) : ∃ ad : Addr,A = some ad ∧ w.cell? (ad.add (i * 2)) = some (.string (gC row i).f0) ∧ w.cell? ⟨(ad.add (i * 2)).block,(ad.add (i * 2)).off + 1,none⟩ = some (.int .i64 (gC row i).f1) := by
 obtain ⟨ad,h1,h2,h3⟩ := at_T38 hC (i : Int) (by omega) (by omega)
 rw [Int.toNat_natCast,rd_gC] at h2 h3
 exact ⟨ad,h1,h2,h3⟩
attribute [local go_sem high] cell_eq
set_option maxRecDepth 100000 in
set_option maxHeartbeats 8000000 in
theorem fits_any {row : List Cl} (h : Good row X0) (hl : 0 < row.length → isBl (gC row (row.length - 1)) = false) (w : Int) (hw : (row.length : Int) ≤ w) (hm : row.length ≤ 1099511627776) (A : Option Addr) (c : Nat) (W : World) (hC : Kd.C k38 W A row.length row) (hc : row.length ≤ c) :
  Calls Tryd.prog 33 #[.slice A row.length c,.int .i64 w] W fun e w' => e = .returned (.bool true) ∧ Below W.heap.size W w' := by
 go_enter Tryd.func33,Tryd.ntmps33
 go_wp2_with (fail)
 go_loopw [11] (fun v wr => ∃ i : Nat,v = .int .i64 i ∧ i ≤ row.length ∧ Below W.heap.size W wr) (fun v _ => row.length - (intOf v).toNat)
 case atStart => exact ⟨0,rfl,Nat.zero_le _,Below.refl _ _⟩
 case round =>
  obtain ⟨i,rfl,hi,hbl⟩ := hrel
  by_cases hlt : i < row.length
  ·have hlt' : (i : Int) < (row.length : Int) := by omega
   obtain ⟨q1,q2,q3,q4,q5⟩ := cell_info h i hlt
   have hC1 := Kd.C_below hC hbl
   obtain ⟨ad,rfl,l0,l1⟩ := cells_at hC1 i hlt
   go_upto_region 4 with (fail)
   have hal := below_alloc (Below.refl _ wr) (.cells #[.string (gC row i).f0,.int .i64 (gC row i).f1] 38 (0,0))
   have hq := World.alloc_heap_new wr (.cells #[.string (gC row i).f0,.int .i64 (gC row i).f1] 38 (0,0))
   have hb1 := hbl.trans (hal.mono hbl.size)
   have hC2 := Kd.C_below hC1 hal
   generalize wr.alloc (.cells #[.string (gC row i).f0,.int .i64 (gC row i).f1] 38 (0,0)) = w1 at hq hb1 hC2 ⊢
   clear hal hC1 l0 l1 hbl
   have c0 := blk_cell hq 0
   have c1 := blk_cell hq 1
   have q1' := eq_false q1
   have q2' := eq_false q2
   by_cases h0 : 0 < i
   ·obtain ⟨ad',he,l0,l1⟩ := cells_at hC2 (i - 1) (by omega)
    injection he with he
    subst he
    have q4' := q4 h0
    obtain ⟨m,rfl⟩ : ∃ m,i = m + 1 := ⟨i - 1,by omega⟩
    rw [Nat.add_sub_cancel] at l0 l1 q4'
    have hw : IntKind.i64.wrap (((m + 1 : Nat) : Int) - 1) = (m : Int) := (wrapN (by omega) (by omega)).trans (by omega)
    have hp' := eq_true (show (0 : Int) < ((m + 1 : Nat) : Int) by omega)
    have hm' := eq_true (show (m : Int) < (row.length : Int) by omega)
    obtain ⟨b,hb⟩ : ∃ b,((gC row (m + 1)).f1 == 0) = b := ⟨_,rfl⟩
    rw [hb] at q3 q4'
    clear q4 q5 hq
    cases b <;>
    ·go_wp2_with (fail)
     go_roundw
     case rel => exact ⟨m + 2,by go_num,by omega,hb1⟩
     case measure => simp [intOf];omega
   ·obtain rfl : i = 0 := by omega
    have q5' := q5 rfl
    rw [q5'] at q3
    clear q4 q5 hq
    go_wp2_with (fail)
    go_roundw
    case rel => exact ⟨1,by go_num,by omega,hb1⟩
    case measure => simp [intOf];omega
  ·have hC1 := Kd.C_below hC hbl
   have hlt2 := eq_false (show ¬ (i : Int) < (row.length : Int) by omega)
   clear hlt
   go_upto_region 9 with (fail)
   clear hlt2
   by_cases h0 : row.length = 0
   ·have h0' := eq_true (show (row.length : Int) = 0 by omega)
    have h00 : ((row.length : Int) == 0) = true := by simp;exact List.eq_nil_of_length_eq_zero h0
    have hw' := eq_true hw
    go_wp2_with (fail)
    go_ret
    exact ⟨rfl,hbl⟩
   ·obtain ⟨n,hn⟩ : ∃ n,row.length = n + 1 := ⟨row.length - 1,by omega⟩
    obtain ⟨ad,rfl,l0,l1⟩ := cells_at hC1 n (by omega)
    have hlast := hl (by omega)
    rw [hn,Nat.add_sub_cancel] at hlast
    unfold isBl at hlast
    have hf1 : (gC row n).f1 < 2 := by
     rcases h n (by omega) id with ⟨b1,_⟩ | ⟨_,_,b3,_⟩ | ⟨b1,_⟩ <;> omega
    have hf1' := eq_true hf1
    rw [hn] at hw hc hm
    have hw' := eq_true (show (n : Int) + 1 ≤ w by omega)
    have hwn : IntKind.i64.wrap (((n + 1 : Nat) : Int) - 1) = (n : Int) := (wrapN (by omega) (by omega)).trans (by omega)
    have hnl := eq_true (show (n : Int) < (n : Int) + 1 by omega)
    have hz : (((n : Int) + 1) == 0) = false := by simp;omega
    rw [hn]
    clear h0 hC1 hl
    go_wp2_with (fail)
    go_ret
    exact ⟨rfl,hbl⟩
end Go.Proofs.YtgdpnmikcopkmaaDoor.U
end
section
namespace Go.Proofs.YtgdpnmikcopkmaaDoor.U
open Go.RowKit Go.Proofs.YtgdpnmikcopkmaaDoor.Mu Go.Proofs.YtgdpnmikcopkmaaDoor.Pu Go.Proofs.YtgdpnmikcopkmaaDoorW.PrintWords Go.Proofs.YtgdpnmikcopkmaaDoorW.PrintLast Go.Proofs.YtgdpnmikcopkmaaDoorW.PrintMore
set_option linter.unusedVariables false
set_option linter.unusedSimpArgs false
theorem feedN_tb2 : ∀ (k : Nat) {s : Sc} {n : Nat} (h : s.TB n) (h4 : 4 ≤ n) (all : ByteArray),(Sc.feedN k s all).1.TB (n + (all.size - (Sc.feedN k s all).2.size))
 | 0,s,n,h,h4,all => h.mono (Nat.le_add_right _ _)
 | k + 1,s,n,h,h4,all => by
  unfold Sc.feedN
  split
  ·exact h.mono (Nat.le_add_right _ _)
  ·rename_i h0
   have h1 := h.step h4 all (by omega)
   have h2 := step_le s all (by omega)
   split
   ·rename_i hz
    rw [hz] at h1
    exact h1.mono (Nat.le_add_right _ _)
   ·have h3 := feedN_tb2 k h1 (by omega) (all.extract (s.step all).2 all.size)
    have h5 := feedN_rest k (s.step all).1 (all.extract (s.step all).2 all.size)
    rw [size_extract _ _ _ (Nat.le_refl _)] at h3 h5
    exact h3.mono (by omega)
/-- What feeding asks for,and how it grows. -/
structure Fit2 (S : Sc × ByteArray) (N : Nat) : Prop where
 ok : S.1.Ok
 tb : ∃ B,S.1.TB B ∧ 4 ≤ B ∧ B + S.2.size ≤ N
theorem Fit2.fit {S : Sc × ByteArray} {N : Nat} (h : Fit2 S N) : Fit S N := by
 obtain ⟨B,h1,h2,h3⟩ := h.tb
 exact ⟨h.ok,h1.mono (by omega),by omega,by omega⟩
theorem Fit2.feed {S : Sc × ByteArray} {N : Nat} (h : Fit2 S N) (b : ByteArray) : Fit2 (feedS S b) (N + b.size) := by
 obtain ⟨B,h1,h2,h3⟩ := h.tb
 have h4 := feedN_tb2 (S.2 ++ b).size h1 h2 (S.2 ++ b)
 have h5 := feedN_rest (S.2 ++ b).size S.1 (S.2 ++ b)
 have h6 : (S.2 ++ b).size = S.2.size + b.size := ByteArray.size_append
 refine ⟨feedS_ok h.ok b,_,h4,by omega,?_⟩
 show B + ((S.2 ++ b).size - (Sc.feedN (S.2 ++ b).size S.1 (S.2 ++ b)).2.size) + (Sc.feedN (S.2 ++ b).size S.1 (S.2 ++ b)).2.size ≤ N + b.size
 omega
theorem Fit2.resize {S : Sc × ByteArray} {N : Nat} (h : Fit2 S N) (k : Int) : Fit2 (S.1.resize k,S.2) N := by
 obtain ⟨B,h1,h2,h3⟩ := h.tb
 exact ⟨resize_ok h.ok k,B,resize_tb h1 (by omega) k,h2,h3⟩
theorem Fit2.mono {S : Sc × ByteArray} {N M : Nat} (h : Fit2 S N) (hm : N ≤ M) : Fit2 S M := by
 obtain ⟨B,h1,h2,h3⟩ := h.tb
 exact ⟨h.ok,B,h1,h2,by omega⟩
theorem fit2_new (a b : Int) : Fit2 (newSc a b,⟨#[]⟩) 4 := ⟨newSc_ok a b,4,(fit_new a b).tb,by decide,Nat.le_refl 4⟩
structure OpV where
 f0 : ByteArray
 f1 : Int
 f2 : Bool
def kOp : Kd OpV := Kd.iso (Kd.pair Kd.string (Kd.pair (Kd.int .i64) Kd.bool)) (fun x : OpV => (x.f0,x.f1,x.f2))
def zOp : OpV := ⟨⟨#[]⟩,0,false⟩
theorem kOp_open {w : World} {x : OpV} {cs : List Value} (h : kOp.K w x cs) : cs = [.string x.f0,.int .i64 x.f1,.bool x.f2] := by
 obtain ⟨_,_,rfl,rfl,_,_,rfl,rfl,rfl⟩ := h
 exact rfl
theorem kOp_mk (w : World) (x : OpV) : kOp.K w x [.string x.f0,.int .i64 x.f1,.bool x.f2] := ⟨[.string x.f0],[.int .i64 x.f1,.bool x.f2],rfl,rfl,[.int .i64 x.f1],[.bool x.f2],rfl,rfl,rfl⟩
theorem op_at {w : World} {A : Option Addr} {xs : List OpV} (h : Kd.C kOp w A xs.length xs) (i : Nat) (hi : i < xs.length) : ∃ ad : Addr,A = some ad ∧ w.cell? (ad.add (i * 3)) = some (.string (xs.getD i zOp).f0) ∧ w.cell? ⟨(ad.add (i * 3)).block,(ad.add (i * 3)).off + 1,none⟩ = some (.int .i64 (xs.getD i zOp).f1) ∧ w.cell? ⟨(ad.add (i * 3)).block,(ad.add (i * 3)).off + 2,none⟩ = some (.bool (xs.getD i zOp).f2) := by
 obtain ⟨ad,c,e,_,hK,hc0⟩ := Kd.C_get h zOp (i : Int) (by omega) (by omega)
 rw [Int.toNat_natCast] at hK hc0
 have hc : ∀ j u,c[j]? = some u → w.cell? (ad.add (i * 3 + j)) = some u := hc0
 obtain rfl := kOp_open hK
 exact ⟨ad,e,hc 0 _ rfl,by rw [← add_field _ _ 1 (by omega)];exact hc 1 _ rfl,by rw [← add_field _ _ 2 (by omega)];exact hc 2 _ rfl⟩
end Go.Proofs.YtgdpnmikcopkmaaDoor.U
end
