/- What the law ScreenTypes reaches of this seat's own texts, merged; what nothing uses is left out. -/
import Derived.Test.YtgdpnmikcopkmaaDoorZScreenTypes0
import Derived.Test.YtgdpnmikcopkmaaDoorZScreenTypes1
import Derived.Test.YtgdpnmikcopkmaaDoorZScreenTypes2
import Derived.Test.YtgdpnmikcopkmaaDoorZScreenTypes3
import Derived.Test.YtgdpnmikcopkmaaDoorZScreenTypes4
import Derived.Test.YtgdpnmikcopkmaaDoorZScreenTypes5
section
namespace Go.Proofs.YtgdpnmikcopkmaaDoor.U
open Go.RowKit Go.Proofs.YtgdpnmikcopkmaaDoor.Mu Go.Proofs.YtgdpnmikcopkmaaDoor.Pu Go.Proofs.YtgdpnmikcopkmaaDoorW.PrintWords Go.Proofs.YtgdpnmikcopkmaaDoorW.PrintLast Go.Proofs.YtgdpnmikcopkmaaDoorW.PrintMore
set_option linter.unusedVariables false
set_option linter.unusedSimpArgs false
attribute [local go_sem high] place_eq
def ex9.T : Bool × List (List Nat × List Nat) := (true,[([],[]),([0],[0]),([1],[1]),([2],[2]),([3],[3]),([4],[4]),([5,4],[4,5]),([6,4],[4,6]),([7,4],[4,7]),([4,4],[4]),([8,9,9,4],[4,8,9]),([4,10],[4,10]),([11,10],[11]),([12],[12]),([13,12],[12,13]),([14,12],[12,14]),([15,12],[12,15]),([12,12],[12]),([16,17,17,12],[12,16,17]),([12,18],[12,18]),([19,18],[19]),([20],[20]),([20],[20]),([21,22,20,20],[20,21,22]),([20,23],[20,23]),([24,23],[24]),([25],[25]),([26,25,25],[25,26]),([27,25],[25,27]),([25,28],[25,28]),([29,27,0,1,2,3,4,5,6,7,8,9,10,11,12,13,14,15,16,17,18,19,20,21,22,23,24,25,26,27,28,29],[29])])
def ex9.B : List Nat := [0,1,3,7,15,31,63,127,255,31,1023,2047,4095,8191,16383,32767,65535,8191,262143,524287,1048575,2097151,2097151,8388607,16777215,33554431,67108863,134217727,268435455,536870911,1073741823]
theorem ex9.tab : rtab .any (opsOf Tryd.f13 9) = ex9.T := by kernel_rfl
theorem ex9.bits : waitsOk ex9.T.2 ex9.B = true := by kernel_rfl
theorem sees6 {w w' : World} {a0 a1 a2 a3 a4 a5 : Addr} {v0 v1 v2 v3 v4 v5 : Value} (h : w.cell? a0 = some v0 ∧ w.cell? a1 = some v1 ∧ w.cell? a2 = some v2 ∧ w.cell? a3 = some v3 ∧ w.cell? a4 = some v4 ∧ w.cell? a5 = some v5) (hb : Below w.heap.size w w') : w'.cell? a0 = some v0 ∧ w'.cell? a1 = some v1 ∧ w'.cell? a2 = some v2 ∧ w'.cell? a3 = some v3 ∧ w'.cell? a4 = some v4 ∧ w'.cell? a5 = some v5 := ⟨cell_below h.1 hb,cell_below h.2.1 hb,cell_below h.2.2.1 hb,cell_below h.2.2.2.1 hb,cell_below h.2.2.2.2.1 hb,cell_below h.2.2.2.2.2 hb⟩
theorem sees6k {w w' : World} {q g : Nat} {T : Nat → Prop} {v0 v1 v2 v3 v4 v5 : Value} (h : w.cell? ⟨q,0,none⟩ = some v0 ∧ w.cell? ⟨q,1,none⟩ = some v1 ∧ w.cell? ⟨q,2,none⟩ = some v2 ∧ w.cell? ⟨q,3,none⟩ = some v3 ∧ w.cell? ⟨g,0,none⟩ = some v4 ∧ w.cell? ⟨g,1,none⟩ = some v5) (hk : Kept w w' T) (hq : ¬ T q) (hg : ¬ T g) : w'.cell? ⟨q,0,none⟩ = some v0 ∧ w'.cell? ⟨q,1,none⟩ = some v1 ∧ w'.cell? ⟨q,2,none⟩ = some v2 ∧ w'.cell? ⟨q,3,none⟩ = some v3 ∧ w'.cell? ⟨g,0,none⟩ = some v4 ∧ w'.cell? ⟨g,1,none⟩ = some v5 :=
 ⟨kept_cell h.1 hk hq,kept_cell h.2.1 hk hq,kept_cell h.2.2.1 hk hq,kept_cell h.2.2.2.1 hk hq,kept_cell h.2.2.2.2.1 hk hg,kept_cell h.2.2.2.2.2 hk hg⟩
set_option maxRecDepth 100000 in
set_option maxHeartbeats 8000000 in
theorem law_shows (W : World) (hT : Lib.Utf8Tabs 0 1 W) (h2 : 2 ≤ W.heap.size) :
  Calls Tryd.prog 13 #[] W fun e w' => e = .returned (.bool true) ∧ Below W.heap.size W w' := by
 have hnil : ∀ (w : World) p,(binOp .neq 28 (.pointer (some p)) (.pointer none)).run Tryd.prog w = (binOp .neq 28 (.pointer (some p)) (.pointer none)).run Tryd.prog w := fun _ _ => rfl
 have hq : ∀ (w : World) (a : Option Addr),(binOp .eql 28 (.pointer a) (.pointer none)).run Tryd.prog w = .ok (.bool a.isNone) w := fun w a => run_eql_ptr_nil (tp := 28) (te := 69) w a Tryd.underlying28 (j := _) rfl
 clear hnil
 have eC := exA_c
 have eR := exA_r
 have eF := exA_full
 have fA := exA_fit
 have fB := exB_fit
 have hAe := Lib.hid (show feedS (newSc 3 2,⟨#[]⟩) ⟨#[97,98,99]⟩ = exA from rfl)
 have hBe := Lib.hid (show feedS exA ⟨#[27,91,75,100]⟩ = exB from rfl)
 go_enter Tryd.func13,Tryd.ntmps13
 go_upto_region 5 with (first | (go_at_call 39;refine (cluster_Next.calls 50 _ _ _ _ hT ex_next).mono ?_;rintro e w1 ⟨rfl,hb1⟩) | (go_at_call 14;refine (scr_new 3 2 _).mono ?_;rintro e w2 ⟨p,rfl,hp,hS,hb2⟩;have hb12 := hb1.trans (hb2.mono hb1.size);have hS2 := hS W.heap.size hb1.size;have hT2 := tabs_below hT hb12;have hsz2 := hb12.size;clear hS) | (go_at_call 16;refine (scr_feed hS2 hsz2 h2 hT2 (fit_new 3 2) ⟨#[97,98,99]⟩ (by decide)).mono ?_;rintro e w3 ⟨rfl,O3,hM3⟩;rw [hAe.out] at hM3))
 have hM3' := hM3
 have hs3 := hM3.scr.at_
 have hcur := sc_cursor hs3
 have hful := sc_full hs3
 rw [eC,eR] at hcur
 rw [eF] at hful
 have hT3 := tabs_base hT2 hM3.below h2
 clear hb1 hb2 hT hS2
 go_upto_region 7 with (first | (go_at_call 26;refine hcur.mono ?_;rintro e w4 ⟨rfl,hb4⟩;have hful4 := sc_full (hs3.below hb4);rw [eF] at hful4) | (go_at_call 25;refine hful4.mono ?_;rintro e w5 ⟨rfl,hb5⟩))
 have hb45 := hb4.trans (hb5.mono hb4.size)
 have hsz3 : W.heap.size ≤ w3.heap.size := Nat.le_trans hsz2 hM3.kept.1
 have hM5 := hM3.then_ (Made.of_below hM3.scr hb45 hsz3)
 have hsz5 : W.heap.size ≤ w5.heap.size := Nat.le_trans hsz3 hb45.size
 have hT5 := tabs_below hT3 hb45
 clear hb4 hb5 hb45 hcur hful hful4 hs3 hM3 hM3' hT3
 go_upto_region 9 with (first | (go_at_call 16;refine (scr_feed hM5.scr hsz5 h2 hT5 fA ⟨#[27,91,75,100]⟩ (by decide)).mono ?_;rintro e w6 ⟨rfl,O6,hM6⟩;rw [hBe.out] at hM6;have hsz6 : W.heap.size ≤ w6.heap.size := Nat.le_trans hsz5 hM6.kept.1) | (go_at_call 20;refine (scr_frame hM6.scr hsz6 fB.ok 2).mono ?_;rintro e w7 ⟨rv,rfl,hS7,hM7⟩;rw [exB_n,exB_frame] at hS7;obtain ⟨gF,cF,rfl,hgF,hgF2,_,_⟩ := Kd.S_form hS7 (by decide)))
 have hM67 := (hM5.then_ hM6).then_ hM7
 have hsz7 : W.heap.size ≤ w7.heap.size := Nat.le_trans hsz6 hM7.kept.1
 have hal := below_alloc (Below.refl _ w7) (.cells #[.int .i64 exB.1.w,.slice (some ⟨gF,0,none⟩) 2 cF,.int .i64 exB.1.r,.int .i64 exB.1.c] 26 (0,0))
 have hM8 := hM67.then_ (Made.of_below hM67.scr hal hsz7)
 have hF8 := Kd.S_below hS7 hal
 have hq8 := World.alloc_heap_new w7 (.cells #[.int .i64 exB.1.w,.slice (some ⟨gF,0,none⟩) 2 cF,.int .i64 exB.1.r,.int .i64 exB.1.c] 26 (0,0))
 obtain ⟨ad0,A0,k0,had0,r0,hk0,hC0⟩ := at_L3 (Kd.S_reads' hF8).2.2 0 (by decide) (by decide)
 obtain ⟨ad1,A1,k1,had1,r1,hk1,hC1⟩ := at_L3 (Kd.S_reads' hF8).2.2 1 (by decide) (by decide)
 injection had0 with had0
 subst had0
 injection had1 with had1
 subst had1
 have hC0 : Kd.C k38 _ A0 2 exR0 := hC0
 have hC1 : Kd.C k38 _ A1 1 exR1 := hC1
 have hk0 : 2 ≤ k0 := hk0
 have hk1 : 1 ≤ k1 := hk1
 have r0 : (w7.alloc (.cells #[.int .i64 exB.1.w,.slice (some ⟨gF,0,none⟩) 2 cF,.int .i64 exB.1.r,.int .i64 exB.1.c] 26 (0,0))).cell? ⟨gF,0,none⟩ = some (.slice A0 2 k0) := r0
 have r1 : (w7.alloc (.cells #[.int .i64 exB.1.w,.slice (some ⟨gF,0,none⟩) 2 cF,.int .i64 exB.1.r,.int .i64 exB.1.c] 26 (0,0))).cell? ⟨gF,1,none⟩ = some (.slice A1 1 k1) := r1
 have hpq := hM6.scr.lt
 have hOq := hM6.scr.bd
 have hq6 : w6.heap.size ≤ w7.heap.size := hM7.kept.1
 have hnk : ∀ k,w6.heap.size ≤ k → ¬ (O6 k ∨ k = p) := fun k hk he => he.elim (fun h => by have := hOq k h;omega) (fun h => by omega)
 have eN := exB_nr
 have eA := exB_all
 generalize hqe : w7.heap.size = q at hq8 hq6 ⊢
 have hsz8 : W.heap.size ≤ (w7.alloc (.cells #[.int .i64 exB.1.w,.slice (some ⟨gF,0,none⟩) 2 cF,.int .i64 exB.1.r,.int .i64 exB.1.c] 26 (0,0))).heap.size := by rw [World.size_alloc];omega
 generalize w7.alloc (.cells #[.int .i64 exB.1.w,.slice (some ⟨gF,0,none⟩) 2 cF,.int .i64 exB.1.r,.int .i64 exB.1.c] 26 (0,0)) = w8 at hM8 hF8 hq8 hC0 hC1 r0 r1 hsz8 ⊢
 clear hM67 hal hM5 hM6 hM7 hS7 hT5 eC eR eF hAe hBe hqe hgF2 hq
 refine start_ (n := 31) (S := fun w' => w'.cell? ⟨q,0,none⟩ = some (.int .i64 exB.1.w) ∧ w'.cell? ⟨q,1,none⟩ = some (.slice (some ⟨gF,0,none⟩) 2 cF) ∧ w'.cell? ⟨q,2,none⟩ = some (.int .i64 exB.1.r) ∧ w'.cell? ⟨q,3,none⟩ = some (.int .i64 exB.1.c) ∧ w'.cell? ⟨gF,0,none⟩ = some (.slice A0 2 k0) ∧ w'.cell? ⟨gF,1,none⟩ = some (.slice A1 1 k1)) (ds := []) #[false,false,false,false,false,false,false,false,false,false,false,false,false,false,false,false,false,false,false,false,false,false,false,false,false,false,false,false,false,false,false] (by kernel_rfl) rfl rfl ⟨blk_cell hq8 0,blk_cell hq8 1,blk_cell hq8 2,blk_cell hq8 3,r0,r1⟩ (fun hHeld => ?_);refine with_tabW ex9.tab ex9.bits (fun HT_ HW_ => ?_)
 have hdr8 : Below w8.heap.size w8 w8.drew := below_drew (Below.refl _ _)
 have hM9 := hM8.then_ (Made.of_below hM8.scr hdr8 hsz8)
 have hF9 := Kd.S_below hF8 hdr8
 have hC0 := Kd.C_below hC0 hdr8
 have hC1 := Kd.C_below hC1 hdr8
 have hsz9 : W.heap.size ≤ w8.drew.heap.size := hsz8
 generalize w8.drew = w9 at hM9 hF9 hC0 hC1 hsz9 hHeld ⊢
 clear hM8 hF8 hq8 r0 r1 hdr8
 refine pure_ (i := 0) (N := (some 25)) (v := ?_) (a' := ?_) #[true,false,false,false,false,false,false,false,false,false,false,false,false,false,false,false,false,false,false,false,false,false,false,false,false,false,false,false,false,false,false] rfl rfl (any_of HT_.out (by kernel_rfl)) (fun _ _ _ h => h) (Or.inl ⟨by rfl,?_⟩) ?_ ?_
 rotate_left
 ·intro w'
  go_simp
  with_reducible rfl
 rotate_left
 ·simp only [Act.put,List.setIfInBounds_toArray,List.set_cons_zero,List.set_cons_succ,i64_w,i32_w]
  rfl
 refine take_ (i := 1) (N := (some 26)) (v := ?_) (a' := ?_) #[true,true,false,false,false,false,false,false,false,false,false,false,false,false,false,false,false,false,false,false,false,false,false,false,false,false,false,false,false,false,false] rfl rfl (take_ofW HT_.out HW_.out (by kernel_rfl)) (fun _ _ _ h => h) (Or.inl ⟨by rfl,?_⟩) hHeld ?_ ?_
 rotate_left
 ·rintro w' ⟨s1,s2,s3,s4,s5,s6⟩
  go_simp
  with_reducible rfl
 rotate_left
 ·simp only [Act.put,List.setIfInBounds_toArray,List.set_cons_zero,List.set_cons_succ,i64_w,i32_w]
  rfl
 refine pure_ (i := 2) (N := (some 27)) (v := ?_) (a' := ?_) #[true,true,true,false,false,false,false,false,false,false,false,false,false,false,false,false,false,false,false,false,false,false,false,false,false,false,false,false,false,false,false] rfl rfl (any_of HT_.out (by kernel_rfl)) (fun _ _ _ h => h) (Or.inl ⟨by rfl,?_⟩) ?_ ?_
 rotate_left
 ·intro w'
  go_simp
  with_reducible rfl
 rotate_left
 ·simp only [Act.put,List.setIfInBounds_toArray,List.set_cons_zero,List.set_cons_succ,i64_w,i32_w]
  rfl
 refine pure_ (i := 3) (N := (some 28)) (v := ?_) (a' := ?_) #[true,true,true,true,false,false,false,false,false,false,false,false,false,false,false,false,false,false,false,false,false,false,false,false,false,false,false,false,false,false,false] rfl rfl (any_of HT_.out (by kernel_rfl)) (fun _ _ _ h => h) (Or.inl ⟨by rfl,?_⟩) ?_ ?_
 rotate_left
 ·intro w'
  go_simp
  with_reducible rfl
 rotate_left
 ·simp only [Act.put,List.setIfInBounds_toArray,List.set_cons_zero,List.set_cons_succ,i64_w,i32_w]
  rfl
 refine pure_ (i := 4) (N := (some 29)) (v := ?_) (a' := ?_) #[true,true,true,true,true,false,false,false,false,false,false,false,false,false,false,false,false,false,false,false,false,false,false,false,false,false,false,false,false,false,false] rfl rfl (any_of HT_.out (by kernel_rfl)) (fun _ _ _ h => h) (Or.inl ⟨by rfl,?_⟩) ?_ ?_
 rotate_left
 ·intro w'
  go_simp
  with_reducible rfl
 rotate_left
 ·simp only [Act.put,List.setIfInBounds_toArray,List.set_cons_zero,List.set_cons_succ,i64_w,i32_w]
  rfl
 refine pure_ (i := 5) (N := (some 30)) (v := ?_) (a' := ?_) #[true,true,true,true,true,true,false,false,false,false,false,false,false,false,false,false,false,false,false,false,false,false,false,false,false,false,false,false,false,false,false] rfl rfl (any_of HT_.out (by kernel_rfl)) (fun _ _ _ h => h) (Or.inl ⟨by rfl,?_⟩) ?_ ?_
 rotate_left
 ·intro w'
  go_simp
  with_reducible rfl
 rotate_left
 ·simp only [Act.put,List.setIfInBounds_toArray,List.set_cons_zero,List.set_cons_succ,i64_w,i32_w]
  rfl
 refine take_ (i := 6) (N := (some 31)) (v := ?_) (a' := ?_) #[true,true,true,true,true,true,true,false,false,false,false,false,false,false,false,false,false,false,false,false,false,false,false,false,false,false,false,false,false,false,false] rfl rfl (take_ofW HT_.out HW_.out (by kernel_rfl)) (fun _ _ _ h => h) (Or.inl ⟨by rfl,?_⟩) hHeld ?_ ?_
 rotate_left
 ·rintro w' ⟨s1,s2,s3,s4,s5,s6⟩
  go_simp
  with_reducible rfl
 rotate_left
 ·simp only [Act.put,List.setIfInBounds_toArray,List.set_cons_zero,List.set_cons_succ,i64_w,i32_w]
  rfl
 refine pure_ (i := 7) (N := (some 32)) (v := ?_) (a' := ?_) #[true,true,true,true,true,true,true,true,false,false,false,false,false,false,false,false,false,false,false,false,false,false,false,false,false,false,false,false,false,false,false] rfl rfl (any_of HT_.out (by kernel_rfl)) (fun _ _ _ h => h) (Or.inl ⟨by rfl,?_⟩) ?_ ?_
 rotate_left
 ·intro w'
  go_simp
  with_reducible rfl
 rotate_left
 ·simp only [Act.put,List.setIfInBounds_toArray,List.set_cons_zero,List.set_cons_succ,i64_w,i32_w]
  rfl
 refine take_ (i := 8) (N := (some 33)) (v := ?_) (a' := ?_) #[true,true,true,true,true,true,true,true,true,false,false,false,false,false,false,false,false,false,false,false,false,false,false,false,false,false,false,false,false,false,false] rfl rfl (take_ofW HT_.out HW_.out (by kernel_rfl)) (fun _ _ _ h => h) (Or.inl ⟨by rfl,?_⟩) hHeld ?_ ?_
 rotate_left
 ·rintro w' ⟨s1,s2,s3,s4,s5,s6⟩
  go_simp
  with_reducible rfl
 rotate_left
 ·simp only [Act.put,List.setIfInBounds_toArray,List.set_cons_zero,List.set_cons_succ,i64_w,i32_w]
  rfl
 refine one_ (i := 9) (N := (some 34)) #[true,true,true,true,true,true,true,true,true,true,false,false,false,false,false,false,false,false,false,false,false,false,false,false,false,false,false,false,false,false,false] rfl rfl (one_of HT_.out (by kernel_rfl)) (by decide) (fun K hK => ?_)
 refine call_ 27 #[.string ⟨#[97,98]⟩] (by rfl) rfl au10 ?_
 refine (bodkinlaw22_row.calls 10 _ _ _ ex_row0).mono ?_
 rintro e w10 ⟨va,rfl,hVa,hba⟩
 obtain ⟨Ba,da,rfl⟩ := Kd.R_slice hVa
 have hM10 := hM9.then_ (Made.of_below hM9.scr hba hsz9)
 have hF10 := Kd.S_below hF9 hba
 have hsz10 : W.heap.size ≤ w10.heap.size := Nat.le_trans hsz9 hba.size
 have hC0 := Kd.C_below hC0 hba
 have hC1 := Kd.C_below hC1 hba
 have hDa := (Kd.R_reads' hVa).2.2
 have hDca := (Kd.R_reads' hVa).2.1
 refine ⟨_,rfl,hK.out _ _ (sees6 hHeld hba) (fun hHeld => ?_)⟩
 clear hK K hM9 hF9
 refine norm_ (a' := ?_) ?_ ?_
 rotate_left
 ·show Act.put _ (some 34) _ = _
  simp only [Act.put,List.setIfInBounds_toArray,List.set_cons_zero,List.set_cons_succ,i64_w,i32_w]
  rfl
 refine one_ (i := 10) (N := (some 35)) #[true,true,true,true,true,true,true,true,true,true,true,false,false,false,false,false,false,false,false,false,false,false,false,false,false,false,false,false,false,false,false] rfl rfl (one_of HT_.out (by kernel_rfl)) (by decide) (fun K hK => ?_)
 refine call_ 36 #[.slice A0 2 k0,.slice Ba exR0.length da] (by rfl) rfl au10 ?_
 refine (bodkinref22_SameRow.calls 10 A0 k0 exR0 Ba da exR0 true _ hC0 (by assumption) hDa (by assumption) ex_same0).mono ?_
 rintro e w11 ⟨rfl,hdr10⟩
 have hbs10 := hdr10.below
 have hM11 := hM10.then_ (Made.of_below hM10.scr hbs10 hsz10)
 have hF11 := Kd.S_below hF10 hbs10
 have hsz11 : W.heap.size ≤ w11.heap.size := Nat.le_trans hsz10 hbs10.size
 have hC0 := Kd.C_below hC0 hbs10
 have hC1 := Kd.C_below hC1 hbs10
 refine ⟨_,rfl,hK.out _ _ (sees6 hHeld hbs10) (fun hHeld => ?_)⟩
 clear hK K hM10 hF10
 refine norm_ (a' := ?_) ?_ ?_
 rotate_left
 ·show Act.put _ (some 35) _ = _
  simp only [Act.put,List.setIfInBounds_toArray,List.set_cons_zero,List.set_cons_succ,i64_w,i32_w]
  rfl
 refine pure_ (i := 11) (N := (some 36)) (v := ?_) (a' := ?_) #[true,true,true,true,true,true,true,true,true,true,true,true,false,false,false,false,false,false,false,false,false,false,false,false,false,false,false,false,false,false,false] rfl rfl (any_of HT_.out (by kernel_rfl)) (fun _ _ _ h => h) (Or.inl ⟨by rfl,?_⟩) ?_ ?_
 rotate_left
 ·intro w'
  go_simp
  with_reducible rfl
 rotate_left
 ·simp only [Act.put,List.setIfInBounds_toArray,List.set_cons_zero,List.set_cons_succ,i64_w,i32_w]
  rfl
 refine pure_ (i := 12) (N := (some 37)) (v := ?_) (a' := ?_) #[true,true,true,true,true,true,true,true,true,true,true,true,true,false,false,false,false,false,false,false,false,false,false,false,false,false,false,false,false,false,false] rfl rfl (any_of HT_.out (by kernel_rfl)) (fun _ _ _ h => h) (Or.inl ⟨by rfl,?_⟩) ?_ ?_
 rotate_left
 ·intro w'
  go_simp
  with_reducible rfl
 rotate_left
 ·simp only [Act.put,List.setIfInBounds_toArray,List.set_cons_zero,List.set_cons_succ,i64_w,i32_w]
  rfl
 refine pure_ (i := 13) (N := (some 38)) (v := ?_) (a' := ?_) #[true,true,true,true,true,true,true,true,true,true,true,true,true,true,false,false,false,false,false,false,false,false,false,false,false,false,false,false,false,false,false] rfl rfl (any_of HT_.out (by kernel_rfl)) (fun _ _ _ h => h) (Or.inl ⟨by rfl,?_⟩) ?_ ?_
 rotate_left
 ·intro w'
  go_simp
  with_reducible rfl
 rotate_left
 ·simp only [Act.put,List.setIfInBounds_toArray,List.set_cons_zero,List.set_cons_succ,i64_w,i32_w]
  rfl
 refine take_ (i := 14) (N := (some 39)) (v := ?_) (a' := ?_) #[true,true,true,true,true,true,true,true,true,true,true,true,true,true,true,false,false,false,false,false,false,false,false,false,false,false,false,false,false,false,false] rfl rfl (take_ofW HT_.out HW_.out (by kernel_rfl)) (fun _ _ _ h => h) (Or.inl ⟨by rfl,?_⟩) hHeld ?_ ?_
 rotate_left
 ·rintro w' ⟨s1,s2,s3,s4,s5,s6⟩
  go_simp
  with_reducible rfl
 rotate_left
 ·simp only [Act.put,List.setIfInBounds_toArray,List.set_cons_zero,List.set_cons_succ,i64_w,i32_w]
  rfl
 refine pure_ (i := 15) (N := (some 40)) (v := ?_) (a' := ?_) #[true,true,true,true,true,true,true,true,true,true,true,true,true,true,true,true,false,false,false,false,false,false,false,false,false,false,false,false,false,false,false] rfl rfl (any_of HT_.out (by kernel_rfl)) (fun _ _ _ h => h) (Or.inl ⟨by rfl,?_⟩) ?_ ?_
 rotate_left
 ·intro w'
  go_simp
  with_reducible rfl
 rotate_left
 ·simp only [Act.put,List.setIfInBounds_toArray,List.set_cons_zero,List.set_cons_succ,i64_w,i32_w]
  rfl
 refine take_ (i := 16) (N := (some 41)) (v := ?_) (a' := ?_) #[true,true,true,true,true,true,true,true,true,true,true,true,true,true,true,true,true,false,false,false,false,false,false,false,false,false,false,false,false,false,false] rfl rfl (take_ofW HT_.out HW_.out (by kernel_rfl)) (fun _ _ _ h => h) (Or.inl ⟨by rfl,?_⟩) hHeld ?_ ?_
 rotate_left
 ·rintro w' ⟨s1,s2,s3,s4,s5,s6⟩
  go_simp
  with_reducible rfl
 rotate_left
 ·simp only [Act.put,List.setIfInBounds_toArray,List.set_cons_zero,List.set_cons_succ,i64_w,i32_w]
  rfl
 refine one_ (i := 17) (N := (some 42)) #[true,true,true,true,true,true,true,true,true,true,true,true,true,true,true,true,true,true,false,false,false,false,false,false,false,false,false,false,false,false,false] rfl rfl (one_of HT_.out (by kernel_rfl)) (by decide) (fun K hK => ?_)
 refine call_ 27 #[.string ⟨#[100]⟩] (by rfl) rfl au10 ?_
 refine (bodkinlaw22_row.calls 10 _ _ _ ex_row1).mono ?_
 rintro e w12 ⟨vb,rfl,hVb,hbb⟩
 obtain ⟨Bb,db,rfl⟩ := Kd.R_slice hVb
 have hM12 := hM11.then_ (Made.of_below hM11.scr hbb hsz11)
 have hF12 := Kd.S_below hF11 hbb
 have hsz12 : W.heap.size ≤ w12.heap.size := Nat.le_trans hsz11 hbb.size
 have hC0 := Kd.C_below hC0 hbb
 have hC1 := Kd.C_below hC1 hbb
 have hDb := (Kd.R_reads' hVb).2.2
 have hDcb := (Kd.R_reads' hVb).2.1
 refine ⟨_,rfl,hK.out _ _ (sees6 hHeld hbb) (fun hHeld => ?_)⟩
 clear hK K hM11 hF11
 refine norm_ (a' := ?_) ?_ ?_
 rotate_left
 ·show Act.put _ (some 42) _ = _
  simp only [Act.put,List.setIfInBounds_toArray,List.set_cons_zero,List.set_cons_succ,i64_w,i32_w]
  rfl
 refine one_ (i := 18) (N := (some 43)) #[true,true,true,true,true,true,true,true,true,true,true,true,true,true,true,true,true,true,true,false,false,false,false,false,false,false,false,false,false,false,false] rfl rfl (one_of HT_.out (by kernel_rfl)) (by decide) (fun K hK => ?_)
 refine call_ 36 #[.slice A1 1 k1,.slice Bb exR1.length db] (by rfl) rfl au10 ?_
 refine (bodkinref22_SameRow.calls 10 A1 k1 exR1 Bb db exR1 true _ hC1 (by assumption) hDb (by assumption) ex_same1).mono ?_
 rintro e w13 ⟨rfl,hdr12⟩
 have hbs12 := hdr12.below
 have hM13 := hM12.then_ (Made.of_below hM12.scr hbs12 hsz12)
 have hF13 := Kd.S_below hF12 hbs12
 have hsz13 : W.heap.size ≤ w13.heap.size := Nat.le_trans hsz12 hbs12.size
 have hC0 := Kd.C_below hC0 hbs12
 have hC1 := Kd.C_below hC1 hbs12
 refine ⟨_,rfl,hK.out _ _ (sees6 hHeld hbs12) (fun hHeld => ?_)⟩
 clear hK K hM12 hF12
 refine norm_ (a' := ?_) ?_ ?_
 rotate_left
 ·show Act.put _ (some 43) _ = _
  simp only [Act.put,List.setIfInBounds_toArray,List.set_cons_zero,List.set_cons_succ,i64_w,i32_w]
  rfl
 refine pure_ (i := 19) (N := (some 44)) (v := ?_) (a' := ?_) #[true,true,true,true,true,true,true,true,true,true,true,true,true,true,true,true,true,true,true,true,false,false,false,false,false,false,false,false,false,false,false] rfl rfl (any_of HT_.out (by kernel_rfl)) (fun _ _ _ h => h) (Or.inl ⟨by rfl,?_⟩) ?_ ?_
 rotate_left
 ·intro w'
  go_simp
  with_reducible rfl
 rotate_left
 ·simp only [Act.put,List.setIfInBounds_toArray,List.set_cons_zero,List.set_cons_succ,i64_w,i32_w]
  rfl
 refine pure_ (i := 20) (N := (some 45)) (v := ?_) (a' := ?_) #[true,true,true,true,true,true,true,true,true,true,true,true,true,true,true,true,true,true,true,true,true,false,false,false,false,false,false,false,false,false,false] rfl rfl (any_of HT_.out (by kernel_rfl)) (fun _ _ _ h => h) (Or.inl ⟨by rfl,?_⟩) ?_ ?_
 rotate_left
 ·intro w'
  go_simp
  with_reducible rfl
 rotate_left
 ·simp only [Act.put,List.setIfInBounds_toArray,List.set_cons_zero,List.set_cons_succ,i64_w,i32_w]
  rfl
 refine pure_ (i := 21) (N := (some 46)) (v := ?_) (a' := ?_) #[true,true,true,true,true,true,true,true,true,true,true,true,true,true,true,true,true,true,true,true,true,true,false,false,false,false,false,false,false,false,false] rfl rfl (any_of HT_.out (by kernel_rfl)) (fun _ _ _ h => h) (Or.inl ⟨by rfl,?_⟩) ?_ ?_
 rotate_left
 ·intro w'
  go_simp
  with_reducible rfl
 rotate_left
 ·simp only [Act.put,List.setIfInBounds_toArray,List.set_cons_zero,List.set_cons_succ,i64_w,i32_w]
  rfl
 refine take_ (i := 22) (N := (some 47)) (v := ?_) (a' := ?_) #[true,true,true,true,true,true,true,true,true,true,true,true,true,true,true,true,true,true,true,true,true,true,true,false,false,false,false,false,false,false,false] rfl rfl (take_ofW HT_.out HW_.out (by kernel_rfl)) (fun _ _ _ h => h) (Or.inl ⟨by rfl,?_⟩) hHeld ?_ ?_
 rotate_left
 ·rintro w' ⟨s1,s2,s3,s4,s5,s6⟩
  go_simp
  with_reducible rfl
 rotate_left
 ·simp only [Act.put,List.setIfInBounds_toArray,List.set_cons_zero,List.set_cons_succ,i64_w,i32_w]
  rfl
 refine one_ (i := 23) (N := (some 48)) #[true,true,true,true,true,true,true,true,true,true,true,true,true,true,true,true,true,true,true,true,true,true,true,true,false,false,false,false,false,false,false] rfl rfl (one_of HT_.out (by kernel_rfl)) (by decide) (fun K hK => ?_)
 refine call_ 18 #[.pointer (some ⟨p,0,none⟩),.agg #[.int .i64 exB.1.w,.slice (some ⟨gF,0,none⟩) 2 cF,.int .i64 exB.1.r,.int .i64 exB.1.c]] (by rfl) rfl au10 ?_
 have hFk := hF13
 refine (sc_shows hM13.scr.at_ hsz13 fB.ok exB.1.w exB.1.r exB.1.c (some ⟨gF,0,none⟩) cF [exR0,exR1] (fun w hk => (Kd.S_reads' (Kd.S_kept hFk hk (fun k hk he => hnk k hk (he.imp And.left id)))).2.2) (Kd.S_reads' hFk).2.1 (by decide) rfl (by decide) (by decide) (by rw [eN];decide) rfl rfl).mono ?_
 rintro e w14 ⟨rfl,hst14⟩
 have hM14 := hM13.then_ (Made.of_same hM13.scr.bd hst14)
 have hsz14 : W.heap.size ≤ w14.heap.size := Nat.le_trans hsz13 hst14.size
 have eA2 : allEq [exR0,exR1] exB.1.rows [exR0,exR1].length = true := eA
 rw [eA2]
 refine ⟨_,rfl,hK.out _ _ (sees6k hHeld (hst14.kept) (fun he => hnk q hq6 (he.imp And.left id)) (fun he => hnk gF hgF (he.imp And.left id))) (fun hHeld => ?_)⟩
 clear hK K hM13 hF13 hFk hst14
 refine norm_ (a' := ?_) ?_ ?_
 rotate_left
 ·show Act.put _ (some 48) _ = _
  simp only [Act.put,List.setIfInBounds_toArray,List.set_cons_zero,List.set_cons_succ,i64_w,i32_w]
  rfl
 refine pure_ (i := 24) (N := (some 49)) (v := ?_) (a' := ?_) #[true,true,true,true,true,true,true,true,true,true,true,true,true,true,true,true,true,true,true,true,true,true,true,true,true,false,false,false,false,false,false] rfl rfl (any_of HT_.out (by kernel_rfl)) (fun _ _ _ h => h) (Or.inl ⟨by rfl,?_⟩) ?_ ?_
 rotate_left
 ·intro w'
  go_simp
  with_reducible rfl
 rotate_left
 ·simp only [Act.put,List.setIfInBounds_toArray,List.set_cons_zero,List.set_cons_succ,i64_w,i32_w]
  rfl
 refine pure_ (i := 25) (N := (some 50)) (v := ?_) (a' := ?_) #[true,true,true,true,true,true,true,true,true,true,true,true,true,true,true,true,true,true,true,true,true,true,true,true,true,true,false,false,false,false,false] rfl rfl (any_of HT_.out (by kernel_rfl)) (fun _ _ _ h => h) (Or.inl ⟨by rfl,?_⟩) ?_ ?_
 rotate_left
 ·intro w'
  go_simp
  with_reducible rfl
 rotate_left
 ·simp only [Act.put,List.setIfInBounds_toArray,List.set_cons_zero,List.set_cons_succ,i64_w,i32_w]
  rfl
 refine pure_ (i := 26) (N := (some 51)) (v := ?_) (a' := ?_) #[true,true,true,true,true,true,true,true,true,true,true,true,true,true,true,true,true,true,true,true,true,true,true,true,true,true,true,false,false,false,false] rfl rfl (any_of HT_.out (by kernel_rfl)) (fun _ _ _ h => h) (Or.inl ⟨by rfl,?_⟩) ?_ ?_
 rotate_left
 ·intro w'
  go_simp
  with_reducible rfl
 rotate_left
 ·simp only [Act.put,List.setIfInBounds_toArray,List.set_cons_zero,List.set_cons_succ,i64_w,i32_w]
  rfl
 refine one_ (i := 27) (N := (some 52)) #[true,true,true,true,true,true,true,true,true,true,true,true,true,true,true,true,true,true,true,true,true,true,true,true,true,true,true,true,false,false,false] rfl rfl (one_of HT_.out (by kernel_rfl)) (by decide) (fun K hK => ?_)
 refine call_ 21 #[.pointer (some ⟨p,0,none⟩)] (by rfl) rfl au10 ?_
 refine (scr_rows hM14.scr hsz14 fB.ok).mono ?_
 rintro e w15 ⟨rfl,hr15⟩
 have hM15 := hM14.then_ hr15
 rw [eN]
 refine ⟨_,rfl,hK.out _ _ (sees6k hHeld hr15.kept (fun he => hnk q hq6 he) (fun he => hnk gF hgF he)) (fun hHeld => ?_)⟩
 clear hK K hM14 hr15
 refine norm_ (a' := ?_) ?_ ?_
 rotate_left
 ·show Act.put _ (some 52) _ = _
  simp only [Act.put,List.setIfInBounds_toArray,List.set_cons_zero,List.set_cons_succ,i64_w,i32_w]
  rfl
 refine pure_ (i := 28) (N := (some 53)) (v := ?_) (a' := ?_) #[true,true,true,true,true,true,true,true,true,true,true,true,true,true,true,true,true,true,true,true,true,true,true,true,true,true,true,true,true,false,false] rfl rfl (any_of HT_.out (by kernel_rfl)) (fun _ _ _ h => h) (Or.inl ⟨by rfl,?_⟩) ?_ ?_
 rotate_left
 ·intro w'
  go_simp
  with_reducible rfl
 rotate_left
 ·simp only [Act.put,List.setIfInBounds_toArray,List.set_cons_zero,List.set_cons_succ,i64_w,i32_w]
  rfl
 refine pure_ (i := 29) (N := (some 54)) (v := ?_) (a' := ?_) #[true,true,true,true,true,true,true,true,true,true,true,true,true,true,true,true,true,true,true,true,true,true,true,true,true,true,true,true,true,true,false] rfl rfl (any_of HT_.out (by kernel_rfl)) (fun _ _ _ h => h) (Or.inl ⟨by rfl,?_⟩) ?_ ?_
 rotate_left
 ·intro w'
  go_simp
  with_reducible rfl
 rotate_left
 ·simp only [Act.put,List.setIfInBounds_toArray,List.set_cons_zero,List.set_cons_succ,i64_w,i32_w]
  rfl
 refine pure_ (i := 30) (N := (some 0)) (v := ?_) (a' := ?_) #[true,true,true,true,true,true,true,true,true,true,true,true,true,true,true,true,true,true,true,true,true,true,true,true,true,true,true,true,true,true,true] rfl rfl (any_of HT_.out (by kernel_rfl)) (fun _ _ _ h => h) (Or.inl ⟨by rfl,?_⟩) ?_ ?_
 rotate_left
 ·intro w'
  go_simp
  with_reducible rfl
 rotate_left
 ·simp only [Act.put,List.setIfInBounds_toArray,List.set_cons_zero,List.set_cons_succ,i64_w,i32_w]
  rfl
 refine done_ (done_of HT_.out (by kernel_rfl)) ?_
 clear HT_ HW_
 go_wp2
 first | refine bodyPost_ret (results_tmp rfl _ _ _) rfl ?_ | ((try simp only [Exit.inBlock,Exit.then]);refine bodyPost_ret (results_tmp rfl _ _ _) rfl ?_) | (go_wp2;refine bodyPost_ret (results_tmp rfl _ _ _) rfl ?_)
 exact ⟨rfl,hb12.trans hM15.below⟩
end Go.Proofs.YtgdpnmikcopkmaaDoor.U
end
section
namespace Go.Proofs.YtgdpnmikcopkmaaDoor.U
open Go.RowKit Go.Proofs.YtgdpnmikcopkmaaDoor.Mu Go.Proofs.YtgdpnmikcopkmaaDoor.Pu Go.Proofs.YtgdpnmikcopkmaaDoorW.PrintWords Go.Proofs.YtgdpnmikcopkmaaDoorW.PrintLast Go.Proofs.YtgdpnmikcopkmaaDoorW.PrintMore
set_option linter.unusedVariables false
set_option linter.unusedSimpArgs false
/-- Two screens,from one world to another. -/
structure Two (base pa pb : Nat) (w0 : World) (A0 B0 : Nat → Prop) (w : World) (Oa Ob : Nat → Prop) (Sa Sb : Sc × ByteArray) : Prop where
 a : Scr base pa Oa w Sa
 b : Scr base pb Ob w Sb
 ap : Apart pa Oa pb Ob
 sa : ∀ k,Oa k → A0 k ∨ w0.heap.size ≤ k
 sb : ∀ k,Ob k → B0 k ∨ w0.heap.size ≤ k
 below : Below base w0 w
 kept : Kept w0 w (fun k => (A0 k ∨ k = pa) ∨ (B0 k ∨ k = pb))
 bs : base ≤ w.heap.size
section
variable {base pa pb : Nat} {w0 w w1 : World} {A0 B0 Oa Ob O' : Nat → Prop} {Sa Sb S' : Sc × ByteArray}
theorem Two.start (ha : Scr base pa Oa w Sa) (hb : Scr base pb Ob w Sb) (hp : Apart pa Oa pb Ob) (hbs : base ≤ w.heap.size) : Two base pa pb w Oa Ob w Oa Ob Sa Sb :=
 ⟨ha,hb,hp,fun k hk => .inl hk,fun k hk => .inl hk,Below.refl _ _,Kept.refl _ _,hbs⟩
theorem Two.skip (h : Two base pa pb w0 A0 B0 w Oa Ob Sa Sb) (hb : Below w.heap.size w w1) : Two base pa pb w0 A0 B0 w1 Oa Ob Sa Sb :=
 ⟨h.a.below hb,h.b.below hb,h.ap,h.sa,h.sb,h.below.trans (hb.mono h.bs),h.kept.below hb,Nat.le_trans h.bs hb.size⟩
end
/-- The same bytes,n times. -/
def feedI (S : Sc × ByteArray) (m : ByteArray) : Nat → Sc × ByteArray
 | 0 => S
 | n + 1 => feedS (feedI S m n) m
theorem frame_rows {s : Sc} (hO : s.Ok) (n : Int) : (frameL s.rows (s.frameN n)).length ≤ 1099511627776 ∧ ∀ row ∈ frameL s.rows (s.frameN n),row.length ≤ 1099511627776 := by
 refine ⟨by rw [frameL_len];have := hO.h2;unfold Sc.frameN;omega,fun row hr => ?_⟩
 unfold frameL at hr
 obtain ⟨i,_,rfl⟩ := List.mem_map.1 hr
 rw [trimR_len]
 refine Nat.le_trans (trimN_le _ _) ?_
 rw [List.getD_eq_getElem?_getD]
 cases hq : s.rows[i]? with
 | none => exact Nat.zero_le _
 | some r =>
  have := hO.cl r (List.mem_of_getElem? hq)
  have := hO.w2
  show r.length ≤ _
  omega
end Go.Proofs.YtgdpnmikcopkmaaDoor.U
end
section
namespace Go.Proofs.YtgdpnmikcopkmaaDoor.U
open Go.RowKit Go.Proofs.YtgdpnmikcopkmaaDoor.Mu Go.Proofs.YtgdpnmikcopkmaaDoor.Pu Go.Proofs.YtgdpnmikcopkmaaDoorW.PrintWords Go.Proofs.YtgdpnmikcopkmaaDoorW.PrintLast Go.Proofs.YtgdpnmikcopkmaaDoorW.PrintMore
set_option linter.unusedVariables false
set_option linter.unusedSimpArgs false
section
variable {base pa pb pc : Nat} {w0 w w1 : World} {Oa Ob Oc O' : Nat → Prop} {Sa Sb Sc' S' : Sc × ByteArray}
end
theorem cut_cat (s : ByteArray) (a d : Nat) (h : a ≤ d) : s.extract 0 a ++ s.extract a d = s.extract 0 d := by
 apply ByteArray.ext
 rw [ByteArray.data_append,ByteArray.data_extract,ByteArray.data_extract,ByteArray.data_extract,Array.extract_append_extract]
 congr 1 <;> omega
theorem cut_all (s : ByteArray) : s.extract 0 s.size = s := by
 apply ByteArray.ext
 rw [ByteArray.data_extract]
 exact Array.extract_size
theorem tabs_two {w : World} (hT : Lib.Utf8Tabs 0 1 w) : 2 ≤ w.heap.size := by
 have := World.block_lt_of_cell? w _ (hT.2 0 (by decide)).1
 exact this
end Go.Proofs.YtgdpnmikcopkmaaDoor.U
end
section
namespace Go.Proofs.YtgdpnmikcopkmaaDoor.Pu
open Go Go.RowKit Go.Proofs.YtgdpnmikcopkmaaDoor.Mu Go.Proofs.YtgdpnmikcopkmaaDoor.U Go.Proofs.YtgdpnmikcopkmaaDoorW.PrintWords Go.Proofs.YtgdpnmikcopkmaaDoorW.PrintLast Go.Proofs.YtgdpnmikcopkmaaDoorW.PrintMore
theorem prev_ev {s : ByteArray} (hs : s.size ≤ 1099511627776) {a d : Int} (ha : a ≤ 9223372036854775807) (h : PrevS s a d) : Ev (fun k => unit_Prev.f k s a) d := by
 obtain ⟨d',hE,h'⟩ := prev_ans s hs a ha;exact h.one h' ▸ hE
/-- A boundary lies at or before a unit,or behind it. -/
theorem apart {s : ByteArray} {x : Nat} {e : Int} (he : BdI s e) : e ≤ x ∨ (x : Int) + uN s x ≤ e := by
 have := bdI_le he
 by_cases h : (x : Int) < e
 ·have := he.2.2 x (by omega);omega
 ·omega
theorem prevS_in {s : ByteArray} {x : Nat} (hb : Bd s x) {k : Int} (h : x < k) (h2 : k ≤ x + uN s x) : PrevS s k x :=
 ⟨by rw [bdI_nat];exact hb,.inl h,fun e he hk => by have := apart (x := x) he;omega⟩
end Go.Proofs.YtgdpnmikcopkmaaDoor.Pu
end
section
namespace Go.Proofs.YtgdpnmikcopkmaaDoor.Pu
open Go Go.RowKit Go.Proofs.YtgdpnmikcopkmaaDoor.Mu
theorem uC_of (s : ByteArray) (i c n : Nat) (h : Utf8.decode s i = (c,n)) (hg : c = 65533 → n ≠ 1) : uC s i = c ∧ uN s i = n := by
 unfold uC uN;rw [h]
 exact ⟨if_neg (fun h => hg h.1 h.2),rfl⟩
/-- What a unit can be. -/
theorem uC_cases (s : ByteArray) (i : Nat) :
  (byt s i < 128 ∧ uC s i = byt s i ∧ uN s i = 1) ∨ (128 ≤ byt s i ∧ uC s i = -1 ∧ uN s i = 1) ∨
  (192 ≤ byt s i ∧ byt s i < 224 ∧ 1 < s.size - i ∧ byt s (i + 1) / 64 = 2 ∧ 128 ≤ byt s i % 32 * 64 + byt s (i + 1) % 64 ∧ uC s i = (byt s i % 32 * 64 + byt s (i + 1) % 64 : Nat) ∧ uN s i = 2) ∨
  (224 ≤ byt s i ∧ byt s i < 240 ∧ 2 < s.size - i ∧ byt s (i + 1) / 64 = 2 ∧ byt s (i + 2) / 64 = 2 ∧ 2048 ≤ byt s i % 16 * 4096 + byt s (i + 1) % 64 * 64 + byt s (i + 2) % 64 ∧
   (byt s i % 16 * 4096 + byt s (i + 1) % 64 * 64 + byt s (i + 2) % 64 < 55296 ∨ 57344 ≤ byt s i % 16 * 4096 + byt s (i + 1) % 64 * 64 + byt s (i + 2) % 64) ∧
   uC s i = (byt s i % 16 * 4096 + byt s (i + 1) % 64 * 64 + byt s (i + 2) % 64 : Nat) ∧ uN s i = 3) ∨
  (240 ≤ byt s i ∧ byt s i < 248 ∧ 3 < s.size - i ∧ byt s (i + 1) / 64 = 2 ∧ byt s (i + 2) / 64 = 2 ∧ byt s (i + 3) / 64 = 2 ∧ 65536 ≤ byt s i % 8 * 262144 + byt s (i + 1) % 64 * 4096 + byt s (i + 2) % 64 * 64 + byt s (i + 3) % 64 ∧
   byt s i % 8 * 262144 + byt s (i + 1) % 64 * 4096 + byt s (i + 2) % 64 * 64 + byt s (i + 3) % 64 ≤ 1114111 ∧ uC s i = (byt s i % 8 * 262144 + byt s (i + 1) % 64 * 4096 + byt s (i + 2) % 64 * 64 + byt s (i + 3) % 64 : Nat) ∧ uN s i = 4) := by
 have hd := dec_eq s i
 rcases dec_cases (s.size - i) (byt s i) (byt s (i + 1)) (byt s (i + 2)) (byt s (i + 3)) (byt_lt s i) with h | h | h | h | h
 ·have := uC_of s i _ _ (hd.trans h.2) (by omega)
  exact .inl ⟨h.1,this⟩
 ·refine .inr (.inl ⟨h.1,?_,?_⟩)
  ·unfold uC;rw [hd,h.2];simp
  ·unfold uN;rw [hd,h.2]
 ·obtain ⟨h0,h1,h2,h3,h4,e⟩ := h
  have := uC_of s i _ _ (hd.trans e) (by omega)
  exact .inr (.inr (.inl ⟨h0,h1,h2,h3,h4,this⟩))
 ·obtain ⟨h0,h1,h2,h3,h4,h5,h6,e⟩ := h
  have := uC_of s i _ _ (hd.trans e) (by omega)
  exact .inr (.inr (.inr (.inl ⟨h0,h1,h2,h3,h4,h5,h6,this⟩)))
 ·obtain ⟨h0,h1,h2,h3,h4,h5,h6,h7,e⟩ := h
  have := uC_of s i _ _ (hd.trans e) (by omega)
  exact .inr (.inr (.inr (.inr ⟨h0,h1,h2,h3,h4,h5,h6,h7,this⟩)))
end Go.Proofs.YtgdpnmikcopkmaaDoor.Pu
end
section
namespace Go.Proofs.YtgdpnmikcopkmaaDoor.Pu
open Go Go.RowKit Go.Proofs.YtgdpnmikcopkmaaDoor.Mu Go.Proofs.YtgdpnmikcopkmaaDoor.U Go.Proofs.YtgdpnmikcopkmaaDoorW.PrintWords Go.Proofs.YtgdpnmikcopkmaaDoorW.PrintLast Go.Proofs.YtgdpnmikcopkmaaDoorW.PrintMore
/-- The units from x on. -/
def tl (s : ByteArray) (x : Nat) : List S83 := (walkL s s.size x).map (·.2)
theorem tl_len (s : ByteArray) (x : Nat) : (tl s x).length ≤ s.size := by unfold tl;rw [List.length_map];exact walkL_length _ _ _
section
variable (a b : ByteArray)
theorem bad_or (s : ByteArray) (x : Nat) : (2 ≤ uN s x ∧ 0 ≤ uC s x ∧ 192 ≤ byt s x) ∨ (uN s x = 1 ∧ uC s x = byt s x ∧ byt s x < 128) ∨ (uN s x = 1 ∧ uC s x = -1 ∧ 128 ≤ byt s x) := by
 rcases uC_cases s x with h | h | h | h | h <;> omega
end
end Go.Proofs.YtgdpnmikcopkmaaDoor.Pu
end
section
namespace Go.Proofs.YtgdpnmikcopkmaaDoor.Pu
open Go Go.RowKit Go.Proofs.YtgdpnmikcopkmaaDoor.Mu Go.Proofs.YtgdpnmikcopkmaaDoor.U Go.Proofs.YtgdpnmikcopkmaaDoorW.PrintWords Go.Proofs.YtgdpnmikcopkmaaDoorW.PrintLast Go.Proofs.YtgdpnmikcopkmaaDoorW.PrintMore
set_option linter.unusedVariables false
def glueB (u v : Int) : Bool := decide (u = 13 ∧ v = 10) || (decide (cls v = 3) && (!decide (cls u = 1) && !decide (cls u = 2)))
theorem cls_cr : cls 13 = 2 := by unfold cls;rw [if_neg (by omega),if_neg (by omega),if_pos (by omega)]
theorem glue_iff (u v : Int) : glueB u v = true ↔ (u = 13 ∧ v = 10) ∨ (cls v = 3 ∧ cls u ≠ 1 ∧ cls u ≠ 2) := by
 unfold glueB;simp
def CB (s : ByteArray) (x : Nat) : Prop := Bd s x ∧ ∀ y,Bd s y → x = y + uN s y → x < s.size → glueB (uC s y) (uC s x) = false
theorem cb_zero (s : ByteArray) : CB s 0 := ⟨bd_zero s,fun y _ h _ => by have := uN_pos s y;omega⟩
theorem cb_size (s : ByteArray) : CB s s.size := ⟨bd_size s,fun y _ _ h => by omega⟩
theorem bd_prev (s : ByteArray) (x : Nat) (h : Bd s x) (hx : 0 < x) : ∃ y,Bd s y ∧ y + uN s y = x := by
 have h1 := h.1
 by_cases hb : Bd s (x - 1)
 ·refine ⟨x - 1,hb,?_⟩
  have := uN_pos s (x - 1)
  have := h.2 (x - 1) (by omega)
  omega
 ·obtain ⟨j,hj,hj2,hjb,_⟩ := within s (x - 1) (by omega) hb
  refine ⟨j,hjb,?_⟩
  have := h.2 j (by omega)
  omega
theorem bd_prev_one (s : ByteArray) (x y z : Nat) (hy : Bd s y) (hz : Bd s z) (h : y + uN s y = x) (h' : z + uN s z = x) : y = z := by
 have := uN_pos s y;have := uN_pos s z
 rcases Nat.lt_trichotomy y z with h1 | h1 | h1
 ·have := hz.2 y h1;omega
 ·exact h1
 ·have := hy.2 z h1;omega
theorem cb_iff (s : ByteArray) (x y : Nat) (hy : Bd s y) (hx : y + uN s y = x) (h : x < s.size) : CB s x ↔ glueB (uC s y) (uC s x) = false := by
 constructor
 ·intro hc;exact hc.2 y hy hx.symm h
 ·intro hg
  refine ⟨hx ▸ bd_next s y hy (by have := uN_pos s y;omega),fun z hz hzx _ => ?_⟩
  rw [← bd_prev_one s x y z hy hz hx hzx.symm];exact hg
def CBI (s : ByteArray) (a : Int) : Prop := 0 ≤ a ∧ CB s a.toNat
noncomputable def cbB (s : ByteArray) (a : Int) : Bool := @decide (CBI s a) (Classical.propDecidable _)
theorem cbB_iff (s : ByteArray) (a : Int) : cbB s a = true ↔ CBI s a := by unfold cbB;simp
theorem cbI_nat (s : ByteArray) (i : Nat) : CBI s i ↔ CB s i := by unfold CBI;simp
theorem CBI.bd {s : ByteArray} {a : Int} (h : CBI s a) : BdI s a := ⟨h.1,h.2.1⟩
theorem cbI_le {s : ByteArray} {a : Int} (h : CBI s a) : 0 ≤ a ∧ a ≤ s.size := bdI_le h.bd
theorem cbI_zero (s : ByteArray) : CBI s 0 := (cbI_nat s 0).2 (cb_zero s)
theorem cbI_size (s : ByteArray) : CBI s s.size := (cbI_nat s s.size).2 (cb_size s)
def CNextS (s : ByteArray) (a d : Int) : Prop := CBI s d ∧ (a < d ∨ d = s.size) ∧ ∀ e,CBI s e → a < e → d ≤ e
def CPrevS (s : ByteArray) (a d : Int) : Prop := CBI s d ∧ (d < a ∨ d = 0) ∧ ∀ e,CBI s e → e < a → e ≤ d
def CSnapS (s : ByteArray) (a d : Int) : Prop := CBI s d ∧ (a ≤ d ∨ d = s.size) ∧ ∀ e,CBI s e → a ≤ e → d ≤ e
theorem CPrevS.one {s : ByteArray} {a d d' : Int} (h : CPrevS s a d) (h' : CPrevS s a d') : d = d' := by
 have := cbI_le h.1;have := cbI_le h'.1
 rcases h.2.1 with h1 | h1 <;> rcases h'.2.1 with h2 | h2
 ·have := h.2.2 d' h'.1 h2;have := h'.2.2 d h.1 h1;omega
 ·have := h'.2.2 d h.1 h1;omega
 ·have := h.2.2 d' h'.1 h2;omega
 ·omega
theorem CSnapS.one {s : ByteArray} {a d d' : Int} (h : CSnapS s a d) (h' : CSnapS s a d') : d = d' := by
 have := cbI_le h.1;have := cbI_le h'.1
 rcases h.2.1 with h1 | h1 <;> rcases h'.2.1 with h2 | h2
 ·have := h.2.2 d' h'.1 h2;have := h'.2.2 d h.1 h1;omega
 ·have := h'.2.2 d h.1 h1;omega
 ·have := h.2.2 d' h'.1 h2;omega
 ·omega
theorem CNextS.one {s : ByteArray} {a d d' : Int} (h : CNextS s a d) (h' : CNextS s a d') : d = d' := by
 have := cbI_le h.1;have := cbI_le h'.1
 rcases h.2.1 with h1 | h1 <;> rcases h'.2.1 with h2 | h2
 ·have := h.2.2 d' h'.1 h2;have := h'.2.2 d h.1 h1;omega
 ·have := h'.2.2 d h.1 h1;omega
 ·have := h.2.2 d' h'.1 h2;omega
 ·omega
def nxtN (s : ByteArray) : Nat → Nat → Nat
 | 0,x => x
 | k + 1,x => if x + uN s x < s.size ∧ glueB (uC s x) (uC s (x + uN s x)) = true then nxtN s k (x + uN s x) else x + uN s x
theorem nxtN_fuel (s : ByteArray) : ∀ f g x : Nat,x < s.size → s.size - x ≤ f → s.size - x ≤ g → nxtN s f x = nxtN s g x
 | 0,_,_,hx,h,_ => by omega
 | _ + 1,0,_,hx,_,h => by omega
 | f + 1,g + 1,x,hx,h,h' => by
  have := uN_pos s x
  rw [nxtN,nxtN]
  split
  ·rename_i hc
   exact nxtN_fuel s f g _ hc.1 (by omega) (by omega)
  ·rfl
def nxt (s : ByteArray) (x : Nat) : Nat := nxtN s s.size x
theorem nxt_eq (s : ByteArray) (x : Nat) (hx : x < s.size) : nxt s x = if x + uN s x < s.size ∧ glueB (uC s x) (uC s (x + uN s x)) = true then nxt s (x + uN s x) else x + uN s x := by
 have := uN_pos s x
 unfold nxt
 obtain ⟨n,hn⟩ : ∃ n,s.size = n + 1 := ⟨s.size - 1,by omega⟩
 rw [nxtN_fuel s s.size (n + 1) x hx (by omega) (by omega),nxtN]
 split
 ·rename_i hc;exact nxtN_fuel s n s.size _ hc.1 (by omega) (by omega)
 ·rfl
theorem nxt_glue (s : ByteArray) (x : Nat) (hx : x + uN s x < s.size) (h : glueB (uC s x) (uC s (x + uN s x)) = true) : nxt s x = nxt s (x + uN s x) := by
 rw [nxt_eq s x (by omega),if_pos ⟨hx,h⟩]
theorem nxt_cut (s : ByteArray) (x : Nat) (hx : x < s.size) (h : x + uN s x < s.size → glueB (uC s x) (uC s (x + uN s x)) = false) : nxt s x = x + uN s x := by
 rw [nxt_eq s x hx,if_neg]
 rintro ⟨h1,h2⟩
 rw [h h1] at h2;cases h2
/-- The end of a cluster is the next boundary. -/
theorem nxt_spec (s : ByteArray) : ∀ n x : Nat,s.size - x ≤ n → Bd s x → x < s.size → CB s (nxt s x) ∧ x + uN s x ≤ nxt s x ∧ ∀ e,CB s e → x < e → nxt s x ≤ e := by
 intro n
 induction n with
 | zero => intro x h _ hx;omega
 | succ n ih =>
  intro x hn hb hx
  have h1 := uN_pos s x
  have hb' := bd_next s x hb hx
  have hle := hb'.1
  have hno : ∀ e,CB s e → x < e → x + uN s x ≤ e := fun e he hxe => he.1.2 x hxe
  by_cases hc : x + uN s x < s.size ∧ glueB (uC s x) (uC s (x + uN s x)) = true
  ·rw [nxt_glue s x hc.1 hc.2]
   obtain ⟨g1,g2,g3⟩ := ih (x + uN s x) (by omega) hb' hc.1
   refine ⟨g1,by omega,fun e he hxe => ?_⟩
   have h3 := hno e he hxe
   rcases Nat.lt_or_ge (x + uN s x) e with h4 | h4
   ·exact g3 e he h4
   ·obtain rfl : e = x + uN s x := by omega
    rw [(cb_iff s _ x hb rfl hc.1).1 he] at hc
    exact absurd hc.2 (by simp)
  ·have hg : x + uN s x < s.size → glueB (uC s x) (uC s (x + uN s x)) = false := fun h => by
    cases h2 : glueB (uC s x) (uC s (x + uN s x)) with
    | false => rfl
    | true => exact absurd ⟨h,h2⟩ hc
   rw [nxt_cut s x hx hg]
   refine ⟨?_,Nat.le_refl _,hno⟩
   rcases Nat.lt_or_ge (x + uN s x) s.size with h4 | h4
   ·exact (cb_iff s _ x hb rfl h4).2 (hg h4)
   ·rw [show x + uN s x = s.size by omega];exact cb_size s
theorem nxt_cb (s : ByteArray) (x : Nat) (hb : Bd s x) (hx : x < s.size) : CB s (nxt s x) := (nxt_spec s _ x (Nat.le_refl _) hb hx).1
theorem nxt_least (s : ByteArray) (x : Nat) (hb : Bd s x) (hx : x < s.size) (e : Nat) (he : CB s e) (h : x < e) : nxt s x ≤ e := (nxt_spec s _ x (Nat.le_refl _) hb hx).2.2 e he h
theorem nxt_le (s : ByteArray) (x : Nat) (hb : Bd s x) (hx : x < s.size) : nxt s x ≤ s.size := (nxt_cb s x hb hx).1.1
theorem nxtS (s : ByteArray) (x : Nat) (hb : Bd s x) (hx : x < s.size) (a : Int) (h1 : (x : Int) ≤ a) (h2 : a < nxt s x) : CNextS s a (nxt s x) := by
 refine ⟨(cbI_nat _ _).2 (nxt_cb s x hb hx),.inl h2,fun e he hae => ?_⟩
 have := cbI_le he
 have := nxt_least s x hb hx e.toNat he.2 (by omega)
 omega
def celB (c : Int) : Int := if cls c = 1 then 0 else if cls c = 4 ∨ (cls c = 2 ∧ c ≤ 127) then 2 else 1
/-- Is it a carriage return with a newline behind it? -/
def crlf (s : ByteArray) (x : Nat) : Prop := uC s x = 13 ∧ x + uN s x < s.size ∧ uC s (x + uN s x) = 10
instance (s : ByteArray) (x : Nat) : Decidable (crlf s x) := by unfold crlf;exact inferInstance
def clsAt (s : ByteArray) (x : Nat) : Int := if crlf s x then 1 else cls (uC s x)
def celAt (s : ByteArray) (x : Nat) : Int := if crlf s x then 0 else celB (uC s x)
def clAt (s : ByteArray) (x : Nat) : S62 := ⟨(x : Int),(nxt s x : Int),clsAt s x,celAt s x⟩
def cluL (s : ByteArray) : Nat → Nat → List S62
 | 0,_ => []
 | k + 1,x => if x < s.size then clAt s x :: cluL s k (nxt s x) else []
def clusL (s : ByteArray) : List S62 := cluL s s.size 0
theorem nxt_up (s : ByteArray) : ∀ n x : Nat,s.size - x ≤ n → x < s.size → x + 1 ≤ nxt s x := by
 intro n
 induction n with
 | zero => intro x h hx;omega
 | succ n ih =>
  intro x hn hx
  have h1 := uN_pos s x
  rw [nxt_eq s x hx]
  split
  ·rename_i hc;have := ih (x + uN s x) (by omega) hc.1;omega
  ·omega
theorem nxt_pos (s : ByteArray) (x : Nat) (hx : x < s.size) : x + 1 ≤ nxt s x := nxt_up s _ x (Nat.le_refl _) hx
theorem cluL_fuel (s : ByteArray) : ∀ f g x : Nat,s.size - x ≤ f → s.size - x ≤ g → cluL s f x = cluL s g x
 | 0,0,_,_,_ => rfl
 | 0,g + 1,x,h,_ => by rw [cluL,cluL,if_neg (by omega)]
 | f + 1,0,x,_,h => by rw [cluL,cluL,if_neg (by omega)]
 | f + 1,g + 1,x,h,h' => by
  rw [cluL,cluL]
  split
  ·rename_i hx
   have := nxt_pos s x hx
   rw [cluL_fuel s f g (nxt s x) (by omega) (by omega)]
  ·rfl
def ctl (s : ByteArray) (x : Nat) : List S62 := cluL s s.size x
theorem ctl_end (s : ByteArray) (x : Nat) (h : s.size ≤ x) : ctl s x = [] := by
 unfold ctl;rw [cluL_fuel s s.size 0 x (by omega) (by omega)];rfl
theorem ctl_go (s : ByteArray) (x : Nat) (h : x < s.size) : ctl s x = clAt s x :: ctl s (nxt s x) := by
 have := nxt_pos s x h
 unfold ctl
 obtain ⟨n,hn⟩ : ∃ n,s.size = n + 1 := ⟨s.size - 1,by omega⟩
 rw [cluL_fuel s s.size (n + 1) x (by omega) (by omega),cluL,if_pos h,cluL_fuel s n s.size (nxt s x) (by omega) (by omega)]
theorem cluL_length (s : ByteArray) : ∀ k i,(cluL s k i).length ≤ k
 | 0,_ => by simp [cluL]
 | k + 1,i => by
  unfold cluL
  split
  ·have := cluL_length s k (nxt s i);simp;omega
  ·simp
theorem clusL_length (s : ByteArray) : (clusL s).length ≤ s.size := cluL_length s s.size 0
end Go.Proofs.YtgdpnmikcopkmaaDoor.Pu
end
section
namespace Go.Proofs.YtgdpnmikcopkmaaDoor.Pu
open Go Go.RowKit Go.Proofs.YtgdpnmikcopkmaaDoor.Mu Go.Proofs.YtgdpnmikcopkmaaDoor.U Go.Proofs.YtgdpnmikcopkmaaDoorW.PrintWords Go.Proofs.YtgdpnmikcopkmaaDoorW.PrintLast Go.Proofs.YtgdpnmikcopkmaaDoorW.PrintMore
set_option linter.unusedVariables false
theorem unit_eq (s t : ByteArray) (i j : Nat) (h1 : ∀ k,k < uN s i → byt t (j + k) = byt s (i + k)) (h2 : j + uN s i ≤ t.size) (h3 : ∀ k,k < uN t j → byt s (i + k) = byt t (j + k)) (h4 : i + uN t j ≤ s.size) : uC t j = uC s i ∧ uN t j = uN s i := by
 by_cases hs : 2 ≤ uN s i
 ·have e := dec_prefix s t i j hs h1 h2
  unfold uC uN;rw [e];exact ⟨rfl,rfl⟩
 ·by_cases ht : 2 ≤ uN t j
  ·have e := dec_prefix t s j i ht h3 h4
   unfold uC uN;rw [e];exact ⟨rfl,rfl⟩
  ·have e0 := h1 0 (by have := uN_pos s i;omega)
   rw [Nat.add_zero,Nat.add_zero] at e0
   have h5 := bad_or s i
   have h6 := bad_or t j
   rw [e0] at h6
   have := uN_pos s i;have := uN_pos t j
   generalize uN s i = p at *
   generalize uC s i = q at *
   generalize uN t j = p' at *
   generalize uC t j = q' at *
   omega
end Go.Proofs.YtgdpnmikcopkmaaDoor.Pu
end
section
namespace Go.Proofs.YtgdpnmikcopkmaaDoor.Mk
open Go Go.RowKit Go.Proofs.YtgdpnmikcopkmaaDoor.Mu Go.Proofs.YtgdpnmikcopkmaaDoor.Pu Go.Proofs.YtgdpnmikcopkmaaDoor.U
set_option linter.unusedVariables false
section
variable (s : ByteArray) (i t : Nat) (hi : Bd s i) (ht : Bd s t) (hit : i ≤ t)
theorem mid_unit (ht : Bd s t) (j : Nat) (h1 : i ≤ j) (h2 : j < t) : uC (s.extract i t) (j - i) = uC s j ∧ uN (s.extract i t) (j - i) = uN s j := by
 have hts := ht.1
 have hsz := size_extract s i t ht.1
 have hle := uN_le (s.extract i t) (j - i) (by omega)
 have hle2 := ht.2 j h2
 refine unit_eq s (s.extract i t) j (j - i) (fun k hk => ?_) (by omega) (fun k hk => ?_) (by omega)
 ·rw [byt_extract _ _ _ _ (by omega) ht.1];congr 1;omega
 ·rw [byt_extract _ _ _ _ (by omega) ht.1];congr 1;omega
theorem mid_bd (hi : Bd s i) (ht : Bd s t) (q : Nat) (hit : i ≤ t) (h : Bd (s.extract i t) q) : Bd s (i + q) ∧ i + q ≤ t := by
 have hts := ht.1
 have hsz := size_extract s i t ht.1
 have hq := h.1
 refine ⟨⟨by omega,fun j hj => ?_⟩,by omega⟩
 by_cases hji : j < i
 ·have := hi.2 j hji;omega
 ·have h2 := h.2 (j - i) (by omega)
  rw [(mid_unit s i t ht j (by omega) (by omega)).2] at h2
  omega
end
/-- Within a cluster,behind its first unit,there are marks alone,but for the newline behind a carriage return. -/
theorem inner_marks (s : ByteArray) (i : Nat) (hc : CB s i) (hi : i < s.size) (hq : ¬ crlf s i) : ∀ n j,j ≤ n → Bd s j → i < j → j < nxt s i → cls (uC s j) = 3 := by
 have hle := nxt_le s i hc.1 hi
 intro n
 induction n with
 | zero => intro j h1 _ h2;omega
 | succ n ih =>
  intro j hj hb h1 h2
  obtain ⟨y,hy,hyj⟩ := bd_prev s j hb (by omega)
  have hp := uN_pos s y
  have hyi : i ≤ y := by
   rcases Nat.lt_or_ge y i with h | h
   ·have := hc.1.2 y h;omega
   ·exact h
  have hn : ¬ CB s j := fun h => by have := nxt_least s i hc.1 hi j h h1;omega
  have hg : glueB (uC s y) (uC s j) = true := by
   cases h : glueB (uC s y) (uC s j) with
   | true => rfl
   | false => exact absurd ((cb_iff s j y hy hyj (by omega)).2 h) hn
  rcases (glue_iff _ _).1 hg with h3 | h3
  ·exfalso
   rcases Nat.lt_or_ge i y with h4 | h4
   ·have := ih y (by omega) hy h4 (by omega)
    rw [h3.1,cls_cr] at this;omega
   ·obtain rfl : y = i := by omega
    exact hq ⟨h3.1,by rw [hyj];omega,by rw [hyj];exact h3.2⟩
  ·exact h3.1
theorem cls_good (c : Int) (h : cls c ≠ 5) : 0 ≤ c := by
 unfold cls at h
 split at h
 ·omega
 ·omega
theorem mid_unit0 (s : ByteArray) (i t : Nat) (ht : Bd s t) (h2 : i < t) : uC (s.extract i t) 0 = uC s i ∧ uN (s.extract i t) 0 = uN s i := by
 have h := mid_unit s i t ht i (Nat.le_refl _) h2
 rwa [Nat.sub_self] at h
/-- One cluster that begins with a plain or a wide character. -/
structure OneK (p : ByteArray) (k : Int) : Prop where
 pos : 0 < p.size
 first : cls (uC p 0) = 0 ∨ cls (uC p 0) = 4
 inner : ∀ j,Bd p j → 0 < j → j < p.size → cls (uC p j) = 3
 cel : celB (uC p 0) = k
theorem onek_mid (s : ByteArray) (i : Nat) (hc : CB s i) (hi : i < s.size) (hq : ¬ crlf s i) (hf : cls (uC s i) = 0 ∨ cls (uC s i) = 4) : OneK (s.extract i (nxt s i)) (celB (uC s i)) := by
 have h1 := nxt_pos s i hi
 have hn := nxt_cb s i hc.1 hi
 have hle := nxt_le s i hc.1 hi
 have hsz := size_extract s i (nxt s i) hle
 have h0 := (mid_unit s i (nxt s i) hn.1 i (Nat.le_refl _) (by omega)).1
 rw [Nat.sub_self] at h0
 refine ⟨by omega,by rw [h0];exact hf,fun j hb hj0 hj => ?_,by rw [h0]⟩
 obtain ⟨hb2,_⟩ := mid_bd s i (nxt s i) hc.1 hn.1 j (by omega) hb
 have h2 := (mid_unit s i (nxt s i) hn.1 (i + j) (by omega) (by omega)).1
 rw [show i + j - i = j by omega] at h2
 rw [h2]
 exact inner_marks s i hc hi hq (i + j) (i + j) (Nat.le_refl _) hb2 (by omega) (by omega)
end Go.Proofs.YtgdpnmikcopkmaaDoor.Mk
end
section
namespace Go.Proofs.YtgdpnmikcopkmaaDoor.U
open Go.RowKit Go.Proofs.YtgdpnmikcopkmaaDoor.Mu Go.Proofs.YtgdpnmikcopkmaaDoor.Pu Go.Proofs.YtgdpnmikcopkmaaDoorW.PrintWords Go.Proofs.YtgdpnmikcopkmaaDoorW.PrintLast Go.Proofs.YtgdpnmikcopkmaaDoorW.PrintMore
set_option linter.unusedVariables false
set_option linter.unusedSimpArgs false
/-- A step keeps the measures. -/
structure Kin (s t : Sc) : Prop where
 w : t.w = s.w
 h : t.h = s.h
theorem Kin.refl (s : Sc) : Kin s s := ⟨rfl,rfl⟩
theorem Kin.trans {s t u : Sc} (a : Kin s t) (b : Kin t u) : Kin s u := ⟨b.w.trans a.w,b.h.trans a.h⟩
end Go.Proofs.YtgdpnmikcopkmaaDoor.U
end
section
namespace Go.Proofs.YtgdpnmikcopkmaaDoor.U
open Go.RowKit Go.Proofs.YtgdpnmikcopkmaaDoor.Mu Go.Proofs.YtgdpnmikcopkmaaDoor.Pu Go.Proofs.YtgdpnmikcopkmaaDoorW.PrintWords Go.Proofs.YtgdpnmikcopkmaaDoorW.PrintLast Go.Proofs.YtgdpnmikcopkmaaDoorW.PrintMore
set_option linter.unusedVariables false
set_option linter.unusedSimpArgs false
theorem rw_nil (rows : List (List Cl)) (i : Nat) (h : rows.length ≤ i) : rows.getD i [] = [] := by
 rw [List.getD_eq_getElem?_getD,List.getElem?_eq_none h]
 rfl
theorem rw_set (rows : List (List Cl)) (i : Nat) (x : List Cl) (j : Nat) (h : i < rows.length) : (rows.set i x).getD j [] = if j = i then x else rows.getD j [] := by
 rw [List.getD_eq_getElem?_getD,List.getD_eq_getElem?_getD]
 by_cases hj : j = i
 ·subst hj
  rw [if_pos rfl,List.getElem?_set_self h]
  rfl
 ·rw [if_neg hj,List.getElem?_set_ne (fun e => hj e.symm)]
theorem rw_more (rows : List (List Cl)) (n j : Nat) : (rows ++ List.replicate n []).getD j [] = rows.getD j [] := by
 rw [List.getD_eq_getElem?_getD,List.getD_eq_getElem?_getD]
 by_cases hj : j < rows.length
 ·rw [List.getElem?_append_left hj]
 ·rw [List.getElem?_append_right (by omega),List.getElem?_eq_none (l := rows) (by omega),List.getElem?_replicate]
  split <;> rfl
theorem rw_drop (rows : List (List Cl)) (j : Nat) : (rows.drop 1).getD j [] = rows.getD (j + 1) [] := by
 rw [List.getD_eq_getElem?_getD,List.getD_eq_getElem?_getD,List.getElem?_drop,Nat.add_comm 1 j]
theorem rw_take (rows : List (List Cl)) (n j : Nat) : (rows.take n).getD j [] = if j < n then rows.getD j [] else [] := by
 rw [List.getD_eq_getElem?_getD,List.getD_eq_getElem?_getD,List.getElem?_take]
 split <;> rfl
/-- The same look: the same but for empty rows at the end,and for where a mark would go when none may. -/
def Eqv (s t : Sc) : Prop := ∃ R L C,t = { s with rows := R,lr := L,lc := C } ∧ (s.marks = true → L = s.lr ∧ C = s.lc) ∧ ∀ i,R.getD i [] = s.rows.getD i []
theorem Eqv.refl (s : Sc) : Eqv s s := ⟨s.rows,s.lr,s.lc,rfl,fun _ => ⟨rfl,rfl⟩,fun _ => rfl⟩
theorem clrR_alt (s : Sc) (i col : Nat) : s.clrR i col = if (s.rows.getD i []).length ≤ col then s else { s with rows := s.rows.set i ((clrH (s.rows.getD i []) col).take col) } := by
 unfold Sc.clrR
 by_cases h : (s.rows.getD i []).length ≤ col
 ·rw [if_pos h,if_pos (.inr h)]
 ·rw [if_neg h,if_neg]
  intro h2
  rcases h2 with h2 | h2
  ·rw [rw_nil _ _ h2] at h
   exact h (Nat.zero_le _)
  ·exact h h2
theorem rw_lt (rows : List (List Cl)) (i col : Nat) (h : ¬ (rows.getD i []).length ≤ col) : i < rows.length := by
 rcases Nat.lt_or_ge i rows.length with h2 | h2
 ·exact h2
 ·rw [rw_nil _ _ h2] at h
  exact absurd (Nat.zero_le _) h
theorem Eqv.clrR {s t : Sc} (h : Eqv s t) (i col : Nat) : Eqv (s.clrR i col) (t.clrR i col) := by
 obtain ⟨R,L,C,rfl,hm,hg⟩ := h
 rw [clrR_alt,clrR_alt]
 dsimp only
 rw [hg i]
 split
 ·exact ⟨R,L,C,rfl,hm,hg⟩
 ·rename_i hc
  have hc2 : ¬ (R.getD i []).length ≤ col := by rw [hg i];exact hc
  refine ⟨_,L,C,rfl,hm,fun j => ?_⟩
  show (R.set i _).getD j [] = (s.rows.set i _).getD j []
  rw [rw_set _ _ _ _ (rw_lt _ _ _ hc),rw_set _ _ _ _ (rw_lt _ _ _ hc2),hg j]
theorem down_alt (s : Sc) : s.down = if s.r + 1 < s.h then { s with r := s.r + 1 } else { s with rows := if s.rows.length = s.h then s.rows.drop 1 ++ [[]] else s.rows.drop 1 } := by
 unfold Sc.down
 split
 ·rfl
 ·split <;> rfl
theorem rw_down (rows : List (List Cl)) (h j : Nat) : (if rows.length = h then rows.drop 1 ++ [[]] else rows.drop 1).getD j [] = rows.getD (j + 1) [] := by
 split
 ·rw [show rows.drop 1 ++ [[]] = rows.drop 1 ++ List.replicate 1 [] from rfl,rw_more,rw_drop]
 ·rw [rw_drop]
theorem Eqv.down {s t : Sc} (h : Eqv s t) : Eqv s.down t.down := by
 obtain ⟨R,L,C,rfl,hm,hg⟩ := h
 rw [down_alt,down_alt]
 dsimp only
 split
 ·exact ⟨R,L,C,rfl,hm,hg⟩
 ·refine ⟨_,L,C,rfl,hm,fun j => ?_⟩
  show (if R.length = s.h then R.drop 1 ++ [[]] else R.drop 1).getD j [] = (if s.rows.length = s.h then s.rows.drop 1 ++ [[]] else s.rows.drop 1).getD j []
  rw [rw_down,rw_down,hg]
theorem Eqv.at_ {s t : Sc} (h : Eqv s t) (r c : Nat) (full : Bool) : Eqv { s with r := r,c := c,full := full } { t with r := r,c := c,full := full } := by
 obtain ⟨R,L,C,rfl,hm,hg⟩ := h
 exact ⟨R,L,C,rfl,hm,hg⟩
theorem Eqv.unmark {s t : Sc} (h : Eqv s t) : Eqv { s with marks := false } { t with marks := false } := by
 obtain ⟨R,L,C,rfl,hm,hg⟩ := h
 exact ⟨R,L,C,rfl,(fun hq => by cases hq),hg⟩
theorem Eqv.fields {s t : Sc} (h : Eqv s t) : t.w = s.w ∧ t.h = s.h ∧ t.r = s.r ∧ t.c = s.c ∧ t.full = s.full ∧ t.marks = s.marks := by
 obtain ⟨R,L,C,rfl,hm,hg⟩ := h
 exact ⟨rfl,rfl,rfl,rfl,rfl,rfl⟩
def Sc.front (s : Sc) (span : Nat) : Sc := if s.full = true ∨ (span = 2 ∧ s.c + 1 = s.w) then { s.down with c := 0,full := false } else s
def Sc.put (s : Sc) (t : ByteArray) (span : Nat) : Sc := { s with rows := (padR s.rows (s.r + 1)).set s.r (putC ((padR s.rows (s.r + 1)).getD s.r []) s.c span t),lr := s.r,lc := s.c,marks := true }
theorem write_alt (s : Sc) (t : ByteArray) (span : Nat) : s.write t span = if s.w ≤ (Sc.front s span).c + span then { Sc.put (Sc.front s span) t span with c := s.w - 1,full := true } else { Sc.put (Sc.front s span) t span with c := (Sc.front s span).c + span } := rfl
theorem Eqv.front {s t : Sc} (h : Eqv s t) (span : Nat) : Eqv (Sc.front s span) (Sc.front t span) := by
 obtain ⟨h1,h2,h3,h4,h5,h6⟩ := h.fields
 unfold Sc.front
 rw [h5,h4,h1]
 split
 ·have h7 := h.down
  obtain ⟨R,L,C,e,hm,hg⟩ := h7
  rw [e]
  exact ⟨R,L,C,rfl,hm,hg⟩
 ·exact h
theorem Eqv.put {s t : Sc} (h : Eqv s t) (x : ByteArray) (span : Nat) : Eqv (Sc.put s x span) (Sc.put t x span) := by
 obtain ⟨R,L,C,rfl,hm,hg⟩ := h
 refine ⟨_,_,_,rfl,fun _ => ⟨rfl,rfl⟩,fun j => ?_⟩
 show ((padR R (s.r + 1)).set s.r (putC ((padR R (s.r + 1)).getD s.r []) s.c span x)).getD j [] = ((padR s.rows (s.r + 1)).set s.r (putC ((padR s.rows (s.r + 1)).getD s.r []) s.c span x)).getD j []
 rw [rw_set _ _ _ _ (by rw [padR_length];omega),rw_set _ _ _ _ (by rw [padR_length];omega)]
 unfold padR
 rw [rw_more,rw_more,rw_more,rw_more,hg,hg]
theorem Eqv.write {s t : Sc} (h : Eqv s t) (x : ByteArray) (span : Nat) : Eqv (s.write x span) (t.write x span) := by
 have h1 := (h.front span).put x span
 obtain ⟨f1,f2,f3,f4,f5,f6⟩ := h.fields
 obtain ⟨g1,g2,g3,g4,g5,g6⟩ := (h.front span).fields
 rw [write_alt,write_alt,f1,g4]
 obtain ⟨R,L,C,e,hm,hg⟩ := h1
 rw [e]
 split
 ·exact ⟨R,L,C,rfl,hm,hg⟩
 ·exact ⟨R,L,C,rfl,hm,hg⟩
theorem Eqv.mark {s t : Sc} (h : Eqv s t) (hs : s.Ok) (ht : t.Ok) (x : ByteArray) : Eqv (s.mark x) (t.mark x) := by
 obtain ⟨R,L,C,rfl,hm,hg⟩ := h
 unfold Sc.mark
 dsimp only
 split
 ·rename_i hk
  obtain ⟨rfl,rfl⟩ := hm hk
  refine ⟨_,_,_,rfl,fun _ => ⟨rfl,rfl⟩,fun j => ?_⟩
  have h1 := (hs.ma hk).1
  have h2 : s.lr < R.length := (ht.ma hk).1
  show (R.set s.lr _).getD j [] = (s.rows.set s.lr _).getD j []
  rw [rw_set _ _ _ _ h1,rw_set _ _ _ _ h2,hg,hg]
 ·exact ⟨R,L,C,rfl,hm,hg⟩
theorem Eqv.control {s t : Sc} (h : Eqv s t) (b : Nat) : Eqv (s.control b) (t.control b) := by
 have h1 : Eqv { s with full := false,marks := false } { t with full := false,marks := false } := by
  obtain ⟨R,L,C,rfl,hm,hg⟩ := h
  exact ⟨R,L,C,rfl,(fun hq => by cases hq),hg⟩
 unfold Sc.control
 dsimp only
 by_cases h8 : b = 8
 ·rw [if_pos h8,if_pos h8]
  obtain ⟨R,L,C,rfl,hm,hg⟩ := h
  exact ⟨R,L,C,rfl,(fun hq => by cases hq),hg⟩
 rw [if_neg h8,if_neg h8]
 by_cases h10 : b = 10
 ·rw [if_pos h10,if_pos h10]
  exact h1.down
 rw [if_neg h10,if_neg h10]
 by_cases h13 : b = 13
 ·rw [if_pos h13,if_pos h13]
  obtain ⟨R,L,C,rfl,hm,hg⟩ := h
  exact ⟨R,L,C,rfl,(fun hq => by cases hq),hg⟩
 rw [if_neg h13,if_neg h13]
 exact h1
theorem Eqv.carry {s t : Sc} (h : Eqv s t) (e : Nat) (l : List Int) (ok : Bool) : Eqv (s.carry e l ok) (t.carry e l ok) := by
 obtain ⟨f1,f2,f3,f4,f5,f6⟩ := h.fields
 have h1 := h.clrR s.r s.c
 unfold Sc.carry
 dsimp only
 rw [f1,f2,f3,f4]
 split
 ·split
  ·obtain ⟨R,L,C,e,hm,hg⟩ := h1
   rw [e]
   refine ⟨_,L,C,rfl,hm,fun j => ?_⟩
   show (R.take _).getD j [] = ((s.clrR s.r s.c).rows.take _).getD j []
   rw [rw_take,rw_take,hg]
  ·exact h
 split
 ·split
  ·exact h1
  ·exact h
 split
 ·exact h
 split
 ·obtain ⟨R,L,C,rfl,hm,hg⟩ := h
  exact ⟨R,L,C,rfl,hm,hg⟩
 ·obtain ⟨R,L,C,rfl,hm,hg⟩ := h
  exact ⟨R,L,C,rfl,hm,hg⟩
theorem Eqv.escape {s t : Sc} (h : Eqv s t) (all : ByteArray) : Eqv (s.escape all).1 (t.escape all).1 ∧ (t.escape all).2 = (s.escape all).2 := by
 have h1 := h.unmark
 unfold Sc.escape
 repeat' split
 all_goals first | exact ⟨h,rfl⟩ | exact ⟨h1,rfl⟩ | exact ⟨h1.carry _ _ _,rfl⟩
theorem Eqv.unit {s t : Sc} (h : Eqv s t) (hs : s.Ok) (ht : t.Ok) (cl : Int) (x : ByteArray) : Eqv (s.unit cl x) (t.unit cl x) := by
 obtain ⟨f1,f2,f3,f4,f5,f6⟩ := h.fields
 unfold Sc.unit
 rw [f1]
 repeat' split
 all_goals first | exact h.mark hs ht _ | exact h.write _ _ | skip
 obtain ⟨R,L,C,rfl,hm,hg⟩ := h
 exact ⟨R,L,C,rfl,(fun hq => by cases hq),hg⟩
theorem Eqv.step {s t : Sc} (h : Eqv s t) (hs : s.Ok) (ht : t.Ok) (all : ByteArray) : Eqv (s.step all).1 (t.step all).1 ∧ (t.step all).2 = (s.step all).2 := by
 unfold Sc.step
 split
 ·exact h.escape all
 split
 ·exact ⟨h.control _,rfl⟩
 split
 ·exact ⟨h,rfl⟩
 ·exact ⟨h.unit hs ht _ _,rfl⟩
theorem Eqv.feedN : ∀ (k : Nat) {s t : Sc} (h : Eqv s t) (hs : s.Ok) (ht : t.Ok) (all : ByteArray),Eqv (Sc.feedN k s all).1 (Sc.feedN k t all).1 ∧ (Sc.feedN k t all).2 = (Sc.feedN k s all).2
 | 0,s,t,h,hs,ht,all => ⟨h,rfl⟩
 | k + 1,s,t,h,hs,ht,all => by
  obtain ⟨h1,h2⟩ := h.step hs ht all
  unfold Sc.feedN
  rw [h2]
  split
  ·exact ⟨h,rfl⟩
  split
  ·exact ⟨h1,rfl⟩
  ·exact Eqv.feedN k h1 (hs.step all) (ht.step all) _
structure EqvS (S T : Sc × ByteArray) : Prop where
 s : Eqv S.1 T.1
 held : T.2 = S.2
 o1 : S.1.Ok
 o2 : T.1.Ok
theorem EqvS.feed {S T : Sc × ByteArray} (h : EqvS S T) (b : ByteArray) : EqvS (feedS S b) (feedS T b) := by
 have h1 := Eqv.feedN (S.2 ++ b).size h.s h.o1 h.o2 (S.2 ++ b)
 refine ⟨?_,?_,feedS_ok h.o1 b,feedS_ok h.o2 b⟩
 ·unfold feedS;rw [h.held];exact h1.1
 ·unfold feedS;rw [h.held];exact h1.2
/-- What is seen is the same. -/
theorem lastN_more (rows : List (List Cl)) : ∀ k,lastN rows (rows.length + k) = lastN rows rows.length
 | 0 => rfl
 | k + 1 => by
  show (if (trimR (rows.getD (rows.length + k) [])).length = 0 then lastN rows (rows.length + k) else _) = _
  rw [rw_nil _ _ (by omega),if_pos (by rfl),lastN_more rows k]
theorem lastN_eq {rows R : List (List Cl)} (h : ∀ i,R.getD i [] = rows.getD i []) : ∀ n,lastN R n = lastN rows n
 | 0 => rfl
 | n + 1 => by
  unfold lastN
  rw [h n,lastN_eq h n]
theorem Eqv.nrows {s t : Sc} (h : Eqv s t) : t.nrows = s.nrows := by
 obtain ⟨R,L,C,rfl,hm,hg⟩ := h
 show max (lastN R R.length) (s.r + 1) = max (lastN s.rows s.rows.length) (s.r + 1)
 have h1 := lastN_more R s.rows.length
 have h2 := lastN_more s.rows R.length
 rw [lastN_eq hg,Nat.add_comm] at h1
 rw [← h1,h2]
theorem Eqv.frames {s t : Sc} (h : Eqv s t) (n : Int) : frameL t.rows (t.frameN n) = frameL s.rows (s.frameN n) := by
 obtain ⟨R,L,C,rfl,hm,hg⟩ := h
 unfold frameL
 show List.map _ (List.range (s.frameN n)) = _
 congr 1
 funext i
 rw [hg i]
end Go.Proofs.YtgdpnmikcopkmaaDoor.U
end
section
namespace Go.Proofs.YtgdpnmikcopkmaaDoor.U
open Go.RowKit Go.Proofs.YtgdpnmikcopkmaaDoor.Mu Go.Proofs.YtgdpnmikcopkmaaDoor.Pu Go.Proofs.YtgdpnmikcopkmaaDoorW.PrintWords Go.Proofs.YtgdpnmikcopkmaaDoorW.PrintLast Go.Proofs.YtgdpnmikcopkmaaDoorW.PrintMore
set_option linter.unusedVariables false
set_option linter.unusedSimpArgs false
def rs8.T : Bool × List (List Nat × List Nat) := (true,[([],[]),([],[]),([1],[1]),([2],[2]),([3],[3]),([4],[4]),([],[]),([0,5,0,1,2,3,4,5,6],[0,5]),([7,6,6,0,1,2,3,4,5,6],[6,7])])
def rs8.B : List Nat := [0,0,2,6,14,30,0,127,255]
theorem rs8.tab : rtab .any (opsOf Tryd.f31 8) = rs8.T := by kernel_rfl
theorem rs8.bits : waitsOk rs8.T.2 rs8.B = true := by kernel_rfl
def rs11.T : Bool × List (List Nat × List Nat) := (true,[([],[]),([],[]),([1],[1]),([2],[2]),([3],[3]),([4],[4]),([],[]),([6],[6]),([7],[7]),([8],[8]),([9],[9]),([5,10],[5,10]),([0,0,1,2,3,4,5,6,7,8,9,10,11],[0]),([12,0,1,2,3,4,5,6,7,8,9,10,11],[12]),([13,0,1,2,3,4,5,6,7,8,9,10,11],[13]),([14,11,0,1,2,3,4,5,6,7,8,9,10,11],[11,14])])
def rs11.B : List Nat := [0,0,2,6,14,30,0,64,192,448,960,2046,4095,8191,16383,32767]
theorem rs11.tab : rtab .any (opsOf Tryd.f31 11) = rs11.T := by kernel_rfl
theorem rs11.bits : waitsOk rs11.T.2 rs11.B = true := by kernel_rfl
end Go.Proofs.YtgdpnmikcopkmaaDoor.U
end
section
namespace Go.Proofs.YtgdpnmikcopkmaaDoor.U
open Go.RowKit Go.Proofs.YtgdpnmikcopkmaaDoor.Mu Go.Proofs.YtgdpnmikcopkmaaDoor.Pu Go.Proofs.YtgdpnmikcopkmaaDoorW.PrintWords Go.Proofs.YtgdpnmikcopkmaaDoorW.PrintLast Go.Proofs.YtgdpnmikcopkmaaDoorW.PrintMore
set_option linter.unusedVariables false
set_option linter.unusedSimpArgs false
/-- Each cell but those of X is whole,and leans on none of X. -/
def Good (row : List Cl) (X : Nat → Prop) : Prop := ∀ i,i < row.length → ¬ X i →
 ((gC row i).f1 = 1 ∧ (gC row i).f0.size ≠ 0) ∨
 ((gC row i).f1 = 2 ∧ (gC row i).f0.size ≠ 0 ∧ i + 1 < row.length ∧ ¬ X (i + 1) ∧ (gC row (i + 1)).f1 = 0) ∨
 ((gC row i).f1 = 0 ∧ (gC row i).f0.size = 0 ∧ 0 < i ∧ ¬ X (i - 1) ∧ (gC row (i - 1)).f1 = 2)
abbrev X0 : Nat → Prop := fun _ => False
theorem Good.mono {row : List Cl} {X Y : Nat → Prop} (h : Good row X) (he : ∀ i,i < row.length → (X i ↔ Y i)) : Good row Y := fun i hi hy => by
 rcases h i hi (fun e => hy ((he i hi).1 e)) with a | ⟨b1,b2,b3,b4,b5⟩ | ⟨b1,b2,b3,b4,b5⟩
 ·exact .inl a
 ·exact .inr (.inl ⟨b1,b2,b3,fun e => b4 ((he _ b3).2 e),b5⟩)
 ·exact .inr (.inr ⟨b1,b2,b3,fun e => b4 ((he _ (by omega)).2 e),b5⟩)
theorem gC_pad (row : List Cl) (n j : Nat) : gC (padC row n) j = if j < row.length then gC row j else if j < n then blC else noC := by
 unfold gC padC
 rw [List.getD_eq_getElem?_getD,List.getD_eq_getElem?_getD]
 by_cases h : j < row.length
 ·rw [if_pos h,List.getElem?_append_left h]
 ·rw [if_neg h,List.getElem?_append_right (by omega),List.getElem?_replicate]
  by_cases h2 : j < n
  ·rw [if_pos (by omega),if_pos h2];rfl
  ·rw [if_neg (by omega),if_neg h2];rfl
end Go.Proofs.YtgdpnmikcopkmaaDoor.U
end
section
namespace Go.Proofs.YtgdpnmikcopkmaaDoor.U
open Go Go.RowKit Go.Proofs.YtgdpnmikcopkmaaDoor.Mu Go.Proofs.YtgdpnmikcopkmaaDoor.Pu Go.Proofs.YtgdpnmikcopkmaaDoor.Mk
set_option linter.unusedVariables false
set_option linter.unusedSimpArgs false
/-- A text's cells. -/
def tlC (t : ByteArray) (k : Nat) : List Cl := if k = 2 then [⟨t,2⟩,noC] else [⟨t,1⟩]
theorem tl_len (t : ByteArray) {k : Nat} (hk : k = 1 ∨ k = 2) : (tlC t k).length = k := by rcases hk with rfl | rfl <;> rfl
theorem clr_bl {row : List Cl} {col : Nat} (h : gC row col = blC) : clrH row col = row := by
 unfold clrH
 split
 ·rfl
 ·have e0 : ¬ ((gC row col).f1 = 0 ∧ 0 < col) := fun h2 => by rw [h] at h2;exact absurd h2.1 (by decide)
  dsimp only
  rw [if_neg e0]
  have e1 : ¬ ((gC row col).f1 = 2 ∧ col + 1 < row.length) := fun h2 => by rw [h] at h2;exact absurd h2.1 (by decide)
  rw [if_neg e1]
theorem set_at {α : Type} (L M : List α) (x : α) (n : Nat) : (L ++ M).set (L.length + n) x = L ++ M.set n x := by
 rw [List.set_append_right _ _ (by omega),Nat.add_sub_cancel_left]
theorem put_end (L : List Cl) (t : ByteArray) {k : Nat} (hk : k = 1 ∨ k = 2) : putC L L.length k t = L ++ tlC t k := by
 have hp : padC L (L.length + k) = L ++ List.replicate k blC := by unfold padC;rw [Nat.add_sub_cancel_left]
 have hb : ∀ j,L.length ≤ j → j < L.length + k → gC (L ++ List.replicate k blC) j = blC := fun j h1 h2 => by
  rw [← hp,gC_pad,if_neg (by omega),if_pos h2]
 have h0 := set_at L (List.replicate k blC) ⟨t,(k : Int)⟩ 0
 rw [Nat.add_zero] at h0
 unfold putC
 dsimp only
 rw [hp]
 rcases hk with rfl | rfl
 ·rw [if_neg (by decide),if_neg (by decide),clr_bl (hb _ (Nat.le_refl _) (by omega))]
  exact h0
 ·rw [if_pos rfl,if_pos rfl,clr_bl (hb _ (Nat.le_refl _) (by omega)),clr_bl (hb _ (by omega) (by omega))]
  exact (congrArg (fun l => l.set (L.length + 1) noC) h0).trans (set_at L _ noC 1)
/-- Where the next text is written: behind the rows R in one that is L. -/
structure Wr (s : Sc) (R : List (List Cl)) (L : List Cl) : Prop where
 r : s.r = R.length
 rows : padR s.rows (s.r + 1) = R ++ [L]
 w2 : 2 ≤ s.w
 c : (s.full = true ∧ L.length = s.w ∧ s.c + 1 = s.w) ∨ (s.full = false ∧ s.c = L.length ∧ s.c < s.w)
/-- What was written last. -/
structure Wn (s : Sc) (R : List (List Cl)) (L : List Cl) (t : ByteArray) (k : Nat) : Prop where
 wr : Wr s R (L ++ tlC t k)
 rows : s.rows = R ++ [L ++ tlC t k]
 k : k = 1 ∨ k = 2
 m : s.marks = true
 lr : s.lr = R.length
 lc : s.lc = L.length
theorem pad_same (R : List (List Cl)) (L : List Cl) : padR (R ++ [L]) (R.length + 1) = R ++ [L] := by
 unfold padR
 rw [List.length_append,List.length_singleton,Nat.sub_self]
 simp
theorem getD_end {α : Type} (R : List α) (x d : α) : (R ++ [x]).getD R.length d = x := by
 rw [List.getD_eq_getElem?_getD,List.getElem?_append_right (Nat.le_refl _),Nat.sub_self]
 rfl
theorem set_end {α : Type} (R : List α) (x y : α) : (R ++ [x]).set R.length y = R ++ [y] := by
 have := set_at R [x] y 0
 rwa [Nat.add_zero] at this
theorem write_on {s : Sc} {R : List (List Cl)} {L : List Cl} (h : Wr s R L) (t : ByteArray) {k : Nat} (hk : k = 1 ∨ k = 2) (hf : s.full = false) (hn : ¬ (k = 2 ∧ s.c + 1 = s.w)) :
  Wn (s.write t k) R L t k ∧ (s.write t k).w = s.w ∧ (s.write t k).h = s.h := by
 have hc : s.c = L.length ∧ s.c < s.w := by
  rcases h.c with h2 | h2
  ·rw [hf] at h2;exact absurd h2.1 (by decide)
  ·exact h2.2
 have hl : (L ++ tlC t k).length = s.c + k := by rw [List.length_append,tl_len t hk,hc.1]
 have hkw : s.c + k ≤ s.w := by rcases hk with rfl | rfl <;> omega
 have hr := h.r
 unfold Sc.write
 rw [if_neg (show ¬ (s.full = true ∨ (k = 2 ∧ s.c + 1 = s.w)) from fun h2 => h2.elim (fun h3 => by rw [hf] at h3;cases h3) hn)]
 dsimp only
 rw [h.rows,hr,getD_end,set_end,hc.1,put_end L t hk,← hc.1]
 split
 ·rename_i h2
  exact ⟨⟨⟨rfl,pad_same _ _,h.w2,.inl ⟨rfl,by show _ = s.w;omega,by show s.w - 1 + 1 = s.w;omega⟩⟩,rfl,hk,rfl,rfl,hc.1⟩,rfl,rfl⟩
 ·rename_i h2
  exact ⟨⟨⟨rfl,pad_same _ _,h.w2,.inr ⟨hf,by show s.c + k = _;omega,by show s.c + k < s.w;omega⟩⟩,rfl,hk,rfl,rfl,hc.1⟩,rfl,rfl⟩
theorem write_dn {s : Sc} {R : List (List Cl)} {L : List Cl} (h : Wr s R L) (hrows : s.rows = R ++ [L]) (t : ByteArray) {k : Nat} (hk : k = 1 ∨ k = 2) (hq : s.full = true ∨ (k = 2 ∧ s.c + 1 = s.w)) (hd : s.r + 1 < s.h) :
  Wn (s.write t k) (R ++ [L]) [] t k ∧ (s.write t k).w = s.w ∧ (s.write t k).h = s.h := by
 have hw := h.w2
 have hdn : s.down = { s with r := s.r + 1 } := by unfold Sc.down;rw [if_pos hd]
 have hW : Wr ({ s with r := s.r + 1,c := 0,full := false } : Sc) (R ++ [L]) [] := by
  refine ⟨?_,?_,hw,.inr ⟨rfl,rfl,by show 0 < s.w;omega⟩⟩
  ·show s.r + 1 = _
   rw [h.r,List.length_append];rfl
  ·show padR s.rows (s.r + 1 + 1) = _
   rw [hrows,h.r]
   unfold padR
   rw [List.length_append,List.length_singleton,Nat.add_sub_cancel_left]
   rfl
 have hon := write_on hW t hk rfl (fun h2 => by have h3 : 0 + 1 = s.w := h2.2;omega)
 have he : s.write t k = ({ s with r := s.r + 1,c := 0,full := false } : Sc).write t k := by
  unfold Sc.write
  rw [if_pos hq,hdn,if_neg (show ¬ (({ s with r := s.r + 1,c := 0,full := false } : Sc).full = true ∨ (k = 2 ∧ ({ s with r := s.r + 1,c := 0,full := false } : Sc).c + 1 = s.w)) from fun h2 => h2.elim (fun h3 => by cases h3) (fun h3 => by have h4 : 0 + 1 = s.w := h3.2;omega))]
 rw [he]
 exact hon
theorem mark_on {s : Sc} {R : List (List Cl)} {L : List Cl} {t : ByteArray} {k : Nat} (h : Wn s R L t k) (m : ByteArray) : Wn (s.mark m) R L (t ++ m) k ∧ (s.mark m).w = s.w ∧ (s.mark m).h = s.h := by
 have hk := h.k
 have hg : gC (L ++ tlC t k) L.length = ⟨t,(k : Int)⟩ := by
  unfold gC
  rw [List.getD_eq_getElem?_getD,List.getElem?_append_right (Nat.le_refl _),Nat.sub_self]
  rcases hk with rfl | rfl <;> rfl
 have hs : (L ++ tlC t k).set L.length ⟨t ++ m,(k : Int)⟩ = L ++ tlC (t ++ m) k := by
  have := set_at L (tlC t k) ⟨t ++ m,(k : Int)⟩ 0
  rw [Nat.add_zero] at this
  rw [this]
  rcases hk with rfl | rfl <;> rfl
 have hl : (L ++ tlC (t ++ m) k).length = (L ++ tlC t k).length := by rw [List.length_append,List.length_append,tl_len _ hk,tl_len _ hk]
 have he : s.mark m = { s with rows := R ++ [L ++ tlC (t ++ m) k] } := by
  unfold Sc.mark
  rw [if_pos h.m,h.rows,h.lr,h.lc,getD_end,hg,set_end,hs]
 rw [he]
 have hw := h.wr
 refine ⟨⟨⟨hw.r,?_,hw.w2,?_⟩,rfl,hk,h.m,h.lr,h.lc⟩,rfl,rfl⟩
 ·show padR (R ++ [_]) (s.r + 1) = _
  rw [hw.r];exact pad_same _ _
 ·rcases hw.c with h2 | h2
  ·exact .inl ⟨h2.1,hl.trans h2.2.1,h2.2.2⟩
  ·exact .inr ⟨h2.1,h2.2.1.trans hl.symm,h2.2.2⟩
theorem uC_lowK (s : ByteArray) (x : Nat) (c : Nat) (hc : c < 128) : uC s x = c ↔ byt s x = c := by
 rcases uC_cases s x with h | h | h | h | h <;> omega
theorem full_good (x : ByteArray) (h0 : 0 < x.size) (h : 0 ≤ uC x 0) : fullB x = true := by
 have hd := dec_eq x 0
 refine (full_iff _ _ _ _ (byt_lt x 0)).2 ?_
 unfold uC at h
 rw [hd,Nat.sub_zero] at h
 have h1 := byt_lt x 1
 have h2 := byt_lt x 2
 have h3 := byt_lt x 3
 unfold FullC
 rcases dec_cases x.size (byt x 0) (byt x 1) (byt x 2) (byt x 3) (byt_lt x 0) with A | A | A | A | A
 ·omega
 ·exfalso
  simp only [Nat.zero_add] at h
  rw [A.2] at h
  simp at h
 ·omega
 ·omega
 ·omega
theorem ext_ext (p : ByteArray) (a b c d : Nat) (h : a + d ≤ b) : (p.extract a b).extract c d = p.extract (a + c) (a + d) := by
 apply ByteArray.ext
 rw [ByteArray.data_extract,ByteArray.data_extract,ByteArray.data_extract,Array.extract_extract]
 congr 1
 omega
/-- A unit that is a character,and no control,is no beginning of a sequence,nor is it held back. -/
theorem step_unit (s : Sc) (q : ByteArray) (h0 : 0 < q.size) (h : cls (uC q 0) = 0 ∨ cls (uC q 0) = 3 ∨ cls (uC q 0) = 4) : s.step q = (s.unit (cls (uC q 0)) (q.extract 0 (uN q 0)),uN q 0) := by
 have hg : 0 ≤ uC q 0 := cls_good _ (by omega)
 have hb : 32 ≤ byt q 0 ∧ byt q 0 ≠ 127 := by
  by_cases h1 : byt q 0 < 128
  ·have e := (uC_lowK q 0 (byt q 0) h1).2 rfl
   have hc : ∀ c : Int,(cls c = 0 ∨ cls c = 3 ∨ cls c = 4) → ¬ (c < 32 ∨ c = 127) := fun c hc h2 => by
    unfold cls at hc
    by_cases e1 : c < 0 ∨ c > 1114111 ∨ (55296 ≤ c ∧ c ≤ 57343)
    ·rw [if_pos e1] at hc;omega
    ·rw [if_neg e1] at hc
     by_cases e2 : c = 10
     ·rw [if_pos e2] at hc;omega
     ·rw [if_neg e2,if_pos (by omega)] at hc;omega
   have := hc _ h
   omega
  ·omega
 unfold Sc.step
 rw [if_neg (by omega),if_neg (by omega),full_good q h0 hg,if_neg (by decide)]
theorem feed_marks {p : ByteArray} {R : List (List Cl)} {L : List Cl} {k : Nat} (hm : ∀ j,Bd p j → 0 < j → j < p.size → cls (uC p j) = 3) : ∀ (n x : Nat) (s : Sc),p.size - x ≤ n → Bd p x → 0 < x → Wn s R L (p.extract 0 x) k →
  ∃ s',Sc.feedN (p.extract x p.size).size s (p.extract x p.size) = (s',⟨#[]⟩) ∧ Wn s' R L p k ∧ s'.w = s.w ∧ s'.h = s.h := by
 intro n
 induction n with
 | zero =>
  intro x s hn hb h0 hW
  have hx := hb.1
  obtain rfl : x = p.size := by omega
  rw [cut_all] at hW
  have he : p.extract p.size p.size = ⟨#[]⟩ := by
   apply ByteArray.ext
   rw [ByteArray.data_extract]
   simp
  rw [he]
  exact ⟨s,rfl,hW,rfl,rfl⟩
 | succ n ih =>
  intro x s hn hb h0 hW
  have hx := hb.1
  by_cases hlt : x < p.size
  ·have hz := size_extract p x p.size (Nat.le_refl _)
   have hu := mid_unit0 p x p.size (bd_size p) hlt
   have hc := hm x hb h0 hlt
   have hN := uN_pos p x
   have hbn := bd_next p x hb hlt
   have hle := hbn.1
   have hst := step_unit s (p.extract x p.size) (by omega) (by rw [hu.1];omega)
   rw [hu.1,hu.2,hc,ext_ext _ _ _ _ _ (by omega),Nat.add_zero] at hst
   have hU : s.unit 3 (p.extract x (x + uN p x)) = s.mark (p.extract x (x + uN p x)) := rfl
   rw [hU] at hst
   obtain ⟨hM,hw,hh⟩ := mark_on hW (p.extract x (x + uN p x))
   rw [cut_cat _ _ _ (by omega)] at hM
   rw [feedN_go s _ (by omega) (by rw [hst];show uN p x ≠ 0;omega),hst]
   show ∃ s',Sc.feedN ((p.extract x p.size).extract (uN p x) (p.extract x p.size).size).size (s.mark (p.extract x (x + uN p x))) ((p.extract x p.size).extract (uN p x) (p.extract x p.size).size) = _ ∧ _
   rw [hz,ext_ext _ _ _ _ _ (by omega),show x + (p.size - x) = p.size by omega]
   obtain ⟨s',e1,e2,e3,e4⟩ := ih (x + uN p x) _ (by omega) hbn (by omega) hM
   exact ⟨s',e1,e2,e3.trans hw,e4.trans hh⟩
  ·exact ih x s (by omega) hb h0 hW
theorem cel_one {c : Int} (h : cls c = 0 ∨ cls c = 4) : celB c = if cls c = 4 then 2 else 1 := by
 unfold celB
 rcases h with h | h <;> rw [h] <;> simp
/-- A cluster that comes: its unit writes,its marks are laid. -/
theorem feed_one {p : ByteArray} {k : Nat} (ho : OneK p k) {s : Sc} {R R' : List (List Cl)} {L L' : List Cl} (hw1 : s.w ≠ 1) (hW : ∀ t,Wn (s.write t k) R' L' t k ∧ (s.write t k).w = s.w ∧ (s.write t k).h = s.h) :
  ∃ s',feedS (s,⟨#[]⟩) p = (s',⟨#[]⟩) ∧ Wn s' R' L' p k ∧ s'.w = s.w ∧ s'.h = s.h := by
 have h0 := ho.pos
 have hN := uN_pos p 0
 have hb := bd_next p 0 (bd_zero p) h0
 rw [Nat.zero_add] at hb
 have hle := hb.1
 have hst := step_unit s p h0 (ho.first.elim .inl (fun h => .inr (.inr h)))
 have hk := ho.cel
 rw [cel_one ho.first] at hk
 have hU : s.unit (cls (uC p 0)) (p.extract 0 (uN p 0)) = s.write (p.extract 0 (uN p 0)) k := by
  rcases ho.first with h | h
  ·rw [h] at hk ⊢
   obtain rfl : k = 1 := by
    have : (1 : Int) = k := hk
    omega
   rfl
  ·rw [h] at hk ⊢
   obtain rfl : k = 2 := by
    have : (2 : Int) = k := hk
    omega
   unfold Sc.unit
   rw [if_neg (by decide),if_neg (by decide),if_neg (by decide),if_pos rfl,if_neg hw1]
 rw [hU] at hst
 obtain ⟨h1,h2,h3⟩ := hW (p.extract 0 (uN p 0))
 obtain ⟨s',e1,e2,e3,e4⟩ := feed_marks ho.inner p.size (uN p 0) (s.write (p.extract 0 (uN p 0)) k) (by omega) hb (by omega) h1
 refine ⟨s',?_,e2,e3.trans h2,e4.trans h3⟩
 have hn : (⟨#[]⟩ : ByteArray) ++ p = p := by apply ByteArray.ext;simp
 show Sc.feedN ((⟨#[]⟩ : ByteArray) ++ p).size s ((⟨#[]⟩ : ByteArray) ++ p) = _
 rw [hn,feedN_go s p h0 (by rw [hst];show uN p 0 ≠ 0;omega),hst]
 exact e1
/-- A new screen. -/
structure Fr (s : Sc) : Prop where
 rows : s.rows = []
 r : s.r = 0
 c : s.c = 0
 full : s.full = false
 w2 : 2 ≤ s.w
theorem Fr.wr {s : Sc} (h : Fr s) : Wr s [] [] := ⟨h.r,by rw [h.rows,h.r];rfl,h.w2,.inr ⟨h.full,h.c,by have := h.w2;have := h.c;omega⟩⟩
def bytX (X : List Cl) : List UInt8 := X.flatMap (fun x => x.f0.data.toList)
/-- n clusters one behind the other: their bytes Y,their cells X. -/
structure Acc (Y : ByteArray) (X : List Cl) (n : Nat) : Prop where
 wide : ∀ s,Fr s → X.length < s.w → ∃ s',feedS (s,⟨#[]⟩) Y = (s',⟨#[]⟩) ∧ Wr s' [] X ∧ s'.w = s.w ∧ s'.h = s.h
 nar : ∀ s,Fr s → n < s.h → ∃ s' R L,feedS (s,⟨#[]⟩) Y = (s',⟨#[]⟩) ∧ Wr s' R L ∧ s'.w = s.w ∧ s'.h = s.h ∧ R.length ≤ n ∧ R.flatten ++ L = X ∧ (L ≠ [] → s'.rows = R ++ [L])
 byt : bytX X = Y.data.toList
 le : n ≤ Y.size
 len : n ≤ X.length ∧ X.length ≤ 2 * n
theorem Acc.nil : Acc ⟨#[]⟩ [] 0 :=
 ⟨fun s h _ => ⟨s,rfl,h.wr,rfl,rfl⟩,fun s h _ => ⟨s,[],[],rfl,h.wr,rfl,rfl,Nat.le_refl _,rfl,fun h => absurd rfl h⟩,rfl,Nat.le_refl _,Nat.le_refl _,Nat.le_refl _⟩
theorem bytX_app (X Z : List Cl) : bytX (X ++ Z) = bytX X ++ bytX Z := List.flatMap_append
theorem bytX_tl (t : ByteArray) {k : Nat} (hk : k = 1 ∨ k = 2) : bytX (tlC t k) = t.data.toList := by
 rcases hk with rfl | rfl
 ·show t.data.toList ++ [] = _
  rw [List.append_nil]
 ·show t.data.toList ++ ([] ++ []) = _
  rw [List.append_nil,List.append_nil]
theorem Acc.snoc {Y p : ByteArray} {X : List Cl} {n k : Nat} (h : Acc Y X n) (ho : OneK p k) (hk : k = 1 ∨ k = 2) : Acc (Y ++ p) (X ++ tlC p k) (n + 1) := by
 have htl := tl_len p hk
 have hl : (X ++ tlC p k).length = X.length + k := by rw [List.length_append,htl]
 refine ⟨fun s hf hw => ?_,fun s hf hh => ?_,?_,?_,?_⟩
 ·rw [hl] at hw
  obtain ⟨s1,e1,e2,e3,e4⟩ := h.wide s hf (by omega)
  have hw2 := hf.w2
  have hc : s1.full = false ∧ s1.c = X.length ∧ s1.c < s1.w := by
   rcases e2.c with h2 | h2
   ·omega
   ·exact h2
  obtain ⟨s2,f1,f2,f3,f4⟩ := feed_one ho (s := s1) (R := []) (L := X) (R' := []) (L' := X) (by omega) (fun t => write_on e2 t hk hc.1 (fun h2 => by omega))
  refine ⟨s2,?_,f2.wr,f3.trans e3,f4.trans e4⟩
  rw [← feed_two,e1,f1]
 ·obtain ⟨s1,R,L,e1,e2,e3,e4,e5,e6,e7⟩ := h.nar s hf (by omega)
  have hw2 := hf.w2
  have hr := e2.r
  by_cases hq : s1.full = true ∨ (k = 2 ∧ s1.c + 1 = s1.w)
  ·have hL : L ≠ [] := fun h2 => by
    subst h2
    rcases e2.c with ⟨_,h3,_⟩ | ⟨h3,h4,_⟩
    ·have h3 : 0 = s1.w := h3
     omega
    ·rw [h3] at hq
     have h4 : s1.c = 0 := h4
     rcases hq with hq | hq
     ·cases hq
     ·omega
   obtain ⟨s2,f1,f2,f3,f4⟩ := feed_one ho (s := s1) (R := R) (L := L) (R' := R ++ [L]) (L' := []) (by omega) (fun t => write_dn e2 (e7 hL) t hk hq (by omega))
   refine ⟨s2,R ++ [L],[] ++ tlC p k,?_,f2.wr,f3.trans e3,f4.trans e4,?_,?_,fun _ => f2.rows⟩
   ·rw [← feed_two,e1,f1]
   ·rw [List.length_append,List.length_singleton];omega
   ·rw [List.flatten_append,← e6]
    simp
  ·have hn : ¬ s1.full = true := fun h2 => hq (.inl h2)
   obtain ⟨s2,f1,f2,f3,f4⟩ := feed_one ho (s := s1) (R := R) (L := L) (R' := R) (L' := L) (by omega) (fun t => write_on e2 t hk (by simpa using hn) (fun h2 => hq (.inr h2)))
   refine ⟨s2,R,L ++ tlC p k,?_,f2.wr,f3.trans e3,f4.trans e4,by omega,?_,fun _ => f2.rows⟩
   ·rw [← feed_two,e1,f1]
   ·rw [← List.append_assoc,e6]
 ·rw [bytX_app,h.byt,bytX_tl p hk,ByteArray.data_append,Array.toList_append]
 ·have := ho.pos
  have := h.le
  rw [app_size]
  omega
 ·have := h.len
  omega
/-- The cells that are seen. -/
theorem pad_getD (rows : List (List Cl)) (n i : Nat) : (padR rows n).getD i [] = rows.getD i [] := by
 unfold padR
 rw [List.getD_eq_getElem?_getD,List.getD_eq_getElem?_getD]
 by_cases h : i < rows.length
 ·rw [List.getElem?_append_left h]
 ·rw [List.getElem?_append_right (by omega),List.getElem?_eq_none (show rows.length ≤ i by omega),List.getElem?_replicate]
  split <;> rfl
/-- A wide screen of one row. -/
theorem Acc.one {Y : ByteArray} {X : List Cl} {n : Nat} (h : Acc Y X n) {s : Sc} (hf : Fr s) (hO : s.Ok) (hh : s.h = 1) (hw : X.length < s.w) :
  ∃ s',feedS (s,⟨#[]⟩) Y = (s',⟨#[]⟩) ∧ s'.Ok ∧ s'.nrows = 1 ∧ frameL s'.rows (s'.frameN 1) = [trimR X] := by
 obtain ⟨s',e1,e2,e3,e4⟩ := h.wide s hf hw
 have hok := feedS_ok (p := (s,⟨#[]⟩)) hO Y
 rw [e1] at hok
 have hok : s'.Ok := hok
 have hr : s'.r = 0 := e2.r
 have hrl := hok.rl
 have hll := lastN_le s'.rows s'.rows.length
 refine ⟨s',e1,hok,by unfold Sc.nrows;omega,?_⟩
 have hN : s'.frameN 1 = 1 := by unfold Sc.frameN;omega
 rw [hN]
 show [trimR (s'.rows.getD 0 [])] = _
 rw [← pad_getD s'.rows (s'.r + 1) 0,e2.rows]
 rfl
end Go.Proofs.YtgdpnmikcopkmaaDoor.U
end
section
namespace Go.Proofs.YtgdpnmikcopkmaaDoor.U
open Go.RowKit Go.Proofs.YtgdpnmikcopkmaaDoor.Pu Go.Proofs.YtgdpnmikcopkmaaDoorW.PrintWords Go.Proofs.YtgdpnmikcopkmaaDoorW.PrintLast Go.Proofs.YtgdpnmikcopkmaaDoorW.PrintMore
set_option linter.unusedVariables false
set_option linter.unusedSimpArgs false
def cl8.T : Bool × List (List Nat × List Nat) := (true,[([],[]),([0],[0]),([],[]),([2],[2]),([3],[3]),([1,4,3],[1,4]),([0,1,2,3,4,5],[]),([6,5,5,0,1,2,3,4,5],[5,6])])
def cl8.B : List Nat := [0,1,0,4,12,31,63,127]
theorem cl8.tab : rtab .any (opsOf Tryd.f28 8) = cl8.T := by kernel_rfl
theorem cl8.bits : waitsOk cl8.T.2 cl8.B = true := by kernel_rfl
end Go.Proofs.YtgdpnmikcopkmaaDoor.U
end
section
namespace Go.Proofs.YtgdpnmikcopkmaaDoor.U
open Go.RowKit Go.Proofs.YtgdpnmikcopkmaaDoor.Pu Go.Proofs.YtgdpnmikcopkmaaDoorW.PrintWords Go.Proofs.YtgdpnmikcopkmaaDoorW.PrintLast Go.Proofs.YtgdpnmikcopkmaaDoorW.PrintMore
set_option linter.unusedVariables false
set_option linter.unusedSimpArgs false
theorem own_less {w : World} {base : Nat} {e : TypeId} {size g n m cap : Nat} {xs ys : List Value} (h : w.ownsRow base e size (.slice (some ⟨g,0,none⟩) (n + m) cap) (n + m) (xs ++ ys)) (hx : xs.length = n * size) : w.ownsRow base e size (.slice (some ⟨g,0,none⟩) n cap) n xs := by
 refine ⟨hx,?_⟩
 rcases h.2 with ⟨hv,_⟩ | ⟨g',cap',cur,hv,hb,hh,hn,hc,hs,ht⟩
 ·cases hv
 ·injection hv with hv1 _ hv3
  injection hv1 with hv1
  injection hv1 with hv1
  subst hv1;subst hv3
  refine .inr ⟨g,cap,cur,rfl,hb,hh,by omega,hc,hs,?_⟩
  have h2 := congrArg (List.take (n * size)) ht
  rw [List.take_take,Nat.min_eq_left (Nat.mul_le_mul_right _ (Nat.le_add_right _ _)),← hx,List.take_left] at h2
  rw [← hx]
  exact h2
end Go.Proofs.YtgdpnmikcopkmaaDoor.U
end
section
namespace Go.Proofs.YtgdpnmikcopkmaaDoor.U
open Go.RowKit Go.Proofs.YtgdpnmikcopkmaaDoor.Pu Go.Proofs.YtgdpnmikcopkmaaDoorW.PrintWords Go.Proofs.YtgdpnmikcopkmaaDoorW.PrintLast Go.Proofs.YtgdpnmikcopkmaaDoorW.PrintMore
set_option linter.unusedVariables false
set_option linter.unusedSimpArgs false
/-- Two slices of one block have one room. -/
theorem caps_eq {base base2 g n m c c2 : Nat} {ok ok2 : Nat → Prop} {w : World} {L X : List Cl} (h1 : RowAt base ok w (.slice (some ⟨g,0,none⟩) n c) L) (h2 : RowAt base2 ok2 w (.slice (some ⟨g,0,none⟩) m c2) X) : c = c2 := by
 obtain ⟨_,i1,o1,_⟩ := h1
 obtain ⟨_,i2,o2,_⟩ := h2
 rcases o1.2 with ⟨hv,_⟩ | ⟨g1,k1,u1,hv,_,hh,_,_,hs,_⟩
 ·cases hv
 rcases o2.2 with ⟨hv2,_⟩ | ⟨g2,k2,u2,hv2,_,hh2,_,_,hs2,_⟩
 ·cases hv2
 cases hv
 cases hv2
 rw [hh] at hh2
 injection hh2 with hh2
 injection hh2 with hh2
 subst hh2
 have e : c * 2 = c2 * 2 := hs.symm.trans hs2
 omega
/-- A row's cells lead to no block: whose it is,is its own block alone. -/
theorem row_ok {base : Nat} {ok ok2 : Nat → Prop} {w : World} {v : Value} {L : List Cl} (h : RowAt base ok w v L) (h2 : ∀ k,v.ownBlock = some k → ok2 k) : RowAt base ok2 w v L := by
 obtain ⟨_,i1,o1,r1⟩ := h
 refine ⟨h2,i1,o1,r1.imp_ (fun x cs hq => ?_)⟩
 rw [k38_openM hq]
 exact k38_mkM _ _ _ _
/-- A slot's row,and one that began as it and is appended to. -/
structure Pr (base N0 : Nat) (ok : Nat → Prop) (w : World) (slot rv : Value) (L X : List Cl) : Prop where
 s : RowAt base ok w slot L
 r : RowAt base (fun _ => True) w rv X
 sh : rv.ownBlock = slot.ownBlock → X.take L.length = L
 fr : rv.ownBlock = slot.ownBlock ∨ ∀ k,rv.ownBlock = some k → N0 ≤ k
 lt : ∀ k,slot.ownBlock = some k → k < N0
theorem Pr.start {base N0 : Nat} {ok : Nat → Prop} {w : World} {slot : Value} {L : List Cl} (h : RowAt base ok w slot L) (hN : w.heap.size ≤ N0) : Pr base N0 ok w slot slot L L :=
 ⟨h,row_ok h (fun _ _ => trivial),fun _ => List.take_length,.inl rfl,fun k hk => by
  obtain ⟨A,c,rfl⟩ := Kd.R_slice h
  obtain ⟨_,i1,o1,_⟩ := h
  rcases o1.2 with ⟨hv,_⟩ | ⟨g1,k1,u1,hv,_,hh,_⟩
  ·rw [hv] at hk;cases hk
  ·rw [hv] at hk
   have hk : some g1 = some k := hk
   injection hk with hk
   subst hk
   have := blk_lt hh
   omega⟩
theorem own_gr {base g n c : Nat} {ok : Nat → Prop} {w : World} {v : Value} {L : List Cl} (h : RowAt base ok w v L) (hv : v.ownBlock = some g) : ∃ c,v = .slice (some ⟨g,0,none⟩) L.length c := by
 obtain ⟨A,c,rfl⟩ := Kd.R_slice h
 obtain ⟨_,i1,o1,_⟩ := h
 rcases o1.2 with ⟨hv2,_⟩ | ⟨g1,k1,u1,hv2,_,hh,_⟩
 ·rw [hv2] at hv;cases hv
 ·rw [hv2] at hv
  have hv : some g1 = some g := hv
  injection hv with hv
  subst hv
  exact ⟨k1,hv2⟩
/-- Behind an append to the one that began as the slot's. -/
theorem Pr.same {base N0 g : Nat} {ok : Nat → Prop} {w w1 : World} {slot rv v1 : Value} {L X : List Cl} {p : Cl} (h : Pr base N0 ok w slot rv L X) (hg : rv.ownBlock = some g) (hs : slot.ownBlock = some g) (h1 : RowAt base (fun _ => True) w1 v1 (X ++ [p])) (h2 : RowAt base (fun _ => True) w1 rv X) (hat : v1.ownBlock = some g ∨ ∃ b,v1.ownBlock = some b ∧ N0 ≤ b) : Pr base N0 ok w1 slot v1 L (X ++ [p]) := by
 obtain ⟨c,rfl⟩ := own_gr (n := 0) (c := 0) h.s hs
 obtain ⟨c2,rfl⟩ := own_gr (n := 0) (c := 0) h.r hg
 have hc := caps_eq h.s h.r
 subst hc
 have hX := h.sh (hg.trans hs.symm)
 have hle : L.length ≤ X.length := by
  have := congrArg List.length hX
  rw [List.length_take] at this
  omega
 have h3 := Kd.R_take h2 (m := L.length) hle
 rw [hX] at h3
 refine ⟨row_ok h3 (fun k hk => h.s.1 k hk),h1,fun he => ?_,?_,h.lt⟩
 ·rw [List.take_append_of_le_length hle];exact hX
 ·rcases hat with hat | ⟨b,hb,hN⟩
  ·exact .inl hat
  ·exact .inr (fun k hk => by rw [hb] at hk;injection hk with hk;omega)
theorem Pr.far {base N0 : Nat} {ok : Nat → Prop} {w w1 : World} {slot rv v1 : Value} {L X : List Cl} {p : Cl} (h : Pr base N0 ok w slot rv L X) (hf : ∀ k,rv.ownBlock = some k → N0 ≤ k) (hg : w.grownBy w1 rv.ownBlock) (h1 : RowAt base (fun _ => True) w1 v1 (X ++ [p])) (hat : v1.ownBlock = rv.ownBlock ∨ ∃ b,v1.ownBlock = some b ∧ N0 ≤ b) (hne : v1.ownBlock ≠ slot.ownBlock) : Pr base N0 ok w1 slot v1 L (X ++ [p]) := by
 refine ⟨Kd.R_grown2 h.s rfl hg (fun k hk he => ?_),h1,fun he => absurd he hne,?_,h.lt⟩
 ·have := hf k hk
  have := h.lt k he.symm
  omega
 ·rcases hat with hat | ⟨b,hb,hN⟩
  ·exact .inr (fun k hk => hf k (hat ▸ hk))
  ·exact .inr (fun k hk => by rw [hb] at hk;injection hk with hk;omega)
end Go.Proofs.YtgdpnmikcopkmaaDoor.U
end
section
namespace Go.Proofs.YtgdpnmikcopkmaaDoor.U
open Go.RowKit Go.Proofs.YtgdpnmikcopkmaaDoor.Mu Go.Proofs.YtgdpnmikcopkmaaDoor.Pu Go.Proofs.YtgdpnmikcopkmaaDoorW.PrintWords Go.Proofs.YtgdpnmikcopkmaaDoorW.PrintLast Go.Proofs.YtgdpnmikcopkmaaDoorW.PrintMore
set_option linter.unusedVariables false
set_option linter.unusedSimpArgs false
/-- A screen (its blocks below L) and two frames,each in a box (between L and N). -/
structure Fy (base pa L N : Nat) (O : Nat → Prop) (W w : World) (S : Sc × ByteArray) (FL : List (List Cl)) (bB bK q2 q3 : Nat) (vb vk : Value) : Prop where
 scr : Scr base pa O w S
 bs : N ≤ w.heap.size
 below : Below base W w
 b : Kd.S kRow 36 w bB (fun k => L ≤ k ∧ k < N) vb FL
 k : Kd.S kRow 36 w bK (fun k => L ≤ k ∧ k < N) vk FL
 x2 : w.heap[q2]? = some (.cells #[.int .i64 S.1.w,vb,.int .i64 S.1.r,.int .i64 S.1.c] 26 (0,0))
 x3 : w.heap[q3]? = some (.cells #[.int .i64 S.1.w,vk,.int .i64 S.1.r,.int .i64 S.1.c] 26 (0,0))
 lt : pa < L ∧ (∀ k,O k → k < L) ∧ base ≤ L ∧ L ≤ N ∧ (L ≤ q2 ∧ q2 < N) ∧ L ≤ q3 ∧ q3 < N
section
variable {base pa L N bB bK q2 q3 : Nat} {O O' : Nat → Prop} {W w w1 : World} {S : Sc × ByteArray} {FL : List (List Cl)} {vb vk : Value}
theorem Fy.kept (h : Fy base pa L N O W w S FL bB bK q2 q3 vb vk) {T : Nat → Prop} (hk : Kept w w1 T) (hT : ∀ k,T k → k < L ∨ N ≤ k) (hB : Below base w w1) (hs : Scr base pa O w1 S) : Fy base pa L N O W w1 S FL bB bK q2 q3 vb vk := by
 obtain ⟨l1,l2,l3,l4,l5,l6,l7⟩ := h.lt
 exact ⟨hs,Nat.le_trans h.bs hk.1,h.below.trans hB,Kd.S_kept h.b hk (fun k h1 h2 => by rcases hT k h2 with h3 | h3 <;> omega),Kd.S_kept h.k hk (fun k h1 h2 => by rcases hT k h2 with h3 | h3 <;> omega),
  blk_kept h.x2 hk (fun h2 => by rcases hT q2 h2 with h3 | h3 <;> omega),blk_kept h.x3 hk (fun h2 => by rcases hT q3 h2 with h3 | h3 <;> omega),h.lt⟩
theorem Fy.made (h : Fy base pa L N O W w S FL bB bK q2 q3 vb vk) (hm : Made base pa O O w w1 S) : Fy base pa L N O W w1 S FL bB bK q2 q3 vb vk := by
 obtain ⟨l1,l2,l3,l4,l5,l6,l7⟩ := h.lt
 exact h.kept hm.kept (fun k hk => .inl (hk.elim (l2 k) (fun h => by omega))) hm.below hm.scr
theorem Scr.keeps (h : Scr base pa O w S) {T : Nat → Prop} (hk : Kept w w1 T) (hT : ∀ k,T k → ¬ O k ∧ k ≠ pa) : Scr base pa O w1 S := by
 obtain ⟨⟨⟨rv,h1,h3⟩,h4,h5⟩,h6⟩ := h
 exact ⟨⟨⟨rv,blk_kept h1 hk (fun h2 => (hT _ h2).2 rfl),Kd.S_kept h3 hk (fun k ho h2 => (hT _ h2).1 ho)⟩,h4,h5⟩,fun k ho => Nat.lt_of_lt_of_le (h6 k ho) hk.1⟩
theorem Fy.above (h : Fy base pa L N O W w S FL bB bK q2 q3 vb vk) {T : Nat → Prop} (hk : Kept w w1 T) (hT : ∀ k,T k → N ≤ k) (hB : Below base w w1) : Fy base pa L N O W w1 S FL bB bK q2 q3 vb vk := by
 obtain ⟨l1,l2,l3,l4,l5,l6,l7⟩ := h.lt
 exact h.kept hk (fun k h1 => .inr (hT k h1)) hB (h.scr.keeps hk (fun k h1 => by have h2 := hT k h1;exact ⟨fun ho => by have := l2 k ho;omega,by omega⟩))
theorem Fy.more (h : Fy base pa L N O W w S FL bB bK q2 q3 vb vk) (hb : Below w.heap.size w w1) : Fy base pa L N O W w1 S FL bB bK q2 q3 vb vk := by
 obtain ⟨l1,l2,l3,l4,l5,l6,l7⟩ := h.lt
 have := h.bs
 exact h.above (Kept.of_below hb (fun _ => False)) (fun k hk => hk.elim) (hb.mono (by omega))
theorem Fy.apart (h : Fy base pa L N O W w S FL bB bK q2 q3 vb vk) {pc : Nat} {Oc : Nat → Prop} (hc : N ≤ pc) (hO : ∀ k,Oc k → N ≤ k) : Apart pa O pc Oc := by
 obtain ⟨l1,l2,l3,l4,l5,l6,l7⟩ := h.lt
 exact ⟨by omega,fun h => by have := l2 _ h;omega,fun h => by have := hO _ h;omega,fun k h1 h2 => by have := l2 _ h1;have := hO _ h2;omega⟩
end
theorem nrows_le {s : Sc} (h : s.Ok) : s.nrows ≤ s.h := by
 unfold Sc.nrows
 have h1 := lastN_le s.rows s.rows.length
 have h2 := h.rl
 have h3 := h.rh
 omega
theorem frameN_nrows {s : Sc} (h : s.Ok) : s.frameN s.nrows = s.nrows := by
 have h1 := nrows_le h
 have h2 : 1 ≤ s.nrows := by unfold Sc.nrows;omega
 unfold Sc.frameN
 omega
section
variable {base p : Nat} {O : Nat → Prop} {w : World} {S : Sc × ByteArray}
end
end Go.Proofs.YtgdpnmikcopkmaaDoor.U
end
section
namespace Go.Proofs.YtgdpnmikcopkmaaDoor.U
open Go.RowKit Go.Proofs.YtgdpnmikcopkmaaDoor.Mu Go.Proofs.YtgdpnmikcopkmaaDoor.Pu Go.Proofs.YtgdpnmikcopkmaaDoorW.PrintWords Go.Proofs.YtgdpnmikcopkmaaDoorW.PrintLast Go.Proofs.YtgdpnmikcopkmaaDoorW.PrintMore
set_option linter.unusedVariables false
set_option linter.unusedSimpArgs false
theorem EqvS.many {S T : Sc × ByteArray} (h : EqvS S T) (b : ByteArray) : ∀ n,EqvS (feedI S b n) (feedI T b n)
 | 0 => h
 | n + 1 => (EqvS.many h b n).feed b
section
variable {base p : Nat} {O : Nat → Prop} {w : World} {S S2 : Sc × ByteArray}
end
end Go.Proofs.YtgdpnmikcopkmaaDoor.U
end
section
namespace Go.Proofs.YtgdpnmikcopkmaaDoor.U
open Go.RowKit Go.Proofs.YtgdpnmikcopkmaaDoor.Mu Go.Proofs.YtgdpnmikcopkmaaDoor.Pu Go.Proofs.YtgdpnmikcopkmaaDoorW.PrintWords Go.Proofs.YtgdpnmikcopkmaaDoorW.PrintLast Go.Proofs.YtgdpnmikcopkmaaDoorW.PrintMore
set_option linter.unusedVariables false
set_option linter.unusedSimpArgs false
theorem Eqv.symm {s t : Sc} (h : Eqv s t) : Eqv t s := by
 obtain ⟨R,L,C,rfl,hm,hg⟩ := h
 exact ⟨s.rows,s.lr,s.lc,rfl,fun hq => ⟨(hm hq).1.symm,(hm hq).2.symm⟩,fun i => (hg i).symm⟩
theorem EqvS.symm {S T : Sc × ByteArray} (h : EqvS S T) : EqvS T S := ⟨h.s.symm,h.held.symm,h.o2,h.o1⟩
end Go.Proofs.YtgdpnmikcopkmaaDoor.U
end
section
namespace Go.Proofs.YtgdpnmikcopkmaaDoor.U
open Go.RowKit Go.Proofs.YtgdpnmikcopkmaaDoor.Mu Go.Proofs.YtgdpnmikcopkmaaDoor.Pu Go.Proofs.YtgdpnmikcopkmaaDoorW.PrintWords Go.Proofs.YtgdpnmikcopkmaaDoorW.PrintLast Go.Proofs.YtgdpnmikcopkmaaDoorW.PrintMore
set_option linter.unusedVariables false
set_option linter.unusedSimpArgs false
/-- What is seen of a row. -/
theorem rd_gC (row : List Cl) (n : Nat) : rd_T38 row (n : Int) = gC row n := rfl
theorem trimN_next (row : List Cl) : ∀ n j,trimN row n ≤ j → j < n → isBl (gC row j) = true
 | 0,j,_,h => absurd h (Nat.not_lt_zero j)
 | n + 1,j,h1,h2 => by
  unfold trimN at h1
  rw [rd_gC] at h1
  split at h1
  ·rename_i h
   by_cases e : j = n
   ·rw [e];exact h
   ·exact trimN_next row n j h1 (by omega)
  ·omega
end Go.Proofs.YtgdpnmikcopkmaaDoor.U
end
section
namespace Go.Proofs.YtgdpnmikcopkmaaDoor.U
open Go.RowKit Go.Proofs.YtgdpnmikcopkmaaDoorW.PrintWords Go.Proofs.YtgdpnmikcopkmaaDoorW.PrintLast Go.Proofs.YtgdpnmikcopkmaaDoorW.PrintMore
attribute [local go_sem] max2_int min2_int max_two min_two max_three min_three max_four min_four   -- for this text's walks alone
set_option linter.unusedVariables false
set_option linter.unusedSimpArgs false
def bodkinlaw22_unblank.l0 : Nat → ByteArray → List Int → Int → Int → Option (ByteArray)
 | 0,_,_,_,_ => none
 | k + 1,x0,x3,x6,x7 => if x7 < x6 then (if 0 ≤ x7 then (if x7 < (x0.size : Int) then (if (bt x0 x7) = 32 then (bodkinlaw22_unblank.l0 k x0 x3 x6 (wrap64 (x7 + 1))) else (if x3.length < 140737488355328 then (bodkinlaw22_unblank.l0 k x0 (x3 ++ [bt x0 x7]) x6 (wrap64 (x7 + 1))) else (none))) else (none)) else (none)) else (some (strOfNums x3))
def bodkinlaw22_unblank.f (k : Nat) (a0 : ByteArray) : Option (ByteArray) := bodkinlaw22_unblank.l0 k a0 ([] : List Int) (a0.size : Int) 0
set_option maxHeartbeats 8000000 in
set_option maxRecDepth 100000 in
theorem bodkinlaw22_unblank.calls (k : Nat) (a0 : ByteArray) (r : ByteArray) (w : World) (h : bodkinlaw22_unblank.f k a0 = some r) :
  Calls Tryd.prog 37 #[.string a0] w fun e w' => e = .returned (.string r) ∧ Below w.heap.size w w' := by
 have HB := Aside0.mk (Below.refl w.heap.size w)
 have H : (bodkinlaw22_unblank.l0 k a0 ([] : List Int) (a0.size : Int) 0) = some r := h
 clear h
 have H' := Aside0.mk H
 clear H
 go_enter Tryd.func37,Tryd.ntmps37
 go_wp2
 go_loopg [3,7] k (fun kq v3 v7 w' => ∃ (x3_1 : List Int) (x7_1 : Int),v7 = .int .i64 x7_1 ∧ Aside0 (bodkinlaw22_unblank.l0 kq a0 x3_1 (a0.size : Int) x7_1 = some r) ∧ Aside0 (kq ≤ k) ∧ Aside0 (Kd.R (Kd.int .u8) 5 w' w.heap.size (fun _ => True) v3 x3_1) ∧ Aside0 (Below w.heap.size w w'))
 case atStart => exact ⟨(([] : List Int)),(0),au7,H',⟨Nat.le_refl _⟩,⟨by first | exact Kd.R_nil _ _ _ _ _ | exact Kd.N_nil _ _ _ _ _ | exact Kd.V_nil _ _ _ _ _ | exact Kd.Q_nil _ _ _ _ _ | exact Kd.S_nil _ _ _ _ _⟩,⟨au0⟩⟩
 case round =>
  clear H'
  obtain ⟨x3_1,x7_1,rfl,HA,HK1,HO_3,HB⟩ := hrel
  cases gk with
  | zero => exact absurd HA.out (by simp [bodkinlaw22_unblank.l0])
  | succ k1 =>
   have H := HA.out
   clear HA
   simp only [bodkinlaw22_unblank.l0] at H
   by_cases c2 : x7_1 < (a0.size : Int)
   ·rw [if_pos c2] at H
    have c2b0 : decide (x7_1 < (a0.size : Int)) = true := decide_eq_true c2
    clear c2
    by_cases c3 : 0 ≤ x7_1
    ·rw [if_pos c3] at H
     have c3b0 : decide (0 ≤ x7_1) = true := decide_eq_true c3
     clear c3
     by_cases c4 : x7_1 < (a0.size : Int)
     ·rw [if_pos c4] at H
      have c4b0 : decide (x7_1 < (a0.size : Int)) = true := decide_eq_true c4
      clear c4
      by_cases c6 : (bt a0 x7_1) = 32
      ·rw [if_pos c6] at H
       have c6b0 : ((bt a0 x7_1) == 32) = true := beq_iff_eq.mpr c6
       have c6b1 : ((bt a0 x7_1) != 32) = false := bne_eq_false_iff_eq.mpr c6
       clear c6
       have H' := Aside0.mk H
       clear H
       have p5 : 0 ≤ (x7_1 : Int) := of_decide_eq_true au8
       have q5 : x7_1 < (a0.size : Int) := of_decide_eq_true au8
       have hx5 := bt_at a0 x7_1
       replace p5 := eq_true p5
       replace q5 := eq_true q5
       go_wp2
       go_roundg k1
       case measure => have := HK1.out;omega
       case rel => exact ⟨(x3_1),(wrap64 (x7_1 + 1)),au7,H',⟨by have := HK1.out;omega⟩,⟨by (with_reducible repeat (first | apply Kd.R_alloc | apply Kd.R_drewN | apply Kd.R_drew));exact HO_3.out⟩,⟨au0⟩⟩
      ·rw [if_neg c6] at H
       have c6b0 : ((bt a0 x7_1) == 32) = false := beq_eq_false_iff_ne.mpr c6
       have c6b1 : ((bt a0 x7_1) != 32) = true := bne_iff_ne.mpr c6
       by_cases c8 : x3_1.length < 140737488355328
       ·rw [if_pos c8] at H
        have LMc8 := Aside0.mk c8
        clear c8
        obtain ⟨y309,hy309⟩ : ∃ y_ : List Int,y_ = (x3_1 ++ [bt a0 x7_1]) := ⟨_,rfl⟩
        replace H : (bodkinlaw22_unblank.l0 k1 a0 y309 (a0.size : Int) (wrap64 (x7_1 + 1))) = some r := by first | (rw [hy309];with_reducible exact H) | (have H2_ := (Option.bind_some _ _).symm.trans H;rw [hy309];with_reducible exact H2_) | (have H2_ := (Option.bind_some _ _).symm.trans H;with_reducible exact H2_) | with_reducible exact H | (rw [hy309];exact H) | exact H
        have Ny309 := Aside0.mk hy309
        clear hy309
        have H' := Aside0.mk H
        clear H
        have p5 : 0 ≤ (x7_1 : Int) := of_decide_eq_true au8
        have q5 : x7_1 < (a0.size : Int) := of_decide_eq_true au8
        have hx5 := bt_at a0 x7_1
        replace p5 := eq_true p5
        replace q5 := eq_true q5
        have p7 : 0 ≤ (x7_1 : Int) := of_decide_eq_true au8
        have q7 : x7_1 < (a0.size : Int) := of_decide_eq_true au8
        have hx7 := bt_at a0 x7_1
        replace p7 := eq_true p7
        replace q7 := eq_true q7
        go_wp2_with (first | ((with_reducible refine gate_builtin (b := .append) (xs := #[.tmp 14,.tmp 18]) rfl ?_);at_builtin;refine Kd.R_append (Kd.int .u8) (w0 := w) w.heap.size rfl (.tmp 14) (.tmp 18) 40 5 (.int .u8 0) 1 rfl Tryd.underlying40 info5 rfl (by decide) (by omega) u3 x3_1 (bt a0 x7_1) [.int .u8 (bt a0 x7_1)] (fun _ => True) (fun _ => False) rfl rfl ?aP (fun _ hk => hk.elim) ?aF ?aO ?aB ?aS ?aL ?_;(case aP => exact rfl);(case aB => exact au0);(case aF => exact (fun _ _ => trivial));(case aO => exact (by (with_reducible repeat (first | apply Kd.R_alloc | apply Kd.R_drewN | apply Kd.R_drew));exact HO_3.out));(case aS => exact (below_size au0));(case aL => have := LMc8.out;omega);intro v310 w9 ho hb hg hat;rw [← Ny309.out] at ho;have n0_ := Aside0.mk (hb);have n1_ := Aside0.mk (ho);clear HB;clear HO_3;have HB := n0_;have HO311 := n1_;clear n0_ n1_;clear ho hb hg hat))
        go_roundg k1
        case measure => have := HK1.out;omega
        case rel => exact ⟨(y309),(wrap64 (x7_1 + 1)),au7,H',⟨by have := HK1.out;omega⟩,⟨by (with_reducible repeat (first | apply Kd.R_alloc | apply Kd.R_drewN | apply Kd.R_drew));exact HO311.out⟩,⟨au0⟩⟩
       ·rw [if_neg c8] at H
        exact absurd H (by simp)
     ·rw [if_neg c4] at H
      exact absurd H (by simp)
    ·rw [if_neg c3] at H
     exact absurd H (by simp)
   ·rw [if_neg c2] at H
    have c2b0 : decide (x7_1 < (a0.size : Int)) = false := decide_eq_false c2
    clear c2
    obtain rfl := Option.some.inj H
    have hcv10 := own_string (P := Tryd.prog) Tryd.underlying40 Tryd.underlying5 Tryd.underlying9 (Kd.own_of_R HO_3.out)
    go_wp2
    go_ret
    exact ⟨au2,au0⟩
end Go.Proofs.YtgdpnmikcopkmaaDoor.U
end
