/- What the law ScreenTypes reaches of this seat's own texts, merged; what nothing uses is left out. -/
import Derived.Test.YtgdpnmikcopkmaaDoorZScreenTypes0
import Derived.Test.YtgdpnmikcopkmaaDoorZScreenTypes1
import Derived.Test.YtgdpnmikcopkmaaDoorZScreenTypes4
section
namespace Go.Proofs.YtgdpnmikcopkmaaDoor.U
open Go.RowKit Go.Proofs.YtgdpnmikcopkmaaDoor.Pu Go.Proofs.YtgdpnmikcopkmaaDoorW.PrintWords Go.Proofs.YtgdpnmikcopkmaaDoorW.PrintLast Go.Proofs.YtgdpnmikcopkmaaDoorW.PrintMore
set_option linter.unusedVariables false
set_option linter.unusedSimpArgs false
/-- Are the first n rows of the frame the screen's? -/
def allEq (L rows : List (List Cl)) : Nat → Bool
 | 0 => true
 | n + 1 => allEq L rows n && eqR (L.getD n []) (trimR (rows.getD n []))
theorem allEq_false {L rows : List (List Cl)} {i : Nat} (h : eqR (L.getD i []) (trimR (rows.getD i [])) = false) : ∀ n,i < n → allEq L rows n = false
 | 0,hi => by omega
 | n + 1,hi => by
  unfold allEq
  rcases Nat.lt_or_ge i n with h2 | h2
  ·rw [allEq_false h n h2];rfl
  ·have : i = n := by omega
   subst this
   rw [h,Bool.and_false]
theorem place_eq (d : Nat) (w : World) (x0 y0 x1 y1 : Int) :
  (Op.equalIn (d + 2) 24 (.agg #[.int .i64 x0,.int .i64 x1]) (.agg #[.int .i64 y0,.int .i64 y1])).run Tryd.prog w = .ok (x0 == y0 && (x1 == y1)) w := by
 refine eqA_of Tryd.underlying24 (by kernel_rfl) ?_
 refine eqf_cons (by rfl) (by go_simp;rfl) (by go_simp;rfl) (by go_simp) ?_
 exact eqf_last (by rfl) (by go_simp;rfl) (by go_simp;rfl) (by go_simp)
attribute [local go_sem high] place_eq
def sh1.T : Bool × List (List Nat × List Nat) := (true,[([],[]),([0],[0]),([1],[1]),([2,1],[2]),([3],[3]),([4,3],[3,4]),([3],[3]),([6,3],[3,6]),([7,3],[3,7]),([8,3],[3,8]),([5,9,3],[3,5,9]),([3,10],[3,10]),([11,3],[11]),([12],[12]),([13,12],[12,13]),([14,12],[12,14]),([15,12],[12,15]),([12,16],[12,16]),([17,12],[17]),([18],[18]),([19,18],[18,19]),([20,18],[18,20]),([18],[18]),([22,18],[18,22]),([23,18],[18,23]),([24,18],[18,24]),([21,25,18],[18,21,25]),([18,26],[18,26]),([27,18],[27]),([28],[28]),([29,28,28],[28,29]),([28],[28]),([31,28],[28,31]),([32,28],[28,32]),([30,33,28],[28,30,33]),([28,34],[28,34]),([35,30],[35]),([36],[36]),([37,36],[36,37]),([36],[36]),([39,36],[36,39]),([40,36],[36,40]),([41,36],[36,41]),([38,42,36],[36,38,42]),([36,43],[36,43])])
def sh1.B : List Nat := [0,1,3,7,15,31,15,79,207,463,1023,2047,4095,8191,16383,32767,65535,131071,262143,524287,1048575,2097151,524287,4718591,13107199,29884415,67108863,134217727,268435455,536870911,1073741823,536870911,2684354559,6979321855,17179869183,34359738367,68719476735,137438953471,274877906943,137438953471,687194767359,1786706395135,3985729650687,8796093022207,17592186044415]
theorem sh1.tab : rtab .any (opsOf Tryd.f18 1) = sh1.T := by kernel_rfl
theorem sh1.bits : waitsOk sh1.T.2 sh1.B = true := by kernel_rfl
set_option maxRecDepth 100000 in
set_option maxHeartbeats 8000000 in
theorem sc_shows {base p : Nat} {ok : Nat → Prop} {W : World} {s : Sc} {hd : ByteArray} (h : ScrAt base p ok W s hd) (hb : base ≤ W.heap.size) (hO : s.Ok) (fw fr fc : Int) (FA : Option Addr) (fcap : Nat) (FL : List (List Cl))
  (hF : ∀ w,Kept W w (fun k => (ok k ∧ k < W.heap.size) ∨ k = p) → Kd.C kRow w FA FL.length FL) (hFc : FL.length ≤ fcap) (hFl : ∀ row ∈ FL,row.length ≤ 1099511627776) (m1 : fw = s.w) (m2 : 1 ≤ FL.length) (m3 : FL.length ≤ s.h) (m4 : s.nrows ≤ FL.length) (m5 : fr = s.r) (m6 : fc = s.c) :
  Calls Tryd.prog 18 #[.pointer (some ⟨p,0,none⟩),.agg #[.int .i64 fw,.slice FA FL.length fcap,.int .i64 fr,.int .i64 fc]] W fun e w' => e = .returned (.bool (allEq FL s.rows FL.length)) ∧ Stp base p (fun k => ok k ∧ k < W.heap.size) W w' s hd := by
 have o1 := hO.h1
 have o2 := hO.w2
 have o4 := hO.h2
 have o5 := hO.rl
 have hcl : ∀ row ∈ s.rows,row.length ≤ 65535 := fun row hq => Nat.le_trans (hO.cl row hq) o2
 have hpl := h.lt
 have M1 := Lib.hid m1
 have M5 := Lib.hid m5
 have M6 := Lib.hid m6
 clear m1 m5 m6
 go_enter Tryd.func18,Tryd.ntmps18
 have hs0 := (Stp.start h.bound).more (below_alloc (Below.refl _ W) (.cells #[.int .i64 fw,.slice FA FL.length fcap,.int .i64 fr,.int .i64 fc] 26 (0,0))) hb
 have hq0 := World.alloc_heap_new W (.cells #[.int .i64 fw,.slice FA FL.length fcap,.int .i64 fr,.int .i64 fc] 26 (0,0))
 go_upto_region 1 with (fail)
 generalize W.alloc (.cells #[.int .i64 fw,.slice FA FL.length fcap,.int .i64 fr,.int .i64 fc] 26 (0,0)) = w0 at hs0 hq0 ⊢
 generalize hqe : W.heap.size = q at hq0 ⊢
 have hqW : q = W.heap.size := hqe.symm
 have hqH : W.heap.size ≤ q := by omega
 have hqp : p < q := by omega
 clear hqe hqW
 obtain ⟨rv,⟨z0,z1,_,z3,z4,_⟩,_⟩ := hs0.at_.cells
 have q1 : (fw != (s.w : Int)) = false := by rw [M1.out];simp
 have q2 := eq_false (show ¬ (FL.length : Int) < 1 by omega)
 have q3 := eq_false (show ¬ (s.h : Int) < (FL.length : Int) by omega)
 have q4 := eq_false (show ¬ (FL.length : Int) < (s.nrows : Int) by omega)
 have q5 : (fr == (s.r : Int)) = true := by rw [M5.out];simp
 have q6 : (fc == (s.c : Int)) = true := by rw [M6.out];simp
 refine start_ (n := 45) (S := fun w' => w'.cell? ⟨p,0,none⟩ = some (.int .i64 s.w) ∧ w'.cell? ⟨p,1,none⟩ = some (.int .i64 s.h) ∧ w'.cell? ⟨p,3,none⟩ = some (.int .i64 s.r) ∧ w'.cell? ⟨p,4,none⟩ = some (.int .i64 s.c) ∧ w'.cell? ⟨q,0,none⟩ = some (.int .i64 fw) ∧ w'.cell? ⟨q,1,none⟩ = some (.slice FA FL.length fcap) ∧ w'.cell? ⟨q,2,none⟩ = some (.int .i64 fr) ∧ w'.cell? ⟨q,3,none⟩ = some (.int .i64 fc)) (ds := []) #[false,false,false,false,false,false,false,false,false,false,false,false,false,false,false,false,false,false,false,false,false,false,false,false,false,false,false,false,false,false,false,false,false,false,false,false,false,false,false,false,false,false,false,false,false] (by kernel_rfl) rfl rfl ⟨z0,z1,z3,z4,blk_cell hq0 0,blk_cell hq0 1,blk_cell hq0 2,blk_cell hq0 3⟩ (fun hHeld => ?_);refine with_tabW sh1.tab sh1.bits (fun HT_ HW_ => ?_)
 have hs1 := hs0.more (below_drew (Below.refl _ _)) hb
 have hq1 : w0.drew.heap[q]? = _ := hq0
 generalize w0.drew = w1 at hs1 hq1 hHeld ⊢
 clear hs0 hq0 z0 z1 z3 z4
 refine pure_ (i := 0) (N := (some 7)) (v := ?_) (a' := ?_) #[true,false,false,false,false,false,false,false,false,false,false,false,false,false,false,false,false,false,false,false,false,false,false,false,false,false,false,false,false,false,false,false,false,false,false,false,false,false,false,false,false,false,false,false,false] rfl rfl (any_of HT_.out (by kernel_rfl)) (fun _ _ _ h => h) (Or.inl ⟨by rfl,?_⟩) ?_ ?_
 rotate_left
 ·intro w'
  go_simp
  with_reducible rfl
 rotate_left
 ·simp only [Act.put,List.setIfInBounds_toArray,List.set_cons_zero,List.set_cons_succ,i64_w,i32_w]
  rfl
 refine one_ (i := 1) (N := (some 8)) #[true,true,false,false,false,false,false,false,false,false,false,false,false,false,false,false,false,false,false,false,false,false,false,false,false,false,false,false,false,false,false,false,false,false,false,false,false,false,false,false,false,false,false,false,false] rfl rfl (one_of HT_.out (by kernel_rfl)) (by decide) (fun K hK => ?_)
 refine call_ 42 #[.pointer (some ⟨p,0,none⟩)] (by rfl) rfl au10 ?_
 refine (sc_ready hs1.at_ (hs1.bs hb)).mono ?_
 rintro e w2 ⟨rfl,hs2⟩
 rw [rdy_ok hO] at hs2
 have hq2 := hs2.keeps hq1 (fun hk => by have := hk.2;omega) (by omega)
 have hs2 := hs1.then_ hs2
 obtain ⟨rv,⟨c0,c1,_,c3,c4,_⟩,_⟩ := hs2.at_.cells
 refine ⟨_,rfl,hK.out _ _ ⟨c0,c1,c3,c4,blk_cell hq2 0,blk_cell hq2 1,blk_cell hq2 2,blk_cell hq2 3⟩ (fun hHeld => ?_)⟩
 clear hK K hs1 hq1 c0 c1 c3 c4
 refine norm_ (a' := ?_) ?_ ?_
 rotate_left
 ·show Act.put _ (some 8) _ = _
  simp only [Act.put,List.setIfInBounds_toArray,List.set_cons_zero,List.set_cons_succ,i64_w,i32_w]
  rfl
 refine pure_ (i := 2) (N := (some 9)) (v := ?_) (a' := ?_) #[true,true,true,false,false,false,false,false,false,false,false,false,false,false,false,false,false,false,false,false,false,false,false,false,false,false,false,false,false,false,false,false,false,false,false,false,false,false,false,false,false,false,false,false,false] rfl rfl (any_of HT_.out (by kernel_rfl)) (fun _ _ _ h => h) (Or.inl ⟨by rfl,?_⟩) ?_ ?_
 rotate_left
 ·intro w'
  go_simp
  with_reducible rfl
 rotate_left
 ·simp only [Act.put,List.setIfInBounds_toArray,List.set_cons_zero,List.set_cons_succ,i64_w,i32_w]
  rfl
 refine pure_ (i := 3) (N := (some 10)) (v := ?_) (a' := ?_) #[true,true,true,true,false,false,false,false,false,false,false,false,false,false,false,false,false,false,false,false,false,false,false,false,false,false,false,false,false,false,false,false,false,false,false,false,false,false,false,false,false,false,false,false,false] rfl rfl (any_of HT_.out (by kernel_rfl)) (fun _ _ _ h => h) (Or.inl ⟨by rfl,?_⟩) ?_ ?_
 rotate_left
 ·intro w'
  go_simp
  with_reducible rfl
 rotate_left
 ·simp only [Act.put,List.setIfInBounds_toArray,List.set_cons_zero,List.set_cons_succ,i64_w,i32_w]
  rfl
 refine pure_ (i := 4) (N := (some 11)) (v := ?_) (a' := ?_) #[true,true,true,true,true,false,false,false,false,false,false,false,false,false,false,false,false,false,false,false,false,false,false,false,false,false,false,false,false,false,false,false,false,false,false,false,false,false,false,false,false,false,false,false,false] rfl rfl (any_of HT_.out (by kernel_rfl)) (fun _ _ _ h => h) (Or.inl ⟨by rfl,?_⟩) ?_ ?_
 rotate_left
 ·intro w'
  go_simp
  with_reducible rfl
 rotate_left
 ·simp only [Act.put,List.setIfInBounds_toArray,List.set_cons_zero,List.set_cons_succ,i64_w,i32_w]
  rfl
 refine take_ (i := 5) (N := (some 12)) (v := ?_) (a' := ?_) #[true,true,true,true,true,true,false,false,false,false,false,false,false,false,false,false,false,false,false,false,false,false,false,false,false,false,false,false,false,false,false,false,false,false,false,false,false,false,false,false,false,false,false,false,false] rfl rfl (take_ofW HT_.out HW_.out (by kernel_rfl)) (fun _ _ _ h => h) (Or.inl ⟨by rfl,?_⟩) hHeld ?_ ?_
 rotate_left
 ·rintro w' ⟨s1,s2,s3,s4,s5,s6,s7,s8⟩
  go_simp
  with_reducible rfl
 rotate_left
 ·simp only [Act.put,List.setIfInBounds_toArray,List.set_cons_zero,List.set_cons_succ,i64_w,i32_w]
  rfl
 refine pure_ (i := 6) (N := (some 13)) (v := ?_) (a' := ?_) #[true,true,true,true,true,true,true,false,false,false,false,false,false,false,false,false,false,false,false,false,false,false,false,false,false,false,false,false,false,false,false,false,false,false,false,false,false,false,false,false,false,false,false,false,false] rfl rfl (any_of HT_.out (by kernel_rfl)) (fun _ _ _ h => h) (Or.inl ⟨by rfl,?_⟩) ?_ ?_
 rotate_left
 ·intro w'
  go_simp
  with_reducible rfl
 rotate_left
 ·simp only [Act.put,List.setIfInBounds_toArray,List.set_cons_zero,List.set_cons_succ,i64_w,i32_w]
  rfl
 refine pure_ (i := 7) (N := (some 14)) (v := ?_) (a' := ?_) #[true,true,true,true,true,true,true,true,false,false,false,false,false,false,false,false,false,false,false,false,false,false,false,false,false,false,false,false,false,false,false,false,false,false,false,false,false,false,false,false,false,false,false,false,false] rfl rfl (any_of HT_.out (by kernel_rfl)) (fun _ _ _ h => h) (Or.inl ⟨by rfl,?_⟩) ?_ ?_
 rotate_left
 ·intro w'
  go_simp
  with_reducible rfl
 rotate_left
 ·simp only [Act.put,List.setIfInBounds_toArray,List.set_cons_zero,List.set_cons_succ,i64_w,i32_w]
  rfl
 refine pure_ (i := 8) (N := (some 15)) (v := ?_) (a' := ?_) #[true,true,true,true,true,true,true,true,true,false,false,false,false,false,false,false,false,false,false,false,false,false,false,false,false,false,false,false,false,false,false,false,false,false,false,false,false,false,false,false,false,false,false,false,false] rfl rfl (any_of HT_.out (by kernel_rfl)) (fun _ _ _ h => h) (Or.inl ⟨by rfl,?_⟩) ?_ ?_
 rotate_left
 ·intro w'
  go_simp
  with_reducible rfl
 rotate_left
 ·simp only [Act.put,List.setIfInBounds_toArray,List.set_cons_zero,List.set_cons_succ,i64_w,i32_w]
  rfl
 refine take_ (i := 9) (N := (some 16)) (v := ?_) (a' := ?_) #[true,true,true,true,true,true,true,true,true,true,false,false,false,false,false,false,false,false,false,false,false,false,false,false,false,false,false,false,false,false,false,false,false,false,false,false,false,false,false,false,false,false,false,false,false] rfl rfl (take_ofW HT_.out HW_.out (by kernel_rfl)) (fun _ _ _ h => h) (Or.inl ⟨by rfl,?_⟩) hHeld ?_ ?_
 rotate_left
 ·rintro w' ⟨s1,s2,s3,s4,s5,s6,s7,s8⟩
  go_simp
  with_reducible rfl
 rotate_left
 ·simp only [Act.put,List.setIfInBounds_toArray,List.set_cons_zero,List.set_cons_succ,i64_w,i32_w]
  rfl
 refine pure_ (i := 10) (N := (some 17)) (v := ?_) (a' := ?_) #[true,true,true,true,true,true,true,true,true,true,true,false,false,false,false,false,false,false,false,false,false,false,false,false,false,false,false,false,false,false,false,false,false,false,false,false,false,false,false,false,false,false,false,false,false] rfl rfl (any_of HT_.out (by kernel_rfl)) (fun _ _ _ h => h) (Or.inl ⟨by rfl,?_⟩) ?_ ?_
 rotate_left
 ·intro w'
  go_simp
  with_reducible rfl
 rotate_left
 ·simp only [Act.put,List.setIfInBounds_toArray,List.set_cons_zero,List.set_cons_succ,i64_w,i32_w]
  rfl
 refine pure_ (i := 11) (N := (some 18)) (v := ?_) (a' := ?_) #[true,true,true,true,true,true,true,true,true,true,true,true,false,false,false,false,false,false,false,false,false,false,false,false,false,false,false,false,false,false,false,false,false,false,false,false,false,false,false,false,false,false,false,false,false] rfl rfl (any_of HT_.out (by kernel_rfl)) (fun _ _ _ h => h) (Or.inl ⟨by rfl,?_⟩) ?_ ?_
 rotate_left
 ·intro w'
  go_simp
  with_reducible rfl
 rotate_left
 ·simp only [Act.put,List.setIfInBounds_toArray,List.set_cons_zero,List.set_cons_succ,i64_w,i32_w]
  rfl
 refine pure_ (i := 12) (N := (some 19)) (v := ?_) (a' := ?_) #[true,true,true,true,true,true,true,true,true,true,true,true,true,false,false,false,false,false,false,false,false,false,false,false,false,false,false,false,false,false,false,false,false,false,false,false,false,false,false,false,false,false,false,false,false] rfl rfl (any_of HT_.out (by kernel_rfl)) (fun _ _ _ h => h) (Or.inl ⟨by rfl,?_⟩) ?_ ?_
 rotate_left
 ·intro w'
  go_simp
  with_reducible rfl
 rotate_left
 ·simp only [Act.put,List.setIfInBounds_toArray,List.set_cons_zero,List.set_cons_succ,i64_w,i32_w]
  rfl
 refine pure_ (i := 13) (N := (some 20)) (v := ?_) (a' := ?_) #[true,true,true,true,true,true,true,true,true,true,true,true,true,true,false,false,false,false,false,false,false,false,false,false,false,false,false,false,false,false,false,false,false,false,false,false,false,false,false,false,false,false,false,false,false] rfl rfl (any_of HT_.out (by kernel_rfl)) (fun _ _ _ h => h) (Or.inl ⟨by rfl,?_⟩) ?_ ?_
 rotate_left
 ·intro w'
  go_simp
  with_reducible rfl
 rotate_left
 ·simp only [Act.put,List.setIfInBounds_toArray,List.set_cons_zero,List.set_cons_succ,i64_w,i32_w]
  rfl
 refine take_ (i := 14) (N := (some 21)) (v := ?_) (a' := ?_) #[true,true,true,true,true,true,true,true,true,true,true,true,true,true,true,false,false,false,false,false,false,false,false,false,false,false,false,false,false,false,false,false,false,false,false,false,false,false,false,false,false,false,false,false,false] rfl rfl (take_ofW HT_.out HW_.out (by kernel_rfl)) (fun _ _ _ h => h) (Or.inl ⟨by rfl,?_⟩) hHeld ?_ ?_
 rotate_left
 ·rintro w' ⟨s1,s2,s3,s4,s5,s6,s7,s8⟩
  go_simp
  with_reducible rfl
 rotate_left
 ·simp only [Act.put,List.setIfInBounds_toArray,List.set_cons_zero,List.set_cons_succ,i64_w,i32_w]
  rfl
 refine pure_ (i := 15) (N := (some 22)) (v := ?_) (a' := ?_) #[true,true,true,true,true,true,true,true,true,true,true,true,true,true,true,true,false,false,false,false,false,false,false,false,false,false,false,false,false,false,false,false,false,false,false,false,false,false,false,false,false,false,false,false,false] rfl rfl (any_of HT_.out (by kernel_rfl)) (fun _ _ _ h => h) (Or.inl ⟨by rfl,?_⟩) ?_ ?_
 rotate_left
 ·intro w'
  go_simp
  with_reducible rfl
 rotate_left
 ·simp only [Act.put,List.setIfInBounds_toArray,List.set_cons_zero,List.set_cons_succ,i64_w,i32_w]
  rfl
 refine pure_ (i := 16) (N := (some 23)) (v := ?_) (a' := ?_) #[true,true,true,true,true,true,true,true,true,true,true,true,true,true,true,true,true,false,false,false,false,false,false,false,false,false,false,false,false,false,false,false,false,false,false,false,false,false,false,false,false,false,false,false,false] rfl rfl (any_of HT_.out (by kernel_rfl)) (fun _ _ _ h => h) (Or.inl ⟨by rfl,?_⟩) ?_ ?_
 rotate_left
 ·intro w'
  go_simp
  with_reducible rfl
 rotate_left
 ·simp only [Act.put,List.setIfInBounds_toArray,List.set_cons_zero,List.set_cons_succ,i64_w,i32_w]
  rfl
 refine pure_ (i := 17) (N := (some 24)) (v := ?_) (a' := ?_) #[true,true,true,true,true,true,true,true,true,true,true,true,true,true,true,true,true,true,false,false,false,false,false,false,false,false,false,false,false,false,false,false,false,false,false,false,false,false,false,false,false,false,false,false,false] rfl rfl (any_of HT_.out (by kernel_rfl)) (fun _ _ _ h => h) (Or.inl ⟨by rfl,?_⟩) ?_ ?_
 rotate_left
 ·intro w'
  go_simp
  with_reducible rfl
 rotate_left
 ·simp only [Act.put,List.setIfInBounds_toArray,List.set_cons_zero,List.set_cons_succ,i64_w,i32_w]
  rfl
 refine pure_ (i := 18) (N := (some 25)) (v := ?_) (a' := ?_) #[true,true,true,true,true,true,true,true,true,true,true,true,true,true,true,true,true,true,true,false,false,false,false,false,false,false,false,false,false,false,false,false,false,false,false,false,false,false,false,false,false,false,false,false,false] rfl rfl (any_of HT_.out (by kernel_rfl)) (fun _ _ _ h => h) (Or.inl ⟨by rfl,?_⟩) ?_ ?_
 rotate_left
 ·intro w'
  go_simp
  with_reducible rfl
 rotate_left
 ·simp only [Act.put,List.setIfInBounds_toArray,List.set_cons_zero,List.set_cons_succ,i64_w,i32_w]
  rfl
 refine pure_ (i := 19) (N := (some 26)) (v := ?_) (a' := ?_) #[true,true,true,true,true,true,true,true,true,true,true,true,true,true,true,true,true,true,true,true,false,false,false,false,false,false,false,false,false,false,false,false,false,false,false,false,false,false,false,false,false,false,false,false,false] rfl rfl (any_of HT_.out (by kernel_rfl)) (fun _ _ _ h => h) (Or.inl ⟨by rfl,?_⟩) ?_ ?_
 rotate_left
 ·intro w'
  go_simp
  with_reducible rfl
 rotate_left
 ·simp only [Act.put,List.setIfInBounds_toArray,List.set_cons_zero,List.set_cons_succ,i64_w,i32_w]
  rfl
 refine take_ (i := 20) (N := (some 27)) (v := ?_) (a' := ?_) #[true,true,true,true,true,true,true,true,true,true,true,true,true,true,true,true,true,true,true,true,true,false,false,false,false,false,false,false,false,false,false,false,false,false,false,false,false,false,false,false,false,false,false,false,false] rfl rfl (take_ofW HT_.out HW_.out (by kernel_rfl)) (fun _ _ _ h => h) (Or.inl ⟨by rfl,?_⟩) hHeld ?_ ?_
 rotate_left
 ·rintro w' ⟨s1,s2,s3,s4,s5,s6,s7,s8⟩
  go_simp
  with_reducible rfl
 rotate_left
 ·simp only [Act.put,List.setIfInBounds_toArray,List.set_cons_zero,List.set_cons_succ,i64_w,i32_w]
  rfl
 refine pure_ (i := 21) (N := (some 28)) (v := ?_) (a' := ?_) #[true,true,true,true,true,true,true,true,true,true,true,true,true,true,true,true,true,true,true,true,true,true,false,false,false,false,false,false,false,false,false,false,false,false,false,false,false,false,false,false,false,false,false,false,false] rfl rfl (any_of HT_.out (by kernel_rfl)) (fun _ _ _ h => h) (Or.inl ⟨by rfl,?_⟩) ?_ ?_
 rotate_left
 ·intro w'
  go_simp
  with_reducible rfl
 rotate_left
 ·simp only [Act.put,List.setIfInBounds_toArray,List.set_cons_zero,List.set_cons_succ,i64_w,i32_w]
  rfl
 refine pure_ (i := 22) (N := (some 29)) (v := ?_) (a' := ?_) #[true,true,true,true,true,true,true,true,true,true,true,true,true,true,true,true,true,true,true,true,true,true,true,false,false,false,false,false,false,false,false,false,false,false,false,false,false,false,false,false,false,false,false,false,false] rfl rfl (any_of HT_.out (by kernel_rfl)) (fun _ _ _ h => h) (Or.inl ⟨by rfl,?_⟩) ?_ ?_
 rotate_left
 ·intro w'
  go_simp
  with_reducible rfl
 rotate_left
 ·simp only [Act.put,List.setIfInBounds_toArray,List.set_cons_zero,List.set_cons_succ,i64_w,i32_w]
  rfl
 refine pure_ (i := 23) (N := (some 30)) (v := ?_) (a' := ?_) #[true,true,true,true,true,true,true,true,true,true,true,true,true,true,true,true,true,true,true,true,true,true,true,true,false,false,false,false,false,false,false,false,false,false,false,false,false,false,false,false,false,false,false,false,false] rfl rfl (any_of HT_.out (by kernel_rfl)) (fun _ _ _ h => h) (Or.inl ⟨by rfl,?_⟩) ?_ ?_
 rotate_left
 ·intro w'
  go_simp
  with_reducible rfl
 rotate_left
 ·simp only [Act.put,List.setIfInBounds_toArray,List.set_cons_zero,List.set_cons_succ,i64_w,i32_w]
  rfl
 refine pure_ (i := 24) (N := (some 31)) (v := ?_) (a' := ?_) #[true,true,true,true,true,true,true,true,true,true,true,true,true,true,true,true,true,true,true,true,true,true,true,true,true,false,false,false,false,false,false,false,false,false,false,false,false,false,false,false,false,false,false,false,false] rfl rfl (any_of HT_.out (by kernel_rfl)) (fun _ _ _ h => h) (Or.inl ⟨by rfl,?_⟩) ?_ ?_
 rotate_left
 ·intro w'
  go_simp
  with_reducible rfl
 rotate_left
 ·simp only [Act.put,List.setIfInBounds_toArray,List.set_cons_zero,List.set_cons_succ,i64_w,i32_w]
  rfl
 refine take_ (i := 25) (N := (some 32)) (v := ?_) (a' := ?_) #[true,true,true,true,true,true,true,true,true,true,true,true,true,true,true,true,true,true,true,true,true,true,true,true,true,true,false,false,false,false,false,false,false,false,false,false,false,false,false,false,false,false,false,false,false] rfl rfl (take_ofW HT_.out HW_.out (by kernel_rfl)) (fun _ _ _ h => h) (Or.inl ⟨by rfl,?_⟩) hHeld ?_ ?_
 rotate_left
 ·rintro w' ⟨s1,s2,s3,s4,s5,s6,s7,s8⟩
  go_simp
  with_reducible rfl
 rotate_left
 ·simp only [Act.put,List.setIfInBounds_toArray,List.set_cons_zero,List.set_cons_succ,i64_w,i32_w]
  rfl
 refine pure_ (i := 26) (N := (some 33)) (v := ?_) (a' := ?_) #[true,true,true,true,true,true,true,true,true,true,true,true,true,true,true,true,true,true,true,true,true,true,true,true,true,true,true,false,false,false,false,false,false,false,false,false,false,false,false,false,false,false,false,false,false] rfl rfl (any_of HT_.out (by kernel_rfl)) (fun _ _ _ h => h) (Or.inl ⟨by rfl,?_⟩) ?_ ?_
 rotate_left
 ·intro w'
  go_simp
  with_reducible rfl
 rotate_left
 ·simp only [Act.put,List.setIfInBounds_toArray,List.set_cons_zero,List.set_cons_succ,i64_w,i32_w]
  rfl
 refine pure_ (i := 27) (N := (some 34)) (v := ?_) (a' := ?_) #[true,true,true,true,true,true,true,true,true,true,true,true,true,true,true,true,true,true,true,true,true,true,true,true,true,true,true,true,false,false,false,false,false,false,false,false,false,false,false,false,false,false,false,false,false] rfl rfl (any_of HT_.out (by kernel_rfl)) (fun _ _ _ h => h) (Or.inl ⟨by rfl,?_⟩) ?_ ?_
 rotate_left
 ·intro w'
  go_simp
  with_reducible rfl
 rotate_left
 ·simp only [Act.put,List.setIfInBounds_toArray,List.set_cons_zero,List.set_cons_succ,i64_w,i32_w]
  rfl
 refine pure_ (i := 28) (N := (some 35)) (v := ?_) (a' := ?_) #[true,true,true,true,true,true,true,true,true,true,true,true,true,true,true,true,true,true,true,true,true,true,true,true,true,true,true,true,true,false,false,false,false,false,false,false,false,false,false,false,false,false,false,false,false] rfl rfl (any_of HT_.out (by kernel_rfl)) (fun _ _ _ h => h) (Or.inl ⟨by rfl,?_⟩) ?_ ?_
 rotate_left
 ·intro w'
  go_simp
  with_reducible rfl
 rotate_left
 ·simp only [Act.put,List.setIfInBounds_toArray,List.set_cons_zero,List.set_cons_succ,i64_w,i32_w]
  rfl
 refine pure_ (i := 29) (N := (some 36)) (v := ?_) (a' := ?_) #[true,true,true,true,true,true,true,true,true,true,true,true,true,true,true,true,true,true,true,true,true,true,true,true,true,true,true,true,true,true,false,false,false,false,false,false,false,false,false,false,false,false,false,false,false] rfl rfl (any_of HT_.out (by kernel_rfl)) (fun _ _ _ h => h) (Or.inl ⟨by rfl,?_⟩) ?_ ?_
 rotate_left
 ·intro w'
  go_simp
  with_reducible rfl
 rotate_left
 ·simp only [Act.put,List.setIfInBounds_toArray,List.set_cons_zero,List.set_cons_succ,i64_w,i32_w]
  rfl
 refine pure_ (i := 31) (N := (some 38)) (v := ?_) (a' := ?_) #[true,true,true,true,true,true,true,true,true,true,true,true,true,true,true,true,true,true,true,true,true,true,true,true,true,true,true,true,true,true,false,true,false,false,false,false,false,false,false,false,false,false,false,false,false] rfl rfl (any_of HT_.out (by kernel_rfl)) (fun _ _ _ h => h) (Or.inl ⟨by rfl,?_⟩) ?_ ?_
 rotate_left
 ·intro w'
  go_simp
  with_reducible rfl
 rotate_left
 ·simp only [Act.put,List.setIfInBounds_toArray,List.set_cons_zero,List.set_cons_succ,i64_w,i32_w]
  rfl
 refine take_ (i := 32) (N := (some 39)) (v := ?_) (a' := ?_) #[true,true,true,true,true,true,true,true,true,true,true,true,true,true,true,true,true,true,true,true,true,true,true,true,true,true,true,true,true,true,false,true,true,false,false,false,false,false,false,false,false,false,false,false,false] rfl rfl (take_ofW HT_.out HW_.out (by kernel_rfl)) (fun _ _ _ h => h) (Or.inl ⟨by rfl,?_⟩) hHeld ?_ ?_
 rotate_left
 ·rintro w' ⟨s1,s2,s3,s4,s5,s6,s7,s8⟩
  go_simp
  with_reducible rfl
 rotate_left
 ·simp only [Act.put,List.setIfInBounds_toArray,List.set_cons_zero,List.set_cons_succ,i64_w,i32_w]
  rfl
 refine pure_ (i := 33) (N := (some 40)) (v := ?_) (a' := ?_) #[true,true,true,true,true,true,true,true,true,true,true,true,true,true,true,true,true,true,true,true,true,true,true,true,true,true,true,true,true,true,false,true,true,true,false,false,false,false,false,false,false,false,false,false,false] rfl rfl (any_of HT_.out (by kernel_rfl)) (fun _ _ _ h => h) (Or.inl ⟨by rfl,?_⟩) ?_ ?_
 rotate_left
 ·intro w'
  go_simp
  with_reducible rfl
 rotate_left
 ·simp only [Act.put,List.setIfInBounds_toArray,List.set_cons_zero,List.set_cons_succ,i64_w,i32_w]
  rfl
 refine one_ (i := 30) (N := (some 37)) #[true,true,true,true,true,true,true,true,true,true,true,true,true,true,true,true,true,true,true,true,true,true,true,true,true,true,true,true,true,true,true,true,true,true,false,false,false,false,false,false,false,false,false,false,false] rfl rfl (one_of HT_.out (by kernel_rfl)) (by decide) (fun K hK => ?_)
 refine call_ 21 #[.pointer (some ⟨p,0,none⟩)] (by rfl) rfl au10 ?_
 refine (sc_rows hs2.at_ (hs2.bs hb) hO).mono ?_
 rintro e w3 ⟨rfl,hs3⟩
 have hq3 := hs3.keeps hq2 (fun hk => by have := hk.2;omega) (by omega)
 have hs3 := hs2.then_ hs3
 obtain ⟨rv,⟨c0,c1,_,c3,c4,_⟩,_⟩ := hs3.at_.cells
 refine ⟨_,rfl,hK.out _ _ ⟨c0,c1,c3,c4,blk_cell hq3 0,blk_cell hq3 1,blk_cell hq3 2,blk_cell hq3 3⟩ (fun hHeld => ?_)⟩
 clear hK K hs2 hq2 c0 c1 c3 c4
 refine norm_ (a' := ?_) ?_ ?_
 rotate_left
 ·show Act.put _ (some 37) _ = _
  simp only [Act.put,List.setIfInBounds_toArray,List.set_cons_zero,List.set_cons_succ,i64_w,i32_w]
  rfl
 refine pure_ (i := 34) (N := (some 41)) (v := ?_) (a' := ?_) #[true,true,true,true,true,true,true,true,true,true,true,true,true,true,true,true,true,true,true,true,true,true,true,true,true,true,true,true,true,true,true,true,true,true,true,false,false,false,false,false,false,false,false,false,false] rfl rfl (any_of HT_.out (by kernel_rfl)) (fun _ _ _ h => h) (Or.inl ⟨by rfl,?_⟩) ?_ ?_
 rotate_left
 ·intro w'
  go_simp
  with_reducible rfl
 rotate_left
 ·simp only [Act.put,List.setIfInBounds_toArray,List.set_cons_zero,List.set_cons_succ,i64_w,i32_w]
  rfl
 refine pure_ (i := 35) (N := (some 42)) (v := ?_) (a' := ?_) #[true,true,true,true,true,true,true,true,true,true,true,true,true,true,true,true,true,true,true,true,true,true,true,true,true,true,true,true,true,true,true,true,true,true,true,true,false,false,false,false,false,false,false,false,false] rfl rfl (any_of HT_.out (by kernel_rfl)) (fun _ _ _ h => h) (Or.inl ⟨by rfl,?_⟩) ?_ ?_
 rotate_left
 ·intro w'
  go_simp
  with_reducible rfl
 rotate_left
 ·simp only [Act.put,List.setIfInBounds_toArray,List.set_cons_zero,List.set_cons_succ,i64_w,i32_w]
  rfl
 refine pure_ (i := 36) (N := (some 43)) (v := ?_) (a' := ?_) #[true,true,true,true,true,true,true,true,true,true,true,true,true,true,true,true,true,true,true,true,true,true,true,true,true,true,true,true,true,true,true,true,true,true,true,true,true,false,false,false,false,false,false,false,false] rfl rfl (any_of HT_.out (by kernel_rfl)) (fun _ _ _ h => h) (Or.inl ⟨by rfl,?_⟩) ?_ ?_
 rotate_left
 ·intro w'
  go_simp
  with_reducible rfl
 rotate_left
 ·simp only [Act.put,List.setIfInBounds_toArray,List.set_cons_zero,List.set_cons_succ,i64_w,i32_w]
  rfl
 refine pure_ (i := 37) (N := (some 44)) (v := ?_) (a' := ?_) #[true,true,true,true,true,true,true,true,true,true,true,true,true,true,true,true,true,true,true,true,true,true,true,true,true,true,true,true,true,true,true,true,true,true,true,true,true,true,false,false,false,false,false,false,false] rfl rfl (any_of HT_.out (by kernel_rfl)) (fun _ _ _ h => h) (Or.inl ⟨by rfl,?_⟩) ?_ ?_
 rotate_left
 ·intro w'
  go_simp
  with_reducible rfl
 rotate_left
 ·simp only [Act.put,List.setIfInBounds_toArray,List.set_cons_zero,List.set_cons_succ,i64_w,i32_w]
  rfl
 refine take_ (i := 38) (N := (some 45)) (v := ?_) (a' := ?_) #[true,true,true,true,true,true,true,true,true,true,true,true,true,true,true,true,true,true,true,true,true,true,true,true,true,true,true,true,true,true,true,true,true,true,true,true,true,true,true,false,false,false,false,false,false] rfl rfl (take_ofW HT_.out HW_.out (by kernel_rfl)) (fun _ _ _ h => h) (Or.inl ⟨by rfl,?_⟩) hHeld ?_ ?_
 rotate_left
 ·rintro w' ⟨s1,s2,s3,s4,s5,s6,s7,s8⟩
  go_simp
  with_reducible rfl
 rotate_left
 ·simp only [Act.put,List.setIfInBounds_toArray,List.set_cons_zero,List.set_cons_succ,i64_w,i32_w]
  rfl
 refine pure_ (i := 39) (N := (some 46)) (v := ?_) (a' := ?_) #[true,true,true,true,true,true,true,true,true,true,true,true,true,true,true,true,true,true,true,true,true,true,true,true,true,true,true,true,true,true,true,true,true,true,true,true,true,true,true,true,false,false,false,false,false] rfl rfl (any_of HT_.out (by kernel_rfl)) (fun _ _ _ h => h) (Or.inl ⟨by rfl,?_⟩) ?_ ?_
 rotate_left
 ·intro w'
  go_simp
  with_reducible rfl
 rotate_left
 ·simp only [Act.put,List.setIfInBounds_toArray,List.set_cons_zero,List.set_cons_succ,i64_w,i32_w]
  rfl
 refine pure_ (i := 40) (N := (some 47)) (v := ?_) (a' := ?_) #[true,true,true,true,true,true,true,true,true,true,true,true,true,true,true,true,true,true,true,true,true,true,true,true,true,true,true,true,true,true,true,true,true,true,true,true,true,true,true,true,true,false,false,false,false] rfl rfl (any_of HT_.out (by kernel_rfl)) (fun _ _ _ h => h) (Or.inl ⟨by rfl,?_⟩) ?_ ?_
 rotate_left
 ·intro w'
  go_simp
  with_reducible rfl
 rotate_left
 ·simp only [Act.put,List.setIfInBounds_toArray,List.set_cons_zero,List.set_cons_succ,i64_w,i32_w]
  rfl
 refine pure_ (i := 41) (N := (some 48)) (v := ?_) (a' := ?_) #[true,true,true,true,true,true,true,true,true,true,true,true,true,true,true,true,true,true,true,true,true,true,true,true,true,true,true,true,true,true,true,true,true,true,true,true,true,true,true,true,true,true,false,false,false] rfl rfl (any_of HT_.out (by kernel_rfl)) (fun _ _ _ h => h) (Or.inl ⟨by rfl,?_⟩) ?_ ?_
 rotate_left
 ·intro w'
  go_simp
  with_reducible rfl
 rotate_left
 ·simp only [Act.put,List.setIfInBounds_toArray,List.set_cons_zero,List.set_cons_succ,i64_w,i32_w]
  rfl
 refine take_ (i := 42) (N := (some 49)) (v := ?_) (a' := ?_) #[true,true,true,true,true,true,true,true,true,true,true,true,true,true,true,true,true,true,true,true,true,true,true,true,true,true,true,true,true,true,true,true,true,true,true,true,true,true,true,true,true,true,true,false,false] rfl rfl (take_ofW HT_.out HW_.out (by kernel_rfl)) (fun _ _ _ h => h) (Or.inl ⟨by rfl,?_⟩) hHeld ?_ ?_
 rotate_left
 ·rintro w' ⟨s1,s2,s3,s4,s5,s6,s7,s8⟩
  go_simp
  with_reducible rfl
 rotate_left
 ·simp only [Act.put,List.setIfInBounds_toArray,List.set_cons_zero,List.set_cons_succ,i64_w,i32_w]
  rfl
 refine pure_ (i := 43) (N := (some 50)) (v := ?_) (a' := ?_) #[true,true,true,true,true,true,true,true,true,true,true,true,true,true,true,true,true,true,true,true,true,true,true,true,true,true,true,true,true,true,true,true,true,true,true,true,true,true,true,true,true,true,true,true,false] rfl rfl (any_of HT_.out (by kernel_rfl)) (fun _ _ _ h => h) (Or.inl ⟨by rfl,?_⟩) ?_ ?_
 rotate_left
 ·intro w'
  go_simp
  with_reducible rfl
 rotate_left
 ·simp only [Act.put,List.setIfInBounds_toArray,List.set_cons_zero,List.set_cons_succ,i64_w,i32_w]
  rfl
 refine pure_ (i := 44) (N := (some 51)) (v := ?_) (a' := ?_) #[true,true,true,true,true,true,true,true,true,true,true,true,true,true,true,true,true,true,true,true,true,true,true,true,true,true,true,true,true,true,true,true,true,true,true,true,true,true,true,true,true,true,true,true,true] rfl rfl (any_of HT_.out (by kernel_rfl)) (fun _ _ _ h => h) (Or.inl ⟨by rfl,?_⟩) ?_ ?_
 rotate_left
 ·intro w'
  go_simp
  with_reducible rfl
 rotate_left
 ·simp only [Act.put,List.setIfInBounds_toArray,List.set_cons_zero,List.set_cons_succ,i64_w,i32_w]
  rfl
 refine done_ (done_of HT_.out (by kernel_rfl)) ?_
 clear HT_ HW_
 obtain ⟨_,_,_,_,_,e1,_,_⟩ := hHeld
 have hK3 := hs3.kept
 have hFF : ∀ w,Stp base p (fun k => ok k ∧ k < W.heap.size) W w s hd → Kd.C kRow w FA FL.length FL := fun w hw => hF w hw.kept
 clear hK3 hq3
 go_wp2
 go_loopw [55] (fun v wr => ∃ i : Nat,v = .int .i64 i ∧ i ≤ FL.length ∧ Hid (allEq FL s.rows i = true) ∧ Stp base p (fun k => ok k ∧ k < W.heap.size) W wr s hd) (fun v _ => FL.length - (intOf v).toNat)
 case atStart => exact ⟨0,rfl,Nat.zero_le _,Lib.hid rfl,hs3⟩
 case round =>
  obtain ⟨i,rfl,hi,hJ,hsr⟩ := hrel
  clear hs3 e1
  by_cases hlt : i < FL.length
  ·have hlt' : (i : Int) < (FL.length : Int) := by omega
   obtain ⟨ad,A0,c0,rfl,r0,hc0,hC0⟩ := at_L3 (hFF _ hsr) (i : Int) (by omega) hlt'
   have hrd : rd_L3 FL (i : Int) = FL.getD i [] := by unfold rd_L3;rw [Int.toNat_natCast]
   rw [hrd] at r0 hc0 hC0
   rw [Int.toNat_natCast] at r0
   have hRl : (FL.getD i []).length ≤ 1099511627776 := by
    rw [List.getD_eq_getElem?_getD,List.getElem?_eq_getElem hlt]
    exact hFl _ (List.getElem_mem _)
   have hcall := sc_row hsr.at_ i (by omega) hcl (ii := (i : Int)) rfl
   obtain ⟨b,hbe⟩ : ∃ b,eqR (FL.getD i []) (trimR (s.rows.getD i [])) = b := ⟨_,rfl⟩
   have hbH := Lib.hid hbe
   generalize FL.getD i [] = X at r0 hc0 hC0 hRl hbe
   generalize trimR (s.rows.getD i []) = Y at hcall hbe
   go_upto_if 65 with (first | (go_at_call 46;refine hcall.mono ?_;rintro e w4 ⟨A,c,rfl,hC4,hAc,hb4⟩) | (go_at_call 45;refine (equal_any A0 A X.length Y.length c0 c X Y _ (Kd.C_below hC0 hb4) hC4 hRl hc0 hAc).mono ?_;rintro e w5 ⟨rfl,hb5⟩;rw [hbe];have hs5 := (hsr.more hb4 hb).more hb5 hb))
   clear hbe
   cases b with
   | false =>
    have hFA := Lib.hid (allEq_false hbH.out FL.length hlt)
    go_wp2
    first | refine bodyPost_ret (results_tmp rfl _ _ _) rfl ?_ | ((try simp only [Exit.inBlock,Exit.then]);refine bodyPost_ret (results_tmp rfl _ _ _) rfl ?_) | (go_wp2;refine bodyPost_ret (results_tmp rfl _ _ _) rfl ?_)
    exact ⟨by rw [hFA.out];rfl,hs5⟩
   | true =>
    have hJ2 := Lib.hid (show allEq FL s.rows (i + 1) = true by unfold allEq;rw [hJ.out,hbH.out];rfl)
    go_wp2
    go_roundw
    case rel => exact ⟨i + 1,by go_num,by omega,hJ2,hs5⟩
    case measure => simp [intOf];omega
  ·have hlt' := eq_false (show ¬ (i : Int) < (FL.length : Int) by omega)
   have hie := Lib.hid (show i = FL.length by omega)
   go_wp2
   first | refine bodyPost_ret (results_tmp rfl _ _ _) rfl ?_ | ((try simp only [Exit.inBlock,Exit.then]);refine bodyPost_ret (results_tmp rfl _ _ _) rfl ?_) | (go_wp2;refine bodyPost_ret (results_tmp rfl _ _ _) rfl ?_)
   exact ⟨by rw [← hie.out,hJ.out];rfl,hsr⟩
end Go.Proofs.YtgdpnmikcopkmaaDoor.U
end
section
namespace Go.Proofs.YtgdpnmikcopkmaaDoor.U
open Go.RowKit Go.Proofs.YtgdpnmikcopkmaaDoor.Mu Go.Proofs.YtgdpnmikcopkmaaDoor.Pu Go.Proofs.YtgdpnmikcopkmaaDoorW.PrintWords Go.Proofs.YtgdpnmikcopkmaaDoorW.PrintLast Go.Proofs.YtgdpnmikcopkmaaDoorW.PrintMore
set_option linter.unusedVariables false
set_option linter.unusedSimpArgs false
/-- A screen whose blocks are those of O. -/
structure Scr (base p : Nat) (O : Nat → Prop) (w : World) (S : Sc × ByteArray) : Prop where
 at_ : ScrAt base p O w S.1 S.2
 bd : ∀ k,O k → k < w.heap.size
/-- Two screens have no block in common. -/
structure Apart (p : Nat) (O : Nat → Prop) (q : Nat) (O2 : Nat → Prop) : Prop where
 pq : p ≠ q
 oq : ¬ O q
 op : ¬ O2 p
 oo : ∀ k,O k → ¬ O2 k
theorem Apart.symm {p q : Nat} {O O2 : Nat → Prop} (h : Apart p O q O2) : Apart q O2 p O := ⟨Ne.symm h.pq,h.op,h.oq,fun k hk hq => h.oo k hq hk⟩
section
variable {base p q : Nat} {O O' O2 : Nat → Prop} {w w1 : World} {S S' S2 : Sc × ByteArray}
theorem Scr.lt (h : Scr base p O w S) : p < w.heap.size := h.at_.lt
/-- What an event on another screen leaves. -/
theorem Scr.other (h : Scr base q O2 w S2) (ha : Apart p O q O2) (hk : Kept w w1 (fun k => O k ∨ k = p)) : Scr base q O2 w1 S2 := by
 obtain ⟨⟨⟨rv,h1,h2⟩,h3,h4⟩,h5⟩ := h
 exact ⟨⟨⟨rv,blk_kept h1 hk (fun he => he.elim ha.oq (fun he => ha.pq he.symm)),Kd.S_kept h2 hk (fun k ho he => he.elim (fun h6 => ha.oo k h6 ho) (fun h6 => ha.op (h6 ▸ ho)))⟩,h3,h4⟩,fun k hk2 => Nat.lt_of_lt_of_le (h5 k hk2) hk.1⟩
/-- What was only added to. -/
theorem Scr.below (h : Scr base q O2 w S2) (hb : Below w.heap.size w w1) : Scr base q O2 w1 S2 := ⟨h.at_.below hb,fun k hk => Nat.lt_of_lt_of_le (h.bd k hk) hb.size⟩
theorem Apart.more (h : Apart p O q O2) (hO : ∀ k,O' k → O k ∨ w.heap.size ≤ k) (hq : q < w.heap.size) (h2 : ∀ k,O2 k → k < w.heap.size) : Apart p O' q O2 :=
 ⟨h.pq,fun hk => (hO q hk).elim h.oq (fun h3 => by omega),h.op,fun k hk h3 => (hO k hk).elim (fun h4 => h.oo k h4 h3) (fun h4 => by have := h2 k h3;omega)⟩
/-- What a call makes of one screen. -/
structure Made (base p : Nat) (O O' : Nat → Prop) (w w1 : World) (S' : Sc × ByteArray) : Prop where
 scr : Scr base p O' w1 S'
 sub : ∀ k,O' k → O k ∨ w.heap.size ≤ k
 below : Below base w w1
 kept : Kept w w1 (fun k => O k ∨ k = p)
theorem Made.of_wide (h : Stp base p (fun k => O k ∨ w.heap.size ≤ k) w w1 S'.1 S'.2) : Made base p O (fun k => (O k ∨ w.heap.size ≤ k) ∧ k < w1.heap.size) w w1 S' :=
 ⟨⟨h.at_.bound,fun k hk => hk.2⟩,fun k hk => hk.1,h.below,⟨h.kept.1,fun i hi hn => h.kept.2 i hi (fun hk => hk.elim (fun h2 => h2.elim (fun h3 => hn (.inl h3)) (fun h3 => by omega)) (fun h2 => hn (.inr h2)))⟩⟩
theorem Made.of_same (hb : ∀ k,O k → k < w.heap.size) (h : Stp base p (fun k => O k ∧ k < w.heap.size) w w1 S'.1 S'.2) : Made base p O O w w1 S' :=
 ⟨⟨(h.wide (fun k hk => hk.1) (fun hk => h.at_.ne ⟨hk,hb p hk⟩)).at_,fun k hk => Nat.lt_of_lt_of_le (hb k hk) h.kept.1⟩,fun k hk => .inl hk,h.below,h.kept.mono (fun k hk => hk.imp And.left id)⟩
theorem Scr.wide (h : Scr base p O w S) : ScrAt base p (fun k => O k ∨ w.heap.size ≤ k) w S.1 S.2 := by
 obtain ⟨⟨⟨rv,h1,h2⟩,h3,h4⟩,h5⟩ := h
 exact ⟨⟨rv,h1,Kd.S_mono h2 (fun k hk => .inl hk)⟩,h3,fun hk => hk.elim h4 (fun h6 => by have := blk_lt h1;omega)⟩
theorem Made.other (h : Made base p O O' w w1 S') (h2 : Scr base q O2 w S2) (ha : Apart p O q O2) : Scr base q O2 w1 S2 ∧ Apart p O' q O2 := ⟨h2.other ha h.kept,ha.more h.sub h2.lt h2.bd⟩
theorem Made.of_below (h : Scr base p O w S) (hb : Below w.heap.size w w1) (hbs : base ≤ w.heap.size) : Made base p O O w w1 S := ⟨h.below hb,fun k hk => .inl hk,hb.mono hbs,Kept.of_below hb _⟩
theorem Made.then_ {w2 : World} {O'' : Nat → Prop} {S'' : Sc × ByteArray} (h : Made base p O O' w w1 S') (h2 : Made base p O' O'' w1 w2 S'') : Made base p O O'' w w2 S'' :=
 ⟨h2.scr,fun k hk => (h2.sub k hk).elim (h.sub k) (fun h3 => .inr (Nat.le_trans h.kept.1 h3)),h.below.trans h2.below,h.kept.then_ h2.kept (fun k hk => hk.elim (fun h3 => (h.sub k h3).imp .inl id) (fun h3 => .inl (.inr h3)))⟩
end
/-- What feeding asks for. -/
structure Fit (S : Sc × ByteArray) (N : Nat) : Prop where
 ok : S.1.Ok
 tb : S.1.TB N
 hl : S.2.size ≤ N
 n4 : 4 ≤ N
theorem Fit.feed {S : Sc × ByteArray} {N : Nat} (h : Fit S N) (b : ByteArray) : Fit (feedS S b) (N + (N + b.size)) := by
 refine ⟨feedS_ok h.ok b,(feedS_tb h.tb h.n4 b).mono (by have := h.hl;omega),?_,by have := h.n4;omega⟩
 have := feedN_rest (S.2 ++ b).size S.1 (S.2 ++ b)
 have h2 := h.hl
 have h3 : (S.2 ++ b).size = S.2.size + b.size := ByteArray.size_append
 show (Sc.feedN (S.2 ++ b).size S.1 (S.2 ++ b)).2.size ≤ _
 omega
theorem Fit.mono {S : Sc × ByteArray} {N M : Nat} (h : Fit S N) (hm : N ≤ M) : Fit S M := ⟨h.ok,h.tb.mono hm,Nat.le_trans h.hl hm,Nat.le_trans h.n4 hm⟩
theorem fit_new (a b : Int) : Fit (newSc a b,⟨#[]⟩) 4 := ⟨newSc_ok a b,fun row hr => absurd hr List.not_mem_nil,Nat.zero_le _,Nat.le_refl _⟩
section
variable {base p : Nat} {O : Nat → Prop} {w : World} {S : Sc × ByteArray}
theorem scr_feed (h : Scr base p O w S) (hb : base ≤ w.heap.size) (h2 : 2 ≤ base) (hT : Lib.Utf8Tabs 0 1 w) {N : Nat} (hf : Fit S N) (b : ByteArray) (hz : N + b.size ≤ 549755813888) :
  Calls Tryd.prog 16 #[.pointer (some ⟨p,0,none⟩),.string b] w fun e w' => e = .returned (.tuple #[]) ∧ ∃ O',Made base p O O' w w' (feedS S b) :=
 (sc_feed h.wide ⟨fun k hk => .inr hk,hb⟩ hf.ok hT h2 b (by have := hf.hl;omega) N hf.tb hf.n4 (by omega)).mono fun e w' hh => ⟨hh.1,_,Made.of_wide hh.2⟩
theorem scr_rows (h : Scr base p O w S) (hb : base ≤ w.heap.size) (hO : S.1.Ok) :
  Calls Tryd.prog 21 #[.pointer (some ⟨p,0,none⟩)] w fun e w' => e = .returned (.int .i64 (S.1.nrows : Nat)) ∧ Made base p O O w w' S :=
 (sc_rows h.at_.bound hb hO).mono fun e w' hh => ⟨hh.1,Made.of_same h.bd hh.2⟩
theorem scr_frame (h : Scr base p O w S) (hb : base ≤ w.heap.size) (hO : S.1.Ok) (n : Int) :
  Calls Tryd.prog 20 #[.pointer (some ⟨p,0,none⟩),.int .i64 n] w fun e w' => ∃ rv,e = .returned (.agg #[.int .i64 S.1.w,rv,.int .i64 S.1.r,.int .i64 S.1.c]) ∧ Kd.S kRow 36 w' w.heap.size (fun k => w.heap.size ≤ k) rv (frameL S.1.rows (S.1.frameN n)) ∧ Made base p O O w w' S :=
 (sc_frame h.at_ hb hO n).mono fun e w' hh => by
  obtain ⟨rv,h1,h2,h3⟩ := hh
  exact ⟨rv,h1,h2,Made.of_same h.bd h3⟩
theorem scr_new (a b : Int) (W : World) :
  Calls Tryd.prog 14 #[.int .i64 a,.int .i64 b] W fun e w' => ∃ p,e = .returned (.pointer (some ⟨p,0,none⟩)) ∧ W.heap.size ≤ p ∧ (∀ base,base ≤ W.heap.size → Scr base p (fun _ => False) w' (newSc a b,⟨#[]⟩)) ∧ Below W.heap.size W w' :=
 (sc_new a b W).mono fun e w' hh => by
  obtain ⟨p,h1,h2,h3,h4,h5⟩ := hh
  exact ⟨p,h1,h2,fun base hb => ⟨h4 base _ (Nat.le_trans hb h2) (fun hk => hk),fun k hk => hk.elim⟩,h5⟩
end
end Go.Proofs.YtgdpnmikcopkmaaDoor.U
end
section
namespace Go.Proofs.YtgdpnmikcopkmaaDoor.U
open Go.RowKit Go.Proofs.YtgdpnmikcopkmaaDoorW.PrintWords Go.Proofs.YtgdpnmikcopkmaaDoorW.PrintLast Go.Proofs.YtgdpnmikcopkmaaDoorW.PrintMore
attribute [local go_sem] max2_int min2_int max_two min_two max_three min_three max_four min_four   -- for this text's walks alone
set_option linter.unusedVariables false
set_option linter.unusedSimpArgs false
attribute [local go_sem high] eqA38
def bodkinref22_SameRow.l0 : Nat → List (S38) → List (S38) → Int → Option (Bool)
 | 0,_,_,_ => none
 | k + 1,x0,x1,x5 => if x5 < (x0.length : Int) then (if 0 ≤ x5 then (if x5 < (x1.length : Int) then (if (!((((rd_T38 x0 x5).f0).toList) == (((rd_T38 x1 x5).f0).toList)) || (!(((rd_T38 x0 x5).f1) == ((rd_T38 x1 x5).f1)))) = true then (some false) else (bodkinref22_SameRow.l0 k x0 x1 (wrap64 (x5 + 1)))) else (none)) else (none)) else (some true)
def bodkinref22_SameRow.f (k : Nat) (l0 : List (S38)) (l1 : List (S38)) : Option (Bool) := if (l0.length : Int) = (l1.length : Int) then (bodkinref22_SameRow.l0 k l0 l1 0) else (some false)
set_option maxHeartbeats 8000000 in
set_option maxRecDepth 100000 in
theorem bodkinref22_SameRow.calls (k : Nat) (A0 : Option Addr) (c0 : Nat) (l0 : List (S38)) (A1 : Option Addr) (c1 : Nat) (l1 : List (S38)) (r : Bool) (w : World) (hr0 : Kd.C k38 w A0 l0.length l0) (hc0 : l0.length ≤ c0) (hr1 : Kd.C k38 w A1 l1.length l1) (hc1 : l1.length ≤ c1) (h : bodkinref22_SameRow.f k l0 l1 = some r) :
  Calls Tryd.prog 36 #[.slice A0 l0.length c0,.slice A1 l1.length c1] w fun e w' => e = .returned (.bool r) ∧ Drawn0 w w' := by
 have hu38 := Tryd.underlying38
 have HR0 := Aside0.mk hr0
 have HC0 := Aside0.mk hc0
 clear hr0 hc0
 have HR1 := Aside0.mk hr1
 have HC1 := Aside0.mk hc1
 clear hr1 hc1
 have H : (if (l0.length : Int) = (l1.length : Int) then (bodkinref22_SameRow.l0 k l0 l1 0) else (some false)) = some r := h
 clear h
 by_cases c3 : (l0.length : Int) = (l1.length : Int)
 ·rw [if_pos c3] at H
  have c3b0 : ((l0.length : Int) == (l1.length : Int)) = true := beq_iff_eq.mpr c3
  have c3b1 : ((l0.length : Int) != (l1.length : Int)) = false := bne_eq_false_iff_eq.mpr c3
  have c3b2 : (l0.length == l1.length) = true := by first | simpa using c3 | (simp at c3 ⊢;omega)
  clear c3
  have H' := Aside0.mk H
  clear H
  go_enter Tryd.func36,Tryd.ntmps36
  go_wp2
  repeat (go_quiet (fail);try go_wp2)
  go_loopg [5] k (fun kq v5 w' => ∃ (x5_1 : Int),v5 = .int .i64 x5_1 ∧ Aside0 (bodkinref22_SameRow.l0 kq l0 l1 x5_1 = some r) ∧ Aside0 (kq ≤ k) ∧ Drawn0 w w')
  case atStart => exact ⟨(0),au7,H',⟨Nat.le_refl _⟩,by repeat (first | exact Drawn0.refl _ | apply Drawn0.step)⟩
  case round =>
   clear H'
   try clear c1
   try clear p2
   try clear c3
   try clear c3b0
   try clear c3b1
   try clear c3b2
   obtain ⟨x5_1,rfl,HA,HK1,⟨m1,rfl⟩⟩ := hrel
   cases gk with
   | zero => exact absurd HA.out (by simp [bodkinref22_SameRow.l0])
   | succ k1 =>
    have H := HA.out
    clear HA
    simp only [bodkinref22_SameRow.l0] at H
    by_cases c4 : x5_1 < (l0.length : Int)
    ·rw [if_pos c4] at H
     have c4b0 : decide (x5_1 < (l0.length : Int)) = true := decide_eq_true c4
     clear c4
     by_cases c5 : 0 ≤ x5_1
     ·rw [if_pos c5] at H
      have c5b0 : decide (0 ≤ x5_1) = true := decide_eq_true c5
      clear c5
      by_cases c6 : x5_1 < (l1.length : Int)
      ·rw [if_pos c6] at H
       have c6b0 : decide (x5_1 < (l1.length : Int)) = true := decide_eq_true c6
       clear c6
       by_cases c7 : (!((((rd_T38 l0 x5_1).f0).toList) == (((rd_T38 l1 x5_1).f0).toList)) || (!(((rd_T38 l0 x5_1).f1) == ((rd_T38 l1 x5_1).f1)))) = true
       ·rw [if_pos c7] at H
        have c7b0 : (!((((rd_T38 l0 x5_1).f0).toList) == (((rd_T38 l1 x5_1).f0).toList)) || (!(((rd_T38 l0 x5_1).f1) == ((rd_T38 l1 x5_1).f1)))) = true := c7
        clear c7
        obtain rfl := Option.some.inj H
        have p172 : 0 ≤ (x5_1 : Int) := of_decide_eq_true au8
        have q172 : x5_1 < (l0.length : Int) := of_decide_eq_true au8
        obtain ⟨ad172,e172,hx172_0,hx172_1⟩ := at_T38 HR0.out x5_1 p172 q172
        cases e172
        replace p172 := eq_true p172
        replace q172 := eq_true q172
        have p173 : 0 ≤ (x5_1 : Int) := of_decide_eq_true au8
        have q173 : x5_1 < (l1.length : Int) := of_decide_eq_true au8
        obtain ⟨ad173,e173,hx173_0,hx173_1⟩ := at_T38 HR1.out x5_1 p173 q173
        cases e173
        replace p173 := eq_true p173
        replace q173 := eq_true q173
        go_wp2
        repeat (go_quiet (fail);try go_wp2)
        go_ret
        exact ⟨by first | rfl | (simp;done) | (simp [*];done),by repeat (first | exact Drawn0.refl _ | apply Drawn0.step)⟩
       ·rw [if_neg c7] at H
        have c7b0 : (!((((rd_T38 l0 x5_1).f0).toList) == (((rd_T38 l1 x5_1).f0).toList)) || (!(((rd_T38 l0 x5_1).f1) == ((rd_T38 l1 x5_1).f1)))) = false := by simpa using c7
        clear c7
        have H' := Aside0.mk H
        clear H
        have p172 : 0 ≤ (x5_1 : Int) := of_decide_eq_true au8
        have q172 : x5_1 < (l0.length : Int) := of_decide_eq_true au8
        obtain ⟨ad172,e172,hx172_0,hx172_1⟩ := at_T38 HR0.out x5_1 p172 q172
        cases e172
        replace p172 := eq_true p172
        replace q172 := eq_true q172
        have p173 : 0 ≤ (x5_1 : Int) := of_decide_eq_true au8
        have q173 : x5_1 < (l1.length : Int) := of_decide_eq_true au8
        obtain ⟨ad173,e173,hx173_0,hx173_1⟩ := at_T38 HR1.out x5_1 p173 q173
        cases e173
        replace p173 := eq_true p173
        replace q173 := eq_true q173
        go_wp2
        repeat (go_quiet (fail);try go_wp2)
        go_roundg k1
        case measure => have := HK1.out;omega
        case rel => exact ⟨(wrap64 (x5_1 + 1)),au7,H',⟨by have := HK1.out;omega⟩,by repeat (first | exact Drawn0.refl _ | apply Drawn0.step)⟩
      ·rw [if_neg c6] at H
       exact absurd H (by simp)
     ·rw [if_neg c5] at H
      exact absurd H (by simp)
    ·rw [if_neg c4] at H
     have c4b0 : decide (x5_1 < (l0.length : Int)) = false := decide_eq_false c4
     clear c4
     obtain rfl := Option.some.inj H
     go_wp2
     repeat (go_quiet (fail);try go_wp2)
     go_ret
     exact ⟨by first | rfl | (simp;done) | (simp [*];done),by repeat (first | exact Drawn0.refl _ | apply Drawn0.step)⟩
 ·rw [if_neg c3] at H
  have c3b0 : ((l0.length : Int) == (l1.length : Int)) = false := beq_eq_false_iff_ne.mpr c3
  have c3b1 : ((l0.length : Int) != (l1.length : Int)) = true := bne_iff_ne.mpr c3
  have c3b2 : (l0.length == l1.length) = false := by first | simpa using c3 | (simp at c3 ⊢;omega)
  obtain rfl := Option.some.inj H
  go_enter Tryd.func36,Tryd.ntmps36
  go_wp2
  repeat (go_quiet (fail);try go_wp2)
  go_ret
  exact ⟨by first | rfl | (simp;done) | (simp [*];done),by repeat (first | exact Drawn0.refl _ | apply Drawn0.step)⟩
end Go.Proofs.YtgdpnmikcopkmaaDoor.U
end
section
namespace Go.Proofs.YtgdpnmikcopkmaaDoor.U
open Go.RowKit Go.Proofs.YtgdpnmikcopkmaaDoorW.PrintWords Go.Proofs.YtgdpnmikcopkmaaDoorW.PrintLast Go.Proofs.YtgdpnmikcopkmaaDoorW.PrintMore
attribute [local go_sem] max2_int min2_int max_two min_two max_three min_three max_four min_four   -- for this text's walks alone
set_option linter.unusedVariables false
set_option linter.unusedSimpArgs false
def bodkinlaw22_row.l0 : Nat → ByteArray → List (S38) → Int → Int → Option ((List (S38)))
 | 0,_,_,_,_ => none
 | k + 1,x0,x3,x6,x7 => if x7 < x6 then (if 0 ≤ x7 then (if x7 ≤ (wrap64 (x7 + 1)) then (if (wrap64 (x7 + 1)) ≤ (x0.size : Int) then (if x3.length < 5864062014805 then (bodkinlaw22_row.l0 k x0 (x3 ++ [(⟨x0.extract (x7 : Int).toNat ((wrap64 (x7 + 1)) : Int).toNat,1⟩ : S38)]) x6 (wrap64 (x7 + 1))) else (none)) else (none)) else (none)) else (none)) else (some x3)
def bodkinlaw22_row.f (k : Nat) (a0 : ByteArray) : Option ((List (S38))) := bodkinlaw22_row.l0 k a0 ([] : List (S38)) (a0.size : Int) 0
set_option maxHeartbeats 8000000 in
set_option maxRecDepth 100000 in
theorem bodkinlaw22_row.calls (k : Nat) (a0 : ByteArray) (r : List (S38)) (w : World) (h : bodkinlaw22_row.f k a0 = some r) :
  Calls Tryd.prog 27 #[.string a0] w fun e w' => ∃ v0_ : Value,e = .returned (v0_) ∧ Kd.R k38 38 w' w.heap.size (fun _ => True) v0_ r ∧ Below w.heap.size w w' := by
 have hu38 := Tryd.underlying38
 have HB := Aside0.mk (Below.refl w.heap.size w)
 have H : (bodkinlaw22_row.l0 k a0 ([] : List (S38)) (a0.size : Int) 0) = some r := h
 clear h
 have H' := Aside0.mk H
 clear H
 go_enter Tryd.func27,Tryd.ntmps27
 go_wp2
 go_loopg [3,7] k (fun kq v3 v7 w' => ∃ (x3_1 : List (S38)) (x7_1 : Int),v7 = .int .i64 x7_1 ∧ Aside0 (bodkinlaw22_row.l0 kq a0 x3_1 (a0.size : Int) x7_1 = some r) ∧ Aside0 (kq ≤ k) ∧ Aside0 (Kd.R k38 38 w' w.heap.size (fun _ => True) v3 x3_1) ∧ Aside0 (Below w.heap.size w w'))
 case atStart => exact ⟨(([] : List (S38))),(0),au7,H',⟨Nat.le_refl _⟩,⟨by first | exact Kd.R_nil _ _ _ _ _ | exact Kd.N_nil _ _ _ _ _ | exact Kd.V_nil _ _ _ _ _ | exact Kd.Q_nil _ _ _ _ _ | exact Kd.S_nil _ _ _ _ _⟩,⟨au0⟩⟩
 case round =>
  clear H'
  obtain ⟨x3_1,x7_1,rfl,HA,HK1,HO_3,HB⟩ := hrel
  cases gk with
  | zero => exact absurd HA.out (by simp [bodkinlaw22_row.l0])
  | succ k1 =>
   have H := HA.out
   clear HA
   simp only [bodkinlaw22_row.l0] at H
   by_cases c2 : x7_1 < (a0.size : Int)
   ·rw [if_pos c2] at H
    have c2b0 : decide (x7_1 < (a0.size : Int)) = true := decide_eq_true c2
    clear c2
    by_cases c3 : 0 ≤ x7_1
    ·rw [if_pos c3] at H
     have c3b0 := eq_true c3
     have c3b1 : decide (0 ≤ x7_1) = true := decide_eq_true c3
     clear c3
     by_cases c4 : x7_1 ≤ (wrap64 (x7_1 + 1))
     ·rw [if_pos c4] at H
      have c4b0 := eq_true c4
      have c4b1 : decide (x7_1 ≤ (wrap64 (x7_1 + 1))) = true := decide_eq_true c4
      by_cases c5 : (wrap64 (x7_1 + 1)) ≤ (a0.size : Int)
      ·rw [if_pos c5] at H
       have c5b0 := eq_true c5
       have c5b1 : decide ((wrap64 (x7_1 + 1)) ≤ (a0.size : Int)) = true := decide_eq_true c5
       by_cases c6 : x3_1.length < 5864062014805
       ·rw [if_pos c6] at H
        have LMc6 := Aside0.mk c6
        clear c6
        obtain ⟨y169,hy169⟩ : ∃ y_ : List (S38),y_ = (x3_1 ++ [(⟨a0.extract (x7_1 : Int).toNat ((wrap64 (x7_1 + 1)) : Int).toNat,1⟩ : S38)]) := ⟨_,rfl⟩
        replace H : (bodkinlaw22_row.l0 k1 a0 y169 (a0.size : Int) (wrap64 (x7_1 + 1))) = some r := by first | (rw [hy169];with_reducible exact H) | (have H2_ := (Option.bind_some _ _).symm.trans H;rw [hy169];with_reducible exact H2_) | (have H2_ := (Option.bind_some _ _).symm.trans H;with_reducible exact H2_) | with_reducible exact H | (rw [hy169];exact H) | exact H
        have Ny169 := Aside0.mk hy169
        clear hy169
        have H' := Aside0.mk H
        clear H
        go_wp2_with (first | ((with_reducible refine gate_builtin (b := .append) (xs := #[.tmp 10,.tmp 17]) rfl ?_);at_builtin;refine Kd.R_append k38 (w0 := w) w.heap.size rfl (.tmp 10) (.tmp 17) 36 38 (.agg #[(.string ⟨#[]⟩),(.int .i64 0)]) 24 rfl Tryd.underlying36 info38 rfl (by decide) (by omega) u3 x3_1 (⟨a0.extract (x7_1 : Int).toNat ((wrap64 (x7_1 + 1)) : Int).toNat,1⟩ : S38) [.string (a0.extract (x7_1 : Int).toNat ((wrap64 (x7_1 + 1)) : Int).toNat),.int .i64 1] (fun _ => True) (fun _ => False) rfl rfl ?aP (fun _ hk => hk.elim) ?aF ?aO ?aB ?aS ?aL ?_;(case aP => exact k38_mkM _ _ _ (⟨a0.extract (x7_1 : Int).toNat ((wrap64 (x7_1 + 1)) : Int).toNat,1⟩ : S38));(case aB => exact au0);(case aF => exact (fun _ _ => trivial));(case aO => exact (by (with_reducible repeat (first | apply Kd.R_alloc | apply Kd.R_drewN | apply Kd.R_drew));exact HO_3.out));(case aS => exact (below_size au0));(case aL => have := LMc6.out;omega);intro v170 w7 ho hb hg hat;rw [← Ny169.out] at ho;have n0_ := Aside0.mk (hb);have n1_ := Aside0.mk (ho);clear HB;clear HO_3;have HB := n0_;have HO171 := n1_;clear n0_ n1_;clear ho hb hg hat))
        go_roundg k1
        case measure => have := HK1.out;omega
        case rel => exact ⟨(y169),(wrap64 (x7_1 + 1)),au7,H',⟨by have := HK1.out;omega⟩,⟨by (with_reducible repeat (first | apply Kd.R_alloc | apply Kd.R_drewN | apply Kd.R_drew));exact HO171.out⟩,⟨au0⟩⟩
       ·rw [if_neg c6] at H
        exact absurd H (by simp)
      ·rw [if_neg c5] at H
       exact absurd H (by simp)
     ·rw [if_neg c4] at H
      exact absurd H (by simp)
    ·rw [if_neg c3] at H
     exact absurd H (by simp)
   ·rw [if_neg c2] at H
    have c2b0 : decide (x7_1 < (a0.size : Int)) = false := decide_eq_false c2
    clear c2
    obtain rfl := Option.some.inj H
    go_wp2
    go_ret
    exact ⟨_,by first | rfl | (simp [errW_none,errW_some] <;> rfl) | (simp [*,errW_none,errW_some] <;> rfl),by (with_reducible repeat (first | apply Kd.R_alloc | apply Kd.R_drewN | apply Kd.R_drew));exact HO_3.out,au0⟩
end Go.Proofs.YtgdpnmikcopkmaaDoor.U
end
section
namespace Go.Proofs.YtgdpnmikcopkmaaDoor.U
open Go.RowKit Go.Proofs.YtgdpnmikcopkmaaDoorW.PrintWords Go.Proofs.YtgdpnmikcopkmaaDoorW.PrintLast Go.Proofs.YtgdpnmikcopkmaaDoorW.PrintMore
attribute [local go_sem] max2_int min2_int max_two min_two max_three min_three max_four min_four   -- for this text's walks alone
set_option linter.unusedVariables false
set_option linter.unusedSimpArgs false
def cluster_glued.j0 : Nat → Int → Int → Bool → Option (Bool)
 | 0,_,_,_ => none
 | k + 1,x0,x1,x11 => if x11 = true then (some true) else ((width_Class.f k x0).bind fun t177 => ((width_Class.f k x1).bind fun t178 => (if t178 = 3 then (if t177 = 1 then (some false) else (some (t177 != 2))) else (some false))))
def cluster_glued.f (k : Nat) (a0 : Int) (a1 : Int) : Option (Bool) := if a0 = 13 then (cluster_glued.j0 k a0 a1 (a1 == 10)) else (cluster_glued.j0 k a0 a1 false)
set_option maxHeartbeats 8000000 in
set_option maxRecDepth 100000 in
theorem cluster_glued.calls (k : Nat) (a0 : Int) (a1 : Int) (r : Bool) (w : World) (h : cluster_glued.f k a0 a1 = some r) :
  Calls Tryd.prog 60 #[.int .i32 a0,.int .i32 a1] w fun e w' => e = .returned (.bool r) ∧ Below w.heap.size w w' := by
 have HB := Aside0.mk (Below.refl w.heap.size w)
 have H : (if a0 = 13 then (cluster_glued.j0 k a0 a1 (a1 == 10)) else (cluster_glued.j0 k a0 a1 false)) = some r := h
 clear h
 have HC3 := Aside0.mk H
 clear H
 go_enter Tryd.func60,Tryd.ntmps60
 go_upto_region 1 with (fail)
 go_cut [11] (fun v11 wc => ∃ (kq : Nat) (x11_2 : Bool),v11 = .bool x11_2 ∧ Aside0 (cluster_glued.j0 kq a0 a1 x11_2 = some r) ∧ Aside0 (kq ≤ k) ∧ Aside0 (Below w.heap.size w wc))
 case first =>
  have H := HC3.out
  clear HC3
  by_cases c4 : a0 = 13
  ·rw [if_pos c4] at H
   have c4b0 : (a0 == 13) = true := beq_iff_eq.mpr c4
   have c4b1 : (a0 != 13) = false := bne_eq_false_iff_eq.mpr c4
   clear c4
   (first | rw [c4b0] | (simp only [i64_w,i32_w];rw [c4b0]) | skip)
   have H' := Aside0.mk H
   clear H
   go_wp2
   go_meet
   case rel => exact ⟨_,((a1 == 10)),au7,H',⟨by first | omega | exact Nat.le_refl _⟩,⟨au0⟩⟩
  ·rw [if_neg c4] at H
   have c4b0 : (a0 == 13) = false := beq_eq_false_iff_ne.mpr c4
   have c4b1 : (a0 != 13) = true := bne_iff_ne.mpr c4
   (first | rw [c4b0] | (simp only [i64_w,i32_w];rw [c4b0]) | skip)
   have H' := Aside0.mk H
   clear H
   go_wp2
   go_meet
   case rel => exact ⟨_,(false),au7,H',⟨by first | omega | exact Nat.le_refl _⟩,⟨au0⟩⟩
 case rest =>
  clear HC3
  try clear p2
  try clear c4
  try clear c4b0
  try clear c4b1
  obtain ⟨kq,x11_2,rfl,HA,HJ2,HB⟩ := hcut
  cases kq with
  | zero => exact absurd HA.out (by simp [cluster_glued.j0])
  | succ kj2 =>
   have H := HA.out
   clear HA
   simp only [cluster_glued.j0] at H
   by_cases c5 : x11_2 = true
   ·subst c5
    have H1 : (some true) = some r := by rw [if_pos rfl] at H;exact H
    clear H
    have H := H1
    clear H1
    obtain rfl := Option.some.inj H
    go_wp2
    go_ret
    exact ⟨au2,au0⟩
   ·replace c5 := Bool.eq_false_iff.mpr c5
    subst c5
    have H1 : ((width_Class.f kj2 a0).bind fun t177 => ((width_Class.f kj2 a1).bind fun t178 => (if t178 = 3 then (if t177 = 1 then (some false) else (some (t177 != 2))) else (some false)))) = some r := by rw [if_neg (show ¬ (false = true) by decide)] at H;exact H
    clear H
    have H := H1
    clear H1
    replace H := Option.bind_eq_some_iff.mp H
    obtain ⟨t177,A60,H⟩ := H
    replace H : ((width_Class.f kj2 a1).bind fun t178 => (if t178 = 3 then (if t177 = 1 then (some false) else (some (t177 != 2))) else (some false))) = some r := H
    have A6 := Aside0.mk A60
    clear A60
    replace H := Option.bind_eq_some_iff.mp H
    obtain ⟨t178,A70,H⟩ := H
    replace H : (if t178 = 3 then (if t177 = 1 then (some false) else (some (t177 != 2))) else (some false)) = some r := H
    have A7 := Aside0.mk A70
    clear A70
    by_cases c8 : t178 = 3
    ·rw [if_pos c8] at H
     have c8b0 : (t178 == 3) = true := beq_iff_eq.mpr c8
     have c8b1 : (t178 != 3) = false := bne_eq_false_iff_eq.mpr c8
     clear c8
     by_cases c9 : t177 = 1
     ·rw [if_pos c9] at H
      have c9b0 : (t177 == 1) = true := beq_iff_eq.mpr c9
      have c9b1 : (t177 != 1) = false := bne_eq_false_iff_eq.mpr c9
      clear c9
      obtain rfl := Option.some.inj H
      go_wp2_with (first | ((with_reducible refine gate_callee (f := 66) rfl ?_);refine goesL_ (some 13) rfl rfl Tryd.func66 (by kernel_rfl) rfl #[.int .i32 a0] rfl au1 ?_;(with_reducible refine (width_Class.calls kj2 a0 t177 _ A6.out).mono ?_);rintro e w10 ⟨rfl,hb⟩;refine ⟨_,rfl,?_⟩;have n0_ := Aside0.mk (below_step au0 hb);clear HB;have HB := n0_;clear n0_;(try clear hb);(try clear hb2);(try clear hk);(try clear hi)) | ((with_reducible refine gate_callee (f := 66) rfl ?_);refine goesL_ (some 15) rfl rfl Tryd.func66 (by kernel_rfl) rfl #[.int .i32 a1] rfl au1 ?_;(with_reducible refine (width_Class.calls kj2 a1 t178 _ A7.out).mono ?_);rintro e w11 ⟨rfl,hb⟩;refine ⟨_,rfl,?_⟩;have n0_ := Aside0.mk (below_step au0 hb);clear HB;have HB := n0_;clear n0_;(try clear hb);(try clear hb2);(try clear hk);(try clear hi)))
      go_ret
      exact ⟨au2,au0⟩
     ·rw [if_neg c9] at H
      have c9b0 : (t177 == 1) = false := beq_eq_false_iff_ne.mpr c9
      have c9b1 : (t177 != 1) = true := bne_iff_ne.mpr c9
      obtain rfl := Option.some.inj H
      go_wp2_with (first | ((with_reducible refine gate_callee (f := 66) rfl ?_);refine goesL_ (some 13) rfl rfl Tryd.func66 (by kernel_rfl) rfl #[.int .i32 a0] rfl au1 ?_;(with_reducible refine (width_Class.calls kj2 a0 t177 _ A6.out).mono ?_);rintro e w12 ⟨rfl,hb⟩;refine ⟨_,rfl,?_⟩;have n0_ := Aside0.mk (below_step au0 hb);clear HB;have HB := n0_;clear n0_;(try clear hb);(try clear hb2);(try clear hk);(try clear hi)) | ((with_reducible refine gate_callee (f := 66) rfl ?_);refine goesL_ (some 15) rfl rfl Tryd.func66 (by kernel_rfl) rfl #[.int .i32 a1] rfl au1 ?_;(with_reducible refine (width_Class.calls kj2 a1 t178 _ A7.out).mono ?_);rintro e w13 ⟨rfl,hb⟩;refine ⟨_,rfl,?_⟩;have n0_ := Aside0.mk (below_step au0 hb);clear HB;have HB := n0_;clear n0_;(try clear hb);(try clear hb2);(try clear hk);(try clear hi)))
      go_ret
      exact ⟨au2,au0⟩
    ·rw [if_neg c8] at H
     have c8b0 : (t178 == 3) = false := beq_eq_false_iff_ne.mpr c8
     have c8b1 : (t178 != 3) = true := bne_iff_ne.mpr c8
     obtain rfl := Option.some.inj H
     go_wp2_with (first | ((with_reducible refine gate_callee (f := 66) rfl ?_);refine goesL_ (some 13) rfl rfl Tryd.func66 (by kernel_rfl) rfl #[.int .i32 a0] rfl au1 ?_;(with_reducible refine (width_Class.calls kj2 a0 t177 _ A6.out).mono ?_);rintro e w14 ⟨rfl,hb⟩;refine ⟨_,rfl,?_⟩;have n0_ := Aside0.mk (below_step au0 hb);clear HB;have HB := n0_;clear n0_;(try clear hb);(try clear hb2);(try clear hk);(try clear hi)) | ((with_reducible refine gate_callee (f := 66) rfl ?_);refine goesL_ (some 15) rfl rfl Tryd.func66 (by kernel_rfl) rfl #[.int .i32 a1] rfl au1 ?_;(with_reducible refine (width_Class.calls kj2 a1 t178 _ A7.out).mono ?_);rintro e w15 ⟨rfl,hb⟩;refine ⟨_,rfl,?_⟩;have n0_ := Aside0.mk (below_step au0 hb);clear HB;have HB := n0_;clear n0_;(try clear hb);(try clear hb2);(try clear hk);(try clear hi)))
     go_ret
     exact ⟨au2,au0⟩
end Go.Proofs.YtgdpnmikcopkmaaDoor.U
end
section
namespace Go.Proofs.YtgdpnmikcopkmaaDoor.U
open Go.RowKit Go.Proofs.YtgdpnmikcopkmaaDoorW.PrintWords Go.Proofs.YtgdpnmikcopkmaaDoorW.PrintLast Go.Proofs.YtgdpnmikcopkmaaDoorW.PrintMore
attribute [local go_sem] max2_int min2_int max_two min_two max_three min_three max_four min_four   -- for this text's walks alone
set_option linter.unusedVariables false
set_option linter.unusedSimpArgs false
def cluster_Boundary.j0 : Nat → ByteArray → Int → Bool → Option (Bool)
 | 0,_,_,_ => none
 | k + 1,x0,x1,x16 => if x16 = true then (if x1 = 0 then (some true) else (some (x1 == (x0.size : Int)))) else ((unit_Boundary.f k x0 x1).bind fun t179 => (if t179 = true then ((unit_Prev.f k x0 x1).bind fun t180 => ((unit_At.f k x0 t180).bind fun bt181 => ((unit_At.f k x0 x1).bind fun bt185 => ((cluster_glued.f k bt181.1 bt185.1).bind fun t189 => (some (!t189)))))) else (some false)))
def cluster_Boundary.f (k : Nat) (a0 : ByteArray) (a1 : Int) : Option (Bool) := if a1 ≤ 0 then (cluster_Boundary.j0 k a0 a1 true) else (cluster_Boundary.j0 k a0 a1 (decide (a1 ≥ (a0.size : Int))))
set_option maxHeartbeats 8000000 in
set_option maxRecDepth 100000 in
theorem cluster_Boundary.calls (k : Nat) (a0 : ByteArray) (a1 : Int) (r : Bool) (w : World) (hT : Lib.Utf8Tabs 0 1 w) (h : cluster_Boundary.f k a0 a1 = some r) :
  Calls Tryd.prog 35 #[.string a0,.int .i64 a1] w fun e w' => e = .returned (.bool r) ∧ Below w.heap.size w w' := by
 have hu83 := Tryd.underlying83
 have HT := Aside0.mk hT
 clear hT
 have HB := Aside0.mk (Below.refl w.heap.size w)
 have H : (if a1 ≤ 0 then (cluster_Boundary.j0 k a0 a1 true) else (cluster_Boundary.j0 k a0 a1 (decide (a1 ≥ (a0.size : Int))))) = some r := h
 clear h
 have HC3 := Aside0.mk H
 clear H
 go_enter Tryd.func35,Tryd.ntmps35
 go_upto_region 1 with (fail)
 go_cut [16] (fun v16 wc => ∃ (kq : Nat) (x16_2 : Bool),v16 = .bool x16_2 ∧ Aside0 (cluster_Boundary.j0 kq a0 a1 x16_2 = some r) ∧ Aside0 (kq ≤ k) ∧ Aside0 (Below w.heap.size w wc))
 case first =>
  have H := HC3.out
  clear HC3
  by_cases c4 : a1 ≤ 0
  ·rw [if_pos c4] at H
   have c4b0 : decide (a1 ≤ 0) = true := decide_eq_true c4
   clear c4
   (first | rw [c4b0] | (simp only [i64_w,i32_w];rw [c4b0]) | skip)
   have H' := Aside0.mk H
   clear H
   go_wp2
   go_meet
   case rel => exact ⟨_,(true),au7,H',⟨by first | omega | exact Nat.le_refl _⟩,⟨au0⟩⟩
  ·rw [if_neg c4] at H
   have c4b0 : decide (a1 ≤ 0) = false := decide_eq_false c4
   clear c4
   (first | rw [c4b0] | (simp only [i64_w,i32_w];rw [c4b0]) | skip)
   have H' := Aside0.mk H
   clear H
   go_wp2
   go_meet
   case rel => exact ⟨_,(decide (a1 ≥ (a0.size : Int))),au7,H',⟨by first | omega | exact Nat.le_refl _⟩,⟨au0⟩⟩
 case rest =>
  clear HC3
  try clear p2
  try clear c3
  try clear c4
  try clear c4b0
  obtain ⟨kq,x16_2,rfl,HA,HJ2,HB⟩ := hcut
  cases kq with
  | zero => exact absurd HA.out (by simp [cluster_Boundary.j0])
  | succ kj2 =>
   have H := HA.out
   clear HA
   simp only [cluster_Boundary.j0] at H
   by_cases c5 : x16_2 = true
   ·subst c5
    have H1 : (if a1 = 0 then (some true) else (some (a1 == (a0.size : Int)))) = some r := by rw [if_pos rfl] at H;exact H
    clear H
    have H := H1
    clear H1
    by_cases c6 : a1 = 0
    ·rw [if_pos c6] at H
     have c6b0 : (a1 == 0) = true := beq_iff_eq.mpr c6
     have c6b1 : (a1 != 0) = false := bne_eq_false_iff_eq.mpr c6
     clear c6
     obtain rfl := Option.some.inj H
     go_wp2
     go_ret
     exact ⟨au2,au0⟩
    ·rw [if_neg c6] at H
     have c6b0 : (a1 == 0) = false := beq_eq_false_iff_ne.mpr c6
     have c6b1 : (a1 != 0) = true := bne_iff_ne.mpr c6
     obtain rfl := Option.some.inj H
     go_wp2
     go_ret
     exact ⟨au2,au0⟩
   ·replace c5 := Bool.eq_false_iff.mpr c5
    subst c5
    have H1 : ((unit_Boundary.f kj2 a0 a1).bind fun t179 => (if t179 = true then ((unit_Prev.f kj2 a0 a1).bind fun t180 => ((unit_At.f kj2 a0 t180).bind fun bt181 => ((unit_At.f kj2 a0 a1).bind fun bt185 => ((cluster_glued.f kj2 bt181.1 bt185.1).bind fun t189 => (some (!t189)))))) else (some false))) = some r := by rw [if_neg (show ¬ (false = true) by decide)] at H;exact H
    clear H
    have H := H1
    clear H1
    replace H := Option.bind_eq_some_iff.mp H
    obtain ⟨t179,A70,H⟩ := H
    replace H : (if t179 = true then ((unit_Prev.f kj2 a0 a1).bind fun t180 => ((unit_At.f kj2 a0 t180).bind fun bt181 => ((unit_At.f kj2 a0 a1).bind fun bt185 => ((cluster_glued.f kj2 bt181.1 bt185.1).bind fun t189 => (some (!t189)))))) else (some false)) = some r := H
    have A7 := Aside0.mk A70
    clear A70
    by_cases c8 : t179 = true
    ·subst c8
     have H1 : ((unit_Prev.f kj2 a0 a1).bind fun t180 => ((unit_At.f kj2 a0 t180).bind fun bt181 => ((unit_At.f kj2 a0 a1).bind fun bt185 => ((cluster_glued.f kj2 bt181.1 bt185.1).bind fun t189 => (some (!t189)))))) = some r := by rw [if_pos rfl] at H;exact H
     clear H
     have H := H1
     clear H1
     replace H := Option.bind_eq_some_iff.mp H
     obtain ⟨t180,A90,H⟩ := H
     replace H : ((unit_At.f kj2 a0 t180).bind fun bt181 => ((unit_At.f kj2 a0 a1).bind fun bt185 => ((cluster_glued.f kj2 bt181.1 bt185.1).bind fun t189 => (some (!t189))))) = some r := H
     have A9 := Aside0.mk A90
     clear A90
     replace H := Option.bind_eq_some_iff.mp H
     obtain ⟨⟨t181,t182,t183⟩,A100,H⟩ := H
     replace H : ((unit_At.f kj2 a0 a1).bind fun bt185 => ((cluster_glued.f kj2 t181 bt185.1).bind fun t189 => (some (!t189)))) = some r := H
     have A10 := Aside0.mk A100
     clear A100
     replace H := Option.bind_eq_some_iff.mp H
     obtain ⟨⟨t185,t186,t187⟩,A110,H⟩ := H
     replace H : ((cluster_glued.f kj2 t181 t185).bind fun t189 => (some (!t189))) = some r := H
     have A11 := Aside0.mk A110
     clear A110
     replace H := Option.bind_eq_some_iff.mp H
     obtain ⟨t189,A120,H⟩ := H
     replace H : (some (!t189)) = some r := H
     have A12 := Aside0.mk A120
     clear A120
     obtain rfl := Option.some.inj H
     go_wp2_with (first | ((with_reducible refine gate_callee (f := 57) rfl ?_);refine goesL_ (some 27) rfl rfl Tryd.func57 (by kernel_rfl) rfl #[.string a0,.int .i64 a1] rfl au1 ?_;(with_reducible refine (unit_Boundary.calls kj2 a0 a1 true _ ?side1 A7.out).mono ?_);(case side1 => exact tabs_below HT.out au0);rintro e w13 ⟨rfl,hb⟩;refine ⟨_,rfl,?_⟩;have n0_ := Aside0.mk (below_step au0 hb);clear HB;have HB := n0_;clear n0_;(try clear hb);(try clear hb2);(try clear hk);(try clear hi)) | ((with_reducible refine gate_callee (f := 59) rfl ?_);refine goesL_ (some 33) rfl rfl Tryd.func59 (by kernel_rfl) rfl #[.string a0,.int .i64 a1] rfl au1 ?_;(with_reducible refine (unit_Prev.calls kj2 a0 a1 t180 _ ?side1 A9.out).mono ?_);(case side1 => exact tabs_below HT.out au0);rintro e w14 ⟨rfl,hb⟩;refine ⟨_,rfl,?_⟩;have n0_ := Aside0.mk (below_step au0 hb);clear HB;have HB := n0_;clear n0_;(try clear hb);(try clear hb2);(try clear hk);(try clear hi)) | ((with_reducible refine gate_callee (f := 58) rfl ?_);refine goesL_ (some 34) rfl rfl Tryd.func58 (by kernel_rfl) rfl #[.string a0,.int .i64 t180] rfl au1 ?_;(with_reducible refine (unit_At.calls kj2 a0 t180 t181 t182 t183 _ ?side1 A10.out).mono ?_);(case side1 => exact tabs_below HT.out au0);rintro e w15 ⟨rfl,hb⟩;refine ⟨_,rfl,?_⟩;have n0_ := Aside0.mk (below_step au0 hb);clear HB;have HB := n0_;clear n0_;(try clear hb);(try clear hb2);(try clear hk);(try clear hi)) | ((with_reducible refine gate_dst (N := 5) rfl ?_);(try (refine gate_guard (by rfl) ?_;dsimp only));refine box_event ?hg (N := 5) ?hd (cs := #[.int .i32 0,.int .i64 0]) (t := 83) ?hr ?_;(case hd => rfl);(case hg => rfl);(case hr => first | (go_simp;done) | (go_simp;rfl));intro gb184 hg w16 hbox hb;have n0_ := Aside0.mk (below_step au0 hb);have n1_ := Aside0.mk (hbox);have n2_ := Aside0.mk ((by rw [hg];exact (below_size au0) : w.heap.size ≤ gb184));have n3_ := Aside0.mk ((by rw [hg];exact (below_size au0) : w.heap.size ≤ gb184));clear HB;have HB := n0_;have BK184 := n1_;have GW184 := n2_;have GE184 := n3_;clear n0_ n1_ n2_ n3_;clear hb hbox hg;have hcz17_0 : w16.cell? ⟨gb184,0,none⟩ = some (.int .i32 0) := (blk_cell BK184.out 0).trans rfl;have hcz17_1 : w16.cell? ⟨gb184,1,none⟩ = some (.int .i64 0) := (blk_cell BK184.out 1).trans rfl;have hfz17_0 := blk_frozen BK184.out 0;have hfz17_1 := blk_frozen BK184.out 1) | ((with_reducible refine gate_callee (f := 58) rfl ?_);refine goesL_ (some 40) rfl rfl Tryd.func58 (by kernel_rfl) rfl #[.string a0,.int .i64 a1] rfl au1 ?_;(with_reducible refine (unit_At.calls kj2 a0 a1 t185 t186 t187 _ ?side1 A11.out).mono ?_);(case side1 => exact tabs_below HT.out au14);rintro e w18 ⟨rfl,hb⟩;refine ⟨_,rfl,?_⟩;have n0_ := Aside0.mk (blk_below (g := gb184) (o := .cells #[.int .i32 t181,.int .i64 t182] 83 (0,0)) (by (with_reducible repeat (first | refine blk_drewN ?_ _ | refine blk_drew ?_ | refine blk_alloc ?_ _));refine blk_put (cs := #[.int .i32 t181,.int .i64 0]) ?_ 1 _ rfl;(with_reducible repeat (first | refine blk_drewN ?_ _ | refine blk_drew ?_ | refine blk_alloc ?_ _));refine blk_put (cs := #[.int .i32 0,.int .i64 0]) ?_ 0 _ rfl;(with_reducible repeat (first | refine blk_drewN ?_ _ | refine blk_drew ?_ | refine blk_alloc ?_ _));exact BK184.out) hb);have n1_ := Aside0.mk (below_step au14 hb);clear BK184;clear HB;have BK184 := n0_;have HB := n1_;clear n0_ n1_;(try clear hb);(try clear hb2);(try clear hk);(try clear hi)) | ((with_reducible refine gate_dst (N := 7) rfl ?_);(try (refine gate_guard (by rfl) ?_;dsimp only));refine box_event ?hg (N := 7) ?hd (cs := #[.int .i32 0,.int .i64 0]) (t := 83) ?hr ?_;(case hd => rfl);(case hg => rfl);(case hr => first | (go_simp;done) | (go_simp;rfl));intro gb188 hg w19 hbox hb;have n0_ := Aside0.mk (blk_below (g := gb184) (o := .cells #[.int .i32 t181,.int .i64 t182] 83 (0,0)) (by (with_reducible repeat (first | refine blk_drewN ?_ _ | refine blk_drew ?_ | refine blk_alloc ?_ _));exact BK184.out) hb);have n1_ := Aside0.mk (below_step au14 hb);have n2_ := Aside0.mk (hbox);have n3_ := Aside0.mk ((by rw [hg];exact (below_size au14) : w.heap.size ≤ gb188));have n4_ := Aside0.mk ((by rw [hg];exact (below_size au14) : w.heap.size ≤ gb188));have n5_ := Aside0.mk ((by rw [hg];exact Nat.ne_of_lt (blk_lt (g := gb184) (o := .cells #[.int .i32 t181,.int .i64 t182] 83 (0,0)) (by (with_reducible repeat (first | refine blk_drewN ?_ _ | refine blk_drew ?_ | refine blk_alloc ?_ _));exact BK184.out)) : gb184 ≠ gb188));have n6_ := Aside0.mk ((by rw [hg];exact Nat.ne_of_gt (blk_lt (g := gb184) (o := .cells #[.int .i32 t181,.int .i64 t182] 83 (0,0)) (by (with_reducible repeat (first | refine blk_drewN ?_ _ | refine blk_drew ?_ | refine blk_alloc ?_ _));exact BK184.out)) : gb188 ≠ gb184));clear BK184;clear HB;have BK184 := n0_;have HB := n1_;have BK188 := n2_;have GW188 := n3_;have GE188 := n4_;have NB184_188 := n5_;have NB188_184 := n6_;clear n0_ n1_ n2_ n3_ n4_ n5_ n6_;clear hb hbox hg;have hnb20 := NB188_184.out;have hnc20 := NB184_188.out;have hcz21_0 : w19.cell? ⟨gb188,0,none⟩ = some (.int .i32 0) := (blk_cell BK188.out 0).trans rfl;have hcz21_1 : w19.cell? ⟨gb188,1,none⟩ = some (.int .i64 0) := (blk_cell BK188.out 1).trans rfl;have hfz21_0 := blk_frozen BK188.out 0;have hfz21_1 := blk_frozen BK188.out 1;have hcz22_0 : w19.cell? ⟨gb184,0,none⟩ = some (.int .i32 t181) := (blk_cell BK184.out 0).trans rfl;have hcz22_1 : w19.cell? ⟨gb184,1,none⟩ = some (.int .i64 t182) := (blk_cell BK184.out 1).trans rfl;have hfz22_0 := blk_frozen BK184.out 0;have hfz22_1 := blk_frozen BK184.out 1) | ((with_reducible refine gate_callee (f := 60) rfl ?_);refine goesL_ (some 47) rfl rfl Tryd.func60 (by kernel_rfl) rfl #[.int .i32 t181,.int .i32 t185] rfl au1 ?_;(with_reducible refine (cluster_glued.calls kj2 t181 t185 t189 _ A12.out).mono ?_);rintro e w23 ⟨rfl,hb⟩;refine ⟨_,rfl,?_⟩;have n0_ := Aside0.mk (blk_below (g := gb184) (o := .cells #[.int .i32 t181,.int .i64 t182] 83 (0,0)) (by (with_reducible repeat (first | refine blk_drewN ?_ _ | refine blk_drew ?_ | refine blk_alloc ?_ _));refine blk_far ?_ NB184_188.out _;(with_reducible repeat (first | refine blk_drewN ?_ _ | refine blk_drew ?_ | refine blk_alloc ?_ _));refine blk_far ?_ NB184_188.out _;(with_reducible repeat (first | refine blk_drewN ?_ _ | refine blk_drew ?_ | refine blk_alloc ?_ _));exact BK184.out) hb);have n1_ := Aside0.mk (blk_below (g := gb188) (o := .cells #[.int .i32 t185,.int .i64 t186] 83 (0,0)) (by (with_reducible repeat (first | refine blk_drewN ?_ _ | refine blk_drew ?_ | refine blk_alloc ?_ _));refine blk_put (cs := #[.int .i32 t185,.int .i64 0]) ?_ 1 _ rfl;(with_reducible repeat (first | refine blk_drewN ?_ _ | refine blk_drew ?_ | refine blk_alloc ?_ _));refine blk_put (cs := #[.int .i32 0,.int .i64 0]) ?_ 0 _ rfl;(with_reducible repeat (first | refine blk_drewN ?_ _ | refine blk_drew ?_ | refine blk_alloc ?_ _));exact BK188.out) hb);have n2_ := Aside0.mk (below_step (by repeat (first | (with_reducible first | exact HB.out | apply below_alloc | apply pw_below_drewN | apply below_drew1 | refine below_set ?_ GE184.out | refine below_set ?_ GE188.out) | exact HB.out)) hb);clear BK184;clear BK188;clear HB;have BK184 := n0_;have BK188 := n1_;have HB := n2_;clear n0_ n1_ n2_;(try clear hb);(try clear hb2);(try clear hk);(try clear hi)))
     go_ret
     exact ⟨au2,by repeat (first | (with_reducible first | exact HB.out | apply below_alloc | apply pw_below_drewN | apply below_drew1 | refine below_set ?_ GE184.out | refine below_set ?_ GE188.out) | exact HB.out)⟩
    ·replace c8 := Bool.eq_false_iff.mpr c8
     subst c8
     have H1 : (some false) = some r := by rw [if_neg (show ¬ (false = true) by decide)] at H;exact H
     clear H
     have H := H1
     clear H1
     obtain rfl := Option.some.inj H
     go_wp2_with (first | ((with_reducible refine gate_callee (f := 57) rfl ?_);refine goesL_ (some 27) rfl rfl Tryd.func57 (by kernel_rfl) rfl #[.string a0,.int .i64 a1] rfl au1 ?_;(with_reducible refine (unit_Boundary.calls kj2 a0 a1 false _ ?side1 A7.out).mono ?_);(case side1 => exact tabs_below HT.out au0);rintro e w24 ⟨rfl,hb⟩;refine ⟨_,rfl,?_⟩;have n0_ := Aside0.mk (below_step au0 hb);clear HB;have HB := n0_;clear n0_;(try clear hb);(try clear hb2);(try clear hk);(try clear hi)))
     go_ret
     exact ⟨au2,au0⟩
end Go.Proofs.YtgdpnmikcopkmaaDoor.U
end
section
namespace Go.Proofs.YtgdpnmikcopkmaaDoor.U
open Go.RowKit Go.Proofs.YtgdpnmikcopkmaaDoorW.PrintWords Go.Proofs.YtgdpnmikcopkmaaDoorW.PrintLast Go.Proofs.YtgdpnmikcopkmaaDoorW.PrintMore
attribute [local go_sem] max2_int min2_int max_two min_two max_three min_three max_four min_four   -- for this text's walks alone
set_option linter.unusedVariables false
set_option linter.unusedSimpArgs false
def cluster_Next.l0 : Nat → ByteArray → Int → Option (Int)
 | 0,_,_ => none
 | k + 1,x0,x1 => if x1 < (x0.size : Int) then ((unit_Next.f k x0 x1).bind fun t192 => ((cluster_Boundary.f k x0 t192).bind fun t193 => (if t193 = true then (some t192) else (cluster_Next.l0 k x0 t192)))) else (some (x0.size : Int))
def cluster_Next.f (k : Nat) (a0 : ByteArray) (a1 : Int) : Option (Int) := if a1 < 0 then (some 0) else (cluster_Next.l0 k a0 a1)
set_option maxHeartbeats 8000000 in
set_option maxRecDepth 100000 in
theorem cluster_Next.calls (k : Nat) (a0 : ByteArray) (a1 : Int) (r : Int) (w : World) (hT : Lib.Utf8Tabs 0 1 w) (h : cluster_Next.f k a0 a1 = some r) :
  Calls Tryd.prog 39 #[.string a0,.int .i64 a1] w fun e w' => e = .returned (.int .i64 r) ∧ Below w.heap.size w w' := by
 have HT := Aside0.mk hT
 clear hT
 have HB := Aside0.mk (Below.refl w.heap.size w)
 have H : (if a1 < 0 then (some 0) else (cluster_Next.l0 k a0 a1)) = some r := h
 clear h
 by_cases c3 : a1 < 0
 ·rw [if_pos c3] at H
  have c3b0 : decide (a1 < 0) = true := decide_eq_true c3
  clear c3
  obtain rfl := Option.some.inj H
  go_enter Tryd.func39,Tryd.ntmps39
  go_wp2
  go_ret
  exact ⟨au2,au0⟩
 ·rw [if_neg c3] at H
  have c3b0 : decide (a1 < 0) = false := decide_eq_false c3
  clear c3
  have H' := Aside0.mk H
  clear H
  go_enter Tryd.func39,Tryd.ntmps39
  go_wp2
  go_loopg [1] k (fun kq v1 w' => ∃ (x1_1 : Int),v1 = .int .i64 x1_1 ∧ Aside0 (cluster_Next.l0 kq a0 x1_1 = some r) ∧ Aside0 (kq ≤ k) ∧ Aside0 (Below w.heap.size w w'))
  case atStart => exact ⟨(a1),au7,H',⟨Nat.le_refl _⟩,⟨au0⟩⟩
  case round =>
   clear H'
   try clear p2
   try clear c3
   try clear c3b0
   obtain ⟨x1_1,rfl,HA,HK1,HB⟩ := hrel
   cases gk with
   | zero => exact absurd HA.out (by simp [cluster_Next.l0])
   | succ k1 =>
    have H := HA.out
    clear HA
    simp only [cluster_Next.l0] at H
    by_cases c4 : x1_1 < (a0.size : Int)
    ·rw [if_pos c4] at H
     have c4b0 : decide (x1_1 < (a0.size : Int)) = true := decide_eq_true c4
     clear c4
     replace H := Option.bind_eq_some_iff.mp H
     obtain ⟨t192,A50,H⟩ := H
     replace H : ((cluster_Boundary.f k1 a0 t192).bind fun t193 => (if t193 = true then (some t192) else (cluster_Next.l0 k1 a0 t192))) = some r := H
     have A5 := Aside0.mk A50
     clear A50
     replace H := Option.bind_eq_some_iff.mp H
     obtain ⟨t193,A60,H⟩ := H
     replace H : (if t193 = true then (some t192) else (cluster_Next.l0 k1 a0 t192)) = some r := H
     have A6 := Aside0.mk A60
     clear A60
     by_cases c7 : t193 = true
     ·subst c7
      have H1 : (some t192) = some r := by rw [if_pos rfl] at H;exact H
      clear H
      have H := H1
      clear H1
      obtain rfl := Option.some.inj H
      go_wp2_with (first | ((with_reducible refine gate_callee (f := 62) rfl ?_);refine goesL_ (some 13) rfl rfl Tryd.func62 (by kernel_rfl) rfl #[.string a0,.int .i64 x1_1] rfl au1 ?_;(with_reducible refine (unit_Next.calls k1 a0 x1_1 t192 _ ?side1 A5.out).mono ?_);(case side1 => exact tabs_below HT.out au0);rintro e w8 ⟨rfl,hb⟩;refine ⟨_,rfl,?_⟩;have n0_ := Aside0.mk (below_step au0 hb);clear HB;have HB := n0_;clear n0_;(try clear hb);(try clear hb2);(try clear hk);(try clear hi)) | ((with_reducible refine gate_callee (f := 35) rfl ?_);refine goesL_ (some 16) rfl rfl Tryd.func35 (by kernel_rfl) rfl #[.string a0,.int .i64 t192] rfl au1 ?_;(with_reducible refine (cluster_Boundary.calls k1 a0 t192 true _ ?side1 A6.out).mono ?_);(case side1 => exact tabs_below HT.out au0);rintro e w9 ⟨rfl,hb⟩;refine ⟨_,rfl,?_⟩;have n0_ := Aside0.mk (below_step au0 hb);clear HB;have HB := n0_;clear n0_;(try clear hb);(try clear hb2);(try clear hk);(try clear hi)))
      go_ret
      exact ⟨au2,au0⟩
     ·replace c7 := Bool.eq_false_iff.mpr c7
      subst c7
      have H1 : (cluster_Next.l0 k1 a0 t192) = some r := by rw [if_neg (show ¬ (false = true) by decide)] at H;exact H
      clear H
      have H := H1
      clear H1
      have H' := Aside0.mk H
      clear H
      go_wp2_with (first | ((with_reducible refine gate_callee (f := 62) rfl ?_);refine goesL_ (some 13) rfl rfl Tryd.func62 (by kernel_rfl) rfl #[.string a0,.int .i64 x1_1] rfl au1 ?_;(with_reducible refine (unit_Next.calls k1 a0 x1_1 t192 _ ?side1 A5.out).mono ?_);(case side1 => exact tabs_below HT.out au0);rintro e w10 ⟨rfl,hb⟩;refine ⟨_,rfl,?_⟩;have n0_ := Aside0.mk (below_step au0 hb);clear HB;have HB := n0_;clear n0_;(try clear hb);(try clear hb2);(try clear hk);(try clear hi)) | ((with_reducible refine gate_callee (f := 35) rfl ?_);refine goesL_ (some 16) rfl rfl Tryd.func35 (by kernel_rfl) rfl #[.string a0,.int .i64 t192] rfl au1 ?_;(with_reducible refine (cluster_Boundary.calls k1 a0 t192 false _ ?side1 A6.out).mono ?_);(case side1 => exact tabs_below HT.out au0);rintro e w11 ⟨rfl,hb⟩;refine ⟨_,rfl,?_⟩;have n0_ := Aside0.mk (below_step au0 hb);clear HB;have HB := n0_;clear n0_;(try clear hb);(try clear hb2);(try clear hk);(try clear hi)))
      go_roundg k1
      case measure => have := HK1.out;omega
      case rel => exact ⟨(t192),au7,H',⟨by have := HK1.out;omega⟩,⟨au0⟩⟩
    ·rw [if_neg c4] at H
     have c4b0 : decide (x1_1 < (a0.size : Int)) = false := decide_eq_false c4
     clear c4
     obtain rfl := Option.some.inj H
     go_wp2
     go_ret
     exact ⟨au2,au0⟩
end Go.Proofs.YtgdpnmikcopkmaaDoor.U
end
section
namespace Go.Proofs.YtgdpnmikcopkmaaDoor.Pu
open Go Go.RowKit Go.Proofs.YtgdpnmikcopkmaaDoor.Mu Go.Proofs.YtgdpnmikcopkmaaDoor.U Go.Proofs.YtgdpnmikcopkmaaDoorW.PrintWords Go.Proofs.YtgdpnmikcopkmaaDoorW.PrintLast Go.Proofs.YtgdpnmikcopkmaaDoorW.PrintMore
set_option linter.unusedVariables false
theorem srow_loop (a : List Cl) (ha : a.length ≤ 1099511627776) : ∀ n i : Nat,i + n = a.length → Ev (fun k => bodkinref22_SameRow.l0 k a a (i : Int)) true := by
 intro n
 induction n with
 | zero => intro i hi;exact Ev.step (fun k => bodkinref22_SameRow.l0.eq_2 ..) (ev_neg (by omega) (Ev.now _))
 | succ n ih =>
  intro i hi
  refine Ev.step (fun k => bodkinref22_SameRow.l0.eq_2 ..) (ev_pos (by omega) (ev_pos (by omega) (ev_pos (by omega) (ev_neg (by simp) ?_))))
  rw [w64 (by omega) (by omega)]
  exact ih (i + 1) (by omega)
theorem srow_refl (a : List Cl) (ha : a.length ≤ 1099511627776) : Ev (fun k => bodkinref22_SameRow.f k a a) true := by
 unfold bodkinref22_SameRow.f
 exact ev_pos rfl (srow_loop a ha a.length 0 (by omega))
/-- The document's examples. -/
def exA : Sc × ByteArray := feedS (newSc 3 2,⟨#[]⟩) ⟨#[97,98,99]⟩
def exB : Sc × ByteArray := feedS exA ⟨#[27,91,75,100]⟩
theorem exA_c : exA.1.c = 2 := by kernel_rfl
theorem exA_r : exA.1.r = 0 := by kernel_rfl
theorem exA_full : exA.1.full = true := by kernel_rfl
def exR0 : List Cl := [⟨⟨#[97]⟩,1⟩,⟨⟨#[98]⟩,1⟩]
def exR1 : List Cl := [⟨⟨#[100]⟩,1⟩]
theorem ex_row0 : bodkinlaw22_row.f 10 ⟨#[97,98]⟩ = some exR0 := by kernel_rfl
theorem ex_row1 : bodkinlaw22_row.f 10 ⟨#[100]⟩ = some exR1 := by kernel_rfl
theorem exB_n : exB.1.frameN 2 = 2 := by kernel_rfl
theorem exB_nr : exB.1.nrows = 2 := by kernel_rfl
theorem exB_frame : frameL exB.1.rows 2 = [exR0,exR1] := by kernel_rfl
theorem ex_same0 : bodkinref22_SameRow.f 10 exR0 exR0 = some true := by kernel_rfl
theorem ex_same1 : bodkinref22_SameRow.f 10 exR1 exR1 = some true := by kernel_rfl
theorem exB_all : allEq [exR0,exR1] exB.1.rows 2 = true := by kernel_rfl
theorem ex_next : cluster_Next.f 50 ⟨#[97]⟩ 0 = some 1 := by kernel_rfl
theorem exA_fit : Fit exA 11 := (fit_new 3 2).feed ⟨#[97,98,99]⟩
theorem exB_fit : Fit exB 26 := exA_fit.feed ⟨#[27,91,75,100]⟩
end Go.Proofs.YtgdpnmikcopkmaaDoor.Pu
end
