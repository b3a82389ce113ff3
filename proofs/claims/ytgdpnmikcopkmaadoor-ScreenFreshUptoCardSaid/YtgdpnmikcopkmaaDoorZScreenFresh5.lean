/- What the law ScreenFresh reaches of this seat's own texts, merged; what nothing uses is left out. -/
import Derived.Test.YtgdpnmikcopkmaaDoorZScreenFresh0
import Derived.Test.YtgdpnmikcopkmaaDoorZScreenFresh4
section
namespace Go.Proofs.YtgdpnmikcopkmaaDoor.U
open Go.RowKit Go.Proofs.YtgdpnmikcopkmaaDoor.Pu Go.Proofs.YtgdpnmikcopkmaaDoorW.PrintWords Go.Proofs.YtgdpnmikcopkmaaDoorW.PrintLast Go.Proofs.YtgdpnmikcopkmaaDoorW.PrintMore
set_option linter.unusedVariables false
set_option linter.unusedSimpArgs false
/-- Are the first n rows of the frame the screen's? -/
def allEq (L rows : List (List Cl)) : Nat → Bool
 | 0 => true
 | n + 1 => allEq L rows n && eqR (L.getD n []) (trimR (rows.getD n []))
theorem allEq_false {L rows : List (List Cl)} {i : Nat} (h : eqR (L.getD i []) (trimR (rows.getD i [])) = false) : ∀ n,i < n → allEq L rows n = false
 | 0,hi => by omega
 | n + 1,hi => by
  unfold allEq
  rcases Nat.lt_or_ge i n with h2 | h2
  ·rw [allEq_false h n h2];rfl
  ·have : i = n := by omega
   subst this
   rw [h,Bool.and_false]
theorem place_eq (d : Nat) (w : World) (x0 y0 x1 y1 : Int) :
  (Op.equalIn (d + 2) 24 (.agg #[.int .i64 x0,.int .i64 x1]) (.agg #[.int .i64 y0,.int .i64 y1])).run Tryd.prog w = .ok (x0 == y0 && (x1 == y1)) w := by
 refine eqA_of Tryd.underlying24 (by kernel_rfl) ?_
 refine eqf_cons (by rfl) (by go_simp;rfl) (by go_simp;rfl) (by go_simp) ?_
 exact eqf_last (by rfl) (by go_simp;rfl) (by go_simp;rfl) (by go_simp)
attribute [local go_sem high] place_eq
def sh1.T : Bool × List (List Nat × List Nat) := (true,[([],[]),([0],[0]),([1],[1]),([2,1],[2]),([3],[3]),([4,3],[3,4]),([3],[3]),([6,3],[3,6]),([7,3],[3,7]),([8,3],[3,8]),([5,9,3],[3,5,9]),([3,10],[3,10]),([11,3],[11]),([12],[12]),([13,12],[12,13]),([14,12],[12,14]),([15,12],[12,15]),([12,16],[12,16]),([17,12],[17]),([18],[18]),([19,18],[18,19]),([20,18],[18,20]),([18],[18]),([22,18],[18,22]),([23,18],[18,23]),([24,18],[18,24]),([21,25,18],[18,21,25]),([18,26],[18,26]),([27,18],[27]),([28],[28]),([29,28,28],[28,29]),([28],[28]),([31,28],[28,31]),([32,28],[28,32]),([30,33,28],[28,30,33]),([28,34],[28,34]),([35,30],[35]),([36],[36]),([37,36],[36,37]),([36],[36]),([39,36],[36,39]),([40,36],[36,40]),([41,36],[36,41]),([38,42,36],[36,38,42]),([36,43],[36,43])])
def sh1.B : List Nat := [0,1,3,7,15,31,15,79,207,463,1023,2047,4095,8191,16383,32767,65535,131071,262143,524287,1048575,2097151,524287,4718591,13107199,29884415,67108863,134217727,268435455,536870911,1073741823,536870911,2684354559,6979321855,17179869183,34359738367,68719476735,137438953471,274877906943,137438953471,687194767359,1786706395135,3985729650687,8796093022207,17592186044415]
theorem sh1.tab : rtab .any (opsOf Tryd.f18 1) = sh1.T := by kernel_rfl
theorem sh1.bits : waitsOk sh1.T.2 sh1.B = true := by kernel_rfl
set_option maxRecDepth 100000 in
set_option maxHeartbeats 8000000 in
theorem sc_shows {base p : Nat} {ok : Nat → Prop} {W : World} {s : Sc} {hd : ByteArray} (h : ScrAt base p ok W s hd) (hb : base ≤ W.heap.size) (hO : s.Ok) (fw fr fc : Int) (FA : Option Addr) (fcap : Nat) (FL : List (List Cl))
  (hF : ∀ w,Kept W w (fun k => (ok k ∧ k < W.heap.size) ∨ k = p) → Kd.C kRow w FA FL.length FL) (hFc : FL.length ≤ fcap) (hFl : ∀ row ∈ FL,row.length ≤ 1099511627776) (m1 : fw = s.w) (m2 : 1 ≤ FL.length) (m3 : FL.length ≤ s.h) (m4 : s.nrows ≤ FL.length) (m5 : fr = s.r) (m6 : fc = s.c) :
  Calls Tryd.prog 18 #[.pointer (some ⟨p,0,none⟩),.agg #[.int .i64 fw,.slice FA FL.length fcap,.int .i64 fr,.int .i64 fc]] W fun e w' => e = .returned (.bool (allEq FL s.rows FL.length)) ∧ Stp base p (fun k => ok k ∧ k < W.heap.size) W w' s hd := by
 have o1 := hO.h1
 have o2 := hO.w2
 have o4 := hO.h2
 have o5 := hO.rl
 have hcl : ∀ row ∈ s.rows,row.length ≤ 65535 := fun row hq => Nat.le_trans (hO.cl row hq) o2
 have hpl := h.lt
 have M1 := Lib.hid m1
 have M5 := Lib.hid m5
 have M6 := Lib.hid m6
 clear m1 m5 m6
 go_enter Tryd.func18,Tryd.ntmps18
 have hs0 := (Stp.start h.bound).more (below_alloc (Below.refl _ W) (.cells #[.int .i64 fw,.slice FA FL.length fcap,.int .i64 fr,.int .i64 fc] 26 (0,0))) hb
 have hq0 := World.alloc_heap_new W (.cells #[.int .i64 fw,.slice FA FL.length fcap,.int .i64 fr,.int .i64 fc] 26 (0,0))
 go_upto_region 1 with (fail)
 generalize W.alloc (.cells #[.int .i64 fw,.slice FA FL.length fcap,.int .i64 fr,.int .i64 fc] 26 (0,0)) = w0 at hs0 hq0 ⊢
 generalize hqe : W.heap.size = q at hq0 ⊢
 have hqW : q = W.heap.size := hqe.symm
 have hqH : W.heap.size ≤ q := by omega
 have hqp : p < q := by omega
 clear hqe hqW
 obtain ⟨rv,⟨z0,z1,_,z3,z4,_⟩,_⟩ := hs0.at_.cells
 have q1 : (fw != (s.w : Int)) = false := by rw [M1.out];simp
 have q2 := eq_false (show ¬ (FL.length : Int) < 1 by omega)
 have q3 := eq_false (show ¬ (s.h : Int) < (FL.length : Int) by omega)
 have q4 := eq_false (show ¬ (FL.length : Int) < (s.nrows : Int) by omega)
 have q5 : (fr == (s.r : Int)) = true := by rw [M5.out];simp
 have q6 : (fc == (s.c : Int)) = true := by rw [M6.out];simp
 refine start_ (n := 45) (S := fun w' => w'.cell? ⟨p,0,none⟩ = some (.int .i64 s.w) ∧ w'.cell? ⟨p,1,none⟩ = some (.int .i64 s.h) ∧ w'.cell? ⟨p,3,none⟩ = some (.int .i64 s.r) ∧ w'.cell? ⟨p,4,none⟩ = some (.int .i64 s.c) ∧ w'.cell? ⟨q,0,none⟩ = some (.int .i64 fw) ∧ w'.cell? ⟨q,1,none⟩ = some (.slice FA FL.length fcap) ∧ w'.cell? ⟨q,2,none⟩ = some (.int .i64 fr) ∧ w'.cell? ⟨q,3,none⟩ = some (.int .i64 fc)) (ds := []) #[false,false,false,false,false,false,false,false,false,false,false,false,false,false,false,false,false,false,false,false,false,false,false,false,false,false,false,false,false,false,false,false,false,false,false,false,false,false,false,false,false,false,false,false,false] (by kernel_rfl) rfl rfl ⟨z0,z1,z3,z4,blk_cell hq0 0,blk_cell hq0 1,blk_cell hq0 2,blk_cell hq0 3⟩ (fun hHeld => ?_);refine with_tabW sh1.tab sh1.bits (fun HT_ HW_ => ?_)
 have hs1 := hs0.more (below_drew (Below.refl _ _)) hb
 have hq1 : w0.drew.heap[q]? = _ := hq0
 generalize w0.drew = w1 at hs1 hq1 hHeld ⊢
 clear hs0 hq0 z0 z1 z3 z4
 refine pure_ (i := 0) (N := (some 7)) (v := ?_) (a' := ?_) #[true,false,false,false,false,false,false,false,false,false,false,false,false,false,false,false,false,false,false,false,false,false,false,false,false,false,false,false,false,false,false,false,false,false,false,false,false,false,false,false,false,false,false,false,false] rfl rfl (any_of HT_.out (by kernel_rfl)) (fun _ _ _ h => h) (Or.inl ⟨by rfl,?_⟩) ?_ ?_
 rotate_left
 ·intro w'
  go_simp
  with_reducible rfl
 rotate_left
 ·simp only [Act.put,List.setIfInBounds_toArray,List.set_cons_zero,List.set_cons_succ,i64_w,i32_w]
  rfl
 refine one_ (i := 1) (N := (some 8)) #[true,true,false,false,false,false,false,false,false,false,false,false,false,false,false,false,false,false,false,false,false,false,false,false,false,false,false,false,false,false,false,false,false,false,false,false,false,false,false,false,false,false,false,false,false] rfl rfl (one_of HT_.out (by kernel_rfl)) (by decide) (fun K hK => ?_)
 refine call_ 42 #[.pointer (some ⟨p,0,none⟩)] (by rfl) rfl au6 ?_
 refine (sc_ready hs1.at_ (hs1.bs hb)).mono ?_
 rintro e w2 ⟨rfl,hs2⟩
 rw [rdy_ok hO] at hs2
 have hq2 := hs2.keeps hq1 (fun hk => by have := hk.2;omega) (by omega)
 have hs2 := hs1.then_ hs2
 obtain ⟨rv,⟨c0,c1,_,c3,c4,_⟩,_⟩ := hs2.at_.cells
 refine ⟨_,rfl,hK.out _ _ ⟨c0,c1,c3,c4,blk_cell hq2 0,blk_cell hq2 1,blk_cell hq2 2,blk_cell hq2 3⟩ (fun hHeld => ?_)⟩
 clear hK K hs1 hq1 c0 c1 c3 c4
 refine norm_ (a' := ?_) ?_ ?_
 rotate_left
 ·show Act.put _ (some 8) _ = _
  simp only [Act.put,List.setIfInBounds_toArray,List.set_cons_zero,List.set_cons_succ,i64_w,i32_w]
  rfl
 refine pure_ (i := 2) (N := (some 9)) (v := ?_) (a' := ?_) #[true,true,true,false,false,false,false,false,false,false,false,false,false,false,false,false,false,false,false,false,false,false,false,false,false,false,false,false,false,false,false,false,false,false,false,false,false,false,false,false,false,false,false,false,false] rfl rfl (any_of HT_.out (by kernel_rfl)) (fun _ _ _ h => h) (Or.inl ⟨by rfl,?_⟩) ?_ ?_
 rotate_left
 ·intro w'
  go_simp
  with_reducible rfl
 rotate_left
 ·simp only [Act.put,List.setIfInBounds_toArray,List.set_cons_zero,List.set_cons_succ,i64_w,i32_w]
  rfl
 refine pure_ (i := 3) (N := (some 10)) (v := ?_) (a' := ?_) #[true,true,true,true,false,false,false,false,false,false,false,false,false,false,false,false,false,false,false,false,false,false,false,false,false,false,false,false,false,false,false,false,false,false,false,false,false,false,false,false,false,false,false,false,false] rfl rfl (any_of HT_.out (by kernel_rfl)) (fun _ _ _ h => h) (Or.inl ⟨by rfl,?_⟩) ?_ ?_
 rotate_left
 ·intro w'
  go_simp
  with_reducible rfl
 rotate_left
 ·simp only [Act.put,List.setIfInBounds_toArray,List.set_cons_zero,List.set_cons_succ,i64_w,i32_w]
  rfl
 refine pure_ (i := 4) (N := (some 11)) (v := ?_) (a' := ?_) #[true,true,true,true,true,false,false,false,false,false,false,false,false,false,false,false,false,false,false,false,false,false,false,false,false,false,false,false,false,false,false,false,false,false,false,false,false,false,false,false,false,false,false,false,false] rfl rfl (any_of HT_.out (by kernel_rfl)) (fun _ _ _ h => h) (Or.inl ⟨by rfl,?_⟩) ?_ ?_
 rotate_left
 ·intro w'
  go_simp
  with_reducible rfl
 rotate_left
 ·simp only [Act.put,List.setIfInBounds_toArray,List.set_cons_zero,List.set_cons_succ,i64_w,i32_w]
  rfl
 refine take_ (i := 5) (N := (some 12)) (v := ?_) (a' := ?_) #[true,true,true,true,true,true,false,false,false,false,false,false,false,false,false,false,false,false,false,false,false,false,false,false,false,false,false,false,false,false,false,false,false,false,false,false,false,false,false,false,false,false,false,false,false] rfl rfl (take_ofW HT_.out HW_.out (by kernel_rfl)) (fun _ _ _ h => h) (Or.inl ⟨by rfl,?_⟩) hHeld ?_ ?_
 rotate_left
 ·rintro w' ⟨s1,s2,s3,s4,s5,s6,s7,s8⟩
  go_simp
  with_reducible rfl
 rotate_left
 ·simp only [Act.put,List.setIfInBounds_toArray,List.set_cons_zero,List.set_cons_succ,i64_w,i32_w]
  rfl
 refine pure_ (i := 6) (N := (some 13)) (v := ?_) (a' := ?_) #[true,true,true,true,true,true,true,false,false,false,false,false,false,false,false,false,false,false,false,false,false,false,false,false,false,false,false,false,false,false,false,false,false,false,false,false,false,false,false,false,false,false,false,false,false] rfl rfl (any_of HT_.out (by kernel_rfl)) (fun _ _ _ h => h) (Or.inl ⟨by rfl,?_⟩) ?_ ?_
 rotate_left
 ·intro w'
  go_simp
  with_reducible rfl
 rotate_left
 ·simp only [Act.put,List.setIfInBounds_toArray,List.set_cons_zero,List.set_cons_succ,i64_w,i32_w]
  rfl
 refine pure_ (i := 7) (N := (some 14)) (v := ?_) (a' := ?_) #[true,true,true,true,true,true,true,true,false,false,false,false,false,false,false,false,false,false,false,false,false,false,false,false,false,false,false,false,false,false,false,false,false,false,false,false,false,false,false,false,false,false,false,false,false] rfl rfl (any_of HT_.out (by kernel_rfl)) (fun _ _ _ h => h) (Or.inl ⟨by rfl,?_⟩) ?_ ?_
 rotate_left
 ·intro w'
  go_simp
  with_reducible rfl
 rotate_left
 ·simp only [Act.put,List.setIfInBounds_toArray,List.set_cons_zero,List.set_cons_succ,i64_w,i32_w]
  rfl
 refine pure_ (i := 8) (N := (some 15)) (v := ?_) (a' := ?_) #[true,true,true,true,true,true,true,true,true,false,false,false,false,false,false,false,false,false,false,false,false,false,false,false,false,false,false,false,false,false,false,false,false,false,false,false,false,false,false,false,false,false,false,false,false] rfl rfl (any_of HT_.out (by kernel_rfl)) (fun _ _ _ h => h) (Or.inl ⟨by rfl,?_⟩) ?_ ?_
 rotate_left
 ·intro w'
  go_simp
  with_reducible rfl
 rotate_left
 ·simp only [Act.put,List.setIfInBounds_toArray,List.set_cons_zero,List.set_cons_succ,i64_w,i32_w]
  rfl
 refine take_ (i := 9) (N := (some 16)) (v := ?_) (a' := ?_) #[true,true,true,true,true,true,true,true,true,true,false,false,false,false,false,false,false,false,false,false,false,false,false,false,false,false,false,false,false,false,false,false,false,false,false,false,false,false,false,false,false,false,false,false,false] rfl rfl (take_ofW HT_.out HW_.out (by kernel_rfl)) (fun _ _ _ h => h) (Or.inl ⟨by rfl,?_⟩) hHeld ?_ ?_
 rotate_left
 ·rintro w' ⟨s1,s2,s3,s4,s5,s6,s7,s8⟩
  go_simp
  with_reducible rfl
 rotate_left
 ·simp only [Act.put,List.setIfInBounds_toArray,List.set_cons_zero,List.set_cons_succ,i64_w,i32_w]
  rfl
 refine pure_ (i := 10) (N := (some 17)) (v := ?_) (a' := ?_) #[true,true,true,true,true,true,true,true,true,true,true,false,false,false,false,false,false,false,false,false,false,false,false,false,false,false,false,false,false,false,false,false,false,false,false,false,false,false,false,false,false,false,false,false,false] rfl rfl (any_of HT_.out (by kernel_rfl)) (fun _ _ _ h => h) (Or.inl ⟨by rfl,?_⟩) ?_ ?_
 rotate_left
 ·intro w'
  go_simp
  with_reducible rfl
 rotate_left
 ·simp only [Act.put,List.setIfInBounds_toArray,List.set_cons_zero,List.set_cons_succ,i64_w,i32_w]
  rfl
 refine pure_ (i := 11) (N := (some 18)) (v := ?_) (a' := ?_) #[true,true,true,true,true,true,true,true,true,true,true,true,false,false,false,false,false,false,false,false,false,false,false,false,false,false,false,false,false,false,false,false,false,false,false,false,false,false,false,false,false,false,false,false,false] rfl rfl (any_of HT_.out (by kernel_rfl)) (fun _ _ _ h => h) (Or.inl ⟨by rfl,?_⟩) ?_ ?_
 rotate_left
 ·intro w'
  go_simp
  with_reducible rfl
 rotate_left
 ·simp only [Act.put,List.setIfInBounds_toArray,List.set_cons_zero,List.set_cons_succ,i64_w,i32_w]
  rfl
 refine pure_ (i := 12) (N := (some 19)) (v := ?_) (a' := ?_) #[true,true,true,true,true,true,true,true,true,true,true,true,true,false,false,false,false,false,false,false,false,false,false,false,false,false,false,false,false,false,false,false,false,false,false,false,false,false,false,false,false,false,false,false,false] rfl rfl (any_of HT_.out (by kernel_rfl)) (fun _ _ _ h => h) (Or.inl ⟨by rfl,?_⟩) ?_ ?_
 rotate_left
 ·intro w'
  go_simp
  with_reducible rfl
 rotate_left
 ·simp only [Act.put,List.setIfInBounds_toArray,List.set_cons_zero,List.set_cons_succ,i64_w,i32_w]
  rfl
 refine pure_ (i := 13) (N := (some 20)) (v := ?_) (a' := ?_) #[true,true,true,true,true,true,true,true,true,true,true,true,true,true,false,false,false,false,false,false,false,false,false,false,false,false,false,false,false,false,false,false,false,false,false,false,false,false,false,false,false,false,false,false,false] rfl rfl (any_of HT_.out (by kernel_rfl)) (fun _ _ _ h => h) (Or.inl ⟨by rfl,?_⟩) ?_ ?_
 rotate_left
 ·intro w'
  go_simp
  with_reducible rfl
 rotate_left
 ·simp only [Act.put,List.setIfInBounds_toArray,List.set_cons_zero,List.set_cons_succ,i64_w,i32_w]
  rfl
 refine take_ (i := 14) (N := (some 21)) (v := ?_) (a' := ?_) #[true,true,true,true,true,true,true,true,true,true,true,true,true,true,true,false,false,false,false,false,false,false,false,false,false,false,false,false,false,false,false,false,false,false,false,false,false,false,false,false,false,false,false,false,false] rfl rfl (take_ofW HT_.out HW_.out (by kernel_rfl)) (fun _ _ _ h => h) (Or.inl ⟨by rfl,?_⟩) hHeld ?_ ?_
 rotate_left
 ·rintro w' ⟨s1,s2,s3,s4,s5,s6,s7,s8⟩
  go_simp
  with_reducible rfl
 rotate_left
 ·simp only [Act.put,List.setIfInBounds_toArray,List.set_cons_zero,List.set_cons_succ,i64_w,i32_w]
  rfl
 refine pure_ (i := 15) (N := (some 22)) (v := ?_) (a' := ?_) #[true,true,true,true,true,true,true,true,true,true,true,true,true,true,true,true,false,false,false,false,false,false,false,false,false,false,false,false,false,false,false,false,false,false,false,false,false,false,false,false,false,false,false,false,false] rfl rfl (any_of HT_.out (by kernel_rfl)) (fun _ _ _ h => h) (Or.inl ⟨by rfl,?_⟩) ?_ ?_
 rotate_left
 ·intro w'
  go_simp
  with_reducible rfl
 rotate_left
 ·simp only [Act.put,List.setIfInBounds_toArray,List.set_cons_zero,List.set_cons_succ,i64_w,i32_w]
  rfl
 refine pure_ (i := 16) (N := (some 23)) (v := ?_) (a' := ?_) #[true,true,true,true,true,true,true,true,true,true,true,true,true,true,true,true,true,false,false,false,false,false,false,false,false,false,false,false,false,false,false,false,false,false,false,false,false,false,false,false,false,false,false,false,false] rfl rfl (any_of HT_.out (by kernel_rfl)) (fun _ _ _ h => h) (Or.inl ⟨by rfl,?_⟩) ?_ ?_
 rotate_left
 ·intro w'
  go_simp
  with_reducible rfl
 rotate_left
 ·simp only [Act.put,List.setIfInBounds_toArray,List.set_cons_zero,List.set_cons_succ,i64_w,i32_w]
  rfl
 refine pure_ (i := 17) (N := (some 24)) (v := ?_) (a' := ?_) #[true,true,true,true,true,true,true,true,true,true,true,true,true,true,true,true,true,true,false,false,false,false,false,false,false,false,false,false,false,false,false,false,false,false,false,false,false,false,false,false,false,false,false,false,false] rfl rfl (any_of HT_.out (by kernel_rfl)) (fun _ _ _ h => h) (Or.inl ⟨by rfl,?_⟩) ?_ ?_
 rotate_left
 ·intro w'
  go_simp
  with_reducible rfl
 rotate_left
 ·simp only [Act.put,List.setIfInBounds_toArray,List.set_cons_zero,List.set_cons_succ,i64_w,i32_w]
  rfl
 refine pure_ (i := 18) (N := (some 25)) (v := ?_) (a' := ?_) #[true,true,true,true,true,true,true,true,true,true,true,true,true,true,true,true,true,true,true,false,false,false,false,false,false,false,false,false,false,false,false,false,false,false,false,false,false,false,false,false,false,false,false,false,false] rfl rfl (any_of HT_.out (by kernel_rfl)) (fun _ _ _ h => h) (Or.inl ⟨by rfl,?_⟩) ?_ ?_
 rotate_left
 ·intro w'
  go_simp
  with_reducible rfl
 rotate_left
 ·simp only [Act.put,List.setIfInBounds_toArray,List.set_cons_zero,List.set_cons_succ,i64_w,i32_w]
  rfl
 refine pure_ (i := 19) (N := (some 26)) (v := ?_) (a' := ?_) #[true,true,true,true,true,true,true,true,true,true,true,true,true,true,true,true,true,true,true,true,false,false,false,false,false,false,false,false,false,false,false,false,false,false,false,false,false,false,false,false,false,false,false,false,false] rfl rfl (any_of HT_.out (by kernel_rfl)) (fun _ _ _ h => h) (Or.inl ⟨by rfl,?_⟩) ?_ ?_
 rotate_left
 ·intro w'
  go_simp
  with_reducible rfl
 rotate_left
 ·simp only [Act.put,List.setIfInBounds_toArray,List.set_cons_zero,List.set_cons_succ,i64_w,i32_w]
  rfl
 refine take_ (i := 20) (N := (some 27)) (v := ?_) (a' := ?_) #[true,true,true,true,true,true,true,true,true,true,true,true,true,true,true,true,true,true,true,true,true,false,false,false,false,false,false,false,false,false,false,false,false,false,false,false,false,false,false,false,false,false,false,false,false] rfl rfl (take_ofW HT_.out HW_.out (by kernel_rfl)) (fun _ _ _ h => h) (Or.inl ⟨by rfl,?_⟩) hHeld ?_ ?_
 rotate_left
 ·rintro w' ⟨s1,s2,s3,s4,s5,s6,s7,s8⟩
  go_simp
  with_reducible rfl
 rotate_left
 ·simp only [Act.put,List.setIfInBounds_toArray,List.set_cons_zero,List.set_cons_succ,i64_w,i32_w]
  rfl
 refine pure_ (i := 21) (N := (some 28)) (v := ?_) (a' := ?_) #[true,true,true,true,true,true,true,true,true,true,true,true,true,true,true,true,true,true,true,true,true,true,false,false,false,false,false,false,false,false,false,false,false,false,false,false,false,false,false,false,false,false,false,false,false] rfl rfl (any_of HT_.out (by kernel_rfl)) (fun _ _ _ h => h) (Or.inl ⟨by rfl,?_⟩) ?_ ?_
 rotate_left
 ·intro w'
  go_simp
  with_reducible rfl
 rotate_left
 ·simp only [Act.put,List.setIfInBounds_toArray,List.set_cons_zero,List.set_cons_succ,i64_w,i32_w]
  rfl
 refine pure_ (i := 22) (N := (some 29)) (v := ?_) (a' := ?_) #[true,true,true,true,true,true,true,true,true,true,true,true,true,true,true,true,true,true,true,true,true,true,true,false,false,false,false,false,false,false,false,false,false,false,false,false,false,false,false,false,false,false,false,false,false] rfl rfl (any_of HT_.out (by kernel_rfl)) (fun _ _ _ h => h) (Or.inl ⟨by rfl,?_⟩) ?_ ?_
 rotate_left
 ·intro w'
  go_simp
  with_reducible rfl
 rotate_left
 ·simp only [Act.put,List.setIfInBounds_toArray,List.set_cons_zero,List.set_cons_succ,i64_w,i32_w]
  rfl
 refine pure_ (i := 23) (N := (some 30)) (v := ?_) (a' := ?_) #[true,true,true,true,true,true,true,true,true,true,true,true,true,true,true,true,true,true,true,true,true,true,true,true,false,false,false,false,false,false,false,false,false,false,false,false,false,false,false,false,false,false,false,false,false] rfl rfl (any_of HT_.out (by kernel_rfl)) (fun _ _ _ h => h) (Or.inl ⟨by rfl,?_⟩) ?_ ?_
 rotate_left
 ·intro w'
  go_simp
  with_reducible rfl
 rotate_left
 ·simp only [Act.put,List.setIfInBounds_toArray,List.set_cons_zero,List.set_cons_succ,i64_w,i32_w]
  rfl
 refine pure_ (i := 24) (N := (some 31)) (v := ?_) (a' := ?_) #[true,true,true,true,true,true,true,true,true,true,true,true,true,true,true,true,true,true,true,true,true,true,true,true,true,false,false,false,false,false,false,false,false,false,false,false,false,false,false,false,false,false,false,false,false] rfl rfl (any_of HT_.out (by kernel_rfl)) (fun _ _ _ h => h) (Or.inl ⟨by rfl,?_⟩) ?_ ?_
 rotate_left
 ·intro w'
  go_simp
  with_reducible rfl
 rotate_left
 ·simp only [Act.put,List.setIfInBounds_toArray,List.set_cons_zero,List.set_cons_succ,i64_w,i32_w]
  rfl
 refine take_ (i := 25) (N := (some 32)) (v := ?_) (a' := ?_) #[true,true,true,true,true,true,true,true,true,true,true,true,true,true,true,true,true,true,true,true,true,true,true,true,true,true,false,false,false,false,false,false,false,false,false,false,false,false,false,false,false,false,false,false,false] rfl rfl (take_ofW HT_.out HW_.out (by kernel_rfl)) (fun _ _ _ h => h) (Or.inl ⟨by rfl,?_⟩) hHeld ?_ ?_
 rotate_left
 ·rintro w' ⟨s1,s2,s3,s4,s5,s6,s7,s8⟩
  go_simp
  with_reducible rfl
 rotate_left
 ·simp only [Act.put,List.setIfInBounds_toArray,List.set_cons_zero,List.set_cons_succ,i64_w,i32_w]
  rfl
 refine pure_ (i := 26) (N := (some 33)) (v := ?_) (a' := ?_) #[true,true,true,true,true,true,true,true,true,true,true,true,true,true,true,true,true,true,true,true,true,true,true,true,true,true,true,false,false,false,false,false,false,false,false,false,false,false,false,false,false,false,false,false,false] rfl rfl (any_of HT_.out (by kernel_rfl)) (fun _ _ _ h => h) (Or.inl ⟨by rfl,?_⟩) ?_ ?_
 rotate_left
 ·intro w'
  go_simp
  with_reducible rfl
 rotate_left
 ·simp only [Act.put,List.setIfInBounds_toArray,List.set_cons_zero,List.set_cons_succ,i64_w,i32_w]
  rfl
 refine pure_ (i := 27) (N := (some 34)) (v := ?_) (a' := ?_) #[true,true,true,true,true,true,true,true,true,true,true,true,true,true,true,true,true,true,true,true,true,true,true,true,true,true,true,true,false,false,false,false,false,false,false,false,false,false,false,false,false,false,false,false,false] rfl rfl (any_of HT_.out (by kernel_rfl)) (fun _ _ _ h => h) (Or.inl ⟨by rfl,?_⟩) ?_ ?_
 rotate_left
 ·intro w'
  go_simp
  with_reducible rfl
 rotate_left
 ·simp only [Act.put,List.setIfInBounds_toArray,List.set_cons_zero,List.set_cons_succ,i64_w,i32_w]
  rfl
 refine pure_ (i := 28) (N := (some 35)) (v := ?_) (a' := ?_) #[true,true,true,true,true,true,true,true,true,true,true,true,true,true,true,true,true,true,true,true,true,true,true,true,true,true,true,true,true,false,false,false,false,false,false,false,false,false,false,false,false,false,false,false,false] rfl rfl (any_of HT_.out (by kernel_rfl)) (fun _ _ _ h => h) (Or.inl ⟨by rfl,?_⟩) ?_ ?_
 rotate_left
 ·intro w'
  go_simp
  with_reducible rfl
 rotate_left
 ·simp only [Act.put,List.setIfInBounds_toArray,List.set_cons_zero,List.set_cons_succ,i64_w,i32_w]
  rfl
 refine pure_ (i := 29) (N := (some 36)) (v := ?_) (a' := ?_) #[true,true,true,true,true,true,true,true,true,true,true,true,true,true,true,true,true,true,true,true,true,true,true,true,true,true,true,true,true,true,false,false,false,false,false,false,false,false,false,false,false,false,false,false,false] rfl rfl (any_of HT_.out (by kernel_rfl)) (fun _ _ _ h => h) (Or.inl ⟨by rfl,?_⟩) ?_ ?_
 rotate_left
 ·intro w'
  go_simp
  with_reducible rfl
 rotate_left
 ·simp only [Act.put,List.setIfInBounds_toArray,List.set_cons_zero,List.set_cons_succ,i64_w,i32_w]
  rfl
 refine pure_ (i := 31) (N := (some 38)) (v := ?_) (a' := ?_) #[true,true,true,true,true,true,true,true,true,true,true,true,true,true,true,true,true,true,true,true,true,true,true,true,true,true,true,true,true,true,false,true,false,false,false,false,false,false,false,false,false,false,false,false,false] rfl rfl (any_of HT_.out (by kernel_rfl)) (fun _ _ _ h => h) (Or.inl ⟨by rfl,?_⟩) ?_ ?_
 rotate_left
 ·intro w'
  go_simp
  with_reducible rfl
 rotate_left
 ·simp only [Act.put,List.setIfInBounds_toArray,List.set_cons_zero,List.set_cons_succ,i64_w,i32_w]
  rfl
 refine take_ (i := 32) (N := (some 39)) (v := ?_) (a' := ?_) #[true,true,true,true,true,true,true,true,true,true,true,true,true,true,true,true,true,true,true,true,true,true,true,true,true,true,true,true,true,true,false,true,true,false,false,false,false,false,false,false,false,false,false,false,false] rfl rfl (take_ofW HT_.out HW_.out (by kernel_rfl)) (fun _ _ _ h => h) (Or.inl ⟨by rfl,?_⟩) hHeld ?_ ?_
 rotate_left
 ·rintro w' ⟨s1,s2,s3,s4,s5,s6,s7,s8⟩
  go_simp
  with_reducible rfl
 rotate_left
 ·simp only [Act.put,List.setIfInBounds_toArray,List.set_cons_zero,List.set_cons_succ,i64_w,i32_w]
  rfl
 refine pure_ (i := 33) (N := (some 40)) (v := ?_) (a' := ?_) #[true,true,true,true,true,true,true,true,true,true,true,true,true,true,true,true,true,true,true,true,true,true,true,true,true,true,true,true,true,true,false,true,true,true,false,false,false,false,false,false,false,false,false,false,false] rfl rfl (any_of HT_.out (by kernel_rfl)) (fun _ _ _ h => h) (Or.inl ⟨by rfl,?_⟩) ?_ ?_
 rotate_left
 ·intro w'
  go_simp
  with_reducible rfl
 rotate_left
 ·simp only [Act.put,List.setIfInBounds_toArray,List.set_cons_zero,List.set_cons_succ,i64_w,i32_w]
  rfl
 refine one_ (i := 30) (N := (some 37)) #[true,true,true,true,true,true,true,true,true,true,true,true,true,true,true,true,true,true,true,true,true,true,true,true,true,true,true,true,true,true,true,true,true,true,false,false,false,false,false,false,false,false,false,false,false] rfl rfl (one_of HT_.out (by kernel_rfl)) (by decide) (fun K hK => ?_)
 refine call_ 21 #[.pointer (some ⟨p,0,none⟩)] (by rfl) rfl au6 ?_
 refine (sc_rows hs2.at_ (hs2.bs hb) hO).mono ?_
 rintro e w3 ⟨rfl,hs3⟩
 have hq3 := hs3.keeps hq2 (fun hk => by have := hk.2;omega) (by omega)
 have hs3 := hs2.then_ hs3
 obtain ⟨rv,⟨c0,c1,_,c3,c4,_⟩,_⟩ := hs3.at_.cells
 refine ⟨_,rfl,hK.out _ _ ⟨c0,c1,c3,c4,blk_cell hq3 0,blk_cell hq3 1,blk_cell hq3 2,blk_cell hq3 3⟩ (fun hHeld => ?_)⟩
 clear hK K hs2 hq2 c0 c1 c3 c4
 refine norm_ (a' := ?_) ?_ ?_
 rotate_left
 ·show Act.put _ (some 37) _ = _
  simp only [Act.put,List.setIfInBounds_toArray,List.set_cons_zero,List.set_cons_succ,i64_w,i32_w]
  rfl
 refine pure_ (i := 34) (N := (some 41)) (v := ?_) (a' := ?_) #[true,true,true,true,true,true,true,true,true,true,true,true,true,true,true,true,true,true,true,true,true,true,true,true,true,true,true,true,true,true,true,true,true,true,true,false,false,false,false,false,false,false,false,false,false] rfl rfl (any_of HT_.out (by kernel_rfl)) (fun _ _ _ h => h) (Or.inl ⟨by rfl,?_⟩) ?_ ?_
 rotate_left
 ·intro w'
  go_simp
  with_reducible rfl
 rotate_left
 ·simp only [Act.put,List.setIfInBounds_toArray,List.set_cons_zero,List.set_cons_succ,i64_w,i32_w]
  rfl
 refine pure_ (i := 35) (N := (some 42)) (v := ?_) (a' := ?_) #[true,true,true,true,true,true,true,true,true,true,true,true,true,true,true,true,true,true,true,true,true,true,true,true,true,true,true,true,true,true,true,true,true,true,true,true,false,false,false,false,false,false,false,false,false] rfl rfl (any_of HT_.out (by kernel_rfl)) (fun _ _ _ h => h) (Or.inl ⟨by rfl,?_⟩) ?_ ?_
 rotate_left
 ·intro w'
  go_simp
  with_reducible rfl
 rotate_left
 ·simp only [Act.put,List.setIfInBounds_toArray,List.set_cons_zero,List.set_cons_succ,i64_w,i32_w]
  rfl
 refine pure_ (i := 36) (N := (some 43)) (v := ?_) (a' := ?_) #[true,true,true,true,true,true,true,true,true,true,true,true,true,true,true,true,true,true,true,true,true,true,true,true,true,true,true,true,true,true,true,true,true,true,true,true,true,false,false,false,false,false,false,false,false] rfl rfl (any_of HT_.out (by kernel_rfl)) (fun _ _ _ h => h) (Or.inl ⟨by rfl,?_⟩) ?_ ?_
 rotate_left
 ·intro w'
  go_simp
  with_reducible rfl
 rotate_left
 ·simp only [Act.put,List.setIfInBounds_toArray,List.set_cons_zero,List.set_cons_succ,i64_w,i32_w]
  rfl
 refine pure_ (i := 37) (N := (some 44)) (v := ?_) (a' := ?_) #[true,true,true,true,true,true,true,true,true,true,true,true,true,true,true,true,true,true,true,true,true,true,true,true,true,true,true,true,true,true,true,true,true,true,true,true,true,true,false,false,false,false,false,false,false] rfl rfl (any_of HT_.out (by kernel_rfl)) (fun _ _ _ h => h) (Or.inl ⟨by rfl,?_⟩) ?_ ?_
 rotate_left
 ·intro w'
  go_simp
  with_reducible rfl
 rotate_left
 ·simp only [Act.put,List.setIfInBounds_toArray,List.set_cons_zero,List.set_cons_succ,i64_w,i32_w]
  rfl
 refine take_ (i := 38) (N := (some 45)) (v := ?_) (a' := ?_) #[true,true,true,true,true,true,true,true,true,true,true,true,true,true,true,true,true,true,true,true,true,true,true,true,true,true,true,true,true,true,true,true,true,true,true,true,true,true,true,false,false,false,false,false,false] rfl rfl (take_ofW HT_.out HW_.out (by kernel_rfl)) (fun _ _ _ h => h) (Or.inl ⟨by rfl,?_⟩) hHeld ?_ ?_
 rotate_left
 ·rintro w' ⟨s1,s2,s3,s4,s5,s6,s7,s8⟩
  go_simp
  with_reducible rfl
 rotate_left
 ·simp only [Act.put,List.setIfInBounds_toArray,List.set_cons_zero,List.set_cons_succ,i64_w,i32_w]
  rfl
 refine pure_ (i := 39) (N := (some 46)) (v := ?_) (a' := ?_) #[true,true,true,true,true,true,true,true,true,true,true,true,true,true,true,true,true,true,true,true,true,true,true,true,true,true,true,true,true,true,true,true,true,true,true,true,true,true,true,true,false,false,false,false,false] rfl rfl (any_of HT_.out (by kernel_rfl)) (fun _ _ _ h => h) (Or.inl ⟨by rfl,?_⟩) ?_ ?_
 rotate_left
 ·intro w'
  go_simp
  with_reducible rfl
 rotate_left
 ·simp only [Act.put,List.setIfInBounds_toArray,List.set_cons_zero,List.set_cons_succ,i64_w,i32_w]
  rfl
 refine pure_ (i := 40) (N := (some 47)) (v := ?_) (a' := ?_) #[true,true,true,true,true,true,true,true,true,true,true,true,true,true,true,true,true,true,true,true,true,true,true,true,true,true,true,true,true,true,true,true,true,true,true,true,true,true,true,true,true,false,false,false,false] rfl rfl (any_of HT_.out (by kernel_rfl)) (fun _ _ _ h => h) (Or.inl ⟨by rfl,?_⟩) ?_ ?_
 rotate_left
 ·intro w'
  go_simp
  with_reducible rfl
 rotate_left
 ·simp only [Act.put,List.setIfInBounds_toArray,List.set_cons_zero,List.set_cons_succ,i64_w,i32_w]
  rfl
 refine pure_ (i := 41) (N := (some 48)) (v := ?_) (a' := ?_) #[true,true,true,true,true,true,true,true,true,true,true,true,true,true,true,true,true,true,true,true,true,true,true,true,true,true,true,true,true,true,true,true,true,true,true,true,true,true,true,true,true,true,false,false,false] rfl rfl (any_of HT_.out (by kernel_rfl)) (fun _ _ _ h => h) (Or.inl ⟨by rfl,?_⟩) ?_ ?_
 rotate_left
 ·intro w'
  go_simp
  with_reducible rfl
 rotate_left
 ·simp only [Act.put,List.setIfInBounds_toArray,List.set_cons_zero,List.set_cons_succ,i64_w,i32_w]
  rfl
 refine take_ (i := 42) (N := (some 49)) (v := ?_) (a' := ?_) #[true,true,true,true,true,true,true,true,true,true,true,true,true,true,true,true,true,true,true,true,true,true,true,true,true,true,true,true,true,true,true,true,true,true,true,true,true,true,true,true,true,true,true,false,false] rfl rfl (take_ofW HT_.out HW_.out (by kernel_rfl)) (fun _ _ _ h => h) (Or.inl ⟨by rfl,?_⟩) hHeld ?_ ?_
 rotate_left
 ·rintro w' ⟨s1,s2,s3,s4,s5,s6,s7,s8⟩
  go_simp
  with_reducible rfl
 rotate_left
 ·simp only [Act.put,List.setIfInBounds_toArray,List.set_cons_zero,List.set_cons_succ,i64_w,i32_w]
  rfl
 refine pure_ (i := 43) (N := (some 50)) (v := ?_) (a' := ?_) #[true,true,true,true,true,true,true,true,true,true,true,true,true,true,true,true,true,true,true,true,true,true,true,true,true,true,true,true,true,true,true,true,true,true,true,true,true,true,true,true,true,true,true,true,false] rfl rfl (any_of HT_.out (by kernel_rfl)) (fun _ _ _ h => h) (Or.inl ⟨by rfl,?_⟩) ?_ ?_
 rotate_left
 ·intro w'
  go_simp
  with_reducible rfl
 rotate_left
 ·simp only [Act.put,List.setIfInBounds_toArray,List.set_cons_zero,List.set_cons_succ,i64_w,i32_w]
  rfl
 refine pure_ (i := 44) (N := (some 51)) (v := ?_) (a' := ?_) #[true,true,true,true,true,true,true,true,true,true,true,true,true,true,true,true,true,true,true,true,true,true,true,true,true,true,true,true,true,true,true,true,true,true,true,true,true,true,true,true,true,true,true,true,true] rfl rfl (any_of HT_.out (by kernel_rfl)) (fun _ _ _ h => h) (Or.inl ⟨by rfl,?_⟩) ?_ ?_
 rotate_left
 ·intro w'
  go_simp
  with_reducible rfl
 rotate_left
 ·simp only [Act.put,List.setIfInBounds_toArray,List.set_cons_zero,List.set_cons_succ,i64_w,i32_w]
  rfl
 refine done_ (done_of HT_.out (by kernel_rfl)) ?_
 clear HT_ HW_
 obtain ⟨_,_,_,_,_,e1,_,_⟩ := hHeld
 have hK3 := hs3.kept
 have hFF : ∀ w,Stp base p (fun k => ok k ∧ k < W.heap.size) W w s hd → Kd.C kRow w FA FL.length FL := fun w hw => hF w hw.kept
 clear hK3 hq3
 go_wp2
 go_loopw [55] (fun v wr => ∃ i : Nat,v = .int .i64 i ∧ i ≤ FL.length ∧ Hid (allEq FL s.rows i = true) ∧ Stp base p (fun k => ok k ∧ k < W.heap.size) W wr s hd) (fun v _ => FL.length - (intOf v).toNat)
 case atStart => exact ⟨0,rfl,Nat.zero_le _,Lib.hid rfl,hs3⟩
 case round =>
  obtain ⟨i,rfl,hi,hJ,hsr⟩ := hrel
  clear hs3 e1
  by_cases hlt : i < FL.length
  ·have hlt' : (i : Int) < (FL.length : Int) := by omega
   obtain ⟨ad,A0,c0,rfl,r0,hc0,hC0⟩ := at_L3 (hFF _ hsr) (i : Int) (by omega) hlt'
   have hrd : rd_L3 FL (i : Int) = FL.getD i [] := by unfold rd_L3;rw [Int.toNat_natCast]
   rw [hrd] at r0 hc0 hC0
   rw [Int.toNat_natCast] at r0
   have hRl : (FL.getD i []).length ≤ 1099511627776 := by
    rw [List.getD_eq_getElem?_getD,List.getElem?_eq_getElem hlt]
    exact hFl _ (List.getElem_mem _)
   have hcall := sc_row hsr.at_ i (by omega) hcl (ii := (i : Int)) rfl
   obtain ⟨b,hbe⟩ : ∃ b,eqR (FL.getD i []) (trimR (s.rows.getD i [])) = b := ⟨_,rfl⟩
   have hbH := Lib.hid hbe
   generalize FL.getD i [] = X at r0 hc0 hC0 hRl hbe
   generalize trimR (s.rows.getD i []) = Y at hcall hbe
   go_upto_if 65 with (first | (go_at_call 46;refine hcall.mono ?_;rintro e w4 ⟨A,c,rfl,hC4,hAc,hb4⟩) | (go_at_call 45;refine (equal_any A0 A X.length Y.length c0 c X Y _ (Kd.C_below hC0 hb4) hC4 hRl hc0 hAc).mono ?_;rintro e w5 ⟨rfl,hb5⟩;rw [hbe];have hs5 := (hsr.more hb4 hb).more hb5 hb))
   clear hbe
   cases b with
   | false =>
    have hFA := Lib.hid (allEq_false hbH.out FL.length hlt)
    go_wp2
    first | refine bodyPost_ret (results_tmp rfl _ _ _) rfl ?_ | ((try simp only [Exit.inBlock,Exit.then]);refine bodyPost_ret (results_tmp rfl _ _ _) rfl ?_) | (go_wp2;refine bodyPost_ret (results_tmp rfl _ _ _) rfl ?_)
    exact ⟨by rw [hFA.out];rfl,hs5⟩
   | true =>
    have hJ2 := Lib.hid (show allEq FL s.rows (i + 1) = true by unfold allEq;rw [hJ.out,hbH.out];rfl)
    go_wp2
    go_roundw
    case rel => exact ⟨i + 1,by go_num,by omega,hJ2,hs5⟩
    case measure => simp [intOf];omega
  ·have hlt' := eq_false (show ¬ (i : Int) < (FL.length : Int) by omega)
   have hie := Lib.hid (show i = FL.length by omega)
   go_wp2
   first | refine bodyPost_ret (results_tmp rfl _ _ _) rfl ?_ | ((try simp only [Exit.inBlock,Exit.then]);refine bodyPost_ret (results_tmp rfl _ _ _) rfl ?_) | (go_wp2;refine bodyPost_ret (results_tmp rfl _ _ _) rfl ?_)
   exact ⟨by rw [← hie.out,hJ.out];rfl,hsr⟩
end Go.Proofs.YtgdpnmikcopkmaaDoor.U
end
section
namespace Go.Proofs.YtgdpnmikcopkmaaDoor.U
open Go.RowKit Go.Proofs.YtgdpnmikcopkmaaDoor.Mu Go.Proofs.YtgdpnmikcopkmaaDoor.Pu Go.Proofs.YtgdpnmikcopkmaaDoorW.PrintWords Go.Proofs.YtgdpnmikcopkmaaDoorW.PrintLast Go.Proofs.YtgdpnmikcopkmaaDoorW.PrintMore
set_option linter.unusedVariables false
set_option linter.unusedSimpArgs false
/-- A screen whose blocks are those of O. -/
structure Scr (base p : Nat) (O : Nat → Prop) (w : World) (S : Sc × ByteArray) : Prop where
 at_ : ScrAt base p O w S.1 S.2
 bd : ∀ k,O k → k < w.heap.size
/-- Two screens have no block in common. -/
structure Apart (p : Nat) (O : Nat → Prop) (q : Nat) (O2 : Nat → Prop) : Prop where
 pq : p ≠ q
 oq : ¬ O q
 op : ¬ O2 p
 oo : ∀ k,O k → ¬ O2 k
theorem Apart.symm {p q : Nat} {O O2 : Nat → Prop} (h : Apart p O q O2) : Apart q O2 p O := ⟨Ne.symm h.pq,h.op,h.oq,fun k hk hq => h.oo k hq hk⟩
section
variable {base p q : Nat} {O O' O2 : Nat → Prop} {w w1 : World} {S S' S2 : Sc × ByteArray}
theorem Scr.lt (h : Scr base p O w S) : p < w.heap.size := h.at_.lt
/-- What an event on another screen leaves. -/
theorem Scr.other (h : Scr base q O2 w S2) (ha : Apart p O q O2) (hk : Kept w w1 (fun k => O k ∨ k = p)) : Scr base q O2 w1 S2 := by
 obtain ⟨⟨⟨rv,h1,h2⟩,h3,h4⟩,h5⟩ := h
 exact ⟨⟨⟨rv,blk_kept h1 hk (fun he => he.elim ha.oq (fun he => ha.pq he.symm)),Kd.S_kept h2 hk (fun k ho he => he.elim (fun h6 => ha.oo k h6 ho) (fun h6 => ha.op (h6 ▸ ho)))⟩,h3,h4⟩,fun k hk2 => Nat.lt_of_lt_of_le (h5 k hk2) hk.1⟩
/-- What was only added to. -/
theorem Scr.below (h : Scr base q O2 w S2) (hb : Below w.heap.size w w1) : Scr base q O2 w1 S2 := ⟨h.at_.below hb,fun k hk => Nat.lt_of_lt_of_le (h.bd k hk) hb.size⟩
theorem Apart.more (h : Apart p O q O2) (hO : ∀ k,O' k → O k ∨ w.heap.size ≤ k) (hq : q < w.heap.size) (h2 : ∀ k,O2 k → k < w.heap.size) : Apart p O' q O2 :=
 ⟨h.pq,fun hk => (hO q hk).elim h.oq (fun h3 => by omega),h.op,fun k hk h3 => (hO k hk).elim (fun h4 => h.oo k h4 h3) (fun h4 => by have := h2 k h3;omega)⟩
/-- What a call makes of one screen. -/
structure Made (base p : Nat) (O O' : Nat → Prop) (w w1 : World) (S' : Sc × ByteArray) : Prop where
 scr : Scr base p O' w1 S'
 sub : ∀ k,O' k → O k ∨ w.heap.size ≤ k
 below : Below base w w1
 kept : Kept w w1 (fun k => O k ∨ k = p)
theorem Made.of_wide (h : Stp base p (fun k => O k ∨ w.heap.size ≤ k) w w1 S'.1 S'.2) : Made base p O (fun k => (O k ∨ w.heap.size ≤ k) ∧ k < w1.heap.size) w w1 S' :=
 ⟨⟨h.at_.bound,fun k hk => hk.2⟩,fun k hk => hk.1,h.below,⟨h.kept.1,fun i hi hn => h.kept.2 i hi (fun hk => hk.elim (fun h2 => h2.elim (fun h3 => hn (.inl h3)) (fun h3 => by omega)) (fun h2 => hn (.inr h2)))⟩⟩
theorem Made.of_same (hb : ∀ k,O k → k < w.heap.size) (h : Stp base p (fun k => O k ∧ k < w.heap.size) w w1 S'.1 S'.2) : Made base p O O w w1 S' :=
 ⟨⟨(h.wide (fun k hk => hk.1) (fun hk => h.at_.ne ⟨hk,hb p hk⟩)).at_,fun k hk => Nat.lt_of_lt_of_le (hb k hk) h.kept.1⟩,fun k hk => .inl hk,h.below,h.kept.mono (fun k hk => hk.imp And.left id)⟩
theorem Scr.wide (h : Scr base p O w S) : ScrAt base p (fun k => O k ∨ w.heap.size ≤ k) w S.1 S.2 := by
 obtain ⟨⟨⟨rv,h1,h2⟩,h3,h4⟩,h5⟩ := h
 exact ⟨⟨rv,h1,Kd.S_mono h2 (fun k hk => .inl hk)⟩,h3,fun hk => hk.elim h4 (fun h6 => by have := blk_lt h1;omega)⟩
theorem Made.other (h : Made base p O O' w w1 S') (h2 : Scr base q O2 w S2) (ha : Apart p O q O2) : Scr base q O2 w1 S2 ∧ Apart p O' q O2 := ⟨h2.other ha h.kept,ha.more h.sub h2.lt h2.bd⟩
theorem Made.of_below (h : Scr base p O w S) (hb : Below w.heap.size w w1) (hbs : base ≤ w.heap.size) : Made base p O O w w1 S := ⟨h.below hb,fun k hk => .inl hk,hb.mono hbs,Kept.of_below hb _⟩
theorem Made.then_ {w2 : World} {O'' : Nat → Prop} {S'' : Sc × ByteArray} (h : Made base p O O' w w1 S') (h2 : Made base p O' O'' w1 w2 S'') : Made base p O O'' w w2 S'' :=
 ⟨h2.scr,fun k hk => (h2.sub k hk).elim (h.sub k) (fun h3 => .inr (Nat.le_trans h.kept.1 h3)),h.below.trans h2.below,h.kept.then_ h2.kept (fun k hk => hk.elim (fun h3 => (h.sub k h3).imp .inl id) (fun h3 => .inl (.inr h3)))⟩
end
/-- What feeding asks for. -/
structure Fit (S : Sc × ByteArray) (N : Nat) : Prop where
 ok : S.1.Ok
 tb : S.1.TB N
 hl : S.2.size ≤ N
 n4 : 4 ≤ N
theorem Fit.feed {S : Sc × ByteArray} {N : Nat} (h : Fit S N) (b : ByteArray) : Fit (feedS S b) (N + (N + b.size)) := by
 refine ⟨feedS_ok h.ok b,(feedS_tb h.tb h.n4 b).mono (by have := h.hl;omega),?_,by have := h.n4;omega⟩
 have := feedN_rest (S.2 ++ b).size S.1 (S.2 ++ b)
 have h2 := h.hl
 have h3 : (S.2 ++ b).size = S.2.size + b.size := ByteArray.size_append
 show (Sc.feedN (S.2 ++ b).size S.1 (S.2 ++ b)).2.size ≤ _
 omega
theorem Fit.mono {S : Sc × ByteArray} {N M : Nat} (h : Fit S N) (hm : N ≤ M) : Fit S M := ⟨h.ok,h.tb.mono hm,Nat.le_trans h.hl hm,Nat.le_trans h.n4 hm⟩
theorem fit_new (a b : Int) : Fit (newSc a b,⟨#[]⟩) 4 := ⟨newSc_ok a b,fun row hr => absurd hr List.not_mem_nil,Nat.zero_le _,Nat.le_refl _⟩
section
variable {base p : Nat} {O : Nat → Prop} {w : World} {S : Sc × ByteArray}
theorem scr_feed (h : Scr base p O w S) (hb : base ≤ w.heap.size) (h2 : 2 ≤ base) (hT : Lib.Utf8Tabs 0 1 w) {N : Nat} (hf : Fit S N) (b : ByteArray) (hz : N + b.size ≤ 549755813888) :
  Calls Tryd.prog 16 #[.pointer (some ⟨p,0,none⟩),.string b] w fun e w' => e = .returned (.tuple #[]) ∧ ∃ O',Made base p O O' w w' (feedS S b) :=
 (sc_feed h.wide ⟨fun k hk => .inr hk,hb⟩ hf.ok hT h2 b (by have := hf.hl;omega) N hf.tb hf.n4 (by omega)).mono fun e w' hh => ⟨hh.1,_,Made.of_wide hh.2⟩
theorem scr_rows (h : Scr base p O w S) (hb : base ≤ w.heap.size) (hO : S.1.Ok) :
  Calls Tryd.prog 21 #[.pointer (some ⟨p,0,none⟩)] w fun e w' => e = .returned (.int .i64 (S.1.nrows : Nat)) ∧ Made base p O O w w' S :=
 (sc_rows h.at_.bound hb hO).mono fun e w' hh => ⟨hh.1,Made.of_same h.bd hh.2⟩
theorem scr_frame (h : Scr base p O w S) (hb : base ≤ w.heap.size) (hO : S.1.Ok) (n : Int) :
  Calls Tryd.prog 20 #[.pointer (some ⟨p,0,none⟩),.int .i64 n] w fun e w' => ∃ rv,e = .returned (.agg #[.int .i64 S.1.w,rv,.int .i64 S.1.r,.int .i64 S.1.c]) ∧ Kd.S kRow 36 w' w.heap.size (fun k => w.heap.size ≤ k) rv (frameL S.1.rows (S.1.frameN n)) ∧ Made base p O O w w' S :=
 (sc_frame h.at_ hb hO n).mono fun e w' hh => by
  obtain ⟨rv,h1,h2,h3⟩ := hh
  exact ⟨rv,h1,h2,Made.of_same h.bd h3⟩
theorem scr_new (a b : Int) (W : World) :
  Calls Tryd.prog 14 #[.int .i64 a,.int .i64 b] W fun e w' => ∃ p,e = .returned (.pointer (some ⟨p,0,none⟩)) ∧ W.heap.size ≤ p ∧ (∀ base,base ≤ W.heap.size → Scr base p (fun _ => False) w' (newSc a b,⟨#[]⟩)) ∧ Below W.heap.size W w' :=
 (sc_new a b W).mono fun e w' hh => by
  obtain ⟨p,h1,h2,h3,h4,h5⟩ := hh
  exact ⟨p,h1,h2,fun base hb => ⟨h4 base _ (Nat.le_trans hb h2) (fun hk => hk),fun k hk => hk.elim⟩,h5⟩
end
end Go.Proofs.YtgdpnmikcopkmaaDoor.U
end
section
namespace Go.Proofs.YtgdpnmikcopkmaaDoor.U
open Go.RowKit Go.Proofs.YtgdpnmikcopkmaaDoor.Pu Go.Proofs.YtgdpnmikcopkmaaDoorW.PrintWords Go.Proofs.YtgdpnmikcopkmaaDoorW.PrintLast Go.Proofs.YtgdpnmikcopkmaaDoorW.PrintMore
set_option linter.unusedVariables false
set_option linter.unusedSimpArgs false
theorem take_snoc (rows : List (List Cl)) (i : Nat) (h : i < rows.length) : rows.take i ++ [rows.getD i []] = rows.take (i + 1) := by
 rw [List.take_add_one,List.getD_eq_getElem?_getD,List.getElem?_eq_getElem h]
 rfl
def cl8.T : Bool × List (List Nat × List Nat) := (true,[([],[]),([0],[0]),([],[]),([2],[2]),([3],[3]),([1,4,3],[1,4]),([0,1,2,3,4,5],[]),([6,5,5,0,1,2,3,4,5],[5,6])])
def cl8.B : List Nat := [0,1,0,4,12,31,63,127]
theorem cl8.tab : rtab .any (opsOf Tryd.f28 8) = cl8.T := by kernel_rfl
theorem cl8.bits : waitsOk cl8.T.2 cl8.B = true := by kernel_rfl
set_option maxRecDepth 100000 in
set_option maxHeartbeats 8000000 in
theorem sc_clone {base p : Nat} {ok : Nat → Prop} {W : World} {s : Sc} {hd : ByteArray} (h : ScrAt base p ok W s hd) (hO : s.Ok) (base2 : Nat) (hb2 : base2 ≤ W.heap.size) :
  Calls Tryd.prog 28 #[.pointer (some ⟨p,0,none⟩)] W fun e w' => e = .returned (.pointer (some ⟨W.heap.size,0,none⟩)) ∧ ScrAt base2 W.heap.size (fun k => W.heap.size < k) w' s hd ∧ Below W.heap.size W w' := by
 have hq := run_eql_ptr_nil (tp := 28) (te := 69) W (some ⟨p,0,none⟩) Tryd.underlying28 (j := _) rfl
 have hrl := hO.rl
 have hh2 := hO.h2
 have hcl := hO.cl
 have hw2 := hO.w2
 obtain ⟨rv,⟨c0,c1,c2,c3,c4,c5,c6,c7,c8,c9⟩,hS⟩ := h.cells
 obtain ⟨A1,cap,rfl⟩ := Kd.R_slice (Kd.S_R hS)
 have hpl := h.lt
 go_enter Tryd.func28,Tryd.ntmps28
 go_upto_region 4 with (fail)
 have hal := below_alloc (Below.refl _ W) (.cells #[.int .i64 s.w,.int .i64 s.h,(.slice A1 s.rows.length cap),.int .i64 s.r,.int .i64 s.c,.bool s.full,.int .i64 s.lr,.int .i64 s.lc,.bool s.marks,.string hd] 69 (0,0))
 have hz := World.alloc_heap_new W (.cells #[.int .i64 s.w,.int .i64 s.h,(.slice A1 s.rows.length cap),.int .i64 s.r,.int .i64 s.c,.bool s.full,.int .i64 s.lr,.int .i64 s.lc,.bool s.marks,.string hd] 69 (0,0))
 generalize W.alloc (.cells #[.int .i64 s.w,.int .i64 s.h,(.slice A1 s.rows.length cap),.int .i64 s.r,.int .i64 s.c,.bool s.full,.int .i64 s.lr,.int .i64 s.lc,.bool s.marks,.string hd] 69 (0,0)) = w1 at hal hz ⊢
 generalize hqe : W.heap.size = q at hz ⊢
 have hqW : W.heap.size = q := hqe
 clear hqe
 have d2 := blk_cell hz 2
 have g2 := blk_frozen hz 2
 go_upto_region 5 with (fail)
 have hz2 := blk_put (cs' := #[.int .i64 s.w,.int .i64 s.h,.slice none 0 0,.int .i64 s.r,.int .i64 s.c,.bool s.full,.int .i64 s.lr,.int .i64 s.lc,.bool s.marks,.string hd]) hz 2 (.slice none 0 0) rfl
 have hb2' := hal.setCell (p := ⟨q,2,none⟩) (by show W.heap.size ≤ q;omega) (.slice none 0 0)
 generalize w1.setCell ⟨q,2,none⟩ (.slice none 0 0) = w2 at hz2 hb2' ⊢
 clear hal hz d2 g2
 have e2 := cell_below c2 hb2'
 go_wp2_with (fail)
 clear e2
 go_loopw [17] (fun v wr => ∃ (i : Nat) (fv : Value),v = .int .i64 i ∧ i ≤ s.rows.length ∧ Below W.heap.size W wr ∧ wr.heap[q]? = some (.cells #[.int .i64 s.w,.int .i64 s.h,fv,.int .i64 s.r,.int .i64 s.c,.bool s.full,.int .i64 s.lr,.int .i64 s.lc,.bool s.marks,.string hd] 69 (0,0)) ∧ Kd.S kRow 36 wr base2 (fun k => q < k) fv (s.rows.take i)) (fun v _ => s.rows.length - (intOf v).toNat)
 case atStart => exact ⟨0,_,rfl,Nat.zero_le _,hb2',hz2,Kd.S_nil _ _ _ _ _⟩
 case round =>
  obtain ⟨i,fv,rfl,hi,hbr,hqr,hSr⟩ := hrel
  clear hz2 hb2'
  by_cases hlt : i < s.rows.length
  ·have hlt' : (i : Int) < (s.rows.length : Int) := by omega
   have hS1 := Kd.S_below hS hbr
   obtain ⟨g,cap',hv,_,_,_,_⟩ := Kd.S_form hS1 (by omega)
   injection hv with hv1 _ hv3
   subst hv1;subst hv3
   obtain ⟨oki,A,c,hR,r0,_,_,_⟩ := row_of hS1 i hlt
   have hLm : (s.rows.getD i []).length ≤ 65535 := by
    refine Nat.le_trans (hcl _ ?_) hw2
    rw [List.getD_eq_getElem?_getD,List.getElem?_eq_getElem hlt]
    exact List.getElem_mem _
   have hsn := take_snoc s.rows i hlt
   have htl : (s.rows.take i).length ≤ 65535 := by rw [List.length_take];omega
   have hC := (Kd.R_reads' hR).2.2
   generalize s.rows.getD i [] = TR at hR r0 hLm hsn hC
   generalize s.rows.take i = FL at hSr hsn htl
   have e1 := blk_cell hqr 2
   go_upto_region 8 with (fail)
   clear r0 hR hS1
   refine start_ (n := 8) (S := fun w' => w'.cell? ⟨q,2,none⟩ = some fv) (ds := [7]) #[false,false,false,false,false,false,false,false] (by kernel_rfl) rfl rfl e1 (fun hHeld => ?_);refine with_tabW cl8.tab cl8.bits (fun HT_ HW_ => ?_)
   have hbr2 := hbr.trans (below_drew (Below.refl W.heap.size wr))
   have hqr2 : wr.drew.heap[q]? = _ := hqr
   have hSr2 := Kd.S_drew hSr
   have hC2 := Kd.C_below hC (below_drew (Below.refl _ wr))
   generalize wr.drew = wq at hbr2 hqr2 hSr2 hC2 hHeld ⊢
   clear hbr hqr hSr hC e1
   refine pure_ (i := 0) (N := (some 21)) (v := ?_) (a' := ?_) #[true,false,false,false,false,false,false,false] rfl rfl (any_of HT_.out (by kernel_rfl)) (fun _ _ _ h => h) (Or.inl ⟨by rfl,?_⟩) ?_ ?_
   rotate_left
   ·intro w'
    go_simp
    with_reducible rfl
   rotate_left
   ·simp only [Act.put,List.setIfInBounds_toArray,List.set_cons_zero,List.set_cons_succ,i64_w,i32_w]
    rfl
   refine take_ (i := 1) (N := (some 22)) (v := ?_) (a' := ?_) #[true,true,false,false,false,false,false,false] rfl rfl (take_ofW HT_.out HW_.out (by kernel_rfl)) (fun _ _ _ h => h) (Or.inl ⟨by rfl,?_⟩) hHeld ?_ ?_
   rotate_left
   ·rintro w' s1
    go_simp
    with_reducible rfl
   rotate_left
   ·simp only [Act.put,List.setIfInBounds_toArray,List.set_cons_zero,List.set_cons_succ,i64_w,i32_w]
    rfl
   refine pure_ (i := 2) (N := (some 23)) (v := ?_) (a' := ?_) #[true,true,true,false,false,false,false,false] rfl rfl (any_of HT_.out (by kernel_rfl)) (fun _ _ _ h => h) (Or.inl ⟨by rfl,?_⟩) ?_ ?_
   rotate_left
   ·intro w'
    go_simp
    with_reducible rfl
   rotate_left
   ·simp only [Act.put,List.setIfInBounds_toArray,List.set_cons_zero,List.set_cons_succ,i64_w,i32_w]
    rfl
   refine one_ (i := 3) (N := (some 24)) #[true,true,true,true,false,false,false,false] rfl rfl (one_of HT_.out (by kernel_rfl)) (by decide) (fun K hK => ?_)
   refine call_ 49 #[.slice A TR.length c] (by rfl) rfl au6 ?_
   refine (clone_any A TR.length c TR _ hC2 (by omega)).mono ?_
   rintro e w7 ⟨v7,rfl,hR7,hb7⟩
   have hbr4 := hbr2.trans (hb7.mono hbr2.size)
   have hqr4 := blk_below hqr2 hb7
   have hSr4 := Kd.S_old hSr2 hb7
   have hq6 := blk_lt hqr2
   have hsz6 := hbr2.size
   refine ⟨_,rfl,hK.out _ _ (cell_below hHeld hb7) (fun hHeld => ?_)⟩
   have hSr3x := hSr2
   have hsz7 := hb7.size
   clear hK K hqr2 hSr2
   obtain ⟨A7,c7,rfl⟩ := Kd.R_slice hR7
   refine norm_ (a' := ?_) ?_ ?_
   rotate_left
   ·show Act.put _ (some 24) _ = _
    simp only [Act.put,List.setIfInBounds_toArray,List.set_cons_zero,List.set_cons_succ,i64_w,i32_w]
    rfl
   refine one_ (i := 4) (N := (some 25)) #[true,true,true,true,true,false,false,false] rfl rfl (one_of HT_.out (by kernel_rfl)) (by decide) (fun K hK => ?_)
   refine value_ (w1 := ?_) (v := ?_) (by rfl) rfl ?_ ?_
   rotate_left 2
   ·go_simp
    constructor
    ·rfl
    ·rfl
   refine hK.out _ _ (cell_below hHeld (below_alloc (Below.refl _ _) _)) (fun hHeld => ?_)
   clear hK K
   refine norm_ (a' := ?_) ?_ ?_
   rotate_left
   ·show Act.put _ (some 25) _ = _
    simp only [Act.put,List.setIfInBounds_toArray,List.set_cons_zero,List.set_cons_succ,i64_w,i32_w]
    rfl
   refine one_ (i := 5) (N := (some 26)) #[true,true,true,true,true,true,false,false] rfl rfl (one_of HT_.out (by kernel_rfl)) (by decide) (fun K hK => ?_)
   refine Kd.S_append_step kRow (w0 := w7) base2 (by rfl) (.tmp 22) (.tmp 25) 22 36 (.slice none 0 0) 24 rfl Tryd.underlying22 info36 rfl (by decide) (by decide) fv FL TR [.slice A7 TR.length c7] (fun k => q < k) (fun k => wq.heap.size ≤ k) rfl rfl (Kd.M_row (Kd.R_lower (Kd.R_mono (Kd.R_bound hR7) (fun k hk => hk.2.1)) (by omega))) (fun k hk => ⟨by omega,fun he => by have := Kd.S_lt hSr3x k he.symm;omega⟩) (fun k hk => by have := blk_lt hqr4;omega) (Kd.S_mono hSr4 (fun k hk => ⟨hk.1,by have := hk.2;omega⟩)) (Below.refl _ _) (by omega) (by omega) ?_
   intro v8 w8 hS8 hB8 hg8 hat8
   rw [hsn] at hS8
   obtain ⟨A8,c8,hv8⟩ := Kd.R_slice (Kd.S_R hS8)
   generalize (s.rows.take (i + 1)).length = N8 at hv8
   subst hv8
   have hown : ∀ k,fv.ownBlock = some k → q < k := fun k hk => (Kd.S.own_ok hSr4 k hk).1
   have hqr5 := blk_grown hqr4 hg8 (fun he => by have := hown _ he.symm;omega)
   have hbr5 : Below W.heap.size W w8 := Below.grown hbr4 hg8 hbr4.size (fun k hk => by have := hown k hk;omega)
   refine hK.out _ _ (blk_cell hqr5 2) (fun hHeld => ?_)
   clear hK K hqr4 hSr4 hb7 hR7 hSr3x
   refine norm_ (a' := ?_) ?_ ?_
   rotate_left
   ·show Act.put _ (some 26) _ = _
    simp only [Act.put,List.setIfInBounds_toArray,List.set_cons_zero,List.set_cons_succ,i64_w,i32_w]
    rfl
   refine pure_ (i := 6) (N := (some 27)) (v := ?_) (a' := ?_) #[true,true,true,true,true,true,true,false] rfl rfl (any_of HT_.out (by kernel_rfl)) (fun _ _ _ h => h) (Or.inl ⟨by rfl,?_⟩) ?_ ?_
   rotate_left
   ·intro w'
    go_simp
    with_reducible rfl
   rotate_left
   ·simp only [Act.put,List.setIfInBounds_toArray,List.set_cons_zero,List.set_cons_succ,i64_w,i32_w]
    rfl
   refine last_ (i := 7) (N := none) #[true,true,true,true,true,true,true,true] rfl rfl (one_of HT_.out (by kernel_rfl)) (by decide) (fun K hK => ?_)
   have f1 := blk_frozen hqr5 2
   refine skip_ (w1 := ?_) (by rfl) rfl ?_ ?_
   rotate_left
   ·go_simp
    rfl
   refine hK.out _ _ ?_
   clear hK K
   have hbr6 := hbr5.setCell (p := ⟨q,2,none⟩) (by show W.heap.size ≤ q;omega) (.slice A8 N8 c8)
   have hqr6 := blk_put (cs' := #[.int .i64 s.w,.int .i64 s.h,.slice A8 N8 c8,.int .i64 s.r,.int .i64 s.c,.bool s.full,.int .i64 s.lr,.int .i64 s.lc,.bool s.marks,.string hd]) hqr5 2 (.slice A8 N8 c8) rfl
   have hSr6 := Kd.S_far (p := ⟨q,2,none⟩) hS8 (fun k hk (he : k = q) => by omega) (.slice A8 N8 c8)
   generalize w8.setCell ⟨q,2,none⟩ (.slice A8 N8 c8) = w9 at hbr6 hqr6 hSr6 ⊢
   clear hbr5 hqr5 hS8 hHeld f1
   refine done_ (done_of HT_.out (by kernel_rfl)) ?_
   clear HT_ HW_
   go_wp2
   go_roundw
   case rel => exact ⟨i + 1,_,by go_num,by omega,hbr6,hqr6,hSr6⟩
   case measure => simp [intOf];omega
  ·have hlt' := eq_false (show ¬ (i : Int) < (s.rows.length : Int) by omega)
   have hie := Lib.hid (show i = s.rows.length by omega)
   go_wp2_with (fail)
   go_ret
   rw [hie.out,List.take_length] at hSr
   subst hqW
   exact ⟨rfl,⟨⟨fv,hqr,hSr⟩,hb2,Nat.lt_irrefl _⟩,hbr⟩
end Go.Proofs.YtgdpnmikcopkmaaDoor.U
end
section
namespace Go.Proofs.YtgdpnmikcopkmaaDoor.U
open Go.RowKit Go.Proofs.YtgdpnmikcopkmaaDoor.Pu Go.Proofs.YtgdpnmikcopkmaaDoorW.PrintWords Go.Proofs.YtgdpnmikcopkmaaDoorW.PrintLast Go.Proofs.YtgdpnmikcopkmaaDoorW.PrintMore
set_option linter.unusedVariables false
set_option linter.unusedSimpArgs false
theorem own_less {w : World} {base : Nat} {e : TypeId} {size g n m cap : Nat} {xs ys : List Value} (h : w.ownsRow base e size (.slice (some ⟨g,0,none⟩) (n + m) cap) (n + m) (xs ++ ys)) (hx : xs.length = n * size) : w.ownsRow base e size (.slice (some ⟨g,0,none⟩) n cap) n xs := by
 refine ⟨hx,?_⟩
 rcases h.2 with ⟨hv,_⟩ | ⟨g',cap',cur,hv,hb,hh,hn,hc,hs,ht⟩
 ·cases hv
 ·injection hv with hv1 _ hv3
  injection hv1 with hv1
  injection hv1 with hv1
  subst hv1;subst hv3
  refine .inr ⟨g,cap,cur,rfl,hb,hh,by omega,hc,hs,?_⟩
  have h2 := congrArg (List.take (n * size)) ht
  rw [List.take_take,Nat.min_eq_left (Nat.mul_le_mul_right _ (Nat.le_add_right _ _)),← hx,List.take_left] at h2
  rw [← hx]
  exact h2
theorem run_append_keeps {P : Program} {w : World} (base : Nat) (t ty e : TypeId) (i : TypeInfo) (z : Value) (size bytes : Nat) (ht : P.underlying t = some (.slice e)) (hi : P.info? e = some i) (hz : i.zero = some z)
  (hsize : i.size = size) (hby : i.bytes = bytes) (hzs : z.cells.size = size) (hsz : 0 < size)
  (g n cap : Nat) (xs : List Value) (hown : w.ownsRow base e size (.slice (some ⟨g,0,none⟩) n cap) n xs)
  (a : Addr) (m c : Nat) (news : List Value) (hl : news.length = m * size) (hnews : ∀ j u,news[j]? = some u → w.cell? (a.add j) = some u) (h1 : ∀ u ∈ news,u.oneCell' = true)
  (h63 : n + m ≤ maxLen) (hbytes : (n + m) * bytes ≤ 140737488355328) (hbase : base ≤ w.heap.size) :
  ∃ v' w',(Builtin.append_ #[t,t] ty #[.slice (some ⟨g,0,none⟩) n cap,.slice (some a) m c]).run P w = .ok v' w' ∧ w'.ownsRow base e size v' (n + m) (xs ++ news) ∧ w'.ownsRow base e size (.slice (some ⟨g,0,none⟩) n cap) n xs ∧ w.grownBy w' (some g) ∧
   (v'.ownBlock = some g ∨ v'.ownBlock = some w.heap.size) := by
 obtain ⟨v',w',hr,h2,h3,_,h5⟩ := run_append_own_at (P := P) w base t ty e i z size bytes ht hi hz hsize hby hzs hsz _ n xs hown a m c news hl hnews h1 h63 hbytes hbase
 refine ⟨v',w',hr,h2,?_,h3,h5⟩
 by_cases hroom : n + m ≤ cap
 ·obtain ⟨w2,hr2,h6,_⟩ := run_append_own_spare (P := P) (w := w) base t ty e i size ht hi hsize g n cap xs hown a m c news hl hnews h1 hroom
  have he := hr.symm.trans hr2
  injection he with _ he
  subst he
  exact own_less h6 hown.1
 ·have holds : ∀ j u,xs[j]? = some u → w.cell? ((⟨g,0,none⟩ : Addr).add j) = some u := hown.cells (g := g) rfl
  have hr2 := run_append_grow (P := P) w t ty e i z ht hi hz ⟨g,0,none⟩ n cap xs (by rw [hsize];exact hown.1) holds a m c news (by rw [hsize];exact hl) hnews (by omega) (by simp only [maxLen] at h63;omega) (growslice_fits (by omega) (by rw [hby];exact hbytes))
  have he := hr.symm.trans hr2
  injection he with _ he
  subst he
  exact World.ownsRow.kept (w := w.drew) hown (World.grownBy_alloc w.drew _ none) (.inr (by simp [Value.ownBlock]))
theorem R_append_keeps {P : Program} {ops : Array Oper} {rest : List Oper} {o : Oper} {a : Act} {Q : Exit → Act → World → Prop} {α : Type} (d : Kd α) {w0 W : World} (base : Nat) (hgd : o.guard = none) (s x : Operand) (t e : TypeId) (z : Value) (bytes : Nat)
  (ho : o.op = .call { callee := .builtin .append,args := #[s,x],argTypes := #[t,t] })
  (ht : P.underlying t = some (.slice e)) (hinfo : (P.info? e).map (fun i => (i.zero,i.size,i.bytes)) = some (some z,d.sz,bytes)) (hz : z.cells.size = d.sz) (hs0 : 0 < d.sz) (hb0 : 0 < bytes)
  (g n cap : Nat) (xs : List α) (p : α) (cs : List Value) (ok okp : Nat → Prop) (hs : a.eval s = .slice (some ⟨g,0,none⟩) n cap) (hx : a.eval x = .slice (some ⟨W.heap.size,0,none⟩) 1 1) (hp : d.M W base okp p cs) (hokp : ∀ k,okp k → ok k ∧ some k ≠ some g) (hfresh : ∀ k,W.heap.size ≤ k → ok k)
  (HO : d.R e W base ok (.slice (some ⟨g,0,none⟩) n cap) xs) (HB : Below base w0 W) (hbase : base ≤ W.heap.size) (hl : (xs.length + 1) * bytes ≤ 140737488355328)
  (h : ∀ v1 w1,d.R e w1 base ok v1 (xs ++ [p]) → d.R e w1 base ok (.slice (some ⟨g,0,none⟩) n cap) xs → Below base w0 w1 → W.grownBy w1 (some g) → (v1.ownBlock = some g ∨ ∃ b,v1.ownBlock = some b ∧ W.heap.size ≤ b) → wpList P ops Q rest (a.put o.dst v1) w1) :
  wpList P ops Q (o :: rest) a (W.alloc (.cells cs.toArray e)) := by
 obtain ⟨i0,hi,hzz⟩ := Option.map_eq_some_iff.1 hinfo
 simp only [Prod.mk.injEq] at hzz
 obtain ⟨hz0,hz1,hz2⟩ := hzz
 have hgb := Kd.R_base HO g rfl
 obtain rfl := (Kd.R_reads' HO).1
 obtain ⟨h0,inner,hown,hr⟩ := HO
 have hlen : xs.length + 1 ≤ 140737488355328 := Nat.le_trans (Nat.le_mul_of_pos_right _ hb0) hl
 have hcl := d.K_len (d.K_of_M hp)
 refine wpList_plain hgd fun K hK => ?_
 obtain ⟨v',w',hrun,h2,h3,h4,h5⟩ := run_append_keeps (P := P) (w := W.alloc (.cells cs.toArray e)) base t o.type e i0 z d.sz bytes ht hi hz0 hz1 hz2 hz hs0 g xs.length cap inner (hown.alloc _) ⟨W.heap.size,0,none⟩ 1 1 cs (by rw [hcl];simp)
  (by simpa using World.news_of_block (cs := cs.toArray) (t := e) (fr := (0,0)) (heap_alloc_new W (.cells cs.toArray e))) (d.K_one (d.K_of_M hp)) (by simp only [maxLen];omega) hl (by simp;omega)
 have hg : W.grownBy w' (some g) := World.grownBy.trans (World.grownBy_alloc W _ _) h4
 have hat : v'.ownBlock = some g ∨ ∃ b,v'.ownBlock = some b ∧ W.heap.size ≤ b := h5.imp id (fun h => ⟨_,h,by simp⟩)
 unfold Oper.wp execOp
 simp only [ho,resolve,invoke,builtin,Sem.run_bind,Sem.run_pure,Result.andThen_ok,List.map_toArray,List.map_cons,List.map_nil,hs,hx,hrun]
 refine hK _ _ (h v' w' (Kd.R_appended h0 hr hp hokp hfresh h2 hg hat) ⟨h0,inner,h3,hr.imp_ (fun _ _ hq => d.M_mono (fun k hk => hk.1) (d.M_move (fun k hk => hg.block k hk.2.2.1 hk.1.2) (d.M_bound hq)))⟩ ?_ hg hat)
 exact (HB.alloc hbase _).grown h4 (by simp;omega) (fun k hk => by injection hk with hk;omega)
end Go.Proofs.YtgdpnmikcopkmaaDoor.U
end
section
namespace Go.Proofs.YtgdpnmikcopkmaaDoor.U
open Go.RowKit Go.Proofs.YtgdpnmikcopkmaaDoor.Pu Go.Proofs.YtgdpnmikcopkmaaDoorW.PrintWords Go.Proofs.YtgdpnmikcopkmaaDoorW.PrintLast Go.Proofs.YtgdpnmikcopkmaaDoorW.PrintMore
set_option linter.unusedVariables false
set_option linter.unusedSimpArgs false
theorem run_zeros_keeps {P : Program} {w : World} (base : Nat) (t ti ty e : TypeId) (i : TypeInfo) (z : Value) (size bytes : Nat) (ht : P.underlying t = some (.slice e)) {k : IntKind} (hti : P.underlying ti = some (.int k)) (hi : P.info? e = some i) (hz : i.zero = some z)
  (hsize : i.size = size) (hby : i.bytes = bytes) (hzs : z.cells.size = size) (hsz : 0 < size) (hb0 : 0 < bytes)
  (g n cap : Nat) (xs : List Value) (hown : w.ownsRow base e size (.slice (some ⟨g,0,none⟩) n cap) n xs) (kx : IntKind) (m : Nat) (hm0 : 0 < m) (h1 : ∀ u ∈ (Builtin.zeroCells z.cells m).toList,u.oneCell' = true)
  (hbytes : (n + m) * bytes ≤ 140737488355328) (hbase : base ≤ w.heap.size) :
  ∃ v' w',(Builtin.append_ #[t,ti] ty #[.slice (some ⟨g,0,none⟩) n cap,.int kx m]).run P w = .ok v' w' ∧ w'.ownsRow base e size (.slice (some ⟨g,0,none⟩) n cap) n xs ∧ w.grownBy w' (some g) := by
 obtain ⟨v',w',hr,h2,h3,h5⟩ := run_append_zeros (P := P) w base t ti ty e i z size bytes ht hti hi hz hsize hby hzs hsz hb0 _ n xs hown kx m h1 hbytes hbase
 refine ⟨v',w',hr,?_,h3⟩
 subst hsize
 subst hby
 have hle : n + m ≤ 140737488355328 := Nat.le_trans (Nat.le_mul_of_pos_right _ hb0) hbytes
 have hw : IntKind.i64.wrap (m : Int) = m := by rw [IntKind.wrap_i64];omega
 have hneg : ¬ ((m : Int) < 0) := by omega
 have hmb : m * i.bytes ≤ 140737488355328 := Nat.le_trans (Nat.mul_le_mul_right _ (Nat.le_add_left m n)) hbytes
 have hbig : ¬ (281474976710656 < (m : Int) * (i.bytes : Int)) := by
  rw [← Int.natCast_mul]
  omega
 have hmz : ¬ (m * i.size = 0) := Nat.mul_ne_zero (by omega) (by omega)
 obtain ⟨news,hnews⟩ : ∃ news,news = (Builtin.zeroCells z.cells m).toList := ⟨_,rfl⟩
 rw [← hnews] at h1 h2
 have hl : news.length = m * i.size := by rw [hnews,Array.length_toList,size_zeroCells,hzs]
 have hna : Builtin.zeroCells z.cells m = news.toArray := by rw [hnews]
 rcases hown.2 with ⟨hv,_⟩ | ⟨g',cap',cur,hv,hbg,hg,hnc,hcm,hcs,htake⟩
 ·cases hv
 ·cases hv
  by_cases hroom : n + m ≤ cap
  ·have hfit : n * i.size + news.length ≤ cur.size := by rw [hl,hcs,← Nat.add_mul];exact Nat.mul_le_mul_right _ hroom
   have hst := run_storeCells_cells (P := P) g (n * i.size) news 0 w (fun j hj => by rw [cell_of_row w g _ cur e (0,0) hg];simp;omega) (fun j _ => blk_frozen hg _) h1
   simp only [Nat.add_zero] at hst
   have hr2 : (Builtin.append_ #[t,ti] ty #[.slice (some ⟨g,0,none⟩) n cap,.int kx m]).run P w = .ok (.slice (some ⟨g,0,none⟩) (n + m) cap) (w.setCells g (n * i.size) news) := by
    simp [Builtin.append_,run_underlying ht,run_underlying hti,sizeOf,typeInfo,zeroValue,hi,hz,asInt,asIntOf,hw,hneg,hbig,hroom,hmz,hna,add_plain,hst]
   have he := hr.symm.trans hr2
   injection he with hv' hw'
   subst hv'
   exact own_less h2 hown.1
  ·have holds : ∀ j u,xs[j]? = some u → w.cell? ((⟨g,0,none⟩ : Addr).add j) = some u := hown.cells (g := g) rfl
   have hfo := run_firstCells_some (P := P) w.drew i.size n _ n cap xs hown.1 (by simpa using holds)
   have hcap : cap < n + m := by omega
   have h63' : ¬ (9223372036854775807 < ((n : Int) + (m : Int))) := by omega
   have hfit := growslice_fits hcap hbytes
   have h48' : ¬ (281474976710656 < Builtin.nextslicecap (n + m) cap * i.bytes) := by omega
   obtain ⟨v2,o2,hr2⟩ : ∃ v2 o2,(Builtin.append_ #[t,ti] ty #[.slice (some ⟨g,0,none⟩) n cap,.int kx m]).run P w = .ok v2 (w.drew.alloc o2) := by
    simp [Builtin.append_,run_underlying ht,run_underlying hti,sizeOf,typeInfo,zeroValue,hi,hz,asInt,asIntOf,hw,hneg,hbig,hroom,h63',h48',Question.forced,hfo,newRow,grownCap,hmz,hna]
    exact ⟨_,rfl⟩
   have he := hr.symm.trans hr2
   injection he with _ hw'
   subst hw'
   exact World.ownsRow.kept (w := w.drew) hown (World.grownBy_alloc w.drew _ none) (.inr (by simp [Value.ownBlock]))
theorem R_zeros_keeps {P : Program} {ops : Array Oper} {rest : List Oper} {o : Oper} {a : Act} {Q : Exit → Act → World → Prop} {α : Type} (d : Kd α) {w0 W : World} (base : Nat) (hgd : o.guard = none) (s x : Operand) (t ti e : TypeId) (z : Value) (bytes : Nat)
  (ho : o.op = .call { callee := .builtin .append,args := #[s,x],argTypes := #[t,ti] })
  (ht : P.underlying t = some (.slice e)) {k : IntKind} (hti : P.underlying ti = some (.int k)) (hinfo : (P.info? e).map (fun i => (i.zero,i.size,i.bytes)) = some (some z,d.sz,bytes)) (hz : z.cells.size = d.sz) (hs0 : 0 < d.sz) (hb0 : 0 < bytes)
  (g n cap : Nat) (xs : List α) {kx : IntKind} (m : Nat) (hm0 : 0 < m) (h1 : ∀ u ∈ (Builtin.zeroCells z.cells m).toList,u.oneCell' = true) (ok : Nat → Prop) (hs : a.eval s = .slice (some ⟨g,0,none⟩) n cap) (hx : a.eval x = .int kx (m : Int))
  (HO : d.R e W base ok (.slice (some ⟨g,0,none⟩) n cap) xs) (HB : Below base w0 W) (hbase : base ≤ W.heap.size) (hl : (xs.length + m) * bytes ≤ 140737488355328)
  (h : ∀ v1 w1,d.R e w1 base ok (.slice (some ⟨g,0,none⟩) n cap) xs → Below base w0 w1 → W.grownBy w1 (some g) → wpList P ops Q rest (a.put o.dst v1) w1) :
  wpList P ops Q (o :: rest) a W := by
 obtain ⟨i0,hi,hzz⟩ := Option.map_eq_some_iff.1 hinfo
 simp only [Prod.mk.injEq] at hzz
 obtain ⟨hz0,hz1,hz2⟩ := hzz
 have hgb := Kd.R_base HO g rfl
 obtain rfl := (Kd.R_reads' HO).1
 obtain ⟨h0,inner,hown,hr⟩ := HO
 obtain ⟨v',w',hrun,h3,h4⟩ := run_zeros_keeps (P := P) (w := W) base t ti o.type e i0 z d.sz bytes ht hti hi hz0 hz1 hz2 hz hs0 hb0 g xs.length cap inner hown kx m hm0 h1 hl hbase
 refine wpList_plain hgd fun K hK => ?_
 unfold Oper.wp execOp
 simp only [ho,resolve,invoke,builtin,Sem.run_bind,Sem.run_pure,Result.andThen_ok,List.map_toArray,List.map_cons,List.map_nil,hs,hx,hrun]
 exact hK _ _ (h v' w' ⟨h0,inner,h3,hr.imp_ (fun _ _ hq => d.M_mono (fun k hk => hk.1) (d.M_move (fun k hk => h4.block k hk.2.2.1 hk.1.2) (d.M_bound hq)))⟩ (HB.grown h4 hbase (fun k hk => by injection hk with hk;omega)) h4)
end Go.Proofs.YtgdpnmikcopkmaaDoor.U
end
section
namespace Go.Proofs.YtgdpnmikcopkmaaDoor.U
open Go.RowKit Go.Proofs.YtgdpnmikcopkmaaDoor.Pu Go.Proofs.YtgdpnmikcopkmaaDoorW.PrintWords Go.Proofs.YtgdpnmikcopkmaaDoorW.PrintLast Go.Proofs.YtgdpnmikcopkmaaDoorW.PrintMore
set_option linter.unusedVariables false
set_option linter.unusedSimpArgs false
/-- A cell of a row is written where it lies: what is there,what is left. -/
theorem S_cell {base g cap : Nat} {ok : Nat → Prop} {w : World} {rows : List (List Cl)} (hS : Kd.S kRow 36 w base ok (.slice (some ⟨g,0,none⟩) rows.length cap) rows) (i : Nat) (hi : i < rows.length) (k : Nat) (hk : k < (rows.getD i []).length) (x : Cl) :
  ∃ gi c,w.cell? ⟨g,i,none⟩ = some (.slice (some ⟨gi,0,none⟩) (rows.getD i []).length c) ∧ (rows.getD i []).length ≤ c ∧ ok gi ∧ base ≤ gi ∧ gi ≠ g ∧
   w.cell? ⟨gi,k * 2,none⟩ = some (.string (gC (rows.getD i []) k).f0) ∧ w.cell? ⟨gi,k * 2 + 1,none⟩ = some (.int .i64 (gC (rows.getD i []) k).f1) ∧ w.frozen? ⟨gi,k * 2,none⟩ = false ∧ w.frozen? ⟨gi,k * 2 + 1,none⟩ = false ∧
   Kd.S kRow 36 ((w.setCell ⟨gi,k * 2,none⟩ (.string x.f0)).setCell ⟨gi,k * 2 + 1,none⟩ (.int .i64 x.f1)) base ok (.slice (some ⟨g,0,none⟩) rows.length cap) (rows.set i ((rows.getD i []).set k x)) := by
 obtain ⟨oki,A,c,hR,hcell,_,hoki,hH⟩ := row_of hS i hi
 generalize rows.getD i [] = L at hR hcell hH hk ⊢
 obtain ⟨gi,ci,hv,hgi0,hgil,cells2,hgc2⟩ := Kd.R_form hR (by omega)
 injection hv with hv1 _ hv3
 subst hv1;subst hv3
 have hoi := hR.1 gi rfl
 have hbg := Kd.R_base hR gi rfl
 obtain ⟨x0,x1,y0,y1⟩ := row_cells hR k hk
 have hR2 := row_put hR k hk x
 obtain ⟨hB2,hK2⟩ := kept_put (base := base) (g := gi) k (.string x.f0) (.int .i64 x.f1) hbg (Below.refl base w) (Kept.refl w _)
 have hH2 := Kd.H_kept hH hK2 (fun b _ hn he => by subst he;exact hn hoi)
 refine ⟨gi,c,hcell,(Kd.R_reads' hR).2.1,(hoki _ hoi).1,hbg,(hoki _ hoi).2,x0,x1,y0,y1,?_⟩
 have hl : (L.set k x).length = L.length := List.length_set
 rw [← hl] at hR2
 have hM := Kd.M_row hR2
 rw [hl] at hM
 have h3 := Kd.H_back hH2 hM (fun b hb => hb)
 rw [Int.toNat_natCast] at h3
 exact h3
/-- Two slices of one block have one room. -/
theorem caps_eq {base base2 g n m c c2 : Nat} {ok ok2 : Nat → Prop} {w : World} {L X : List Cl} (h1 : RowAt base ok w (.slice (some ⟨g,0,none⟩) n c) L) (h2 : RowAt base2 ok2 w (.slice (some ⟨g,0,none⟩) m c2) X) : c = c2 := by
 obtain ⟨_,i1,o1,_⟩ := h1
 obtain ⟨_,i2,o2,_⟩ := h2
 rcases o1.2 with ⟨hv,_⟩ | ⟨g1,k1,u1,hv,_,hh,_,_,hs,_⟩
 ·cases hv
 rcases o2.2 with ⟨hv2,_⟩ | ⟨g2,k2,u2,hv2,_,hh2,_,_,hs2,_⟩
 ·cases hv2
 cases hv
 cases hv2
 rw [hh] at hh2
 injection hh2 with hh2
 injection hh2 with hh2
 subst hh2
 have e : c * 2 = c2 * 2 := hs.symm.trans hs2
 omega
/-- A row's cells lead to no block: whose it is,is its own block alone. -/
theorem row_ok {base : Nat} {ok ok2 : Nat → Prop} {w : World} {v : Value} {L : List Cl} (h : RowAt base ok w v L) (h2 : ∀ k,v.ownBlock = some k → ok2 k) : RowAt base ok2 w v L := by
 obtain ⟨_,i1,o1,r1⟩ := h
 refine ⟨h2,i1,o1,r1.imp_ (fun x cs hq => ?_)⟩
 rw [k38_openM hq]
 exact k38_mkM _ _ _ _
/-- A slot's row,and one that began as it and is appended to. -/
structure Pr (base N0 : Nat) (ok : Nat → Prop) (w : World) (slot rv : Value) (L X : List Cl) : Prop where
 s : RowAt base ok w slot L
 r : RowAt base (fun _ => True) w rv X
 sh : rv.ownBlock = slot.ownBlock → X.take L.length = L
 fr : rv.ownBlock = slot.ownBlock ∨ ∀ k,rv.ownBlock = some k → N0 ≤ k
 lt : ∀ k,slot.ownBlock = some k → k < N0
theorem Pr.start {base N0 : Nat} {ok : Nat → Prop} {w : World} {slot : Value} {L : List Cl} (h : RowAt base ok w slot L) (hN : w.heap.size ≤ N0) : Pr base N0 ok w slot slot L L :=
 ⟨h,row_ok h (fun _ _ => trivial),fun _ => List.take_length,.inl rfl,fun k hk => by
  obtain ⟨A,c,rfl⟩ := Kd.R_slice h
  obtain ⟨_,i1,o1,_⟩ := h
  rcases o1.2 with ⟨hv,_⟩ | ⟨g1,k1,u1,hv,_,hh,_⟩
  ·rw [hv] at hk;cases hk
  ·rw [hv] at hk
   have hk : some g1 = some k := hk
   injection hk with hk
   subst hk
   have := blk_lt hh
   omega⟩
theorem own_gr {base g n c : Nat} {ok : Nat → Prop} {w : World} {v : Value} {L : List Cl} (h : RowAt base ok w v L) (hv : v.ownBlock = some g) : ∃ c,v = .slice (some ⟨g,0,none⟩) L.length c := by
 obtain ⟨A,c,rfl⟩ := Kd.R_slice h
 obtain ⟨_,i1,o1,_⟩ := h
 rcases o1.2 with ⟨hv2,_⟩ | ⟨g1,k1,u1,hv2,_,hh,_⟩
 ·rw [hv2] at hv;cases hv
 ·rw [hv2] at hv
  have hv : some g1 = some g := hv
  injection hv with hv
  subst hv
  exact ⟨k1,hv2⟩
/-- Behind an append to the one that began as the slot's. -/
theorem Pr.same {base N0 g : Nat} {ok : Nat → Prop} {w w1 : World} {slot rv v1 : Value} {L X : List Cl} {p : Cl} (h : Pr base N0 ok w slot rv L X) (hg : rv.ownBlock = some g) (hs : slot.ownBlock = some g) (h1 : RowAt base (fun _ => True) w1 v1 (X ++ [p])) (h2 : RowAt base (fun _ => True) w1 rv X) (hat : v1.ownBlock = some g ∨ ∃ b,v1.ownBlock = some b ∧ N0 ≤ b) : Pr base N0 ok w1 slot v1 L (X ++ [p]) := by
 obtain ⟨c,rfl⟩ := own_gr (n := 0) (c := 0) h.s hs
 obtain ⟨c2,rfl⟩ := own_gr (n := 0) (c := 0) h.r hg
 have hc := caps_eq h.s h.r
 subst hc
 have hX := h.sh (hg.trans hs.symm)
 have hle : L.length ≤ X.length := by
  have := congrArg List.length hX
  rw [List.length_take] at this
  omega
 have h3 := Kd.R_take h2 (m := L.length) hle
 rw [hX] at h3
 refine ⟨row_ok h3 (fun k hk => h.s.1 k hk),h1,fun he => ?_,?_,h.lt⟩
 ·rw [List.take_append_of_le_length hle];exact hX
 ·rcases hat with hat | ⟨b,hb,hN⟩
  ·exact .inl hat
  ·exact .inr (fun k hk => by rw [hb] at hk;injection hk with hk;omega)
theorem Pr.far {base N0 : Nat} {ok : Nat → Prop} {w w1 : World} {slot rv v1 : Value} {L X : List Cl} {p : Cl} (h : Pr base N0 ok w slot rv L X) (hf : ∀ k,rv.ownBlock = some k → N0 ≤ k) (hg : w.grownBy w1 rv.ownBlock) (h1 : RowAt base (fun _ => True) w1 v1 (X ++ [p])) (hat : v1.ownBlock = rv.ownBlock ∨ ∃ b,v1.ownBlock = some b ∧ N0 ≤ b) (hne : v1.ownBlock ≠ slot.ownBlock) : Pr base N0 ok w1 slot v1 L (X ++ [p]) := by
 refine ⟨Kd.R_grown2 h.s rfl hg (fun k hk he => ?_),h1,fun he => absurd he hne,?_,h.lt⟩
 ·have := hf k hk
  have := h.lt k he.symm
  omega
 ·rcases hat with hat | ⟨b,hb,hN⟩
  ·exact .inr (fun k hk => hf k (hat ▸ hk))
  ·exact .inr (fun k hk => by rw [hb] at hk;injection hk with hk;omega)
/-- An append of a cell,beside the slot's row. -/
theorem pr_append {ops : Array Oper} {rest : List Oper} {o : Oper} {a : Act} {Q : Exit → Act → World → Prop} {w0 W : World} (base : Nat) (hgd : o.guard = none) (s x : Operand)
  (ho : o.op = .call { callee := .builtin .append,args := #[s,x],argTypes := #[36,36] }) {N0 : Nat} {ok : Nat → Prop} {slot rv : Value} {L X : List Cl} (p : Cl)
  (hs : a.eval s = rv) (hx : a.eval x = .slice (some ⟨W.heap.size,0,none⟩) 1 1) (hP : Pr base N0 ok W slot rv L X) (hN : N0 ≤ W.heap.size) (HB : Below base w0 W) (hbase : base ≤ W.heap.size) (hl : X.length ≤ 1099511627776)
  (h : ∀ v1 w1,Pr base N0 ok w1 slot v1 L (X ++ [p]) → Below base w0 w1 → W.grownBy w1 rv.ownBlock → wpList Tryd.prog ops Q rest (a.put o.dst v1) w1) :
  wpList Tryd.prog ops Q (o :: rest) a (W.alloc (.cells #[.string p.f0,.int .i64 p.f1] 38)) := by
 have hp : k38.M W base (fun _ => False) p [.string p.f0,.int .i64 p.f1] := k38_mkM _ _ _ _
 by_cases hsame : ∃ g,rv.ownBlock = some g ∧ slot.ownBlock = some g
 ·obtain ⟨g,hr,hsl⟩ := hsame
  obtain ⟨c,rfl⟩ := own_gr (n := 0) (c := 0) hP.r hr
  refine R_append_keeps k38 (w0 := w0) base hgd s x 36 38 (.agg #[.string ⟨#[]⟩,.int .i64 0]) 24 ho Tryd.underlying36 info38 rfl (by decide) (by decide) g X.length c X p [.string p.f0,.int .i64 p.f1] (fun _ => True) (fun _ => False) hs hx hp (fun _ hk => hk.elim) (fun _ _ => trivial) hP.r HB hbase (by omega) ?_
  intro v1 w1 h1 h2 hB hg hat
  exact h v1 w1 (hP.same hr hsl h1 h2 (hat.imp id (fun ⟨b,hb,hle⟩ => ⟨b,hb,by omega⟩))) hB hg
 ·refine Kd.R_append k38 (w0 := w0) base hgd s x 36 38 (.agg #[.string ⟨#[]⟩,.int .i64 0]) 24 ho Tryd.underlying36 info38 rfl (by decide) (by decide) rv X p [.string p.f0,.int .i64 p.f1] (fun _ => True) (fun _ => False) hs hx hp (fun _ hk => hk.elim) (fun _ _ => trivial) hP.r HB hbase (by omega) ?_
  intro v1 w1 h1 hB hg hat
  obtain ⟨g1,c1,hv1,_,_,_,_⟩ := Kd.R_form h1 (by simp)
  have hf : ∀ k,rv.ownBlock = some k → N0 ≤ k := fun k hk => by
   rcases hP.fr with he | hf
   ·exact absurd ⟨k,hk,he ▸ hk⟩ hsame
   ·exact hf k hk
  have hat2 : v1.ownBlock = rv.ownBlock ∨ ∃ b,v1.ownBlock = some b ∧ N0 ≤ b := hat.imp id (fun ⟨b,hb,hle⟩ => ⟨b,hb,by omega⟩)
  refine h v1 w1 (hP.far hf hg h1 hat2 (fun he => ?_)) hB hg
  have ho1 : v1.ownBlock = some g1 := by rw [hv1];rfl
  have hlt := hP.lt g1 (he ▸ ho1)
  rcases hat2 with h3 | ⟨b,hb,hle⟩
  ·have := hf g1 (h3 ▸ ho1);omega
  ·rw [ho1] at hb;injection hb with hb;omega
/-- An append of zeros to a slot's row,dropped: the row stays. -/
theorem row_zeros {ops : Array Oper} {rest : List Oper} {o : Oper} {a : Act} {Q : Exit → Act → World → Prop} {w0 W : World} (base : Nat) (hgd : o.guard = none) (s x : Operand)
  (ho : o.op = .call { callee := .builtin .append,args := #[s,x],argTypes := #[36,3] }) {ok : Nat → Prop} {slot : Value} {L : List Cl}
  (hs : a.eval s = slot) (hx : a.eval x = .int .i64 64) (hR : RowAt base ok W slot L) (HB : Below base w0 W) (hbase : base ≤ W.heap.size) (hl : L.length ≤ 1099511627776)
  (h : ∀ v1 w1,RowAt base ok w1 slot L → Below base w0 w1 → W.grownBy w1 slot.ownBlock → wpList Tryd.prog ops Q rest (a.put o.dst v1) w1) :
  wpList Tryd.prog ops Q (o :: rest) a W := by
 cases hsl : slot.ownBlock with
 | some g =>
  obtain ⟨c,rfl⟩ := own_gr (n := 0) (c := 0) hR hsl
  rw [hsl] at h
  exact R_zeros_keeps k38 (w0 := w0) base hgd s x 36 3 38 (.agg #[.string ⟨#[]⟩,.int .i64 0]) 24 ho Tryd.underlying36 Tryd.underlying3 info38 rfl (by decide) (by decide) g L.length c L 64 (by decide) (fun u hu => Kd.reps_one (Kd.reps_zeros (R := k38.M W base (fun _ => False)) (z0 := noC) rfl (by decide) (k38_mkM _ _ _ _) 64) (by decide) (fun _ _ hp => k38.K_one (k38.K_of_M hp)) u hu) ok hs hx hR HB hbase (by omega) h
 | none =>
  rw [hsl] at h
  refine Kd.R_append_zeros k38 (w0 := w0) base hgd s x 36 3 38 (.agg #[.string ⟨#[]⟩,.int .i64 0]) 24 ho Tryd.underlying36 Tryd.underlying3 info38 rfl (by decide) (by decide) slot L noC (kx := .i64) 64 (fun _ => True) hs hx (k38_mkM _ _ _ _) (fun _ _ => trivial) (row_ok hR (fun _ _ => trivial)) (by decide) HB hbase (by show (L.length + 64) * 24 ≤ _;omega) ?_
  intro v1 w1 h1 hB hg hat
  rw [hsl] at hg
  exact h v1 w1 (Kd.R_grown2 hR rfl hg (fun k hk => by cases hk)) hB hg
end Go.Proofs.YtgdpnmikcopkmaaDoor.U
end
section
namespace Go.Proofs.YtgdpnmikcopkmaaDoor.U
open Go.RowKit Go.Proofs.YtgdpnmikcopkmaaDoorW.PrintWords Go.Proofs.YtgdpnmikcopkmaaDoorW.PrintLast Go.Proofs.YtgdpnmikcopkmaaDoorW.PrintMore
attribute [local go_sem] max2_int min2_int max_two min_two max_three min_three max_four min_four   -- for this text's walks alone
set_option linter.unusedVariables false
set_option linter.unusedSimpArgs false
theorem eqA24 (d : Nat) (w : World) (x0 y0 : Int) (x1 y1 : Int) :
  (Op.equalIn (d + 2) 24 (.agg #[.int .i64 x0,.int .i64 x1]) (.agg #[.int .i64 y0,.int .i64 y1])).run Tryd.prog w = .ok (x0 == y0 && (x1 == y1)) w := by
 refine eqA_of Tryd.underlying24 (by kernel_rfl) ?_
 refine eqf_cons (by rfl) (by go_simp;rfl) (by go_simp;rfl) (by go_simp) ?_
 exact eqf_last (by rfl) (by go_simp;rfl) (by go_simp;rfl) (by go_simp)
end Go.Proofs.YtgdpnmikcopkmaaDoor.U
end
section
namespace Go.Proofs.YtgdpnmikcopkmaaDoor.U
open Go.RowKit Go.Proofs.YtgdpnmikcopkmaaDoorW.PrintWords Go.Proofs.YtgdpnmikcopkmaaDoorW.PrintLast Go.Proofs.YtgdpnmikcopkmaaDoorW.PrintMore
attribute [local go_sem] max2_int min2_int max_two min_two max_three min_three max_four min_four   -- for this text's walks alone
set_option linter.unusedVariables false
set_option linter.unusedSimpArgs false
attribute [local go_sem high] eqA38
def bodkinref22_SameRow.l0 : Nat → List (S38) → List (S38) → Int → Option (Bool)
 | 0,_,_,_ => none
 | k + 1,x0,x1,x5 => if x5 < (x0.length : Int) then (if 0 ≤ x5 then (if x5 < (x1.length : Int) then (if (!((((rd_T38 x0 x5).f0).toList) == (((rd_T38 x1 x5).f0).toList)) || (!(((rd_T38 x0 x5).f1) == ((rd_T38 x1 x5).f1)))) = true then (some false) else (bodkinref22_SameRow.l0 k x0 x1 (wrap64 (x5 + 1)))) else (none)) else (none)) else (some true)
def bodkinref22_SameRow.f (k : Nat) (l0 : List (S38)) (l1 : List (S38)) : Option (Bool) := if (l0.length : Int) = (l1.length : Int) then (bodkinref22_SameRow.l0 k l0 l1 0) else (some false)
set_option maxHeartbeats 8000000 in
set_option maxRecDepth 100000 in
theorem bodkinref22_SameRow.calls (k : Nat) (A0 : Option Addr) (c0 : Nat) (l0 : List (S38)) (A1 : Option Addr) (c1 : Nat) (l1 : List (S38)) (r : Bool) (w : World) (hr0 : Kd.C k38 w A0 l0.length l0) (hc0 : l0.length ≤ c0) (hr1 : Kd.C k38 w A1 l1.length l1) (hc1 : l1.length ≤ c1) (h : bodkinref22_SameRow.f k l0 l1 = some r) :
  Calls Tryd.prog 36 #[.slice A0 l0.length c0,.slice A1 l1.length c1] w fun e w' => e = .returned (.bool r) ∧ Drawn0 w w' := by
 have hu38 := Tryd.underlying38
 have HR0 := Aside0.mk hr0
 have HC0 := Aside0.mk hc0
 clear hr0 hc0
 have HR1 := Aside0.mk hr1
 have HC1 := Aside0.mk hc1
 clear hr1 hc1
 have H : (if (l0.length : Int) = (l1.length : Int) then (bodkinref22_SameRow.l0 k l0 l1 0) else (some false)) = some r := h
 clear h
 by_cases c3 : (l0.length : Int) = (l1.length : Int)
 ·rw [if_pos c3] at H
  have c3b0 : ((l0.length : Int) == (l1.length : Int)) = true := beq_iff_eq.mpr c3
  have c3b1 : ((l0.length : Int) != (l1.length : Int)) = false := bne_eq_false_iff_eq.mpr c3
  have c3b2 : (l0.length == l1.length) = true := by first | simpa using c3 | (simp at c3 ⊢;omega)
  clear c3
  have H' := Aside0.mk H
  clear H
  go_enter Tryd.func36,Tryd.ntmps36
  go_wp2
  repeat (go_quiet (fail);try go_wp2)
  go_loopg [5] k (fun kq v5 w' => ∃ (x5_1 : Int),v5 = .int .i64 x5_1 ∧ Aside0 (bodkinref22_SameRow.l0 kq l0 l1 x5_1 = some r) ∧ Aside0 (kq ≤ k) ∧ Drawn0 w w')
  case atStart => exact ⟨(0),au4,H',⟨Nat.le_refl _⟩,by repeat (first | exact Drawn0.refl _ | apply Drawn0.step)⟩
  case round =>
   clear H'
   try clear c1
   try clear p2
   try clear c3
   try clear c3b0
   try clear c3b1
   try clear c3b2
   obtain ⟨x5_1,rfl,HA,HK1,⟨m1,rfl⟩⟩ := hrel
   cases gk with
   | zero => exact absurd HA.out (by simp [bodkinref22_SameRow.l0])
   | succ k1 =>
    have H := HA.out
    clear HA
    simp only [bodkinref22_SameRow.l0] at H
    by_cases c4 : x5_1 < (l0.length : Int)
    ·rw [if_pos c4] at H
     have c4b0 : decide (x5_1 < (l0.length : Int)) = true := decide_eq_true c4
     clear c4
     by_cases c5 : 0 ≤ x5_1
     ·rw [if_pos c5] at H
      have c5b0 : decide (0 ≤ x5_1) = true := decide_eq_true c5
      clear c5
      by_cases c6 : x5_1 < (l1.length : Int)
      ·rw [if_pos c6] at H
       have c6b0 : decide (x5_1 < (l1.length : Int)) = true := decide_eq_true c6
       clear c6
       by_cases c7 : (!((((rd_T38 l0 x5_1).f0).toList) == (((rd_T38 l1 x5_1).f0).toList)) || (!(((rd_T38 l0 x5_1).f1) == ((rd_T38 l1 x5_1).f1)))) = true
       ·rw [if_pos c7] at H
        have c7b0 : (!((((rd_T38 l0 x5_1).f0).toList) == (((rd_T38 l1 x5_1).f0).toList)) || (!(((rd_T38 l0 x5_1).f1) == ((rd_T38 l1 x5_1).f1)))) = true := c7
        clear c7
        obtain rfl := Option.some.inj H
        have p172 : 0 ≤ (x5_1 : Int) := of_decide_eq_true au5
        have q172 : x5_1 < (l0.length : Int) := of_decide_eq_true au5
        obtain ⟨ad172,e172,hx172_0,hx172_1⟩ := at_T38 HR0.out x5_1 p172 q172
        cases e172
        replace p172 := eq_true p172
        replace q172 := eq_true q172
        have p173 : 0 ≤ (x5_1 : Int) := of_decide_eq_true au5
        have q173 : x5_1 < (l1.length : Int) := of_decide_eq_true au5
        obtain ⟨ad173,e173,hx173_0,hx173_1⟩ := at_T38 HR1.out x5_1 p173 q173
        cases e173
        replace p173 := eq_true p173
        replace q173 := eq_true q173
        go_wp2
        repeat (go_quiet (fail);try go_wp2)
        go_ret
        exact ⟨by first | rfl | (simp;done) | (simp [*];done),by repeat (first | exact Drawn0.refl _ | apply Drawn0.step)⟩
       ·rw [if_neg c7] at H
        have c7b0 : (!((((rd_T38 l0 x5_1).f0).toList) == (((rd_T38 l1 x5_1).f0).toList)) || (!(((rd_T38 l0 x5_1).f1) == ((rd_T38 l1 x5_1).f1)))) = false := by simpa using c7
        clear c7
        have H' := Aside0.mk H
        clear H
        have p172 : 0 ≤ (x5_1 : Int) := of_decide_eq_true au5
        have q172 : x5_1 < (l0.length : Int) := of_decide_eq_true au5
        obtain ⟨ad172,e172,hx172_0,hx172_1⟩ := at_T38 HR0.out x5_1 p172 q172
        cases e172
        replace p172 := eq_true p172
        replace q172 := eq_true q172
        have p173 : 0 ≤ (x5_1 : Int) := of_decide_eq_true au5
        have q173 : x5_1 < (l1.length : Int) := of_decide_eq_true au5
        obtain ⟨ad173,e173,hx173_0,hx173_1⟩ := at_T38 HR1.out x5_1 p173 q173
        cases e173
        replace p173 := eq_true p173
        replace q173 := eq_true q173
        go_wp2
        repeat (go_quiet (fail);try go_wp2)
        go_roundg k1
        case measure => have := HK1.out;omega
        case rel => exact ⟨(wrap64 (x5_1 + 1)),au4,H',⟨by have := HK1.out;omega⟩,by repeat (first | exact Drawn0.refl _ | apply Drawn0.step)⟩
      ·rw [if_neg c6] at H
       exact absurd H (by simp)
     ·rw [if_neg c5] at H
      exact absurd H (by simp)
    ·rw [if_neg c4] at H
     have c4b0 : decide (x5_1 < (l0.length : Int)) = false := decide_eq_false c4
     clear c4
     obtain rfl := Option.some.inj H
     go_wp2
     repeat (go_quiet (fail);try go_wp2)
     go_ret
     exact ⟨by first | rfl | (simp;done) | (simp [*];done),by repeat (first | exact Drawn0.refl _ | apply Drawn0.step)⟩
 ·rw [if_neg c3] at H
  have c3b0 : ((l0.length : Int) == (l1.length : Int)) = false := beq_eq_false_iff_ne.mpr c3
  have c3b1 : ((l0.length : Int) != (l1.length : Int)) = true := bne_iff_ne.mpr c3
  have c3b2 : (l0.length == l1.length) = false := by first | simpa using c3 | (simp at c3 ⊢;omega)
  obtain rfl := Option.some.inj H
  go_enter Tryd.func36,Tryd.ntmps36
  go_wp2
  repeat (go_quiet (fail);try go_wp2)
  go_ret
  exact ⟨by first | rfl | (simp;done) | (simp [*];done),by repeat (first | exact Drawn0.refl _ | apply Drawn0.step)⟩
end Go.Proofs.YtgdpnmikcopkmaaDoor.U
end
