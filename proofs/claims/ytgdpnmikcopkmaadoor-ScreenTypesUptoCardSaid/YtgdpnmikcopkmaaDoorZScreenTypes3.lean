/- What the law ScreenTypes reaches of this seat's own texts, merged; what nothing uses is left out. -/
import Derived.Test.YtgdpnmikcopkmaaDoorZScreenTypes0
import Derived.Test.YtgdpnmikcopkmaaDoorZScreenTypes2
section
namespace Go.Proofs.YtgdpnmikcopkmaaDoor.U
open Go.RowKit Go.Proofs.YtgdpnmikcopkmaaDoor.Pu Go.Proofs.YtgdpnmikcopkmaaDoorW.PrintWords Go.Proofs.YtgdpnmikcopkmaaDoorW.PrintLast Go.Proofs.YtgdpnmikcopkmaaDoorW.PrintMore
set_option linter.unusedVariables false
set_option linter.unusedSimpArgs false
theorem _root_.Go.Proofs.YtgdpnmikcopkmaaDoor.Pu.Sc.Ok.clrR_any {s : Sc} (h : s.Ok) (i col : Nat) : (s.clrR i col).rows.length = s.rows.length := by
 unfold Sc.clrR
 split
 ·rfl
 ·exact List.length_set
theorem take_mn {α : Type} (l : List α) (n : Nat) : l.take (min l.length n) = l.take n := by
 rcases Nat.le_total l.length n with h | h
 ·rw [Nat.min_eq_left h,List.take_of_length_le (Nat.le_refl _),List.take_of_length_le h]
 ·rw [Nat.min_eq_right h]
theorem Kd.R_own_lo {w W : World} {v : Value} {xs : List Int} {ok : Nat → Prop} (h : (Kd.int .i64).R 3 w W.heap.size ok v xs) (k : Nat) (hk : v.ownBlock = some k) : W.heap.size ≤ k := Kd.R_base h k hk
theorem ScrAt.bound {base p : Nat} {ok : Nat → Prop} {W : World} {s : Sc} {hd : ByteArray} (h : ScrAt base p ok W s hd) : ScrAt base p (fun k => ok k ∧ k < W.heap.size) W s hd := by
 obtain ⟨⟨rv,h1,h2⟩,h3,h4⟩ := h
 exact ⟨⟨rv,h1,Kd.S_mono (Kd.S_bound h2) (fun k hk => ⟨hk.1,hk.2.2.1⟩)⟩,h3,fun hk => h4 hk.1⟩
theorem Stp.wide {base p : Nat} {ok ok' : Nat → Prop} {W w : World} {s : Sc} {hd : ByteArray} (h : Stp base p ok' W w s hd) (hk : ∀ k,ok' k → ok k) (hp : ¬ ok p) : Stp base p ok W w s hd := by
 obtain ⟨⟨⟨rv,h1,h2⟩,h3,h4⟩,h5,h6⟩ := h
 exact ⟨⟨⟨rv,h1,Kd.S_mono h2 hk⟩,h3,hp⟩,h5,h6.mono (fun k hq => hq.imp (hk k) id)⟩
/-- A row that is none of the screen's has been written. -/
theorem Stp.other {base p : Nat} {ok : Nat → Prop} {W w w1 : World} {s : Sc} {hd : ByteArray} (h : Stp base p ok W w s hd) {row : Option Nat} (hg : w.grownBy w1 row) (hr : ∀ k,row = some k → W.heap.size ≤ k ∧ ¬ ok k ∧ k ≠ p) (hb : base ≤ W.heap.size) : Stp base p ok W w1 s hd := by
 obtain ⟨⟨⟨rv,h1,h2⟩,h3,h4⟩,h5,h6⟩ := h
 exact ⟨⟨⟨rv,blk_grown h1 hg (fun he => (hr p he.symm).2.2 rfl),Kd.S_grown h2 hg (fun k hk he => (hr k he.symm).2.1 hk)⟩,h3,h4⟩,h5.grown hg (Nat.le_trans hb h6.1) (fun k hk => Nat.le_trans hb (hr k hk).1),Kept.of_grown hg h6 (fun k hk => .inr (hr k hk).1)⟩
def ca10.T : Bool × List (List Nat × List Nat) := (true,[([],[]),([],[]),([1],[1]),([2],[2]),([3],[3]),([4],[4]),([],[]),([6],[6]),([7],[7]),([8],[8]),([9],[9]),([0,5,10],[0,5,10])])
def ca10.B : List Nat := [0,0,2,6,14,30,0,64,192,448,960,2047]
theorem ca10.tab : rtab .any (opsOf Tryd.f80 10) = ca10.T := by kernel_rfl
theorem ca10.bits : waitsOk ca10.T.2 ca10.B = true := by kernel_rfl
def ca11.T : Bool × List (List Nat × List Nat) := (true,[([],[]),([],[]),([1],[1]),([2],[2]),([3],[3]),([],[]),([5],[5]),([6],[6]),([7],[7]),([8],[8]),([],[]),([10],[10]),([11],[11]),([12],[12]),([13],[13]),([14],[14]),([9,15],[9,15]),([4,16],[4,16]),([0,0,1,2,3,4,5,6,7,8,9,10,11,12,13,14,15,16,17],[0]),([18,0,1,2,3,4,5,6,7,8,9,10,11,12,13,14,15,16,17],[18]),([19,17,0,1,2,3,4,5,6,7,8,9,10,11,12,13,14,15,16,17],[17,19])])
def ca11.B : List Nat := [0,0,2,6,14,0,32,96,224,480,0,1024,3072,7168,15360,31744,65504,131070,262143,524287,1048575]
theorem ca11.tab : rtab .any (opsOf Tryd.f80 11) = ca11.T := by kernel_rfl
theorem ca11.bits : waitsOk ca11.T.2 ca11.B = true := by kernel_rfl
def ca14.T : Bool × List (List Nat × List Nat) := (true,[([],[]),([],[]),([1],[1]),([2],[2]),([3],[3]),([4],[4]),([],[]),([6],[6]),([7],[7]),([8],[8]),([9],[9]),([0,5,10],[0,5,10])])
def ca14.B : List Nat := [0,0,2,6,14,30,0,64,192,448,960,2047]
theorem ca14.tab : rtab .any (opsOf Tryd.f80 14) = ca14.T := by kernel_rfl
theorem ca14.bits : waitsOk ca14.T.2 ca14.B = true := by kernel_rfl
def ca6.T : Bool × List (List Nat × List Nat) := (true,[([],[]),([],[]),([1],[1]),([2],[2]),([3],[3]),([],[]),([5],[5]),([6],[6]),([7],[7]),([4,8],[4,8]),([9],[9]),([0,0,1,2,3,4,5,6,7,8,9,10],[0]),([11,0,1,2,3,4,5,6,7,8,9,10],[11]),([12,0,1,2,3,4,5,6,7,8,9,10],[12]),([13,10,0,1,2,3,4,5,6,7,8,9,10],[10,13])])
def ca6.B : List Nat := [0,0,2,6,14,0,32,96,224,510,1022,2047,4095,8191,16383]
theorem ca6.tab : rtab .any (opsOf Tryd.f80 6) = ca6.T := by kernel_rfl
theorem ca6.bits : waitsOk ca6.T.2 ca6.B = true := by kernel_rfl
def ca7.T : Bool × List (List Nat × List Nat) := (true,[([],[]),([],[]),([1],[1]),([2],[2]),([3],[3]),([],[]),([5],[5]),([6],[6]),([7],[7]),([4,8],[4,8]),([9],[9]),([0,0,1,2,3,4,5,6,7,8,9,10],[0]),([11,0,1,2,3,4,5,6,7,8,9,10],[11]),([12,0,1,2,3,4,5,6,7,8,9,10],[12]),([13,10,0,1,2,3,4,5,6,7,8,9,10],[10,13])])
def ca7.B : List Nat := [0,0,2,6,14,0,32,96,224,510,1022,2047,4095,8191,16383]
theorem ca7.tab : rtab .any (opsOf Tryd.f80 7) = ca7.T := by kernel_rfl
theorem ca7.bits : waitsOk ca7.T.2 ca7.B = true := by kernel_rfl
set_option maxRecDepth 100000 in
set_option maxHeartbeats 8000000 in
theorem sc_carry {base p : Nat} {ok : Nat → Prop} {W : World} {s : Sc} {hd : ByteArray} (h : ScrAt base p ok W s hd) (hr : Room base ok W) (hO : s.Ok) (en : Nat) (he : en < 256) (ins : ByteArray) (hi : ins.size ≤ 1099511627776) :
  Calls Tryd.prog 80 #[.pointer (some ⟨p,0,none⟩),.int .u8 en,.string ins] W fun e w' => e = .returned (.tuple #[]) ∧ Stp base p ok W w' (s.carry en (numsL ins) (numsB ins)) hd := by
 have hs := Stp.start h
 have o1 := hO.w1
 have o2 := hO.w2
 have o3 := hO.h1
 have o4 := hO.h2
 have o5 := hO.rl
 have o6 := hO.rh
 have o7 := hO.cw
 obtain ⟨kn,hkn⟩ := nums_ans ins hi
 have hN := hkn kn (Nat.le_refl _)
 clear hkn
 have hok := numsL_ok ins
 have hno := numsL_none ins
 generalize numsL ins = L at hN hok hno ⊢
 generalize numsB ins = B at hN hok hno ⊢
 go_enter Tryd.func80,Tryd.ntmps80
 go_upto_region 1 with (go_at_call 101;refine (screen_numbers.calls _ _ _ _ _ hN).mono ?_;rintro e w1 ⟨v0,rfl,hR,hb1⟩;obtain ⟨A,c,rfl⟩ := Kd.R_slice hR;have hs1 := hs.more hb1 hr.bs;have hsB := (Stp.start h.bound).more hb1 hr.bs;have hRc := (Kd.R_reads' hR).2.1)
 have hpl := h.lt
 have hpn := h.ne
 clear hN hs h
 go_cut [8] from 9 to 25 (fun v8 w2 => v8 = .bool (decide (B = true ∧ L = [0])) ∧ w2 = w1)
 case first =>
  cases B with
  | false =>
   obtain rfl := hno rfl
   go_wp2
   go_meet
   case rel => exact ⟨rfl,rfl⟩
  | true =>
   obtain ⟨k1,k2,k3⟩ := hok rfl
   obtain ⟨gl,cl,hv,_,_,_,_⟩ := Kd.R_form hR (by omega)
   injection hv with hv1 _ hv3
   subst hv1
   obtain rfl := hv3
   obtain ⟨ad,had,hcell⟩ := Kd.at_int (Kd.R_reads' hR).2.2 0 (by omega) (by omega)
   injection had with had
   subst had
   by_cases hl : L.length = 1
   ·have hwh : (rd L 0 == 0) = decide (true = true ∧ L = [0]) := by
     match L,hl with
     | [x],_ => rw [Bool.eq_iff_iff];simp [rd]
    have hWH := Lib.hid hwh
    have q1 : ((L.length : Int) == 1) = true := by simp;omega
    have q0 : (0 : Int) < (L.length : Int) := by omega
    have q0' : 0 < L.length := by omega
    have hcell' : w1.cell? ⟨gl,0,none⟩ = some (.int .i64 (rd L 0)) := hcell
    clear hwh hl hok hno k1 k2 k3 hcell
    go_wp2
    go_meet
    case rel => exact ⟨by rw [← hWH.out],rfl⟩
   ·have hwh : decide (true = true ∧ L = [0]) = false := by
     rw [decide_eq_false]
     rintro ⟨_,rfl⟩
     exact hl rfl
    have hWH := Lib.hid hwh
    have q1 : ((L.length : Int) == 1) = false := by simp;omega
    clear hwh hl hok hno k1 k2 k3 hcell
    go_wp2
    go_meet
    case rel => exact ⟨by rw [hWH.out],rfl⟩
 case rest =>
  generalize hWH : decide (B = true ∧ L = [0]) = wh at hcut
  obtain ⟨rfl,rfl⟩ := hcut
  have hWY : wh = true → B = true ∧ L = [0] := fun hq => by rw [hq] at hWH;exact of_decide_eq_true hWH
  have hWN : wh = false → ¬ (B = true ∧ L = [0]) := fun hq => by rw [hq] at hWH;exact of_decide_eq_false hWH
  clear hb1 hWH
  have hsA := hs1
  clear hs1
  obtain ⟨rv,⟨_,_,_,c3,c4,_⟩,_⟩ := hsA.at_.cells
  by_cases e74 : en = 74
  ·subst e74
   cases wh with
   | true =>
    have hwh := hWY rfl
    have hD : s.carry 74 L B = { s.clrR s.r s.c with rows := (s.clrR s.r s.c).rows.take ((s.clrR s.r s.c).r + 1) } := by unfold Sc.carry;rw [if_pos rfl,if_pos hwh]
    have hDH := Lib.hid hD
    clear hD hwh hWY hWN
    go_upto_region 10 with (fail)
    refine start_ (n := 12) (S := fun w' => w'.cell? ⟨p,3,none⟩ = some (.int .i64 s.r) ∧ w'.cell? ⟨p,4,none⟩ = some (.int .i64 s.c)) (ds := [11]) #[false,false,false,false,false,false,false,false,false,false,false,false] (by kernel_rfl) rfl rfl ⟨c3,c4⟩ (fun hHeld => ?_);refine with_tabW ca10.tab ca10.bits (fun HT_ HW_ => ?_)
    have hs2 := hsA.more (below_drew (Below.refl _ _)) hr.bs
    generalize wc.drew = w2 at hs2 hHeld ⊢
    clear hsA c3 c4
    refine pure_ (i := 0) (N := (some 69)) (v := ?_) (a' := ?_) #[true,false,false,false,false,false,false,false,false,false,false,false] rfl rfl (any_of HT_.out (by kernel_rfl)) (fun _ _ _ h => h) (Or.inl ⟨by rfl,?_⟩) ?_ ?_
    rotate_left
    ·intro w'
     go_simp
     with_reducible rfl
    rotate_left
    ·simp only [Act.put,List.setIfInBounds_toArray,List.set_cons_zero,List.set_cons_succ,i64_w,i32_w]
     rfl
    refine pure_ (i := 1) (N := (some 70)) (v := ?_) (a' := ?_) #[true,true,false,false,false,false,false,false,false,false,false,false] rfl rfl (any_of HT_.out (by kernel_rfl)) (fun _ _ _ h => h) (Or.inl ⟨by rfl,?_⟩) ?_ ?_
    rotate_left
    ·intro w'
     go_simp
     with_reducible rfl
    rotate_left
    ·simp only [Act.put,List.setIfInBounds_toArray,List.set_cons_zero,List.set_cons_succ,i64_w,i32_w]
     rfl
    refine pure_ (i := 2) (N := (some 71)) (v := ?_) (a' := ?_) #[true,true,true,false,false,false,false,false,false,false,false,false] rfl rfl (any_of HT_.out (by kernel_rfl)) (fun _ _ _ h => h) (Or.inl ⟨by rfl,?_⟩) ?_ ?_
    rotate_left
    ·intro w'
     go_simp
     with_reducible rfl
    rotate_left
    ·simp only [Act.put,List.setIfInBounds_toArray,List.set_cons_zero,List.set_cons_succ,i64_w,i32_w]
     rfl
    refine pure_ (i := 3) (N := (some 72)) (v := ?_) (a' := ?_) #[true,true,true,true,false,false,false,false,false,false,false,false] rfl rfl (any_of HT_.out (by kernel_rfl)) (fun _ _ _ h => h) (Or.inl ⟨by rfl,?_⟩) ?_ ?_
    rotate_left
    ·intro w'
     go_simp
     with_reducible rfl
    rotate_left
    ·simp only [Act.put,List.setIfInBounds_toArray,List.set_cons_zero,List.set_cons_succ,i64_w,i32_w]
     rfl
    refine pure_ (i := 4) (N := (some 73)) (v := ?_) (a' := ?_) #[true,true,true,true,true,false,false,false,false,false,false,false] rfl rfl (any_of HT_.out (by kernel_rfl)) (fun _ _ _ h => h) (Or.inl ⟨by rfl,?_⟩) ?_ ?_
    rotate_left
    ·intro w'
     go_simp
     with_reducible rfl
    rotate_left
    ·simp only [Act.put,List.setIfInBounds_toArray,List.set_cons_zero,List.set_cons_succ,i64_w,i32_w]
     rfl
    refine take_ (i := 5) (N := (some 74)) (v := ?_) (a' := ?_) #[true,true,true,true,true,true,false,false,false,false,false,false] rfl rfl (take_ofW HT_.out HW_.out (by kernel_rfl)) (fun _ _ _ h => h) (Or.inl ⟨by rfl,?_⟩) hHeld ?_ ?_
    rotate_left
    ·rintro w' ⟨s1,s2⟩
     go_simp
     with_reducible rfl
    rotate_left
    ·simp only [Act.put,List.setIfInBounds_toArray,List.set_cons_zero,List.set_cons_succ,i64_w,i32_w]
     rfl
    refine pure_ (i := 6) (N := (some 75)) (v := ?_) (a' := ?_) #[true,true,true,true,true,true,true,false,false,false,false,false] rfl rfl (any_of HT_.out (by kernel_rfl)) (fun _ _ _ h => h) (Or.inl ⟨by rfl,?_⟩) ?_ ?_
    rotate_left
    ·intro w'
     go_simp
     with_reducible rfl
    rotate_left
    ·simp only [Act.put,List.setIfInBounds_toArray,List.set_cons_zero,List.set_cons_succ,i64_w,i32_w]
     rfl
    refine pure_ (i := 7) (N := (some 76)) (v := ?_) (a' := ?_) #[true,true,true,true,true,true,true,true,false,false,false,false] rfl rfl (any_of HT_.out (by kernel_rfl)) (fun _ _ _ h => h) (Or.inl ⟨by rfl,?_⟩) ?_ ?_
    rotate_left
    ·intro w'
     go_simp
     with_reducible rfl
    rotate_left
    ·simp only [Act.put,List.setIfInBounds_toArray,List.set_cons_zero,List.set_cons_succ,i64_w,i32_w]
     rfl
    refine pure_ (i := 8) (N := (some 77)) (v := ?_) (a' := ?_) #[true,true,true,true,true,true,true,true,true,false,false,false] rfl rfl (any_of HT_.out (by kernel_rfl)) (fun _ _ _ h => h) (Or.inl ⟨by rfl,?_⟩) ?_ ?_
    rotate_left
    ·intro w'
     go_simp
     with_reducible rfl
    rotate_left
    ·simp only [Act.put,List.setIfInBounds_toArray,List.set_cons_zero,List.set_cons_succ,i64_w,i32_w]
     rfl
    refine pure_ (i := 9) (N := (some 78)) (v := ?_) (a' := ?_) #[true,true,true,true,true,true,true,true,true,true,false,false] rfl rfl (any_of HT_.out (by kernel_rfl)) (fun _ _ _ h => h) (Or.inl ⟨by rfl,?_⟩) ?_ ?_
    rotate_left
    ·intro w'
     go_simp
     with_reducible rfl
    rotate_left
    ·simp only [Act.put,List.setIfInBounds_toArray,List.set_cons_zero,List.set_cons_succ,i64_w,i32_w]
     rfl
    refine take_ (i := 10) (N := (some 79)) (v := ?_) (a' := ?_) #[true,true,true,true,true,true,true,true,true,true,true,false] rfl rfl (take_ofW HT_.out HW_.out (by kernel_rfl)) (fun _ _ _ h => h) (Or.inl ⟨by rfl,?_⟩) hHeld ?_ ?_
    rotate_left
    ·rintro w' ⟨s1,s2⟩
     go_simp
     with_reducible rfl
    rotate_left
    ·simp only [Act.put,List.setIfInBounds_toArray,List.set_cons_zero,List.set_cons_succ,i64_w,i32_w]
     rfl
    refine last_ (i := 11) (N := (some 80)) #[true,true,true,true,true,true,true,true,true,true,true,true] rfl rfl (one_of HT_.out (by kernel_rfl)) (by decide) (fun K hK => ?_)
    refine call_ 102 #[.pointer (some ⟨p,0,none⟩),.int .i64 s.r,.int .i64 s.c] (by rfl) rfl au10 ?_
    refine (sc_clearRow hs2.at_ (hs2.room hr) s.r s.c (by omega) (fun row hq => by have := hO.cl row hq;omega)).mono ?_
    rintro e w3 ⟨rfl,hs3⟩
    refine ⟨_,rfl,hK.out _ _ ?_⟩
    clear hK K
    refine norm_ (a' := ?_) ?_ ?_
    rotate_left
    ·show Act.put _ (some 80) _ = _
     simp only [Act.put,List.setIfInBounds_toArray,List.set_cons_zero,List.set_cons_succ,i64_w,i32_w]
     rfl
    have hs4 := hs2.then_ hs3
    clear hs2 hs3 hHeld
    refine done_ (done_of HT_.out (by kernel_rfl)) ?_
    clear HT_ HW_
    have hO4 := hO.clrR_any s.r s.c
    have hrr : (s.clrR s.r s.c).r = s.r := (Sc.clrR_meas s s.r s.c).1
    generalize s.clrR s.r s.c = T at hs4 hDH hO4 hrr
    have hT1 : T.r ≤ 65535 := by omega
    clear hrr
    obtain ⟨rv,⟨_,_,c2,c3,_⟩,hS⟩ := hs4.at_.cells
    obtain ⟨A2,cc2,rfl⟩ := Kd.R_slice (Kd.S_R hS)
    have hcp := (Kd.S_reads' hS).2.1
    have hw : IntKind.i64.wrap ((T.r : Int) + 1) = (T.r : Int) + 1 := wrapN (by omega) (by omega)
    have q0 := eq_true (show 0 ≤ min ((T.rows.length : Nat) : Int) ((T.r : Int) + 1) by omega)
    have q1 := eq_true (show min ((T.rows.length : Nat) : Int) ((T.r : Int) + 1) ≤ (cc2 : Int) by omega)
    have q2 : (min ((T.rows.length : Nat) : Int) ((T.r : Int) + 1)).toNat = min T.rows.length (T.r + 1) := by omega
    clear hO4
    go_upto_region 11 with (fail)
    refine start_ (n := 21) (S := fun w' => w'.cell? ⟨p,2,none⟩ = some (.slice A2 T.rows.length cc2) ∧ w'.cell? ⟨p,3,none⟩ = some (.int .i64 T.r)) (ds := [20]) #[false,false,false,false,false,false,false,false,false,false,false,false,false,false,false,false,false,false,false,false,false] (by kernel_rfl) rfl rfl ⟨c2,c3⟩ (fun hHeld => ?_);refine with_tabW ca11.tab ca11.bits (fun HT_ HW_ => ?_)
    have hs5 := hs4.more (below_drew (Below.refl _ _)) hr.bs
    have hS5 := Kd.S_below hS (below_drew (Below.refl _ _))
    generalize w3.drew = w5 at hs5 hS5 hHeld ⊢
    clear hs4 hS c2 c3
    refine pure_ (i := 0) (N := (some 81)) (v := ?_) (a' := ?_) #[true,false,false,false,false,false,false,false,false,false,false,false,false,false,false,false,false,false,false,false,false] rfl rfl (any_of HT_.out (by kernel_rfl)) (fun _ _ _ h => h) (Or.inl ⟨by rfl,?_⟩) ?_ ?_
    rotate_left
    ·intro w'
     go_simp
     with_reducible rfl
    rotate_left
    ·simp only [Act.put,List.setIfInBounds_toArray,List.set_cons_zero,List.set_cons_succ,i64_w,i32_w]
     rfl
    refine pure_ (i := 1) (N := (some 82)) (v := ?_) (a' := ?_) #[true,true,false,false,false,false,false,false,false,false,false,false,false,false,false,false,false,false,false,false,false] rfl rfl (any_of HT_.out (by kernel_rfl)) (fun _ _ _ h => h) (Or.inl ⟨by rfl,?_⟩) ?_ ?_
    rotate_left
    ·intro w'
     go_simp
     with_reducible rfl
    rotate_left
    ·simp only [Act.put,List.setIfInBounds_toArray,List.set_cons_zero,List.set_cons_succ,i64_w,i32_w]
     rfl
    refine pure_ (i := 2) (N := (some 83)) (v := ?_) (a' := ?_) #[true,true,true,false,false,false,false,false,false,false,false,false,false,false,false,false,false,false,false,false,false] rfl rfl (any_of HT_.out (by kernel_rfl)) (fun _ _ _ h => h) (Or.inl ⟨by rfl,?_⟩) ?_ ?_
    rotate_left
    ·intro w'
     go_simp
     with_reducible rfl
    rotate_left
    ·simp only [Act.put,List.setIfInBounds_toArray,List.set_cons_zero,List.set_cons_succ,i64_w,i32_w]
     rfl
    refine pure_ (i := 3) (N := (some 84)) (v := ?_) (a' := ?_) #[true,true,true,true,false,false,false,false,false,false,false,false,false,false,false,false,false,false,false,false,false] rfl rfl (any_of HT_.out (by kernel_rfl)) (fun _ _ _ h => h) (Or.inl ⟨by rfl,?_⟩) ?_ ?_
    rotate_left
    ·intro w'
     go_simp
     with_reducible rfl
    rotate_left
    ·simp only [Act.put,List.setIfInBounds_toArray,List.set_cons_zero,List.set_cons_succ,i64_w,i32_w]
     rfl
    refine take_ (i := 4) (N := (some 85)) (v := ?_) (a' := ?_) #[true,true,true,true,true,false,false,false,false,false,false,false,false,false,false,false,false,false,false,false,false] rfl rfl (take_ofW HT_.out HW_.out (by kernel_rfl)) (fun _ _ _ h => h) (Or.inl ⟨by rfl,?_⟩) hHeld ?_ ?_
    rotate_left
    ·rintro w' ⟨s1,s2⟩
     go_simp
     with_reducible rfl
    rotate_left
    ·simp only [Act.put,List.setIfInBounds_toArray,List.set_cons_zero,List.set_cons_succ,i64_w,i32_w]
     rfl
    refine pure_ (i := 5) (N := (some 86)) (v := ?_) (a' := ?_) #[true,true,true,true,true,true,false,false,false,false,false,false,false,false,false,false,false,false,false,false,false] rfl rfl (any_of HT_.out (by kernel_rfl)) (fun _ _ _ h => h) (Or.inl ⟨by rfl,?_⟩) ?_ ?_
    rotate_left
    ·intro w'
     go_simp
     with_reducible rfl
    rotate_left
    ·simp only [Act.put,List.setIfInBounds_toArray,List.set_cons_zero,List.set_cons_succ,i64_w,i32_w]
     rfl
    refine pure_ (i := 6) (N := (some 87)) (v := ?_) (a' := ?_) #[true,true,true,true,true,true,true,false,false,false,false,false,false,false,false,false,false,false,false,false,false] rfl rfl (any_of HT_.out (by kernel_rfl)) (fun _ _ _ h => h) (Or.inl ⟨by rfl,?_⟩) ?_ ?_
    rotate_left
    ·intro w'
     go_simp
     with_reducible rfl
    rotate_left
    ·simp only [Act.put,List.setIfInBounds_toArray,List.set_cons_zero,List.set_cons_succ,i64_w,i32_w]
     rfl
    refine pure_ (i := 7) (N := (some 88)) (v := ?_) (a' := ?_) #[true,true,true,true,true,true,true,true,false,false,false,false,false,false,false,false,false,false,false,false,false] rfl rfl (any_of HT_.out (by kernel_rfl)) (fun _ _ _ h => h) (Or.inl ⟨by rfl,?_⟩) ?_ ?_
    rotate_left
    ·intro w'
     go_simp
     with_reducible rfl
    rotate_left
    ·simp only [Act.put,List.setIfInBounds_toArray,List.set_cons_zero,List.set_cons_succ,i64_w,i32_w]
     rfl
    refine take_ (i := 8) (N := (some 89)) (v := ?_) (a' := ?_) #[true,true,true,true,true,true,true,true,true,false,false,false,false,false,false,false,false,false,false,false,false] rfl rfl (take_ofW HT_.out HW_.out (by kernel_rfl)) (fun _ _ _ h => h) (Or.inl ⟨by rfl,?_⟩) hHeld ?_ ?_
    rotate_left
    ·rintro w' ⟨s1,s2⟩
     go_simp
     with_reducible rfl
    rotate_left
    ·simp only [Act.put,List.setIfInBounds_toArray,List.set_cons_zero,List.set_cons_succ,i64_w,i32_w]
     rfl
    refine pure_ (i := 9) (N := (some 90)) (v := ?_) (a' := ?_) #[true,true,true,true,true,true,true,true,true,true,false,false,false,false,false,false,false,false,false,false,false] rfl rfl (any_of HT_.out (by kernel_rfl)) (fun _ _ _ h => h) (Or.inl ⟨by rfl,?_⟩) ?_ ?_
    rotate_left
    ·intro w'
     go_simp
     with_reducible rfl
    rotate_left
    ·simp only [Act.put,List.setIfInBounds_toArray,List.set_cons_zero,List.set_cons_succ,i64_w,i32_w]
     rfl
    refine pure_ (i := 10) (N := (some 91)) (v := ?_) (a' := ?_) #[true,true,true,true,true,true,true,true,true,true,true,false,false,false,false,false,false,false,false,false,false] rfl rfl (any_of HT_.out (by kernel_rfl)) (fun _ _ _ h => h) (Or.inl ⟨by rfl,?_⟩) ?_ ?_
    rotate_left
    ·intro w'
     go_simp
     with_reducible rfl
    rotate_left
    ·simp only [Act.put,List.setIfInBounds_toArray,List.set_cons_zero,List.set_cons_succ,i64_w,i32_w]
     rfl
    refine pure_ (i := 11) (N := (some 92)) (v := ?_) (a' := ?_) #[true,true,true,true,true,true,true,true,true,true,true,true,false,false,false,false,false,false,false,false,false] rfl rfl (any_of HT_.out (by kernel_rfl)) (fun _ _ _ h => h) (Or.inl ⟨by rfl,?_⟩) ?_ ?_
    rotate_left
    ·intro w'
     go_simp
     with_reducible rfl
    rotate_left
    ·simp only [Act.put,List.setIfInBounds_toArray,List.set_cons_zero,List.set_cons_succ,i64_w,i32_w]
     rfl
    refine pure_ (i := 12) (N := (some 93)) (v := ?_) (a' := ?_) #[true,true,true,true,true,true,true,true,true,true,true,true,true,false,false,false,false,false,false,false,false] rfl rfl (any_of HT_.out (by kernel_rfl)) (fun _ _ _ h => h) (Or.inl ⟨by rfl,?_⟩) ?_ ?_
    rotate_left
    ·intro w'
     go_simp
     with_reducible rfl
    rotate_left
    ·simp only [Act.put,List.setIfInBounds_toArray,List.set_cons_zero,List.set_cons_succ,i64_w,i32_w]
     rfl
    refine pure_ (i := 13) (N := (some 94)) (v := ?_) (a' := ?_) #[true,true,true,true,true,true,true,true,true,true,true,true,true,true,false,false,false,false,false,false,false] rfl rfl (any_of HT_.out (by kernel_rfl)) (fun _ _ _ h => h) (Or.inl ⟨by rfl,?_⟩) ?_ ?_
    rotate_left
    ·intro w'
     go_simp
     with_reducible rfl
    rotate_left
    ·simp only [Act.put,List.setIfInBounds_toArray,List.set_cons_zero,List.set_cons_succ,i64_w,i32_w]
     rfl
    refine take_ (i := 14) (N := (some 95)) (v := ?_) (a' := ?_) #[true,true,true,true,true,true,true,true,true,true,true,true,true,true,true,false,false,false,false,false,false] rfl rfl (take_ofW HT_.out HW_.out (by kernel_rfl)) (fun _ _ _ h => h) (Or.inl ⟨by rfl,?_⟩) hHeld ?_ ?_
    rotate_left
    ·rintro w' ⟨s1,s2⟩
     go_simp
     with_reducible rfl
    rotate_left
    ·simp only [Act.put,List.setIfInBounds_toArray,List.set_cons_zero,List.set_cons_succ,i64_w,i32_w]
     rfl
    refine pure_ (i := 15) (N := (some 96)) (v := ?_) (a' := ?_) #[true,true,true,true,true,true,true,true,true,true,true,true,true,true,true,true,false,false,false,false,false] rfl rfl (any_of HT_.out (by kernel_rfl)) (fun _ _ _ h => h) (Or.inl ⟨by rfl,?_⟩) ?_ ?_
    rotate_left
    ·intro w'
     go_simp
     with_reducible rfl
    rotate_left
    ·simp only [Act.put,List.setIfInBounds_toArray,List.set_cons_zero,List.set_cons_succ,i64_w,i32_w]
     rfl
    refine pure_ (i := 16) (N := (some 97)) (v := ?_) (a' := ?_) #[true,true,true,true,true,true,true,true,true,true,true,true,true,true,true,true,true,false,false,false,false] rfl rfl (any_of HT_.out (by kernel_rfl)) (fun _ _ _ h => h) (Or.inl ⟨by rfl,?_⟩) ?_ ?_
    rotate_left
    ·intro w'
     go_simp
     with_reducible rfl
    rotate_left
    ·simp only [Act.put,List.setIfInBounds_toArray,List.set_cons_zero,List.set_cons_succ,i64_w,i32_w]
     rfl
    refine pure_ (i := 17) (N := (some 98)) (v := ?_) (a' := ?_) #[true,true,true,true,true,true,true,true,true,true,true,true,true,true,true,true,true,true,false,false,false] rfl rfl (any_of HT_.out (by kernel_rfl)) (fun _ _ _ h => h) (Or.inl ⟨by rfl,?_⟩) ?_ ?_
    rotate_left
    ·intro w'
     go_simp
     with_reducible rfl
    rotate_left
    ·simp only [Act.put,List.setIfInBounds_toArray,List.set_cons_zero,List.set_cons_succ,i64_w,i32_w]
     rfl
    refine pure_ (i := 18) (N := (some 99)) (v := ?_) (a' := ?_) #[true,true,true,true,true,true,true,true,true,true,true,true,true,true,true,true,true,true,true,false,false] rfl rfl (any_of HT_.out (by kernel_rfl)) (fun _ _ _ h => h) (Or.inl ⟨by rfl,?_⟩) ?_ ?_
    rotate_left
    ·intro w'
     go_simp
     with_reducible rfl
    rotate_left
    ·simp only [Act.put,List.setIfInBounds_toArray,List.set_cons_zero,List.set_cons_succ,i64_w,i32_w]
     rfl
    refine pure_ (i := 19) (N := (some 100)) (v := ?_) (a' := ?_) #[true,true,true,true,true,true,true,true,true,true,true,true,true,true,true,true,true,true,true,true,false] rfl rfl (any_of HT_.out (by kernel_rfl)) (fun _ _ _ h => h) (Or.inl ⟨by rfl,?_⟩) ?_ ?_
    rotate_left
    ·intro w'
     go_simp
     with_reducible rfl
    rotate_left
    ·simp only [Act.put,List.setIfInBounds_toArray,List.set_cons_zero,List.set_cons_succ,i64_w,i32_w]
     rfl
    refine last_ (i := 20) (N := none) #[true,true,true,true,true,true,true,true,true,true,true,true,true,true,true,true,true,true,true,true,true] rfl rfl (one_of HT_.out (by kernel_rfl)) (by decide) (fun K hK => ?_)
    have c2 := hHeld.1
    have g2 := hs5.at_.frozen 2
    refine skip_ (w1 := ?_) (by rfl) rfl ?_ ?_
    rotate_left
    ·go_simp
     rfl
    refine hK.out _ _ ?_
    clear hK K
    have hs6 := hs5.rows _ _ (Kd.S_take hS5 (m := min T.rows.length (T.r + 1)) (by omega))
    clear hs5 hS5 hHeld c2 g2
    refine done_ (done_of HT_.out (by kernel_rfl)) ?_
    clear HT_ HW_
    first | refine bodyPost_end (results_none rfl _ _ _) rfl ?_ | ((try simp only [Exit.inBlock,Exit.then]);refine bodyPost_end (results_none rfl _ _ _) rfl ?_) | (go_wp2;refine bodyPost_end (results_none rfl _ _ _) rfl ?_)
    exact ⟨rfl,by rw [hDH.out,← take_mn];exact hs6⟩
   | false =>
    have hD : s.carry 74 L B = s := by unfold Sc.carry;rw [if_pos rfl,if_neg (hWN rfl)]
    have hDH := Lib.hid hD
    clear hD hWY hWN
    go_wp2
    first | refine bodyPost_end (results_none rfl _ _ _) rfl ?_ | ((try simp only [Exit.inBlock,Exit.then]);refine bodyPost_end (results_none rfl _ _ _) rfl ?_) | (go_wp2;refine bodyPost_end (results_none rfl _ _ _) rfl ?_)
    exact ⟨rfl,by rw [hDH.out];exact hsA⟩
  by_cases e75 : en = 75
  ·subst e75
   cases wh with
   | true =>
    have hD : s.carry 75 L B = s.clrR s.r s.c := by unfold Sc.carry;rw [if_neg (by decide),if_pos rfl,if_pos (hWY rfl)]
    have hDH := Lib.hid hD
    clear hD hWY hWN
    go_upto_region 14 with (fail)
    refine start_ (n := 12) (S := fun w' => w'.cell? ⟨p,3,none⟩ = some (.int .i64 s.r) ∧ w'.cell? ⟨p,4,none⟩ = some (.int .i64 s.c)) (ds := [11]) #[false,false,false,false,false,false,false,false,false,false,false,false] (by kernel_rfl) rfl rfl ⟨c3,c4⟩ (fun hHeld => ?_);refine with_tabW ca14.tab ca14.bits (fun HT_ HW_ => ?_)
    have hs2 := hsA.more (below_drew (Below.refl _ _)) hr.bs
    generalize wc.drew = w2 at hs2 hHeld ⊢
    clear hsA c3 c4
    refine pure_ (i := 0) (N := (some 104)) (v := ?_) (a' := ?_) #[true,false,false,false,false,false,false,false,false,false,false,false] rfl rfl (any_of HT_.out (by kernel_rfl)) (fun _ _ _ h => h) (Or.inl ⟨by rfl,?_⟩) ?_ ?_
    rotate_left
    ·intro w'
     go_simp
     with_reducible rfl
    rotate_left
    ·simp only [Act.put,List.setIfInBounds_toArray,List.set_cons_zero,List.set_cons_succ,i64_w,i32_w]
     rfl
    refine pure_ (i := 1) (N := (some 105)) (v := ?_) (a' := ?_) #[true,true,false,false,false,false,false,false,false,false,false,false] rfl rfl (any_of HT_.out (by kernel_rfl)) (fun _ _ _ h => h) (Or.inl ⟨by rfl,?_⟩) ?_ ?_
    rotate_left
    ·intro w'
     go_simp
     with_reducible rfl
    rotate_left
    ·simp only [Act.put,List.setIfInBounds_toArray,List.set_cons_zero,List.set_cons_succ,i64_w,i32_w]
     rfl
    refine pure_ (i := 2) (N := (some 106)) (v := ?_) (a' := ?_) #[true,true,true,false,false,false,false,false,false,false,false,false] rfl rfl (any_of HT_.out (by kernel_rfl)) (fun _ _ _ h => h) (Or.inl ⟨by rfl,?_⟩) ?_ ?_
    rotate_left
    ·intro w'
     go_simp
     with_reducible rfl
    rotate_left
    ·simp only [Act.put,List.setIfInBounds_toArray,List.set_cons_zero,List.set_cons_succ,i64_w,i32_w]
     rfl
    refine pure_ (i := 3) (N := (some 107)) (v := ?_) (a' := ?_) #[true,true,true,true,false,false,false,false,false,false,false,false] rfl rfl (any_of HT_.out (by kernel_rfl)) (fun _ _ _ h => h) (Or.inl ⟨by rfl,?_⟩) ?_ ?_
    rotate_left
    ·intro w'
     go_simp
     with_reducible rfl
    rotate_left
    ·simp only [Act.put,List.setIfInBounds_toArray,List.set_cons_zero,List.set_cons_succ,i64_w,i32_w]
     rfl
    refine pure_ (i := 4) (N := (some 108)) (v := ?_) (a' := ?_) #[true,true,true,true,true,false,false,false,false,false,false,false] rfl rfl (any_of HT_.out (by kernel_rfl)) (fun _ _ _ h => h) (Or.inl ⟨by rfl,?_⟩) ?_ ?_
    rotate_left
    ·intro w'
     go_simp
     with_reducible rfl
    rotate_left
    ·simp only [Act.put,List.setIfInBounds_toArray,List.set_cons_zero,List.set_cons_succ,i64_w,i32_w]
     rfl
    refine take_ (i := 5) (N := (some 109)) (v := ?_) (a' := ?_) #[true,true,true,true,true,true,false,false,false,false,false,false] rfl rfl (take_ofW HT_.out HW_.out (by kernel_rfl)) (fun _ _ _ h => h) (Or.inl ⟨by rfl,?_⟩) hHeld ?_ ?_
    rotate_left
    ·rintro w' ⟨s1,s2⟩
     go_simp
     with_reducible rfl
    rotate_left
    ·simp only [Act.put,List.setIfInBounds_toArray,List.set_cons_zero,List.set_cons_succ,i64_w,i32_w]
     rfl
    refine pure_ (i := 6) (N := (some 110)) (v := ?_) (a' := ?_) #[true,true,true,true,true,true,true,false,false,false,false,false] rfl rfl (any_of HT_.out (by kernel_rfl)) (fun _ _ _ h => h) (Or.inl ⟨by rfl,?_⟩) ?_ ?_
    rotate_left
    ·intro w'
     go_simp
     with_reducible rfl
    rotate_left
    ·simp only [Act.put,List.setIfInBounds_toArray,List.set_cons_zero,List.set_cons_succ,i64_w,i32_w]
     rfl
    refine pure_ (i := 7) (N := (some 111)) (v := ?_) (a' := ?_) #[true,true,true,true,true,true,true,true,false,false,false,false] rfl rfl (any_of HT_.out (by kernel_rfl)) (fun _ _ _ h => h) (Or.inl ⟨by rfl,?_⟩) ?_ ?_
    rotate_left
    ·intro w'
     go_simp
     with_reducible rfl
    rotate_left
    ·simp only [Act.put,List.setIfInBounds_toArray,List.set_cons_zero,List.set_cons_succ,i64_w,i32_w]
     rfl
    refine pure_ (i := 8) (N := (some 112)) (v := ?_) (a' := ?_) #[true,true,true,true,true,true,true,true,true,false,false,false] rfl rfl (any_of HT_.out (by kernel_rfl)) (fun _ _ _ h => h) (Or.inl ⟨by rfl,?_⟩) ?_ ?_
    rotate_left
    ·intro w'
     go_simp
     with_reducible rfl
    rotate_left
    ·simp only [Act.put,List.setIfInBounds_toArray,List.set_cons_zero,List.set_cons_succ,i64_w,i32_w]
     rfl
    refine pure_ (i := 9) (N := (some 113)) (v := ?_) (a' := ?_) #[true,true,true,true,true,true,true,true,true,true,false,false] rfl rfl (any_of HT_.out (by kernel_rfl)) (fun _ _ _ h => h) (Or.inl ⟨by rfl,?_⟩) ?_ ?_
    rotate_left
    ·intro w'
     go_simp
     with_reducible rfl
    rotate_left
    ·simp only [Act.put,List.setIfInBounds_toArray,List.set_cons_zero,List.set_cons_succ,i64_w,i32_w]
     rfl
    refine take_ (i := 10) (N := (some 114)) (v := ?_) (a' := ?_) #[true,true,true,true,true,true,true,true,true,true,true,false] rfl rfl (take_ofW HT_.out HW_.out (by kernel_rfl)) (fun _ _ _ h => h) (Or.inl ⟨by rfl,?_⟩) hHeld ?_ ?_
    rotate_left
    ·rintro w' ⟨s1,s2⟩
     go_simp
     with_reducible rfl
    rotate_left
    ·simp only [Act.put,List.setIfInBounds_toArray,List.set_cons_zero,List.set_cons_succ,i64_w,i32_w]
     rfl
    refine last_ (i := 11) (N := (some 115)) #[true,true,true,true,true,true,true,true,true,true,true,true] rfl rfl (one_of HT_.out (by kernel_rfl)) (by decide) (fun K hK => ?_)
    refine call_ 102 #[.pointer (some ⟨p,0,none⟩),.int .i64 s.r,.int .i64 s.c] (by rfl) rfl au10 ?_
    refine (sc_clearRow hs2.at_ (hs2.room hr) s.r s.c (by omega) (fun row hq => by have := hO.cl row hq;omega)).mono ?_
    rintro e w3 ⟨rfl,hs3⟩
    refine ⟨_,rfl,hK.out _ _ ?_⟩
    clear hK K
    refine norm_ (a' := ?_) ?_ ?_
    rotate_left
    ·show Act.put _ (some 115) _ = _
     simp only [Act.put,List.setIfInBounds_toArray,List.set_cons_zero,List.set_cons_succ,i64_w,i32_w]
     rfl
    have hs4 := hs2.then_ hs3
    clear hs2 hs3 hHeld
    refine done_ (done_of HT_.out (by kernel_rfl)) ?_
    clear HT_ HW_
    first | refine bodyPost_end (results_none rfl _ _ _) rfl ?_ | ((try simp only [Exit.inBlock,Exit.then]);refine bodyPost_end (results_none rfl _ _ _) rfl ?_) | (go_wp2;refine bodyPost_end (results_none rfl _ _ _) rfl ?_)
    exact ⟨rfl,by rw [hDH.out];exact hs4⟩
   | false =>
    have hD : s.carry 75 L B = s := by unfold Sc.carry;rw [if_neg (by decide),if_pos rfl,if_neg (hWN rfl)]
    have hDH := Lib.hid hD
    clear hD hWY hWN
    go_wp2
    first | refine bodyPost_end (results_none rfl _ _ _) rfl ?_ | ((try simp only [Exit.inBlock,Exit.then]);refine bodyPost_end (results_none rfl _ _ _) rfl ?_) | (go_wp2;refine bodyPost_end (results_none rfl _ _ _) rfl ?_)
    exact ⟨rfl,by rw [hDH.out];exact hsA⟩
  have q74 : ((en : Int) == 74) = false := by simp;omega
  have q75 : ((en : Int) == 75) = false := by simp;omega
  clear hWY hWN
  by_cases e109 : en = 109
  ·subst e109
   have hD : s.carry 109 L B = s := by unfold Sc.carry;rw [if_neg (by decide),if_neg (by decide),if_pos rfl]
   have hDH := Lib.hid hD
   clear hD
   go_wp2
   first | refine bodyPost_end (results_none rfl _ _ _) rfl ?_ | ((try simp only [Exit.inBlock,Exit.then]);refine bodyPost_end (results_none rfl _ _ _) rfl ?_) | (go_wp2;refine bodyPost_end (results_none rfl _ _ _) rfl ?_)
   exact ⟨rfl,by rw [hDH.out];exact hsA⟩
  have q109 : ((en : Int) == 109) = false := by simp;omega
  have g5 := hsA.at_.frozen 5
  obtain ⟨rv,⟨_,_,_,_,_,c5,_⟩,_⟩ := hsA.at_.cells
  have hs2 := hsA.put (hd' := hd) (s' := { s with full := false }) 5 (.bool false) rfl (fun _ => rfl)
  by_cases e72 : en = 72 ∧ B = true
  ·obtain ⟨rfl,rfl⟩ := e72
   obtain ⟨k1,k2,k3⟩ := hok rfl
   have hD : s.carry 72 L true = { s with full := false,r := (min (max (L.getD 0 0) 1) s.h - 1).toNat,c := (min (max (L.getD 1 0) 1) s.w - 1).toNat } := by unfold Sc.carry;rw [if_neg (by decide),if_neg (by decide),if_neg (by decide)];dsimp only;rw [if_pos ⟨rfl,rfl⟩]
   have hDH := Lib.hid hD
   have hx0 : 0 ≤ L.getD 0 0 ∧ L.getD 0 0 ≤ 65535 := by
    rw [List.getD_eq_getElem?_getD,List.getElem?_eq_getElem (by omega)]
    exact k1 _ (List.getElem_mem _)
   have hx1 : 0 ≤ L.getD 1 0 ∧ L.getD 1 0 ≤ 65535 := by
    rw [List.getD_eq_getElem?_getD]
    cases hq : L[1]? with
    | none => exact ⟨by decide,by decide⟩
    | some y => exact k1 y (List.mem_of_getElem? hq)
   have hg0 : (L ++ [0]).getD 0 0 = L.getD 0 0 := by
    rw [List.getD_eq_getElem?_getD,List.getD_eq_getElem?_getD,List.getElem?_append_left (by omega)]
   have hg1 : (L ++ [0]).getD 1 0 = L.getD 1 0 := by
    rw [List.getD_eq_getElem?_getD,List.getD_eq_getElem?_getD]
    rcases Nat.lt_or_ge 1 L.length with hq | hq
    ·rw [List.getElem?_append_left (by omega)]
    ·rw [List.getElem?_append_right hq,List.getElem?_eq_none hq]
     have : 1 - L.length = 0 := by omega
     rw [this];rfl
   clear hD hok hno k1 q74 q75 e74 e75 e109 q109
   generalize hX0 : L.getD 0 0 = X0 at hx0 hDH hg0
   generalize hX1 : L.getD 1 0 = X1 at hx1 hDH hg1
   clear hX0 hX1
   go_upto_region 5 with (fail)
   obtain ⟨cs_,hblk⟩ := hsB.at_.blk
   have hR2 := Kd.R_set hR hblk (fun q hq => by rcases List.mem_cons.1 hq with rfl | hq;exact (by decide);cases hq) 5 (.bool false)
   have hs2 := hsB.put (hd' := hd) (s' := { s with full := false }) 5 (.bool false) rfl (fun _ => rfl)
   generalize wc.setCell ⟨p,5,none⟩ (.bool false) = w2 at hs2 hR2 ⊢
   clear hsA hsB g5 c5 hblk hR c3 c4
   go_upto_region 6 with ((with_reducible refine gate_builtin (b := .append) (xs := #[.tmp 35,.tmp 36]) rfl ?_);at_builtin;(refine Kd.R_append (Kd.int .i64) (w0 := W) 0 rfl (.tmp 35) (.tmp 36) 48 3 (.int .i64 0) 8 rfl Tryd.underlying48 info3 rfl (by decide) (by decide) (.slice A L.length c) L 0 [.int .i64 0] (fun k => W.heap.size ≤ k) (fun _ => False) rfl rfl rfl (fun _ hk => hk.elim) (fun k hk => Nat.le_trans hs2.size hk) (Kd.R_lower (Kd.R_mono (Kd.R_bound hR2) (fun k hk => hk.2.1)) (Nat.zero_le _)) (hs2.below.mono (Nat.zero_le _)) (Nat.zero_le _) (by omega) ?_;intro v3 w3 hR3 hB3 hg3 hat3;obtain ⟨A3,c3',rfl⟩ := Kd.R_slice hR3))
   have hs3 := hs2.other hg3 (fun k hk => ⟨Kd.R_own_lo hR2 k hk,fun hq => by have := Kd.R_own_lo hR2 k hk;omega,fun he => by have := Kd.R_own_lo hR2 k hk;omega⟩) hr.bs
   have hLl : (L ++ [(0 : Int)]).length = L.length + 1 := by simp
   obtain ⟨gl,c4,hv,_,_,_,_⟩ := Kd.R_form hR3 (by omega)
   injection hv with hv1 _ hv3
   subst hv1
   obtain rfl := hv3
   have hcc := (Kd.R_reads' hR3).2.1
   rw [hLl] at hR3 hcc
   clear hs2 hR2 hB3 hg3 hat3
   have qk := eq_true (show (1 : Int) < (L.length : Int) + 1 by omega)
   obtain ⟨ad,had,l0⟩ := Kd.at_int (Kd.R_reads' hR3).2.2 0 (by omega) (by omega)
   injection had with had
   subst had
   have l0 : w3.cell? ⟨gl,0,none⟩ = some (.int .i64 X0) := by
    have e : rd (L ++ [0]) 0 = X0 := hg0
    rw [← e];exact l0
   obtain ⟨rv,⟨q0_,q1_,_⟩,_⟩ := hs3.at_.cells
   have p1 := q1_
   clear q0_ q1_
   dsimp only at p1
   have hwr := (wrapN (x := min (max X0 1) (s.h : Int) - 1) (by omega) (by omega))
   refine start_ (n := 15) (S := fun w' => w'.cell? ⟨gl,0,none⟩ = some (.int .i64 X0) ∧ w'.cell? ⟨p,1,none⟩ = some (.int .i64 s.h)) (ds := [14]) #[false,false,false,false,false,false,false,false,false,false,false,false,false,false,false] (by kernel_rfl) rfl rfl ⟨l0,p1⟩ (fun hHeld => ?_);refine with_tabW ca6.tab ca6.bits (fun HT_ HW_ => ?_)
   have hs4 := hs3.more (below_drew (Below.refl _ _)) hr.bs
   have hR4 := Kd.R_below hR3 (below_drew (Below.refl _ _))
   generalize w3.drew = w4 at hs4 hR4 hHeld ⊢
   clear hs3 hR3 l0 p1
   refine pure_ (i := 0) (N := (some 38)) (v := ?_) (a' := ?_) #[true,false,false,false,false,false,false,false,false,false,false,false,false,false,false] rfl rfl (any_of HT_.out (by kernel_rfl)) (fun _ _ _ h => h) (Or.inl ⟨by rfl,?_⟩) ?_ ?_
   rotate_left
   ·intro w'
    go_simp
    with_reducible rfl
   rotate_left
   ·simp only [Act.put,List.setIfInBounds_toArray,List.set_cons_zero,List.set_cons_succ,i64_w,i32_w]
    rfl
   refine pure_ (i := 1) (N := (some 39)) (v := ?_) (a' := ?_) #[true,true,false,false,false,false,false,false,false,false,false,false,false,false,false] rfl rfl (any_of HT_.out (by kernel_rfl)) (fun _ _ _ h => h) (Or.inl ⟨by rfl,?_⟩) ?_ ?_
   rotate_left
   ·intro w'
    go_simp
    with_reducible rfl
   rotate_left
   ·simp only [Act.put,List.setIfInBounds_toArray,List.set_cons_zero,List.set_cons_succ,i64_w,i32_w]
    rfl
   refine pure_ (i := 2) (N := (some 40)) (v := ?_) (a' := ?_) #[true,true,true,false,false,false,false,false,false,false,false,false,false,false,false] rfl rfl (any_of HT_.out (by kernel_rfl)) (fun _ _ _ h => h) (Or.inl ⟨by rfl,?_⟩) ?_ ?_
   rotate_left
   ·intro w'
    go_simp
    with_reducible rfl
   rotate_left
   ·simp only [Act.put,List.setIfInBounds_toArray,List.set_cons_zero,List.set_cons_succ,i64_w,i32_w]
    rfl
   refine take_ (i := 3) (N := (some 41)) (v := ?_) (a' := ?_) #[true,true,true,true,false,false,false,false,false,false,false,false,false,false,false] rfl rfl (take_ofW HT_.out HW_.out (by kernel_rfl)) (fun _ _ _ h => h) (Or.inl ⟨by rfl,?_⟩) hHeld ?_ ?_
   rotate_left
   ·rintro w' ⟨s1,s2⟩
    go_simp
    with_reducible rfl
   rotate_left
   ·simp only [Act.put,List.setIfInBounds_toArray,List.set_cons_zero,List.set_cons_succ,i64_w,i32_w]
    rfl
   refine pure_ (i := 4) (N := (some 42)) (v := ?_) (a' := ?_) #[true,true,true,true,true,false,false,false,false,false,false,false,false,false,false] rfl rfl (any_of HT_.out (by kernel_rfl)) (fun _ _ _ h => h) (Or.inl ⟨by rfl,?_⟩) ?_ ?_
   rotate_left
   ·intro w'
    go_simp
    with_reducible rfl
   rotate_left
   ·simp only [Act.put,List.setIfInBounds_toArray,List.set_cons_zero,List.set_cons_succ,i64_w,i32_w]
    rfl
   refine pure_ (i := 5) (N := (some 43)) (v := ?_) (a' := ?_) #[true,true,true,true,true,true,false,false,false,false,false,false,false,false,false] rfl rfl (any_of HT_.out (by kernel_rfl)) (fun _ _ _ h => h) (Or.inl ⟨by rfl,?_⟩) ?_ ?_
   rotate_left
   ·intro w'
    go_simp
    with_reducible rfl
   rotate_left
   ·simp only [Act.put,List.setIfInBounds_toArray,List.set_cons_zero,List.set_cons_succ,i64_w,i32_w]
    rfl
   refine pure_ (i := 6) (N := (some 44)) (v := ?_) (a' := ?_) #[true,true,true,true,true,true,true,false,false,false,false,false,false,false,false] rfl rfl (any_of HT_.out (by kernel_rfl)) (fun _ _ _ h => h) (Or.inl ⟨by rfl,?_⟩) ?_ ?_
   rotate_left
   ·intro w'
    go_simp
    with_reducible rfl
   rotate_left
   ·simp only [Act.put,List.setIfInBounds_toArray,List.set_cons_zero,List.set_cons_succ,i64_w,i32_w]
    rfl
   refine pure_ (i := 7) (N := (some 45)) (v := ?_) (a' := ?_) #[true,true,true,true,true,true,true,true,false,false,false,false,false,false,false] rfl rfl (any_of HT_.out (by kernel_rfl)) (fun _ _ _ h => h) (Or.inl ⟨by rfl,?_⟩) ?_ ?_
   rotate_left
   ·intro w'
    go_simp
    with_reducible rfl
   rotate_left
   ·simp only [Act.put,List.setIfInBounds_toArray,List.set_cons_zero,List.set_cons_succ,i64_w,i32_w]
    rfl
   refine take_ (i := 8) (N := (some 46)) (v := ?_) (a' := ?_) #[true,true,true,true,true,true,true,true,true,false,false,false,false,false,false] rfl rfl (take_ofW HT_.out HW_.out (by kernel_rfl)) (fun _ _ _ h => h) (Or.inl ⟨by rfl,?_⟩) hHeld ?_ ?_
   rotate_left
   ·rintro w' ⟨s1,s2⟩
    go_simp
    with_reducible rfl
   rotate_left
   ·simp only [Act.put,List.setIfInBounds_toArray,List.set_cons_zero,List.set_cons_succ,i64_w,i32_w]
    rfl
   refine pure_ (i := 9) (N := (some 47)) (v := ?_) (a' := ?_) #[true,true,true,true,true,true,true,true,true,true,false,false,false,false,false] rfl rfl (any_of HT_.out (by kernel_rfl)) (fun _ _ _ h => h) (Or.inl ⟨by rfl,?_⟩) ?_ ?_
   rotate_left
   ·intro w'
    go_simp
    with_reducible rfl
   rotate_left
   ·simp only [Act.put,List.setIfInBounds_toArray,List.set_cons_zero,List.set_cons_succ,i64_w,i32_w]
    rfl
   refine pure_ (i := 10) (N := (some 48)) (v := ?_) (a' := ?_) #[true,true,true,true,true,true,true,true,true,true,true,false,false,false,false] rfl rfl (any_of HT_.out (by kernel_rfl)) (fun _ _ _ h => h) (Or.inl ⟨by rfl,?_⟩) ?_ ?_
   rotate_left
   ·intro w'
    go_simp
    with_reducible rfl
   rotate_left
   ·simp only [Act.put,List.setIfInBounds_toArray,List.set_cons_zero,List.set_cons_succ,i64_w,i32_w]
    rfl
   refine pure_ (i := 11) (N := (some 49)) (v := ?_) (a' := ?_) #[true,true,true,true,true,true,true,true,true,true,true,true,false,false,false] rfl rfl (any_of HT_.out (by kernel_rfl)) (fun _ _ _ h => h) (Or.inl ⟨by rfl,?_⟩) ?_ ?_
   rotate_left
   ·intro w'
    go_simp
    with_reducible rfl
   rotate_left
   ·simp only [Act.put,List.setIfInBounds_toArray,List.set_cons_zero,List.set_cons_succ,i64_w,i32_w]
    rfl
   refine pure_ (i := 12) (N := (some 50)) (v := ?_) (a' := ?_) #[true,true,true,true,true,true,true,true,true,true,true,true,true,false,false] rfl rfl (any_of HT_.out (by kernel_rfl)) (fun _ _ _ h => h) (Or.inl ⟨by rfl,?_⟩) ?_ ?_
   rotate_left
   ·intro w'
    go_simp
    with_reducible rfl
   rotate_left
   ·simp only [Act.put,List.setIfInBounds_toArray,List.set_cons_zero,List.set_cons_succ,i64_w,i32_w]
    rfl
   refine pure_ (i := 13) (N := (some 51)) (v := ?_) (a' := ?_) #[true,true,true,true,true,true,true,true,true,true,true,true,true,true,false] rfl rfl (any_of HT_.out (by kernel_rfl)) (fun _ _ _ h => h) (Or.inl ⟨by rfl,?_⟩) ?_ ?_
   rotate_left
   ·intro w'
    go_simp
    with_reducible rfl
   rotate_left
   ·simp only [Act.put,List.setIfInBounds_toArray,List.set_cons_zero,List.set_cons_succ,i64_w,i32_w]
    rfl
   refine last_ (i := 14) (N := none) #[true,true,true,true,true,true,true,true,true,true,true,true,true,true,true] rfl rfl (one_of HT_.out (by kernel_rfl)) (by decide) (fun K hK => ?_)
   obtain ⟨rv,⟨_,_,_,d3,d4,_⟩,_⟩ := hs4.at_.cells
   have dg := hs4.at_.frozen 3
   refine skip_ (w1 := ?_) (by rfl) rfl ?_ ?_
   rotate_left
   ·go_simp
    rfl
   refine hK.out _ _ ?_
   clear hK K
   obtain ⟨cs_,hblk⟩ := hs4.at_.blk
   have hR5 := Kd.R_set hR4 hblk (fun q hq => by rcases List.mem_cons.1 hq with rfl | hq;exact (by decide);cases hq) 3 (.int .i64 (min (max X0 1) (s.h : Int) - 1))
   have hs5 := hs4.put (hd' := hd) (s' := { s with full := false,r := (min (max X0 1) (s.h : Int) - 1).toNat }) 3 (.int .i64 (min (max X0 1) (s.h : Int) - 1)) rfl (fun _ => by simp;omega)
   generalize w4.setCell ⟨p,3,none⟩ (.int .i64 (min (max X0 1) (s.h : Int) - 1)) = w5 at hs5 hR5 ⊢
   clear hs4 hR4 hHeld dg hblk d3 d4
   refine done_ (done_of HT_.out (by kernel_rfl)) ?_
   clear HT_ HW_
   go_upto_region 7 with (fail)
   obtain ⟨ad,had,l1⟩ := Kd.at_int (Kd.R_reads' hR5).2.2 1 (by omega) (by omega)
   injection had with had
   subst had
   have l1 : w5.cell? ⟨gl,1,none⟩ = some (.int .i64 X1) := by
    have e : rd (L ++ [0]) 1 = X1 := hg1
    rw [← e];exact l1
   obtain ⟨rv,⟨q0_,q1_,_⟩,_⟩ := hs5.at_.cells
   have p0 := q0_
   clear q0_ q1_
   dsimp only at p0
   have hwr := (wrapN (x := min (max X1 1) (s.w : Int) - 1) (by omega) (by omega))
   refine start_ (n := 15) (S := fun w' => w'.cell? ⟨gl,1,none⟩ = some (.int .i64 X1) ∧ w'.cell? ⟨p,0,none⟩ = some (.int .i64 s.w)) (ds := [14]) #[false,false,false,false,false,false,false,false,false,false,false,false,false,false,false] (by kernel_rfl) rfl rfl ⟨l1,p0⟩ (fun hHeld => ?_);refine with_tabW ca7.tab ca7.bits (fun HT_ HW_ => ?_)
   have hs6 := hs5.more (below_drew (Below.refl _ _)) hr.bs
   have hR6 := Kd.R_below hR5 (below_drew (Below.refl _ _))
   generalize w5.drew = w6 at hs6 hR6 hHeld ⊢
   clear hs5 hR5 l1 p0
   refine pure_ (i := 0) (N := (some 52)) (v := ?_) (a' := ?_) #[true,false,false,false,false,false,false,false,false,false,false,false,false,false,false] rfl rfl (any_of HT_.out (by kernel_rfl)) (fun _ _ _ h => h) (Or.inl ⟨by rfl,?_⟩) ?_ ?_
   rotate_left
   ·intro w'
    go_simp
    with_reducible rfl
   rotate_left
   ·simp only [Act.put,List.setIfInBounds_toArray,List.set_cons_zero,List.set_cons_succ,i64_w,i32_w]
    rfl
   refine pure_ (i := 1) (N := (some 53)) (v := ?_) (a' := ?_) #[true,true,false,false,false,false,false,false,false,false,false,false,false,false,false] rfl rfl (any_of HT_.out (by kernel_rfl)) (fun _ _ _ h => h) (Or.inl ⟨by rfl,?_⟩) ?_ ?_
   rotate_left
   ·intro w'
    go_simp
    with_reducible rfl
   rotate_left
   ·simp only [Act.put,List.setIfInBounds_toArray,List.set_cons_zero,List.set_cons_succ,i64_w,i32_w]
    rfl
   refine pure_ (i := 2) (N := (some 54)) (v := ?_) (a' := ?_) #[true,true,true,false,false,false,false,false,false,false,false,false,false,false,false] rfl rfl (any_of HT_.out (by kernel_rfl)) (fun _ _ _ h => h) (Or.inl ⟨by rfl,?_⟩) ?_ ?_
   rotate_left
   ·intro w'
    go_simp
    with_reducible rfl
   rotate_left
   ·simp only [Act.put,List.setIfInBounds_toArray,List.set_cons_zero,List.set_cons_succ,i64_w,i32_w]
    rfl
   refine take_ (i := 3) (N := (some 55)) (v := ?_) (a' := ?_) #[true,true,true,true,false,false,false,false,false,false,false,false,false,false,false] rfl rfl (take_ofW HT_.out HW_.out (by kernel_rfl)) (fun _ _ _ h => h) (Or.inl ⟨by rfl,?_⟩) hHeld ?_ ?_
   rotate_left
   ·rintro w' ⟨s1,s2⟩
    go_simp
    with_reducible rfl
   rotate_left
   ·simp only [Act.put,List.setIfInBounds_toArray,List.set_cons_zero,List.set_cons_succ,i64_w,i32_w]
    rfl
   refine pure_ (i := 4) (N := (some 56)) (v := ?_) (a' := ?_) #[true,true,true,true,true,false,false,false,false,false,false,false,false,false,false] rfl rfl (any_of HT_.out (by kernel_rfl)) (fun _ _ _ h => h) (Or.inl ⟨by rfl,?_⟩) ?_ ?_
   rotate_left
   ·intro w'
    go_simp
    with_reducible rfl
   rotate_left
   ·simp only [Act.put,List.setIfInBounds_toArray,List.set_cons_zero,List.set_cons_succ,i64_w,i32_w]
    rfl
   refine pure_ (i := 5) (N := (some 57)) (v := ?_) (a' := ?_) #[true,true,true,true,true,true,false,false,false,false,false,false,false,false,false] rfl rfl (any_of HT_.out (by kernel_rfl)) (fun _ _ _ h => h) (Or.inl ⟨by rfl,?_⟩) ?_ ?_
   rotate_left
   ·intro w'
    go_simp
    with_reducible rfl
   rotate_left
   ·simp only [Act.put,List.setIfInBounds_toArray,List.set_cons_zero,List.set_cons_succ,i64_w,i32_w]
    rfl
   refine pure_ (i := 6) (N := (some 58)) (v := ?_) (a' := ?_) #[true,true,true,true,true,true,true,false,false,false,false,false,false,false,false] rfl rfl (any_of HT_.out (by kernel_rfl)) (fun _ _ _ h => h) (Or.inl ⟨by rfl,?_⟩) ?_ ?_
   rotate_left
   ·intro w'
    go_simp
    with_reducible rfl
   rotate_left
   ·simp only [Act.put,List.setIfInBounds_toArray,List.set_cons_zero,List.set_cons_succ,i64_w,i32_w]
    rfl
   refine pure_ (i := 7) (N := (some 59)) (v := ?_) (a' := ?_) #[true,true,true,true,true,true,true,true,false,false,false,false,false,false,false] rfl rfl (any_of HT_.out (by kernel_rfl)) (fun _ _ _ h => h) (Or.inl ⟨by rfl,?_⟩) ?_ ?_
   rotate_left
   ·intro w'
    go_simp
    with_reducible rfl
   rotate_left
   ·simp only [Act.put,List.setIfInBounds_toArray,List.set_cons_zero,List.set_cons_succ,i64_w,i32_w]
    rfl
   refine take_ (i := 8) (N := (some 60)) (v := ?_) (a' := ?_) #[true,true,true,true,true,true,true,true,true,false,false,false,false,false,false] rfl rfl (take_ofW HT_.out HW_.out (by kernel_rfl)) (fun _ _ _ h => h) (Or.inl ⟨by rfl,?_⟩) hHeld ?_ ?_
   rotate_left
   ·rintro w' ⟨s1,s2⟩
    go_simp
    with_reducible rfl
   rotate_left
   ·simp only [Act.put,List.setIfInBounds_toArray,List.set_cons_zero,List.set_cons_succ,i64_w,i32_w]
    rfl
   refine pure_ (i := 9) (N := (some 61)) (v := ?_) (a' := ?_) #[true,true,true,true,true,true,true,true,true,true,false,false,false,false,false] rfl rfl (any_of HT_.out (by kernel_rfl)) (fun _ _ _ h => h) (Or.inl ⟨by rfl,?_⟩) ?_ ?_
   rotate_left
   ·intro w'
    go_simp
    with_reducible rfl
   rotate_left
   ·simp only [Act.put,List.setIfInBounds_toArray,List.set_cons_zero,List.set_cons_succ,i64_w,i32_w]
    rfl
   refine pure_ (i := 10) (N := (some 62)) (v := ?_) (a' := ?_) #[true,true,true,true,true,true,true,true,true,true,true,false,false,false,false] rfl rfl (any_of HT_.out (by kernel_rfl)) (fun _ _ _ h => h) (Or.inl ⟨by rfl,?_⟩) ?_ ?_
   rotate_left
   ·intro w'
    go_simp
    with_reducible rfl
   rotate_left
   ·simp only [Act.put,List.setIfInBounds_toArray,List.set_cons_zero,List.set_cons_succ,i64_w,i32_w]
    rfl
   refine pure_ (i := 11) (N := (some 63)) (v := ?_) (a' := ?_) #[true,true,true,true,true,true,true,true,true,true,true,true,false,false,false] rfl rfl (any_of HT_.out (by kernel_rfl)) (fun _ _ _ h => h) (Or.inl ⟨by rfl,?_⟩) ?_ ?_
   rotate_left
   ·intro w'
    go_simp
    with_reducible rfl
   rotate_left
   ·simp only [Act.put,List.setIfInBounds_toArray,List.set_cons_zero,List.set_cons_succ,i64_w,i32_w]
    rfl
   refine pure_ (i := 12) (N := (some 64)) (v := ?_) (a' := ?_) #[true,true,true,true,true,true,true,true,true,true,true,true,true,false,false] rfl rfl (any_of HT_.out (by kernel_rfl)) (fun _ _ _ h => h) (Or.inl ⟨by rfl,?_⟩) ?_ ?_
   rotate_left
   ·intro w'
    go_simp
    with_reducible rfl
   rotate_left
   ·simp only [Act.put,List.setIfInBounds_toArray,List.set_cons_zero,List.set_cons_succ,i64_w,i32_w]
    rfl
   refine pure_ (i := 13) (N := (some 65)) (v := ?_) (a' := ?_) #[true,true,true,true,true,true,true,true,true,true,true,true,true,true,false] rfl rfl (any_of HT_.out (by kernel_rfl)) (fun _ _ _ h => h) (Or.inl ⟨by rfl,?_⟩) ?_ ?_
   rotate_left
   ·intro w'
    go_simp
    with_reducible rfl
   rotate_left
   ·simp only [Act.put,List.setIfInBounds_toArray,List.set_cons_zero,List.set_cons_succ,i64_w,i32_w]
    rfl
   refine last_ (i := 14) (N := none) #[true,true,true,true,true,true,true,true,true,true,true,true,true,true,true] rfl rfl (one_of HT_.out (by kernel_rfl)) (by decide) (fun K hK => ?_)
   obtain ⟨rv,⟨_,_,_,d3,d4,_⟩,_⟩ := hs6.at_.cells
   have dg := hs6.at_.frozen 4
   refine skip_ (w1 := ?_) (by rfl) rfl ?_ ?_
   rotate_left
   ·go_simp
    rfl
   refine hK.out _ _ ?_
   clear hK K
   obtain ⟨cs_,hblk⟩ := hs6.at_.blk
   have hR7 := Kd.R_set hR6 hblk (fun q hq => by rcases List.mem_cons.1 hq with rfl | hq;exact (by decide);cases hq) 4 (.int .i64 (min (max X1 1) (s.w : Int) - 1))
   have hs7 := hs6.put (hd' := hd) (s' := { s with full := false,r := (min (max X0 1) (s.h : Int) - 1).toNat,c := (min (max X1 1) (s.w : Int) - 1).toNat }) 4 (.int .i64 (min (max X1 1) (s.w : Int) - 1)) rfl (fun _ => by simp;omega)
   generalize w6.setCell ⟨p,4,none⟩ (.int .i64 (min (max X1 1) (s.w : Int) - 1)) = w7 at hs7 hR7 ⊢
   clear hs6 hR6 hHeld dg hblk d3 d4
   refine done_ (done_of HT_.out (by kernel_rfl)) ?_
   clear HT_ HW_
   first | refine bodyPost_end (results_none rfl _ _ _) rfl ?_ | ((try simp only [Exit.inBlock,Exit.then]);refine bodyPost_end (results_none rfl _ _ _) rfl ?_) | (go_wp2;refine bodyPost_end (results_none rfl _ _ _) rfl ?_)
   exact ⟨rfl,by rw [hDH.out];exact hs7.wide (fun k hk => hk.1) hpn⟩
  ·have hD : s.carry en L B = { s with full := false } := by unfold Sc.carry;rw [if_neg e74,if_neg e75,if_neg e109];dsimp only;rw [if_neg e72]
   have hDH := Lib.hid hD
   clear hD hok hno
   by_cases e : en = 72
   ·subst e
    have hB : B = false := by cases B with | true => exact absurd ⟨rfl,rfl⟩ e72 | false => rfl
    subst hB
    go_wp2
    refine bodyPost_end (results_none rfl _ _ _) rfl ?_
    exact ⟨rfl,by rw [hDH.out];exact hs2⟩
   ·have q72 : ((en : Int) == 72) = false := by simp;omega
    go_wp2
    refine bodyPost_end (results_none rfl _ _ _) rfl ?_
    exact ⟨rfl,by rw [hDH.out];exact hs2⟩
end Go.Proofs.YtgdpnmikcopkmaaDoor.U
end
section
namespace Go.Proofs.YtgdpnmikcopkmaaDoor.U
open Go.RowKit Go.Proofs.YtgdpnmikcopkmaaDoor.Mu Go.Proofs.YtgdpnmikcopkmaaDoor.Pu Go.Proofs.YtgdpnmikcopkmaaDoorW.PrintWords Go.Proofs.YtgdpnmikcopkmaaDoorW.PrintLast Go.Proofs.YtgdpnmikcopkmaaDoorW.PrintMore
set_option linter.unusedVariables false
set_option linter.unusedSimpArgs false
theorem byt_get (s : ByteArray) (i : Nat) (h : i < s.size) : byt s i = (s[i]'h).toNat := by
 unfold byt
 congr 1
 show s.data[i]! = s.data[i]'h
 exact getElem!_pos s.data i h
theorem escJ_step (s : ByteArray) (k j : Nat) (h : j < s.size) (h1 : 32 ≤ byt s j) (h2 : byt s j ≤ 63) : escJ s (k + 1) j = escJ s k (j + 1) := by
 show (if j < s.size ∧ 32 ≤ byt s j ∧ byt s j ≤ 63 then escJ s k (j + 1) else j) = _
 rw [if_pos ⟨h,h1,h2⟩]
theorem escJ_stop (s : ByteArray) (k j : Nat) (h : ¬ (j < s.size ∧ 32 ≤ byt s j ∧ byt s j ≤ 63)) : escJ s k j = j := by
 cases k with
 | zero => rfl
 | succ k =>
  show (if j < s.size ∧ 32 ≤ byt s j ∧ byt s j ≤ 63 then escJ s k (j + 1) else j) = _
  rw [if_neg h]
def es17.T : Bool × List (List Nat × List Nat) := (true,[([],[]),([],[]),([],[]),([1,2],[1,2]),([],[]),([],[]),([4,5],[4,5]),([0,3,6],[0,3,6])])
def es17.B : List Nat := [0,0,0,6,0,0,48,127]
theorem es17.tab : rtab .any (opsOf Tryd.f63 17) = es17.T := by kernel_rfl
theorem es17.bits : waitsOk es17.T.2 es17.B = true := by kernel_rfl
set_option maxRecDepth 100000 in
set_option maxHeartbeats 8000000 in
theorem sc_escape {base p : Nat} {ok : Nat → Prop} {W : World} {s : Sc} {hd : ByteArray} (h : ScrAt base p ok W s hd) (hr : Room base ok W) (hO : s.Ok) (all : ByteArray) (h0 : 0 < all.size) (hz : all.size ≤ 1099511627776) :
  Calls Tryd.prog 63 #[.pointer (some ⟨p,0,none⟩),.string all] W fun e w' => e = .returned (.int .i64 ((s.escape all).2 : Nat)) ∧ Stp base p ok W w' (s.escape all).1 hd := by
 have hs := Stp.start h
 obtain ⟨rv,⟨_,_,_,_,_,_,_,_,c8,_⟩,_⟩ := h.cells
 have g8 := hs.at_.frozen 8
 have hs2 := hs.put (hd' := hd) (s' := { s with marks := false }) 8 (.bool false) rfl (fun _ => rfl)
 by_cases h1 : all.size = 1
 ·have hD : s.escape all = (s,0) := by unfold Sc.escape;rw [if_pos h1]
  have hDH := Lib.hid hD
  clear hD
  have q : ((all.size : Int) == 1) = true := by simp;omega
  clear h1
  go_enter Tryd.func63,Tryd.ntmps63
  go_wp2
  first | refine bodyPost_ret (results_tmp rfl _ _ _) rfl ?_ | ((try simp only [Exit.inBlock,Exit.then]);refine bodyPost_ret (results_tmp rfl _ _ _) rfl ?_) | (go_wp2;refine bodyPost_ret (results_tmp rfl _ _ _) rfl ?_)
  exact ⟨by rw [hDH.out];rfl,by rw [hDH.out];exact hs⟩
 have q1 : ((all.size : Int) == 1) = false := by simp;omega
 have hlt1 : 1 < all.size := by omega
 have hb1 := byt_get all 1 hlt1
 obtain ⟨x1,hx1⟩ : ∃ x,all[1]'hlt1 = x := ⟨_,rfl⟩
 rw [hx1] at hb1
 have hx1l := x1.toNat_lt
 by_cases h27 : byt all 1 = 27
 ·have hD : s.escape all = ({ s with marks := false },1) := by unfold Sc.escape;rw [if_neg h1,if_pos h27]
  have hDH := Lib.hid hD
  have q2 : ((x1.toNat : Int) == 27) = true := by simp;omega
  clear hD h27 hb1
  go_enter Tryd.func63,Tryd.ntmps63
  go_wp2
  first | refine bodyPost_ret (results_tmp rfl _ _ _) rfl ?_ | ((try simp only [Exit.inBlock,Exit.then]);refine bodyPost_ret (results_tmp rfl _ _ _) rfl ?_) | (go_wp2;refine bodyPost_ret (results_tmp rfl _ _ _) rfl ?_)
  exact ⟨by rw [hDH.out];rfl,by rw [hDH.out];exact hs2⟩
 have q2 : ((x1.toNat : Int) == 27) = false := by simp;omega
 by_cases h91 : byt all 1 = 91
 ·have q3 : ((x1.toNat : Int) != 91) = false := by simp;omega
  have hwo : ∀ k : Nat,k < all.size → IntKind.i64.wrap ((k : Int) + 1) = (k : Int) + 1 := fun k hk => wrapN (by omega) (by omega)
  have hE : s.escape all = if escE all = all.size then (s,0) else if byt all (escE all) < 64 ∨ 126 < byt all (escE all) then ({ s with marks := false },escE all) else (({ s with marks := false } : Sc).carry (byt all (escE all)) (numsL (all.extract 2 (escE all))) (numsB (all.extract 2 (escE all))),escE all + 1) := by
   unfold Sc.escape
   rw [if_neg h1,if_neg h27,if_neg (fun hq => hq h91)]
  have hEH := Lib.hid hE
  have hbd := escJ_bd all all.size 2
  clear hE h1 h27 h91 hb1 hwo
  go_enter Tryd.func63,Tryd.ntmps63
  go_upto_block 1 with (fail)
  go_cut [5] from 6 to 41 (fun v w2 => v = .int .i64 (escE all : Nat) ∧ w2 = W)
  case first =>
   go_wp2_with (fail)
   go_loop [5] (fun v => ∃ j k : Nat,v = .int .i64 j ∧ j ≤ all.size ∧ Hid (escE all = escJ all k j) ∧ all.size ≤ j + k) (fun v => all.size - (intOf v).toNat)
   case atStart => exact ⟨2,all.size,rfl,by omega,Lib.hid rfl,by omega⟩
   case round =>
    obtain ⟨j,k,rfl,hj,hJ,hjk⟩ := hrel
    by_cases hlt : j < all.size
    ·have hlt' : (j : Int) < (all.size : Int) := by omega
     have hbj := byt_get all j hlt
     obtain ⟨x,hx⟩ : ∃ x,all[j]'hlt = x := ⟨_,rfl⟩
     rw [hx] at hbj
     have hxl := x.toNat_lt
     by_cases h32 : 32 ≤ byt all j
     ·have q32 := eq_true (show (32 : Int) ≤ (x.toNat : Int) by omega)
      by_cases h63 : byt all j ≤ 63
      ·have q63 := eq_true (show (x.toNat : Int) ≤ 63 by omega)
       obtain ⟨m,rfl⟩ : ∃ m,k = m + 1 := ⟨k - 1,by omega⟩
       have hJ2 := Lib.hid (hJ.out.trans (escJ_step all m j hlt h32 h63))
       clear hbj h32 h63 hJ
       go_wp2
       go_round
       case rel => exact ⟨j + 1,m,by go_num,by omega,hJ2,by omega⟩
       case measure => simp [intOf];omega
      ·have q63 := eq_false (show ¬ (x.toNat : Int) ≤ 63 by omega)
       have hJ2 := Lib.hid (hJ.out.trans (escJ_stop all k j (fun hq => h63 hq.2.2)))
       clear hbj h32 h63 hJ
       go_wp2
       go_meet
       case rel => exact ⟨by rw [hJ2.out],rfl⟩
     ·have q32 := eq_false (show ¬ (32 : Int) ≤ (x.toNat : Int) by omega)
      have hJ2 := Lib.hid (hJ.out.trans (escJ_stop all k j (fun hq => h32 hq.2.1)))
      clear hbj h32 hJ
      go_wp2
      go_meet
      case rel => exact ⟨by rw [hJ2.out],rfl⟩
    ·have hlt' := eq_false (show ¬ (j : Int) < (all.size : Int) by omega)
     have hJ2 := Lib.hid (hJ.out.trans (escJ_stop all k j (fun hq => hlt hq.1)))
     clear hJ
     go_wp2
     go_meet
     case rel => exact ⟨by rw [hJ2.out],rfl⟩
  case rest =>
   obtain ⟨rfl,rfl⟩ := hcut
   have hE2 : 2 ≤ escE all := hbd.1
   have hE3 : escE all ≤ all.size := hbd.2 (by omega)
   generalize escE all = E at hEH hE2 hE3 ⊢
   clear hbd
   by_cases hz1 : E = all.size
   ·have hD : s.escape all = (s,0) := by rw [hEH.out,if_pos hz1]
    have hDH := Lib.hid hD
    have q4 : ((E : Int) == (all.size : Int)) = true := by simp;omega
    clear hD hz1 hEH
    go_wp2
    first | refine bodyPost_ret (results_tmp rfl _ _ _) rfl ?_ | ((try simp only [Exit.inBlock,Exit.then]);refine bodyPost_ret (results_tmp rfl _ _ _) rfl ?_) | (go_wp2;refine bodyPost_ret (results_tmp rfl _ _ _) rfl ?_)
    exact ⟨by rw [hDH.out];rfl,by rw [hDH.out];exact hs⟩
   have q4 : ((E : Int) == (all.size : Int)) = false := by simp;omega
   have hlt : E < all.size := by omega
   have hlt' : (E : Int) < (all.size : Int) := by omega
   have hbj := byt_get all E hlt
   obtain ⟨x,hx⟩ : ∃ x,all[E]'hlt = x := ⟨_,rfl⟩
   rw [hx] at hbj
   have hxl := x.toNat_lt
   have hs2' := hs2
   go_upto_region 15 with (fail)
   generalize hW2 : wc.setCell ⟨p,8,none⟩ (.bool false) = w2 at hs2 ⊢
   clear hs2' hW2 hs c8 g8
   have hw : IntKind.i64.wrap ((E : Int) + 1) = (E : Int) + 1 := wrapN (by omega) (by omega)
   by_cases h64 : byt all E < 64
   ·have hD : s.escape all = ({ s with marks := false },E) := by rw [hEH.out,if_neg hz1,if_pos (.inl h64)]
    have hDH := Lib.hid hD
    have q5 := eq_true (show (x.toNat : Int) < 64 by omega)
    clear hD h64 hbj hEH hz1
    go_wp2
    first | refine bodyPost_ret (results_tmp rfl _ _ _) rfl ?_ | ((try simp only [Exit.inBlock,Exit.then]);refine bodyPost_ret (results_tmp rfl _ _ _) rfl ?_) | (go_wp2;refine bodyPost_ret (results_tmp rfl _ _ _) rfl ?_)
    exact ⟨by rw [hDH.out];rfl,by rw [hDH.out];exact hs2⟩
   have q5 := eq_false (show ¬ (x.toNat : Int) < 64 by omega)
   by_cases h126 : 126 < byt all E
   ·have hD : s.escape all = ({ s with marks := false },E) := by rw [hEH.out,if_neg hz1,if_pos (.inr h126)]
    have hDH := Lib.hid hD
    have q6 := eq_true (show 126 < (x.toNat : Int) by omega)
    clear hD h64 hbj hEH hz1 h126
    go_wp2
    first | refine bodyPost_ret (results_tmp rfl _ _ _) rfl ?_ | ((try simp only [Exit.inBlock,Exit.then]);refine bodyPost_ret (results_tmp rfl _ _ _) rfl ?_) | (go_wp2;refine bodyPost_ret (results_tmp rfl _ _ _) rfl ?_)
    exact ⟨by rw [hDH.out];rfl,by rw [hDH.out];exact hs2⟩
   have q6 := eq_false (show ¬ 126 < (x.toNat : Int) by omega)
   have hD : s.escape all = (({ s with marks := false } : Sc).carry x.toNat (numsL (all.extract 2 E)) (numsB (all.extract 2 E)),E + 1) := by rw [hEH.out,if_neg hz1,if_neg (by omega),hbj]
   have hDH := Lib.hid hD
   clear hD h64 hbj hEH hz1 h126
   have q7 := eq_true (show (2 : Int) ≤ (E : Int) by omega)
   have q8 := eq_true (show (E : Int) ≤ (all.size : Int) by omega)
   go_upto_region 17 with (fail)
   refine start_ (n := 8) (S := fun w' => True) (ds := [7]) #[false,false,false,false,false,false,false,false] (by kernel_rfl) rfl rfl trivial (fun hHeld => ?_);refine with_tabW es17.tab es17.bits (fun HT_ HW_ => ?_)
   have hs3 := hs2.more (below_drew (Below.refl _ _)) hr.bs
   generalize w2.drew = w3 at hs3 hHeld ⊢
   clear hs2
   refine pure_ (i := 0) (N := (some 60)) (v := ?_) (a' := ?_) #[true,false,false,false,false,false,false,false] rfl rfl (any_of HT_.out (by kernel_rfl)) (fun _ _ _ h => h) (Or.inl ⟨by rfl,?_⟩) ?_ ?_
   rotate_left
   ·intro w'
    go_simp
    with_reducible rfl
   rotate_left
   ·simp only [Act.put,List.setIfInBounds_toArray,List.set_cons_zero,List.set_cons_succ,i64_w,i32_w]
    rfl
   refine pure_ (i := 1) (N := (some 61)) (v := ?_) (a' := ?_) #[true,true,false,false,false,false,false,false] rfl rfl (any_of HT_.out (by kernel_rfl)) (fun _ _ _ h => h) (Or.inl ⟨by rfl,?_⟩) ?_ ?_
   rotate_left
   ·intro w'
    go_simp
    with_reducible rfl
   rotate_left
   ·simp only [Act.put,List.setIfInBounds_toArray,List.set_cons_zero,List.set_cons_succ,i64_w,i32_w]
    rfl
   refine pure_ (i := 2) (N := (some 62)) (v := ?_) (a' := ?_) #[true,true,true,false,false,false,false,false] rfl rfl (any_of HT_.out (by kernel_rfl)) (fun _ _ _ h => h) (Or.inl ⟨by rfl,?_⟩) ?_ ?_
   rotate_left
   ·intro w'
    go_simp
    with_reducible rfl
   rotate_left
   ·simp only [Act.put,List.setIfInBounds_toArray,List.set_cons_zero,List.set_cons_succ,i64_w,i32_w]
    rfl
   refine pure_ (i := 3) (N := (some 63)) (v := ?_) (a' := ?_) #[true,true,true,true,false,false,false,false] rfl rfl (any_of HT_.out (by kernel_rfl)) (fun _ _ _ h => h) (Or.inl ⟨by rfl,?_⟩) ?_ ?_
   rotate_left
   ·intro w'
    go_simp
    with_reducible rfl
   rotate_left
   ·simp only [Act.put,List.setIfInBounds_toArray,List.set_cons_zero,List.set_cons_succ,i64_w,i32_w]
    rfl
   refine pure_ (i := 4) (N := (some 64)) (v := ?_) (a' := ?_) #[true,true,true,true,true,false,false,false] rfl rfl (any_of HT_.out (by kernel_rfl)) (fun _ _ _ h => h) (Or.inl ⟨by rfl,?_⟩) ?_ ?_
   rotate_left
   ·intro w'
    go_simp
    with_reducible rfl
   rotate_left
   ·simp only [Act.put,List.setIfInBounds_toArray,List.set_cons_zero,List.set_cons_succ,i64_w,i32_w]
    rfl
   refine pure_ (i := 5) (N := (some 65)) (v := ?_) (a' := ?_) #[true,true,true,true,true,true,false,false] rfl rfl (any_of HT_.out (by kernel_rfl)) (fun _ _ _ h => h) (Or.inl ⟨by rfl,?_⟩) ?_ ?_
   rotate_left
   ·intro w'
    go_simp
    with_reducible rfl
   rotate_left
   ·simp only [Act.put,List.setIfInBounds_toArray,List.set_cons_zero,List.set_cons_succ,i64_w,i32_w]
    rfl
   refine pure_ (i := 6) (N := (some 66)) (v := ?_) (a' := ?_) #[true,true,true,true,true,true,true,false] rfl rfl (any_of HT_.out (by kernel_rfl)) (fun _ _ _ h => h) (Or.inl ⟨by rfl,?_⟩) ?_ ?_
   rotate_left
   ·intro w'
    go_simp
    with_reducible rfl
   rotate_left
   ·simp only [Act.put,List.setIfInBounds_toArray,List.set_cons_zero,List.set_cons_succ,i64_w,i32_w]
    rfl
   refine last_ (i := 7) (N := (some 67)) #[true,true,true,true,true,true,true,true] rfl rfl (one_of HT_.out (by kernel_rfl)) (by decide) (fun K hK => ?_)
   refine call_ 80 #[.pointer (some ⟨p,0,none⟩),.int .u8 (x.toNat : Nat),.string (all.extract 2 E)] (by rfl) rfl au10 ?_
   refine (sc_carry hs3.at_ (hs3.room hr) hO.unmark x.toNat hxl (all.extract 2 E) (by rw [size_extract _ _ _ hE3];omega)).mono ?_
   rintro e w4 ⟨rfl,hs4⟩
   refine ⟨_,rfl,hK.out _ _ ?_⟩
   clear hK K
   refine norm_ (a' := ?_) ?_ ?_
   rotate_left
   ·show Act.put _ (some 67) _ = _
    simp only [Act.put,List.setIfInBounds_toArray,List.set_cons_zero,List.set_cons_succ,i64_w,i32_w]
    rfl
   have hs5 := hs3.then_ hs4
   clear hs3 hs4 hHeld
   refine done_ (done_of HT_.out (by kernel_rfl)) ?_
   clear HT_ HW_
   go_wp2
   first | refine bodyPost_ret (results_tmp rfl _ _ _) rfl ?_ | ((try simp only [Exit.inBlock,Exit.then]);refine bodyPost_ret (results_tmp rfl _ _ _) rfl ?_) | (go_wp2;refine bodyPost_ret (results_tmp rfl _ _ _) rfl ?_)
   exact ⟨by rw [hDH.out];rfl,by rw [hDH.out];exact hs5⟩
 ·have q3 : ((x1.toNat : Int) != 91) = true := by simp;omega
  have hD : s.escape all = ({ s with marks := false },2) := by unfold Sc.escape;rw [if_neg h1,if_neg h27,if_pos h91]
  have hDH := Lib.hid hD
  clear hD h91 hb1 h27
  go_enter Tryd.func63,Tryd.ntmps63
  go_wp2
  first | refine bodyPost_ret (results_tmp rfl _ _ _) rfl ?_ | ((try simp only [Exit.inBlock,Exit.then]);refine bodyPost_ret (results_tmp rfl _ _ _) rfl ?_) | (go_wp2;refine bodyPost_ret (results_tmp rfl _ _ _) rfl ?_)
  exact ⟨by rw [hDH.out];rfl,by rw [hDH.out];exact hs2⟩
end Go.Proofs.YtgdpnmikcopkmaaDoor.U
end
section
namespace Go.Proofs.YtgdpnmikcopkmaaDoor.U
open Go.RowKit Go.Proofs.YtgdpnmikcopkmaaDoor.Pu Go.Proofs.YtgdpnmikcopkmaaDoorW.PrintWords Go.Proofs.YtgdpnmikcopkmaaDoorW.PrintLast Go.Proofs.YtgdpnmikcopkmaaDoorW.PrintMore
set_option linter.unusedVariables false
set_option linter.unusedSimpArgs false
theorem ctl_8 (s : Sc) : s.control 8 = { s with full := false,marks := false,c := s.c - 1 } := by unfold Sc.control;rw [if_pos rfl]
theorem ctl_10 (s : Sc) : s.control 10 = ({ s with full := false,marks := false } : Sc).down := by unfold Sc.control;dsimp only;rw [if_neg (by decide),if_pos rfl]
theorem ctl_13 (s : Sc) : s.control 13 = { s with full := false,marks := false,c := 0 } := by unfold Sc.control;dsimp only;rw [if_neg (by decide),if_neg (by decide),if_pos rfl]
theorem ctl_else (s : Sc) (b : Nat) (h8 : b ≠ 8) (h10 : b ≠ 10) (h13 : b ≠ 13) : s.control b = { s with full := false,marks := false } := by unfold Sc.control;dsimp only;rw [if_neg h8,if_neg h10,if_neg h13]
set_option maxRecDepth 100000 in
set_option maxHeartbeats 4000000 in
theorem sc_control {base p : Nat} {ok : Nat → Prop} {W : World} {s : Sc} {hd : ByteArray} (h : ScrAt base p ok W s hd) (hr : Room base ok W) (hO : s.Ok) (b : Nat) (hb : b < 256) :
  Calls Tryd.prog 64 #[.pointer (some ⟨p,0,none⟩),.int .u8 b] W fun e w' => e = .returned (.tuple #[]) ∧ Stp base p ok W w' (s.control b) hd := by
 have hs := Stp.start h
 obtain ⟨rv,⟨c0,c1,c2,c3,c4,c5,c6,c7,c8,c9⟩,hS⟩ := h.cells
 have g5 := hs.at_.frozen 5
 have g8 := hs.at_.frozen 8
 have o3 := hO.h1
 have o4 := hO.h2
 have o5 := hO.rl
 have o6 := hO.rh
 have o7 := hO.cw
 have o8 := hO.w2
 have hs2 := (hs.put (hd' := hd) (s' := { s with full := false }) 5 (.bool false) rfl (fun _ => rfl)).put (hd' := hd) (s' := { s with full := false,marks := false }) 8 (.bool false) rfl (fun _ => rfl)
 by_cases h8 : b = 8
 ·subst h8
  have hD := Lib.hid (ctl_8 s)
  go_enter Tryd.func64,Tryd.ntmps64
  go_upto_region 1 with (fail)
  generalize (W.setCell ⟨p,5,none⟩ (.bool false)).setCell ⟨p,8,none⟩ (.bool false) = w2 at hs2 ⊢
  clear hs hS c0 c1 c2 c3 c4 c5 c6 c7 c8 c9 g5 g8
  obtain ⟨rv,⟨_,_,_,_,c4,_⟩,_⟩ := hs2.at_.cells
  have g4 := hs2.at_.frozen 4
  dsimp only at c4
  have hw : IntKind.i64.wrap ((s.c : Int) - 1) = (s.c : Int) - 1 := wrapN (by omega) (by omega)
  have hs3 := hs2.put (hd' := hd) (s' := { s with full := false,marks := false,c := s.c - 1 }) 4 (.int .i64 (max ((s.c : Int) - 1) 0)) rfl (fun _ => by simp;omega)
  go_wp2
  refine bodyPost_end (results_none rfl _ _ _) rfl ?_
  exact ⟨rfl,by rw [hD.out];exact hs3⟩
 by_cases h10 : b = 10
 ·subst h10
  have hD := Lib.hid (ctl_10 s)
  go_enter Tryd.func64,Tryd.ntmps64
  go_upto_region 1 with (fail)
  generalize (W.setCell ⟨p,5,none⟩ (.bool false)).setCell ⟨p,8,none⟩ (.bool false) = w2 at hs2 ⊢
  clear hs hS c0 c1 c2 c3 c4 c5 c6 c7 c8 c9 g5 g8
  go_wp2_with (go_at_call 81;refine (sc_down hs2.at_ (hs2.room hr) o3 o4 (by dsimp only;omega) o5).mono ?_;rintro e w3 ⟨rfl,hs3⟩)
  refine bodyPost_end (results_none rfl _ _ _) rfl ?_
  exact ⟨rfl,by rw [hD.out];exact hs2.then_ hs3⟩
 by_cases h13 : b = 13
 ·subst h13
  have hD := Lib.hid (ctl_13 s)
  go_enter Tryd.func64,Tryd.ntmps64
  go_upto_region 1 with (fail)
  generalize (W.setCell ⟨p,5,none⟩ (.bool false)).setCell ⟨p,8,none⟩ (.bool false) = w2 at hs2 ⊢
  clear hs hS c0 c1 c2 c3 c4 c5 c6 c7 c8 c9 g5 g8
  obtain ⟨rv,⟨_,_,_,_,c4,_⟩,_⟩ := hs2.at_.cells
  have g4 := hs2.at_.frozen 4
  have hs3 := hs2.put (hd' := hd) (s' := { s with full := false,marks := false,c := 0 }) 4 (.int .i64 0) rfl (fun _ => rfl)
  go_wp2
  refine bodyPost_end (results_none rfl _ _ _) rfl ?_
  exact ⟨rfl,by rw [hD.out];exact hs3⟩
 ·have hD := Lib.hid (ctl_else s b h8 h10 h13)
  have q8 : ((b : Int) == 8) = false := by simp;omega
  have q10 : ((b : Int) == 10) = false := by simp;omega
  have q13 : ((b : Int) == 13) = false := by simp;omega
  go_enter Tryd.func64,Tryd.ntmps64
  go_upto_region 1 with (fail)
  generalize (W.setCell ⟨p,5,none⟩ (.bool false)).setCell ⟨p,8,none⟩ (.bool false) = w2 at hs2 ⊢
  clear hs hS c0 c1 c2 c3 c4 c5 c6 c7 c8 c9 g5 g8
  go_wp2
  refine bodyPost_end (results_none rfl _ _ _) rfl ?_
  exact ⟨rfl,by rw [hD.out];exact hs2⟩
end Go.Proofs.YtgdpnmikcopkmaaDoor.U
end
section
namespace Go.Proofs.YtgdpnmikcopkmaaDoor.U
open Go.RowKit Go.Proofs.YtgdpnmikcopkmaaDoor.Pu Go.Proofs.YtgdpnmikcopkmaaDoorW.PrintWords Go.Proofs.YtgdpnmikcopkmaaDoorW.PrintLast Go.Proofs.YtgdpnmikcopkmaaDoorW.PrintMore
set_option linter.unusedVariables false
set_option linter.unusedSimpArgs false
/-- A row that is held outside its slot i: v,its cells L;the slot still says v0. -/
structure RowIn (base p g cap i : Nat) (ok okT : Nat → Prop) (W w : World) (s : Sc) (hd : ByteArray) (v0 v : Value) (L : List Cl) : Prop where
 hdr : Hdr base p ok W w s hd
 c2 : w.cell? ⟨p,2,none⟩ = some (.slice (some ⟨g,0,none⟩) s.rows.length cap)
 hole : Kd.H kRow 36 w base ok (.slice (some ⟨g,0,none⟩) s.rows.length cap) s.rows (i : Int) okT [v0]
 row : RowAt base okT w v L
 sub : ∀ k,okT k → ok k ∧ k ≠ g
 lt : i < s.rows.length
section
variable {base p g cap i : Nat} {ok okT : Nat → Prop} {W w w1 : World} {s : Sc} {hd : ByteArray} {v0 v v1 : Value} {L L1 : List Cl}
theorem RowIn.ownT (h : RowIn base p g cap i ok okT W w s hd v0 v L) (k : Nat) (hk : v.ownBlock = some k) : okT k := h.row.1 k hk
theorem RowIn.ne (h : RowIn base p g cap i ok okT W w s hd v0 v L) (k : Nat) (hk : v.ownBlock = some k) : k ≠ p := fun he => h.hdr.ne (he ▸ (h.sub k (h.ownT k hk)).1)
theorem RowIn.more (h : RowIn base p g cap i ok okT W w s hd v0 v L) (hb : Below w.heap.size w w1) (hbs : base ≤ W.heap.size) : RowIn base p g cap i ok okT W w1 s hd v0 v L :=
 ⟨h.hdr.more hb hbs,cell_below h.c2 hb,Kd.H_below h.hole hb,Kd.R_below h.row hb,h.sub,h.lt⟩
theorem RowIn.grown (h : RowIn base p g cap i ok okT W w s hd v0 v L) (hg : w.grownBy w1 v.ownBlock) (hR : RowAt base okT w1 v1 L1) (hbs : base ≤ W.heap.size) : RowIn base p g cap i ok okT W w1 s hd v0 v1 L1 := by
 refine ⟨h.hdr.grown hg (fun k hk => ⟨(h.sub k (h.ownT k hk)).1,Kd.R_base h.row k hk⟩) hbs,?_,Kd.H_grown h.hole hg (fun k hk => h.ownT k hk),hR,h.sub,h.lt⟩
 have h1 := hg.block p (World.block_lt_of_cell? w _ h.c2) (fun he => h.ne p he.symm rfl)
 have h2 := h.c2
 simpa [World.cell?,h1] using h2
theorem RowIn.kept (h : RowIn base p g cap i ok okT W w s hd v0 v L) {gr : Nat} (hv : v.ownBlock = some gr) (hk : Kept w w1 (fun k => k = gr)) (hB : Below base w w1) (hR : RowAt base okT w1 v1 L1) : RowIn base p g cap i ok okT W w1 s hd v0 v1 L1 :=
 ⟨h.hdr.held_ hk hB (fun k he => by subst he;exact (h.sub _ (h.ownT _ hv)).1),kept_cell h.c2 hk (fun he => h.ne gr hv (Eq.symm he)),Kd.H_kept h.hole hk (fun k _ hn he => by subst he;exact hn (h.ownT _ hv)),hR,h.sub,h.lt⟩
theorem RowIn.back (h : RowIn base p g cap i ok okT W w s hd v0 v L) (hbs : ok g ∧ base ≤ g) : Stp base p ok W (w.setCell ⟨g,i,none⟩ v) { s with rows := s.rows.set i L } hd :=
 h.hdr.slot h.c2 hbs (row_back h.hole h.lt rfl h.row)
theorem RowIn.slot (h : RowIn base p g cap i ok okT W w s hd v0 v L) : w.cell? ⟨g,i,none⟩ = some v0 ∧ w.frozen? ⟨g,i,none⟩ = false := by
 obtain ⟨h1,h2⟩ := Kd.H_at h.hole (by omega) (by have := h.lt;omega)
 have h3 := h1 0 _ rfl
 have h4 := h2 0
 have hz : (kRow).sz = 1 := rfl
 rw [hz,Nat.mul_one,Nat.add_zero,Int.toNat_natCast] at h3 h4
 exact ⟨h3,h4⟩
/-- A row is taken out of its slot. -/
theorem Stp.take_out' (h : Stp base p ok W w s hd) (hr : ∀ k,w.heap.size ≤ k → ok k) (i : Nat) (hi : i < s.rows.length) : ∃ (g cap : Nat) (okT : Nat → Prop) (A : Option Addr) (c : Nat),RowIn base p g cap i ok okT W w s hd (.slice A (s.rows.getD i []).length c) (.slice A (s.rows.getD i []).length c) (s.rows.getD i []) ∧ (∀ k,w.heap.size ≤ k → okT k) ∧ (ok g ∧ base ≤ g) ∧ (s.rows.getD i []).length ≤ c ∧ s.rows.length ≤ cap := by
 obtain ⟨rv,⟨_,_,c2,_⟩,hS⟩ := h.at_.cells
 obtain ⟨g,cap,rfl,hg0,hglt,cells,hgc⟩ := Kd.S_form hS (by omega)
 have hgk := own_in hS g rfl
 have hcp := (Kd.S_reads' hS).2.1
 obtain ⟨oki,A,c,hIR,r0,rf,hoki,hH⟩ := row_of hS i hi
 refine ⟨g,cap,fun k => oki k ∨ ok k ∧ w.heap.size ≤ k,A,c,⟨h.hdr,c2,Kd.H_widen hH,Kd.R_mono hIR (fun k hk => .inl hk),fun k hk => ?_,hi⟩,fun k hk => .inr ⟨hr k hk,hk⟩,hgk,(Kd.R_reads' hIR).2.1,hcp⟩
 rcases hk with hk | hk
 ·exact hoki k hk
 ·exact ⟨hk.1,fun he => by subst he;omega⟩
/-- A row is taken out of its slot. -/
theorem Stp.take_out (h : Stp base p ok W w s hd) (hr : Room base ok W) (i : Nat) (hi : i < s.rows.length) : ∃ (g cap : Nat) (okT : Nat → Prop) (A : Option Addr) (c : Nat),RowIn base p g cap i ok okT W w s hd (.slice A (s.rows.getD i []).length c) (.slice A (s.rows.getD i []).length c) (s.rows.getD i []) ∧ (∀ k,w.heap.size ≤ k → okT k) ∧ (ok g ∧ base ≤ g) ∧ (s.rows.getD i []).length ≤ c ∧ s.rows.length ≤ cap :=
 h.take_out' (h.room hr).fr i hi
end
/-- How many rows a screen has,as its pointer says. -/
def lenAt (p : Nat) (w : World) : Nat :=
 match w.cell? ⟨p,2,none⟩ with
 | some (.slice _ n _) => n
 | _ => 0
theorem lenAt_eq {base p : Nat} {ok : Nat → Prop} {W w : World} {s : Sc} {hd : ByteArray} (h : Stp base p ok W w s hd) : lenAt p w = s.rows.length := by
 obtain ⟨rv,⟨_,_,c2,_⟩,hS⟩ := h.at_.cells
 obtain ⟨A,c,rfl⟩ := Kd.R_slice (Kd.S_R hS)
 unfold lenAt
 rw [c2]
theorem padR_more (rows : List (List Cl)) (r j : Nat) (h : j = 0 ∨ rows.length + j ≤ r + 1) (h2 : ¬ rows.length + j ≤ r) : rows ++ List.replicate j [] = padR rows (r + 1) := by
 unfold padR
 congr 2
 omega
theorem rep_snoc {α : Type} (xs : List α) (x : α) (j : Nat) : xs ++ List.replicate j x ++ [x] = xs ++ List.replicate (j + 1) x := by
 rw [List.append_assoc,List.replicate_succ',]
theorem rep_len {α : Type} (xs : List α) (x : α) (j : Nat) : (xs ++ List.replicate j x).length = xs.length + j := by simp
theorem ahead_wrap (s : Sc) (span : Nat) (h : s.full = true ∨ (span = 2 ∧ s.c + 1 = s.w)) : s.ahead span = { s.down with c := 0,full := false } := by unfold Sc.ahead;rw [if_pos h]
theorem ahead_same (s : Sc) (span : Nat) (h : ¬ (s.full = true ∨ (span = 2 ∧ s.c + 1 = s.w))) : s.ahead span = s := by unfold Sc.ahead;rw [if_neg h]
end Go.Proofs.YtgdpnmikcopkmaaDoor.U
end
section
namespace Go.Proofs.YtgdpnmikcopkmaaDoor.U
open Go.RowKit Go.Proofs.YtgdpnmikcopkmaaDoor.Pu Go.Proofs.YtgdpnmikcopkmaaDoorW.PrintWords Go.Proofs.YtgdpnmikcopkmaaDoorW.PrintLast Go.Proofs.YtgdpnmikcopkmaaDoorW.PrintMore
set_option linter.unusedVariables false
set_option linter.unusedSimpArgs false
theorem padC_more (L : List Cl) (n j : Nat) (h : j = 0 ∨ L.length + j ≤ n) (h2 : ¬ L.length + j < n) : L ++ List.replicate j blC = padC L n := by
 unfold padC
 congr 2
 omega
/-- The first k cells from col on lose their other halves. -/
def clrK (row : List Cl) (col : Nat) : Nat → List Cl
 | 0 => row
 | k + 1 => clrH (clrK row col k) (col + k)
theorem clrK_len (row : List Cl) (col : Nat) : ∀ k,(clrK row col k).length = row.length
 | 0 => rfl
 | k + 1 => by unfold clrK;rw [clrH_length,clrK_len row col k]
theorem clear_half_n {base g n cap : Nat} {ok : Nat → Prop} {W : World} {row : List Cl} {col : Nat} (hR : RowAt base ok W (.slice (some ⟨g,0,none⟩) n cap) row) (hb : base ≤ W.heap.size) (hl : n ≤ 1099511627776) (hc : col < n) {ci : Int} (hci : ci = (col : Int)) :
  Calls Tryd.prog 86 #[.slice (some ⟨g,0,none⟩) n cap,.int .i64 ci] W fun e w' => e = .returned (.tuple #[]) ∧ RowAt base ok w' (.slice (some ⟨g,0,none⟩) n cap) (clrH row col) ∧ Below base W w' ∧ Kept W w' (fun k => k = g) := by
 obtain rfl : n = row.length := (Kd.R_reads' hR).1
 subst hci
 exact clear_half hR hb hl hc
theorem putC_eq (L : List Cl) (c span : Nat) (t : ByteArray) (h : span = 1 ∨ span = 2) : putC L c span t = if span = 2 then ((clrK (padC L (c + span)) c span).set c (⟨t,(span : Int)⟩ : Cl)).set (c + 1) noC else (clrK (padC L (c + span)) c span).set c ⟨t,(span : Int)⟩ := by
 unfold putC
 dsimp only
 rcases h with rfl | rfl
 ·rw [if_neg (by decide),if_neg (by decide),if_neg (by decide)];rfl
 ·rw [if_pos rfl,if_pos rfl,if_pos rfl];rfl
def lenOf : Value → Nat
 | .slice _ n _ => n
 | _ => 0
/-- What is written where the pen stands. -/
def _root_.Go.Proofs.YtgdpnmikcopkmaaDoor.Pu.Sc.wrote (A : Sc) (t : ByteArray) (span : Nat) : Sc :=
 if A.w ≤ A.c + span then { A with rows := (padR A.rows (A.r + 1)).set A.r (putC ((padR A.rows (A.r + 1)).getD A.r []) A.c span t),lr := A.r,lc := A.c,marks := true,c := A.w - 1,full := true }
 else { A with rows := (padR A.rows (A.r + 1)).set A.r (putC ((padR A.rows (A.r + 1)).getD A.r []) A.c span t),lr := A.r,lc := A.c,marks := true,c := A.c + span }
theorem write_ahead (s : Sc) (t : ByteArray) (span : Nat) : s.write t span = if s.w ≤ (s.ahead span).c + span then ({ s.ahead span with rows := (padR (s.ahead span).rows ((s.ahead span).r + 1)).set (s.ahead span).r (putC ((padR (s.ahead span).rows ((s.ahead span).r + 1)).getD (s.ahead span).r []) (s.ahead span).c span t),lr := (s.ahead span).r,lc := (s.ahead span).c,marks := true,c := s.w - 1,full := true } : Sc)
   else { s.ahead span with rows := (padR (s.ahead span).rows ((s.ahead span).r + 1)).set (s.ahead span).r (putC ((padR (s.ahead span).rows ((s.ahead span).r + 1)).getD (s.ahead span).r []) (s.ahead span).c span t),lr := (s.ahead span).r,lc := (s.ahead span).c,marks := true,c := (s.ahead span).c + span } := rfl
def wr16.T : Bool × List (List Nat × List Nat) := (true,[([],[]),([0],[0]),([1],[1]),([2],[2]),([],[]),([4],[4]),([5],[5]),([6],[6]),([7],[7]),([],[]),([3,8,0,1,2,3,4,5,6,7,8,9],[3,8]),([10,9,0,1,2,3,4,5,6,7,8,9],[9,10])])
def wr16.B : List Nat := [0,1,3,7,0,16,48,112,240,0,1023,2047]
theorem wr16.tab : rtab .any (opsOf Tryd.f67 16) = wr16.T := by kernel_rfl
theorem wr16.bits : waitsOk wr16.T.2 wr16.B = true := by kernel_rfl
set_option maxRecDepth 100000 in
set_option maxHeartbeats 8000000 in
theorem sc_write {base p : Nat} {ok : Nat → Prop} {W : World} {s : Sc} {hd : ByteArray} (h : ScrAt base p ok W s hd) (hr : Room base ok W) (hO : s.Ok) (t : ByteArray) (span : Nat) (h1 : 1 ≤ span) (h2 : span ≤ 2) (hw : span ≤ s.w) :
  Calls Tryd.prog 67 #[.pointer (some ⟨p,0,none⟩),.string t,.int .i64 span] W fun e w' => e = .returned (.tuple #[]) ∧ Stp base p ok W w' (s.write t span) hd := by
 have hs := Stp.start h
 obtain ⟨rv,⟨c0,c1,c2,c3,c4,c5,c6,c7,c8,c9⟩,hS⟩ := h.cells
 have o1 := hO.w1
 have o2 := hO.w2
 have o3 := hO.h1
 have o4 := hO.h2
 have o5 := hO.rl
 have o6 := hO.rh
 have o7 := hO.cw
 have hwr : IntKind.i64.wrap ((s.w : Int) - 1) = (s.w : Int) - 1 := wrapN (by omega) (by omega)
 go_enter Tryd.func67,Tryd.ntmps67
 refine wp_seq_k (fun K1 hK1 => ?_)
 go_cut [2] from 9 to 38 (fun v2 w1 => v2 = .int .i64 span ∧ Stp base p ok W w1 (s.ahead span) hd)
 case first =>
  by_cases hf : s.full = true
  ·have hA := Lib.hid (ahead_wrap s span (.inl hf))
   go_upto_region 0 with (fail)
   go_quiet (fail)
   have hs1 := hs.drewN hr.bs nq
   generalize W.drewN nq = w1 at hs1 ⊢
   clear hs hS c0 c1 c2 c3 c4 c5 c6 c7 c8 c9
   go_upto_region 2 with (go_at_call 81;refine (sc_down hs1.at_ (hs1.room hr) o3 o4 (by omega) o5).mono ?_;rintro e w2 ⟨rfl,hs2⟩)
   have hs3 := hs1.then_ hs2
   clear hs1 hs2
   obtain ⟨rv,⟨_,_,_,_,c4,c5,_⟩,hS⟩ := hs3.at_.cells
   have g4 := hs3.at_.frozen 4
   have g5 := hs3.at_.frozen 5
   go_wp2
   go_meet
   case rel => refine ⟨by first | rfl | (rw [hsp];rfl),?_⟩;rw [hA.out];exact (hs3.put (s' := { s.down with c := 0 }) 4 (.int .i64 0) rfl (fun _ => rfl)).put (s' := { s.down with c := 0,full := false }) 5 (.bool false) rfl (fun _ => rfl)
  ·have hf' : s.full = false := by cases hq : s.full with | true => exact absurd hq hf | false => rfl
   by_cases hsp : span = 2
   ·by_cases hcw : s.c + 1 = s.w
    ·have hA := Lib.hid (ahead_wrap s span (.inr ⟨hsp,hcw⟩))
     have hq2 : ((s.c : Int) == (s.w : Int) - 1) = true := by simp;omega
     have hsp' : ((span : Int) == 2) = true := by simp;omega
     go_upto_region 0 with (fail)
     go_quiet (fail)
     have hs1 := hs.drewN hr.bs nq
     generalize W.drewN nq = w1 at hs1 ⊢
     clear hs hS c0 c1 c2 c3 c4 c5 c6 c7 c8 c9
     go_upto_region 2 with (go_at_call 81;refine (sc_down hs1.at_ (hs1.room hr) o3 o4 (by omega) o5).mono ?_;rintro e w2 ⟨rfl,hs2⟩)
     have hs3 := hs1.then_ hs2
     clear hs1 hs2
     obtain ⟨rv,⟨_,_,_,_,c4,c5,_⟩,hS⟩ := hs3.at_.cells
     have g4 := hs3.at_.frozen 4
     have g5 := hs3.at_.frozen 5
     go_wp2
     go_meet
     case rel => refine ⟨by first | rfl | (rw [hsp];rfl),?_⟩;rw [hA.out];exact (hs3.put (s' := { s.down with c := 0 }) 4 (.int .i64 0) rfl (fun _ => rfl)).put (s' := { s.down with c := 0,full := false }) 5 (.bool false) rfl (fun _ => rfl)
    ·have hA := Lib.hid (ahead_same s span (by rw [hf'];simp;omega))
     have hq2 : ((s.c : Int) == (s.w : Int) - 1) = false := by simp;omega
     have hsp' : ((span : Int) == 2) = true := by simp;omega
     go_upto_region 0 with (fail)
     go_quiet (fail)
     have hs1 := hs.drewN hr.bs nq
     generalize W.drewN nq = w1 at hs1 ⊢
     go_wp2
     go_meet
     case rel => refine ⟨by first | rfl | (rw [hsp];rfl),?_⟩;rw [hA.out];exact hs1
   ·have hA := Lib.hid (ahead_same s span (by rw [hf'];simp;omega))
    have hsp' : ((span : Int) == 2) = false := by simp;omega
    go_upto_region 0 with (fail)
    go_quiet (fail)
    have hs1 := hs.drewN hr.bs nq
    generalize W.drewN nq = w1 at hs1 ⊢
    go_wp2
    go_meet
    case rel => refine ⟨by first | rfl | (rw [hsp];rfl),?_⟩;rw [hA.out];exact hs1
 case rest =>
  clear hs hS c0 c1 c2 c3 c4 c5 c6 c7 c8 c9
  obtain ⟨rfl,hs1⟩ := hcut
  obtain ⟨hA,eA,fA,lA⟩ := hO.ahead span
  have a1 := lA h2 hw h1
  have a2 := hA.rh
  have a3 := hA.rl
  have a4 := hA.h2
  have a5 := hA.w2
  have a6 := hA.cl
  have a7 := hA.w1
  dsimp only at a2 a3 a4 a5 a6 a7
  have hD : s.write t span = Sc.wrote (s.ahead span) t span := by rw [write_ahead,← eA];rfl
  generalize s.ahead span = A at hs1 hD a1 a2 a3 a4 a5 a6 a7 eA
  have hDD := Lib.hid hD
  rw [← eA] at a1
  clear hD hA fA lA eA hO o1 o2 o3 o4 o5 o6 o7 hwr hw
  go_upto_block 0 with (fail)
  go_cut [] from 9 to 58 (fun w2 => Stp base p ok W w2 { A with rows := padR A.rows (A.r + 1) } hd)
  case first =>
   go_wp2_with (fail)
   go_loopw [] (fun wr => ∃ j : Nat,Stp base p ok W wr { A with rows := A.rows ++ List.replicate j [] } hd ∧ (j = 0 ∨ A.rows.length + j ≤ A.r + 1))
    (fun wr => A.r + 1 - lenAt p wr)
   case atStart => exact ⟨0,by rw [List.replicate_zero,List.append_nil];exact hs1,.inl rfl⟩
   case round =>
    obtain ⟨j,hsj,hj⟩ := hrel
    clear hs1
    have hLA := Lib.hid (lenAt_eq hsj)
    have hll : (A.rows ++ List.replicate j ([] : List Cl)).length = A.rows.length + j := rep_len _ _ _
    obtain ⟨rv,⟨_,_,c2,c3,_⟩,hS⟩ := hsj.at_.cells
    obtain ⟨A1,cc1,rfl⟩ := Kd.R_slice (Kd.S_R hS)
    by_cases hlt : A.rows.length + j ≤ A.r
    ·have hlt' := eq_true (show ((A.rows.length + j : Nat) : Int) ≤ (A.r : Int) by omega)
     rw [hll] at c2
     go_upto_region 3 with (fail)
     go_quiet (fail)
     have hs3 := hsj.drewN hr.bs nq
     generalize wr.drewN nq = w3 at hs3 ⊢
     clear hS c2 c3
     obtain ⟨rv,⟨_,_,c2,c3,_⟩,hS⟩ := hs3.at_.cells
     obtain ⟨A1,cc1,rfl⟩ := Kd.R_slice (Kd.S_R hS)
     dsimp only at hS c2
     rw [hll] at hS c2
     have hr3 := hs3.room hr
     go_wp2_with ((with_reducible refine gate_builtin (b := .append) (xs := #[.tmp 54,.tmp 55]) rfl ?_);at_builtin;(refine Kd.S_append kRow (w0 := W) base rfl (.tmp 54) (.tmp 55) 22 36 (.slice none 0 0) 24 rfl Tryd.underlying22 info36 rfl (by decide) (by decide) _ (A.rows ++ List.replicate j []) [] [.slice none 0 0] ok (fun _ => False) rfl rfl (Kd.M_row (Kd.R_nil _ _ _ _ _)) (fun _ hk => hk.elim) (fun k hk => hr3.fr k hk) (Kd.S_mono hS (fun k hk => ⟨hk,fun h => h⟩)) hs3.below hr3.bs (by rw [hll];omega) ?_;intro v4 w4 hS4 hB4 hg4 hat4;have hh4 := hs3.hdr.grown hg4 (own_in hS) hr.bs;obtain ⟨A4,c4,rfl⟩ := Kd.R_slice (Kd.S_R hS4);obtain ⟨rv4,⟨_,_,e2,_⟩⟩ := hh4.cells;have g2 := hh4.frozen 2))
     have hs5 := hh4.rows _ _ hS4
     rw [rep_snoc] at hs5
     have hLB := lenAt_eq hs5
     rw [show (A.rows ++ List.replicate (j + 1) ([] : List Cl)).length = A.rows.length + (j + 1) from rep_len _ _ _] at hs5 hLB
     go_roundw
     case rel => exact ⟨j + 1,hs5,.inr (by omega)⟩
     case measure => rw [hLB,hLA.out];dsimp only;rw [hll];omega
    ·have hlt' := eq_false (show ¬ ((A.rows.length + j : Nat) : Int) ≤ (A.r : Int) by omega)
     rw [hll] at c2
     rw [padR_more A.rows A.r j hj hlt] at hsj
     go_upto_region 3 with (fail)
     go_quiet (fail)
     have hs3 := hsj.drewN hr.bs nq
     generalize wr.drewN nq = w3 at hs3 ⊢
     go_wp2
     go_meet
     case rel => exact hs3
  case rest =>
   clear hs1
   have hpl : (padR A.rows (A.r + 1)).length = max A.rows.length (A.r + 1) := padR_length _ _
   have hpr : ∀ row ∈ padR A.rows (A.r + 1),row.length ≤ A.w := fun row hq => by
    unfold padR at hq
    rcases List.mem_append.1 hq with hq | hq
    ·exact a6 row hq
    ·rw [(List.mem_replicate.1 hq).2];exact Nat.zero_le _
   generalize hPR : padR A.rows (A.r + 1) = PR at hcut hpl hpr
   have hPH := Lib.hid hPR
   clear hPR
   have hrl : A.r < PR.length := by omega
   have hPm : (PR.getD A.r []).length ≤ A.w := by
    refine hpr _ ?_
    rw [List.getD_eq_getElem?_getD,List.getElem?_eq_getElem hrl]
    exact List.getElem_mem _
   obtain ⟨g,cap,okT,A1,c1,hI,hfT,hgk,hc1,hcap⟩ := hcut.take_out hr A.r hrl
   dsimp only at hI hc1 hcap
   generalize hL0 : PR.getD A.r [] = L0 at hI hc1 hPm
   have hLH := Lib.hid hL0
   clear hL0 hcut
   obtain ⟨rv,⟨d0,d1,d2,d3,d4,_⟩⟩ := hI.hdr.cells
   clear d2
   have e2 := hI.c2
   dsimp only at d0 d1 d3 d4 e2
   have e3 := hI.slot.1
   have hrl' : (A.r : Int) < (PR.length : Int) := by omega
   go_upto_region 5 with (fail)
   go_quiet (fail)
   have hI1 := hI.more (pw_below_drewN (Below.refl _ _) nq) hr.bs
   have hfT1 : ∀ k,(wc.drewN nq).heap.size ≤ k → okT k := hfT
   generalize wc.drewN nq = w1 at hI1 hfT1 ⊢
   clear hI d0 d1 d3 d4 e2 e3 hfT
   go_upto_block 2 with (fail)
   go_cut [6] from 9 to 84 (fun v6 w2 => RowIn base p g cap A.r ok okT W w2 { A with rows := PR } hd (.slice A1 L0.length c1) v6 (padC L0 (A.c + span)) ∧ ∀ k,w2.heap.size ≤ k → okT k)
   case first =>
    go_wp2_with (fail)
    go_loopw [6] (fun v6 wr => ∃ j : Nat,RowIn base p g cap A.r ok okT W wr { A with rows := PR } hd (.slice A1 L0.length c1) v6 (L0 ++ List.replicate j blC) ∧ (j = 0 ∨ L0.length + j ≤ A.c + span) ∧ ∀ k,wr.heap.size ≤ k → okT k)
     (fun v6 _ => A.c + span - lenOf v6)
    case atStart => exact ⟨0,by rw [List.replicate_zero,List.append_nil];exact hI1,.inl rfl,hfT1⟩
    case round =>
     obtain ⟨j,hIj,hj,hfj⟩ := hrel
     clear hI1 hfT1
     obtain ⟨A2,c2,rfl⟩ := Kd.R_slice hIj.row
     have hll : (L0 ++ List.replicate j blC).length = L0.length + j := rep_len _ _ _
     rw [hll] at hIj ⊢
     by_cases hlt : L0.length + j < A.c + span
     ·have hlt' := eq_true (show ((L0.length + j : Nat) : Int) < (A.c : Int) + (span : Int) by omega)
      go_wp2_with (first | (go_at_call 55;refine (screen_blank.calls _ _ _ blank_eq).mono ?_;rintro e w3 ⟨rfl,hb3⟩;have hI3 := hIj.more hb3 hr.bs;have hf3 := (fun k (hk : w3.heap.size ≤ k) => hfj k (Nat.le_trans hb3.size hk));clear hIj hb3) | ((with_reducible refine gate_builtin (b := .append) (xs := #[.tmp 81,.tmp 83]) rfl ?_);at_builtin;(refine Kd.R_append k38 (w0 := W) base rfl (.tmp 81) (.tmp 83) 36 38 (.agg #[.string ⟨#[]⟩,.int .i64 0]) 24 rfl Tryd.underlying36 info38 rfl (by decide) (by decide) (.slice A2 (L0.length + j) c2) (L0 ++ List.replicate j blC) blC [.string blC.f0,.int .i64 blC.f1] okT (fun _ => False) rfl rfl (k38_mkM _ _ _ blC) (fun _ hk => hk.elim) (fun k hk => hf3 k hk) hI3.row hI3.hdr.below (Nat.le_trans hr.bs hI3.hdr.kept.1) (by rw [hll];omega) ?_;intro v4 w4 hR4 hB4 hg4 hat4;have hI4 := hI3.grown hg4 hR4 hr.bs;have hf4 := (fun k (hk : w4.heap.size ≤ k) => hf3 k (Nat.le_trans hg4.size hk));obtain ⟨A4,c4,rfl⟩ := Kd.R_slice hR4)))
      rw [rep_snoc] at hI4
      rw [show (L0 ++ List.replicate (j + 1) blC).length = L0.length + (j + 1) from rep_len _ _ _] at hI4
      go_roundw
      case rel => exact ⟨j + 1,hI4,.inr (by omega),hf4⟩
      case measure => dsimp only [lenOf];omega
     ·have hlt' := eq_false (show ¬ ((L0.length + j : Nat) : Int) < (A.c : Int) + (span : Int) by omega)
      rw [padC_more L0 (A.c + span) j hj hlt] at hIj
      go_wp2
      go_meet
      case rel => exact ⟨hIj,hfj⟩
   case rest =>
    clear hI1 hfT1
    obtain ⟨hI2,hf2⟩ := hcut
    have hPl : (padC L0 (A.c + span)).length = max L0.length (A.c + span) := padC_length _ _
    generalize hP : padC L0 (A.c + span) = P at hI2 hPl
    have hPH2 := Lib.hid hP
    clear hP
    have hPl1 : A.c + span ≤ P.length := by omega
    have hPl2 : P.length ≤ 65535 := by omega
    clear hPl
    obtain ⟨gr,c2,rfl,_,_,_,_⟩ := Kd.R_form hI2.row (by omega)
    go_upto_block 4 with (fail)
    go_cut [] from 8 to 94 (fun w3 => RowIn base p g cap A.r ok okT W w3 { A with rows := PR } hd (.slice A1 L0.length c1) (.slice (some ⟨gr,0,none⟩) P.length c2) (clrK P A.c span))
    case first =>
     go_wp2_with (fail)
     go_loopw [86] (fun v wr => ∃ k : Nat,v = .int .i64 k ∧ k ≤ span ∧ RowIn base p g cap A.r ok okT W wr { A with rows := PR } hd (.slice A1 L0.length c1) (.slice (some ⟨gr,0,none⟩) P.length c2) (clrK P A.c k))
      (fun v _ => span - (intOf v).toNat)
     case atStart => exact ⟨0,rfl,Nat.zero_le _,hI2⟩
     case round =>
      obtain ⟨k,rfl,hk,hIk⟩ := hrel
      clear hI2 hf2
      have hkl := clrK_len P A.c k
      have hbk : base ≤ wr.heap.size := Nat.le_trans hr.bs hIk.hdr.kept.1
      by_cases hlt : k < span
      ·have hlt' : (k : Int) < (span : Int) := by omega
       go_wp2_with (go_at_call 86;(with_reducible refine (clear_half_n (col := A.c + k) hIk.row hbk (by omega) (by omega) (by omega)).mono ?_);rintro e w4 ⟨rfl,hR4,hB4,hK4⟩;have hI4 := hIk.kept (gr := gr) rfl hK4 hB4 hR4)
       go_roundw
       case rel => exact ⟨k + 1,by go_num,by omega,hI4⟩
       case measure => simp [intOf];omega
      ·have hlt' := eq_false (show ¬ (k : Int) < (span : Int) by omega)
       have hke := Lib.hid (show k = span by omega)
       go_wp2
       go_meet
       case rel => rw [hke.out] at hIk;exact hIk
    case rest =>
     clear hI2
     have hQl := clrK_len P A.c span
     generalize hQ : clrK P A.c span = Q at hcut hQl
     have hQH := Lib.hid hQ
     clear hQ
     obtain ⟨x0,x1,y0,y1⟩ := row_cells hcut.row A.c (by omega)
     have hcl : (A.c : Int) < (P.length : Int) := by omega
     have hc2p := (Kd.R_reads' hcut.row).2.1
     have hRp := row_put hcut.row A.c (by omega) (⟨t,(span : Int)⟩ : Cl)
     have hgb : base ≤ gr := Kd.R_base hcut.row gr rfl
     obtain ⟨hBp,hKp⟩ := kept_put (base := base) (g := gr) A.c (.string t) (.int .i64 span) hgb (Below.refl base wc) (Kept.refl wc _)
     have hIp := hcut.kept (gr := gr) rfl hKp hBp hRp
     clear hRp hBp hKp
     go_upto_region 14 with (fail)
     have hIp : RowIn base p g cap A.r ok okT W ((wc.setCell ⟨gr,A.c * 2,none⟩ (.string t)).setCell ⟨gr,A.c * 2 + 1,none⟩ (.int .i64 span)) { A with rows := PR } hd (.slice A1 L0.length c1) (.slice (some ⟨gr,0,none⟩) P.length c2) (Q.set A.c ⟨t,span⟩) := hIp
     generalize (wc.setCell ⟨gr,A.c * 2,none⟩ (.string t)).setCell ⟨gr,A.c * 2 + 1,none⟩ (.int .i64 span) = w4 at hIp ⊢
     clear hcut x0 x1 y0 y1
     go_upto_if 102 with (fail)
     go_cut [2] from 8 to 107 (fun v2 w5 => v2 = .int .i64 span ∧ RowIn base p g cap A.r ok okT W w5 { A with rows := PR } hd (.slice A1 L0.length c1) (.slice (some ⟨gr,0,none⟩) P.length c2) (if span = 2 then (Q.set A.c ⟨t,span⟩).set (A.c + 1) noC else Q.set A.c ⟨t,span⟩))
     case first =>
      by_cases hsp : span = 2
      ·have hsp' : ((span : Int) == 2) = true := by simp;omega
       have hSH := Lib.hid hsp
       have hA2 : A.c + 1 < P.length := by omega
       clear hsp
       have hA3 : (A.c : Int) + 1 < (P.length : Int) := by omega
       obtain ⟨x0,x1,y0,y1⟩ := row_cells hIp.row (A.c + 1) (by rw [List.length_set];omega)
       have hRp := row_put hIp.row (A.c + 1) (by rw [List.length_set];omega) noC
       obtain ⟨hBp,hKp⟩ := kept_put (base := base) (g := gr) (A.c + 1) (.string noC.f0) (.int .i64 noC.f1) hgb (Below.refl base w4) (Kept.refl w4 _)
       have hIq := hIp.kept (gr := gr) rfl hKp hBp hRp
       clear hRp hBp hKp
       go_wp2
       go_meet
       case rel => refine ⟨by first | rfl | (rw [hSH.out];rfl),?_⟩;rw [if_pos hSH.out];exact hIq
      ·have hsp' : ((span : Int) == 2) = false := by simp;omega
       have hSH := Lib.hid hsp
       clear hsp
       go_wp2
       go_meet
       case rel => refine ⟨rfl,?_⟩;rw [if_neg hSH.out];exact hIp
     case rest =>
      clear hIp
      obtain ⟨rfl,hI5⟩ := hcut
      generalize hZ : (if span = 2 then (Q.set A.c (⟨t,span⟩ : Cl)).set (A.c + 1) noC else Q.set A.c ⟨t,span⟩) = Z at hI5
      have hZH := Lib.hid hZ
      clear hZ
      obtain ⟨rv5,⟨_,_,_,c3,_⟩⟩ := hI5.hdr.cells
      have c2' := hI5.c2
      dsimp only at c3 c2'
      clear hpl hQl
      go_upto_region 16 with (fail)
      refine start_ (n := 12) (S := fun w' => w'.cell? ⟨p,2,none⟩ = some (.slice (some ⟨g,0,none⟩) PR.length cap) ∧ w'.cell? ⟨p,3,none⟩ = some (.int .i64 A.r)) (ds := [11]) #[false,false,false,false,false,false,false,false,false,false,false,false] (by kernel_rfl) rfl rfl ⟨c2',c3⟩ (fun hHeld => ?_);refine with_tabW wr16.tab wr16.bits (fun HT_ HW_ => ?_)
      have hI6 := hI5.more (below_drew (Below.refl _ _)) hr.bs
      generalize wc.drew = w6 at hI6 hHeld ⊢
      clear hI5 c3 c2'
      refine pure_ (i := 0) (N := (some 108)) (v := ?_) (a' := ?_) #[true,false,false,false,false,false,false,false,false,false,false,false] rfl rfl (any_of HT_.out (by kernel_rfl)) (fun _ _ _ h => h) (Or.inl ⟨by rfl,?_⟩) ?_ ?_
      rotate_left
      ·intro w'
       go_simp
       with_reducible rfl
      rotate_left
      ·simp only [Act.put,List.setIfInBounds_toArray,List.set_cons_zero,List.set_cons_succ,i64_w,i32_w]
       rfl
      refine pure_ (i := 1) (N := (some 109)) (v := ?_) (a' := ?_) #[true,true,false,false,false,false,false,false,false,false,false,false] rfl rfl (any_of HT_.out (by kernel_rfl)) (fun _ _ _ h => h) (Or.inl ⟨by rfl,?_⟩) ?_ ?_
      rotate_left
      ·intro w'
       go_simp
       with_reducible rfl
      rotate_left
      ·simp only [Act.put,List.setIfInBounds_toArray,List.set_cons_zero,List.set_cons_succ,i64_w,i32_w]
       rfl
      refine pure_ (i := 2) (N := (some 110)) (v := ?_) (a' := ?_) #[true,true,true,false,false,false,false,false,false,false,false,false] rfl rfl (any_of HT_.out (by kernel_rfl)) (fun _ _ _ h => h) (Or.inl ⟨by rfl,?_⟩) ?_ ?_
      rotate_left
      ·intro w'
       go_simp
       with_reducible rfl
      rotate_left
      ·simp only [Act.put,List.setIfInBounds_toArray,List.set_cons_zero,List.set_cons_succ,i64_w,i32_w]
       rfl
      refine take_ (i := 3) (N := (some 111)) (v := ?_) (a' := ?_) #[true,true,true,true,false,false,false,false,false,false,false,false] rfl rfl (take_ofW HT_.out HW_.out (by kernel_rfl)) (fun _ _ _ h => h) (Or.inl ⟨by rfl,?_⟩) hHeld ?_ ?_
      rotate_left
      ·rintro w' ⟨s1,s2⟩
       go_simp
       with_reducible rfl
      rotate_left
      ·simp only [Act.put,List.setIfInBounds_toArray,List.set_cons_zero,List.set_cons_succ,i64_w,i32_w]
       rfl
      refine pure_ (i := 4) (N := (some 112)) (v := ?_) (a' := ?_) #[true,true,true,true,true,false,false,false,false,false,false,false] rfl rfl (any_of HT_.out (by kernel_rfl)) (fun _ _ _ h => h) (Or.inl ⟨by rfl,?_⟩) ?_ ?_
      rotate_left
      ·intro w'
       go_simp
       with_reducible rfl
      rotate_left
      ·simp only [Act.put,List.setIfInBounds_toArray,List.set_cons_zero,List.set_cons_succ,i64_w,i32_w]
       rfl
      refine pure_ (i := 5) (N := (some 113)) (v := ?_) (a' := ?_) #[true,true,true,true,true,true,false,false,false,false,false,false] rfl rfl (any_of HT_.out (by kernel_rfl)) (fun _ _ _ h => h) (Or.inl ⟨by rfl,?_⟩) ?_ ?_
      rotate_left
      ·intro w'
       go_simp
       with_reducible rfl
      rotate_left
      ·simp only [Act.put,List.setIfInBounds_toArray,List.set_cons_zero,List.set_cons_succ,i64_w,i32_w]
       rfl
      refine pure_ (i := 6) (N := (some 114)) (v := ?_) (a' := ?_) #[true,true,true,true,true,true,true,false,false,false,false,false] rfl rfl (any_of HT_.out (by kernel_rfl)) (fun _ _ _ h => h) (Or.inl ⟨by rfl,?_⟩) ?_ ?_
      rotate_left
      ·intro w'
       go_simp
       with_reducible rfl
      rotate_left
      ·simp only [Act.put,List.setIfInBounds_toArray,List.set_cons_zero,List.set_cons_succ,i64_w,i32_w]
       rfl
      refine pure_ (i := 7) (N := (some 115)) (v := ?_) (a' := ?_) #[true,true,true,true,true,true,true,true,false,false,false,false] rfl rfl (any_of HT_.out (by kernel_rfl)) (fun _ _ _ h => h) (Or.inl ⟨by rfl,?_⟩) ?_ ?_
      rotate_left
      ·intro w'
       go_simp
       with_reducible rfl
      rotate_left
      ·simp only [Act.put,List.setIfInBounds_toArray,List.set_cons_zero,List.set_cons_succ,i64_w,i32_w]
       rfl
      refine take_ (i := 8) (N := (some 116)) (v := ?_) (a' := ?_) #[true,true,true,true,true,true,true,true,true,false,false,false] rfl rfl (take_ofW HT_.out HW_.out (by kernel_rfl)) (fun _ _ _ h => h) (Or.inl ⟨by rfl,?_⟩) hHeld ?_ ?_
      rotate_left
      ·rintro w' ⟨s1,s2⟩
       go_simp
       with_reducible rfl
      rotate_left
      ·simp only [Act.put,List.setIfInBounds_toArray,List.set_cons_zero,List.set_cons_succ,i64_w,i32_w]
       rfl
      refine pure_ (i := 9) (N := (some 117)) (v := ?_) (a' := ?_) #[true,true,true,true,true,true,true,true,true,true,false,false] rfl rfl (any_of HT_.out (by kernel_rfl)) (fun _ _ _ h => h) (Or.inl ⟨by rfl,?_⟩) ?_ ?_
      rotate_left
      ·intro w'
       go_simp
       with_reducible rfl
      rotate_left
      ·simp only [Act.put,List.setIfInBounds_toArray,List.set_cons_zero,List.set_cons_succ,i64_w,i32_w]
       rfl
      refine pure_ (i := 10) (N := (some 118)) (v := ?_) (a' := ?_) #[true,true,true,true,true,true,true,true,true,true,true,false] rfl rfl (any_of HT_.out (by kernel_rfl)) (fun _ _ _ h => h) (Or.inl ⟨by rfl,?_⟩) ?_ ?_
      rotate_left
      ·intro w'
       go_simp
       with_reducible rfl
      rotate_left
      ·simp only [Act.put,List.setIfInBounds_toArray,List.set_cons_zero,List.set_cons_succ,i64_w,i32_w]
       rfl
      refine last_ (i := 11) (N := none) #[true,true,true,true,true,true,true,true,true,true,true,true] rfl rfl (one_of HT_.out (by kernel_rfl)) (by decide) (fun K hK => ?_)
      obtain ⟨e0,e1⟩ := hI6.slot
      refine skip_ (w1 := ?_) (by rfl) rfl ?_ ?_
      rotate_left
      ·go_simp
       rfl
      refine hK.out _ _ ?_
      clear hK K
      have hs6 := hI6.back hgk
      dsimp only at hs6
      generalize w6.setCell ⟨g,A.r,none⟩ (.slice (some ⟨gr,0,none⟩) P.length c2) = w7 at hs6 ⊢
      clear hI6 hHeld e0 e1
      refine done_ (done_of HT_.out (by kernel_rfl)) ?_
      clear HT_ HW_
      obtain ⟨rv,⟨_,_,_,c3,c4,c5,c6,c7,c8,_⟩,_⟩ := hs6.at_.cells
      have g6 := hs6.at_.frozen 6
      have g7 := hs6.at_.frozen 7
      have g8 := hs6.at_.frozen 8
      dsimp only at c3 c4 c5 c6 c7 c8
      go_upto_region 18 with (fail)
      have hs7 := ((hs6.put (s' := { A with rows := PR.set A.r Z,lr := A.r }) 6 (.int .i64 A.r) rfl (fun _ => rfl)).put (s' := { A with rows := PR.set A.r Z,lr := A.r,lc := A.c }) 7 (.int .i64 A.c) rfl (fun _ => rfl)).put (s' := { A with rows := PR.set A.r Z,lr := A.r,lc := A.c,marks := true }) 8 (.bool true) rfl (fun _ => rfl)
      generalize ((w7.setCell ⟨p,6,none⟩ (.int .i64 A.r)).setCell ⟨p,7,none⟩ (.int .i64 A.c)).setCell ⟨p,8,none⟩ (.bool true) = w8 at hs7 ⊢
      clear hs6 c3 c4 c5 c6 c7 c8 g6 g7 g8
      obtain ⟨rv,⟨_,_,_,_,c4,_⟩,_⟩ := hs7.at_.cells
      have g4 := hs7.at_.frozen 4
      dsimp only at c4
      go_upto_region 19 with (fail)
      have hs8 := hs7.put (hd' := hd) (s' := { A with rows := PR.set A.r Z,lr := A.r,lc := A.c,marks := true,c := A.c + span }) 4 (.int .i64 ((A.c : Int) + (span : Int))) rfl (fun _ => by simp)
      generalize w8.setCell ⟨p,4,none⟩ (.int .i64 ((A.c : Int) + (span : Int))) = w9 at hs8 ⊢
      clear hs7 c4 g4
      obtain ⟨rv,⟨c0,_,_,_,c4,_⟩,_⟩ := hs8.at_.cells
      dsimp only at c0 c4
      have hwr : IntKind.i64.wrap ((A.w : Int) - 1) = (A.w : Int) - 1 := wrapN (by omega) (by omega)
      by_cases hge : A.w ≤ A.c + span
      ·have hge' := eq_true (show (A.w : Int) ≤ ((A.c + span : Nat) : Int) by omega)
       go_quiet (fail)
       have hs9 := hs8.drewN hr.bs nq
       generalize w9.drewN nq = w10 at hs9 ⊢
       clear hs8 c0 c4
       obtain ⟨rv,⟨c0,_,_,_,c4,c5,_⟩,_⟩ := hs9.at_.cells
       have g4 := hs9.at_.frozen 4
       have g5 := hs9.at_.frozen 5
       dsimp only at c0 c4 c5
       go_wp2
       have hsA := (hs9.put (hd' := hd) (s' := { A with rows := PR.set A.r Z,lr := A.r,lc := A.c,marks := true,c := A.w - 1 }) 4 (.int .i64 ((A.w : Int) - 1)) rfl (fun _ => by simp;omega)).put (s' := { A with rows := PR.set A.r Z,lr := A.r,lc := A.c,marks := true,c := A.w - 1,full := true }) 5 (.bool true) rfl (fun _ => rfl)
       refine bodyPost_end (results_none rfl _ _ _) rfl ?_
       refine ⟨rfl,?_⟩
       rw [hDD.out]
       unfold Sc.wrote
       rw [if_pos hge,hPH.out,hLH.out,putC_eq L0 A.c span t (by omega),hPH2.out,hQH.out,hZH.out]
       exact hsA
      ·have hge' := eq_false (show ¬ (A.w : Int) ≤ ((A.c + span : Nat) : Int) by omega)
       go_quiet (fail)
       have hs9 := hs8.drewN hr.bs nq
       generalize w9.drewN nq = w10 at hs9 ⊢
       go_wp2
       refine bodyPost_end (results_none rfl _ _ _) rfl ?_
       refine ⟨rfl,?_⟩
       rw [hDD.out]
       unfold Sc.wrote
       rw [if_neg hge,hPH.out,hLH.out,putC_eq L0 A.c span t (by omega),hPH2.out,hQH.out,hZH.out]
       exact hs9
end Go.Proofs.YtgdpnmikcopkmaaDoor.U
end
