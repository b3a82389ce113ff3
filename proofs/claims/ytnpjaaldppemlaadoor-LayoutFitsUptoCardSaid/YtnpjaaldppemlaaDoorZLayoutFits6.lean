/- What the law LayoutFits reaches of this seat's own texts, merged; what nothing uses is left out. -/
import Derived.Test.YtnpjaaldppemlaaDoorZLayoutFits0
import Derived.Test.YtnpjaaldppemlaaDoorZLayoutFits3
import Derived.Test.YtnpjaaldppemlaaDoorZLayoutFits4
import Derived.Test.YtnpjaaldppemlaaDoorZLayoutFits5
section
namespace Go.Proofs.YtnpjaaldppemlaaDoor.U
open Go.RowKit Go.Proofs.YtnpjaaldppemlaaDoorW.PrintWords Go.Proofs.YtnpjaaldppemlaaDoorW.PrintLast Go.Proofs.YtnpjaaldppemlaaDoorW.PrintMore
set_option linter.unusedVariables false
set_option linter.unusedSimpArgs false
attribute [local go_sem high] cell_eq
/-- The rows while the first i are trimmed. -/
def mixR (rows : List (List Cl)) (i : Nat) : List (List Cl) := (rows.take i).map trimR ++ rows.drop i
theorem mixR_get (rows : List (List Cl)) (i : Nat) (h : i < rows.length) : (mixR rows i).getD i [] = rows.getD i [] := by
 unfold mixR
 rw [List.getD_eq_getElem?_getD,List.getD_eq_getElem?_getD,List.getElem?_append_right (by simp;omega),List.getElem?_drop]
 simp
 congr 2
 omega
theorem mixR_set (rows : List (List Cl)) (i : Nat) (h : i < rows.length) : setRow (mixR rows i) i (trimR (rows.getD i [])) = mixR rows (i + 1) := by
 unfold mixR setRow
 apply List.ext_getElem?
 intro j
 rw [List.getElem?_set]
 by_cases hj : i = j
 ·subst hj
  rw [if_pos rfl,if_pos (by simp;omega),List.getElem?_append_left (by simp;omega),List.getElem?_map,List.getElem?_take,if_pos (by omega)]
  rw [List.getD_eq_getElem?_getD,List.getElem?_eq_getElem h]
  rfl
 ·rw [if_neg hj]
  by_cases hlt : j < i
  ·rw [List.getElem?_append_left (by simp;omega),List.getElem?_append_left (by simp;omega),List.getElem?_map,List.getElem?_map,List.getElem?_take,List.getElem?_take,if_pos hlt,if_pos (by omega)]
  ·rw [List.getElem?_append_right (by simp;omega),List.getElem?_append_right (by simp;omega),List.getElem?_drop,List.getElem?_drop]
   congr 1
   simp
   omega
theorem mixR_all (rows : List (List Cl)) : mixR rows rows.length = rows.map trimR := by unfold mixR;simp
theorem mixR_none (rows : List (List Cl)) : mixR rows 0 = rows := by unfold mixR;simp
def lenOf : Value → Nat
 | .slice _ n _ => n
 | _ => 0
theorem wrap_nat {m : Nat} (h : m ≤ 1099511627776) : wrap64 (m : Int) = (m : Int) := by unfold wrap64;omega
theorem wrap_pred {m : Nat} (h : m ≤ 1099511627776) : IntKind.i64.wrap (((m + 1 : Nat) : Int) - 1) = (m : Int) := (i64_w _).trans (by unfold wrap64;omega)
theorem wrap_succ {m : Nat} (h : m ≤ 1099511627776) : IntKind.i64.wrap ((m : Int) + 1) = ((m + 1 : Nat) : Int) := (i64_w _).trans (by unfold wrap64;omega)
theorem meas_lt {n i : Nat} (h : i < n) : n - (intOf (.int .i64 ((i + 1 : Nat) : Int))).toNat < n - (intOf (.int .i64 (i : Int))).toNat := by simp [intOf];omega
theorem put4 {w : World} {b t : Nat} {a0 a1 a2 a3 b0 b1 b2 b3 : Value} (h : w.heap[b]? = some (.cells #[a0,a1,a2,a3] t (0,0))) : ((((w.setCell ⟨b,0,none⟩ b0).setCell ⟨b,1,none⟩ b1).setCell ⟨b,2,none⟩ b2).setCell ⟨b,3,none⟩ b3).heap[b]? = some (.cells #[b0,b1,b2,b3] t (0,0)) :=
 blk_put (cs := #[b0,b1,b2,a3]) (blk_put (cs := #[b0,b1,a2,a3]) (blk_put (cs := #[b0,a1,a2,a3]) (blk_put (cs := #[a0,a1,a2,a3]) h 0 _ rfl) 1 _ rfl) 2 _ rfl) 3 _ rfl
def fr4.T : Bool × List (List Nat × List Nat) := (true,[([],[]),([0],[0]),([1],[1]),([2],[2]),([3],[3]),([3],[3]),([5,3],[3,5]),([6,3],[3,6]),([4,7,3],[3,4,7]),([8,3],[3,8]),([3,3],[3]),([9,10,3],[3,9,10]),([3,11],[3,11])])
def fr4.B : List Nat := [0,1,3,7,15,15,47,111,255,511,15,2047,4095]
theorem fr4.tab : rtab .any (opsOf Tryd.f37 4) = fr4.T := by kernel_rfl
theorem fr4.bits : waitsOk fr4.T.2 fr4.B = true := by kernel_rfl
def fr6.T : Bool × List (List Nat × List Nat) := (true,[([],[]),([0],[0]),([1],[1]),([2],[2]),([],[]),([],[]),([5],[5]),([3,4,0,1,2,3,4,5,6],[3,4]),([7,6,6,0,1,2,3,4,5,6],[6,7])])
def fr6.B : List Nat := [0,1,3,7,0,0,32,127,255]
theorem fr6.tab : rtab .any (opsOf Tryd.f37 6) = fr6.T := by kernel_rfl
theorem fr6.bits : waitsOk fr6.T.2 fr6.B = true := by kernel_rfl
def fr8.T : Bool × List (List Nat × List Nat) := (true,[([],[]),([0],[0]),([1],[1]),([2],[2]),([],[]),([4],[4]),([5],[5]),([6],[6]),([],[]),([3,7,8],[3,7,8]),([9,0,1,2,3,4,5,6,7,8,9],[9])])
def fr8.B : List Nat := [0,1,3,7,0,16,48,112,0,511,1023]
theorem fr8.tab : rtab .any (opsOf Tryd.f37 8) = fr8.T := by kernel_rfl
theorem fr8.bits : waitsOk fr8.T.2 fr8.B = true := by kernel_rfl
set_option maxRecDepth 100000 in
set_option maxHeartbeats 8000000 in
theorem gr_frame {base p : Nat} {ok : Nat → Prop} {W : World} {wd r c : Int} {rows : List (List Cl)} (h : GridAt 65 base p ok W wd rows r c) (hf : ∀ k,W.heap.size ≤ k → ok k) (hb : base ≤ W.heap.size) (hr0 : 0 < rows.length) (hl : rows.length ≤ 1099511627776) (hrl : ∀ i,(rows.getD i []).length ≤ 1099511627776) (a b : Int) :
  Calls Tryd.prog 37 #[.pointer (some ⟨p,0,none⟩),.agg #[.int .i64 a,.int .i64 b]] W fun e w' => ∃ rv,e = .returned (.agg #[.int .i64 wd,rv,.int .i64 a,.int .i64 b]) ∧ Kd.S kRow 33 w' base ok rv (rows.map trimR) ∧ Below base W w' ∧ Kept W w' (fun k => ok k ∨ k = p) := by
 obtain ⟨⟨rv,hp,hS⟩,hlow,hne⟩ := h
 obtain ⟨g,cap,rfl,hg0,hglt,cells,hgc⟩ := Kd.S_form hS hr0
 have hpl := blk_lt hp
 have hpg : p ≠ g := fun he => by subst he;exact hne (hS.own_ok p rfl)
 go_enter Tryd.func37,Tryd.ntmps37
 obtain ⟨W1,hW1⟩ : ∃ W1,(W.alloc (.cells #[.int .i64 a,.int .i64 b] 27 (0,0))).alloc (.cells #[.int .i64 0,.slice none 0 0,.int .i64 0,.int .i64 0] 29 (0,0)) = W1 := ⟨_,rfl⟩
 have hb1 : Below W.heap.size W W1 := by rw [← hW1];exact below_alloc (below_alloc (Below.refl _ _) _) _
 have hq1 : W1.heap[W.heap.size]? = some (.cells #[.int .i64 a,.int .i64 b] 27 (0,0)) := by rw [← hW1];exact blk_alloc (World.alloc_heap_new W _) _
 have hz1 : W1.heap[W.heap.size + 1]? = some (.cells #[.int .i64 0,.slice none 0 0,.int .i64 0,.int .i64 0] 29 (0,0)) := by
  rw [← hW1]
  have := World.alloc_heap_new (W.alloc (.cells #[.int .i64 a,.int .i64 b] 27 (0,0))) (.cells #[.int .i64 0,.slice none 0 0,.int .i64 0,.int .i64 0] 29 (0,0))
  rwa [World.size_alloc] at this
 have hp1 := (hb1.block p hpl).trans hp
 have hS1 : Kd.S kRow 33 W1 base (fun k => ok k ∧ k ≠ W.heap.size ∧ k ≠ W.heap.size + 1) (.slice (some ⟨g,0,none⟩) rows.length cap) rows := Kd.S_mono (Kd.S_old hS hb1) (fun k hk => ⟨hk.1,by have := hk.2;omega,by have := hk.2;omega⟩)
 have hB1 := hb1.mono hb
 have hgok : ok g := hS.own_ok g rfl
 have hK1 := Kept.of_below hb1 (fun k => ok k ∨ k = p)
 have c1 : W1.cell? ⟨p,1,none⟩ = some (.slice (some ⟨g,0,none⟩) rows.length cap) := (blk_cell hp1 1).trans rfl
 go_upto_region 1 with (fail)
 try rw [hW1]
 clear hW1 hS hgc
 have hmx : mixR rows 0 = rows := mixR_none rows
 go_wp2
 go_loopw [12] (fun v12 wr => ∃ (i : Nat),v12 = .int .i64 i ∧ i ≤ rows.length ∧ Below base W wr ∧ Kept W wr (fun k => ok k ∨ k = p) ∧ W1.heap.size ≤ wr.heap.size ∧ wr.heap[W.heap.size]? = some (.cells #[.int .i64 a,.int .i64 b] 27 (0,0)) ∧
   wr.heap[W.heap.size + 1]? = some (.cells #[.int .i64 0,.slice none 0 0,.int .i64 0,.int .i64 0] 29 (0,0)) ∧
   wr.heap[p]? = some (.cells #[.int .i64 wd,.slice (some ⟨g,0,none⟩) rows.length cap,.int .i64 r,.int .i64 c] 65 (0,0)) ∧
   Kd.S kRow 33 wr base (fun k => ok k ∧ k ≠ W.heap.size ∧ k ≠ W.heap.size + 1) (.slice (some ⟨g,0,none⟩) rows.length cap) (mixR rows i))
  (fun v _ => rows.length - (intOf v).toNat)
 case atStart => exact ⟨0,rfl,Nat.zero_le _,hB1,hK1,Nat.le_refl _,hq1,hz1,hp1,by rw [hmx];exact hS1⟩
 case round =>
  obtain ⟨i,rfl,hi,hB,hKw,hsz,hq,hz,hpw,hSw⟩ := hrel
  have hWs := hb1.size
  clear hS1 hB1 hq1 hz1 hp1 c1 hmx hp hK1
  by_cases hlt : i < rows.length
  ·have hlt' : (i : Int) < (rows.length : Int) := by omega
   obtain ⟨oki,ce,hcl,hM,hcc,hfr,hoki,hH⟩ := Kd.S_elem hSw [] (i : Int) (by omega) hlt'
   rw [Int.toNat_natCast,mixR_get rows i hlt] at hM
   have hlL := hrl i
   have hset := mixR_set rows i hlt
   generalize rows.getD i [] = L at hM hlL hset
   obtain ⟨iv,rfl,hIR⟩ := hM
   obtain ⟨A1,cc1,rfl⟩ := Kd.R_slice hIR
   have hkz : (kRow).sz = 1 := rfl
   have hin : wr.cell? ⟨g,i,none⟩ = some (.slice A1 L.length cc1) := by have h_ := hcc 0 _ rfl;rwa [hkz,Nat.mul_one,Nat.add_zero,Int.toNat_natCast] at h_
   have hCL := (Kd.R_reads' hIR).2.2
   have hcL := (Kd.R_reads' hIR).2.1
   clear hcc hfr hcl hSw
   go_upto_block 2 with (fail)
   go_cut [6] from 14 to 34 (fun v6 w2 => ∃ (m : Nat),v6 = .slice A1 m cc1 ∧ m ≤ L.length ∧ Hid (trimN L L.length = m) ∧ Below wr.heap.size wr w2)
   case first =>
    clear hH hin hset
    go_wp2_with (fail)
    go_loopw [6] (fun v6 w2 => ∃ (m : Nat),v6 = .slice A1 m cc1 ∧ m ≤ L.length ∧ Hid (trimN L L.length = trimN L m) ∧ Below wr.heap.size wr w2)
     (fun v _ => lenOf v)
    case atStart => exact ⟨L.length,rfl,Nat.le_refl _,Lib.hid rfl,Below.refl _ _⟩
    case round =>
     obtain ⟨m,rfl,hm,hT,hB3⟩ := hrel
     cases m with
     | zero =>
      go_upto_region 4 with (fail)
      refine start_ (n := 13) (S := fun w' => True) (ds := []) #[false,false,false,false,false,false,false,false,false,false,false,false,false] (by kernel_rfl) rfl rfl trivial (fun hHeld => ?_);refine with_tabW fr4.tab fr4.bits (fun HT_ HW_ => ?_)
      have hB4 := below_drew1 hB3
      generalize wr.drew = w4 at hB4 hHeld ⊢
      clear hB3
      refine pure_ (i := 0) (N := (some 17)) (v := ?_) (a' := ?_) #[true,false,false,false,false,false,false,false,false,false,false,false,false] rfl rfl (any_of HT_.out (by kernel_rfl)) (fun _ _ _ h => h) (Or.inl ⟨by rfl,?_⟩) ?_ ?_
      rotate_left
      ·intro w'
       go_simp
       with_reducible rfl
      rotate_left
      ·simp only [Act.put,List.setIfInBounds_toArray,List.set_cons_zero,List.set_cons_succ,i64_w,i32_w]
       rfl
      refine pure_ (i := 1) (N := (some 18)) (v := ?_) (a' := ?_) #[true,true,false,false,false,false,false,false,false,false,false,false,false] rfl rfl (any_of HT_.out (by kernel_rfl)) (fun _ _ _ h => h) (Or.inl ⟨by rfl,?_⟩) ?_ ?_
      rotate_left
      ·intro w'
       go_simp
       with_reducible rfl
      rotate_left
      ·simp only [Act.put,List.setIfInBounds_toArray,List.set_cons_zero,List.set_cons_succ,i64_w,i32_w]
       rfl
      refine pure_ (i := 2) (N := (some 19)) (v := ?_) (a' := ?_) #[true,true,true,false,false,false,false,false,false,false,false,false,false] rfl rfl (any_of HT_.out (by kernel_rfl)) (fun _ _ _ h => h) (Or.inl ⟨by rfl,?_⟩) ?_ ?_
      rotate_left
      ·intro w'
       go_simp
       with_reducible rfl
      rotate_left
      ·simp only [Act.put,List.setIfInBounds_toArray,List.set_cons_zero,List.set_cons_succ,i64_w,i32_w]
       rfl
      refine pure_ (i := 3) (N := (some 20)) (v := ?_) (a' := ?_) #[true,true,true,true,false,false,false,false,false,false,false,false,false] rfl rfl (any_of HT_.out (by kernel_rfl)) (fun _ _ _ h => h) (Or.inl ⟨by rfl,?_⟩) ?_ ?_
      rotate_left
      ·intro w'
       go_simp
       with_reducible rfl
      rotate_left
      ·simp only [Act.put,List.setIfInBounds_toArray,List.set_cons_zero,List.set_cons_succ,i64_w,i32_w]
       rfl
      refine pure_ (i := 4) (N := (some 21)) (v := undef) (a' := ?_) #[true,true,true,true,true,false,false,false,false,false,false,false,false] rfl rfl (any_of HT_.out (by kernel_rfl)) (fun _ _ _ h => h) (Or.inr ⟨by rfl,rfl⟩) ?_ ?_
      rotate_left
      ·simp only [Act.put,List.setIfInBounds_toArray,List.set_cons_zero,List.set_cons_succ,i64_w,i32_w]
       rfl
      refine pure_ (i := 5) (N := (some 22)) (v := undef) (a' := ?_) #[true,true,true,true,true,true,false,false,false,false,false,false,false] rfl rfl (any_of HT_.out (by kernel_rfl)) (fun _ _ _ h => h) (Or.inr ⟨by rfl,rfl⟩) ?_ ?_
      rotate_left
      ·simp only [Act.put,List.setIfInBounds_toArray,List.set_cons_zero,List.set_cons_succ,i64_w,i32_w]
       rfl
      refine pure_ (i := 6) (N := (some 23)) (v := undef) (a' := ?_) #[true,true,true,true,true,true,true,false,false,false,false,false,false] rfl rfl (any_of HT_.out (by kernel_rfl)) (fun _ _ _ h => h) (Or.inr ⟨by rfl,rfl⟩) ?_ ?_
      rotate_left
      ·simp only [Act.put,List.setIfInBounds_toArray,List.set_cons_zero,List.set_cons_succ,i64_w,i32_w]
       rfl
      refine pure_ (i := 7) (N := (some 24)) (v := undef) (a' := ?_) #[true,true,true,true,true,true,true,true,false,false,false,false,false] rfl rfl (any_of HT_.out (by kernel_rfl)) (fun _ _ _ h => h) (Or.inr ⟨by rfl,rfl⟩) ?_ ?_
      rotate_left
      ·simp only [Act.put,List.setIfInBounds_toArray,List.set_cons_zero,List.set_cons_succ,i64_w,i32_w]
       rfl
      refine pure_ (i := 8) (N := (some 25)) (v := undef) (a' := ?_) #[true,true,true,true,true,true,true,true,true,false,false,false,false] rfl rfl (any_of HT_.out (by kernel_rfl)) (fun _ _ _ h => h) (Or.inr ⟨by rfl,rfl⟩) ?_ ?_
      rotate_left
      ·simp only [Act.put,List.setIfInBounds_toArray,List.set_cons_zero,List.set_cons_succ,i64_w,i32_w]
       rfl
      refine pure_ (i := 9) (N := (some 26)) (v := undef) (a' := ?_) #[true,true,true,true,true,true,true,true,true,true,false,false,false] rfl rfl (any_of HT_.out (by kernel_rfl)) (fun _ _ _ h => h) (Or.inr ⟨by rfl,rfl⟩) ?_ ?_
      rotate_left
      ·simp only [Act.put,List.setIfInBounds_toArray,List.set_cons_zero,List.set_cons_succ,i64_w,i32_w]
       rfl
      refine pure_ (i := 10) (N := (some 27)) (v := undef) (a' := ?_) #[true,true,true,true,true,true,true,true,true,true,true,false,false] rfl rfl (any_of HT_.out (by kernel_rfl)) (fun _ _ _ h => h) (Or.inr ⟨by rfl,rfl⟩) ?_ ?_
      rotate_left
      ·simp only [Act.put,List.setIfInBounds_toArray,List.set_cons_zero,List.set_cons_succ,i64_w,i32_w]
       rfl
      refine pure_ (i := 11) (N := (some 28)) (v := undef) (a' := ?_) #[true,true,true,true,true,true,true,true,true,true,true,true,false] rfl rfl (any_of HT_.out (by kernel_rfl)) (fun _ _ _ h => h) (Or.inr ⟨by rfl,rfl⟩) ?_ ?_
      rotate_left
      ·simp only [Act.put,List.setIfInBounds_toArray,List.set_cons_zero,List.set_cons_succ,i64_w,i32_w]
       rfl
      refine pure_ (i := 12) (N := (some 29)) (v := ?_) (a' := ?_) #[true,true,true,true,true,true,true,true,true,true,true,true,true] rfl rfl (any_of HT_.out (by kernel_rfl)) (fun _ _ _ h => h) (Or.inl ⟨by rfl,?_⟩) ?_ ?_
      rotate_left
      ·intro w'
       go_simp
       with_reducible rfl
      rotate_left
      ·simp only [Act.put,List.setIfInBounds_toArray,List.set_cons_zero,List.set_cons_succ,i64_w,i32_w]
       rfl
      refine done_ (done_of HT_.out (by kernel_rfl)) ?_
      clear HT_ HW_
      go_wp2
      go_meet
      case rel => exact ⟨0,rfl,Nat.zero_le _,Lib.hid (hT.out.trans rfl),hB4⟩
     | succ m =>
      have hmb : m ≤ 1099511627776 := by omega
      have hpos := decide_eq_true (show (0 : Int) < ((m + 1 : Nat) : Int) by omega)
      have hltm : (m : Int) < (L.length : Int) := by omega
      have hlt1 := eq_true (show (m : Int) < (m : Int) + 1 by omega)
      have hle0 := eq_true (show (0 : Int) ≤ (m : Int) by omega)
      have hle1 := eq_true (show (m : Int) ≤ (cc1 : Int) by omega)
      obtain ⟨ad,rfl,c0,c1⟩ := at_T35 (Kd.C_below hCL (below_drew1 hB3)) (m : Int) (Int.natCast_nonneg _) hltm
      obtain ⟨bb,hbb⟩ : ∃ bb,isBl (rd_T35 L (m : Int)) = bb := ⟨_,rfl⟩
      have hT := Lib.hid (hT.out.trans (by rw [trimN,hbb]))
      unfold isBl at hbb
      generalize rd_T35 L (m : Int) = x at c0 c1 hbb
      rw [Int.toNat_natCast] at c0 c1
      have hw2 := wrap_nat hmb
      have hw := wrap_pred hmb
      go_upto_region 4 with (fail)
      refine start_ (n := 13) (S := fun w' => w'.cell? (ad.add (m * 2)) = some (.string x.f0) ∧ w'.cell? ⟨(ad.add (m * 2)).block,(ad.add (m * 2)).off + 1,none⟩ = some (.int .i64 x.f1)) (ds := []) #[false,false,false,false,false,false,false,false,false,false,false,false,false] (by kernel_rfl) rfl rfl ⟨c0,c1⟩ (fun hHeld => ?_);refine with_tabW fr4.tab fr4.bits (fun HT_ HW_ => ?_)
      have hB4 := below_drew1 hB3
      generalize wr.drew = w4 at hB4 c0 c1 hHeld ⊢
      clear hB3
      refine pure_ (i := 0) (N := (some 17)) (v := ?_) (a' := ?_) #[true,false,false,false,false,false,false,false,false,false,false,false,false] rfl rfl (any_of HT_.out (by kernel_rfl)) (fun _ _ _ h => h) (Or.inl ⟨by rfl,?_⟩) ?_ ?_
      rotate_left
      ·intro w'
       go_simp
       with_reducible rfl
      rotate_left
      ·simp only [Act.put,List.setIfInBounds_toArray,List.set_cons_zero,List.set_cons_succ,i64_w,i32_w]
       rfl
      refine pure_ (i := 1) (N := (some 18)) (v := ?_) (a' := ?_) #[true,true,false,false,false,false,false,false,false,false,false,false,false] rfl rfl (any_of HT_.out (by kernel_rfl)) (fun _ _ _ h => h) (Or.inl ⟨by rfl,?_⟩) ?_ ?_
      rotate_left
      ·intro w'
       go_simp
       with_reducible rfl
      rotate_left
      ·simp only [Act.put,List.setIfInBounds_toArray,List.set_cons_zero,List.set_cons_succ,i64_w,i32_w]
       rfl
      refine pure_ (i := 2) (N := (some 19)) (v := ?_) (a' := ?_) #[true,true,true,false,false,false,false,false,false,false,false,false,false] rfl rfl (any_of HT_.out (by kernel_rfl)) (fun _ _ _ h => h) (Or.inl ⟨by rfl,?_⟩) ?_ ?_
      rotate_left
      ·intro w'
       go_simp
       with_reducible rfl
      rotate_left
      ·simp only [Act.put,List.setIfInBounds_toArray,List.set_cons_zero,List.set_cons_succ,i64_w,i32_w]
       rfl
      refine pure_ (i := 3) (N := (some 20)) (v := ?_) (a' := ?_) #[true,true,true,true,false,false,false,false,false,false,false,false,false] rfl rfl (any_of HT_.out (by kernel_rfl)) (fun _ _ _ h => h) (Or.inl ⟨by rfl,?_⟩) ?_ ?_
      rotate_left
      ·intro w'
       go_simp
       with_reducible rfl
      rotate_left
      ·simp only [Act.put,List.setIfInBounds_toArray,List.set_cons_zero,List.set_cons_succ,i64_w,i32_w]
       rfl
      refine pure_ (i := 4) (N := (some 21)) (v := ?_) (a' := ?_) #[true,true,true,true,true,false,false,false,false,false,false,false,false] rfl rfl (any_of HT_.out (by kernel_rfl)) (fun _ _ _ h => h) (Or.inl ⟨by rfl,?_⟩) ?_ ?_
      rotate_left
      ·intro w'
       go_simp
       with_reducible rfl
      rotate_left
      ·simp only [Act.put,List.setIfInBounds_toArray,List.set_cons_zero,List.set_cons_succ,i64_w,i32_w]
       rfl
      refine pure_ (i := 5) (N := (some 22)) (v := ?_) (a' := ?_) #[true,true,true,true,true,true,false,false,false,false,false,false,false] rfl rfl (any_of HT_.out (by kernel_rfl)) (fun _ _ _ h => h) (Or.inl ⟨by rfl,?_⟩) ?_ ?_
      rotate_left
      ·intro w'
       go_simp
       with_reducible rfl
      rotate_left
      ·simp only [Act.put,List.setIfInBounds_toArray,List.set_cons_zero,List.set_cons_succ,i64_w,i32_w]
       rfl
      refine pure_ (i := 6) (N := (some 23)) (v := ?_) (a' := ?_) #[true,true,true,true,true,true,true,false,false,false,false,false,false] rfl rfl (any_of HT_.out (by kernel_rfl)) (fun _ _ _ h => h) (Or.inl ⟨by rfl,?_⟩) ?_ ?_
      rotate_left
      ·intro w'
       go_simp
       with_reducible rfl
      rotate_left
      ·simp only [Act.put,List.setIfInBounds_toArray,List.set_cons_zero,List.set_cons_succ,i64_w,i32_w]
       rfl
      refine pure_ (i := 7) (N := (some 24)) (v := ?_) (a' := ?_) #[true,true,true,true,true,true,true,true,false,false,false,false,false] rfl rfl (any_of HT_.out (by kernel_rfl)) (fun _ _ _ h => h) (Or.inl ⟨by rfl,?_⟩) ?_ ?_
      rotate_left
      ·intro w'
       go_simp
       with_reducible rfl
      rotate_left
      ·simp only [Act.put,List.setIfInBounds_toArray,List.set_cons_zero,List.set_cons_succ,i64_w,i32_w]
       rfl
      refine pure_ (i := 8) (N := (some 25)) (v := ?_) (a' := ?_) #[true,true,true,true,true,true,true,true,true,false,false,false,false] rfl rfl (any_of HT_.out (by kernel_rfl)) (fun _ _ _ h => h) (Or.inl ⟨by rfl,?_⟩) ?_ ?_
      rotate_left
      ·intro w'
       go_simp
       with_reducible rfl
      rotate_left
      ·simp only [Act.put,List.setIfInBounds_toArray,List.set_cons_zero,List.set_cons_succ,i64_w,i32_w]
       rfl
      refine take_ (i := 9) (N := (some 26)) (v := ?_) (a' := ?_) #[true,true,true,true,true,true,true,true,true,true,false,false,false] rfl rfl (take_ofW HT_.out HW_.out (by kernel_rfl)) (fun _ _ _ h => h) (Or.inl ⟨by rfl,?_⟩) hHeld ?_ ?_
      rotate_left
      ·rintro w' ⟨s1,s2⟩
       go_simp
       with_reducible rfl
      rotate_left
      ·simp only [Act.put,List.setIfInBounds_toArray,List.set_cons_zero,List.set_cons_succ,i64_w,i32_w]
       rfl
      refine one_ (i := 10) (N := (some 27)) #[true,true,true,true,true,true,true,true,true,true,true,false,false] rfl rfl (one_of HT_.out (by kernel_rfl)) (by decide) (fun K hK => ?_)
      refine goes_ Tryd.func57 (by kernel_rfl) rfl #[] (by rfl) rfl rfl (by (try simp only [List.map_toArray,List.map_cons,List.map_nil]);first | done | rfl) ?_
      refine (layout_blank.calls _ _ _ rfl).mono ?_
      rintro e w5 ⟨rfl,hb5⟩
      have hB5 := hB4.trans (hb5.mono hB4.size)
      have s1_ := cell_below hHeld.1 hb5
      have s2_ := cell_below hHeld.2 hb5
      refine ⟨_,rfl,?_⟩
      refine hK.out _ _ ⟨s1_,s2_⟩ (fun hHeld => ?_)
      clear hK K
      refine norm_ (a' := ?_) ?_ ?_
      rotate_left
      ·show Act.put _ (some 27) _ = _
       simp only [Act.put,List.setIfInBounds_toArray,List.set_cons_zero,List.set_cons_succ,i64_w,i32_w]
       rfl
      refine pure_ (i := 11) (N := (some 28)) (v := ?_) (a' := ?_) #[true,true,true,true,true,true,true,true,true,true,true,true,false] rfl rfl (any_of HT_.out (by kernel_rfl)) (fun _ _ _ h => h) (Or.inl ⟨by rfl,?_⟩) ?_ ?_
      rotate_left
      ·intro w'
       go_simp
       with_reducible rfl
      rotate_left
      ·simp only [Act.put,List.setIfInBounds_toArray,List.set_cons_zero,List.set_cons_succ,i64_w,i32_w]
       rfl
      refine pure_ (i := 12) (N := (some 29)) (v := ?_) (a' := ?_) #[true,true,true,true,true,true,true,true,true,true,true,true,true] rfl rfl (any_of HT_.out (by kernel_rfl)) (fun _ _ _ h => h) (Or.inl ⟨by rfl,?_⟩) ?_ ?_
      rotate_left
      ·intro w'
       go_simp
       with_reducible rfl
      rotate_left
      ·simp only [Act.put,List.setIfInBounds_toArray,List.set_cons_zero,List.set_cons_succ,i64_w,i32_w]
       rfl
      refine done_ (done_of HT_.out (by kernel_rfl)) ?_
      clear HT_ HW_
      clear hw2
      cases bb
      ·go_wp2
       go_meet
       case rel => exact ⟨m + 1,by first | rfl | (simp;done),hm,Lib.hid (hT.out.trans rfl),hB5⟩
      ·go_wp2
       go_roundw
       case rel => exact ⟨m,by first | rfl | (simp;done),Nat.le_of_succ_le hm,hT,hB5⟩
       case measure => (try clear hw);simp [lenOf]
   case rest =>
    obtain ⟨m,rfl,hm,hT,hbc⟩ := hcut
    have htr : trimR L = L.take m := by unfold trimR;rw [hT.out]
    have hCm : Kd.C k35 wc A1 m (L.take m) := by
     have h_ := Kd.C_take (Kd.C_below hCL hbc) hm
     rwa [List.length_take,Nat.min_eq_left hm] at h_
    have hB3 := hB.trans (hbc.mono (Nat.le_trans hb (Nat.le_trans hWs hsz)))
    have hK3 := hKw.then_ (Kept.of_below hbc (fun k => ok k ∨ k = p)) (fun k hk => .inl hk)
    have hp3 := (hbc.block p (blk_lt hpw)).trans hpw
    have hq3 := (hbc.block _ (blk_lt hq)).trans hq
    have hz3 := (hbc.block _ (blk_lt hz)).trans hz
    have hH3 := Kd.H_below hH hbc
    have hsz3 := Nat.le_trans hsz hbc.size
    have hin3 := cell_below hin hbc
    clear hT hH hCL hin hpw hq hz hB hIR
    go_upto_region 6 with (fail)
    refine start_ (n := 9) (S := fun w' => w'.cell? ⟨p,1,none⟩ = some (.slice (some ⟨g,0,none⟩) rows.length cap)) (ds := [8]) #[false,false,false,false,false,false,false,false,false] (by kernel_rfl) rfl rfl ((blk_cell hp3 1).trans rfl) (fun hHeld => ?_);refine with_tabW fr6.tab fr6.bits (fun HT_ HW_ => ?_)
    have hCm4 := Kd.C_drew hCm
    have hB4 := below_drew1 hB3
    have hK4 := Kept.drew hK3
    have hp4 : wc.drew.heap[p]? = _ := hp3
    have hq4 : wc.drew.heap[W.heap.size]? = _ := hq3
    have hz4 : wc.drew.heap[W.heap.size + 1]? = _ := hz3
    have hH4 := Kd.H_drew hH3
    have hsz4 : W1.heap.size ≤ wc.drew.heap.size := hsz3
    generalize wc.drew = w4 at hCm4 hB4 hK4 hp4 hq4 hz4 hH4 hsz4 hHeld ⊢
    clear hCm hB3 hK3 hp3 hq3 hz3 hH3 hin3 hsz3
    refine pure_ (i := 0) (N := (some 35)) (v := ?_) (a' := ?_) #[true,false,false,false,false,false,false,false,false] rfl rfl (any_of HT_.out (by kernel_rfl)) (fun _ _ _ h => h) (Or.inl ⟨by rfl,?_⟩) ?_ ?_
    rotate_left
    ·intro w'
     go_simp
     with_reducible rfl
    rotate_left
    ·simp only [Act.put,List.setIfInBounds_toArray,List.set_cons_zero,List.set_cons_succ,i64_w,i32_w]
     rfl
    refine pure_ (i := 1) (N := (some 36)) (v := ?_) (a' := ?_) #[true,true,false,false,false,false,false,false,false] rfl rfl (any_of HT_.out (by kernel_rfl)) (fun _ _ _ h => h) (Or.inl ⟨by rfl,?_⟩) ?_ ?_
    rotate_left
    ·intro w'
     go_simp
     with_reducible rfl
    rotate_left
    ·simp only [Act.put,List.setIfInBounds_toArray,List.set_cons_zero,List.set_cons_succ,i64_w,i32_w]
     rfl
    refine pure_ (i := 2) (N := (some 37)) (v := ?_) (a' := ?_) #[true,true,true,false,false,false,false,false,false] rfl rfl (any_of HT_.out (by kernel_rfl)) (fun _ _ _ h => h) (Or.inl ⟨by rfl,?_⟩) ?_ ?_
    rotate_left
    ·intro w'
     go_simp
     with_reducible rfl
    rotate_left
    ·simp only [Act.put,List.setIfInBounds_toArray,List.set_cons_zero,List.set_cons_succ,i64_w,i32_w]
     rfl
    refine take_ (i := 3) (N := (some 38)) (v := ?_) (a' := ?_) #[true,true,true,true,false,false,false,false,false] rfl rfl (take_ofW HT_.out HW_.out (by kernel_rfl)) (fun _ _ _ h => h) (Or.inl ⟨by rfl,?_⟩) hHeld ?_ ?_
    rotate_left
    ·rintro w' s1
     go_simp
     with_reducible rfl
    rotate_left
    ·simp only [Act.put,List.setIfInBounds_toArray,List.set_cons_zero,List.set_cons_succ,i64_w,i32_w]
     rfl
    refine pure_ (i := 4) (N := (some 39)) (v := ?_) (a' := ?_) #[true,true,true,true,true,false,false,false,false] rfl rfl (any_of HT_.out (by kernel_rfl)) (fun _ _ _ h => h) (Or.inl ⟨by rfl,?_⟩) ?_ ?_
    rotate_left
    ·intro w'
     go_simp
     with_reducible rfl
    rotate_left
    ·simp only [Act.put,List.setIfInBounds_toArray,List.set_cons_zero,List.set_cons_succ,i64_w,i32_w]
     rfl
    refine pure_ (i := 5) (N := (some 40)) (v := ?_) (a' := ?_) #[true,true,true,true,true,true,false,false,false] rfl rfl (any_of HT_.out (by kernel_rfl)) (fun _ _ _ h => h) (Or.inl ⟨by rfl,?_⟩) ?_ ?_
    rotate_left
    ·intro w'
     go_simp
     with_reducible rfl
    rotate_left
    ·simp only [Act.put,List.setIfInBounds_toArray,List.set_cons_zero,List.set_cons_succ,i64_w,i32_w]
     rfl
    refine one_ (i := 6) (N := (some 41)) #[true,true,true,true,true,true,true,false,false] rfl rfl (one_of HT_.out (by kernel_rfl)) (by decide) (fun K hK => ?_)
    refine goes_ Tryd.func58 (by kernel_rfl) rfl #[.slice A1 m cc1] (by rfl) rfl rfl (by (try simp only [List.map_toArray,List.map_cons,List.map_nil]);first | done | rfl) ?_
    refine (clone_any A1 m cc1 (L.take m) _ hCm4 (by omega)).mono ?_
    rintro e w5 ⟨v',rfl,hR5,hb5⟩
    obtain ⟨A5,c5,he5⟩ := Kd.R_slice hR5
    rw [List.length_take,Nat.min_eq_left hm] at he5
    subst he5
    have hB5 := hB4.trans (hb5.mono (Nat.le_trans hb (Nat.le_trans hWs hsz4)))
    have hK5 := hK4.then_ (Kept.of_below hb5 (fun k => ok k ∨ k = p)) (fun k hk => .inl hk)
    have hp5 := (hb5.block p (blk_lt hp4)).trans hp4
    have hq5 := (hb5.block _ (blk_lt hq4)).trans hq4
    have hz5 := (hb5.block _ (blk_lt hz4)).trans hz4
    have hH5 := Kd.H_below (Kd.H_widen hH4) hb5
    have hsz5 := Nat.le_trans hsz4 hb5.size
    have hbw := Nat.le_trans hWs hsz4
    have hR5' : Kd.R k35 35 w5 base (fun k => oki k ∨ (ok k ∧ k ≠ W.heap.size ∧ k ≠ W.heap.size + 1) ∧ w4.heap.size ≤ k) (.slice A5 m c5) (L.take m) :=
     Kd.R_lower (Kd.R_mono (Kd.R_bound hR5) (fun k hk => .inr ⟨⟨hf k (Nat.le_trans hbw hk.2.1),by have := hk.2.1;have := blk_lt hq4;omega,by have := hk.2.1;have := blk_lt hz4;omega⟩,hk.2.1⟩)) (Nat.le_trans hb hbw)
    refine ⟨_,rfl,?_⟩
    refine hK.out _ _ ((blk_cell hp5 1).trans rfl) (fun hHeld => ?_)
    clear hK K hR5 hCm4 hB4 hp4 hq4 hz4 hH4
    refine norm_ (a' := ?_) ?_ ?_
    rotate_left
    ·show Act.put _ (some 41) _ = _
     simp only [Act.put,List.setIfInBounds_toArray,List.set_cons_zero,List.set_cons_succ,i64_w,i32_w]
     rfl
    refine pure_ (i := 7) (N := (some 42)) (v := ?_) (a' := ?_) #[true,true,true,true,true,true,true,true,false] rfl rfl (any_of HT_.out (by kernel_rfl)) (fun _ _ _ h => h) (Or.inl ⟨by rfl,?_⟩) ?_ ?_
    rotate_left
    ·intro w'
     go_simp
     with_reducible rfl
    rotate_left
    ·simp only [Act.put,List.setIfInBounds_toArray,List.set_cons_zero,List.set_cons_succ,i64_w,i32_w]
     rfl
    refine last_ (i := 8) (N := none) #[true,true,true,true,true,true,true,true,true] rfl rfl (one_of HT_.out (by kernel_rfl)) (by decide) (fun K hK => ?_)
    have hii := (Kd.H_at hH5 (by omega) hlt').1 0 _ rfl
    have hfi := (Kd.H_at hH5 (by omega) hlt').2 0
    rw [hkz,Nat.mul_one,Nat.add_zero,Int.toNat_natCast] at hii hfi
    refine skip_ (w1 := ?_) (by rfl) rfl ?_ ?_
    rotate_left
    ·go_simp
     rfl
    refine hK.out _ _ ?_
    clear hK K
    have hS6 := slot_put hH5 (by omega) hlt' rfl hR5'
    rw [Int.toNat_natCast,← htr,hset] at hS6
    have hp6 := (Below.heap_setCell w5 ⟨g,i,none⟩ (.slice A5 m c5) p hpg).trans hp5
    have hgq : g ≠ W.heap.size := by omega
    have hq6 := (Below.heap_setCell w5 ⟨g,i,none⟩ (.slice A5 m c5) W.heap.size (fun e => hgq e.symm)).trans hq5
    have hz6 := (Below.heap_setCell w5 ⟨g,i,none⟩ (.slice A5 m c5) (W.heap.size + 1) (fun (e : _ = g) => by omega)).trans hz5
    have hB6 := hB5.setCell (p := ⟨g,i,none⟩) hg0 (.slice A5 m c5)
    have hK6 := hK5.setCell (p := ⟨g,i,none⟩) (.inl (.inl hgok)) (.slice A5 m c5)
    have hsz6 : W1.heap.size ≤ (w5.setCell ⟨g,i,none⟩ (.slice A5 m c5)).heap.size := by simpa using hsz5
    refine done_ (done_of HT_.out (by kernel_rfl)) ?_
    clear HT_ HW_
    have hwi := wrap_succ (m := i) (by omega)
    have hi1 : i + 1 ≤ rows.length := hlt
    go_wp2
    go_roundw
    case rel => exact ⟨i + 1,by first | rfl | go_num,hi1,hB6,hK6,hsz6,hq6,hz6,hp6,hS6⟩
    case measure => exact meas_lt hlt
  ·have hge : ¬ ((i : Int) < (rows.length : Int)) := by omega
   have hii : i = rows.length := by omega
   subst hii
   rw [mixR_all] at hSw
   go_upto_region 8 with (fail)
   refine start_ (n := 11) (S := fun w' => w'.cell? ⟨p,0,none⟩ = some (.int .i64 wd) ∧ w'.cell? ⟨p,1,none⟩ = some (.slice (some ⟨g,0,none⟩) rows.length cap) ∧ w'.cell? ⟨W.heap.size,0,none⟩ = some (.int .i64 a) ∧ w'.cell? ⟨W.heap.size,1,none⟩ = some (.int .i64 b)) (ds := [10]) #[false,false,false,false,false,false,false,false,false,false,false] (by kernel_rfl) rfl rfl ⟨(blk_cell hpw 0).trans rfl,(blk_cell hpw 1).trans rfl,(blk_cell hq 0).trans rfl,(blk_cell hq 1).trans rfl⟩ (fun hHeld => ?_);refine with_tabW fr8.tab fr8.bits (fun HT_ HW_ => ?_)
   have hB4 := below_drew1 hB
   have hK4 := Kept.drew hKw
   have hz4 : wr.drew.heap[W.heap.size + 1]? = _ := hz
   have hS4 := Kd.S_drew hSw
   generalize wr.drew = w4 at hB4 hK4 hz4 hS4 hHeld ⊢
   clear hpw hq hz hB hSw
   refine pure_ (i := 0) (N := (some 44)) (v := ?_) (a' := ?_) #[true,false,false,false,false,false,false,false,false,false,false] rfl rfl (any_of HT_.out (by kernel_rfl)) (fun _ _ _ h => h) (Or.inl ⟨by rfl,?_⟩) ?_ ?_
   rotate_left
   ·intro w'
    go_simp
    with_reducible rfl
   rotate_left
   ·simp only [Act.put,List.setIfInBounds_toArray,List.set_cons_zero,List.set_cons_succ,i64_w,i32_w]
    rfl
   refine pure_ (i := 1) (N := (some 45)) (v := ?_) (a' := ?_) #[true,true,false,false,false,false,false,false,false,false,false] rfl rfl (any_of HT_.out (by kernel_rfl)) (fun _ _ _ h => h) (Or.inl ⟨by rfl,?_⟩) ?_ ?_
   rotate_left
   ·intro w'
    go_simp
    with_reducible rfl
   rotate_left
   ·simp only [Act.put,List.setIfInBounds_toArray,List.set_cons_zero,List.set_cons_succ,i64_w,i32_w]
    rfl
   refine pure_ (i := 2) (N := (some 46)) (v := ?_) (a' := ?_) #[true,true,true,false,false,false,false,false,false,false,false] rfl rfl (any_of HT_.out (by kernel_rfl)) (fun _ _ _ h => h) (Or.inl ⟨by rfl,?_⟩) ?_ ?_
   rotate_left
   ·intro w'
    go_simp
    with_reducible rfl
   rotate_left
   ·simp only [Act.put,List.setIfInBounds_toArray,List.set_cons_zero,List.set_cons_succ,i64_w,i32_w]
    rfl
   refine take_ (i := 3) (N := (some 47)) (v := ?_) (a' := ?_) #[true,true,true,true,false,false,false,false,false,false,false] rfl rfl (take_ofW HT_.out HW_.out (by kernel_rfl)) (fun _ _ _ h => h) (Or.inl ⟨by rfl,?_⟩) hHeld ?_ ?_
   rotate_left
   ·rintro w' ⟨s1,s2,s3,s4⟩
    go_simp
    with_reducible rfl
   rotate_left
   ·simp only [Act.put,List.setIfInBounds_toArray,List.set_cons_zero,List.set_cons_succ,i64_w,i32_w]
    rfl
   refine pure_ (i := 4) (N := (some 48)) (v := ?_) (a' := ?_) #[true,true,true,true,true,false,false,false,false,false,false] rfl rfl (any_of HT_.out (by kernel_rfl)) (fun _ _ _ h => h) (Or.inl ⟨by rfl,?_⟩) ?_ ?_
   rotate_left
   ·intro w'
    go_simp
    with_reducible rfl
   rotate_left
   ·simp only [Act.put,List.setIfInBounds_toArray,List.set_cons_zero,List.set_cons_succ,i64_w,i32_w]
    rfl
   refine pure_ (i := 5) (N := (some 49)) (v := ?_) (a' := ?_) #[true,true,true,true,true,true,false,false,false,false,false] rfl rfl (any_of HT_.out (by kernel_rfl)) (fun _ _ _ h => h) (Or.inl ⟨by rfl,?_⟩) ?_ ?_
   rotate_left
   ·intro w'
    go_simp
    with_reducible rfl
   rotate_left
   ·simp only [Act.put,List.setIfInBounds_toArray,List.set_cons_zero,List.set_cons_succ,i64_w,i32_w]
    rfl
   refine pure_ (i := 6) (N := (some 50)) (v := ?_) (a' := ?_) #[true,true,true,true,true,true,true,false,false,false,false] rfl rfl (any_of HT_.out (by kernel_rfl)) (fun _ _ _ h => h) (Or.inl ⟨by rfl,?_⟩) ?_ ?_
   rotate_left
   ·intro w'
    go_simp
    with_reducible rfl
   rotate_left
   ·simp only [Act.put,List.setIfInBounds_toArray,List.set_cons_zero,List.set_cons_succ,i64_w,i32_w]
    rfl
   refine take_ (i := 7) (N := (some 51)) (v := ?_) (a' := ?_) #[true,true,true,true,true,true,true,true,false,false,false] rfl rfl (take_ofW HT_.out HW_.out (by kernel_rfl)) (fun _ _ _ h => h) (Or.inl ⟨by rfl,?_⟩) hHeld ?_ ?_
   rotate_left
   ·rintro w' ⟨s1,s2,s3,s4⟩
    go_simp
    with_reducible rfl
   rotate_left
   ·simp only [Act.put,List.setIfInBounds_toArray,List.set_cons_zero,List.set_cons_succ,i64_w,i32_w]
    rfl
   refine take_ (i := 8) (N := (some 52)) (v := ?_) (a' := ?_) #[true,true,true,true,true,true,true,true,true,false,false] rfl rfl (take_ofW HT_.out HW_.out (by kernel_rfl)) (fun _ _ _ h => h) (Or.inl ⟨by rfl,?_⟩) hHeld ?_ ?_
   rotate_left
   ·rintro w' ⟨s1,s2,s3,s4⟩
    go_simp
    with_reducible rfl
   rotate_left
   ·simp only [Act.put,List.setIfInBounds_toArray,List.set_cons_zero,List.set_cons_succ,i64_w,i32_w]
    rfl
   refine pure_ (i := 9) (N := (some 53)) (v := ?_) (a' := ?_) #[true,true,true,true,true,true,true,true,true,true,false] rfl rfl (any_of HT_.out (by kernel_rfl)) (fun _ _ _ h => h) (Or.inl ⟨by rfl,?_⟩) ?_ ?_
   rotate_left
   ·intro w'
    go_simp
    with_reducible rfl
   rotate_left
   ·simp only [Act.put,List.setIfInBounds_toArray,List.set_cons_zero,List.set_cons_succ,i64_w,i32_w]
    rfl
   refine last_ (i := 10) (N := none) #[true,true,true,true,true,true,true,true,true,true,true] rfl rfl (one_of HT_.out (by kernel_rfl)) (by decide) (fun K hK => ?_)
   have hs0 : w4.cell? ⟨W.heap.size + 1,0,none⟩ = some (.int .i64 0) := (blk_cell hz4 0).trans rfl
   have hf0 := blk_frozen hz4 0
   have hs1 : w4.cell? ⟨W.heap.size + 1,1,none⟩ = some (.slice none 0 0) := (blk_cell hz4 1).trans rfl
   have hf1 := blk_frozen hz4 1
   have hs2 : w4.cell? ⟨W.heap.size + 1,2,none⟩ = some (.int .i64 0) := (blk_cell hz4 2).trans rfl
   have hf2 := blk_frozen hz4 2
   have hs3 : w4.cell? ⟨W.heap.size + 1,3,none⟩ = some (.int .i64 0) := (blk_cell hz4 3).trans rfl
   have hf3 := blk_frozen hz4 3
   refine skip_ (w1 := ?_) (by rfl) rfl ?_ ?_
   rotate_left
   ·go_simp
    rfl
   refine hK.out _ _ ?_
   clear hK K
   refine done_ (done_of HT_.out (by kernel_rfl)) ?_
   clear HT_ HW_
   go_wp2
   refine bodyPost_ret (results_cell_row rfl _ _ (W.heap.size + 1) 29 #[.int .i64 wd,.slice (some ⟨g,0,none⟩) rows.length cap,.int .i64 a,.int .i64 b] (0,0) _ rfl (put4 hz4) Tryd.underlying29 rfl (by kernel_rfl)) rfl ?_
   refine ⟨_,rfl,?_,?_,?_⟩
   ·exact Kd.S_mono (Kd.S_far (p := ⟨W.heap.size + 1,3,none⟩) (Kd.S_far (p := ⟨W.heap.size + 1,2,none⟩) (Kd.S_far (p := ⟨W.heap.size + 1,1,none⟩) (Kd.S_far (p := ⟨W.heap.size + 1,0,none⟩) hS4 (fun _ hk => hk.2.2) _) (fun _ hk => hk.2.2) _) (fun _ hk => hk.2.2) _) (fun _ hk => hk.2.2) _) (fun _ hk => hk.1)
   ·have hb' : base ≤ W.heap.size + 1 := Nat.le_succ_of_le hb
    exact (((hB4.setCell (p := ⟨W.heap.size + 1,0,none⟩) hb' _).setCell (p := ⟨W.heap.size + 1,1,none⟩) hb' _).setCell (p := ⟨W.heap.size + 1,2,none⟩) hb' _).setCell (p := ⟨W.heap.size + 1,3,none⟩) hb' _
   ·have hsz' : W.heap.size ≤ W.heap.size + 1 := Nat.le_succ _
    exact (((hK4.setCell (p := ⟨W.heap.size + 1,0,none⟩) (.inr hsz') _).setCell (p := ⟨W.heap.size + 1,1,none⟩) (.inr hsz') _).setCell (p := ⟨W.heap.size + 1,2,none⟩) (.inr hsz') _).setCell (p := ⟨W.heap.size + 1,3,none⟩) (.inr hsz') _
end Go.Proofs.YtnpjaaldppemlaaDoor.U
end
section
namespace Go.Proofs.YtnpjaaldppemlaaDoor.U
open Go.RowKit Go.Shelf Go.Proofs.YtnpjaaldppemlaaDoor.Mu Go.Proofs.YtnpjaaldppemlaaDoor.Pu Go.Proofs.YtnpjaaldppemlaaDoor.Rg Go.Proofs.YtnpjaaldppemlaaDoorW.PrintWords Go.Proofs.YtnpjaaldppemlaaDoorW.PrintLast Go.Proofs.YtnpjaaldppemlaaDoorW.PrintMore
attribute [local go_sem] Oper.semAt_some max2_int min2_int max_two min_two
set_option linter.unusedVariables false
set_option linter.unusedSimpArgs false
/-- All rows are within the width. -/
def Ly.In (wd : Int) (s : Ly) : Prop := s.Fit wd ∧ ∀ L ∈ s.1,(L.length : Int) ≤ wd
theorem Ly.In.down {wd : Int} {s : Ly} (h : s.In wd) : s.down.In wd := ⟨h.1.down,fun L hL => by
 rcases List.mem_append.1 hL with hL | hL
 ·exact h.2 L hL
 ·obtain rfl := List.mem_singleton.1 hL
  have := h.1.2.2
  omega⟩
theorem Ly.In.cell {wd : Int} {s : Ly} (h : s.In wd) (x : Cl) : (s.cell wd x).In wd := by
 refine ⟨h.1.cell x,fun L hL => ?_⟩
 unfold Ly.cell at hL
 split at hL
 ·rename_i he
  rcases List.mem_append.1 hL with hL | hL
  ·exact h.2 L hL
  ·obtain rfl := List.mem_singleton.1 hL
   rw [List.length_append,List.length_singleton]
   omega
 ·exact h.2 L hL
theorem Ly.In.lay {wd : Int} {s : Ly} (h : s.In wd) (cls cells : Int) (d : ByteArray) (n : Nat) : (s.lay wd cls cells d n).In wd := by
 have hm : (if (s.2.length : Int) = wd - 1 then s.down else s).In wd := by
  split
  ·exact h.down
  ·exact h
 unfold Ly.lay
 split
 ·exact h.down
 split
 ·exact h.cell _
 split
 ·exact h.cell _
 split
 ·exact (hm.cell _).cell _
 ·exact (hm.cell _).cell _
theorem layL_in (wd : Int) (t : ByteArray) (cs : List S60) : ∀ (st : Ly),st.In wd → (layL wd t st cs).In wd := by
 induction cs with
 | nil => intro st h;exact h
 | cons c cs ih => intro st h;exact ih _ (h.lay _ _ _ _)
theorem ly_new {m : Int} (h1 : 1 ≤ m) (h2 : m ≤ 65535) : Ly.In m ([],[]) := ⟨⟨h1,h2,by simpa using (by omega : (0 : Int) < m)⟩,fun L hL => by cases hL⟩
theorem held_in {width m : Int} (hm : layout_held.f width = some m) : 1 ≤ m ∧ m ≤ 65535 := by
 unfold layout_held.f at hm
 have hm2 := Option.some.inj hm
 rw [← hm2]
 unfold mn mx
 split <;> split <;> omega
theorem Ly.In.rows {wd : Int} {s : Ly} (h : s.In wd) (i : Nat) : (((s.1 ++ [s.2]).getD i []).length : Int) ≤ wd := by
 by_cases hi : i < (s.1 ++ [s.2]).length
 ·rw [List.getD_eq_getElem?_getD,List.getElem?_eq_getElem hi,Option.getD_some]
  rcases List.mem_append.1 (List.getElem_mem hi) with hL | hL
  ·exact h.2 _ hL
  ·have := List.mem_singleton.1 hL
   rw [this]
   have := h.1.2.2
   omega
 ·rw [List.getD_eq_getElem?_getD,List.getElem?_eq_none (by omega)]
  have := h.1.1
  simp
  omega
/-- The pen's place. -/
def Ly.place (s : Ly) : Int × Int := (s.1.length,s.2.length)
/-- A cluster is laid;the pen's place behind it is the cursor's,if it ends at the cursor or ahead of it. -/
def atF (wd : Int) (t : ByteArray) (cur : Int) (s : Ly × (Int × Int)) (c : S60) : Ly × (Int × Int) := (layC wd t s.1 c,if c.f1 ≤ cur then (layC wd t s.1 c).place else s.2)
def atL (wd : Int) (t : ByteArray) (cur : Int) (s : Ly × (Int × Int)) (cs : List S60) : Ly × (Int × Int) := cs.foldl (atF wd t cur) s
theorem atL_snoc (wd : Int) (t : ByteArray) (cur : Int) (s : Ly × (Int × Int)) (cs : List S60) (c : S60) : atL wd t cur s (cs ++ [c]) = atF wd t cur (atL wd t cur s cs) c := by unfold atL;rw [List.foldl_append];rfl
theorem atL_fst (wd : Int) (t : ByteArray) (cur : Int) (cs : List S60) : ∀ (s : Ly × (Int × Int)),(atL wd t cur s cs).1 = layL wd t s.1 cs := by
 induction cs with
 | nil => intro s;rfl
 | cons c cs ih => intro s;exact ih _
theorem obj_grow {X Y : World} {row : Option Nat} {b : Nat} {cs : Array Value} {t : TypeId} (h : X.heap[b]? = some (.cells cs t (0,0))) (hg : X.grownBy Y row) (hr : ∀ r,row = some r → ∃ o : Obj,X.heap[r]? = some o ∧ o.isCells = false) : Y.heap[b]? = some (.cells cs t (0,0)) :=
 (hg.block b (blk_lt h) (fun e => by
  obtain ⟨o,ho,hc⟩ := hr b e.symm
  rw [h] at ho
  cases ho
  cases hc)).trans h
theorem LyAt.boundT {T base p : Nat} {ok : Nat → Prop} {W : World} {wd : Int} {s : Ly} (h : LyAt T base p ok W wd s) : LyAt T base p (fun k => ok k ∧ ∀ cs t,(t = 60 ∨ t = 27) → W.heap[k]? ≠ some (.cells cs t (0,0))) W wd s := by
 obtain ⟨⟨rv,h1,h2⟩,h3,h4⟩ := h
 refine ⟨⟨rv,h1,Kd.S_mono (Kd.S_bound h2) (fun k hk => ⟨hk.1,fun cs t' ht' hc => ?_⟩)⟩,h3,fun h => h4 h.1⟩
 obtain ⟨_,_,_,t,ht,cs',hc'⟩ := hk
 rw [hc] at hc'
 cases hc'
 rcases ht' with rfl | rfl
 ·exact absurd ht (by decide)
 ·exact absurd ht (by decide)
/-- The grid's blocks ahead of a laying,none of which holds a cluster or a place. -/
def layOkT (B p : Nat) (nb : Nat → Prop) (W : World) (k : Nat) : Prop := layOk B p nb W k ∧ ∀ cs t,(t = 60 ∨ t = 27) → W.heap[k]? ≠ some (.cells cs t (0,0))
theorem layOkT_new {B p : Nat} {nb : Nat → Prop} {W : World} (hn : ∀ k,nb k → k < W.heap.size) (hp : p < W.heap.size) : ∀ k,W.heap.size ≤ k → layOkT B p nb W k := fun k hk => ⟨layOk_new hn hp k hk,fun cs t _ hc => by have := blk_lt hc;omega⟩
theorem kept_more {W w1 : World} {S S' : Nat → Prop} (hk : Kept W w1 S) (h : ∀ k,S k → S' k) : Kept W w1 S' := ⟨hk.1,fun k hlt hn => hk.2 k hlt (fun hs => hn (h k hs))⟩
theorem keep_setA {X : World} {n₀ B C b j : Nat} {Pr : Nat → Prop} (hn : n₀ ≤ X.heap.size) (hb0 : n₀ ≤ b) (hB : b < B) (hPr : ∀ k,Pr k → k ≠ b) (v : Value) :
  KeepsFrom C X (X.setCell ⟨b,j,none⟩ v) ∧ KeepB n₀ Pr B X (X.setCell ⟨b,j,none⟩ v) := by
 refine ⟨(KeepsOthers.setCell X _ v).from C,?_,?_⟩
 ·exact (Below.refl n₀ X).setCell (p := ⟨b,j,none⟩) hb0 v
 ·intro k o hk ho _
  have h5 : k ≠ b := by
   rcases hk with hk | hk
   ·exact hPr k hk
   ·omega
  exact (Below.heap_setCell X ⟨b,j,none⟩ v k h5).trans ho
/-- The boxes of Lay's variables. -/
def nbL (w0 bg : Nat) (k : Nat) : Prop := (w0 ≤ k ∧ k ≤ w0 + 2) ∨ (bg ≤ k ∧ k ≤ bg + 2)
/-- What Lay's variables hold behind the clusters pre. -/
structure LaInv (w : World) (t : ByteArray) (cur m : Int) (p bg : Nat) (st : Ly × (Int × Int)) (B : Nat) (W : World) : Prop where
 gr : GrIn 65 w.heap.size p (nbL w.heap.size bg) B W m st.1
 txt : Boxed W w.heap.size 9 (.string t)
 cur : Boxed W (w.heap.size + 1) 3 (.int .i64 cur)
 res : W.heap[w.heap.size + 2]? = some (.cells #[.int .i64 0,.slice none 0 0,.int .i64 0,.int .i64 0] 29 (0,0))
 ptr : Boxed W bg 62 (.pointer (some ⟨p,0,none⟩))
 at_ : W.heap[bg + 1]? = some (.cells #[.int .i64 st.2.1,.int .i64 st.2.2] 27 (0,0))
 cls : Boxed W (bg + 2) 9 (.string t)
 bel : Below w.heap.size w W
 low : bg + 2 < B
theorem LaInv.grow {w : World} {t : ByteArray} {cur m : Int} {p bg : Nat} {st : Ly × (Int × Int)} {B : Nat} {X Y : World} {row : Option Nat} (h : LaInv w t cur m p bg st B X) (hg : X.grownBy Y row) (hr : ∀ r,row = some r → w.heap.size ≤ r ∧ ∃ o : Obj,X.heap[r]? = some o ∧ o.isCells = false) : LaInv w t cur m p bg st B Y := by
 have hr' : ∀ r,row = some r → ∃ o : Obj,X.heap[r]? = some o ∧ o.isCells = false := fun r e => (hr r e).2
 exact ⟨h.gr.grow hg hr',boxed_grow h.txt hg hr',boxed_grow h.cur hg hr',obj_grow h.res hg hr',boxed_grow h.ptr hg hr',obj_grow h.at_ hg hr',boxed_grow h.cls hg hr',h.bel.grown hg h.bel.size (fun k e => (hr k e).1),h.low⟩
theorem LaInv.below {w : World} {t : ByteArray} {cur m : Int} {p bg : Nat} {st : Ly × (Int × Int)} {B : Nat} {X Y : World} (h : LaInv w t cur m p bg st B X) (hb : Below X.heap.size X Y) : LaInv w t cur m p bg st B Y :=
 ⟨h.gr.below hb,boxed_below h.txt hb,boxed_below h.cur hb,(hb.block _ (blk_lt h.res)).trans h.res,boxed_below h.ptr hb,(hb.block _ (blk_lt h.at_)).trans h.at_,boxed_below h.cls hb,h.bel.trans (hb.mono h.bel.size),h.low⟩
set_option maxRecDepth 100000 in
set_option maxHeartbeats 4000000 in
theorem lay_any (pt t : ByteArray) (cursor width m : Int) (w : World) (hps : pt.size ≤ 68719476736) (hs : t.size ≤ 68719476736) (hm : layout_held.f width = some m) (hT : Lib.Utf8Tabs 0 1 w) (st0 : Ly) (hst0 : layL m pt ([],[]) (clusL pt) = st0) (q : Ly × (Int × Int)) (hq : atL m t (if cursor < 0 then 0 else cursor) (st0,st0.place) (clusL t) = q) (RW : List (List Cl)) (hRW : Hid ((q.1.1 ++ [q.1.2]).map trimR = RW)) :
  Calls Tryd.prog 14 #[.string pt,.string t,.int .i64 cursor,.int .i64 width] w fun e w' => ∃ rv,e = .returned (.agg #[.int .i64 m,rv,.int .i64 q.2.1,.int .i64 q.2.2]) ∧ Kd.S kRow 33 w' w.heap.size (fun _ => True) rv RW ∧ Below w.heap.size w w' := by
 have hlen : (clusL t).length ≤ t.size := clusL_length t
 have hIn0 : st0.In m := by rw [← hst0];exact layL_in _ _ _ _ (ly_new (held_in hm).1 (held_in hm).2)
 have hLn0 : st0.1.length ≤ 3 * pt.size := by
  rw [← hst0]
  have h1 := layL_len m pt (clusL pt) ([],[])
  have h2 := clusL_length pt
  simp at h1
  omega
 obtain ⟨cur,hcur⟩ : ∃ cur,(if cursor < 0 then 0 else cursor) = cur := ⟨_,rfl⟩
 rw [hcur] at hq
 refine (callsIn_wide (n := 6)).1 ?_
 refine callsIn_of_wp_marks Tryd.func14 rfl trivial ?_ rfl
 simp only [Tryd.ntmps14,List.size_toArray,List.length_cons,List.length_nil,Nat.reduceAdd,Nat.reduceSub,Array.replicate_succ,Array.replicate_zero,List.push_toArray,List.append_toArray,List.nil_append,List.cons_append]
 gi_upto_region 2 with (fail)
 try rw [hcur]
 clear hcur
 obtain ⟨V,hV⟩ : ∃ V,(((w.alloc (.cells #[.string t] 9)).alloc (.cells #[.int .i64 cur] 3)).alloc (.cells #[.int .i64 0,.slice none 0 0,.int .i64 0,.int .i64 0] 29)) = V := ⟨_,rfl⟩
 rw [hV]
 simp only [Nat.add_assoc,Nat.reduceAdd]
 have hVs : V.heap.size = w.heap.size + 3 := by rw [← hV];simp
 have hVb : Below w.heap.size w V := by rw [← hV];exact below_alloc (below_alloc (below_alloc (Below.refl _ _) _) _) _
 have hV0 : Boxed V w.heap.size 9 (.string t) := by rw [← hV];exact ((Boxed.new w _ _).alloc _).alloc _
 have hV1 : Boxed V (w.heap.size + 1) 3 (.int .i64 cur) := by
  rw [← hV]
  have := Boxed.new (w.alloc (.cells #[.string t] 9)) 3 (.int .i64 cur)
  rw [World.size_alloc] at this
  exact this.alloc _
 have hV2 : V.heap[w.heap.size + 2]? = some (.cells #[.int .i64 0,.slice none 0 0,.int .i64 0,.int .i64 0] 29 (0,0)) := by
  rw [← hV]
  have := World.alloc_heap_new ((w.alloc (.cells #[.string t] 9)).alloc (.cells #[.int .i64 cur] 3)) (.cells #[.int .i64 0,.slice none 0 0,.int .i64 0,.int .i64 0] 29)
  rw [World.size_alloc,World.size_alloc] at this
  exact this
 clear hV
 gi_upto_region 3 with (refine ⟨trivial,?_⟩;gi_at_call 34;refine (callsIn_wide.2 (prompted_any pt width m _ hps hm (tabs_below hT hVb))).mono ?_;rintro e w1 ⟨p,rfl,hp,hG,hb1⟩)
 rw [hst0] at hG
 have hplt := hG.lt
 have hW1 := boxed_below hV0 hb1
 have hW2 := boxed_below hV1 hb1
 have hW3 := (hb1.block _ (blk_lt hV2)).trans hV2
 have hb0 := hVb.trans (hb1.mono (by omega))
 have hsz1 := hb1.size
 rw [hVs] at hp hG
 have hGr : GrIn 65 w.heap.size p (nbL w.heap.size w1.heap.size) w1.heap.size w1 m st0 :=
  ⟨(hG.lower (base' := w.heap.size) (by omega)).mono (fun k hk => ⟨hk.2.2,fun h => by have h1 := hk.2.1;have h2 := hk.2.2;unfold nbL at h;omega,hk.1⟩) (fun hk => hk.2.2 rfl),hplt⟩
 clear hG hV0 hV1 hV2 hVb
 have c9 := hGr.1.row
 have c10 := hGr.1.col
 have c11 := hW1.cell
 have l11 := hW1.lt
 gi_wp2_with (refine ⟨trivial,?_⟩;gi_at_call 35;refine (callsIn_wide.2 (cwalk_calls t _)).mono ?_;rintro e w' ⟨rfl,rfl⟩)
 obtain ⟨W0,hW0⟩ : ∃ W0,((w1.alloc (.cells #[.pointer (some ⟨p,0,none⟩)] 62)).alloc (.cells #[.int .i64 (st0.1.length : Int),.int .i64 (st0.2.length : Int)] 27)).alloc (.cells #[.string t] 9) = W0 := ⟨_,rfl⟩
 try rw [hW0]
 try simp only [Nat.add_assoc,Nat.reduceAdd]
 have hsz : W0.heap.size = w1.heap.size + 3 := by rw [← hW0];simp
 have hI0 : LaInv w t cur m p w1.heap.size (st0,st0.place) (w1.heap.size + 3) W0 := by
  rw [← hW0]
  have hb2 : Below w1.heap.size w1 (((w1.alloc (.cells #[.pointer (some ⟨p,0,none⟩)] 62)).alloc (.cells #[.int .i64 (st0.1.length : Int),.int .i64 (st0.2.length : Int)] 27)).alloc (.cells #[.string t] 9)) := below_alloc (below_alloc (below_alloc (Below.refl _ _) _) _) _
  refine ⟨(hGr.below hb2).mono (by omega),boxed_below hW1 hb2,boxed_below hW2 hb2,(hb2.block _ (blk_lt hW3)).trans hW3,((Boxed.new w1 _ _).alloc _).alloc _,?_,?_,hb0.trans (hb2.mono hb0.size),by omega⟩
  ·have := World.alloc_heap_new (w1.alloc (.cells #[.pointer (some ⟨p,0,none⟩)] 62)) (.cells #[.int .i64 (st0.1.length : Int),.int .i64 (st0.2.length : Int)] 27)
   rw [World.size_alloc] at this
   exact blk_alloc this _
  ·have := Boxed.new ((w1.alloc (.cells #[.pointer (some ⟨p,0,none⟩)] 62)).alloc (.cells #[.int .i64 (st0.1.length : Int),.int .i64 (st0.2.length : Int)] 27)) 9 (.string t)
   rw [World.size_alloc,World.size_alloc] at this
   exact this
 clear hW0 hGr hb0 hb1 hW1 hW2 hW3 c9 c10 c11 l11
 generalize w1.heap.size = bg at hplt hsz1 hsz hI0 ⊢
 clear w1
 have hF0 : Ly.Fit m st0 := hIn0.1
 refine range_outer (α := S60) rfl (by omega) (gf := 52) (lb := #[.pointer (some ⟨bg + 2,0,none⟩)]) rfl trivial (enters_of Tryd.func52 (by kernel_rfl) rfl)
  (cwalk1_seq 5 (by omega) w W0 t (bg + 2) (by omega) hT hI0.bel hI0.cls) (Below.refl _ _) (fun _ => rfl) (by omega)
  (fun (B : Nat) (pre : List S60) (W : World) => LaInv w t cur m p bg (atL m t cur (st0,st0.place) pre) B W)
  (fun _ _ _ => False)
  (fun B pre X Y row h hg hr => h.grow hg (fun r e => ⟨by have := (hr r e).1;omega,(hr r e).2⟩))
  (fun B B' pre W hBB h => ⟨h.gr.mono hBB,h.txt,h.cur,h.res,h.ptr,h.at_,h.cls,h.bel,Nat.lt_of_lt_of_le h.low hBB⟩)
  (fun _ _ _ _ _ hs _ _ => hs)
  (by rw [hsz];exact hI0)
  (fun (x : S60) (a' : Act) (W : World) => ∃ Bx,Hid (W.heap[Bx]? = some (.cells #[.int .i64 x.f0,.int .i64 x.f1,.int .i64 x.f2,.int .i64 x.f3] 60 (0,0))) ∧ a' = { tmps := #[.string pt,.string t,.int .i64 cursor,.int .i64 width,undef,.pointer (some ⟨w.heap.size,0,none⟩),.pointer (some ⟨w.heap.size + 1,0,none⟩),undef,.pointer (some ⟨w.heap.size + 2,0,none⟩),.pointer (some ⟨bg,0,none⟩),.pointer (some ⟨bg + 1,0,none⟩),.pointer (some ⟨Bx,0,none⟩),.int .i64 cursor,.int .i64 cur,.string pt,.int .i64 width,.pointer (some ⟨p,0,none⟩),.pointer (some ⟨p,0,none⟩),.pointer (some ⟨p,0,none⟩),.pointer (some ⟨p,2,none⟩),.agg #[.int .i64 (st0.1.length : Int),.int .i64 (st0.2.length : Int)],.string t,.func (.func 52) #[] #[.pointer (some ⟨bg + 2,0,none⟩)],.agg #[.int .i64 x.f0,.int .i64 x.f1,.int .i64 x.f2,.int .i64 x.f3],undef,undef,undef,undef,undef,undef,undef,undef,undef,undef,undef,undef,undef,undef,undef],defers := [] })
  (fun x a' _ X Y row hs hg hr => by
   obtain ⟨Bx,h1,h2⟩ := hs
   refine ⟨Bx,?_,h2⟩
   refine (hg.block Bx (Array.getElem?_eq_some_iff.1 h1).1 (fun e => ?_)).trans h1
   obtain ⟨_,o,ho,hc⟩ := hr Bx e.symm
   rw [show X.heap[Bx]? = _ from h1] at ho;cases ho;cases hc)
  ?assign ?body ?done ?stop
 case assign =>
  rintro l B pre x W K hCW hBW hI hK
  have hsz1 := hI.bel.size
  gi_wp2
  exact hK _ _ ((KeepsOthers.alloc _ _).from _) (KeepB.of_below hsz1 ((Below.refl _ W).alloc (Nat.le_refl _) _)) (hI.below ((Below.refl _ W).alloc (Nat.le_refl _) _)) ⟨W.heap.size,Lib.hid (World.alloc_heap_new W _),rfl⟩
 case body =>
  rintro l B pre x a' W hl hCW hr hBW hI ⟨Bx,hBx,rfl⟩ hlt hpx
  obtain ⟨i,hci,hiS,hxe⟩ : ∃ i : Nat,CB t i ∧ i < t.size ∧ x = clAt t i := clus_mem t t.size 0 (cb_zero t) x (hpx.subset (by simp))
  have hx0 : 0 ≤ x.f0 := by rw [hxe];exact Int.natCast_nonneg _
  have hx1 : x.f0 ≤ x.f1 := by rw [hxe];have := nxt_up t _ i (Nat.le_refl _) hiS;show (i : Int) ≤ (nxt t i : Int);omega
  have hx2 : x.f1 ≤ t.size := by rw [hxe];have := nxt_le t i hci.1 hiS;show (nxt t i : Int) ≤ (t.size : Int);omega
  have hst : Hid (atL m t cur (st0,st0.place) (pre ++ [x]) = atF m t cur (atL m t cur (st0,st0.place) pre) x) := Lib.hid (atL_snoc _ _ _ _ _ _)
  have hfst := atL_fst m t cur pre (st0,st0.place)
  have hFt := layL_fit m t pre _ hF0
  have hLn := layL_len m t pre st0
  have hlt2 : pre.length < t.size := Nat.lt_of_lt_of_le hlt hlen
  have hL2 : (layL m t st0 pre).1.length ≤ 549755813888 := by omega
  dsimp only at hfst
  rw [← hfst] at hFt hL2
  obtain ⟨⟨st,ca,cb⟩,hste⟩ : ∃ q_,atL m t cur (st0,st0.place) pre = q_ := ⟨_,rfl⟩
  rw [hste] at hI hst hFt hL2
  dsimp only at hFt hL2
  clear hfst hste hLn
  clear hxe hpx
  have hTw := tabs_below hT hI.bel
  have cp := hI.ptr.cell
  have ct := hI.txt.cell
  have cc := hI.cur.cell
  have hpW := hI.gr.1.lt
  have hnb : ∀ k,nbL w.heap.size bg k → k < W.heap.size := by
   intro k hk
   have h1 := blk_lt hI.res
   have h2 := hI.cls.lt
   unfold nbL at hk
   omega
  have hnp : ¬ nbL w.heap.size bg p := fun h => by unfold nbL at h;omega
  obtain ⟨x0,x1,x2,x3⟩ := x
  have b0 : W.cell? ⟨Bx,0,none⟩ = some (.int .i64 x0) := by simp [World.cell?,show W.heap[Bx]? = _ from hBx.out]
  have b1 : W.cell? ⟨Bx,1,none⟩ = some (.int .i64 x1) := by simp [World.cell?,show W.heap[Bx]? = _ from hBx.out]
  have b2 : W.cell? ⟨Bx,2,none⟩ = some (.int .i64 x2) := by simp [World.cell?,show W.heap[Bx]? = _ from hBx.out]
  have b3 : W.cell? ⟨Bx,3,none⟩ = some (.int .i64 x3) := by simp [World.cell?,show W.heap[Bx]? = _ from hBx.out]
  have hu60 := Tryd.underlying60
  have hnW : 2 ≤ w.heap.size := by
   have h1 := (hT.2 0 (by decide)).2
   have := World.block_lt_of_cell? w ⟨1,_,none⟩ h1
   exact this
  have hsub : (t.extract x0.toNat x1.toNat).size ≤ 1099511627776 := by simp [ByteArray.size_extract];omega
  dsimp only
  gi_upto_region 7 with (refine ⟨trivial,?_⟩;gi_at_call 36;refine (callsIn_wide.2 (gr_lay hI.gr.ahead.boundT (layOkT_new hnb hpW) hI.bel.size hnW hTw hFt hL2 t ⟨x0,x1,x2,x3⟩ hx0 hx1 hx2 (drawnS (t.extract x0.toNat x1.toNat)) (by unfold cluster_Drawn.f;exact if_pos hsub) _ rfl (decodeGo_le _))).mono ?_;rintro e w2 ⟨rfl,hG2,hB2,hK2⟩)
  have hG3 := hG2.mono (ok' := layOk B p (nbL w.heap.size bg) W) (fun k hk => hk.1) (fun h => h.2.2 rfl)
  have hK3 := kept_more hK2 (S' := fun k => layOk B p (nbL w.heap.size bg) W k ∨ k = p) (fun k hk => hk.imp And.left id)
  have hk := fun C => lay_keeps (C := C) (Pr := fun k => k = bg + 2) hK3 hB2 hI.gr.1.cells hI.gr.2 (fun k hk => ⟨.inr (by omega),by omega⟩)
  have hb3 : ∀ k,nbL w.heap.size bg k → w2.heap[k]? = W.heap[k]? := fun k hk => hK3.2 k (hnb k hk) (fun h => h.elim (fun h => h.2.1 hk) (fun h => hnp (h ▸ hk)))
  have hBx2 : w2.heap[Bx]? = W.heap[Bx]? := hK2.2 Bx (blk_lt hBx.out) (fun h => h.elim (fun h => h.2 _ _ (.inl rfl) hBx.out) (fun h => by
   obtain ⟨rv,hgp,_⟩ := hI.gr.1.1
   rw [← h,show W.heap[Bx]? = _ from hBx.out] at hgp
   cases hgp))
  have hgr := GrIn.behind hG3
  have hI2 : LaInv w t cur m p bg (st.lay m x2 x3 (drawnS (t.extract x0.toNat x1.toNat)) (Lib.decodeGo (drawnS (t.extract x0.toNat x1.toNat))).2,(ca,cb)) w2.heap.size w2 :=
   ⟨hgr,(hb3 _ (.inl ⟨by omega,by omega⟩)).trans hI.txt,(hb3 _ (.inl ⟨by omega,by omega⟩)).trans hI.cur,(hb3 _ (.inl ⟨by omega,by omega⟩)).trans hI.res,(hb3 _ (.inr ⟨by omega,by omega⟩)).trans hI.ptr,(hb3 _ (.inr ⟨by omega,by omega⟩)).trans hI.at_,(hb3 _ (.inr ⟨by omega,by omega⟩)).trans hI.cls,hI.bel.trans hB2,Nat.lt_of_lt_of_le (Nat.lt_of_lt_of_le hI.low hBW) hB2.size⟩
  have d1 : w2.cell? ⟨Bx,1,none⟩ = some (.int .i64 x1) := by simp [World.cell?,hBx2,show W.heap[Bx]? = _ from hBx.out]
  have d2 := hI2.cur.cell
  have d3 := hI2.ptr.cell
  have d4 := hI2.gr.1.row
  have d5 := hI2.gr.1.col
  have d6 : w2.cell? ⟨bg + 1,0,none⟩ = some (.int .i64 ca) := (blk_cell hI2.at_ 0).trans rfl
  have d7 : w2.cell? ⟨bg + 1,1,none⟩ = some (.int .i64 cb) := (blk_cell hI2.at_ 1).trans rfl
  have f6 := blk_frozen hI2.at_ 0
  have f7 := blk_frozen hI2.at_ 1
  obtain ⟨st',hst'⟩ : ∃ st',st.lay m x2 x3 (drawnS (t.extract x0.toNat x1.toNat)) (Lib.decodeGo (drawnS (t.extract x0.toNat x1.toNat))).2 = st' := ⟨_,rfl⟩
  rw [hst'] at hI2 d4 d5
  have hst2 : Hid (atL m t cur (st0,st0.place) (pre ++ [(⟨x0,x1,x2,x3⟩ : S60)]) = (st',if x1 ≤ cur then st'.place else (ca,cb))) := Lib.hid (by rw [hst.out,← hst'];rfl)
  clear hG2 hG3 hK2 hK3 hst hst' hb3 hgr hBx2
  by_cases hle : x1 ≤ cur
  ·have hst3 := Lib.hid (hst2.out.trans (by rw [if_pos hle]))
   have hle' := eq_true hle
   gi_wp2
   have hk4 := fun C => keep_setA (C := C) (B := B) (b := bg + 1) (j := 0) (Pr := fun k => k = bg + 2) hI2.bel.size (by omega) (by have := hI.low;omega) (fun k hk => by omega) (.int .i64 (st'.1.length : Int))
   have hk5 := fun C => keep_setA (X := w2.setCell ⟨bg + 1,0,none⟩ (.int .i64 (st'.1.length : Int))) (C := C) (B := B) (b := bg + 1) (j := 1) (Pr := fun k => k = bg + 2) (Nat.le_trans hI2.bel.size (hk4 0).1.size) (by omega) (by have := hI.low;omega) (fun k hk => by omega) (.int .i64 (st'.2.length : Int))
   refine ⟨((hk _).1.trans (hk4 _).1).trans (hk5 _).1,((hk 0).2.trans (hk4 0).2).trans (hk5 0).2,?_⟩
   show LaInv w t cur m p bg (atL m t cur (st0,st0.place) _) _ _
   rw [hst3.out]
   have ho : ∀ k,k ≠ bg + 1 → ((w2.setCell ⟨bg + 1,0,none⟩ (.int .i64 (st'.1.length : Int))).setCell ⟨bg + 1,1,none⟩ (.int .i64 (st'.2.length : Int))).heap[k]? = w2.heap[k]? := fun k hk => (Below.heap_setCell _ ⟨bg + 1,1,none⟩ _ k hk).trans (Below.heap_setCell w2 ⟨bg + 1,0,none⟩ _ k hk)
   have hse : ((w2.setCell ⟨bg + 1,0,none⟩ (.int .i64 (st'.1.length : Int))).setCell ⟨bg + 1,1,none⟩ (.int .i64 (st'.2.length : Int))).heap.size = w2.heap.size := by simp [World.setCell]
   rw [hse]
   have hbg1 : nbL w.heap.size bg (bg + 1) := .inr ⟨by omega,by omega⟩
   have hwb : w.heap.size ≤ bg + 1 := by omega
   exact ⟨(hI2.gr.other hbg1 (by omega) 0 _).other hbg1 (by omega) 1 _,(ho _ (by omega)).trans hI2.txt,(ho _ (by omega)).trans hI2.cur,(ho _ (by omega)).trans hI2.res,(ho _ (by omega)).trans hI2.ptr,blk_put (cs := #[.int .i64 (st'.1.length : Int),.int .i64 cb]) (blk_put (cs := #[.int .i64 ca,.int .i64 cb]) hI2.at_ 0 _ rfl) 1 _ rfl,(ho _ (by omega)).trans hI2.cls,(hI2.bel.setCell (p := ⟨bg + 1,0,none⟩) hwb _).setCell (p := ⟨bg + 1,1,none⟩) hwb _,hI2.low⟩
  ·have hst3 := Lib.hid (hst2.out.trans (by rw [if_neg hle]))
   have hle' := eq_false hle
   gi_wp2
   refine ⟨(hk _).1,(hk 0).2,?_⟩
   show LaInv w t cur m p bg (atL m t cur (st0,st0.place) _) _ _
   rw [hst3.out]
   exact hI2
 case done =>
  rintro D ys W hD hys hI hK
  have e : ys = clusL t := hys
  rw [e,hq] at hI
  have cp := hI.ptr.cell
  have ca0 : W.cell? ⟨bg + 1,0,none⟩ = some (.int .i64 q.2.1) := (blk_cell hI.at_ 0).trans rfl
  have ca1 : W.cell? ⟨bg + 1,1,none⟩ = some (.int .i64 q.2.2) := (blk_cell hI.at_ 1).trans rfl
  have hDl := blk_lt hK
  have hpl := hI.gr.1.lt
  have hbs := hI.bel.size
  have hnbl : ∀ k,nbL w.heap.size bg k → k < W0.heap.size := fun k hk => by unfold nbL at hk;omega
  have hnD : ¬ nbL w.heap.size bg D := fun h => by have := hnbl D h;omega
  have hG := hI.gr.1.boundC.mono (ok' := fun k => ¬ nbL w.heap.size bg k ∧ k ≠ p ∧ k ≠ D) (fun k hk => ⟨hk.1.2.1,hk.1.2.2,fun h => by
   obtain ⟨o,ho,hc⟩ := hk.2
   rw [h,hK] at ho
   cases ho
   cases hc⟩) (fun h => h.2.1 rfl)
  have hIn : q.1.In m := by rw [← hq,atL_fst];exact layL_in m t _ _ hIn0
  have hLq : q.1.1.length ≤ 549755813888 := by
   rw [← hq,atL_fst]
   have := layL_len m t (clusL t) st0
   show (layL m t st0 (clusL t)).1.length ≤ _
   omega
  obtain ⟨⟨qs,qr⟩,qa,qb⟩ := q
  dsimp only at hG hLq ca0 ca1 ⊢
  dsimp only at hRW
  have hne := hI.gr.1.ne
  gi_wp2_with (refine ⟨trivial,?_⟩;gi_at_call 37;refine (callsIn_wide.2 (gr_frame hG (fun k hk => ⟨fun h => by have := hnbl k h;omega,by omega,by omega⟩) hbs (by simp) (by simp;omega) (fun i => by have h1 := hIn.rows i;have h2 := hIn.1.2.1;omega) qa qb)).mono ?_;rintro e w5 ⟨rv,rfl,hS5,hB5,hK5⟩;rw [hRW.out] at hS5;have hr5 := (hK5.2 _ (blk_lt hI.res) (fun h => h.elim (fun h => h.1 (.inl ⟨by omega,by omega⟩)) (fun h => by omega))).trans hI.res;have hD5 := (hK5.2 D hDl (fun h => h.elim (fun h => h.2.2 rfl) (fun h => by obtain ⟨rv_,hgp,_⟩ := hI.gr.1.1;rw [← h,hK] at hgp;cases hgp))).trans hK;obtain ⟨Ar,cr,rfl⟩ := Kd.S_slice hS5;have e0 : w5.cell? ⟨w.heap.size + 2,0,none⟩ = some (.int .i64 0) := (blk_cell hr5 0).trans rfl;have e1 : w5.cell? ⟨w.heap.size + 2,1,none⟩ = some (.slice none 0 0) := (blk_cell hr5 1).trans rfl;have e2 : w5.cell? ⟨w.heap.size + 2,2,none⟩ = some (.int .i64 0) := (blk_cell hr5 2).trans rfl;have e3 : w5.cell? ⟨w.heap.size + 2,3,none⟩ = some (.int .i64 0) := (blk_cell hr5 3).trans rfl;have f0 := blk_frozen hr5 0;have f1 := blk_frozen hr5 1;have f2 := blk_frozen hr5 2;have f3 := blk_frozen hr5 3)
  have hn2 : ∀ k,¬ (k = w.heap.size + 2) → ((((w5.setCell ⟨w.heap.size + 2,0,none⟩ (.int .i64 m)).setCell ⟨w.heap.size + 2,1,none⟩ (.slice Ar RW.length cr)).setCell ⟨w.heap.size + 2,2,none⟩ (.int .i64 qa)).setCell ⟨w.heap.size + 2,3,none⟩ (.int .i64 qb)).heap[k]? = w5.heap[k]? := fun k hk => (Below.heap_setCell _ ⟨w.heap.size + 2,3,none⟩ _ k hk).trans ((Below.heap_setCell _ ⟨w.heap.size + 2,2,none⟩ _ k hk).trans ((Below.heap_setCell _ ⟨w.heap.size + 2,1,none⟩ _ k hk).trans (Below.heap_setCell w5 ⟨w.heap.size + 2,0,none⟩ _ k hk)))
  have hDn : ¬ (D = w.heap.size + 2) := by omega
  have hD6 := (hn2 D hDn).trans hD5
  have hr6 := put4 (b0 := .int .i64 m) (b1 := .slice Ar RW.length cr) (b2 := .int .i64 qa) (b3 := .int .i64 qb) hr5
  have hS6 : Kd.S kRow 33 _ w.heap.size (fun k => ¬nbL w.heap.size bg k ∧ k ≠ p ∧ k ≠ D) (.slice Ar RW.length cr) RW := Kd.S_step hS5 (fun k hk _ => hn2 k (fun h => hk.1 (.inl ⟨by omega,by omega⟩)))
  have hwb : w.heap.size ≤ w.heap.size + 2 := by omega
  have hB6 := (((hB5.setCell (p := ⟨w.heap.size + 2,0,none⟩) hwb (.int .i64 m)).setCell (p := ⟨w.heap.size + 2,1,none⟩) hwb (.slice Ar RW.length cr)).setCell (p := ⟨w.heap.size + 2,2,none⟩) hwb (.int .i64 qa)).setCell (p := ⟨w.heap.size + 2,3,none⟩) hwb (.int .i64 qb)
  have hb6 := hI.bel.trans hB6
  clear hn2 hS5 hB5 hB6 hr5 hD5 e0 e1 e2 e3 f0 f1 f2 f3 hK5
  generalize ((((w5.setCell ⟨w.heap.size + 2,0,none⟩ (.int .i64 m)).setCell ⟨w.heap.size + 2,1,none⟩ (.slice Ar RW.length cr)).setCell ⟨w.heap.size + 2,2,none⟩ (.int .i64 qa)).setCell ⟨w.heap.size + 2,3,none⟩ (.int .i64 qb)) = w6 at hD6 hr6 hS6 hb6 ⊢
  refine ⟨by simp,.inl ⟨_,_,rfl,run_takeDeferred hD6,?_⟩⟩
  refine ⟨_,results_cell_row rfl _ _ (w.heap.size + 2) 29 #[.int .i64 m,.slice Ar RW.length cr,.int .i64 qa,.int .i64 qb] (0,0) _ rfl ((World.putObj_heap_other (by omega)).trans hr6) Tryd.underlying29 rfl (by kernel_rfl),_,rfl,?_,hb6.trans (belowK_b (w := w) (Nat.le_refl _) w6 D _ _ (by omega) hD6 rfl rfl)⟩
  exact Kd.S_mono (Kd.S_step hS6 (fun k hk _ => World.putObj_heap_other (fun h => hk.2.2 (by first | exact h | exact h.symm)))) (fun _ _ => trivial)
 case stop =>
  rintro D c pre W _ _ h _
  exact h.elim
end Go.Proofs.YtnpjaaldppemlaaDoor.U
end
section
namespace Go.Proofs.YtnpjaaldppemlaaDoor.U
open Go.RowKit Go.Shelf Go.Proofs.YtnpjaaldppemlaaDoor.Mu Go.Proofs.YtnpjaaldppemlaaDoor.Pu Go.Proofs.YtnpjaaldppemlaaDoor.Rg Go.Proofs.YtnpjaaldppemlaaDoorW.PrintWords Go.Proofs.YtnpjaaldppemlaaDoorW.PrintLast Go.Proofs.YtnpjaaldppemlaaDoorW.PrintMore
attribute [local go_sem] Oper.semAt_some
set_option linter.unusedVariables false
set_option linter.unusedSimpArgs false
abbrev Pl := S27
abbrev kPl : Kd Pl := k27
def Ly.pl (s : Ly) : Pl := ⟨s.1.length,s.2.length⟩
/-- The boxes of Places' variables. -/
def nbP (w0 bg : Nat) (k : Nat) : Prop := k = w0 ∨ k = bg ∨ k = bg + 2 ∨ k = bg + 3
/-- A row of places of the call's own,below B,in the box b. -/
def AllIn (n₀ b B : Nat) (W : World) (pl : List Pl) : Prop := ∃ v,Boxed W b 43 v ∧ Kd.R kPl 27 W n₀ (fun k => k < B) v pl
/-- What Places' variables hold behind the clusters pre. -/
structure PlInv (w : World) (t : ByteArray) (m : Int) (p bg : Nat) (st : Ly) (pl : List Pl) (B : Nat) (W : World) : Prop where
 gr : GrIn 65 w.heap.size p (nbP w.heap.size bg) B W m st
 txt : Boxed W w.heap.size 9 (.string t)
 ptr : Boxed W bg 62 (.pointer (some ⟨p,0,none⟩))
 all : AllIn w.heap.size (bg + 2) B W pl
 cls : Boxed W (bg + 3) 9 (.string t)
 bel : Below w.heap.size w W
 low : bg + 3 < B
theorem AllIn.mono {n₀ b B B' : Nat} {W : World} {pl : List Pl} (h : AllIn n₀ b B W pl) (hB : B ≤ B') : AllIn n₀ b B' W pl := by
 obtain ⟨v,h1,h2⟩ := h
 exact ⟨v,h1,Kd.R_mono h2 (fun k hk => Nat.lt_of_lt_of_le hk hB)⟩
theorem AllIn.below {n₀ b B : Nat} {W w1 : World} {pl : List Pl} (h : AllIn n₀ b B W pl) (hb : Below W.heap.size W w1) : AllIn n₀ b B w1 pl := by
 obtain ⟨v,h1,h2⟩ := h
 exact ⟨v,boxed_below h1 hb,Kd.R_below h2 hb⟩
/-- Where all cells of places stand as they stood. -/
theorem AllIn.move {n₀ b B : Nat} {W w1 : World} {pl : List Pl} (h : AllIn n₀ b B W pl) (hb : w1.heap[b]? = W.heap[b]?) (hm : ∀ (k : Nat) (cs : Array Value),W.heap[k]? = some (Obj.cells cs 27 (0,0)) → w1.heap[k]? = W.heap[k]?) : AllIn n₀ b B w1 pl := by
 obtain ⟨v,h1,h2⟩ := h
 refine ⟨v,hb.trans h1,Kd.R_mono (Kd.R_move (Kd.R_bound h2) (fun k hk => ?_)) (fun k hk => hk.1)⟩
 obtain ⟨_,_,_,q,hq,cs,hc⟩ := hk
 have hq' : q = 27 := by
  rcases List.mem_cons.1 hq with h | h
  ·exact h
  ·exact absurd h (by simp [kPl,k27,Kd.iso,Kd.pair,Kd.int,Kd.scalar])
 subst hq'
 exact hm k cs hc
theorem AllIn.grow {n₀ b B : Nat} {X Y : World} {row : Option Nat} {pl : List Pl} (h : AllIn n₀ b B X pl) (hg : X.grownBy Y row) (hr : ∀ r,row = some r → ∃ o : Obj,X.heap[r]? = some o ∧ o.isCells = false) : AllIn n₀ b B Y pl := by
 refine h.move ?_ (fun k cs hc => hg.block k (blk_lt hc) (fun e => ?_))
 ·obtain ⟨v,h1,h2⟩ := h
  exact (boxed_grow h1 hg hr).trans h1.symm
 ·obtain ⟨o,ho,hc'⟩ := hr k e.symm
  rw [hc] at ho
  cases ho
  cases hc'
theorem PlInv.grow {w : World} {t : ByteArray} {m : Int} {p bg : Nat} {st : Ly} {pl : List Pl} {B : Nat} {X Y : World} {row : Option Nat} (h : PlInv w t m p bg st pl B X) (hg : X.grownBy Y row) (hr : ∀ r,row = some r → w.heap.size ≤ r ∧ ∃ o : Obj,X.heap[r]? = some o ∧ o.isCells = false) : PlInv w t m p bg st pl B Y := by
 have hr' : ∀ r,row = some r → ∃ o : Obj,X.heap[r]? = some o ∧ o.isCells = false := fun r e => (hr r e).2
 exact ⟨h.gr.grow hg hr',boxed_grow h.txt hg hr',boxed_grow h.ptr hg hr',h.all.grow hg hr',boxed_grow h.cls hg hr',h.bel.grown hg h.bel.size (fun k e => (hr k e).1),h.low⟩
theorem PlInv.below {w : World} {t : ByteArray} {m : Int} {p bg : Nat} {st : Ly} {pl : List Pl} {B : Nat} {X Y : World} (h : PlInv w t m p bg st pl B X) (hb : Below X.heap.size X Y) : PlInv w t m p bg st pl B Y :=
 ⟨h.gr.below hb,boxed_below h.txt hb,boxed_below h.ptr hb,h.all.below hb,boxed_below h.cls hb,h.bel.trans (hb.mono h.bel.size),h.low⟩
def pl6.T : Bool × List (List Nat × List Nat) := (true,[([],[]),([],[]),([1],[1]),([2],[2]),([3],[3]),([4],[4]),([0,5],[0,5]),([6,6,0,1,2,3,4,5,6],[6])])
def pl6.B : List Nat := [0,0,2,6,14,30,63,127]
theorem pl6.tab : rtab .any (opsOf Tryd.f25 6) = pl6.T := by kernel_rfl
theorem pl6.bits : waitsOk pl6.T.2 pl6.B = true := by kernel_rfl
end Go.Proofs.YtnpjaaldppemlaaDoor.U
end
section
namespace Go.Proofs.YtnpjaaldppemlaaDoor.U
open Go.RowKit Go.Shelf Go.Proofs.YtnpjaaldppemlaaDoor.Mu Go.Proofs.YtnpjaaldppemlaaDoor.Pu Go.Proofs.YtnpjaaldppemlaaDoorW.PrintWords Go.Proofs.YtnpjaaldppemlaaDoorW.PrintLast Go.Proofs.YtnpjaaldppemlaaDoorW.PrintMore
set_option linter.unusedVariables false
set_option linter.unusedSimpArgs false
def txt6.T : Bool × List (List Nat × List Nat) := (true,[([],[]),([],[]),([],[]),([1,2],[1,2]),([3],[3]),([],[]),([],[]),([],[]),([6,7],[6,7]),([8],[8]),([9],[9]),([],[]),([],[]),([11,12],[11,12]),([13],[13]),([14],[14]),([5,10,15],[5,10,15]),([16],[16]),([0,4,17,17],[0,4,17])])
def txt6.B : List Nat := [0,0,0,6,14,0,0,0,192,448,960,0,0,6144,14336,30720,65504,131040,262143]
theorem txt6.tab : rtab .any (opsOf Tryd.f45 6) = txt6.T := by kernel_rfl
theorem txt6.bits : waitsOk txt6.T.2 txt6.B = true := by kernel_rfl
end Go.Proofs.YtnpjaaldppemlaaDoor.U
end
section
namespace Go.Proofs.YtnpjaaldppemlaaDoor.Pu
open Go Go.RowKit Go.Proofs.YtnpjaaldppemlaaDoor.Mu Go.Proofs.YtnpjaaldppemlaaDoor.U Go.Proofs.YtnpjaaldppemlaaDoorW.PrintWords Go.Proofs.YtnpjaaldppemlaaDoorW.PrintLast Go.Proofs.YtnpjaaldppemlaaDoorW.PrintMore
set_option linter.unusedVariables false
theorem right_uC (a b : ByteArray) (y : Nat) : uC (a ++ b) (a.size + y) = uC b y := by unfold uC;rw [right_dec]
theorem right_bd (a b : ByteArray) (z : Nat) (h : Bd (a ++ b) (a.size + z)) : Bd b z := by
 have hs := size_two a b
 refine ⟨by have := h.1;omega,fun j hj => ?_⟩
 have := h.2 (a.size + j) (by omega)
 rw [right_uN] at this
 omega
theorem bd_left (a b : ByteArray) (i : Nat) (h : Bd (a ++ b) i) (hi : i ≤ a.size) : Bd a i := by
 have hs := size_two a b
 refine ⟨hi,fun j hj => ?_⟩
 by_cases h2 : 2 ≤ uN a j
 ·have hle := uN_le a j (by omega)
  have e := dec_prefix a (a ++ b) j j h2 (fun k hk => byt_append_left a b (j + k) (by omega)) (by omega)
  have : uN (a ++ b) j = uN a j := by unfold uN;rw [e]
  have := h.2 j hj
  omega
 ·have := uN_pos a j;omega
theorem right_nxt (a b : ByteArray) : ∀ n y : Nat,b.size - y ≤ n → y < b.size → nxt (a ++ b) (a.size + y) = a.size + nxt b y := by
 have hs := size_two a b
 intro n
 induction n with
 | zero => intro y hn hy;omega
 | succ n ih =>
  intro y hn hy
  have hp := uN_pos b y
  rw [nxt_eq (a ++ b) (a.size + y) (by omega),nxt_eq b y hy,right_uN,Nat.add_assoc,right_uC,right_uC]
  by_cases h : y + uN b y < b.size ∧ glueB (uC b y) (uC b (y + uN b y)) = true
  ·rw [if_pos ⟨by omega,h.2⟩,if_pos h];exact ih _ (by omega) h.1
  ·rw [if_neg (fun h' => h ⟨by omega,h'.2⟩),if_neg h]
def shiftC (d : Int) (c : S60) : S60 := ⟨d + c.f0,d + c.f1,c.f2,c.f3⟩
theorem right_clAt (a b : ByteArray) (y : Nat) (hy : y < b.size) : clAt (a ++ b) (a.size + y) = shiftC a.size (clAt b y) := by
 have hs := size_two a b
 have hq : crlf (a ++ b) (a.size + y) ↔ crlf b y := by
  unfold crlf;rw [right_uN,right_uC,Nat.add_assoc,right_uC]
  constructor
  ·rintro ⟨h1,h2,h3⟩;exact ⟨h1,by omega,h3⟩
  ·rintro ⟨h1,h2,h3⟩;exact ⟨h1,by omega,h3⟩
 unfold clAt shiftC clsAt celAt
 rw [right_nxt a b _ y (Nat.le_refl _) hy,right_uC]
 simp only [hq,Int.natCast_add]
section
variable (a b : ByteArray) (hC : CB (a ++ b) a.size)
theorem left_nxt (hC : CB (a ++ b) a.size) : ∀ n i : Nat,a.size - i ≤ n → i < a.size → Bd (a ++ b) i → nxt a i = nxt (a ++ b) i := by
 have hs := size_two a b
 intro n
 induction n with
 | zero => intro i hn hi _;omega
 | succ n ih =>
  intro i hn hi hb
  have hu := hC.1.2 i hi
  obtain ⟨h1,h2⟩ := left_unit a b i hi hu
  have hp := uN_pos a i
  rw [← h2] at hu
  have hbn := bd_next (a ++ b) i hb (by omega)
  rw [← h2] at hbn
  rw [nxt_eq a i hi,nxt_eq (a ++ b) i (by omega),← h2,← h1]
  by_cases hy : i + uN a i < a.size
  ·have h3 := left_unit a b (i + uN a i) hy (hC.1.2 _ hy)
   rw [← h3.1]
   by_cases hg : glueB (uC a i) (uC a (i + uN a i)) = true
   ·rw [if_pos ⟨hy,hg⟩,if_pos ⟨by omega,hg⟩];exact ih _ (by omega) hy hbn
   ·rw [if_neg (fun h => hg h.2),if_neg (fun h => hg h.2)]
  ·have hya : i + uN a i = a.size := by omega
   rw [if_neg (fun h => hy h.1),if_neg]
   rintro ⟨h4,h5⟩
   rw [hya] at h4 h5
   rw [h1,(cb_iff (a ++ b) a.size i hb (by omega) h4).1 hC] at h5
   cases h5
theorem left_clAt (hC : CB (a ++ b) a.size) (i : Nat) (hi : i < a.size) (hb : Bd (a ++ b) i) : clAt (a ++ b) i = clAt a i := by
 have hs := size_two a b
 have hu := hC.1.2 i hi
 obtain ⟨h1,h2⟩ := left_unit a b i hi hu
 have hq : crlf (a ++ b) i ↔ crlf a i := by
  unfold crlf
  rw [← h1,← h2]
  rw [← h2] at hu
  constructor
  ·rintro ⟨h3,h4,h5⟩
   by_cases hy : i + uN a i < a.size
   ·exact ⟨h3,hy,by rw [(left_unit a b _ hy (hC.1.2 _ hy)).1];exact h5⟩
   ·exfalso
    have hya : i + uN a i = a.size := by omega
    rw [hya] at h4 h5
    have := (cb_iff (a ++ b) a.size i hb (by omega) h4).1 hC
    rw [← h1,h3,h5] at this
    have h6 := (glue_nl 13).2 rfl
    rw [h6] at this;cases this
  ·rintro ⟨h3,h4,h5⟩
   exact ⟨h3,by omega,by rw [← (left_unit a b _ h4 (hC.1.2 _ h4)).1];exact h5⟩
 unfold clAt clsAt celAt
 rw [left_nxt a b hC _ i (Nat.le_refl _) hi hb,h1]
 simp only [hq]
end
theorem data_app (a b : ByteArray) : (a ++ b).data.toList = a.data.toList ++ b.data.toList := by simp
theorem left_extract (a b : ByteArray) (i t : Nat) (h : t ≤ a.size) : (a ++ b).extract i t = a.extract i t := by
 apply ByteArray.ext
 apply Array.toList_inj.1
 rw [Lib.extract_data,Lib.extract_data,data_app]
 have hl : a.data.toList.length = a.size := by rw [← Lib.size_eq]
 by_cases hi : i ≤ a.size
 ·rw [List.drop_append_of_le_length (by omega),List.take_append_of_le_length (by rw [List.length_drop];omega)]
 ·rw [show t - i = 0 by omega,List.take_zero,List.take_zero]
theorem right_extract (a b : ByteArray) (i t : Nat) : (a ++ b).extract (a.size + i) (a.size + t) = b.extract i t := by
 apply ByteArray.ext
 apply Array.toList_inj.1
 rw [Lib.extract_data,Lib.extract_data,data_app]
 have hl : a.data.toList.length = a.size := by rw [← Lib.size_eq]
 rw [List.drop_append,List.drop_eq_nil_of_le (by omega),List.nil_append,hl,show a.size + i - a.size = i by omega,show a.size + t - (a.size + i) = t - i by omega]
theorem cb_right (a b : ByteArray) (z : Nat) (h : CB (a ++ b) (a.size + z)) (hz : 0 < z) (hno : ∀ p,p < a.size → p + uN (a ++ b) p ≠ a.size + z) : CB b z := by
 have hs := size_two a b
 have hb := right_bd a b z h.1
 by_cases he : z < b.size
 ·obtain ⟨p,hp,hpe⟩ := bd_prev (a ++ b) (a.size + z) h.1 (by omega)
  have hge : a.size ≤ p := by
   rcases Nat.lt_or_ge p a.size with h1 | h1
   ·exact absurd hpe (hno p h1)
   ·exact h1
  obtain ⟨q,rfl⟩ : ∃ q,p = a.size + q := ⟨p - a.size,by omega⟩
  have hq := right_bd a b q hp
  have hg := (cb_iff (a ++ b) (a.size + z) (a.size + q) hp hpe (by omega)).1 h
  rw [right_uN] at hpe
  rw [cb_iff b z q hq (by omega) he]
  rw [right_uC,right_uC] at hg
  exact hg
 ·have := hb.1
  obtain rfl : z = b.size := by omega
  exact cb_size b
end Go.Proofs.YtnpjaaldppemlaaDoor.Pu
end
section
namespace Go.Proofs.YtnpjaaldppemlaaDoor.Pu
open Go Go.RowKit Go.Proofs.YtnpjaaldppemlaaDoor.Mu Go.Proofs.YtnpjaaldppemlaaDoor.U Go.Proofs.YtnpjaaldppemlaaDoorW.PrintWords Go.Proofs.YtnpjaaldppemlaaDoorW.PrintLast Go.Proofs.YtnpjaaldppemlaaDoorW.PrintMore
set_option linter.unusedVariables false
theorem draw_left (a b : ByteArray) (i : Nat) (hb : Bd a i) (hi : i < a.size) : drawB (a ++ b) (clAt a i) = drawB a (clAt a i) := by
 have e0 : (clAt a i).f0.toNat = i := Int.toNat_natCast i
 have e1 : (clAt a i).f1.toNat = nxt a i := Int.toNat_natCast _
 unfold drawB
 rw [e0,e1,left_extract a b i _ (nxt_le a i hb hi),byt_append_left a b i hi]
theorem draw_right (a b : ByteArray) (i : Nat) : drawB (a ++ b) (shiftC a.size (clAt b i)) = drawB b (clAt b i) := by
 have e0 : (clAt b i).f0.toNat = i := Int.toNat_natCast i
 have e1 : (clAt b i).f1.toNat = nxt b i := Int.toNat_natCast _
 have f0 : (shiftC a.size (clAt b i)).f0.toNat = a.size + i := by show ((a.size : Int) + (i : Int)).toNat = _;omega
 have f1 : (shiftC a.size (clAt b i)).f1.toNat = a.size + nxt b i := by show ((a.size : Int) + (nxt b i : Int)).toNat = _;omega
 unfold drawB
 rw [e0,e1,f0,f1,right_extract,byt_append_right]
 rfl
theorem drawU_cons (s : ByteArray) (c : S60) (cs : List S60) : drawU s (c :: cs) = (drawB s c).data.toList ++ drawU s cs := by unfold drawU;rw [List.flatMap_cons]
theorem drawU_nil (s : ByteArray) : drawU s [] = [] := by unfold drawU;rw [List.flatMap_nil]
end Go.Proofs.YtnpjaaldppemlaaDoor.Pu
end
section
namespace Go.Proofs.YtnpjaaldppemlaaDoor.Pu
open Go Go.RowKit Go.Proofs.YtnpjaaldppemlaaDoor.Mu Go.Proofs.YtnpjaaldppemlaaDoor.U Go.Proofs.YtnpjaaldppemlaaDoorW.PrintWords Go.Proofs.YtnpjaaldppemlaaDoorW.PrintLast Go.Proofs.YtnpjaaldppemlaaDoorW.PrintMore
set_option linter.unusedVariables false
theorem unit_eq (s t : ByteArray) (i j : Nat) (h1 : ∀ k,k < uN s i → byt t (j + k) = byt s (i + k)) (h2 : j + uN s i ≤ t.size) (h3 : ∀ k,k < uN t j → byt s (i + k) = byt t (j + k)) (h4 : i + uN t j ≤ s.size) : uC t j = uC s i ∧ uN t j = uN s i := by
 by_cases hs : 2 ≤ uN s i
 ·have e := dec_prefix s t i j hs h1 h2
  unfold uC uN;rw [e];exact ⟨rfl,rfl⟩
 ·by_cases ht : 2 ≤ uN t j
  ·have e := dec_prefix t s j i ht h3 h4
   unfold uC uN;rw [e];exact ⟨rfl,rfl⟩
  ·have e0 := h1 0 (by have := uN_pos s i;omega)
   rw [Nat.add_zero,Nat.add_zero] at e0
   have h5 := bad_or s i
   have h6 := bad_or t j
   rw [e0] at h6
   have := uN_pos s i;have := uN_pos t j
   generalize uN s i = p at *
   generalize uC s i = q at *
   generalize uN t j = p' at *
   generalize uC t j = q' at *
   omega
end Go.Proofs.YtnpjaaldppemlaaDoor.Pu
end
section
namespace Go.Proofs.YtnpjaaldppemlaaDoor.Pu
open Go Go.RowKit Go.Proofs.YtnpjaaldppemlaaDoor.Mu Go.Proofs.YtnpjaaldppemlaaDoor.U Go.Proofs.YtnpjaaldppemlaaDoorW.PrintWords Go.Proofs.YtnpjaaldppemlaaDoorW.PrintLast Go.Proofs.YtnpjaaldppemlaaDoorW.PrintMore
set_option linter.unusedVariables false
/-- A text without bad units. -/
def Valid (a : ByteArray) : Prop := ∀ j,Bd a j → j < a.size → 0 ≤ uC a j
theorem valid_nil : Valid ⟨#[]⟩ := fun j _ h => absurd h (Nat.not_lt_zero _)
/-- Behind a text without bad units,a seam is a boundary. -/
theorem valid_bd (a b : ByteArray) (h : Valid a) : Bd (a ++ b) a.size := by
 have hs := size_two a b
 refine ⟨by omega,fun j hj => ?_⟩
 by_cases hx : a.size < j + uN (a ++ b) j
 ·exfalso
  have h1 := left_over a b j hj hx
  have hbl := bd_long (a ++ b) j (by omega) (by omega)
  have h2 := h j (bd_left a b j hbl (by omega)) hj
  have h4 := bad_or a j
  have h5 := bad_or (a ++ b) j
  rw [byt_append_left a b j hj] at h5
  omega
 ·omega
theorem valid_two (a b : ByteArray) (ha : Valid a) (hb : Valid b) : Valid (a ++ b) := by
 have hs := size_two a b
 have hv := valid_bd a b ha
 intro j hj hlt
 by_cases hja : j < a.size
 ·have h3 := left_unit a b j hja (hv.2 j hja)
  rw [← h3.1]
  exact ha j (bd_left a b j hj (by omega)) hja
 ·obtain ⟨q,rfl⟩ : ∃ q,j = a.size + q := ⟨j - a.size,by omega⟩
  rw [right_uC]
  exact hb q (right_bd a b q hj) (by omega)
structure OneC (p : ByteArray) (k : Int) : Prop where
 valid : Valid p
 pos : 0 < p.size
 first : cls (uC p 0) = 0 ∨ cls (uC p 0) = 4
 inner : ∀ j,Bd p j → 0 < j → j < p.size → cls (uC p j) = 3
 cel : celB (uC p 0) = k
structure Good (d : ByteArray) (k : Int) : Prop where
 valid : Valid d
 cla : ∀ c ∈ clusL d,c.f2 = 0 ∨ c.f2 = 4
 sum : sumC (clusL d) = k
 draw : drawU d (clusL d) = d.data.toList
theorem OneC.endp {p : ByteArray} {k : Int} (h : OneC p k) : nxt p 0 = p.size := by
 have h1 := nxt_cb p 0 (bd_zero p) h.pos
 have h2 := nxt_pos p 0 h.pos
 have h3 := nxt_le p 0 (bd_zero p) h.pos
 by_cases he : nxt p 0 < p.size
 ·exfalso
  obtain ⟨y,hy,hye⟩ := bd_prev p _ h1.1 (by omega)
  have hp := uN_pos p y
  have hg := (cb_iff p _ y hy hye he).1 h1
  have hm := h.inner _ h1.1 (by omega) he
  rw [← Bool.not_eq_true,glue_iff] at hg
  have hy3 : cls (uC p y) ≠ 1 ∧ cls (uC p y) ≠ 2 := by
   rcases Nat.eq_zero_or_pos y with h0 | h0
   ·rw [h0];rcases h.first with h5 | h5 <;> omega
   ·have := h.inner y hy h0 (by omega);omega
  exact hg (.inr ⟨hm,hy3.1,hy3.2⟩)
 ·omega
theorem not_crlf {p : ByteArray} (h : cls (uC p 0) = 0 ∨ cls (uC p 0) = 4) : ¬ crlf p 0 := fun hq => by
 rw [hq.1,cls_cr] at h;omega
theorem OneC.clus {p : ByteArray} {k : Int} (h : OneC p k) : clusL p = [⟨0,(p.size : Int),cls (uC p 0),k⟩] := by
 have hn := not_crlf h.first
 rw [clusL_ctl,ctl_go p 0 h.pos,h.endp,ctl_end p _ (Nat.le_refl _)]
 unfold clAt clsAt celAt
 rw [if_neg hn,if_neg hn,h.endp,h.cel]
 rfl
theorem OneC.good {p : ByteArray} {k : Int} (h : OneC p k) : Good p k := by
 refine ⟨h.valid,?_,?_,?_⟩
 ·rw [h.clus];intro c hc;obtain rfl := List.mem_singleton.1 hc;exact h.first
 ·rw [h.clus];simp [sumC]
 ·rw [h.clus,drawU_cons,drawU_nil,List.append_nil]
  have h1 : ¬ cls (uC p 0) = 1 := by have := h.first;omega
  have h2 : ¬ cls (uC p 0) = 2 := by have := h.first;omega
  have h3 : ¬ cls (uC p 0) = 3 := by have := h.first;omega
  have h5 : ¬ cls (uC p 0) = 5 := by have := h.first;omega
  unfold drawB
  rw [if_neg h1,if_neg h2,if_neg h3,if_neg h5]
  show (p.extract 0 ((p.size : Int).toNat)).data.toList = _
  rw [Int.toNat_natCast,Lib.extract_data,List.drop_zero,Nat.sub_zero,List.take_of_length_le (by rw [← Lib.size_eq];exact Nat.le_refl _)]
def Seam (b : ByteArray) : Prop := 0 < b.size → uC b 0 ≠ 10 ∧ cls (uC b 0) ≠ 3
theorem OneC.seam {p : ByteArray} {k : Int} (h : OneC p k) : Seam p := fun _ => by
 refine ⟨fun e => ?_,?_⟩
 ·have := h.first;rw [e,cls_nl] at this;omega
 ·have := h.first;omega
theorem cls_plain (c : Int) (h : 32 ≤ c) (h2 : c < 127) : cls c = 0 := by
 have hl := cls_low c (by omega)
 unfold cls
 rw [if_neg (by omega),if_neg (by omega),if_neg (by omega),hl.1,hl.2,if_neg (by simp),if_neg (by simp)]
theorem cel_plain (c : Int) (h : cls c = 0) : celB c = 1 := by unfold celB;rw [h,if_neg (by omega),if_neg (by omega)]
theorem byt_one (b : UInt8) : byt ⟨#[b]⟩ 0 = b.toNat := rfl
theorem one_ascii (b : UInt8) (h : 32 ≤ b.toNat) (h2 : b.toNat < 127) : OneC ⟨#[b]⟩ 1 := by
 have hu : uC ⟨#[b]⟩ 0 = (b.toNat : Int) := (uC_low ⟨#[b]⟩ 0 b.toNat (by omega)).2 (byt_one b)
 have hc : cls (uC ⟨#[b]⟩ 0) = 0 := by rw [hu];exact cls_plain _ (by omega) (by omega)
 have hz : (⟨#[b]⟩ : ByteArray).size = 1 := rfl
 refine ⟨fun j _ hj => ?_,by omega,.inl hc,fun j _ h0 hj => by omega,cel_plain _ hc⟩
 obtain rfl : j = 0 := by omega
 rw [hu];omega
theorem fffd_unit : uC ⟨#[239,191,189]⟩ 0 = 65533 ∧ uN ⟨#[239,191,189]⟩ 0 = 3 := ⟨by kernel_rfl,by kernel_rfl⟩
theorem fffd_cls : cls 65533 = 0 := by kernel_rfl
theorem fffd_valid : Valid ⟨#[239,191,189]⟩ := fun j hb hj => by
 have hz : (⟨#[239,191,189]⟩ : ByteArray).size = 3 := rfl
 rcases Nat.eq_zero_or_pos j with h | h
 ·rw [h,fffd_unit.1];omega
 ·exfalso;exact not_bd_inner ⟨#[239,191,189]⟩ 0 j h (by rw [fffd_unit.2];omega) hb
theorem one_fffd (rest : ByteArray) (hv : Valid rest) (hm : ∀ j,Bd rest j → j < rest.size → cls (uC rest j) = 3) : OneC (⟨#[239,191,189]⟩ ++ rest) 1 := by
 have hz : (⟨#[239,191,189]⟩ : ByteArray).size = 3 := rfl
 have hs := size_two ⟨#[239,191,189]⟩ rest
 have hvb := valid_bd ⟨#[239,191,189]⟩ rest fffd_valid
 have hl := left_unit ⟨#[239,191,189]⟩ rest 0 (by omega) (hvb.2 0 (by omega))
 rw [fffd_unit.1,fffd_unit.2] at hl
 have hc : cls (uC (⟨#[239,191,189]⟩ ++ rest) 0) = 0 := by rw [← hl.1];exact fffd_cls
 refine ⟨valid_two _ _ fffd_valid hv,by omega,.inl hc,fun j hb h0 hj => ?_,cel_plain _ hc⟩
 by_cases h3 : j < 3
 ·exfalso;exact not_bd_inner _ 0 j h0 (by rw [← hl.2];omega) hb
 ·obtain ⟨q,rfl⟩ : ∃ q,j = (⟨#[239,191,189]⟩ : ByteArray).size + q := ⟨j - 3,by omega⟩
  rw [right_uC]
  exact hm q (right_bd _ _ q hb) (by omega)
theorem one_space (m : ByteArray) (hv : Valid m) (hm : ∀ j,Bd m j → j < m.size → cls (uC m j) = 3) : OneC (⟨#[32]⟩ ++ m) 1 := by
 have hz : (⟨#[32]⟩ : ByteArray).size = 1 := rfl
 have ho := one_ascii 32 (by decide) (by decide)
 have hs := size_two ⟨#[32]⟩ m
 have hvb := valid_bd ⟨#[32]⟩ m ho.valid
 have hl := left_unit ⟨#[32]⟩ m 0 (by omega) (hvb.2 0 (by omega))
 have hf : cls (uC (⟨#[32]⟩ ++ m) 0) = 0 := by
  rw [← hl.1]
  have hu : uC ⟨#[32]⟩ 0 = (32 : Int) := (uC_low ⟨#[32]⟩ 0 32 (by omega)).2 rfl
  rw [hu];exact cls_plain _ (by omega) (by omega)
 refine ⟨valid_two _ _ ho.valid hv,by omega,.inl hf,fun j hb h0 hj => ?_,cel_plain _ hf⟩
 obtain ⟨q,rfl⟩ : ∃ q,j = (⟨#[32]⟩ : ByteArray).size + q := ⟨j - 1,by omega⟩
 rw [right_uC]
 exact hm q (right_bd _ _ q hb) (by omega)
section
variable (s : ByteArray) (i t : Nat) (hi : Bd s i) (ht : Bd s t) (hit : i ≤ t)
theorem mid_unit (ht : Bd s t) (j : Nat) (h1 : i ≤ j) (h2 : j < t) : uC (s.extract i t) (j - i) = uC s j ∧ uN (s.extract i t) (j - i) = uN s j := by
 have hts := ht.1
 have hsz := size_extract s i t ht.1
 have hle := uN_le (s.extract i t) (j - i) (by omega)
 have hle2 := ht.2 j h2
 refine unit_eq s (s.extract i t) j (j - i) (fun k hk => ?_) (by omega) (fun k hk => ?_) (by omega)
 ·rw [byt_extract _ _ _ _ (by omega) ht.1];congr 1;omega
 ·rw [byt_extract _ _ _ _ (by omega) ht.1];congr 1;omega
theorem mid_bd (hi : Bd s i) (ht : Bd s t) (q : Nat) (hit : i ≤ t) (h : Bd (s.extract i t) q) : Bd s (i + q) ∧ i + q ≤ t := by
 have hts := ht.1
 have hsz := size_extract s i t ht.1
 have hq := h.1
 refine ⟨⟨by omega,fun j hj => ?_⟩,by omega⟩
 by_cases hji : j < i
 ·have := hi.2 j hji;omega
 ·have h2 := h.2 (j - i) (by omega)
  rw [(mid_unit s i t ht j (by omega) (by omega)).2] at h2
  omega
end
/-- Within a cluster,behind its first unit,there are marks alone,but for the newline behind a carriage return. -/
theorem inner_marks (s : ByteArray) (i : Nat) (hc : CB s i) (hi : i < s.size) (hq : ¬ crlf s i) : ∀ n j,j ≤ n → Bd s j → i < j → j < nxt s i → cls (uC s j) = 3 := by
 have hle := nxt_le s i hc.1 hi
 intro n
 induction n with
 | zero => intro j h1 _ h2;omega
 | succ n ih =>
  intro j hj hb h1 h2
  obtain ⟨y,hy,hyj⟩ := bd_prev s j hb (by omega)
  have hp := uN_pos s y
  have hyi : i ≤ y := by
   rcases Nat.lt_or_ge y i with h | h
   ·have := hc.1.2 y h;omega
   ·exact h
  have hn : ¬ CB s j := fun h => by have := nxt_least s i hc.1 hi j h h1;omega
  have hg : glueB (uC s y) (uC s j) = true := by
   cases h : glueB (uC s y) (uC s j) with
   | true => rfl
   | false => exact absurd ((cb_iff s j y hy hyj (by omega)).2 h) hn
  rcases (glue_iff _ _).1 hg with h3 | h3
  ·exfalso
   rcases Nat.lt_or_ge i y with h4 | h4
   ·have := ih y (by omega) hy h4 (by omega)
    rw [h3.1,cls_cr] at this;omega
   ·obtain rfl : y = i := by omega
    exact hq ⟨h3.1,by rw [hyj];omega,by rw [hyj];exact h3.2⟩
  ·exact h3.1
theorem cls_good (c : Int) (h : cls c ≠ 5) : 0 ≤ c := by
 unfold cls at h
 split at h
 ·omega
 ·omega
theorem one_mid (s : ByteArray) (i : Nat) (hc : CB s i) (hi : i < s.size) (hq : ¬ crlf s i) (hf : cls (uC s i) = 0 ∨ cls (uC s i) = 4) : OneC (s.extract i (nxt s i)) (celB (uC s i)) := by
 have h1 := nxt_pos s i hi
 have hn := nxt_cb s i hc.1 hi
 have hle := nxt_le s i hc.1 hi
 have hsz := size_extract s i (nxt s i) hle
 have h0 := (mid_unit s i (nxt s i) hn.1 i (Nat.le_refl _) (by omega)).1
 rw [Nat.sub_self] at h0
 have hin : ∀ j,Bd (s.extract i (nxt s i)) j → 0 < j → j < (s.extract i (nxt s i)).size → cls (uC (s.extract i (nxt s i)) j) = 3 := by
  intro j hb hj0 hj
  obtain ⟨hb2,_⟩ := mid_bd s i (nxt s i) hc.1 hn.1 j (by omega) hb
  have h2 := (mid_unit s i (nxt s i) hn.1 (i + j) (by omega) (by omega)).1
  rw [show i + j - i = j by omega] at h2
  rw [h2]
  exact inner_marks s i hc hi hq (i + j) (i + j) (Nat.le_refl _) hb2 (by omega) (by omega)
 refine ⟨fun j hb hj => ?_,by omega,by rw [h0];exact hf,hin,by rw [h0]⟩
 apply cls_good
 rcases Nat.eq_zero_or_pos j with h | h
 ·rw [h,h0];omega
 ·have := hin j hb h hj;omega
/-- The marks that stand in a cluster from x on. -/
theorem marks_mid (s : ByteArray) (i x : Nat) (hc : CB s i) (hi : i < s.size) (hq : ¬ crlf s i) (hx : Bd s x) (hix : i ≤ x) (hxt : x ≤ nxt s i) (hx0 : x = i → cls (uC s i) = 3) :
  Valid (s.extract x (nxt s i)) ∧ ∀ j,Bd (s.extract x (nxt s i)) j → j < (s.extract x (nxt s i)).size → cls (uC (s.extract x (nxt s i)) j) = 3 := by
 have hn := nxt_cb s i hc.1 hi
 have hle := nxt_le s i hc.1 hi
 have hsz := size_extract s x (nxt s i) hle
 have hm : ∀ j,Bd (s.extract x (nxt s i)) j → j < (s.extract x (nxt s i)).size → cls (uC (s.extract x (nxt s i)) j) = 3 := by
  intro j hb hj
  obtain ⟨hb2,_⟩ := mid_bd s x (nxt s i) hx hn.1 j hxt hb
  have h2 := (mid_unit s x (nxt s i) hn.1 (x + j) (by omega) (by omega)).1
  rw [show x + j - x = j by omega] at h2
  rw [h2]
  by_cases h3 : x + j = i
  ·have : x = i := by omega
   rw [h3];exact hx0 this
  ·exact inner_marks s i hc hi hq (x + j) (x + j) (Nat.le_refl _) hb2 (by omega) (by omega)
 refine ⟨fun j hb hj => cls_good _ (by have := hm j hb hj;omega),hm⟩
theorem encode_caret (k : Nat) (h : k < 32) : ∃ b : UInt8,b.toNat = k + 64 ∧ Utf8.encode ((k : Int) + 64) = ⟨#[b]⟩ := by
 refine ⟨UInt8.ofNat (k + 64),by rw [UInt8.toNat_ofNat'];omega,?_⟩
 have hv : Utf8.valid ((k : Int) + 64) = true := by unfold Utf8.valid;simp;omega
 unfold Utf8.encode
 simp only [hv,if_true]
 have : ((k : Int) + 64).toNat = k + 64 := by omega
 rw [this,if_pos (by omega)]
end Go.Proofs.YtnpjaaldppemlaaDoor.Pu
end
section
namespace Go.Proofs.YtnpjaaldppemlaaDoor.Pu
open Go Go.RowKit Go.Proofs.YtnpjaaldppemlaaDoor.Mu Go.Proofs.YtnpjaaldppemlaaDoor.U Go.Proofs.YtnpjaaldppemlaaDoorW.PrintWords Go.Proofs.YtnpjaaldppemlaaDoorW.PrintLast Go.Proofs.YtnpjaaldppemlaaDoorW.PrintMore
set_option linter.unusedVariables false
/-- One cluster's drawn text,by its cells and class. -/
def Kind (cls cel : Int) (d : ByteArray) : Prop := (cel = 0 ∧ d = ⟨#[]⟩) ∨ (cel = 1 ∧ OneC d 1) ∨ (cel = 2 ∧ cls = 4 ∧ OneC d 2) ∨ (cel = 2 ∧ cls ≠ 4 ∧ ∃ b : UInt8,33 ≤ b.toNat ∧ b.toNat < 127 ∧ d = (⟨#[94]⟩ : ByteArray) ++ ⟨#[b]⟩)
theorem drawn_kind (s : ByteArray) (i : Nat) (hc : CB s i) (hi : i < s.size) : Kind (clsAt s i) (celAt s i) (drawB s (clAt s i)) := by
 have e0 : (clAt s i).f0.toNat = i := Int.toNat_natCast i
 have e1 : (clAt s i).f1.toNat = nxt s i := Int.toNat_natCast _
 have e2 : (clAt s i).f2 = clsAt s i := rfl
 have h1 := nxt_pos s i hi
 have hle := nxt_le s i hc.1 hi
 have hsz := size_extract s i (nxt s i) hle
 have hlow := ctl_low s i
 unfold drawB
 rw [e0,e1,e2]
 by_cases hq : crlf s i
 ·have hcl : clsAt s i = 1 := by unfold clsAt;rw [if_pos hq]
  have hce : celAt s i = 0 := by unfold celAt;rw [if_pos hq]
  rw [if_pos hcl,hce]
  exact .inl ⟨rfl,rfl⟩
 have hcl : clsAt s i = cls (uC s i) := by unfold clsAt;rw [if_neg hq]
 have hce : celAt s i = celB (uC s i) := by unfold celAt;rw [if_neg hq]
 rw [hcl] at hlow ⊢
 rw [hce]
 have hC : celB (uC s i) = if cls (uC s i) = 1 then 0 else if cls (uC s i) = 4 ∨ (cls (uC s i) = 2 ∧ uC s i ≤ 127) then 2 else 1 := rfl
 by_cases q1 : cls (uC s i) = 1
 ·rw [if_pos q1,hC,if_pos q1]
  exact .inl ⟨rfl,rfl⟩
 rw [if_neg q1]
 by_cases q2 : cls (uC s i) = 2
 ·have hlo := hlow q2
  rw [if_pos q2]
  by_cases q7 : byt s i = 127
  ·rw [if_pos q7]
   have hu : uC s i = 127 := (uC_low s i 127 (by omega)).2 q7
   rw [hC,if_neg q1,if_pos (.inr ⟨q2,by omega⟩)]
   exact .inr (.inr (.inr ⟨rfl,by omega,63,by decide,by decide,rfl⟩))
  rw [if_neg q7]
  by_cases q8 : byt s i < 128
  ·have hu : uC s i = (byt s i : Nat) := (uC_low s i (byt s i) q8).2 rfl
   rw [if_pos q8,hC,if_neg q1,if_pos (.inr ⟨q2,by omega⟩)]
   obtain ⟨b,hb,he⟩ := encode_caret (byt s i) (by omega)
   rw [he]
   exact .inr (.inr (.inr ⟨rfl,by omega,b,by omega,by omega,rfl⟩))
  ·rw [if_neg q8,hC,if_neg q1,if_neg (by
    intro h
    rcases h with h | h
    ·omega
    ·have hp := cls_good (uC s i) (by omega)
     have := (uC_low s i (uC s i).toNat (by omega))
     rcases bad_or s i with h5 | h5 | h5
     ·have hr := uC_cases s i
      omega
     ·omega
     ·omega)]
   have := one_fffd ⟨#[]⟩ valid_nil (fun j _ h => absurd h (Nat.not_lt_zero _))
   have e : (⟨#[239,191,189]⟩ : ByteArray) ++ ⟨#[]⟩ = ⟨#[239,191,189]⟩ := rfl
   rw [e] at this
   exact .inr (.inl ⟨rfl,this⟩)
 rw [if_neg q2]
 by_cases q3 : cls (uC s i) = 3
 ·rw [if_pos q3,hC,if_neg q1,if_neg (by omega)]
  have hm := marks_mid s i i hc hi hq hc.1 (Nat.le_refl _) (by omega) (fun _ => q3)
  exact .inr (.inl ⟨rfl,one_space _ hm.1 hm.2⟩)
 rw [if_neg q3]
 by_cases q5 : cls (uC s i) = 5
 ·rw [if_pos q5,hC,if_neg q1,if_neg (by omega)]
  have hN : uN s i = 1 := by
   rcases uC_range s i with h | h
   ·exact h.2
   ·exfalso
    have hb : ¬ (uC s i < 0 ∨ uC s i > 1114111 ∨ (55296 ≤ uC s i ∧ uC s i ≤ 57343)) := by
     have hr := uC_cases s i
     have hlt := byt_lt s i
     omega
    unfold cls at q5
    rw [if_neg hb] at q5
    split at q5
    ·omega
    split at q5
    ·omega
    split at q5
    ·omega
    split at q5 <;> omega
  have hbn := bd_next s i hc.1 hi
  rw [hN] at hbn
  have hm := marks_mid s i (i + 1) hc hi hq hbn (by omega) (by omega) (fun h => by omega)
  have e : (s.extract i (nxt s i)).extract 1 (s.extract i (nxt s i)).size = s.extract (i + 1) (nxt s i) := by
   apply ByteArray.ext
   apply Array.toList_inj.1
   rw [Lib.extract_data,Lib.extract_data,Lib.extract_data,hsz,List.drop_take,List.drop_drop,List.take_take]
   congr 1
   omega
  rw [e]
  exact .inr (.inl ⟨rfl,one_fffd _ hm.1 hm.2⟩)
 rw [if_neg q5]
 have hf : cls (uC s i) = 0 ∨ cls (uC s i) = 4 := by
  have : 0 ≤ cls (uC s i) ∧ cls (uC s i) ≤ 5 := by unfold cls;repeat' split <;> omega
  omega
 have ho := one_mid s i hc hi hq hf
 rw [hC,if_neg q1] at ho ⊢
 by_cases q4 : cls (uC s i) = 4
 ·rw [if_pos (.inl q4)] at ho ⊢
  exact .inr (.inr (.inl ⟨rfl,q4,ho⟩))
 ·rw [if_neg (by omega)] at ho ⊢
  exact .inr (.inl ⟨rfl,ho⟩)
theorem cut_three (s : ByteArray) (a d : Nat) (h : a ≤ d) (hd : d ≤ s.size) : s.extract 0 a ++ (s.extract a d ++ s.extract d s.size) = s := by
 apply ByteArray.ext
 apply Array.toList_inj.1
 rw [data_app,data_app,Lib.extract_data,Lib.extract_data,Lib.extract_data,List.drop_zero,Nat.sub_zero]
 have e1 : (s.data.toList.drop d).take (s.size - d) = s.data.toList.drop d := List.take_of_length_le (by rw [List.length_drop,← Lib.size_eq];omega)
 rw [e1]
 have e2 : s.data.toList.drop d = (s.data.toList.drop a).drop (d - a) := by rw [List.drop_drop];congr 1;omega
 rw [e2,List.take_append_drop,List.take_append_drop]
theorem mid_cb (A P R : ByteArray) (ha : Bd (A ++ (P ++ R)) A.size) (hd : CB (A ++ (P ++ R)) (A.size + P.size)) (hp : 0 < P.size) : CB (P ++ R) P.size := by
 refine cb_right A (P ++ R) P.size hd hp (fun p hp2 he => ?_)
 have := ha.2 p hp2
 omega
/-- A cluster by itself: one cluster;what is drawn of it. -/
theorem piece_one (s : ByteArray) (i : Nat) (hc : CB s i) (hi : i < s.size) : clAt (s.extract i (nxt s i)) 0 = ⟨0,(nxt s i : Int) - i,clsAt s i,celAt s i⟩ ∧ clusL (s.extract i (nxt s i)) = [clAt (s.extract i (nxt s i)) 0] ∧ drawnS (s.extract i (nxt s i)) = drawB s (clAt s i) := by
 have h1 := nxt_pos s i hi
 have hle := nxt_le s i hc.1 hi
 have hC : CB s (nxt s i) := nxt_cb s i hc.1 hi
 have e := cut_three s i (nxt s i) (by omega) hle
 have e1 : (s.extract 0 i).size = i := by rw [size_extract _ _ _ (by omega)];omega
 have e2 : (s.extract i (nxt s i)).size = nxt s i - i := size_extract _ _ _ hle
 generalize s.extract 0 i = A at e e1
 generalize s.extract (nxt s i) s.size = R at e
 generalize hP : s.extract i (nxt s i) = P at e e2
 have hp : 0 < P.size := by omega
 have hb : Bd (A ++ (P ++ R)) A.size := by rw [e,e1];exact hc.1
 have hd : CB (A ++ (P ++ R)) (A.size + P.size) := by rw [e,e1,e2,show i + (nxt s i - i) = nxt s i by omega];exact hC
 have hCP := mid_cb A P R hb hd hp
 have hl := left_clAt P R hCP 0 hp (bd_zero _)
 have hr := right_clAt A (P ++ R) 0 (by rw [ByteArray.size_append];omega)
 have hd1 := draw_left P R 0 (bd_zero _) hp
 have hd2 := draw_right A (P ++ R) 0
 rw [Nat.add_zero,e,e1,hl] at hr
 rw [hl,e,e1,hd1] at hd2
 rw [← hr] at hd2
 have hn : nxt P 0 = P.size := by
  have := congrArg (·.f1) hr
  have h2 : (nxt s i : Int) = (i : Int) + (nxt P 0 : Int) := this
  omega
 have hk : clusL P = [clAt P 0] := by
  rw [clusL_ctl,ctl_go P 0 hp,hn,ctl_end P _ (Nat.le_refl _)]
 refine ⟨?_,hk,?_⟩
 ·have e3 := congrArg (·.f2) hr
  have e4 := congrArg (·.f3) hr
  have h3 : clsAt s i = clsAt P 0 := e3
  have h4 : celAt s i = celAt P 0 := e4
  rw [h3,h4]
  unfold clAt
  rw [hn,e2]
  have : ((nxt s i - i : Nat) : Int) = (nxt s i : Int) - i := by omega
  rw [← this]
  rfl
 ·unfold drawnS
  rw [hk,drawU_cons,drawU_nil,List.append_nil,hd2]
end Go.Proofs.YtnpjaaldppemlaaDoor.Pu
end
section
namespace Go.Proofs.YtnpjaaldppemlaaDoor.U
open Go.RowKit Go.Shelf Go.Proofs.YtnpjaaldppemlaaDoor.Mu Go.Proofs.YtnpjaaldppemlaaDoor.Pu Go.Proofs.YtnpjaaldppemlaaDoorW.PrintWords Go.Proofs.YtnpjaaldppemlaaDoorW.PrintLast Go.Proofs.YtnpjaaldppemlaaDoorW.PrintMore
set_option linter.unusedVariables false
set_option linter.unusedSimpArgs false
def ray2.T : Bool × List (List Nat × List Nat) := (true,[([],[]),([0],[0]),([1],[1]),([2],[2]),([],[]),([4],[4]),([5],[5]),([3,6],[3,6]),([],[]),([8,7,0,1,2,3,4,5,6,7,8],[7,8])])
def ray2.B : List Nat := [0,1,3,7,0,16,48,127,0,511]
theorem ray2.tab : rtab .any (opsOf Tryd.f13 2) = ray2.T := by kernel_rfl
theorem ray2.bits : waitsOk ray2.T.2 ray2.B = true := by kernel_rfl
def ray12.T : Bool × List (List Nat × List Nat) := (true,[([],[]),([0],[0]),([],[]),([2],[2]),([3],[3]),([4],[4]),([],[]),([5,6],[5,6]),([7],[7]),([8],[8]),([9],[9]),([1,10,9],[1,10]),([0,1,2,3,4,5,6,7,8,9,10,11],[]),([12,11,11,0,1,2,3,4,5,6,7,8,9,10,11],[11,12])])
def ray12.B : List Nat := [0,1,0,4,12,28,0,124,252,508,1020,2047,4095,8191]
theorem ray12.tab : rtab .any (opsOf Tryd.f13 12) = ray12.T := by kernel_rfl
theorem ray12.bits : waitsOk ray12.T.2 ray12.B = true := by kernel_rfl
end Go.Proofs.YtnpjaaldppemlaaDoor.U
end
section
namespace Go.Proofs.YtnpjaaldppemlaaDoor.U
open Go.RowKit Go.Shelf Go.Proofs.YtnpjaaldppemlaaDoor.Mu Go.Proofs.YtnpjaaldppemlaaDoor.Pu Go.Proofs.YtnpjaaldppemlaaDoorW.PrintWords Go.Proofs.YtnpjaaldppemlaaDoorW.PrintLast Go.Proofs.YtnpjaaldppemlaaDoorW.PrintMore
set_option linter.unusedVariables false
/-- A width as it counts. -/
def cntW (width : Int) : Int := mn (mx width 1) 65535
/-- The grid behind a prompt. -/
def st0L (p : ByteArray) (width : Int) : Ly := layL (cntW width) p ([],[]) (clusL p)
/-- The grid behind a text,and the cursor's place. -/
def endL (p t : ByteArray) (cursor width : Int) : Ly × (Int × Int) := atL (cntW width) t cursor (st0L p width,(st0L p width).place) (clusL t)
def rowsL (p t : ByteArray) (cursor width : Int) : List (List Cl) := ((endL p t cursor width).1.1 ++ [(endL p t cursor width).1.2]).map trimR
def layout_Lay.f (a0 a1 : ByteArray) (a2 a3 : Int) : Option (Int × List (List Cl) × Int × Int) := if a0.size ≤ 34359738368 ∧ a1.size ≤ 34359738368 then some (cntW a3,rowsL a0 a1 (if a2 < 0 then 0 else a2) a3,(endL a0 a1 (if a2 < 0 then 0 else a2) a3).2.1,(endL a0 a1 (if a2 < 0 then 0 else a2) a3).2.2) else none
theorem held_w (a : Int) : layout_held.f a = some (cntW a) := rfl
theorem layout_Lay.calls (a0 a1 : ByteArray) (a2 a3 : Int) (r1 : Int) (r2 : List (List Cl)) (r3 r4 : Int) (w : World) (hT : Lib.Utf8Tabs 0 1 w) (h : layout_Lay.f a0 a1 a2 a3 = some (r1,r2,r3,r4)) :
  Calls Tryd.prog 14 #[.string a0,.string a1,.int .i64 a2,.int .i64 a3] w fun e w' => ∃ v1_ : Value,e = .returned (.agg #[.int .i64 r1,v1_,.int .i64 r3,.int .i64 r4]) ∧ Kd.S (Kd.slice 35 k35) 33 w' w.heap.size (fun _ => True) v1_ r2 ∧ Below w.heap.size w w' := by
 unfold layout_Lay.f at h
 split at h
 ·rename_i hs
  cases h
  exact lay_any a0 a1 a2 a3 (cntW a3) w (by omega) (by omega) (held_w a3) hT _ rfl _ rfl _ (Lib.hid rfl)
 ·cases h
end Go.Proofs.YtnpjaaldppemlaaDoor.U
end
