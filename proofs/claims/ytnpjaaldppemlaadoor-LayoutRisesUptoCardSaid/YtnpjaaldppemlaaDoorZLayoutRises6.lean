/- What the law LayoutRises reaches of this seat's own texts, merged; what nothing uses is left out. -/
import Derived.Test.YtnpjaaldppemlaaDoorZLayoutRises0
import Derived.Test.YtnpjaaldppemlaaDoorZLayoutRises1
import Derived.Test.YtnpjaaldppemlaaDoorZLayoutRises3
import Derived.Test.YtnpjaaldppemlaaDoorZLayoutRises4
import Derived.Test.YtnpjaaldppemlaaDoorZLayoutRises5
section
namespace Go.Proofs.YtnpjaaldppemlaaDoor.U
open Go.RowKit Go.Proofs.YtnpjaaldppemlaaDoorW.PrintWords Go.Proofs.YtnpjaaldppemlaaDoorW.PrintLast Go.Proofs.YtnpjaaldppemlaaDoorW.PrintMore
set_option linter.unusedVariables false
set_option linter.unusedSimpArgs false
attribute [local go_sem high] cell_eq
/-- The rows while the first i are trimmed. -/
def mixR (rows : List (List Cl)) (i : Nat) : List (List Cl) := (rows.take i).map trimR ++ rows.drop i
theorem mixR_get (rows : List (List Cl)) (i : Nat) (h : i < rows.length) : (mixR rows i).getD i [] = rows.getD i [] := by
 unfold mixR
 rw [List.getD_eq_getElem?_getD,List.getD_eq_getElem?_getD,List.getElem?_append_right (by simp;omega),List.getElem?_drop]
 simp
 congr 2
 omega
theorem mixR_set (rows : List (List Cl)) (i : Nat) (h : i < rows.length) : setRow (mixR rows i) i (trimR (rows.getD i [])) = mixR rows (i + 1) := by
 unfold mixR setRow
 apply List.ext_getElem?
 intro j
 rw [List.getElem?_set]
 by_cases hj : i = j
 ·subst hj
  rw [if_pos rfl,if_pos (by simp;omega),List.getElem?_append_left (by simp;omega),List.getElem?_map,List.getElem?_take,if_pos (by omega)]
  rw [List.getD_eq_getElem?_getD,List.getElem?_eq_getElem h]
  rfl
 ·rw [if_neg hj]
  by_cases hlt : j < i
  ·rw [List.getElem?_append_left (by simp;omega),List.getElem?_append_left (by simp;omega),List.getElem?_map,List.getElem?_map,List.getElem?_take,List.getElem?_take,if_pos hlt,if_pos (by omega)]
  ·rw [List.getElem?_append_right (by simp;omega),List.getElem?_append_right (by simp;omega),List.getElem?_drop,List.getElem?_drop]
   congr 1
   simp
   omega
theorem mixR_all (rows : List (List Cl)) : mixR rows rows.length = rows.map trimR := by unfold mixR;simp
theorem mixR_none (rows : List (List Cl)) : mixR rows 0 = rows := by unfold mixR;simp
def lenOf : Value → Nat
 | .slice _ n _ => n
 | _ => 0
theorem wrap_nat {m : Nat} (h : m ≤ 1099511627776) : wrap64 (m : Int) = (m : Int) := by unfold wrap64;omega
theorem wrap_pred {m : Nat} (h : m ≤ 1099511627776) : IntKind.i64.wrap (((m + 1 : Nat) : Int) - 1) = (m : Int) := (i64_w _).trans (by unfold wrap64;omega)
theorem wrap_succ {m : Nat} (h : m ≤ 1099511627776) : IntKind.i64.wrap ((m : Int) + 1) = ((m + 1 : Nat) : Int) := (i64_w _).trans (by unfold wrap64;omega)
theorem meas_lt {n i : Nat} (h : i < n) : n - (intOf (.int .i64 ((i + 1 : Nat) : Int))).toNat < n - (intOf (.int .i64 (i : Int))).toNat := by simp [intOf];omega
theorem put4 {w : World} {b t : Nat} {a0 a1 a2 a3 b0 b1 b2 b3 : Value} (h : w.heap[b]? = some (.cells #[a0,a1,a2,a3] t (0,0))) : ((((w.setCell ⟨b,0,none⟩ b0).setCell ⟨b,1,none⟩ b1).setCell ⟨b,2,none⟩ b2).setCell ⟨b,3,none⟩ b3).heap[b]? = some (.cells #[b0,b1,b2,b3] t (0,0)) :=
 blk_put (cs := #[b0,b1,b2,a3]) (blk_put (cs := #[b0,b1,a2,a3]) (blk_put (cs := #[b0,a1,a2,a3]) (blk_put (cs := #[a0,a1,a2,a3]) h 0 _ rfl) 1 _ rfl) 2 _ rfl) 3 _ rfl
def fr4.T : Bool × List (List Nat × List Nat) := (true,[([],[]),([0],[0]),([1],[1]),([2],[2]),([3],[3]),([3],[3]),([5,3],[3,5]),([6,3],[3,6]),([4,7,3],[3,4,7]),([8,3],[3,8]),([3,3],[3]),([9,10,3],[3,9,10]),([3,11],[3,11])])
def fr4.B : List Nat := [0,1,3,7,15,15,47,111,255,511,15,2047,4095]
theorem fr4.tab : rtab .any (opsOf Tryd.f37 4) = fr4.T := by kernel_rfl
theorem fr4.bits : waitsOk fr4.T.2 fr4.B = true := by kernel_rfl
def fr6.T : Bool × List (List Nat × List Nat) := (true,[([],[]),([0],[0]),([1],[1]),([2],[2]),([],[]),([],[]),([5],[5]),([3,4,0,1,2,3,4,5,6],[3,4]),([7,6,6,0,1,2,3,4,5,6],[6,7])])
def fr6.B : List Nat := [0,1,3,7,0,0,32,127,255]
theorem fr6.tab : rtab .any (opsOf Tryd.f37 6) = fr6.T := by kernel_rfl
theorem fr6.bits : waitsOk fr6.T.2 fr6.B = true := by kernel_rfl
def fr8.T : Bool × List (List Nat × List Nat) := (true,[([],[]),([0],[0]),([1],[1]),([2],[2]),([],[]),([4],[4]),([5],[5]),([6],[6]),([],[]),([3,7,8],[3,7,8]),([9,0,1,2,3,4,5,6,7,8,9],[9])])
def fr8.B : List Nat := [0,1,3,7,0,16,48,112,0,511,1023]
theorem fr8.tab : rtab .any (opsOf Tryd.f37 8) = fr8.T := by kernel_rfl
theorem fr8.bits : waitsOk fr8.T.2 fr8.B = true := by kernel_rfl
set_option maxRecDepth 100000 in
set_option maxHeartbeats 8000000 in
theorem gr_frame {base p : Nat} {ok : Nat → Prop} {W : World} {wd r c : Int} {rows : List (List Cl)} (h : GridAt 65 base p ok W wd rows r c) (hf : ∀ k,W.heap.size ≤ k → ok k) (hb : base ≤ W.heap.size) (hr0 : 0 < rows.length) (hl : rows.length ≤ 1099511627776) (hrl : ∀ i,(rows.getD i []).length ≤ 1099511627776) (a b : Int) :
  Calls Tryd.prog 37 #[.pointer (some ⟨p,0,none⟩),.agg #[.int .i64 a,.int .i64 b]] W fun e w' => ∃ rv,e = .returned (.agg #[.int .i64 wd,rv,.int .i64 a,.int .i64 b]) ∧ Kd.S kRow 33 w' base ok rv (rows.map trimR) ∧ Below base W w' ∧ Kept W w' (fun k => ok k ∨ k = p) := by
 obtain ⟨⟨rv,hp,hS⟩,hlow,hne⟩ := h
 obtain ⟨g,cap,rfl,hg0,hglt,cells,hgc⟩ := Kd.S_form hS hr0
 have hpl := blk_lt hp
 have hpg : p ≠ g := fun he => by subst he;exact hne (hS.own_ok p rfl)
 go_enter Tryd.func37,Tryd.ntmps37
 obtain ⟨W1,hW1⟩ : ∃ W1,(W.alloc (.cells #[.int .i64 a,.int .i64 b] 27 (0,0))).alloc (.cells #[.int .i64 0,.slice none 0 0,.int .i64 0,.int .i64 0] 29 (0,0)) = W1 := ⟨_,rfl⟩
 have hb1 : Below W.heap.size W W1 := by rw [← hW1];exact below_alloc (below_alloc (Below.refl _ _) _) _
 have hq1 : W1.heap[W.heap.size]? = some (.cells #[.int .i64 a,.int .i64 b] 27 (0,0)) := by rw [← hW1];exact blk_alloc (World.alloc_heap_new W _) _
 have hz1 : W1.heap[W.heap.size + 1]? = some (.cells #[.int .i64 0,.slice none 0 0,.int .i64 0,.int .i64 0] 29 (0,0)) := by
  rw [← hW1]
  have := World.alloc_heap_new (W.alloc (.cells #[.int .i64 a,.int .i64 b] 27 (0,0))) (.cells #[.int .i64 0,.slice none 0 0,.int .i64 0,.int .i64 0] 29 (0,0))
  rwa [World.size_alloc] at this
 have hp1 := (hb1.block p hpl).trans hp
 have hS1 : Kd.S kRow 33 W1 base (fun k => ok k ∧ k ≠ W.heap.size ∧ k ≠ W.heap.size + 1) (.slice (some ⟨g,0,none⟩) rows.length cap) rows := Kd.S_mono (Kd.S_old hS hb1) (fun k hk => ⟨hk.1,by have := hk.2;omega,by have := hk.2;omega⟩)
 have hB1 := hb1.mono hb
 have hgok : ok g := hS.own_ok g rfl
 have hK1 := Kept.of_below hb1 (fun k => ok k ∨ k = p)
 have c1 : W1.cell? ⟨p,1,none⟩ = some (.slice (some ⟨g,0,none⟩) rows.length cap) := (blk_cell hp1 1).trans rfl
 go_upto_region 1 with (fail)
 try rw [hW1]
 clear hW1 hS hgc
 have hmx : mixR rows 0 = rows := mixR_none rows
 go_wp2
 go_loopw [12] (fun v12 wr => ∃ (i : Nat),v12 = .int .i64 i ∧ i ≤ rows.length ∧ Below base W wr ∧ Kept W wr (fun k => ok k ∨ k = p) ∧ W1.heap.size ≤ wr.heap.size ∧ wr.heap[W.heap.size]? = some (.cells #[.int .i64 a,.int .i64 b] 27 (0,0)) ∧
   wr.heap[W.heap.size + 1]? = some (.cells #[.int .i64 0,.slice none 0 0,.int .i64 0,.int .i64 0] 29 (0,0)) ∧
   wr.heap[p]? = some (.cells #[.int .i64 wd,.slice (some ⟨g,0,none⟩) rows.length cap,.int .i64 r,.int .i64 c] 65 (0,0)) ∧
   Kd.S kRow 33 wr base (fun k => ok k ∧ k ≠ W.heap.size ∧ k ≠ W.heap.size + 1) (.slice (some ⟨g,0,none⟩) rows.length cap) (mixR rows i))
  (fun v _ => rows.length - (intOf v).toNat)
 case atStart => exact ⟨0,rfl,Nat.zero_le _,hB1,hK1,Nat.le_refl _,hq1,hz1,hp1,by rw [hmx];exact hS1⟩
 case round =>
  obtain ⟨i,rfl,hi,hB,hKw,hsz,hq,hz,hpw,hSw⟩ := hrel
  have hWs := hb1.size
  clear hS1 hB1 hq1 hz1 hp1 c1 hmx hp hK1
  by_cases hlt : i < rows.length
  ·have hlt' : (i : Int) < (rows.length : Int) := by omega
   obtain ⟨oki,ce,hcl,hM,hcc,hfr,hoki,hH⟩ := Kd.S_elem hSw [] (i : Int) (by omega) hlt'
   rw [Int.toNat_natCast,mixR_get rows i hlt] at hM
   have hlL := hrl i
   have hset := mixR_set rows i hlt
   generalize rows.getD i [] = L at hM hlL hset
   obtain ⟨iv,rfl,hIR⟩ := hM
   obtain ⟨A1,cc1,rfl⟩ := Kd.R_slice hIR
   have hkz : (kRow).sz = 1 := rfl
   have hin : wr.cell? ⟨g,i,none⟩ = some (.slice A1 L.length cc1) := by have h_ := hcc 0 _ rfl;rwa [hkz,Nat.mul_one,Nat.add_zero,Int.toNat_natCast] at h_
   have hCL := (Kd.R_reads' hIR).2.2
   have hcL := (Kd.R_reads' hIR).2.1
   clear hcc hfr hcl hSw
   go_upto_block 2 with (fail)
   go_cut [6] from 14 to 34 (fun v6 w2 => ∃ (m : Nat),v6 = .slice A1 m cc1 ∧ m ≤ L.length ∧ Hid (trimN L L.length = m) ∧ Below wr.heap.size wr w2)
   case first =>
    clear hH hin hset
    go_wp2_with (fail)
    go_loopw [6] (fun v6 w2 => ∃ (m : Nat),v6 = .slice A1 m cc1 ∧ m ≤ L.length ∧ Hid (trimN L L.length = trimN L m) ∧ Below wr.heap.size wr w2)
     (fun v _ => lenOf v)
    case atStart => exact ⟨L.length,rfl,Nat.le_refl _,Lib.hid rfl,Below.refl _ _⟩
    case round =>
     obtain ⟨m,rfl,hm,hT,hB3⟩ := hrel
     cases m with
     | zero =>
      go_upto_region 4 with (fail)
      refine start_ (n := 13) (S := fun w' => True) (ds := []) #[false,false,false,false,false,false,false,false,false,false,false,false,false] (by kernel_rfl) rfl rfl trivial (fun hHeld => ?_);refine with_tabW fr4.tab fr4.bits (fun HT_ HW_ => ?_)
      have hB4 := below_drew1 hB3
      generalize wr.drew = w4 at hB4 hHeld ⊢
      clear hB3
      refine pure_ (i := 0) (N := (some 17)) (v := ?_) (a' := ?_) #[true,false,false,false,false,false,false,false,false,false,false,false,false] rfl rfl (any_of HT_.out (by kernel_rfl)) (fun _ _ _ h => h) (Or.inl ⟨by rfl,?_⟩) ?_ ?_
      rotate_left
      ·intro w'
       go_simp
       with_reducible rfl
      rotate_left
      ·simp only [Act.put,List.setIfInBounds_toArray,List.set_cons_zero,List.set_cons_succ,i64_w,i32_w]
       rfl
      refine pure_ (i := 1) (N := (some 18)) (v := ?_) (a' := ?_) #[true,true,false,false,false,false,false,false,false,false,false,false,false] rfl rfl (any_of HT_.out (by kernel_rfl)) (fun _ _ _ h => h) (Or.inl ⟨by rfl,?_⟩) ?_ ?_
      rotate_left
      ·intro w'
       go_simp
       with_reducible rfl
      rotate_left
      ·simp only [Act.put,List.setIfInBounds_toArray,List.set_cons_zero,List.set_cons_succ,i64_w,i32_w]
       rfl
      refine pure_ (i := 2) (N := (some 19)) (v := ?_) (a' := ?_) #[true,true,true,false,false,false,false,false,false,false,false,false,false] rfl rfl (any_of HT_.out (by kernel_rfl)) (fun _ _ _ h => h) (Or.inl ⟨by rfl,?_⟩) ?_ ?_
      rotate_left
      ·intro w'
       go_simp
       with_reducible rfl
      rotate_left
      ·simp only [Act.put,List.setIfInBounds_toArray,List.set_cons_zero,List.set_cons_succ,i64_w,i32_w]
       rfl
      refine pure_ (i := 3) (N := (some 20)) (v := ?_) (a' := ?_) #[true,true,true,true,false,false,false,false,false,false,false,false,false] rfl rfl (any_of HT_.out (by kernel_rfl)) (fun _ _ _ h => h) (Or.inl ⟨by rfl,?_⟩) ?_ ?_
      rotate_left
      ·intro w'
       go_simp
       with_reducible rfl
      rotate_left
      ·simp only [Act.put,List.setIfInBounds_toArray,List.set_cons_zero,List.set_cons_succ,i64_w,i32_w]
       rfl
      refine pure_ (i := 4) (N := (some 21)) (v := undef) (a' := ?_) #[true,true,true,true,true,false,false,false,false,false,false,false,false] rfl rfl (any_of HT_.out (by kernel_rfl)) (fun _ _ _ h => h) (Or.inr ⟨by rfl,rfl⟩) ?_ ?_
      rotate_left
      ·simp only [Act.put,List.setIfInBounds_toArray,List.set_cons_zero,List.set_cons_succ,i64_w,i32_w]
       rfl
      refine pure_ (i := 5) (N := (some 22)) (v := undef) (a' := ?_) #[true,true,true,true,true,true,false,false,false,false,false,false,false] rfl rfl (any_of HT_.out (by kernel_rfl)) (fun _ _ _ h => h) (Or.inr ⟨by rfl,rfl⟩) ?_ ?_
      rotate_left
      ·simp only [Act.put,List.setIfInBounds_toArray,List.set_cons_zero,List.set_cons_succ,i64_w,i32_w]
       rfl
      refine pure_ (i := 6) (N := (some 23)) (v := undef) (a' := ?_) #[true,true,true,true,true,true,true,false,false,false,false,false,false] rfl rfl (any_of HT_.out (by kernel_rfl)) (fun _ _ _ h => h) (Or.inr ⟨by rfl,rfl⟩) ?_ ?_
      rotate_left
      ·simp only [Act.put,List.setIfInBounds_toArray,List.set_cons_zero,List.set_cons_succ,i64_w,i32_w]
       rfl
      refine pure_ (i := 7) (N := (some 24)) (v := undef) (a' := ?_) #[true,true,true,true,true,true,true,true,false,false,false,false,false] rfl rfl (any_of HT_.out (by kernel_rfl)) (fun _ _ _ h => h) (Or.inr ⟨by rfl,rfl⟩) ?_ ?_
      rotate_left
      ·simp only [Act.put,List.setIfInBounds_toArray,List.set_cons_zero,List.set_cons_succ,i64_w,i32_w]
       rfl
      refine pure_ (i := 8) (N := (some 25)) (v := undef) (a' := ?_) #[true,true,true,true,true,true,true,true,true,false,false,false,false] rfl rfl (any_of HT_.out (by kernel_rfl)) (fun _ _ _ h => h) (Or.inr ⟨by rfl,rfl⟩) ?_ ?_
      rotate_left
      ·simp only [Act.put,List.setIfInBounds_toArray,List.set_cons_zero,List.set_cons_succ,i64_w,i32_w]
       rfl
      refine pure_ (i := 9) (N := (some 26)) (v := undef) (a' := ?_) #[true,true,true,true,true,true,true,true,true,true,false,false,false] rfl rfl (any_of HT_.out (by kernel_rfl)) (fun _ _ _ h => h) (Or.inr ⟨by rfl,rfl⟩) ?_ ?_
      rotate_left
      ·simp only [Act.put,List.setIfInBounds_toArray,List.set_cons_zero,List.set_cons_succ,i64_w,i32_w]
       rfl
      refine pure_ (i := 10) (N := (some 27)) (v := undef) (a' := ?_) #[true,true,true,true,true,true,true,true,true,true,true,false,false] rfl rfl (any_of HT_.out (by kernel_rfl)) (fun _ _ _ h => h) (Or.inr ⟨by rfl,rfl⟩) ?_ ?_
      rotate_left
      ·simp only [Act.put,List.setIfInBounds_toArray,List.set_cons_zero,List.set_cons_succ,i64_w,i32_w]
       rfl
      refine pure_ (i := 11) (N := (some 28)) (v := undef) (a' := ?_) #[true,true,true,true,true,true,true,true,true,true,true,true,false] rfl rfl (any_of HT_.out (by kernel_rfl)) (fun _ _ _ h => h) (Or.inr ⟨by rfl,rfl⟩) ?_ ?_
      rotate_left
      ·simp only [Act.put,List.setIfInBounds_toArray,List.set_cons_zero,List.set_cons_succ,i64_w,i32_w]
       rfl
      refine pure_ (i := 12) (N := (some 29)) (v := ?_) (a' := ?_) #[true,true,true,true,true,true,true,true,true,true,true,true,true] rfl rfl (any_of HT_.out (by kernel_rfl)) (fun _ _ _ h => h) (Or.inl ⟨by rfl,?_⟩) ?_ ?_
      rotate_left
      ·intro w'
       go_simp
       with_reducible rfl
      rotate_left
      ·simp only [Act.put,List.setIfInBounds_toArray,List.set_cons_zero,List.set_cons_succ,i64_w,i32_w]
       rfl
      refine done_ (done_of HT_.out (by kernel_rfl)) ?_
      clear HT_ HW_
      go_wp2
      go_meet
      case rel => exact ⟨0,rfl,Nat.zero_le _,Lib.hid (hT.out.trans rfl),hB4⟩
     | succ m =>
      have hmb : m ≤ 1099511627776 := by omega
      have hpos := decide_eq_true (show (0 : Int) < ((m + 1 : Nat) : Int) by omega)
      have hltm : (m : Int) < (L.length : Int) := by omega
      have hlt1 := eq_true (show (m : Int) < (m : Int) + 1 by omega)
      have hle0 := eq_true (show (0 : Int) ≤ (m : Int) by omega)
      have hle1 := eq_true (show (m : Int) ≤ (cc1 : Int) by omega)
      obtain ⟨ad,rfl,c0,c1⟩ := at_T35 (Kd.C_below hCL (below_drew1 hB3)) (m : Int) (Int.natCast_nonneg _) hltm
      obtain ⟨bb,hbb⟩ : ∃ bb,isBl (rd_T35 L (m : Int)) = bb := ⟨_,rfl⟩
      have hT := Lib.hid (hT.out.trans (by rw [trimN,hbb]))
      unfold isBl at hbb
      generalize rd_T35 L (m : Int) = x at c0 c1 hbb
      rw [Int.toNat_natCast] at c0 c1
      have hw2 := wrap_nat hmb
      have hw := wrap_pred hmb
      go_upto_region 4 with (fail)
      refine start_ (n := 13) (S := fun w' => w'.cell? (ad.add (m * 2)) = some (.string x.f0) ∧ w'.cell? ⟨(ad.add (m * 2)).block,(ad.add (m * 2)).off + 1,none⟩ = some (.int .i64 x.f1)) (ds := []) #[false,false,false,false,false,false,false,false,false,false,false,false,false] (by kernel_rfl) rfl rfl ⟨c0,c1⟩ (fun hHeld => ?_);refine with_tabW fr4.tab fr4.bits (fun HT_ HW_ => ?_)
      have hB4 := below_drew1 hB3
      generalize wr.drew = w4 at hB4 c0 c1 hHeld ⊢
      clear hB3
      refine pure_ (i := 0) (N := (some 17)) (v := ?_) (a' := ?_) #[true,false,false,false,false,false,false,false,false,false,false,false,false] rfl rfl (any_of HT_.out (by kernel_rfl)) (fun _ _ _ h => h) (Or.inl ⟨by rfl,?_⟩) ?_ ?_
      rotate_left
      ·intro w'
       go_simp
       with_reducible rfl
      rotate_left
      ·simp only [Act.put,List.setIfInBounds_toArray,List.set_cons_zero,List.set_cons_succ,i64_w,i32_w]
       rfl
      refine pure_ (i := 1) (N := (some 18)) (v := ?_) (a' := ?_) #[true,true,false,false,false,false,false,false,false,false,false,false,false] rfl rfl (any_of HT_.out (by kernel_rfl)) (fun _ _ _ h => h) (Or.inl ⟨by rfl,?_⟩) ?_ ?_
      rotate_left
      ·intro w'
       go_simp
       with_reducible rfl
      rotate_left
      ·simp only [Act.put,List.setIfInBounds_toArray,List.set_cons_zero,List.set_cons_succ,i64_w,i32_w]
       rfl
      refine pure_ (i := 2) (N := (some 19)) (v := ?_) (a' := ?_) #[true,true,true,false,false,false,false,false,false,false,false,false,false] rfl rfl (any_of HT_.out (by kernel_rfl)) (fun _ _ _ h => h) (Or.inl ⟨by rfl,?_⟩) ?_ ?_
      rotate_left
      ·intro w'
       go_simp
       with_reducible rfl
      rotate_left
      ·simp only [Act.put,List.setIfInBounds_toArray,List.set_cons_zero,List.set_cons_succ,i64_w,i32_w]
       rfl
      refine pure_ (i := 3) (N := (some 20)) (v := ?_) (a' := ?_) #[true,true,true,true,false,false,false,false,false,false,false,false,false] rfl rfl (any_of HT_.out (by kernel_rfl)) (fun _ _ _ h => h) (Or.inl ⟨by rfl,?_⟩) ?_ ?_
      rotate_left
      ·intro w'
       go_simp
       with_reducible rfl
      rotate_left
      ·simp only [Act.put,List.setIfInBounds_toArray,List.set_cons_zero,List.set_cons_succ,i64_w,i32_w]
       rfl
      refine pure_ (i := 4) (N := (some 21)) (v := ?_) (a' := ?_) #[true,true,true,true,true,false,false,false,false,false,false,false,false] rfl rfl (any_of HT_.out (by kernel_rfl)) (fun _ _ _ h => h) (Or.inl ⟨by rfl,?_⟩) ?_ ?_
      rotate_left
      ·intro w'
       go_simp
       with_reducible rfl
      rotate_left
      ·simp only [Act.put,List.setIfInBounds_toArray,List.set_cons_zero,List.set_cons_succ,i64_w,i32_w]
       rfl
      refine pure_ (i := 5) (N := (some 22)) (v := ?_) (a' := ?_) #[true,true,true,true,true,true,false,false,false,false,false,false,false] rfl rfl (any_of HT_.out (by kernel_rfl)) (fun _ _ _ h => h) (Or.inl ⟨by rfl,?_⟩) ?_ ?_
      rotate_left
      ·intro w'
       go_simp
       with_reducible rfl
      rotate_left
      ·simp only [Act.put,List.setIfInBounds_toArray,List.set_cons_zero,List.set_cons_succ,i64_w,i32_w]
       rfl
      refine pure_ (i := 6) (N := (some 23)) (v := ?_) (a' := ?_) #[true,true,true,true,true,true,true,false,false,false,false,false,false] rfl rfl (any_of HT_.out (by kernel_rfl)) (fun _ _ _ h => h) (Or.inl ⟨by rfl,?_⟩) ?_ ?_
      rotate_left
      ·intro w'
       go_simp
       with_reducible rfl
      rotate_left
      ·simp only [Act.put,List.setIfInBounds_toArray,List.set_cons_zero,List.set_cons_succ,i64_w,i32_w]
       rfl
      refine pure_ (i := 7) (N := (some 24)) (v := ?_) (a' := ?_) #[true,true,true,true,true,true,true,true,false,false,false,false,false] rfl rfl (any_of HT_.out (by kernel_rfl)) (fun _ _ _ h => h) (Or.inl ⟨by rfl,?_⟩) ?_ ?_
      rotate_left
      ·intro w'
       go_simp
       with_reducible rfl
      rotate_left
      ·simp only [Act.put,List.setIfInBounds_toArray,List.set_cons_zero,List.set_cons_succ,i64_w,i32_w]
       rfl
      refine pure_ (i := 8) (N := (some 25)) (v := ?_) (a' := ?_) #[true,true,true,true,true,true,true,true,true,false,false,false,false] rfl rfl (any_of HT_.out (by kernel_rfl)) (fun _ _ _ h => h) (Or.inl ⟨by rfl,?_⟩) ?_ ?_
      rotate_left
      ·intro w'
       go_simp
       with_reducible rfl
      rotate_left
      ·simp only [Act.put,List.setIfInBounds_toArray,List.set_cons_zero,List.set_cons_succ,i64_w,i32_w]
       rfl
      refine take_ (i := 9) (N := (some 26)) (v := ?_) (a' := ?_) #[true,true,true,true,true,true,true,true,true,true,false,false,false] rfl rfl (take_ofW HT_.out HW_.out (by kernel_rfl)) (fun _ _ _ h => h) (Or.inl ⟨by rfl,?_⟩) hHeld ?_ ?_
      rotate_left
      ·rintro w' ⟨s1,s2⟩
       go_simp
       with_reducible rfl
      rotate_left
      ·simp only [Act.put,List.setIfInBounds_toArray,List.set_cons_zero,List.set_cons_succ,i64_w,i32_w]
       rfl
      refine one_ (i := 10) (N := (some 27)) #[true,true,true,true,true,true,true,true,true,true,true,false,false] rfl rfl (one_of HT_.out (by kernel_rfl)) (by decide) (fun K hK => ?_)
      refine goes_ Tryd.func57 (by kernel_rfl) rfl #[] (by rfl) rfl rfl (by (try simp only [List.map_toArray,List.map_cons,List.map_nil]);first | done | rfl) ?_
      refine (layout_blank.calls _ _ _ rfl).mono ?_
      rintro e w5 ⟨rfl,hb5⟩
      have hB5 := hB4.trans (hb5.mono hB4.size)
      have s1_ := cell_below hHeld.1 hb5
      have s2_ := cell_below hHeld.2 hb5
      refine ⟨_,rfl,?_⟩
      refine hK.out _ _ ⟨s1_,s2_⟩ (fun hHeld => ?_)
      clear hK K
      refine norm_ (a' := ?_) ?_ ?_
      rotate_left
      ·show Act.put _ (some 27) _ = _
       simp only [Act.put,List.setIfInBounds_toArray,List.set_cons_zero,List.set_cons_succ,i64_w,i32_w]
       rfl
      refine pure_ (i := 11) (N := (some 28)) (v := ?_) (a' := ?_) #[true,true,true,true,true,true,true,true,true,true,true,true,false] rfl rfl (any_of HT_.out (by kernel_rfl)) (fun _ _ _ h => h) (Or.inl ⟨by rfl,?_⟩) ?_ ?_
      rotate_left
      ·intro w'
       go_simp
       with_reducible rfl
      rotate_left
      ·simp only [Act.put,List.setIfInBounds_toArray,List.set_cons_zero,List.set_cons_succ,i64_w,i32_w]
       rfl
      refine pure_ (i := 12) (N := (some 29)) (v := ?_) (a' := ?_) #[true,true,true,true,true,true,true,true,true,true,true,true,true] rfl rfl (any_of HT_.out (by kernel_rfl)) (fun _ _ _ h => h) (Or.inl ⟨by rfl,?_⟩) ?_ ?_
      rotate_left
      ·intro w'
       go_simp
       with_reducible rfl
      rotate_left
      ·simp only [Act.put,List.setIfInBounds_toArray,List.set_cons_zero,List.set_cons_succ,i64_w,i32_w]
       rfl
      refine done_ (done_of HT_.out (by kernel_rfl)) ?_
      clear HT_ HW_
      clear hw2
      cases bb
      ·go_wp2
       go_meet
       case rel => exact ⟨m + 1,by first | rfl | (simp;done),hm,Lib.hid (hT.out.trans rfl),hB5⟩
      ·go_wp2
       go_roundw
       case rel => exact ⟨m,by first | rfl | (simp;done),Nat.le_of_succ_le hm,hT,hB5⟩
       case measure => (try clear hw);simp [lenOf]
   case rest =>
    obtain ⟨m,rfl,hm,hT,hbc⟩ := hcut
    have htr : trimR L = L.take m := by unfold trimR;rw [hT.out]
    have hCm : Kd.C k35 wc A1 m (L.take m) := by
     have h_ := Kd.C_take (Kd.C_below hCL hbc) hm
     rwa [List.length_take,Nat.min_eq_left hm] at h_
    have hB3 := hB.trans (hbc.mono (Nat.le_trans hb (Nat.le_trans hWs hsz)))
    have hK3 := hKw.then_ (Kept.of_below hbc (fun k => ok k ∨ k = p)) (fun k hk => .inl hk)
    have hp3 := (hbc.block p (blk_lt hpw)).trans hpw
    have hq3 := (hbc.block _ (blk_lt hq)).trans hq
    have hz3 := (hbc.block _ (blk_lt hz)).trans hz
    have hH3 := Kd.H_below hH hbc
    have hsz3 := Nat.le_trans hsz hbc.size
    have hin3 := cell_below hin hbc
    clear hT hH hCL hin hpw hq hz hB hIR
    go_upto_region 6 with (fail)
    refine start_ (n := 9) (S := fun w' => w'.cell? ⟨p,1,none⟩ = some (.slice (some ⟨g,0,none⟩) rows.length cap)) (ds := [8]) #[false,false,false,false,false,false,false,false,false] (by kernel_rfl) rfl rfl ((blk_cell hp3 1).trans rfl) (fun hHeld => ?_);refine with_tabW fr6.tab fr6.bits (fun HT_ HW_ => ?_)
    have hCm4 := Kd.C_drew hCm
    have hB4 := below_drew1 hB3
    have hK4 := Kept.drew hK3
    have hp4 : wc.drew.heap[p]? = _ := hp3
    have hq4 : wc.drew.heap[W.heap.size]? = _ := hq3
    have hz4 : wc.drew.heap[W.heap.size + 1]? = _ := hz3
    have hH4 := Kd.H_drew hH3
    have hsz4 : W1.heap.size ≤ wc.drew.heap.size := hsz3
    generalize wc.drew = w4 at hCm4 hB4 hK4 hp4 hq4 hz4 hH4 hsz4 hHeld ⊢
    clear hCm hB3 hK3 hp3 hq3 hz3 hH3 hin3 hsz3
    refine pure_ (i := 0) (N := (some 35)) (v := ?_) (a' := ?_) #[true,false,false,false,false,false,false,false,false] rfl rfl (any_of HT_.out (by kernel_rfl)) (fun _ _ _ h => h) (Or.inl ⟨by rfl,?_⟩) ?_ ?_
    rotate_left
    ·intro w'
     go_simp
     with_reducible rfl
    rotate_left
    ·simp only [Act.put,List.setIfInBounds_toArray,List.set_cons_zero,List.set_cons_succ,i64_w,i32_w]
     rfl
    refine pure_ (i := 1) (N := (some 36)) (v := ?_) (a' := ?_) #[true,true,false,false,false,false,false,false,false] rfl rfl (any_of HT_.out (by kernel_rfl)) (fun _ _ _ h => h) (Or.inl ⟨by rfl,?_⟩) ?_ ?_
    rotate_left
    ·intro w'
     go_simp
     with_reducible rfl
    rotate_left
    ·simp only [Act.put,List.setIfInBounds_toArray,List.set_cons_zero,List.set_cons_succ,i64_w,i32_w]
     rfl
    refine pure_ (i := 2) (N := (some 37)) (v := ?_) (a' := ?_) #[true,true,true,false,false,false,false,false,false] rfl rfl (any_of HT_.out (by kernel_rfl)) (fun _ _ _ h => h) (Or.inl ⟨by rfl,?_⟩) ?_ ?_
    rotate_left
    ·intro w'
     go_simp
     with_reducible rfl
    rotate_left
    ·simp only [Act.put,List.setIfInBounds_toArray,List.set_cons_zero,List.set_cons_succ,i64_w,i32_w]
     rfl
    refine take_ (i := 3) (N := (some 38)) (v := ?_) (a' := ?_) #[true,true,true,true,false,false,false,false,false] rfl rfl (take_ofW HT_.out HW_.out (by kernel_rfl)) (fun _ _ _ h => h) (Or.inl ⟨by rfl,?_⟩) hHeld ?_ ?_
    rotate_left
    ·rintro w' s1
     go_simp
     with_reducible rfl
    rotate_left
    ·simp only [Act.put,List.setIfInBounds_toArray,List.set_cons_zero,List.set_cons_succ,i64_w,i32_w]
     rfl
    refine pure_ (i := 4) (N := (some 39)) (v := ?_) (a' := ?_) #[true,true,true,true,true,false,false,false,false] rfl rfl (any_of HT_.out (by kernel_rfl)) (fun _ _ _ h => h) (Or.inl ⟨by rfl,?_⟩) ?_ ?_
    rotate_left
    ·intro w'
     go_simp
     with_reducible rfl
    rotate_left
    ·simp only [Act.put,List.setIfInBounds_toArray,List.set_cons_zero,List.set_cons_succ,i64_w,i32_w]
     rfl
    refine pure_ (i := 5) (N := (some 40)) (v := ?_) (a' := ?_) #[true,true,true,true,true,true,false,false,false] rfl rfl (any_of HT_.out (by kernel_rfl)) (fun _ _ _ h => h) (Or.inl ⟨by rfl,?_⟩) ?_ ?_
    rotate_left
    ·intro w'
     go_simp
     with_reducible rfl
    rotate_left
    ·simp only [Act.put,List.setIfInBounds_toArray,List.set_cons_zero,List.set_cons_succ,i64_w,i32_w]
     rfl
    refine one_ (i := 6) (N := (some 41)) #[true,true,true,true,true,true,true,false,false] rfl rfl (one_of HT_.out (by kernel_rfl)) (by decide) (fun K hK => ?_)
    refine goes_ Tryd.func58 (by kernel_rfl) rfl #[.slice A1 m cc1] (by rfl) rfl rfl (by (try simp only [List.map_toArray,List.map_cons,List.map_nil]);first | done | rfl) ?_
    refine (clone_any A1 m cc1 (L.take m) _ hCm4 (by omega)).mono ?_
    rintro e w5 ⟨v',rfl,hR5,hb5⟩
    obtain ⟨A5,c5,he5⟩ := Kd.R_slice hR5
    rw [List.length_take,Nat.min_eq_left hm] at he5
    subst he5
    have hB5 := hB4.trans (hb5.mono (Nat.le_trans hb (Nat.le_trans hWs hsz4)))
    have hK5 := hK4.then_ (Kept.of_below hb5 (fun k => ok k ∨ k = p)) (fun k hk => .inl hk)
    have hp5 := (hb5.block p (blk_lt hp4)).trans hp4
    have hq5 := (hb5.block _ (blk_lt hq4)).trans hq4
    have hz5 := (hb5.block _ (blk_lt hz4)).trans hz4
    have hH5 := Kd.H_below (Kd.H_widen hH4) hb5
    have hsz5 := Nat.le_trans hsz4 hb5.size
    have hbw := Nat.le_trans hWs hsz4
    have hR5' : Kd.R k35 35 w5 base (fun k => oki k ∨ (ok k ∧ k ≠ W.heap.size ∧ k ≠ W.heap.size + 1) ∧ w4.heap.size ≤ k) (.slice A5 m c5) (L.take m) :=
     Kd.R_lower (Kd.R_mono (Kd.R_bound hR5) (fun k hk => .inr ⟨⟨hf k (Nat.le_trans hbw hk.2.1),by have := hk.2.1;have := blk_lt hq4;omega,by have := hk.2.1;have := blk_lt hz4;omega⟩,hk.2.1⟩)) (Nat.le_trans hb hbw)
    refine ⟨_,rfl,?_⟩
    refine hK.out _ _ ((blk_cell hp5 1).trans rfl) (fun hHeld => ?_)
    clear hK K hR5 hCm4 hB4 hp4 hq4 hz4 hH4
    refine norm_ (a' := ?_) ?_ ?_
    rotate_left
    ·show Act.put _ (some 41) _ = _
     simp only [Act.put,List.setIfInBounds_toArray,List.set_cons_zero,List.set_cons_succ,i64_w,i32_w]
     rfl
    refine pure_ (i := 7) (N := (some 42)) (v := ?_) (a' := ?_) #[true,true,true,true,true,true,true,true,false] rfl rfl (any_of HT_.out (by kernel_rfl)) (fun _ _ _ h => h) (Or.inl ⟨by rfl,?_⟩) ?_ ?_
    rotate_left
    ·intro w'
     go_simp
     with_reducible rfl
    rotate_left
    ·simp only [Act.put,List.setIfInBounds_toArray,List.set_cons_zero,List.set_cons_succ,i64_w,i32_w]
     rfl
    refine last_ (i := 8) (N := none) #[true,true,true,true,true,true,true,true,true] rfl rfl (one_of HT_.out (by kernel_rfl)) (by decide) (fun K hK => ?_)
    have hii := (Kd.H_at hH5 (by omega) hlt').1 0 _ rfl
    have hfi := (Kd.H_at hH5 (by omega) hlt').2 0
    rw [hkz,Nat.mul_one,Nat.add_zero,Int.toNat_natCast] at hii hfi
    refine skip_ (w1 := ?_) (by rfl) rfl ?_ ?_
    rotate_left
    ·go_simp
     rfl
    refine hK.out _ _ ?_
    clear hK K
    have hS6 := slot_put hH5 (by omega) hlt' rfl hR5'
    rw [Int.toNat_natCast,← htr,hset] at hS6
    have hp6 := (Below.heap_setCell w5 ⟨g,i,none⟩ (.slice A5 m c5) p hpg).trans hp5
    have hgq : g ≠ W.heap.size := by omega
    have hq6 := (Below.heap_setCell w5 ⟨g,i,none⟩ (.slice A5 m c5) W.heap.size (fun e => hgq e.symm)).trans hq5
    have hz6 := (Below.heap_setCell w5 ⟨g,i,none⟩ (.slice A5 m c5) (W.heap.size + 1) (fun (e : _ = g) => by omega)).trans hz5
    have hB6 := hB5.setCell (p := ⟨g,i,none⟩) hg0 (.slice A5 m c5)
    have hK6 := hK5.setCell (p := ⟨g,i,none⟩) (.inl (.inl hgok)) (.slice A5 m c5)
    have hsz6 : W1.heap.size ≤ (w5.setCell ⟨g,i,none⟩ (.slice A5 m c5)).heap.size := by simpa using hsz5
    refine done_ (done_of HT_.out (by kernel_rfl)) ?_
    clear HT_ HW_
    have hwi := wrap_succ (m := i) (by omega)
    have hi1 : i + 1 ≤ rows.length := hlt
    go_wp2
    go_roundw
    case rel => exact ⟨i + 1,by first | rfl | go_num,hi1,hB6,hK6,hsz6,hq6,hz6,hp6,hS6⟩
    case measure => exact meas_lt hlt
  ·have hge : ¬ ((i : Int) < (rows.length : Int)) := by omega
   have hii : i = rows.length := by omega
   subst hii
   rw [mixR_all] at hSw
   go_upto_region 8 with (fail)
   refine start_ (n := 11) (S := fun w' => w'.cell? ⟨p,0,none⟩ = some (.int .i64 wd) ∧ w'.cell? ⟨p,1,none⟩ = some (.slice (some ⟨g,0,none⟩) rows.length cap) ∧ w'.cell? ⟨W.heap.size,0,none⟩ = some (.int .i64 a) ∧ w'.cell? ⟨W.heap.size,1,none⟩ = some (.int .i64 b)) (ds := [10]) #[false,false,false,false,false,false,false,false,false,false,false] (by kernel_rfl) rfl rfl ⟨(blk_cell hpw 0).trans rfl,(blk_cell hpw 1).trans rfl,(blk_cell hq 0).trans rfl,(blk_cell hq 1).trans rfl⟩ (fun hHeld => ?_);refine with_tabW fr8.tab fr8.bits (fun HT_ HW_ => ?_)
   have hB4 := below_drew1 hB
   have hK4 := Kept.drew hKw
   have hz4 : wr.drew.heap[W.heap.size + 1]? = _ := hz
   have hS4 := Kd.S_drew hSw
   generalize wr.drew = w4 at hB4 hK4 hz4 hS4 hHeld ⊢
   clear hpw hq hz hB hSw
   refine pure_ (i := 0) (N := (some 44)) (v := ?_) (a' := ?_) #[true,false,false,false,false,false,false,false,false,false,false] rfl rfl (any_of HT_.out (by kernel_rfl)) (fun _ _ _ h => h) (Or.inl ⟨by rfl,?_⟩) ?_ ?_
   rotate_left
   ·intro w'
    go_simp
    with_reducible rfl
   rotate_left
   ·simp only [Act.put,List.setIfInBounds_toArray,List.set_cons_zero,List.set_cons_succ,i64_w,i32_w]
    rfl
   refine pure_ (i := 1) (N := (some 45)) (v := ?_) (a' := ?_) #[true,true,false,false,false,false,false,false,false,false,false] rfl rfl (any_of HT_.out (by kernel_rfl)) (fun _ _ _ h => h) (Or.inl ⟨by rfl,?_⟩) ?_ ?_
   rotate_left
   ·intro w'
    go_simp
    with_reducible rfl
   rotate_left
   ·simp only [Act.put,List.setIfInBounds_toArray,List.set_cons_zero,List.set_cons_succ,i64_w,i32_w]
    rfl
   refine pure_ (i := 2) (N := (some 46)) (v := ?_) (a' := ?_) #[true,true,true,false,false,false,false,false,false,false,false] rfl rfl (any_of HT_.out (by kernel_rfl)) (fun _ _ _ h => h) (Or.inl ⟨by rfl,?_⟩) ?_ ?_
   rotate_left
   ·intro w'
    go_simp
    with_reducible rfl
   rotate_left
   ·simp only [Act.put,List.setIfInBounds_toArray,List.set_cons_zero,List.set_cons_succ,i64_w,i32_w]
    rfl
   refine take_ (i := 3) (N := (some 47)) (v := ?_) (a' := ?_) #[true,true,true,true,false,false,false,false,false,false,false] rfl rfl (take_ofW HT_.out HW_.out (by kernel_rfl)) (fun _ _ _ h => h) (Or.inl ⟨by rfl,?_⟩) hHeld ?_ ?_
   rotate_left
   ·rintro w' ⟨s1,s2,s3,s4⟩
    go_simp
    with_reducible rfl
   rotate_left
   ·simp only [Act.put,List.setIfInBounds_toArray,List.set_cons_zero,List.set_cons_succ,i64_w,i32_w]
    rfl
   refine pure_ (i := 4) (N := (some 48)) (v := ?_) (a' := ?_) #[true,true,true,true,true,false,false,false,false,false,false] rfl rfl (any_of HT_.out (by kernel_rfl)) (fun _ _ _ h => h) (Or.inl ⟨by rfl,?_⟩) ?_ ?_
   rotate_left
   ·intro w'
    go_simp
    with_reducible rfl
   rotate_left
   ·simp only [Act.put,List.setIfInBounds_toArray,List.set_cons_zero,List.set_cons_succ,i64_w,i32_w]
    rfl
   refine pure_ (i := 5) (N := (some 49)) (v := ?_) (a' := ?_) #[true,true,true,true,true,true,false,false,false,false,false] rfl rfl (any_of HT_.out (by kernel_rfl)) (fun _ _ _ h => h) (Or.inl ⟨by rfl,?_⟩) ?_ ?_
   rotate_left
   ·intro w'
    go_simp
    with_reducible rfl
   rotate_left
   ·simp only [Act.put,List.setIfInBounds_toArray,List.set_cons_zero,List.set_cons_succ,i64_w,i32_w]
    rfl
   refine pure_ (i := 6) (N := (some 50)) (v := ?_) (a' := ?_) #[true,true,true,true,true,true,true,false,false,false,false] rfl rfl (any_of HT_.out (by kernel_rfl)) (fun _ _ _ h => h) (Or.inl ⟨by rfl,?_⟩) ?_ ?_
   rotate_left
   ·intro w'
    go_simp
    with_reducible rfl
   rotate_left
   ·simp only [Act.put,List.setIfInBounds_toArray,List.set_cons_zero,List.set_cons_succ,i64_w,i32_w]
    rfl
   refine take_ (i := 7) (N := (some 51)) (v := ?_) (a' := ?_) #[true,true,true,true,true,true,true,true,false,false,false] rfl rfl (take_ofW HT_.out HW_.out (by kernel_rfl)) (fun _ _ _ h => h) (Or.inl ⟨by rfl,?_⟩) hHeld ?_ ?_
   rotate_left
   ·rintro w' ⟨s1,s2,s3,s4⟩
    go_simp
    with_reducible rfl
   rotate_left
   ·simp only [Act.put,List.setIfInBounds_toArray,List.set_cons_zero,List.set_cons_succ,i64_w,i32_w]
    rfl
   refine take_ (i := 8) (N := (some 52)) (v := ?_) (a' := ?_) #[true,true,true,true,true,true,true,true,true,false,false] rfl rfl (take_ofW HT_.out HW_.out (by kernel_rfl)) (fun _ _ _ h => h) (Or.inl ⟨by rfl,?_⟩) hHeld ?_ ?_
   rotate_left
   ·rintro w' ⟨s1,s2,s3,s4⟩
    go_simp
    with_reducible rfl
   rotate_left
   ·simp only [Act.put,List.setIfInBounds_toArray,List.set_cons_zero,List.set_cons_succ,i64_w,i32_w]
    rfl
   refine pure_ (i := 9) (N := (some 53)) (v := ?_) (a' := ?_) #[true,true,true,true,true,true,true,true,true,true,false] rfl rfl (any_of HT_.out (by kernel_rfl)) (fun _ _ _ h => h) (Or.inl ⟨by rfl,?_⟩) ?_ ?_
   rotate_left
   ·intro w'
    go_simp
    with_reducible rfl
   rotate_left
   ·simp only [Act.put,List.setIfInBounds_toArray,List.set_cons_zero,List.set_cons_succ,i64_w,i32_w]
    rfl
   refine last_ (i := 10) (N := none) #[true,true,true,true,true,true,true,true,true,true,true] rfl rfl (one_of HT_.out (by kernel_rfl)) (by decide) (fun K hK => ?_)
   have hs0 : w4.cell? ⟨W.heap.size + 1,0,none⟩ = some (.int .i64 0) := (blk_cell hz4 0).trans rfl
   have hf0 := blk_frozen hz4 0
   have hs1 : w4.cell? ⟨W.heap.size + 1,1,none⟩ = some (.slice none 0 0) := (blk_cell hz4 1).trans rfl
   have hf1 := blk_frozen hz4 1
   have hs2 : w4.cell? ⟨W.heap.size + 1,2,none⟩ = some (.int .i64 0) := (blk_cell hz4 2).trans rfl
   have hf2 := blk_frozen hz4 2
   have hs3 : w4.cell? ⟨W.heap.size + 1,3,none⟩ = some (.int .i64 0) := (blk_cell hz4 3).trans rfl
   have hf3 := blk_frozen hz4 3
   refine skip_ (w1 := ?_) (by rfl) rfl ?_ ?_
   rotate_left
   ·go_simp
    rfl
   refine hK.out _ _ ?_
   clear hK K
   refine done_ (done_of HT_.out (by kernel_rfl)) ?_
   clear HT_ HW_
   go_wp2
   refine bodyPost_ret (results_cell_row rfl _ _ (W.heap.size + 1) 29 #[.int .i64 wd,.slice (some ⟨g,0,none⟩) rows.length cap,.int .i64 a,.int .i64 b] (0,0) _ rfl (put4 hz4) Tryd.underlying29 rfl (by kernel_rfl)) rfl ?_
   refine ⟨_,rfl,?_,?_,?_⟩
   ·exact Kd.S_mono (Kd.S_far (p := ⟨W.heap.size + 1,3,none⟩) (Kd.S_far (p := ⟨W.heap.size + 1,2,none⟩) (Kd.S_far (p := ⟨W.heap.size + 1,1,none⟩) (Kd.S_far (p := ⟨W.heap.size + 1,0,none⟩) hS4 (fun _ hk => hk.2.2) _) (fun _ hk => hk.2.2) _) (fun _ hk => hk.2.2) _) (fun _ hk => hk.2.2) _) (fun _ hk => hk.1)
   ·have hb' : base ≤ W.heap.size + 1 := Nat.le_succ_of_le hb
    exact (((hB4.setCell (p := ⟨W.heap.size + 1,0,none⟩) hb' _).setCell (p := ⟨W.heap.size + 1,1,none⟩) hb' _).setCell (p := ⟨W.heap.size + 1,2,none⟩) hb' _).setCell (p := ⟨W.heap.size + 1,3,none⟩) hb' _
   ·have hsz' : W.heap.size ≤ W.heap.size + 1 := Nat.le_succ _
    exact (((hK4.setCell (p := ⟨W.heap.size + 1,0,none⟩) (.inr hsz') _).setCell (p := ⟨W.heap.size + 1,1,none⟩) (.inr hsz') _).setCell (p := ⟨W.heap.size + 1,2,none⟩) (.inr hsz') _).setCell (p := ⟨W.heap.size + 1,3,none⟩) (.inr hsz') _
end Go.Proofs.YtnpjaaldppemlaaDoor.U
end
section
namespace Go.Proofs.YtnpjaaldppemlaaDoor.U
open Go.RowKit Go.Shelf Go.Proofs.YtnpjaaldppemlaaDoor.Mu Go.Proofs.YtnpjaaldppemlaaDoor.Pu Go.Proofs.YtnpjaaldppemlaaDoor.Rg Go.Proofs.YtnpjaaldppemlaaDoorW.PrintWords Go.Proofs.YtnpjaaldppemlaaDoorW.PrintLast Go.Proofs.YtnpjaaldppemlaaDoorW.PrintMore
attribute [local go_sem] Oper.semAt_some max2_int min2_int max_two min_two
set_option linter.unusedVariables false
set_option linter.unusedSimpArgs false
/-- All rows are within the width. -/
def Ly.In (wd : Int) (s : Ly) : Prop := s.Fit wd ∧ ∀ L ∈ s.1,(L.length : Int) ≤ wd
theorem Ly.In.down {wd : Int} {s : Ly} (h : s.In wd) : s.down.In wd := ⟨h.1.down,fun L hL => by
 rcases List.mem_append.1 hL with hL | hL
 ·exact h.2 L hL
 ·obtain rfl := List.mem_singleton.1 hL
  have := h.1.2.2
  omega⟩
theorem Ly.In.cell {wd : Int} {s : Ly} (h : s.In wd) (x : Cl) : (s.cell wd x).In wd := by
 refine ⟨h.1.cell x,fun L hL => ?_⟩
 unfold Ly.cell at hL
 split at hL
 ·rename_i he
  rcases List.mem_append.1 hL with hL | hL
  ·exact h.2 L hL
  ·obtain rfl := List.mem_singleton.1 hL
   rw [List.length_append,List.length_singleton]
   omega
 ·exact h.2 L hL
theorem Ly.In.lay {wd : Int} {s : Ly} (h : s.In wd) (cls cells : Int) (d : ByteArray) (n : Nat) : (s.lay wd cls cells d n).In wd := by
 have hm : (if (s.2.length : Int) = wd - 1 then s.down else s).In wd := by
  split
  ·exact h.down
  ·exact h
 unfold Ly.lay
 split
 ·exact h.down
 split
 ·exact h.cell _
 split
 ·exact h.cell _
 split
 ·exact (hm.cell _).cell _
 ·exact (hm.cell _).cell _
theorem layL_in (wd : Int) (t : ByteArray) (cs : List S60) : ∀ (st : Ly),st.In wd → (layL wd t st cs).In wd := by
 induction cs with
 | nil => intro st h;exact h
 | cons c cs ih => intro st h;exact ih _ (h.lay _ _ _ _)
theorem ly_new {m : Int} (h1 : 1 ≤ m) (h2 : m ≤ 65535) : Ly.In m ([],[]) := ⟨⟨h1,h2,by simpa using (by omega : (0 : Int) < m)⟩,fun L hL => by cases hL⟩
theorem held_in {width m : Int} (hm : layout_held.f width = some m) : 1 ≤ m ∧ m ≤ 65535 := by
 unfold layout_held.f at hm
 have hm2 := Option.some.inj hm
 rw [← hm2]
 unfold mn mx
 split <;> split <;> omega
theorem Ly.In.rows {wd : Int} {s : Ly} (h : s.In wd) (i : Nat) : (((s.1 ++ [s.2]).getD i []).length : Int) ≤ wd := by
 by_cases hi : i < (s.1 ++ [s.2]).length
 ·rw [List.getD_eq_getElem?_getD,List.getElem?_eq_getElem hi,Option.getD_some]
  rcases List.mem_append.1 (List.getElem_mem hi) with hL | hL
  ·exact h.2 _ hL
  ·have := List.mem_singleton.1 hL
   rw [this]
   have := h.1.2.2
   omega
 ·rw [List.getD_eq_getElem?_getD,List.getElem?_eq_none (by omega)]
  have := h.1.1
  simp
  omega
/-- The pen's place. -/
def Ly.place (s : Ly) : Int × Int := (s.1.length,s.2.length)
/-- A cluster is laid;the pen's place behind it is the cursor's,if it ends at the cursor or ahead of it. -/
def atF (wd : Int) (t : ByteArray) (cur : Int) (s : Ly × (Int × Int)) (c : S60) : Ly × (Int × Int) := (layC wd t s.1 c,if c.f1 ≤ cur then (layC wd t s.1 c).place else s.2)
def atL (wd : Int) (t : ByteArray) (cur : Int) (s : Ly × (Int × Int)) (cs : List S60) : Ly × (Int × Int) := cs.foldl (atF wd t cur) s
theorem atL_snoc (wd : Int) (t : ByteArray) (cur : Int) (s : Ly × (Int × Int)) (cs : List S60) (c : S60) : atL wd t cur s (cs ++ [c]) = atF wd t cur (atL wd t cur s cs) c := by unfold atL;rw [List.foldl_append];rfl
theorem atL_fst (wd : Int) (t : ByteArray) (cur : Int) (cs : List S60) : ∀ (s : Ly × (Int × Int)),(atL wd t cur s cs).1 = layL wd t s.1 cs := by
 induction cs with
 | nil => intro s;rfl
 | cons c cs ih => intro s;exact ih _
theorem obj_grow {X Y : World} {row : Option Nat} {b : Nat} {cs : Array Value} {t : TypeId} (h : X.heap[b]? = some (.cells cs t (0,0))) (hg : X.grownBy Y row) (hr : ∀ r,row = some r → ∃ o : Obj,X.heap[r]? = some o ∧ o.isCells = false) : Y.heap[b]? = some (.cells cs t (0,0)) :=
 (hg.block b (blk_lt h) (fun e => by
  obtain ⟨o,ho,hc⟩ := hr b e.symm
  rw [h] at ho
  cases ho
  cases hc)).trans h
theorem LyAt.boundT {T base p : Nat} {ok : Nat → Prop} {W : World} {wd : Int} {s : Ly} (h : LyAt T base p ok W wd s) : LyAt T base p (fun k => ok k ∧ ∀ cs t,(t = 60 ∨ t = 27) → W.heap[k]? ≠ some (.cells cs t (0,0))) W wd s := by
 obtain ⟨⟨rv,h1,h2⟩,h3,h4⟩ := h
 refine ⟨⟨rv,h1,Kd.S_mono (Kd.S_bound h2) (fun k hk => ⟨hk.1,fun cs t' ht' hc => ?_⟩)⟩,h3,fun h => h4 h.1⟩
 obtain ⟨_,_,_,t,ht,cs',hc'⟩ := hk
 rw [hc] at hc'
 cases hc'
 rcases ht' with rfl | rfl
 ·exact absurd ht (by decide)
 ·exact absurd ht (by decide)
/-- The grid's blocks ahead of a laying,none of which holds a cluster or a place. -/
def layOkT (B p : Nat) (nb : Nat → Prop) (W : World) (k : Nat) : Prop := layOk B p nb W k ∧ ∀ cs t,(t = 60 ∨ t = 27) → W.heap[k]? ≠ some (.cells cs t (0,0))
theorem layOkT_new {B p : Nat} {nb : Nat → Prop} {W : World} (hn : ∀ k,nb k → k < W.heap.size) (hp : p < W.heap.size) : ∀ k,W.heap.size ≤ k → layOkT B p nb W k := fun k hk => ⟨layOk_new hn hp k hk,fun cs t _ hc => by have := blk_lt hc;omega⟩
theorem kept_more {W w1 : World} {S S' : Nat → Prop} (hk : Kept W w1 S) (h : ∀ k,S k → S' k) : Kept W w1 S' := ⟨hk.1,fun k hlt hn => hk.2 k hlt (fun hs => hn (h k hs))⟩
theorem keep_setA {X : World} {n₀ B C b j : Nat} {Pr : Nat → Prop} (hn : n₀ ≤ X.heap.size) (hb0 : n₀ ≤ b) (hB : b < B) (hPr : ∀ k,Pr k → k ≠ b) (v : Value) :
  KeepsFrom C X (X.setCell ⟨b,j,none⟩ v) ∧ KeepB n₀ Pr B X (X.setCell ⟨b,j,none⟩ v) := by
 refine ⟨(KeepsOthers.setCell X _ v).from C,?_,?_⟩
 ·exact (Below.refl n₀ X).setCell (p := ⟨b,j,none⟩) hb0 v
 ·intro k o hk ho _
  have h5 : k ≠ b := by
   rcases hk with hk | hk
   ·exact hPr k hk
   ·omega
  exact (Below.heap_setCell X ⟨b,j,none⟩ v k h5).trans ho
/-- The boxes of Lay's variables. -/
def nbL (w0 bg : Nat) (k : Nat) : Prop := (w0 ≤ k ∧ k ≤ w0 + 2) ∨ (bg ≤ k ∧ k ≤ bg + 2)
/-- What Lay's variables hold behind the clusters pre. -/
structure LaInv (w : World) (t : ByteArray) (cur m : Int) (p bg : Nat) (st : Ly × (Int × Int)) (B : Nat) (W : World) : Prop where
 gr : GrIn 65 w.heap.size p (nbL w.heap.size bg) B W m st.1
 txt : Boxed W w.heap.size 9 (.string t)
 cur : Boxed W (w.heap.size + 1) 3 (.int .i64 cur)
 res : W.heap[w.heap.size + 2]? = some (.cells #[.int .i64 0,.slice none 0 0,.int .i64 0,.int .i64 0] 29 (0,0))
 ptr : Boxed W bg 62 (.pointer (some ⟨p,0,none⟩))
 at_ : W.heap[bg + 1]? = some (.cells #[.int .i64 st.2.1,.int .i64 st.2.2] 27 (0,0))
 cls : Boxed W (bg + 2) 9 (.string t)
 bel : Below w.heap.size w W
 low : bg + 2 < B
theorem LaInv.grow {w : World} {t : ByteArray} {cur m : Int} {p bg : Nat} {st : Ly × (Int × Int)} {B : Nat} {X Y : World} {row : Option Nat} (h : LaInv w t cur m p bg st B X) (hg : X.grownBy Y row) (hr : ∀ r,row = some r → w.heap.size ≤ r ∧ ∃ o : Obj,X.heap[r]? = some o ∧ o.isCells = false) : LaInv w t cur m p bg st B Y := by
 have hr' : ∀ r,row = some r → ∃ o : Obj,X.heap[r]? = some o ∧ o.isCells = false := fun r e => (hr r e).2
 exact ⟨h.gr.grow hg hr',boxed_grow h.txt hg hr',boxed_grow h.cur hg hr',obj_grow h.res hg hr',boxed_grow h.ptr hg hr',obj_grow h.at_ hg hr',boxed_grow h.cls hg hr',h.bel.grown hg h.bel.size (fun k e => (hr k e).1),h.low⟩
theorem LaInv.below {w : World} {t : ByteArray} {cur m : Int} {p bg : Nat} {st : Ly × (Int × Int)} {B : Nat} {X Y : World} (h : LaInv w t cur m p bg st B X) (hb : Below X.heap.size X Y) : LaInv w t cur m p bg st B Y :=
 ⟨h.gr.below hb,boxed_below h.txt hb,boxed_below h.cur hb,(hb.block _ (blk_lt h.res)).trans h.res,boxed_below h.ptr hb,(hb.block _ (blk_lt h.at_)).trans h.at_,boxed_below h.cls hb,h.bel.trans (hb.mono h.bel.size),h.low⟩
set_option maxRecDepth 100000 in
set_option maxHeartbeats 4000000 in
theorem lay_any (pt t : ByteArray) (cursor width m : Int) (w : World) (hps : pt.size ≤ 68719476736) (hs : t.size ≤ 68719476736) (hm : layout_held.f width = some m) (hT : Lib.Utf8Tabs 0 1 w) (st0 : Ly) (hst0 : layL m pt ([],[]) (clusL pt) = st0) (q : Ly × (Int × Int)) (hq : atL m t (if cursor < 0 then 0 else cursor) (st0,st0.place) (clusL t) = q) (RW : List (List Cl)) (hRW : Hid ((q.1.1 ++ [q.1.2]).map trimR = RW)) :
  Calls Tryd.prog 14 #[.string pt,.string t,.int .i64 cursor,.int .i64 width] w fun e w' => ∃ rv,e = .returned (.agg #[.int .i64 m,rv,.int .i64 q.2.1,.int .i64 q.2.2]) ∧ Kd.S kRow 33 w' w.heap.size (fun _ => True) rv RW ∧ Below w.heap.size w w' := by
 have hlen : (clusL t).length ≤ t.size := clusL_length t
 have hIn0 : st0.In m := by rw [← hst0];exact layL_in _ _ _ _ (ly_new (held_in hm).1 (held_in hm).2)
 have hLn0 : st0.1.length ≤ 3 * pt.size := by
  rw [← hst0]
  have h1 := layL_len m pt (clusL pt) ([],[])
  have h2 := clusL_length pt
  simp at h1
  omega
 obtain ⟨cur,hcur⟩ : ∃ cur,(if cursor < 0 then 0 else cursor) = cur := ⟨_,rfl⟩
 rw [hcur] at hq
 refine (callsIn_wide (n := 6)).1 ?_
 refine callsIn_of_wp_marks Tryd.func14 rfl trivial ?_ rfl
 simp only [Tryd.ntmps14,List.size_toArray,List.length_cons,List.length_nil,Nat.reduceAdd,Nat.reduceSub,Array.replicate_succ,Array.replicate_zero,List.push_toArray,List.append_toArray,List.nil_append,List.cons_append]
 gi_upto_region 2 with (fail)
 try rw [hcur]
 clear hcur
 obtain ⟨V,hV⟩ : ∃ V,(((w.alloc (.cells #[.string t] 9)).alloc (.cells #[.int .i64 cur] 3)).alloc (.cells #[.int .i64 0,.slice none 0 0,.int .i64 0,.int .i64 0] 29)) = V := ⟨_,rfl⟩
 rw [hV]
 simp only [Nat.add_assoc,Nat.reduceAdd]
 have hVs : V.heap.size = w.heap.size + 3 := by rw [← hV];simp
 have hVb : Below w.heap.size w V := by rw [← hV];exact below_alloc (below_alloc (below_alloc (Below.refl _ _) _) _) _
 have hV0 : Boxed V w.heap.size 9 (.string t) := by rw [← hV];exact ((Boxed.new w _ _).alloc _).alloc _
 have hV1 : Boxed V (w.heap.size + 1) 3 (.int .i64 cur) := by
  rw [← hV]
  have := Boxed.new (w.alloc (.cells #[.string t] 9)) 3 (.int .i64 cur)
  rw [World.size_alloc] at this
  exact this.alloc _
 have hV2 : V.heap[w.heap.size + 2]? = some (.cells #[.int .i64 0,.slice none 0 0,.int .i64 0,.int .i64 0] 29 (0,0)) := by
  rw [← hV]
  have := World.alloc_heap_new ((w.alloc (.cells #[.string t] 9)).alloc (.cells #[.int .i64 cur] 3)) (.cells #[.int .i64 0,.slice none 0 0,.int .i64 0,.int .i64 0] 29)
  rw [World.size_alloc,World.size_alloc] at this
  exact this
 clear hV
 gi_upto_region 3 with (refine ⟨trivial,?_⟩;gi_at_call 34;refine (callsIn_wide.2 (prompted_any pt width m _ hps hm (tabs_below hT hVb))).mono ?_;rintro e w1 ⟨p,rfl,hp,hG,hb1⟩)
 rw [hst0] at hG
 have hplt := hG.lt
 have hW1 := boxed_below hV0 hb1
 have hW2 := boxed_below hV1 hb1
 have hW3 := (hb1.block _ (blk_lt hV2)).trans hV2
 have hb0 := hVb.trans (hb1.mono (by omega))
 have hsz1 := hb1.size
 rw [hVs] at hp hG
 have hGr : GrIn 65 w.heap.size p (nbL w.heap.size w1.heap.size) w1.heap.size w1 m st0 :=
  ⟨(hG.lower (base' := w.heap.size) (by omega)).mono (fun k hk => ⟨hk.2.2,fun h => by have h1 := hk.2.1;have h2 := hk.2.2;unfold nbL at h;omega,hk.1⟩) (fun hk => hk.2.2 rfl),hplt⟩
 clear hG hV0 hV1 hV2 hVb
 have c9 := hGr.1.row
 have c10 := hGr.1.col
 have c11 := hW1.cell
 have l11 := hW1.lt
 gi_wp2_with (refine ⟨trivial,?_⟩;gi_at_call 35;refine (callsIn_wide.2 (cwalk_calls t _)).mono ?_;rintro e w' ⟨rfl,rfl⟩)
 obtain ⟨W0,hW0⟩ : ∃ W0,((w1.alloc (.cells #[.pointer (some ⟨p,0,none⟩)] 62)).alloc (.cells #[.int .i64 (st0.1.length : Int),.int .i64 (st0.2.length : Int)] 27)).alloc (.cells #[.string t] 9) = W0 := ⟨_,rfl⟩
 try rw [hW0]
 try simp only [Nat.add_assoc,Nat.reduceAdd]
 have hsz : W0.heap.size = w1.heap.size + 3 := by rw [← hW0];simp
 have hI0 : LaInv w t cur m p w1.heap.size (st0,st0.place) (w1.heap.size + 3) W0 := by
  rw [← hW0]
  have hb2 : Below w1.heap.size w1 (((w1.alloc (.cells #[.pointer (some ⟨p,0,none⟩)] 62)).alloc (.cells #[.int .i64 (st0.1.length : Int),.int .i64 (st0.2.length : Int)] 27)).alloc (.cells #[.string t] 9)) := below_alloc (below_alloc (below_alloc (Below.refl _ _) _) _) _
  refine ⟨(hGr.below hb2).mono (by omega),boxed_below hW1 hb2,boxed_below hW2 hb2,(hb2.block _ (blk_lt hW3)).trans hW3,((Boxed.new w1 _ _).alloc _).alloc _,?_,?_,hb0.trans (hb2.mono hb0.size),by omega⟩
  ·have := World.alloc_heap_new (w1.alloc (.cells #[.pointer (some ⟨p,0,none⟩)] 62)) (.cells #[.int .i64 (st0.1.length : Int),.int .i64 (st0.2.length : Int)] 27)
   rw [World.size_alloc] at this
   exact blk_alloc this _
  ·have := Boxed.new ((w1.alloc (.cells #[.pointer (some ⟨p,0,none⟩)] 62)).alloc (.cells #[.int .i64 (st0.1.length : Int),.int .i64 (st0.2.length : Int)] 27)) 9 (.string t)
   rw [World.size_alloc,World.size_alloc] at this
   exact this
 clear hW0 hGr hb0 hb1 hW1 hW2 hW3 c9 c10 c11 l11
 generalize w1.heap.size = bg at hplt hsz1 hsz hI0 ⊢
 clear w1
 have hF0 : Ly.Fit m st0 := hIn0.1
 refine range_outer (α := S60) rfl (by omega) (gf := 52) (lb := #[.pointer (some ⟨bg + 2,0,none⟩)]) rfl trivial (enters_of Tryd.func52 (by kernel_rfl) rfl)
  (cwalk1_seq 5 (by omega) w W0 t (bg + 2) (by omega) hT hI0.bel hI0.cls) (Below.refl _ _) (fun _ => rfl) (by omega)
  (fun (B : Nat) (pre : List S60) (W : World) => LaInv w t cur m p bg (atL m t cur (st0,st0.place) pre) B W)
  (fun _ _ _ => False)
  (fun B pre X Y row h hg hr => h.grow hg (fun r e => ⟨by have := (hr r e).1;omega,(hr r e).2⟩))
  (fun B B' pre W hBB h => ⟨h.gr.mono hBB,h.txt,h.cur,h.res,h.ptr,h.at_,h.cls,h.bel,Nat.lt_of_lt_of_le h.low hBB⟩)
  (fun _ _ _ _ _ hs _ _ => hs)
  (by rw [hsz];exact hI0)
  (fun (x : S60) (a' : Act) (W : World) => ∃ Bx,Hid (W.heap[Bx]? = some (.cells #[.int .i64 x.f0,.int .i64 x.f1,.int .i64 x.f2,.int .i64 x.f3] 60 (0,0))) ∧ a' = { tmps := #[.string pt,.string t,.int .i64 cursor,.int .i64 width,undef,.pointer (some ⟨w.heap.size,0,none⟩),.pointer (some ⟨w.heap.size + 1,0,none⟩),undef,.pointer (some ⟨w.heap.size + 2,0,none⟩),.pointer (some ⟨bg,0,none⟩),.pointer (some ⟨bg + 1,0,none⟩),.pointer (some ⟨Bx,0,none⟩),.int .i64 cursor,.int .i64 cur,.string pt,.int .i64 width,.pointer (some ⟨p,0,none⟩),.pointer (some ⟨p,0,none⟩),.pointer (some ⟨p,0,none⟩),.pointer (some ⟨p,2,none⟩),.agg #[.int .i64 (st0.1.length : Int),.int .i64 (st0.2.length : Int)],.string t,.func (.func 52) #[] #[.pointer (some ⟨bg + 2,0,none⟩)],.agg #[.int .i64 x.f0,.int .i64 x.f1,.int .i64 x.f2,.int .i64 x.f3],undef,undef,undef,undef,undef,undef,undef,undef,undef,undef,undef,undef,undef,undef,undef],defers := [] })
  (fun x a' _ X Y row hs hg hr => by
   obtain ⟨Bx,h1,h2⟩ := hs
   refine ⟨Bx,?_,h2⟩
   refine (hg.block Bx (Array.getElem?_eq_some_iff.1 h1).1 (fun e => ?_)).trans h1
   obtain ⟨_,o,ho,hc⟩ := hr Bx e.symm
   rw [show X.heap[Bx]? = _ from h1] at ho;cases ho;cases hc)
  ?assign ?body ?done ?stop
 case assign =>
  rintro l B pre x W K hCW hBW hI hK
  have hsz1 := hI.bel.size
  gi_wp2
  exact hK _ _ ((KeepsOthers.alloc _ _).from _) (KeepB.of_below hsz1 ((Below.refl _ W).alloc (Nat.le_refl _) _)) (hI.below ((Below.refl _ W).alloc (Nat.le_refl _) _)) ⟨W.heap.size,Lib.hid (World.alloc_heap_new W _),rfl⟩
 case body =>
  rintro l B pre x a' W hl hCW hr hBW hI ⟨Bx,hBx,rfl⟩ hlt hpx
  obtain ⟨i,hci,hiS,hxe⟩ : ∃ i : Nat,CB t i ∧ i < t.size ∧ x = clAt t i := clus_mem t t.size 0 (cb_zero t) x (hpx.subset (by simp))
  have hx0 : 0 ≤ x.f0 := by rw [hxe];exact Int.natCast_nonneg _
  have hx1 : x.f0 ≤ x.f1 := by rw [hxe];have := nxt_up t _ i (Nat.le_refl _) hiS;show (i : Int) ≤ (nxt t i : Int);omega
  have hx2 : x.f1 ≤ t.size := by rw [hxe];have := nxt_le t i hci.1 hiS;show (nxt t i : Int) ≤ (t.size : Int);omega
  have hst : Hid (atL m t cur (st0,st0.place) (pre ++ [x]) = atF m t cur (atL m t cur (st0,st0.place) pre) x) := Lib.hid (atL_snoc _ _ _ _ _ _)
  have hfst := atL_fst m t cur pre (st0,st0.place)
  have hFt := layL_fit m t pre _ hF0
  have hLn := layL_len m t pre st0
  have hlt2 : pre.length < t.size := Nat.lt_of_lt_of_le hlt hlen
  have hL2 : (layL m t st0 pre).1.length ≤ 549755813888 := by omega
  dsimp only at hfst
  rw [← hfst] at hFt hL2
  obtain ⟨⟨st,ca,cb⟩,hste⟩ : ∃ q_,atL m t cur (st0,st0.place) pre = q_ := ⟨_,rfl⟩
  rw [hste] at hI hst hFt hL2
  dsimp only at hFt hL2
  clear hfst hste hLn
  clear hxe hpx
  have hTw := tabs_below hT hI.bel
  have cp := hI.ptr.cell
  have ct := hI.txt.cell
  have cc := hI.cur.cell
  have hpW := hI.gr.1.lt
  have hnb : ∀ k,nbL w.heap.size bg k → k < W.heap.size := by
   intro k hk
   have h1 := blk_lt hI.res
   have h2 := hI.cls.lt
   unfold nbL at hk
   omega
  have hnp : ¬ nbL w.heap.size bg p := fun h => by unfold nbL at h;omega
  obtain ⟨x0,x1,x2,x3⟩ := x
  have b0 : W.cell? ⟨Bx,0,none⟩ = some (.int .i64 x0) := by simp [World.cell?,show W.heap[Bx]? = _ from hBx.out]
  have b1 : W.cell? ⟨Bx,1,none⟩ = some (.int .i64 x1) := by simp [World.cell?,show W.heap[Bx]? = _ from hBx.out]
  have b2 : W.cell? ⟨Bx,2,none⟩ = some (.int .i64 x2) := by simp [World.cell?,show W.heap[Bx]? = _ from hBx.out]
  have b3 : W.cell? ⟨Bx,3,none⟩ = some (.int .i64 x3) := by simp [World.cell?,show W.heap[Bx]? = _ from hBx.out]
  have hu60 := Tryd.underlying60
  have hnW : 2 ≤ w.heap.size := by
   have h1 := (hT.2 0 (by decide)).2
   have := World.block_lt_of_cell? w ⟨1,_,none⟩ h1
   exact this
  have hsub : (t.extract x0.toNat x1.toNat).size ≤ 1099511627776 := by simp [ByteArray.size_extract];omega
  dsimp only
  gi_upto_region 7 with (refine ⟨trivial,?_⟩;gi_at_call 36;refine (callsIn_wide.2 (gr_lay hI.gr.ahead.boundT (layOkT_new hnb hpW) hI.bel.size hnW hTw hFt hL2 t ⟨x0,x1,x2,x3⟩ hx0 hx1 hx2 (drawnS (t.extract x0.toNat x1.toNat)) (by unfold cluster_Drawn.f;exact if_pos hsub) _ rfl (decodeGo_le _))).mono ?_;rintro e w2 ⟨rfl,hG2,hB2,hK2⟩)
  have hG3 := hG2.mono (ok' := layOk B p (nbL w.heap.size bg) W) (fun k hk => hk.1) (fun h => h.2.2 rfl)
  have hK3 := kept_more hK2 (S' := fun k => layOk B p (nbL w.heap.size bg) W k ∨ k = p) (fun k hk => hk.imp And.left id)
  have hk := fun C => lay_keeps (C := C) (Pr := fun k => k = bg + 2) hK3 hB2 hI.gr.1.cells hI.gr.2 (fun k hk => ⟨.inr (by omega),by omega⟩)
  have hb3 : ∀ k,nbL w.heap.size bg k → w2.heap[k]? = W.heap[k]? := fun k hk => hK3.2 k (hnb k hk) (fun h => h.elim (fun h => h.2.1 hk) (fun h => hnp (h ▸ hk)))
  have hBx2 : w2.heap[Bx]? = W.heap[Bx]? := hK2.2 Bx (blk_lt hBx.out) (fun h => h.elim (fun h => h.2 _ _ (.inl rfl) hBx.out) (fun h => by
   obtain ⟨rv,hgp,_⟩ := hI.gr.1.1
   rw [← h,show W.heap[Bx]? = _ from hBx.out] at hgp
   cases hgp))
  have hgr := GrIn.behind hG3
  have hI2 : LaInv w t cur m p bg (st.lay m x2 x3 (drawnS (t.extract x0.toNat x1.toNat)) (Lib.decodeGo (drawnS (t.extract x0.toNat x1.toNat))).2,(ca,cb)) w2.heap.size w2 :=
   ⟨hgr,(hb3 _ (.inl ⟨by omega,by omega⟩)).trans hI.txt,(hb3 _ (.inl ⟨by omega,by omega⟩)).trans hI.cur,(hb3 _ (.inl ⟨by omega,by omega⟩)).trans hI.res,(hb3 _ (.inr ⟨by omega,by omega⟩)).trans hI.ptr,(hb3 _ (.inr ⟨by omega,by omega⟩)).trans hI.at_,(hb3 _ (.inr ⟨by omega,by omega⟩)).trans hI.cls,hI.bel.trans hB2,Nat.lt_of_lt_of_le (Nat.lt_of_lt_of_le hI.low hBW) hB2.size⟩
  have d1 : w2.cell? ⟨Bx,1,none⟩ = some (.int .i64 x1) := by simp [World.cell?,hBx2,show W.heap[Bx]? = _ from hBx.out]
  have d2 := hI2.cur.cell
  have d3 := hI2.ptr.cell
  have d4 := hI2.gr.1.row
  have d5 := hI2.gr.1.col
  have d6 : w2.cell? ⟨bg + 1,0,none⟩ = some (.int .i64 ca) := (blk_cell hI2.at_ 0).trans rfl
  have d7 : w2.cell? ⟨bg + 1,1,none⟩ = some (.int .i64 cb) := (blk_cell hI2.at_ 1).trans rfl
  have f6 := blk_frozen hI2.at_ 0
  have f7 := blk_frozen hI2.at_ 1
  obtain ⟨st',hst'⟩ : ∃ st',st.lay m x2 x3 (drawnS (t.extract x0.toNat x1.toNat)) (Lib.decodeGo (drawnS (t.extract x0.toNat x1.toNat))).2 = st' := ⟨_,rfl⟩
  rw [hst'] at hI2 d4 d5
  have hst2 : Hid (atL m t cur (st0,st0.place) (pre ++ [(⟨x0,x1,x2,x3⟩ : S60)]) = (st',if x1 ≤ cur then st'.place else (ca,cb))) := Lib.hid (by rw [hst.out,← hst'];rfl)
  clear hG2 hG3 hK2 hK3 hst hst' hb3 hgr hBx2
  by_cases hle : x1 ≤ cur
  ·have hst3 := Lib.hid (hst2.out.trans (by rw [if_pos hle]))
   have hle' := eq_true hle
   gi_wp2
   have hk4 := fun C => keep_setA (C := C) (B := B) (b := bg + 1) (j := 0) (Pr := fun k => k = bg + 2) hI2.bel.size (by omega) (by have := hI.low;omega) (fun k hk => by omega) (.int .i64 (st'.1.length : Int))
   have hk5 := fun C => keep_setA (X := w2.setCell ⟨bg + 1,0,none⟩ (.int .i64 (st'.1.length : Int))) (C := C) (B := B) (b := bg + 1) (j := 1) (Pr := fun k => k = bg + 2) (Nat.le_trans hI2.bel.size (hk4 0).1.size) (by omega) (by have := hI.low;omega) (fun k hk => by omega) (.int .i64 (st'.2.length : Int))
   refine ⟨((hk _).1.trans (hk4 _).1).trans (hk5 _).1,((hk 0).2.trans (hk4 0).2).trans (hk5 0).2,?_⟩
   show LaInv w t cur m p bg (atL m t cur (st0,st0.place) _) _ _
   rw [hst3.out]
   have ho : ∀ k,k ≠ bg + 1 → ((w2.setCell ⟨bg + 1,0,none⟩ (.int .i64 (st'.1.length : Int))).setCell ⟨bg + 1,1,none⟩ (.int .i64 (st'.2.length : Int))).heap[k]? = w2.heap[k]? := fun k hk => (Below.heap_setCell _ ⟨bg + 1,1,none⟩ _ k hk).trans (Below.heap_setCell w2 ⟨bg + 1,0,none⟩ _ k hk)
   have hse : ((w2.setCell ⟨bg + 1,0,none⟩ (.int .i64 (st'.1.length : Int))).setCell ⟨bg + 1,1,none⟩ (.int .i64 (st'.2.length : Int))).heap.size = w2.heap.size := by simp [World.setCell]
   rw [hse]
   have hbg1 : nbL w.heap.size bg (bg + 1) := .inr ⟨by omega,by omega⟩
   have hwb : w.heap.size ≤ bg + 1 := by omega
   exact ⟨(hI2.gr.other hbg1 (by omega) 0 _).other hbg1 (by omega) 1 _,(ho _ (by omega)).trans hI2.txt,(ho _ (by omega)).trans hI2.cur,(ho _ (by omega)).trans hI2.res,(ho _ (by omega)).trans hI2.ptr,blk_put (cs := #[.int .i64 (st'.1.length : Int),.int .i64 cb]) (blk_put (cs := #[.int .i64 ca,.int .i64 cb]) hI2.at_ 0 _ rfl) 1 _ rfl,(ho _ (by omega)).trans hI2.cls,(hI2.bel.setCell (p := ⟨bg + 1,0,none⟩) hwb _).setCell (p := ⟨bg + 1,1,none⟩) hwb _,hI2.low⟩
  ·have hst3 := Lib.hid (hst2.out.trans (by rw [if_neg hle]))
   have hle' := eq_false hle
   gi_wp2
   refine ⟨(hk _).1,(hk 0).2,?_⟩
   show LaInv w t cur m p bg (atL m t cur (st0,st0.place) _) _ _
   rw [hst3.out]
   exact hI2
 case done =>
  rintro D ys W hD hys hI hK
  have e : ys = clusL t := hys
  rw [e,hq] at hI
  have cp := hI.ptr.cell
  have ca0 : W.cell? ⟨bg + 1,0,none⟩ = some (.int .i64 q.2.1) := (blk_cell hI.at_ 0).trans rfl
  have ca1 : W.cell? ⟨bg + 1,1,none⟩ = some (.int .i64 q.2.2) := (blk_cell hI.at_ 1).trans rfl
  have hDl := blk_lt hK
  have hpl := hI.gr.1.lt
  have hbs := hI.bel.size
  have hnbl : ∀ k,nbL w.heap.size bg k → k < W0.heap.size := fun k hk => by unfold nbL at hk;omega
  have hnD : ¬ nbL w.heap.size bg D := fun h => by have := hnbl D h;omega
  have hG := hI.gr.1.boundC.mono (ok' := fun k => ¬ nbL w.heap.size bg k ∧ k ≠ p ∧ k ≠ D) (fun k hk => ⟨hk.1.2.1,hk.1.2.2,fun h => by
   obtain ⟨o,ho,hc⟩ := hk.2
   rw [h,hK] at ho
   cases ho
   cases hc⟩) (fun h => h.2.1 rfl)
  have hIn : q.1.In m := by rw [← hq,atL_fst];exact layL_in m t _ _ hIn0
  have hLq : q.1.1.length ≤ 549755813888 := by
   rw [← hq,atL_fst]
   have := layL_len m t (clusL t) st0
   show (layL m t st0 (clusL t)).1.length ≤ _
   omega
  obtain ⟨⟨qs,qr⟩,qa,qb⟩ := q
  dsimp only at hG hLq ca0 ca1 ⊢
  dsimp only at hRW
  have hne := hI.gr.1.ne
  gi_wp2_with (refine ⟨trivial,?_⟩;gi_at_call 37;refine (callsIn_wide.2 (gr_frame hG (fun k hk => ⟨fun h => by have := hnbl k h;omega,by omega,by omega⟩) hbs (by simp) (by simp;omega) (fun i => by have h1 := hIn.rows i;have h2 := hIn.1.2.1;omega) qa qb)).mono ?_;rintro e w5 ⟨rv,rfl,hS5,hB5,hK5⟩;rw [hRW.out] at hS5;have hr5 := (hK5.2 _ (blk_lt hI.res) (fun h => h.elim (fun h => h.1 (.inl ⟨by omega,by omega⟩)) (fun h => by omega))).trans hI.res;have hD5 := (hK5.2 D hDl (fun h => h.elim (fun h => h.2.2 rfl) (fun h => by obtain ⟨rv_,hgp,_⟩ := hI.gr.1.1;rw [← h,hK] at hgp;cases hgp))).trans hK;obtain ⟨Ar,cr,rfl⟩ := Kd.S_slice hS5;have e0 : w5.cell? ⟨w.heap.size + 2,0,none⟩ = some (.int .i64 0) := (blk_cell hr5 0).trans rfl;have e1 : w5.cell? ⟨w.heap.size + 2,1,none⟩ = some (.slice none 0 0) := (blk_cell hr5 1).trans rfl;have e2 : w5.cell? ⟨w.heap.size + 2,2,none⟩ = some (.int .i64 0) := (blk_cell hr5 2).trans rfl;have e3 : w5.cell? ⟨w.heap.size + 2,3,none⟩ = some (.int .i64 0) := (blk_cell hr5 3).trans rfl;have f0 := blk_frozen hr5 0;have f1 := blk_frozen hr5 1;have f2 := blk_frozen hr5 2;have f3 := blk_frozen hr5 3)
  have hn2 : ∀ k,¬ (k = w.heap.size + 2) → ((((w5.setCell ⟨w.heap.size + 2,0,none⟩ (.int .i64 m)).setCell ⟨w.heap.size + 2,1,none⟩ (.slice Ar RW.length cr)).setCell ⟨w.heap.size + 2,2,none⟩ (.int .i64 qa)).setCell ⟨w.heap.size + 2,3,none⟩ (.int .i64 qb)).heap[k]? = w5.heap[k]? := fun k hk => (Below.heap_setCell _ ⟨w.heap.size + 2,3,none⟩ _ k hk).trans ((Below.heap_setCell _ ⟨w.heap.size + 2,2,none⟩ _ k hk).trans ((Below.heap_setCell _ ⟨w.heap.size + 2,1,none⟩ _ k hk).trans (Below.heap_setCell w5 ⟨w.heap.size + 2,0,none⟩ _ k hk)))
  have hDn : ¬ (D = w.heap.size + 2) := by omega
  have hD6 := (hn2 D hDn).trans hD5
  have hr6 := put4 (b0 := .int .i64 m) (b1 := .slice Ar RW.length cr) (b2 := .int .i64 qa) (b3 := .int .i64 qb) hr5
  have hS6 : Kd.S kRow 33 _ w.heap.size (fun k => ¬nbL w.heap.size bg k ∧ k ≠ p ∧ k ≠ D) (.slice Ar RW.length cr) RW := Kd.S_step hS5 (fun k hk _ => hn2 k (fun h => hk.1 (.inl ⟨by omega,by omega⟩)))
  have hwb : w.heap.size ≤ w.heap.size + 2 := by omega
  have hB6 := (((hB5.setCell (p := ⟨w.heap.size + 2,0,none⟩) hwb (.int .i64 m)).setCell (p := ⟨w.heap.size + 2,1,none⟩) hwb (.slice Ar RW.length cr)).setCell (p := ⟨w.heap.size + 2,2,none⟩) hwb (.int .i64 qa)).setCell (p := ⟨w.heap.size + 2,3,none⟩) hwb (.int .i64 qb)
  have hb6 := hI.bel.trans hB6
  clear hn2 hS5 hB5 hB6 hr5 hD5 e0 e1 e2 e3 f0 f1 f2 f3 hK5
  generalize ((((w5.setCell ⟨w.heap.size + 2,0,none⟩ (.int .i64 m)).setCell ⟨w.heap.size + 2,1,none⟩ (.slice Ar RW.length cr)).setCell ⟨w.heap.size + 2,2,none⟩ (.int .i64 qa)).setCell ⟨w.heap.size + 2,3,none⟩ (.int .i64 qb)) = w6 at hD6 hr6 hS6 hb6 ⊢
  refine ⟨by simp,.inl ⟨_,_,rfl,run_takeDeferred hD6,?_⟩⟩
  refine ⟨_,results_cell_row rfl _ _ (w.heap.size + 2) 29 #[.int .i64 m,.slice Ar RW.length cr,.int .i64 qa,.int .i64 qb] (0,0) _ rfl ((World.putObj_heap_other (by omega)).trans hr6) Tryd.underlying29 rfl (by kernel_rfl),_,rfl,?_,hb6.trans (belowK_b (w := w) (Nat.le_refl _) w6 D _ _ (by omega) hD6 rfl rfl)⟩
  exact Kd.S_mono (Kd.S_step hS6 (fun k hk _ => World.putObj_heap_other (fun h => hk.2.2 (by first | exact h | exact h.symm)))) (fun _ _ => trivial)
 case stop =>
  rintro D c pre W _ _ h _
  exact h.elim
end Go.Proofs.YtnpjaaldppemlaaDoor.U
end
section
namespace Go.Proofs.YtnpjaaldppemlaaDoor.U
open Go.RowKit Go.Proofs.YtnpjaaldppemlaaDoor.Rg Go.Proofs.YtnpjaaldppemlaaDoorW.PrintWords Go.Proofs.YtnpjaaldppemlaaDoorW.PrintLast
section
variable {P : Program} {ops : Array Oper} {md : Region.Mode} {Q : Exit → Act → World → Prop} {l n : Nat}
/-- Only where nothing went wrong. -/
def Fine (Q : Exit → Act → World → Prop) : Exit → Act → World → Prop := fun e a w => e = .normal ∧ Q e a w
theorem op_in {o : Oper} {a : Act} {w : World} {K : Act → World → Prop} (hd : ∀ c,o.op ≠ .defer c) (h : Oper.wp P o a w K (Fine Q)) : o.wpIn (Fence.wide.inRound l) n P a w K Q := by
 unfold Oper.wp at h
 unfold Oper.wpIn
 refine ⟨fun _ _ => trivial,?_⟩
 rw [Oper.semAt_eq _ _ _ hd]
 generalize (execOp a.eval o).run P w = r at *
 cases r with
 | ok x w' =>
  cases x <;> simp only [Oper.upon] at h <;> simp only [Oper.uponIn]
  case value u => exact h
  case skip => exact h
  case defer d => exact h
  case enter f args =>
   refine ⟨fun hx => by simp [Fence.wide] at hx,(CallsIn.inRound l (callsIn_wide.2 h)).mono ?_⟩
   intro e w'' he
   cases e with
   | returned v => exact he
   | panicked ch => cases he.1
   | outgrown => obtain ⟨_,_,he⟩ := he;cases he.1
  case row row args => exact ⟨fun hx => by simp [Fence.wide] at hx,fun c cs _ => let ⟨v,w2,r,s⟩ := h c cs;⟨v,w2,r,stepsIn_wide.2 s⟩⟩
 | halt x w' =>
  cases x <;> simp only [Oper.upon] at h
  case panic v => cases h.1
theorem opi_in {i : Nat} {a : Act} {w : World} {K K' : Act → World → Prop} (hd : ∀ (j : Nat) (o : Oper),ops[j]? = some o → ∀ c,o.op ≠ Op.defer c) (h : ∀ a w,K a w → K' a w) (hh : wpOp P ops (Fine Q) i K a w) : wpOpIn (Fence.wide.inRound l) n P ops Q i K' a w := by
 unfold wpOp at hh
 unfold wpOpIn
 split
 ·rename_i ho;simp only [ho] at hh;exact h _ _ hh
 ·rename_i o ho
  simp only [ho] at hh
  split
  ·rename_i hw
   simp only [hw,if_true] at hh
   rcases hh with hh | ⟨_,_,_,hh⟩
   ·exact op_in (hd _ _ ho) (Oper.wp_mono h hh)
   ·cases hh.1
  ·rename_i hw
   simp only [hw] at hh
   exact ⟨fun _ _ => trivial,h _ _ hh⟩
theorem any_in (hd : ∀ (j : Nat) (o : Oper),ops[j]? = some o → ∀ c,o.op ≠ Op.defer c) : ∀ (fuel : Nat) (listed : Array Bool) (a : Act) (w : World),wpAny P md ops (Fine Q) fuel listed a w → wpAnyIn (Fence.wide.inRound l) n P md ops Q fuel listed a w
 | 0,_,_,_,h => ⟨h.1,h.2.2⟩
 | fuel + 1,_,_,_,h => ⟨fun h0 => (h.1 h0).2,fun i hi => opi_in hd (fun a' w' h' => any_in hd fuel _ a' w' h') (h.2 i hi)⟩
/-- start_,in a round. -/
theorem startI_ {S : World → Prop} {ds : List Nat} {id m : Nat} {a : Act} {w : World} (fl : Array Bool) (hd : noDefer ops.toList = true) (hm : P.follows .mixedOrders = true) (hn : ops.size = m) (hl : Array.replicate m false = fl) (hS : S w.drew)
  (h : S w.drew → wpAnyLast P .any ops (Fine Q) S ds m fl a w.drew) : (Code.region id ops true).wpIn (Fence.wide.inRound l) n P Q a w := by
 subst hn
 subst hl
 exact wpIn_region_any hm (any_in (fun j o ho => noDefer_spec hd j o (by simpa using ho)) _ _ _ _ (wpAny_of_last _ _ _ _ (h hS)))
end
end Go.Proofs.YtnpjaaldppemlaaDoor.U
end
section
namespace Go.Proofs.YtnpjaaldppemlaaDoor.U
open Go.RowKit Go.Shelf Go.Proofs.YtnpjaaldppemlaaDoor.Mu Go.Proofs.YtnpjaaldppemlaaDoor.Pu Go.Proofs.YtnpjaaldppemlaaDoor.Rg Go.Proofs.YtnpjaaldppemlaaDoorW.PrintWords Go.Proofs.YtnpjaaldppemlaaDoorW.PrintLast Go.Proofs.YtnpjaaldppemlaaDoorW.PrintMore
attribute [local go_sem] Oper.semAt_some
set_option linter.unusedVariables false
set_option linter.unusedSimpArgs false
abbrev Pl := S27
abbrev kPl : Kd Pl := k27
def Ly.pl (s : Ly) : Pl := ⟨s.1.length,s.2.length⟩
/-- The pen's places behind each cluster. -/
def plsL (wd : Int) (t : ByteArray) : Ly → List S60 → List Pl
 | _,[] => []
 | st,c :: cs => (layC wd t st c).pl :: plsL wd t (layC wd t st c) cs
theorem plsL_snoc (wd : Int) (t : ByteArray) (c : S60) : ∀ (cs : List S60) (st : Ly),plsL wd t st (cs ++ [c]) = plsL wd t st cs ++ [(layC wd t (layL wd t st cs) c).pl]
 | [],_ => rfl
 | x :: cs,st => by rw [List.cons_append,plsL,plsL,plsL_snoc wd t c cs];rfl
theorem plsL_len (wd : Int) (t : ByteArray) : ∀ (cs : List S60) (st : Ly),(plsL wd t st cs).length = cs.length
 | [],_ => rfl
 | x :: cs,st => by rw [plsL,List.length_cons,plsL_len wd t cs,List.length_cons]
theorem sees4 {w w' : World} {a0 a1 a2 a3 : Addr} {v0 v1 v2 v3 : Value} (h : w.cell? a0 = some v0 ∧ w.cell? a1 = some v1 ∧ w.cell? a2 = some v2 ∧ w.cell? a3 = some v3) (hb : Below w.heap.size w w') : w'.cell? a0 = some v0 ∧ w'.cell? a1 = some v1 ∧ w'.cell? a2 = some v2 ∧ w'.cell? a3 = some v3 := ⟨cell_below h.1 hb,cell_below h.2.1 hb,cell_below h.2.2.1 hb,cell_below h.2.2.2 hb⟩
/-- The boxes of Places' variables. -/
def nbP (w0 bg : Nat) (k : Nat) : Prop := k = w0 ∨ k = bg ∨ k = bg + 2 ∨ k = bg + 3
/-- A row of places of the call's own,below B,in the box b. -/
def AllIn (n₀ b B : Nat) (W : World) (pl : List Pl) : Prop := ∃ v,Boxed W b 43 v ∧ Kd.R kPl 27 W n₀ (fun k => k < B) v pl
/-- What Places' variables hold behind the clusters pre. -/
structure PlInv (w : World) (t : ByteArray) (m : Int) (p bg : Nat) (st : Ly) (pl : List Pl) (B : Nat) (W : World) : Prop where
 gr : GrIn 65 w.heap.size p (nbP w.heap.size bg) B W m st
 txt : Boxed W w.heap.size 9 (.string t)
 ptr : Boxed W bg 62 (.pointer (some ⟨p,0,none⟩))
 all : AllIn w.heap.size (bg + 2) B W pl
 cls : Boxed W (bg + 3) 9 (.string t)
 bel : Below w.heap.size w W
 low : bg + 3 < B
theorem AllIn.mono {n₀ b B B' : Nat} {W : World} {pl : List Pl} (h : AllIn n₀ b B W pl) (hB : B ≤ B') : AllIn n₀ b B' W pl := by
 obtain ⟨v,h1,h2⟩ := h
 exact ⟨v,h1,Kd.R_mono h2 (fun k hk => Nat.lt_of_lt_of_le hk hB)⟩
theorem AllIn.below {n₀ b B : Nat} {W w1 : World} {pl : List Pl} (h : AllIn n₀ b B W pl) (hb : Below W.heap.size W w1) : AllIn n₀ b B w1 pl := by
 obtain ⟨v,h1,h2⟩ := h
 exact ⟨v,boxed_below h1 hb,Kd.R_below h2 hb⟩
/-- Where all cells of places stand as they stood. -/
theorem AllIn.move {n₀ b B : Nat} {W w1 : World} {pl : List Pl} (h : AllIn n₀ b B W pl) (hb : w1.heap[b]? = W.heap[b]?) (hm : ∀ (k : Nat) (cs : Array Value),W.heap[k]? = some (Obj.cells cs 27 (0,0)) → w1.heap[k]? = W.heap[k]?) : AllIn n₀ b B w1 pl := by
 obtain ⟨v,h1,h2⟩ := h
 refine ⟨v,hb.trans h1,Kd.R_mono (Kd.R_move (Kd.R_bound h2) (fun k hk => ?_)) (fun k hk => hk.1)⟩
 obtain ⟨_,_,_,q,hq,cs,hc⟩ := hk
 have hq' : q = 27 := by
  rcases List.mem_cons.1 hq with h | h
  ·exact h
  ·exact absurd h (by simp [kPl,k27,Kd.iso,Kd.pair,Kd.int,Kd.scalar])
 subst hq'
 exact hm k cs hc
theorem AllIn.grow {n₀ b B : Nat} {X Y : World} {row : Option Nat} {pl : List Pl} (h : AllIn n₀ b B X pl) (hg : X.grownBy Y row) (hr : ∀ r,row = some r → ∃ o : Obj,X.heap[r]? = some o ∧ o.isCells = false) : AllIn n₀ b B Y pl := by
 refine h.move ?_ (fun k cs hc => hg.block k (blk_lt hc) (fun e => ?_))
 ·obtain ⟨v,h1,h2⟩ := h
  exact (boxed_grow h1 hg hr).trans h1.symm
 ·obtain ⟨o,ho,hc'⟩ := hr k e.symm
  rw [hc] at ho
  cases ho
  cases hc'
theorem PlInv.grow {w : World} {t : ByteArray} {m : Int} {p bg : Nat} {st : Ly} {pl : List Pl} {B : Nat} {X Y : World} {row : Option Nat} (h : PlInv w t m p bg st pl B X) (hg : X.grownBy Y row) (hr : ∀ r,row = some r → w.heap.size ≤ r ∧ ∃ o : Obj,X.heap[r]? = some o ∧ o.isCells = false) : PlInv w t m p bg st pl B Y := by
 have hr' : ∀ r,row = some r → ∃ o : Obj,X.heap[r]? = some o ∧ o.isCells = false := fun r e => (hr r e).2
 exact ⟨h.gr.grow hg hr',boxed_grow h.txt hg hr',boxed_grow h.ptr hg hr',h.all.grow hg hr',boxed_grow h.cls hg hr',h.bel.grown hg h.bel.size (fun k e => (hr k e).1),h.low⟩
theorem PlInv.below {w : World} {t : ByteArray} {m : Int} {p bg : Nat} {st : Ly} {pl : List Pl} {B : Nat} {X Y : World} (h : PlInv w t m p bg st pl B X) (hb : Below X.heap.size X Y) : PlInv w t m p bg st pl B Y :=
 ⟨h.gr.below hb,boxed_below h.txt hb,boxed_below h.ptr hb,h.all.below hb,boxed_below h.cls hb,h.bel.trans (hb.mono h.bel.size),h.low⟩
def pl6.T : Bool × List (List Nat × List Nat) := (true,[([],[]),([],[]),([1],[1]),([2],[2]),([3],[3]),([4],[4]),([0,5],[0,5]),([6,6,0,1,2,3,4,5,6],[6])])
def pl6.B : List Nat := [0,0,2,6,14,30,63,127]
theorem pl6.tab : rtab .any (opsOf Tryd.f25 6) = pl6.T := by kernel_rfl
theorem pl6.bits : waitsOk pl6.T.2 pl6.B = true := by kernel_rfl
set_option maxRecDepth 100000 in
set_option maxHeartbeats 4000000 in
theorem places_any (pt t : ByteArray) (width m : Int) (w : World) (hps : pt.size ≤ 68719476736) (hs : t.size ≤ 68719476736) (hm : layout_held.f width = some m) (hT : Lib.Utf8Tabs 0 1 w) (st0 : Ly) (hst0 : layL m pt ([],[]) (clusL pt) = st0) (RW : List Pl) (hRW : Hid (st0.pl :: plsL m t st0 (clusL t) = RW)) :
  Calls Tryd.prog 25 #[.string pt,.string t,.int .i64 width] w fun e w' => ∃ rv,e = .returned rv ∧ Kd.R kPl 27 w' w.heap.size (fun _ => True) rv RW ∧ Below w.heap.size w w' := by
 have hlen : (clusL t).length ≤ t.size := clusL_length t
 have hIn0 : st0.In m := by rw [← hst0];exact layL_in _ _ _ _ (ly_new (held_in hm).1 (held_in hm).2)
 have hLn0 : st0.1.length ≤ 3 * pt.size := by
  rw [← hst0]
  have h1 := layL_len m pt (clusL pt) ([],[])
  have h2 := clusL_length pt
  simp at h1
  omega
 refine (callsIn_wide (n := 6)).1 ?_
 refine callsIn_of_wp_marks Tryd.func25 rfl trivial ?_ rfl
 simp only [Tryd.ntmps25,List.size_toArray,List.length_cons,List.length_nil,Nat.reduceAdd,Nat.reduceSub,Array.replicate_succ,Array.replicate_zero,List.push_toArray,List.append_toArray,List.nil_append,List.cons_append]
 gi_upto_region 2 with (refine ⟨trivial,?_⟩;gi_at_call 34;refine (callsIn_wide.2 (prompted_any pt width m _ hps hm (tabs_below hT (below_alloc (Below.refl _ _) _)))).mono ?_;rintro e w1 ⟨p,rfl,hp,hG,hb1⟩)
 rw [hst0] at hG
 have hplt := hG.lt
 have hW1 := boxed_below (Boxed.new w 9 (.string t)) hb1
 have hb0 : Below w.heap.size w w1 := (below_alloc (Below.refl w.heap.size w) (.cells #[.string t] 9 (0,0))).trans (hb1.mono (by simp))
 have hsz1 := hb1.size
 rw [World.size_alloc] at hp hG hsz1
 have hGr : GrIn 65 w.heap.size p (nbP w.heap.size w1.heap.size) w1.heap.size w1 m st0 :=
  ⟨(hG.lower (base' := w.heap.size) (by omega)).mono (fun k hk => ⟨hk.2.2,fun h => by have h1 := hk.2.1;have h2 := hk.2.2;unfold nbP at h;omega,hk.1⟩) (fun hk => hk.2.2 rfl),hplt⟩
 clear hG
 have c9 := hGr.1.row
 have c10 := hGr.1.col
 gi_upto_region 3 with (fail)
 obtain ⟨V,hV⟩ : ∃ V,((w1.alloc (.cells #[.pointer (some ⟨p,0,none⟩)] 62)).alloc (.cells #[.int .i64 (st0.1.length : Int),.int .i64 (st0.2.length : Int)] 27)).alloc (.cells #[.slice (some ⟨w1.heap.size + 1,0,none⟩) 1 1] 43) = V := ⟨_,rfl⟩
 try rw [hV]
 try simp only [Nat.add_assoc,Nat.reduceAdd]
 have hVb : Below w1.heap.size w1 V := by rw [← hV];exact below_alloc (below_alloc (below_alloc (Below.refl _ _) _) _) _
 have hVs : V.heap.size = w1.heap.size + 3 := by rw [← hV];simp
 have hV0 : Boxed V w1.heap.size 62 (.pointer (some ⟨p,0,none⟩)) := by rw [← hV];exact ((Boxed.new w1 _ _).alloc _).alloc _
 have hV2 : Boxed V (w1.heap.size + 2) 43 (.slice (some ⟨w1.heap.size + 1,0,none⟩) 1 1) := by
  rw [← hV]
  have := Boxed.new ((w1.alloc (.cells #[.pointer (some ⟨p,0,none⟩)] 62)).alloc (.cells #[.int .i64 (st0.1.length : Int),.int .i64 (st0.2.length : Int)] 27)) 43 (.slice (some ⟨w1.heap.size + 1,0,none⟩) 1 1)
  rw [World.size_alloc,World.size_alloc] at this
  exact this
 have hV3 : Kd.R kPl 27 V w.heap.size (fun k => k < w1.heap.size + 4) (.slice (some ⟨w1.heap.size + 1,0,none⟩) 1 1) [st0.pl] := by
  rw [← hV]
  refine Kd.R_alloc ⟨fun k hk => ?_,[.int .i64 (st0.1.length : Int),.int .i64 (st0.2.length : Int)],?_,?_⟩ _
  ·have : w1.heap.size + 1 = k := by simpa [Value.ownBlock] using hk
   omega
  ·have h2 := World.ownsRow_lit (base := w.heap.size) (e := 27) (size := 2) (w1.alloc (.cells #[.pointer (some ⟨p,0,none⟩)] 62)) #[.int .i64 (st0.1.length : Int),.int .i64 (st0.2.length : Int)] 1 (by rw [World.size_alloc];omega) (by decide) rfl
   rw [World.size_alloc] at h2
   have hz : kPl.sz = 2 := rfl
   rw [hz]
   exact (by simpa using h2)
  ·exact Reps.c2 (k27_mkM _ _ _ st0.pl) (Reps.none _ _)
 have hV4 := boxed_below hW1 hVb
 have hV5 : Below w.heap.size w V := hb0.trans (hVb.mono hb0.size)
 have hVg := (hGr.below hVb).mono (B' := w1.heap.size + 4) (by omega)
 clear hV hGr hb0 hb1 hW1 c9 c10 hVb
 generalize w1.heap.size = bg at *
 clear w1
 have c11 := hV4.cell
 have l11 := hV4.lt
 gi_wp2_with (refine ⟨trivial,?_⟩;gi_at_call 35;refine (callsIn_wide.2 (cwalk_calls t _)).mono ?_;rintro e w' ⟨rfl,rfl⟩)
 obtain ⟨W0,hW0⟩ : ∃ W0,V.alloc (.cells #[.string t] 9) = W0 := ⟨_,rfl⟩
 try rw [hW0]
 have hsz : W0.heap.size = bg + 4 := by rw [← hW0,World.size_alloc,hVs]
 have hI0 : PlInv w t m p bg st0 [st0.pl] (bg + 4) W0 := by
  rw [← hW0]
  have hb2 : Below V.heap.size V (V.alloc (.cells #[.string t] 9)) := below_alloc (Below.refl _ _) _
  refine ⟨hVg.below hb2,boxed_below hV4 hb2,boxed_below hV0 hb2,AllIn.below ⟨_,hV2,hV3⟩ hb2,?_,hV5.trans (hb2.mono hV5.size),by omega⟩
  have := Boxed.new V 9 (.string t)
  rwa [hVs] at this
 clear hW0 hV0 hV2 hV3 hV4 hV5 hVg c11 l11
 try rw [hVs]
 clear hVs
 have hF0 : Ly.Fit m st0 := hIn0.1
 refine range_outer (α := S60) rfl (by omega) (gf := 52) (lb := #[.pointer (some ⟨bg + 3,0,none⟩)]) rfl trivial (enters_of Tryd.func52 (by kernel_rfl) rfl)
  (cwalk1_seq 5 (by omega) w W0 t (bg + 3) (by omega) hT hI0.bel hI0.cls) (Below.refl _ _) (fun _ => rfl) (by omega)
  (fun (B : Nat) (pre : List S60) (W : World) => PlInv w t m p bg (layL m t st0 pre) (st0.pl :: plsL m t st0 pre) B W)
  (fun _ _ _ => False)
  (fun B pre X Y row h hg hr => h.grow hg (fun r e => ⟨by have := (hr r e).1;omega,(hr r e).2⟩))
  (fun B B' pre W hBB h => ⟨h.gr.mono hBB,h.txt,h.ptr,h.all.mono hBB,h.cls,h.bel,Nat.lt_of_lt_of_le h.low hBB⟩)
  (fun _ _ _ _ _ hs _ _ => hs)
  (by rw [hsz];exact hI0)
  (fun (x : S60) (a' : Act) (W : World) => ∃ Bx,Hid (W.heap[Bx]? = some (.cells #[.int .i64 x.f0,.int .i64 x.f1,.int .i64 x.f2,.int .i64 x.f3] 60 (0,0))) ∧ a' = { tmps := #[.string pt,.string t,.int .i64 width,undef,.pointer (some ⟨w.heap.size,0,none⟩),undef,.slice none 0 0,.pointer (some ⟨bg,0,none⟩),.pointer (some ⟨bg + 2,0,none⟩),.pointer (some ⟨Bx,0,none⟩),.string pt,.int .i64 width,.pointer (some ⟨p,0,none⟩),.pointer (some ⟨p,0,none⟩),.pointer (some ⟨p,0,none⟩),.pointer (some ⟨p,2,none⟩),.agg #[.int .i64 (st0.1.length : Int),.int .i64 (st0.2.length : Int)],.slice (some ⟨bg + 1,0,none⟩) 1 1,.string t,.func (.func 52) #[] #[.pointer (some ⟨bg + 3,0,none⟩)],.agg #[.int .i64 x.f0,.int .i64 x.f1,.int .i64 x.f2,.int .i64 x.f3],undef,undef,undef,undef,undef,undef,undef,undef,undef,undef,undef,undef],defers := [] })
  (fun x a' _ X Y row hs hg hr => by
   obtain ⟨Bx,h1,h2⟩ := hs
   refine ⟨Bx,?_,h2⟩
   refine (hg.block Bx (Array.getElem?_eq_some_iff.1 h1).1 (fun e => ?_)).trans h1
   obtain ⟨_,o,ho,hc⟩ := hr Bx e.symm
   rw [show X.heap[Bx]? = _ from h1] at ho;cases ho;cases hc)
  ?assign ?body ?done ?stop
 case assign =>
  rintro l B pre x W K hCW hBW hI hK
  have hsz1 := hI.bel.size
  gi_wp2
  exact hK _ _ ((KeepsOthers.alloc _ _).from _) (KeepB.of_below hsz1 ((Below.refl _ W).alloc (Nat.le_refl _) _)) (hI.below ((Below.refl _ W).alloc (Nat.le_refl _) _)) ⟨W.heap.size,Lib.hid (World.alloc_heap_new W _),rfl⟩
 case body =>
  rintro l B pre x a' W hl hCW hr hBW hI ⟨Bx,hBx,rfl⟩ hlt hpx
  obtain ⟨i,hci,hiS,hxe⟩ : ∃ i : Nat,CB t i ∧ i < t.size ∧ x = clAt t i := clus_mem t t.size 0 (cb_zero t) x (hpx.subset (by simp))
  have hx0 : 0 ≤ x.f0 := by rw [hxe];exact Int.natCast_nonneg _
  have hx1 : x.f0 ≤ x.f1 := by rw [hxe];have := nxt_up t _ i (Nat.le_refl _) hiS;show (i : Int) ≤ (nxt t i : Int);omega
  have hx2 : x.f1 ≤ t.size := by rw [hxe];have := nxt_le t i hci.1 hiS;show (nxt t i : Int) ≤ (t.size : Int);omega
  have hst : Hid (layL m t st0 (pre ++ [x]) = layC m t (layL m t st0 pre) x) := Lib.hid (layL_snoc _ _ _ _ _)
  have hpst : Hid (st0.pl :: plsL m t st0 (pre ++ [x]) = (st0.pl :: plsL m t st0 pre) ++ [(layC m t (layL m t st0 pre) x).pl]) := Lib.hid (by rw [plsL_snoc,List.cons_append])
  have hFt := layL_fit m t pre _ hF0
  have hLn := layL_len m t pre st0
  have hlt2 : pre.length < t.size := Nat.lt_of_lt_of_le hlt hlen
  have hL2 : (layL m t st0 pre).1.length ≤ 549755813888 := by omega
  have hPn : (st0.pl :: plsL m t st0 pre).length ≤ 68719476737 := by rw [List.length_cons,plsL_len];omega
  generalize layL m t st0 pre = st at hI hst hFt hL2 hpst ⊢
  generalize st0.pl :: plsL m t st0 pre = P at hI hpst hPn ⊢
  clear hLn hxe hpx
  have hTw := tabs_below hT hI.bel
  have cp := hI.ptr.cell
  have ct := hI.txt.cell
  have hpW := hI.gr.1.lt
  have hnb : ∀ k,nbP w.heap.size bg k → k < W.heap.size := by
   intro k hk
   have h1 := hI.txt.lt
   have h2 := hI.cls.lt
   unfold nbP at hk
   omega
  have hnp : ¬ nbP w.heap.size bg p := fun h => by unfold nbP at h;omega
  obtain ⟨x0,x1,x2,x3⟩ := x
  have b0 : W.cell? ⟨Bx,0,none⟩ = some (.int .i64 x0) := by simp [World.cell?,show W.heap[Bx]? = _ from hBx.out]
  have b1 : W.cell? ⟨Bx,1,none⟩ = some (.int .i64 x1) := by simp [World.cell?,show W.heap[Bx]? = _ from hBx.out]
  have b2 : W.cell? ⟨Bx,2,none⟩ = some (.int .i64 x2) := by simp [World.cell?,show W.heap[Bx]? = _ from hBx.out]
  have b3 : W.cell? ⟨Bx,3,none⟩ = some (.int .i64 x3) := by simp [World.cell?,show W.heap[Bx]? = _ from hBx.out]
  have hu60 := Tryd.underlying60
  have hnW : 2 ≤ w.heap.size := by
   have h1 := (hT.2 0 (by decide)).2
   have := World.block_lt_of_cell? w ⟨1,_,none⟩ h1
   exact this
  have hsub : (t.extract x0.toNat x1.toNat).size ≤ 1099511627776 := by simp [ByteArray.size_extract];omega
  dsimp only
  gi_upto_region 6 with (refine ⟨trivial,?_⟩;gi_at_call 36;refine (callsIn_wide.2 (gr_lay hI.gr.ahead.boundT (layOkT_new hnb hpW) hI.bel.size hnW hTw hFt hL2 t ⟨x0,x1,x2,x3⟩ hx0 hx1 hx2 (drawnS (t.extract x0.toNat x1.toNat)) (by unfold cluster_Drawn.f;exact if_pos hsub) _ rfl (decodeGo_le _))).mono ?_;rintro e w2 ⟨rfl,hG2,hB2,hK2⟩)
  have hG3 := hG2.mono (ok' := layOk B p (nbP w.heap.size bg) W) (fun k hk => hk.1) (fun h => h.2.2 rfl)
  have hK3 := kept_more hK2 (S' := fun k => layOk B p (nbP w.heap.size bg) W k ∨ k = p) (fun k hk => hk.imp And.left id)
  have hk := fun C => lay_keeps (C := C) (Pr := fun k => k = bg + 3) hK3 hB2 hI.gr.1.cells hI.gr.2 (fun k hk => ⟨.inr (.inr (.inr hk)),by omega⟩)
  have hb3 : ∀ k,nbP w.heap.size bg k → w2.heap[k]? = W.heap[k]? := fun k hk => hK3.2 k (hnb k hk) (fun h => h.elim (fun h => h.2.1 hk) (fun h => hnp (h ▸ hk)))
  have hpl2 : ∀ (k : Nat) (cs : Array Value),W.heap[k]? = some (Obj.cells cs 27 (0,0)) → w2.heap[k]? = W.heap[k]? := fun k cs hc => hK2.2 k (blk_lt hc) (fun h => h.elim (fun h => h.2 _ _ (.inr rfl) hc) (fun h => by
   obtain ⟨rv,hgp,_⟩ := hI.gr.1.1
   rw [← h,hc] at hgp
   cases hgp))
  have hgr := GrIn.behind hG3
  obtain ⟨st',hst'⟩ : ∃ st',st.lay m x2 x3 (drawnS (t.extract x0.toNat x1.toNat)) (Lib.decodeGo (drawnS (t.extract x0.toNat x1.toNat))).2 = st' := ⟨_,rfl⟩
  rw [hst'] at hgr
  have hst2 : Hid (layL m t st0 (pre ++ [(⟨x0,x1,x2,x3⟩ : S60)]) = st') := Lib.hid (by rw [hst.out,← hst'];rfl)
  have hpst2 : Hid (st0.pl :: plsL m t st0 (pre ++ [(⟨x0,x1,x2,x3⟩ : S60)]) = P ++ [st'.pl]) := Lib.hid (by rw [hpst.out,← hst'];rfl)
  obtain ⟨v,hv,hrow⟩ := hI.all.move (hb3 _ (.inr (.inr (.inl rfl)))) hpl2
  have hI2 : Boxed w2 w.heap.size 9 (.string t) ∧ Boxed w2 bg 62 (.pointer (some ⟨p,0,none⟩)) ∧ Boxed w2 (bg + 3) 9 (.string t) ∧ Below w.heap.size w w2 :=
   ⟨(hb3 _ (.inl rfl)).trans hI.txt,(hb3 _ (.inr (.inl rfl))).trans hI.ptr,(hb3 _ (.inr (.inr (.inr rfl)))).trans hI.cls,hI.bel.trans hB2⟩
  have hlow := hI.low
  have hBw := Nat.le_trans hBW hB2.size
  clear hI hG2 hG3 hK2 hK3 hst hpst hb3 hpl2 cp ct b0 b1 b2 b3 hBx hTw hB2 hst'
  have d4 := hgr.1.row
  have d5 := hgr.1.col
  refine startI_ (m := 8) (S := fun w' => w'.cell? ⟨bg + 2,0,none⟩ = some v ∧ w'.cell? ⟨bg,0,none⟩ = some (.pointer (some ⟨p,0,none⟩)) ∧ w'.cell? ⟨p,2,none⟩ = some (.int .i64 (st'.1.length : Int)) ∧ w'.cell? ⟨p,3,none⟩ = some (.int .i64 (st'.2.length : Int))) (ds := [7]) #[false,false,false,false,false,false,false,false] rfl (by kernel_rfl) rfl rfl ⟨hv.cell,hI2.2.1.cell,d4,d5⟩ (fun hHeld => ?_);refine with_tabW pl6.tab pl6.bits (fun HT_ HW_ => ?_)
  have hgr' : GrIn 65 w.heap.size p (nbP w.heap.size bg) w2.drew.heap.size w2.drew m st' := hgr.below (below_drew (Below.refl _ _))
  have hv' : Boxed w2.drew (bg + 2) 43 v := hv
  have hrow' := Kd.R_drew hrow
  have hI2' : Boxed w2.drew w.heap.size 9 (.string t) ∧ Boxed w2.drew bg 62 (.pointer (some ⟨p,0,none⟩)) ∧ Boxed w2.drew (bg + 3) 9 (.string t) ∧ Below w.heap.size w w2.drew := ⟨hI2.1,hI2.2.1,hI2.2.2.1,below_drew1 hI2.2.2.2⟩
  have hBw' : B ≤ w2.drew.heap.size := hBw
  have hk' : ∀ C,KeepsFrom C W w2.drew ∧ KeepB w.heap.size (fun k => k = bg + 3) B W w2.drew := fun C => ⟨(hk C).1.trans ((KeepsOthers.drew w2).from C),(hk 0).2.trans (KeepB.of_below hI2.2.2.2.size (below_drew (Below.refl _ _)))⟩
  clear hgr hv hrow hI2 d4 d5 hBw hk
  generalize w2.drew = w3 at hgr' hv' hrow' hI2' hHeld hBw' hk' ⊢
  clear w2
  obtain ⟨Av,cv,rfl⟩ := Kd.R_slice hrow'
  refine take_ (i := 0) (N := (some 25)) (v := ?_) (a' := ?_) #[true,false,false,false,false,false,false,false] rfl rfl (take_ofW HT_.out HW_.out (by kernel_rfl)) (fun _ _ _ h => by cases h.1) (Or.inl ⟨by rfl,?_⟩) hHeld ?_ ?_
  rotate_left
  ·rintro w' ⟨s1,s2,s3,s4⟩
   go_simp
   with_reducible rfl
  rotate_left
  ·simp only [Act.put,List.setIfInBounds_toArray,List.set_cons_zero,List.set_cons_succ,i64_w,i32_w]
   rfl
  refine take_ (i := 1) (N := (some 26)) (v := ?_) (a' := ?_) #[true,true,false,false,false,false,false,false] rfl rfl (take_ofW HT_.out HW_.out (by kernel_rfl)) (fun _ _ _ h => by cases h.1) (Or.inl ⟨by rfl,?_⟩) hHeld ?_ ?_
  rotate_left
  ·rintro w' ⟨s1,s2,s3,s4⟩
   go_simp
   with_reducible rfl
  rotate_left
  ·simp only [Act.put,List.setIfInBounds_toArray,List.set_cons_zero,List.set_cons_succ,i64_w,i32_w]
   rfl
  refine pure_ (i := 2) (N := (some 27)) (v := ?_) (a' := ?_) #[true,true,true,false,false,false,false,false] rfl rfl (any_of HT_.out (by kernel_rfl)) (fun _ _ _ h => by cases h.1) (Or.inl ⟨by rfl,?_⟩) ?_ ?_
  rotate_left
  ·intro w'
   go_simp
   with_reducible rfl
  rotate_left
  ·simp only [Act.put,List.setIfInBounds_toArray,List.set_cons_zero,List.set_cons_succ,i64_w,i32_w]
   rfl
  refine pure_ (i := 3) (N := (some 28)) (v := ?_) (a' := ?_) #[true,true,true,true,false,false,false,false] rfl rfl (any_of HT_.out (by kernel_rfl)) (fun _ _ _ h => by cases h.1) (Or.inl ⟨by rfl,?_⟩) ?_ ?_
  rotate_left
  ·intro w'
   go_simp
   with_reducible rfl
  rotate_left
  ·simp only [Act.put,List.setIfInBounds_toArray,List.set_cons_zero,List.set_cons_succ,i64_w,i32_w]
   rfl
  refine take_ (i := 4) (N := (some 29)) (v := ?_) (a' := ?_) #[true,true,true,true,true,false,false,false] rfl rfl (take_ofW HT_.out HW_.out (by kernel_rfl)) (fun _ _ _ h => by cases h.1) (Or.inl ⟨by rfl,?_⟩) hHeld ?_ ?_
  rotate_left
  ·rintro w' ⟨s1,s2,s3,s4⟩
   go_simp
   with_reducible rfl
  rotate_left
  ·simp only [Act.put,List.setIfInBounds_toArray,List.set_cons_zero,List.set_cons_succ,i64_w,i32_w]
   rfl
  refine one_ (i := 5) (N := (some 30)) #[true,true,true,true,true,true,false,false] rfl rfl (one_of HT_.out (by kernel_rfl)) (by decide) (fun K hK => ?_)
  refine value_ (w1 := ?_) (v := ?_) (by rfl) rfl ?_ ?_
  rotate_left 2
  ·go_simp
   constructor
   ·rfl
   ·rfl
  refine hK.out _ _ (sees4 hHeld (below_alloc (Below.refl _ _) _)) (fun hHeld => ?_)
  clear hK K
  refine norm_ (a' := ?_) ?_ ?_
  rotate_left
  ·show Act.put _ (some 30) _ = _
   simp only [Act.put,List.setIfInBounds_toArray,List.set_cons_zero,List.set_cons_succ,i64_w,i32_w]
   rfl
  refine one_ (i := 6) (N := (some 31)) #[true,true,true,true,true,true,true,false] rfl rfl (one_of HT_.out (by kernel_rfl)) (by decide) (fun K hK => ?_)
  refine Kd.R_append_step kPl (w0 := w) w.heap.size (by rfl) (.tmp 25) (.tmp 30) 43 27 (.agg #[.int .i64 0,.int .i64 0]) 16 rfl Tryd.underlying43 info27 rfl (by decide) (by decide) (.slice Av P.length cv) P st'.pl [.int .i64 (st'.1.length : Int),.int .i64 (st'.2.length : Int)] (fun k => k < B ∨ w3.heap.size ≤ k) (fun _ => False) rfl rfl (k27_mkM _ _ _ st'.pl) (fun _ hk => hk.elim) (fun k hk => .inr hk) (Kd.R_mono hrow' (fun k hk => .inl hk)) hI2'.2.2.2 hI2'.2.2.2.size (by omega) ?_
  intro v1 w4 hR4 hB4 hg4 hat4
  have hown := hrow'.1
  have hty : ∀ k,(Value.slice Av P.length cv).ownBlock = some k → ∃ cells,w3.heap[k]? = some (.cells cells 27 (0,0)) := fun k hk => Kd.R_typed hrow' k hk
  obtain ⟨A4,c4,he4⟩ := Kd.R_slice hR4
  rw [List.length_append,List.length_singleton] at he4
  subst he4
  have hne : ∀ {k : Nat} {cs : Array Value} {tt : Nat},w3.heap[k]? = some (.cells cs tt (0,0)) → tt ≠ 27 → some k ≠ (Value.slice Av P.length cv).ownBlock := fun hk ht he => by
   obtain ⟨cells,hc⟩ := hty _ he.symm
   rw [hk] at hc
   cases hc
   exact ht rfl
  have g1 : Boxed w4 w.heap.size 9 (.string t) := (hg4.block _ hI2'.1.lt (hne hI2'.1 (by decide))).trans hI2'.1
  have g2 : Boxed w4 bg 62 (.pointer (some ⟨p,0,none⟩)) := (hg4.block _ hI2'.2.1.lt (hne hI2'.2.1 (by decide))).trans hI2'.2.1
  have g3 : Boxed w4 (bg + 3) 9 (.string t) := (hg4.block _ hI2'.2.2.1.lt (hne hI2'.2.2.1 (by decide))).trans hI2'.2.2.1
  have g4 : Boxed w4 (bg + 2) 43 (.slice Av P.length cv) := (hg4.block _ hv'.lt (hne hv' (by decide))).trans hv'
  have g5 : GrIn 65 w.heap.size p (nbP w.heap.size bg) w3.heap.size w4 m st' := by
   obtain ⟨⟨rv,h1,h2⟩,h3,h4⟩ := hgr'.1
   exact ⟨⟨⟨rv,(hg4.block _ (blk_lt h1) (hne h1 (by decide))).trans h1,Kd.S_over' h2 hty (by decide) hg4⟩,h3,h4⟩,hgr'.2⟩
  have g6 : ∀ C,KeepsFrom C w3 w4 ∧ KeepB w.heap.size (fun k => k = bg + 3) B w3 w4 := fun C => ⟨⟨hg4.size,fun k o _ ho hc => (hg4.block k (Array.getElem?_eq_some_iff.1 ho).1 (fun he => by
   obtain ⟨cells,hc'⟩ := hty k he.symm
   rw [ho] at hc'
   cases hc'
   cases hc)).trans ho⟩,Below.grown (Below.refl _ _) hg4 hI2'.2.2.2.size (fun k he => Kd.R_base hrow' k he),fun k o hk ho hc => (hg4.block k (Array.getElem?_eq_some_iff.1 ho).1 (fun he => by
   have hkB := hown k he.symm
   rcases hk with hk | hk
   ·subst hk
    exact hne hI2'.2.2.1 (by decide) he
   ·omega)).trans ho⟩
  have g7 : Below w.heap.size w w4 := hI2'.2.2.2.trans (g6 0).2.1
  have d4 := g5.1.row
  have d5 := g5.1.col
  refine hK.out _ _ ⟨g4.cell,g2.cell,d4,d5⟩ (fun hHeld => ?_)
  clear hK K
  refine norm_ (a' := ?_) ?_ ?_
  rotate_left
  ·show Act.put _ (some 31) _ = _
   simp only [Act.put,List.setIfInBounds_toArray,List.set_cons_zero,List.set_cons_succ,i64_w,i32_w]
   rfl
  refine last_ (i := 7) (N := none) #[true,true,true,true,true,true,true,true] rfl rfl (one_of HT_.out (by kernel_rfl)) (by decide) (fun K hK => ?_)
  have d6 := g4.cell
  have f6 := g4.frozen
  refine skip_ (w1 := ?_) (by rfl) rfl ?_ ?_
  rotate_left
  ·go_simp
   rfl
  refine hK.out _ _ ?_
  clear hK K
  refine done_ (done_of HT_.out (by kernel_rfl)) ?_
  clear HT_ HW_
  refine ⟨rfl,?_⟩
  have hk4 := fun C => keep_setA (X := w4) (C := C) (B := B) (b := bg + 2) (j := 0) (Pr := fun k => k = bg + 3) g7.size (by omega) (by omega) (fun k hk => by omega) (.slice A4 (P.length + 1) c4)
  have ho : ∀ k,k ≠ bg + 2 → (w4.setCell ⟨bg + 2,0,none⟩ (.slice A4 (P.length + 1) c4)).heap[k]? = w4.heap[k]? := fun k hk => Below.heap_setCell w4 ⟨bg + 2,0,none⟩ _ k hk
  have hse : (w4.setCell ⟨bg + 2,0,none⟩ (.slice A4 (P.length + 1) c4)).heap.size = w4.heap.size := by simp [World.setCell]
  have hR5 : Kd.R kPl 27 (w4.setCell ⟨bg + 2,0,none⟩ (.slice A4 (P.length + 1) c4)) w.heap.size (fun k => k < w4.heap.size) (.slice A4 (P.length + 1) c4) (P ++ [st'.pl]) := by
   refine Kd.R_mono (Kd.R_move (Kd.R_bound hR4) (fun k hk => ho k (fun he => ?_))) (fun k hk => hk.2.2.1)
   obtain ⟨_,_,_,q,hq,cs,hc⟩ := hk
   rw [he] at hc
   rw [show w4.heap[bg + 2]? = _ from g4] at hc
   cases hc
   rcases List.mem_cons.1 hq with h | h
   ·exact absurd h (by decide)
   ·exact absurd h (by simp [kPl,k27,Kd.iso,Kd.pair,Kd.int,Kd.scalar])
  refine ⟨((hk' _).1.trans (g6 _).1).trans (hk4 _).1,((hk' 0).2.trans (g6 0).2).trans (hk4 0).2,?_⟩
  show PlInv w t m p bg (layL m t st0 _) _ _ _
  rw [hst2.out,hpst2.out,hse]
  have hgB := g5.mono (B' := w4.heap.size) hg4.size
  exact ⟨hgB.other (.inr (.inr (.inl rfl))) (by omega) 0 _,(ho _ (by omega)).trans g1,(ho _ (by omega)).trans g2,⟨_,g4.set _,hR5⟩,(ho _ (by omega)).trans g3,g7.setCell (p := ⟨bg + 2,0,none⟩) (by show w.heap.size ≤ bg + 2;omega) _,Nat.lt_of_lt_of_le (Nat.lt_of_lt_of_le hlow hBw') hg4.size⟩
 case done =>
  rintro D ys W hD hys hI hK
  have e : ys = clusL t := hys
  rw [e,hRW.out] at hI
  obtain ⟨v,hv,hrow⟩ := hI.all
  have hc := hv.cell
  gi_wp2
  refine ⟨by simp,.inl ⟨_,_,rfl,run_takeDeferred hK,?_⟩⟩
  refine ⟨_,results_tmp rfl _ _ _,v,rfl,?_,hI.bel.trans (belowK_b (w := w) (Nat.le_refl _) W D _ _ (by omega) hK rfl rfl)⟩
  obtain ⟨h0,inner,ho,hr⟩ := hrow
  refine Kd.R_mono (Kd.R_move (Kd.R_bound ⟨h0,inner,ho,hr⟩) (fun k hk => World.putObj_heap_other (fun he => ?_))) (fun _ _ => trivial)
  obtain ⟨_,_,_,q,hq,cs,hcc⟩ := hk
  have he' : k = D := by first | exact he | exact he.symm
  rw [he',hK] at hcc
  cases hcc
 case stop =>
  rintro D c pre W _ _ h _
  exact h.elim
end Go.Proofs.YtnpjaaldppemlaaDoor.U
end
section
namespace Go.Proofs.YtnpjaaldppemlaaDoor.U
open Go.RowKit Go.Shelf Go.Proofs.YtnpjaaldppemlaaDoor.Mu Go.Proofs.YtnpjaaldppemlaaDoor.Pu Go.Proofs.YtnpjaaldppemlaaDoorW.PrintWords Go.Proofs.YtnpjaaldppemlaaDoorW.PrintLast Go.Proofs.YtnpjaaldppemlaaDoorW.PrintMore
set_option linter.unusedVariables false
set_option linter.unusedSimpArgs false
def txt6.T : Bool × List (List Nat × List Nat) := (true,[([],[]),([],[]),([],[]),([1,2],[1,2]),([3],[3]),([],[]),([],[]),([],[]),([6,7],[6,7]),([8],[8]),([9],[9]),([],[]),([],[]),([11,12],[11,12]),([13],[13]),([14],[14]),([5,10,15],[5,10,15]),([16],[16]),([0,4,17,17],[0,4,17])])
def txt6.B : List Nat := [0,0,0,6,14,0,0,0,192,448,960,0,0,6144,14336,30720,65504,131040,262143]
theorem txt6.tab : rtab .any (opsOf Tryd.f45 6) = txt6.T := by kernel_rfl
theorem txt6.bits : waitsOk txt6.T.2 txt6.B = true := by kernel_rfl
end Go.Proofs.YtnpjaaldppemlaaDoor.U
end
section
namespace Go.Proofs.YtnpjaaldppemlaaDoor.U
open Go.RowKit Go.Shelf Go.Proofs.YtnpjaaldppemlaaDoor.Mu Go.Proofs.YtnpjaaldppemlaaDoor.Pu Go.Proofs.YtnpjaaldppemlaaDoorW.PrintWords Go.Proofs.YtnpjaaldppemlaaDoorW.PrintLast Go.Proofs.YtnpjaaldppemlaaDoorW.PrintMore
set_option linter.unusedVariables false
set_option linter.unusedSimpArgs false
theorem plsL_get (wd : Int) (t : ByteArray) : ∀ (cs : List S60) (st : Ly) (i : Nat),i < cs.length → (plsL wd t st cs)[i]? = some (layL wd t st (cs.take (i + 1))).pl
 | [],_,_,h => by simp at h
 | c :: cs,st,0,_ => by rw [plsL];simp [layL]
 | c :: cs,st,i + 1,h => by
  rw [plsL,List.getElem?_cons_succ,plsL_get wd t cs _ i (by simpa using h)]
  rfl
def ray2.T : Bool × List (List Nat × List Nat) := (true,[([],[]),([0],[0]),([1],[1]),([2],[2]),([],[]),([4],[4]),([5],[5]),([3,6],[3,6]),([],[]),([8,7,0,1,2,3,4,5,6,7,8],[7,8])])
def ray2.B : List Nat := [0,1,3,7,0,16,48,127,0,511]
theorem ray2.tab : rtab .any (opsOf Tryd.f13 2) = ray2.T := by kernel_rfl
theorem ray2.bits : waitsOk ray2.T.2 ray2.B = true := by kernel_rfl
def ray12.T : Bool × List (List Nat × List Nat) := (true,[([],[]),([0],[0]),([],[]),([2],[2]),([3],[3]),([4],[4]),([],[]),([5,6],[5,6]),([7],[7]),([8],[8]),([9],[9]),([1,10,9],[1,10]),([0,1,2,3,4,5,6,7,8,9,10,11],[]),([12,11,11,0,1,2,3,4,5,6,7,8,9,10,11],[11,12])])
def ray12.B : List Nat := [0,1,0,4,12,28,0,124,252,508,1020,2047,4095,8191]
theorem ray12.tab : rtab .any (opsOf Tryd.f13 12) = ray12.T := by kernel_rfl
theorem ray12.bits : waitsOk ray12.T.2 ray12.B = true := by kernel_rfl
end Go.Proofs.YtnpjaaldppemlaaDoor.U
end
section
namespace Go.Proofs.YtnpjaaldppemlaaDoor.U
open Go.RowKit Go.Shelf Go.Proofs.YtnpjaaldppemlaaDoor.Mu Go.Proofs.YtnpjaaldppemlaaDoor.Pu Go.Proofs.YtnpjaaldppemlaaDoorW.PrintWords Go.Proofs.YtnpjaaldppemlaaDoorW.PrintLast Go.Proofs.YtnpjaaldppemlaaDoorW.PrintMore
set_option linter.unusedVariables false
/-- A width as it counts. -/
def cntW (width : Int) : Int := mn (mx width 1) 65535
/-- The grid behind a prompt. -/
def st0L (p : ByteArray) (width : Int) : Ly := layL (cntW width) p ([],[]) (clusL p)
/-- The grid behind a text,and the cursor's place. -/
def endL (p t : ByteArray) (cursor width : Int) : Ly × (Int × Int) := atL (cntW width) t cursor (st0L p width,(st0L p width).place) (clusL t)
def rowsL (p t : ByteArray) (cursor width : Int) : List (List Cl) := ((endL p t cursor width).1.1 ++ [(endL p t cursor width).1.2]).map trimR
def placesL (p t : ByteArray) (width : Int) : List Pl := (st0L p width).pl :: plsL (cntW width) t (st0L p width) (clusL t)
def layout_Lay.f (a0 a1 : ByteArray) (a2 a3 : Int) : Option (Int × List (List Cl) × Int × Int) := if a0.size ≤ 34359738368 ∧ a1.size ≤ 34359738368 then some (cntW a3,rowsL a0 a1 (if a2 < 0 then 0 else a2) a3,(endL a0 a1 (if a2 < 0 then 0 else a2) a3).2.1,(endL a0 a1 (if a2 < 0 then 0 else a2) a3).2.2) else none
def layout_Places.f (a0 a1 : ByteArray) (a2 : Int) : Option (List Pl) := if a0.size ≤ 34359738368 ∧ a1.size ≤ 34359738368 then some (placesL a0 a1 a2) else none
theorem held_w (a : Int) : layout_held.f a = some (cntW a) := rfl
theorem layout_Lay.calls (a0 a1 : ByteArray) (a2 a3 : Int) (r1 : Int) (r2 : List (List Cl)) (r3 r4 : Int) (w : World) (hT : Lib.Utf8Tabs 0 1 w) (h : layout_Lay.f a0 a1 a2 a3 = some (r1,r2,r3,r4)) :
  Calls Tryd.prog 14 #[.string a0,.string a1,.int .i64 a2,.int .i64 a3] w fun e w' => ∃ v1_ : Value,e = .returned (.agg #[.int .i64 r1,v1_,.int .i64 r3,.int .i64 r4]) ∧ Kd.S (Kd.slice 35 k35) 33 w' w.heap.size (fun _ => True) v1_ r2 ∧ Below w.heap.size w w' := by
 unfold layout_Lay.f at h
 split at h
 ·rename_i hs
  cases h
  exact lay_any a0 a1 a2 a3 (cntW a3) w (by omega) (by omega) (held_w a3) hT _ rfl _ rfl _ (Lib.hid rfl)
 ·cases h
theorem layout_Places.calls (a0 a1 : ByteArray) (a2 : Int) (r : List Pl) (w : World) (hT : Lib.Utf8Tabs 0 1 w) (h : layout_Places.f a0 a1 a2 = some r) :
  Calls Tryd.prog 25 #[.string a0,.string a1,.int .i64 a2] w fun e w' => ∃ v0_ : Value,e = .returned (v0_) ∧ Kd.R k27 27 w' w.heap.size (fun _ => True) v0_ r ∧ Below w.heap.size w w' := by
 unfold layout_Places.f at h
 split at h
 ·rename_i hs
  cases h
  exact places_any a0 a1 a2 (cntW a2) w (by omega) (by omega) (held_w a2) hT _ rfl _ (Lib.hid rfl)
 ·cases h
end Go.Proofs.YtnpjaaldppemlaaDoor.U
end
