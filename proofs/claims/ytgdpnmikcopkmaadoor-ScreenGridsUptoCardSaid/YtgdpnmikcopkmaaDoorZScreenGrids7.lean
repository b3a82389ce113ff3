/- What the law ScreenGrids reaches of this seat's own texts, merged; what nothing uses is left out. -/
import Derived.Test.YtgdpnmikcopkmaaDoorZScreenGrids0
import Derived.Test.YtgdpnmikcopkmaaDoorZScreenGrids6
section
namespace Go.Proofs.YtgdpnmikcopkmaaDoor.U
open Go.RowKit Go.Proofs.YtgdpnmikcopkmaaDoor.Mu Go.Proofs.YtgdpnmikcopkmaaDoor.Pu Go.Proofs.YtgdpnmikcopkmaaDoorW.PrintWords Go.Proofs.YtgdpnmikcopkmaaDoorW.PrintLast Go.Proofs.YtgdpnmikcopkmaaDoorW.PrintMore
set_option linter.unusedVariables false
set_option linter.unusedSimpArgs false
theorem scr_cursor {base p : Nat} {O : Nat → Prop} {w : World} {S : Sc × ByteArray} (h : Scr base p O w S) : Calls Tryd.prog 26 #[.pointer (some ⟨p,0,none⟩)] w fun e w' => e = .returned (.agg #[.int .i64 S.1.r,.int .i64 S.1.c]) ∧ Below w.heap.size w w' := sc_cursor h.at_
/-- A screen while a place lies beside it. -/
structure At2 (base p q : Nat) (O : Nat → Prop) (W w : World) (S : Sc × ByteArray) : Prop where
 scr : Scr base p O w S
 bs : base ≤ w.heap.size
 below : Below base W w
 blk : w.heap[q]? = some (.cells #[.int .i64 S.1.r,.int .i64 S.1.c] 24 (0,0))
 oq : ∀ k,O k → k < q
 pq : p < q
theorem At2.more {base p q : Nat} {O : Nat → Prop} {W w w1 : World} {S : Sc × ByteArray} (h : At2 base p q O W w S) (hb : Below w.heap.size w w1) : At2 base p q O W w1 S :=
 ⟨h.scr.below hb,Nat.le_trans h.bs hb.size,h.below.trans (hb.mono h.bs),blk_below h.blk hb,h.oq,h.pq⟩
theorem At2.made {base p q : Nat} {O : Nat → Prop} {W w w1 : World} {S : Sc × ByteArray} (h : At2 base p q O W w S) (hm : Made base p O O w w1 S) : At2 base p q O W w1 S :=
 ⟨hm.scr,Nat.le_trans h.bs hm.kept.1,h.below.trans hm.below,blk_kept h.blk hm.kept (fun he => he.elim (fun h2 => by have := h.oq q h2;omega) (fun h2 => by have := h.pq;omega)),h.oq,h.pq⟩
theorem At2.sees {base p q : Nat} {O : Nat → Prop} {W w : World} {S : Sc × ByteArray} (h : At2 base p q O W w S) : w.cell? ⟨q,0,none⟩ = some (.int .i64 S.1.r) ∧ w.cell? ⟨q,1,none⟩ = some (.int .i64 S.1.c) := ⟨blk_cell h.blk 0,blk_cell h.blk 1⟩
def gr11.T : Bool × List (List Nat × List Nat) := (true,[([],[]),([0],[0]),([1],[1]),([2],[2]),([3],[3]),([4,3],[3,4]),([3],[3]),([6,3,3],[3,6]),([5,7,3],[3,5,7]),([3,8],[3,8]),([9,7],[9]),([10],[10]),([11,10],[10,11]),([12,10],[10,12]),([10,13],[10,13]),([14,10],[14]),([15],[15]),([16,15],[15,16]),([15],[15]),([18,15,15],[15,18]),([17,19,15],[15,17,19]),([15,20],[15,20]),([21,19],[21]),([22],[22]),([23,22,22],[22,23]),([24,24,22],[22,24]),([25],[25]),([26,25],[25,26]),([25],[25]),([28,25,25],[25,28]),([29,25],[25,29]),([27,30,25],[25,27,30]),([25,31,22],[22,25,31]),([22,32],[22,32]),([33,29],[33]),([34],[34]),([35,34,34],[34,35]),([34],[34]),([37,34],[34,37]),([36,38,34],[34,36,38]),([34,39],[34,39]),([40,36],[40]),([41],[41]),([42,41,41],[41,42]),([41],[41]),([44,43,41],[41,44]),([43,45,41],[41,43,45]),([41,46],[41,46])])
def gr11.B : List Nat := [0,1,3,7,15,31,15,79,255,511,1023,2047,4095,8191,16383,32767,65535,131071,65535,327679,1048575,2097151,4194303,8388607,16777215,33554431,67108863,134217727,67108863,335544319,872415231,2147483647,4294967295,8589934591,17179869183,34359738367,68719476735,34359738367,171798691839,549755813887,1099511627775,2199023255551,4398046511103,8796093022207,4398046511103,35184372088831,70368744177663,140737488355327]
theorem gr11.tab : rtab .any (opsOf Tryd.f8 11) = gr11.T := by kernel_rfl
theorem gr11.bits : waitsOk gr11.T.2 gr11.B = true := by kernel_rfl
set_option maxRecDepth 100000 in
set_option maxHeartbeats 8000000 in
theorem grids_any (a0 a1 : Int) (h0 : 0 ≤ a0 ∧ a0 ≤ 255) (h1 : 0 ≤ a1 ∧ a1 ≤ 255) (A2 : Option Addr) (c2 : Nat) (l2 : List OpV) (W : World) (hr2 : Kd.C kOp W A2 l2.length l2) (hc2 : l2.length ≤ c2) (hl2 : 3 * l2.length ≤ 1048576) (hs2 : ∀ x ∈ l2,x.f0.size ≤ 1048576) (hT : Lib.Utf8Tabs 0 1 W) :
  Calls Tryd.prog 8 #[.int .u8 a0,.int .u8 a1,.slice A2 l2.length c2] W fun e w' => e = .returned (.bool true) ∧ Below W.heap.size W w' := by
 have h2 := tabs_two hT
 go_enter Tryd.func8,Tryd.ntmps8
 go_upto_region 4 with (first | (go_at_call 13;refine (law_shows _ hT h2).mono ?_;rintro e w1 ⟨rfl,hb1⟩;have hN1 := hb1) | (go_at_call 14;refine (scr_new a0 a1 _).mono ?_;rintro e w2 ⟨pa,rfl,hpa,hSa,hb2⟩;have hA0 := hSa W.heap.size hN1.size;have hN2 := hN1.trans (hb2.mono hN1.size)))
 have hfit := fit2_new a0 a1
 have hgs := gs_new a0 a1
 have hgs : GS (newSc a0 a1,(⟨#[]⟩ : ByteArray)).1 := hgs
 generalize (newSc a0 a1,(⟨#[]⟩ : ByteArray)) = S0 at hA0 hfit hgs
 clear hSa hN1 hb1 hb2 hpa
 go_wp2_with (fail)
 go_loopw [22] (fun v wr => ∃ (i : Nat) (S : Sc × ByteArray) (O : Nat → Prop),v = .int .i64 i ∧ i ≤ l2.length ∧ Scr W.heap.size pa O wr S ∧ Fit2 S (4 + i * 1048576) ∧ GS S.1 ∧ Below W.heap.size W wr) (fun v _ => l2.length - (intOf v).toNat)
 case atStart => exact ⟨0,S0,_,rfl,Nat.zero_le _,hA0,by simpa using hfit,hgs,hN2⟩
 case round =>
  obtain ⟨i,S1,O1,rfl,hi,hA1,hf1,hg1,hN3⟩ := hrel
  clear hA0 hfit hgs hN2
  by_cases hlt : i < l2.length
  ·have hlt' : (i : Int) < (l2.length : Int) := by omega
   obtain ⟨ad,rfl,l0,l1,l3⟩ := op_at hr2 i hlt
   have l0 := cell_below l0 hN3
   have l1 := cell_below l1 hN3
   have l3 := cell_below l3 hN3
   have hsz : (l2.getD i zOp).f0.size ≤ 1048576 := by
    refine hs2 _ ?_
    rw [List.getD_eq_getElem?_getD,List.getElem?_eq_getElem hlt]
    exact List.getElem_mem _
   generalize l2.getD i zOp = op at l0 l1 l3 hsz
   obtain ⟨ob,on,oc⟩ := op
   dsimp only at l0 l1 l3 hsz
   have hbs1 := hN3.size
   go_upto_region 7 with (fail)
   have hal := below_alloc (Below.refl _ wr) (.cells #[.string ob,.int .i64 on,.bool oc] 53 (0,0))
   have hq := World.alloc_heap_new wr (.cells #[.string ob,.int .i64 on,.bool oc] 53 (0,0))
   have hlt1 := hA1.lt
   have hbd1 := hA1.bd
   have hA2 := hA1.below hal
   have hN4 := hN3.trans (hal.mono hbs1)
   generalize wr.alloc (.cells #[.string ob,.int .i64 on,.bool oc] 53 (0,0)) = w2 at hq hA2 hN4 ⊢
   clear hal hA1 hN3 l0 l1 l3
   have c1 := blk_cell hq 1
   go_upto_if 28 with (fail)
   go_cut [] from 26 to 34 (fun w3 => ∃ (S : Sc × ByteArray) (O : Nat → Prop),Scr W.heap.size pa O w3 S ∧ Fit2 S (4 + i * 1048576) ∧ GS S.1 ∧ Below W.heap.size W w3 ∧ w3.heap[wr.heap.size]? = some (.cells #[.string ob,.int .i64 on,.bool oc] 53 (0,0)))
   case first =>
    by_cases hpos : 0 < on
    ·have hpos' := eq_true hpos
     obtain ⟨kk,hkk⟩ : ∃ kk,kk = Int.tmod on 300 := ⟨_,rfl⟩
     go_wp2_with (go_at_call 31;refine (scr_resize hA2 hN4.size hf1.ok _).mono ?_;rintro e w4 ⟨rfl,O4,hM⟩;have hA4 := hM.scr;have hN5 := hN4.trans hM.below;have hq5 := blk_kept hq hM.kept (fun he => he.elim (fun h => by have := hbd1 _ h;omega) (fun h => by omega)))
     go_meet
     case rel => exact ⟨_,O4,hA4,hf1.resize _,gs_resize hg1 _,hN5,hq5⟩
    ·have hpos' := eq_false hpos
     go_wp2_with (fail)
     go_meet
     case rel => exact ⟨S1,O1,hA2,hf1,hg1,hN4,hq⟩
   case rest =>
    clear hA2 hf1 hg1 hN4 hq hlt1 hbd1 c1
    obtain ⟨S2,O2,hA5,hf5,hg5,hN5,hq5⟩ := hcut
    have c0 := blk_cell hq5 0
    have hmul : i * 1048576 ≤ l2.length * 1048576 := Nat.mul_le_mul_right _ hi
    go_upto_region 10 with (go_at_call 16;refine (scr_feed hA5 hN5.size h2 (tabs_base hT hN5 h2) hf5.fit ob (by omega)).mono ?_;rintro e w6 ⟨rfl,O6,hM⟩;have hA6 := hM.scr;have hN6 := hN5.trans hM.below)
    have hf6 := (hf5.feed ob).mono (M := 4 + (i + 1) * 1048576) (by omega)
    have hg6 := gs_feed hg5 hf5.ok ob
    clear hM hA5 hN5 hf5 hg5 hq5 c0
    generalize feedS S2 ob = S at hA6 hf6 hg6
    go_upto_region 11 with (go_at_call 26;refine (scr_cursor hA6).mono ?_;rintro e w7 ⟨rfl,hb7⟩)
    have hok := hf6.ok
    have hA7 := hA6.below hb7
    have hN7 := hN6.trans (hb7.mono hN6.size)
    have hal := below_alloc (Below.refl _ w7) (.cells #[.int .i64 S.1.r,.int .i64 S.1.c] 24 (0,0))
    have g10 : At2 W.heap.size pa w7.heap.size O6 W (w7.alloc (.cells #[.int .i64 S.1.r,.int .i64 S.1.c] 24 (0,0))) S :=
     ⟨hA7.below hal,Nat.le_trans hN7.size hal.size,hN7.trans (hal.mono hN7.size),World.alloc_heap_new w7 _,hA7.bd,hA7.lt⟩
    generalize w7.alloc (.cells #[.int .i64 S.1.r,.int .i64 S.1.c] 24 (0,0)) = w10 at g10 ⊢
    generalize w7.heap.size = q at g10 ⊢
    clear hal hA7 hN7 hA6 hN6 hb7
    have o1 := hok.w1
    have o2 := hok.rl
    have o3 := hok.rh
    have o4 := lastN_le S.1.rows S.1.rows.length
    have o5 := hok.cw
    have o6 := hok.w2
    have k1 := eq_false (show ¬ (S.1.r : Int) < 0 by omega)
    have k2 := eq_false (show ¬ (S.1.h : Int) ≤ (S.1.r : Int) by omega)
    have k3 := eq_false (show ¬ (S.1.c : Int) < 0 by omega)
    have k4 := eq_false (show ¬ (S.1.w : Int) ≤ (S.1.c : Int) by omega)
    have k5 := eq_false (show ¬ (S.1.nrows : Int) ≤ (S.1.r : Int) by unfold Sc.nrows;omega)
    have k6 := eq_false (show ¬ (S.1.h : Int) < (S.1.nrows : Int) by unfold Sc.nrows;omega)
    have hfu := Lib.hid hok.fu
    have hok' := Lib.hid hok
    have hsee := g10.sees
    go_cut [87] from 40 to 88 (fun v w3 => v = .bool false ∧ At2 W.heap.size pa q O6 W w3 S)
    case first =>
     cases hful : S.1.full with
     | false =>
      clear hfu
      have hfF := Lib.hid hful
      clear hful
      refine start_ (n := 48) (S := fun w' => w'.cell? ⟨q,0,none⟩ = some (.int .i64 S.1.r) ∧ w'.cell? ⟨q,1,none⟩ = some (.int .i64 S.1.c)) (ds := []) #[false,false,false,false,false,false,false,false,false,false,false,false,false,false,false,false,false,false,false,false,false,false,false,false,false,false,false,false,false,false,false,false,false,false,false,false,false,false,false,false,false,false,false,false,false,false,false,false] (by kernel_rfl) rfl rfl hsee (fun hHeld => ?_);refine with_tabW gr11.tab gr11.bits (fun HT_ HW_ => ?_)
      have g11 := g10.more (below_drew (Below.refl _ _))
      generalize w10.drew = w11 at g11 hHeld ⊢
      clear g10
      refine pure_ (i := 0) (N := (some 40)) (v := ?_) (a' := ?_) #[true,false,false,false,false,false,false,false,false,false,false,false,false,false,false,false,false,false,false,false,false,false,false,false,false,false,false,false,false,false,false,false,false,false,false,false,false,false,false,false,false,false,false,false,false,false,false,false] rfl rfl (any_of HT_.out (by kernel_rfl)) (fun _ _ _ h => h) (Or.inl ⟨by rfl,?_⟩) ?_ ?_
      rotate_left
      ·intro w'
       go_simp
       with_reducible rfl
      rotate_left
      ·simp only [Act.put,List.setIfInBounds_toArray,List.set_cons_zero,List.set_cons_succ,i64_w,i32_w]
       rfl
      refine take_ (i := 1) (N := (some 41)) (v := ?_) (a' := ?_) #[true,true,false,false,false,false,false,false,false,false,false,false,false,false,false,false,false,false,false,false,false,false,false,false,false,false,false,false,false,false,false,false,false,false,false,false,false,false,false,false,false,false,false,false,false,false,false,false] rfl rfl (take_ofW HT_.out HW_.out (by kernel_rfl)) (fun _ _ _ h => h) (Or.inl ⟨by rfl,?_⟩) hHeld ?_ ?_
      rotate_left
      ·rintro w' ⟨s1,s2⟩
       go_simp
       with_reducible rfl
      rotate_left
      ·simp only [Act.put,List.setIfInBounds_toArray,List.set_cons_zero,List.set_cons_succ,i64_w,i32_w]
       rfl
      refine pure_ (i := 2) (N := (some 42)) (v := ?_) (a' := ?_) #[true,true,true,false,false,false,false,false,false,false,false,false,false,false,false,false,false,false,false,false,false,false,false,false,false,false,false,false,false,false,false,false,false,false,false,false,false,false,false,false,false,false,false,false,false,false,false,false] rfl rfl (any_of HT_.out (by kernel_rfl)) (fun _ _ _ h => h) (Or.inl ⟨by rfl,?_⟩) ?_ ?_
      rotate_left
      ·intro w'
       go_simp
       with_reducible rfl
      rotate_left
      ·simp only [Act.put,List.setIfInBounds_toArray,List.set_cons_zero,List.set_cons_succ,i64_w,i32_w]
       rfl
      refine pure_ (i := 3) (N := (some 43)) (v := ?_) (a' := ?_) #[true,true,true,true,false,false,false,false,false,false,false,false,false,false,false,false,false,false,false,false,false,false,false,false,false,false,false,false,false,false,false,false,false,false,false,false,false,false,false,false,false,false,false,false,false,false,false,false] rfl rfl (any_of HT_.out (by kernel_rfl)) (fun _ _ _ h => h) (Or.inl ⟨by rfl,?_⟩) ?_ ?_
      rotate_left
      ·intro w'
       go_simp
       with_reducible rfl
      rotate_left
      ·simp only [Act.put,List.setIfInBounds_toArray,List.set_cons_zero,List.set_cons_succ,i64_w,i32_w]
       rfl
      refine pure_ (i := 4) (N := (some 44)) (v := ?_) (a' := ?_) #[true,true,true,true,true,false,false,false,false,false,false,false,false,false,false,false,false,false,false,false,false,false,false,false,false,false,false,false,false,false,false,false,false,false,false,false,false,false,false,false,false,false,false,false,false,false,false,false] rfl rfl (any_of HT_.out (by kernel_rfl)) (fun _ _ _ h => h) (Or.inl ⟨by rfl,?_⟩) ?_ ?_
      rotate_left
      ·intro w'
       go_simp
       with_reducible rfl
      rotate_left
      ·simp only [Act.put,List.setIfInBounds_toArray,List.set_cons_zero,List.set_cons_succ,i64_w,i32_w]
       rfl
      refine take_ (i := 5) (N := (some 45)) (v := ?_) (a' := ?_) #[true,true,true,true,true,true,false,false,false,false,false,false,false,false,false,false,false,false,false,false,false,false,false,false,false,false,false,false,false,false,false,false,false,false,false,false,false,false,false,false,false,false,false,false,false,false,false,false] rfl rfl (take_ofW HT_.out HW_.out (by kernel_rfl)) (fun _ _ _ h => h) (Or.inl ⟨by rfl,?_⟩) hHeld ?_ ?_
      rotate_left
      ·rintro w' ⟨s1,s2⟩
       go_simp
       with_reducible rfl
      rotate_left
      ·simp only [Act.put,List.setIfInBounds_toArray,List.set_cons_zero,List.set_cons_succ,i64_w,i32_w]
       rfl
      refine pure_ (i := 6) (N := (some 46)) (v := ?_) (a' := ?_) #[true,true,true,true,true,true,true,false,false,false,false,false,false,false,false,false,false,false,false,false,false,false,false,false,false,false,false,false,false,false,false,false,false,false,false,false,false,false,false,false,false,false,false,false,false,false,false,false] rfl rfl (any_of HT_.out (by kernel_rfl)) (fun _ _ _ h => h) (Or.inl ⟨by rfl,?_⟩) ?_ ?_
      rotate_left
      ·intro w'
       go_simp
       with_reducible rfl
      rotate_left
      ·simp only [Act.put,List.setIfInBounds_toArray,List.set_cons_zero,List.set_cons_succ,i64_w,i32_w]
       rfl
      refine one_ (i := 7) (N := (some 47)) #[true,true,true,true,true,true,true,true,false,false,false,false,false,false,false,false,false,false,false,false,false,false,false,false,false,false,false,false,false,false,false,false,false,false,false,false,false,false,false,false,false,false,false,false,false,false,false,false] rfl rfl (one_of HT_.out (by kernel_rfl)) (by decide) (fun K hK => ?_)
      refine call_ 32 #[.pointer (some ⟨pa,0,none⟩)] (by rfl) rfl au3 ?_
      refine (scr_height g11.scr g11.bs hok).mono ?_
      rintro e w12 ⟨rfl,hM⟩
      have g12 := g11.made hM
      refine ⟨_,rfl,hK.out _ _ g12.sees (fun hHeld => ?_)⟩
      clear hK K g11 hM
      refine norm_ (a' := ?_) ?_ ?_
      rotate_left
      ·show Act.put _ (some 47) _ = _
       simp only [Act.put,List.setIfInBounds_toArray,List.set_cons_zero,List.set_cons_succ,i64_w,i32_w]
       rfl
      refine pure_ (i := 8) (N := (some 48)) (v := ?_) (a' := ?_) #[true,true,true,true,true,true,true,true,true,false,false,false,false,false,false,false,false,false,false,false,false,false,false,false,false,false,false,false,false,false,false,false,false,false,false,false,false,false,false,false,false,false,false,false,false,false,false,false] rfl rfl (any_of HT_.out (by kernel_rfl)) (fun _ _ _ h => h) (Or.inl ⟨by rfl,?_⟩) ?_ ?_
      rotate_left
      ·intro w'
       go_simp
       with_reducible rfl
      rotate_left
      ·simp only [Act.put,List.setIfInBounds_toArray,List.set_cons_zero,List.set_cons_succ,i64_w,i32_w]
       rfl
      refine pure_ (i := 9) (N := (some 49)) (v := ?_) (a' := ?_) #[true,true,true,true,true,true,true,true,true,true,false,false,false,false,false,false,false,false,false,false,false,false,false,false,false,false,false,false,false,false,false,false,false,false,false,false,false,false,false,false,false,false,false,false,false,false,false,false] rfl rfl (any_of HT_.out (by kernel_rfl)) (fun _ _ _ h => h) (Or.inl ⟨by rfl,?_⟩) ?_ ?_
      rotate_left
      ·intro w'
       go_simp
       with_reducible rfl
      rotate_left
      ·simp only [Act.put,List.setIfInBounds_toArray,List.set_cons_zero,List.set_cons_succ,i64_w,i32_w]
       rfl
      refine pure_ (i := 10) (N := (some 50)) (v := ?_) (a' := ?_) #[true,true,true,true,true,true,true,true,true,true,true,false,false,false,false,false,false,false,false,false,false,false,false,false,false,false,false,false,false,false,false,false,false,false,false,false,false,false,false,false,false,false,false,false,false,false,false,false] rfl rfl (any_of HT_.out (by kernel_rfl)) (fun _ _ _ h => h) (Or.inl ⟨by rfl,?_⟩) ?_ ?_
      rotate_left
      ·intro w'
       go_simp
       with_reducible rfl
      rotate_left
      ·simp only [Act.put,List.setIfInBounds_toArray,List.set_cons_zero,List.set_cons_succ,i64_w,i32_w]
       rfl
      refine pure_ (i := 11) (N := (some 51)) (v := ?_) (a' := ?_) #[true,true,true,true,true,true,true,true,true,true,true,true,false,false,false,false,false,false,false,false,false,false,false,false,false,false,false,false,false,false,false,false,false,false,false,false,false,false,false,false,false,false,false,false,false,false,false,false] rfl rfl (any_of HT_.out (by kernel_rfl)) (fun _ _ _ h => h) (Or.inl ⟨by rfl,?_⟩) ?_ ?_
      rotate_left
      ·intro w'
       go_simp
       with_reducible rfl
      rotate_left
      ·simp only [Act.put,List.setIfInBounds_toArray,List.set_cons_zero,List.set_cons_succ,i64_w,i32_w]
       rfl
      refine take_ (i := 12) (N := (some 52)) (v := ?_) (a' := ?_) #[true,true,true,true,true,true,true,true,true,true,true,true,true,false,false,false,false,false,false,false,false,false,false,false,false,false,false,false,false,false,false,false,false,false,false,false,false,false,false,false,false,false,false,false,false,false,false,false] rfl rfl (take_ofW HT_.out HW_.out (by kernel_rfl)) (fun _ _ _ h => h) (Or.inl ⟨by rfl,?_⟩) hHeld ?_ ?_
      rotate_left
      ·rintro w' ⟨s1,s2⟩
       go_simp
       with_reducible rfl
      rotate_left
      ·simp only [Act.put,List.setIfInBounds_toArray,List.set_cons_zero,List.set_cons_succ,i64_w,i32_w]
       rfl
      refine pure_ (i := 13) (N := (some 53)) (v := ?_) (a' := ?_) #[true,true,true,true,true,true,true,true,true,true,true,true,true,true,false,false,false,false,false,false,false,false,false,false,false,false,false,false,false,false,false,false,false,false,false,false,false,false,false,false,false,false,false,false,false,false,false,false] rfl rfl (any_of HT_.out (by kernel_rfl)) (fun _ _ _ h => h) (Or.inl ⟨by rfl,?_⟩) ?_ ?_
      rotate_left
      ·intro w'
       go_simp
       with_reducible rfl
      rotate_left
      ·simp only [Act.put,List.setIfInBounds_toArray,List.set_cons_zero,List.set_cons_succ,i64_w,i32_w]
       rfl
      refine pure_ (i := 14) (N := (some 54)) (v := ?_) (a' := ?_) #[true,true,true,true,true,true,true,true,true,true,true,true,true,true,true,false,false,false,false,false,false,false,false,false,false,false,false,false,false,false,false,false,false,false,false,false,false,false,false,false,false,false,false,false,false,false,false,false] rfl rfl (any_of HT_.out (by kernel_rfl)) (fun _ _ _ h => h) (Or.inl ⟨by rfl,?_⟩) ?_ ?_
      rotate_left
      ·intro w'
       go_simp
       with_reducible rfl
      rotate_left
      ·simp only [Act.put,List.setIfInBounds_toArray,List.set_cons_zero,List.set_cons_succ,i64_w,i32_w]
       rfl
      refine pure_ (i := 15) (N := (some 55)) (v := ?_) (a' := ?_) #[true,true,true,true,true,true,true,true,true,true,true,true,true,true,true,true,false,false,false,false,false,false,false,false,false,false,false,false,false,false,false,false,false,false,false,false,false,false,false,false,false,false,false,false,false,false,false,false] rfl rfl (any_of HT_.out (by kernel_rfl)) (fun _ _ _ h => h) (Or.inl ⟨by rfl,?_⟩) ?_ ?_
      rotate_left
      ·intro w'
       go_simp
       with_reducible rfl
      rotate_left
      ·simp only [Act.put,List.setIfInBounds_toArray,List.set_cons_zero,List.set_cons_succ,i64_w,i32_w]
       rfl
      refine pure_ (i := 16) (N := (some 56)) (v := ?_) (a' := ?_) #[true,true,true,true,true,true,true,true,true,true,true,true,true,true,true,true,true,false,false,false,false,false,false,false,false,false,false,false,false,false,false,false,false,false,false,false,false,false,false,false,false,false,false,false,false,false,false,false] rfl rfl (any_of HT_.out (by kernel_rfl)) (fun _ _ _ h => h) (Or.inl ⟨by rfl,?_⟩) ?_ ?_
      rotate_left
      ·intro w'
       go_simp
       with_reducible rfl
      rotate_left
      ·simp only [Act.put,List.setIfInBounds_toArray,List.set_cons_zero,List.set_cons_succ,i64_w,i32_w]
       rfl
      refine take_ (i := 17) (N := (some 57)) (v := ?_) (a' := ?_) #[true,true,true,true,true,true,true,true,true,true,true,true,true,true,true,true,true,true,false,false,false,false,false,false,false,false,false,false,false,false,false,false,false,false,false,false,false,false,false,false,false,false,false,false,false,false,false,false] rfl rfl (take_ofW HT_.out HW_.out (by kernel_rfl)) (fun _ _ _ h => h) (Or.inl ⟨by rfl,?_⟩) hHeld ?_ ?_
      rotate_left
      ·rintro w' ⟨s1,s2⟩
       go_simp
       with_reducible rfl
      rotate_left
      ·simp only [Act.put,List.setIfInBounds_toArray,List.set_cons_zero,List.set_cons_succ,i64_w,i32_w]
       rfl
      refine pure_ (i := 18) (N := (some 58)) (v := ?_) (a' := ?_) #[true,true,true,true,true,true,true,true,true,true,true,true,true,true,true,true,true,true,true,false,false,false,false,false,false,false,false,false,false,false,false,false,false,false,false,false,false,false,false,false,false,false,false,false,false,false,false,false] rfl rfl (any_of HT_.out (by kernel_rfl)) (fun _ _ _ h => h) (Or.inl ⟨by rfl,?_⟩) ?_ ?_
      rotate_left
      ·intro w'
       go_simp
       with_reducible rfl
      rotate_left
      ·simp only [Act.put,List.setIfInBounds_toArray,List.set_cons_zero,List.set_cons_succ,i64_w,i32_w]
       rfl
      refine one_ (i := 19) (N := (some 59)) #[true,true,true,true,true,true,true,true,true,true,true,true,true,true,true,true,true,true,true,true,false,false,false,false,false,false,false,false,false,false,false,false,false,false,false,false,false,false,false,false,false,false,false,false,false,false,false,false] rfl rfl (one_of HT_.out (by kernel_rfl)) (by decide) (fun K hK => ?_)
      refine call_ 22 #[.pointer (some ⟨pa,0,none⟩)] (by rfl) rfl au3 ?_
      refine (scr_width g12.scr g12.bs hok).mono ?_
      rintro e w13 ⟨rfl,hM⟩
      have g13 := g12.made hM
      refine ⟨_,rfl,hK.out _ _ g13.sees (fun hHeld => ?_)⟩
      clear hK K g12 hM
      refine norm_ (a' := ?_) ?_ ?_
      rotate_left
      ·show Act.put _ (some 59) _ = _
       simp only [Act.put,List.setIfInBounds_toArray,List.set_cons_zero,List.set_cons_succ,i64_w,i32_w]
       rfl
      refine pure_ (i := 20) (N := (some 60)) (v := ?_) (a' := ?_) #[true,true,true,true,true,true,true,true,true,true,true,true,true,true,true,true,true,true,true,true,true,false,false,false,false,false,false,false,false,false,false,false,false,false,false,false,false,false,false,false,false,false,false,false,false,false,false,false] rfl rfl (any_of HT_.out (by kernel_rfl)) (fun _ _ _ h => h) (Or.inl ⟨by rfl,?_⟩) ?_ ?_
      rotate_left
      ·intro w'
       go_simp
       with_reducible rfl
      rotate_left
      ·simp only [Act.put,List.setIfInBounds_toArray,List.set_cons_zero,List.set_cons_succ,i64_w,i32_w]
       rfl
      refine pure_ (i := 21) (N := (some 61)) (v := ?_) (a' := ?_) #[true,true,true,true,true,true,true,true,true,true,true,true,true,true,true,true,true,true,true,true,true,true,false,false,false,false,false,false,false,false,false,false,false,false,false,false,false,false,false,false,false,false,false,false,false,false,false,false] rfl rfl (any_of HT_.out (by kernel_rfl)) (fun _ _ _ h => h) (Or.inl ⟨by rfl,?_⟩) ?_ ?_
      rotate_left
      ·intro w'
       go_simp
       with_reducible rfl
      rotate_left
      ·simp only [Act.put,List.setIfInBounds_toArray,List.set_cons_zero,List.set_cons_succ,i64_w,i32_w]
       rfl
      refine pure_ (i := 22) (N := (some 62)) (v := ?_) (a' := ?_) #[true,true,true,true,true,true,true,true,true,true,true,true,true,true,true,true,true,true,true,true,true,true,true,false,false,false,false,false,false,false,false,false,false,false,false,false,false,false,false,false,false,false,false,false,false,false,false,false] rfl rfl (any_of HT_.out (by kernel_rfl)) (fun _ _ _ h => h) (Or.inl ⟨by rfl,?_⟩) ?_ ?_
      rotate_left
      ·intro w'
       go_simp
       with_reducible rfl
      rotate_left
      ·simp only [Act.put,List.setIfInBounds_toArray,List.set_cons_zero,List.set_cons_succ,i64_w,i32_w]
       rfl
      refine pure_ (i := 23) (N := (some 63)) (v := ?_) (a' := ?_) #[true,true,true,true,true,true,true,true,true,true,true,true,true,true,true,true,true,true,true,true,true,true,true,true,false,false,false,false,false,false,false,false,false,false,false,false,false,false,false,false,false,false,false,false,false,false,false,false] rfl rfl (any_of HT_.out (by kernel_rfl)) (fun _ _ _ h => h) (Or.inl ⟨by rfl,?_⟩) ?_ ?_
      rotate_left
      ·intro w'
       go_simp
       with_reducible rfl
      rotate_left
      ·simp only [Act.put,List.setIfInBounds_toArray,List.set_cons_zero,List.set_cons_succ,i64_w,i32_w]
       rfl
      refine one_ (i := 24) (N := (some 64)) #[true,true,true,true,true,true,true,true,true,true,true,true,true,true,true,true,true,true,true,true,true,true,true,true,true,false,false,false,false,false,false,false,false,false,false,false,false,false,false,false,false,false,false,false,false,false,false,false] rfl rfl (one_of HT_.out (by kernel_rfl)) (by decide) (fun K hK => ?_)
      refine call_ 25 #[.pointer (some ⟨pa,0,none⟩)] (by rfl) rfl au3 ?_
      refine (scr_full g13.scr g13.bs).mono ?_
      rintro e w14 ⟨rfl,hM⟩;rw [hfF.out]
      have g14 := g13.more hM
      refine ⟨_,rfl,hK.out _ _ g14.sees (fun hHeld => ?_)⟩
      clear hK K g13 hM
      refine norm_ (a' := ?_) ?_ ?_
      rotate_left
      ·show Act.put _ (some 64) _ = _
       simp only [Act.put,List.setIfInBounds_toArray,List.set_cons_zero,List.set_cons_succ,i64_w,i32_w]
       rfl
      refine pure_ (i := 25) (N := (some 65)) (v := ?_) (a' := ?_) #[true,true,true,true,true,true,true,true,true,true,true,true,true,true,true,true,true,true,true,true,true,true,true,true,true,true,false,false,false,false,false,false,false,false,false,false,false,false,false,false,false,false,false,false,false,false,false,false] rfl rfl (any_of HT_.out (by kernel_rfl)) (fun _ _ _ h => h) (Or.inl ⟨by rfl,?_⟩) ?_ ?_
      rotate_left
      ·intro w'
       go_simp
       with_reducible rfl
      rotate_left
      ·simp only [Act.put,List.setIfInBounds_toArray,List.set_cons_zero,List.set_cons_succ,i64_w,i32_w]
       rfl
      refine pure_ (i := 26) (N := (some 66)) (v := undef) (a' := ?_) #[true,true,true,true,true,true,true,true,true,true,true,true,true,true,true,true,true,true,true,true,true,true,true,true,true,true,true,false,false,false,false,false,false,false,false,false,false,false,false,false,false,false,false,false,false,false,false,false] rfl rfl (any_of HT_.out (by kernel_rfl)) (fun _ _ _ h => h) (Or.inr ⟨by rfl,rfl⟩) ?_ ?_
      rotate_left
      ·simp only [Act.put,List.setIfInBounds_toArray,List.set_cons_zero,List.set_cons_succ,i64_w,i32_w]
       rfl
      refine pure_ (i := 27) (N := (some 67)) (v := undef) (a' := ?_) #[true,true,true,true,true,true,true,true,true,true,true,true,true,true,true,true,true,true,true,true,true,true,true,true,true,true,true,true,false,false,false,false,false,false,false,false,false,false,false,false,false,false,false,false,false,false,false,false] rfl rfl (any_of HT_.out (by kernel_rfl)) (fun _ _ _ h => h) (Or.inr ⟨by rfl,rfl⟩) ?_ ?_
      rotate_left
      ·simp only [Act.put,List.setIfInBounds_toArray,List.set_cons_zero,List.set_cons_succ,i64_w,i32_w]
       rfl
      refine pure_ (i := 28) (N := (some 68)) (v := undef) (a' := ?_) #[true,true,true,true,true,true,true,true,true,true,true,true,true,true,true,true,true,true,true,true,true,true,true,true,true,true,true,true,true,false,false,false,false,false,false,false,false,false,false,false,false,false,false,false,false,false,false,false] rfl rfl (any_of HT_.out (by kernel_rfl)) (fun _ _ _ h => h) (Or.inr ⟨by rfl,rfl⟩) ?_ ?_
      rotate_left
      ·simp only [Act.put,List.setIfInBounds_toArray,List.set_cons_zero,List.set_cons_succ,i64_w,i32_w]
       rfl
      refine pure_ (i := 29) (N := (some 69)) (v := undef) (a' := ?_) #[true,true,true,true,true,true,true,true,true,true,true,true,true,true,true,true,true,true,true,true,true,true,true,true,true,true,true,true,true,true,false,false,false,false,false,false,false,false,false,false,false,false,false,false,false,false,false,false] rfl rfl (any_of HT_.out (by kernel_rfl)) (fun _ _ _ h => h) (Or.inr ⟨by rfl,rfl⟩) ?_ ?_
      rotate_left
      ·simp only [Act.put,List.setIfInBounds_toArray,List.set_cons_zero,List.set_cons_succ,i64_w,i32_w]
       rfl
      refine pure_ (i := 30) (N := (some 70)) (v := undef) (a' := ?_) #[true,true,true,true,true,true,true,true,true,true,true,true,true,true,true,true,true,true,true,true,true,true,true,true,true,true,true,true,true,true,true,false,false,false,false,false,false,false,false,false,false,false,false,false,false,false,false,false] rfl rfl (any_of HT_.out (by kernel_rfl)) (fun _ _ _ h => h) (Or.inr ⟨by rfl,rfl⟩) ?_ ?_
      rotate_left
      ·simp only [Act.put,List.setIfInBounds_toArray,List.set_cons_zero,List.set_cons_succ,i64_w,i32_w]
       rfl
      refine pure_ (i := 31) (N := (some 71)) (v := undef) (a' := ?_) #[true,true,true,true,true,true,true,true,true,true,true,true,true,true,true,true,true,true,true,true,true,true,true,true,true,true,true,true,true,true,true,true,false,false,false,false,false,false,false,false,false,false,false,false,false,false,false,false] rfl rfl (any_of HT_.out (by kernel_rfl)) (fun _ _ _ h => h) (Or.inr ⟨by rfl,rfl⟩) ?_ ?_
      rotate_left
      ·simp only [Act.put,List.setIfInBounds_toArray,List.set_cons_zero,List.set_cons_succ,i64_w,i32_w]
       rfl
      refine pure_ (i := 32) (N := (some 72)) (v := ?_) (a' := ?_) #[true,true,true,true,true,true,true,true,true,true,true,true,true,true,true,true,true,true,true,true,true,true,true,true,true,true,true,true,true,true,true,true,true,false,false,false,false,false,false,false,false,false,false,false,false,false,false,false] rfl rfl (any_of HT_.out (by kernel_rfl)) (fun _ _ _ h => h) (Or.inl ⟨by rfl,?_⟩) ?_ ?_
      rotate_left
      ·intro w'
       go_simp
       with_reducible rfl
      rotate_left
      ·simp only [Act.put,List.setIfInBounds_toArray,List.set_cons_zero,List.set_cons_succ,i64_w,i32_w]
       rfl
      refine pure_ (i := 33) (N := (some 73)) (v := ?_) (a' := ?_) #[true,true,true,true,true,true,true,true,true,true,true,true,true,true,true,true,true,true,true,true,true,true,true,true,true,true,true,true,true,true,true,true,true,true,false,false,false,false,false,false,false,false,false,false,false,false,false,false] rfl rfl (any_of HT_.out (by kernel_rfl)) (fun _ _ _ h => h) (Or.inl ⟨by rfl,?_⟩) ?_ ?_
      rotate_left
      ·intro w'
       go_simp
       with_reducible rfl
      rotate_left
      ·simp only [Act.put,List.setIfInBounds_toArray,List.set_cons_zero,List.set_cons_succ,i64_w,i32_w]
       rfl
      refine pure_ (i := 34) (N := (some 74)) (v := ?_) (a' := ?_) #[true,true,true,true,true,true,true,true,true,true,true,true,true,true,true,true,true,true,true,true,true,true,true,true,true,true,true,true,true,true,true,true,true,true,true,false,false,false,false,false,false,false,false,false,false,false,false,false] rfl rfl (any_of HT_.out (by kernel_rfl)) (fun _ _ _ h => h) (Or.inl ⟨by rfl,?_⟩) ?_ ?_
      rotate_left
      ·intro w'
       go_simp
       with_reducible rfl
      rotate_left
      ·simp only [Act.put,List.setIfInBounds_toArray,List.set_cons_zero,List.set_cons_succ,i64_w,i32_w]
       rfl
      refine pure_ (i := 35) (N := (some 75)) (v := ?_) (a' := ?_) #[true,true,true,true,true,true,true,true,true,true,true,true,true,true,true,true,true,true,true,true,true,true,true,true,true,true,true,true,true,true,true,true,true,true,true,true,false,false,false,false,false,false,false,false,false,false,false,false] rfl rfl (any_of HT_.out (by kernel_rfl)) (fun _ _ _ h => h) (Or.inl ⟨by rfl,?_⟩) ?_ ?_
      rotate_left
      ·intro w'
       go_simp
       with_reducible rfl
      rotate_left
      ·simp only [Act.put,List.setIfInBounds_toArray,List.set_cons_zero,List.set_cons_succ,i64_w,i32_w]
       rfl
      refine pure_ (i := 37) (N := (some 77)) (v := ?_) (a' := ?_) #[true,true,true,true,true,true,true,true,true,true,true,true,true,true,true,true,true,true,true,true,true,true,true,true,true,true,true,true,true,true,true,true,true,true,true,true,false,true,false,false,false,false,false,false,false,false,false,false] rfl rfl (any_of HT_.out (by kernel_rfl)) (fun _ _ _ h => h) (Or.inl ⟨by rfl,?_⟩) ?_ ?_
      rotate_left
      ·intro w'
       go_simp
       with_reducible rfl
      rotate_left
      ·simp only [Act.put,List.setIfInBounds_toArray,List.set_cons_zero,List.set_cons_succ,i64_w,i32_w]
       rfl
      refine take_ (i := 38) (N := (some 78)) (v := ?_) (a' := ?_) #[true,true,true,true,true,true,true,true,true,true,true,true,true,true,true,true,true,true,true,true,true,true,true,true,true,true,true,true,true,true,true,true,true,true,true,true,false,true,true,false,false,false,false,false,false,false,false,false] rfl rfl (take_ofW HT_.out HW_.out (by kernel_rfl)) (fun _ _ _ h => h) (Or.inl ⟨by rfl,?_⟩) hHeld ?_ ?_
      rotate_left
      ·rintro w' ⟨s1,s2⟩
       go_simp
       with_reducible rfl
      rotate_left
      ·simp only [Act.put,List.setIfInBounds_toArray,List.set_cons_zero,List.set_cons_succ,i64_w,i32_w]
       rfl
      refine one_ (i := 36) (N := (some 76)) #[true,true,true,true,true,true,true,true,true,true,true,true,true,true,true,true,true,true,true,true,true,true,true,true,true,true,true,true,true,true,true,true,true,true,true,true,true,true,true,false,false,false,false,false,false,false,false,false] rfl rfl (one_of HT_.out (by kernel_rfl)) (by decide) (fun K hK => ?_)
      refine call_ 21 #[.pointer (some ⟨pa,0,none⟩)] (by rfl) rfl au3 ?_
      refine (scr_rows g14.scr g14.bs hok).mono ?_
      rintro e w15 ⟨rfl,hM⟩
      have g15 := g14.made hM
      refine ⟨_,rfl,hK.out _ _ g15.sees (fun hHeld => ?_)⟩
      clear hK K g14 hM
      refine norm_ (a' := ?_) ?_ ?_
      rotate_left
      ·show Act.put _ (some 76) _ = _
       simp only [Act.put,List.setIfInBounds_toArray,List.set_cons_zero,List.set_cons_succ,i64_w,i32_w]
       rfl
      refine pure_ (i := 39) (N := (some 79)) (v := ?_) (a' := ?_) #[true,true,true,true,true,true,true,true,true,true,true,true,true,true,true,true,true,true,true,true,true,true,true,true,true,true,true,true,true,true,true,true,true,true,true,true,true,true,true,true,false,false,false,false,false,false,false,false] rfl rfl (any_of HT_.out (by kernel_rfl)) (fun _ _ _ h => h) (Or.inl ⟨by rfl,?_⟩) ?_ ?_
      rotate_left
      ·intro w'
       go_simp
       with_reducible rfl
      rotate_left
      ·simp only [Act.put,List.setIfInBounds_toArray,List.set_cons_zero,List.set_cons_succ,i64_w,i32_w]
       rfl
      refine pure_ (i := 40) (N := (some 80)) (v := ?_) (a' := ?_) #[true,true,true,true,true,true,true,true,true,true,true,true,true,true,true,true,true,true,true,true,true,true,true,true,true,true,true,true,true,true,true,true,true,true,true,true,true,true,true,true,true,false,false,false,false,false,false,false] rfl rfl (any_of HT_.out (by kernel_rfl)) (fun _ _ _ h => h) (Or.inl ⟨by rfl,?_⟩) ?_ ?_
      rotate_left
      ·intro w'
       go_simp
       with_reducible rfl
      rotate_left
      ·simp only [Act.put,List.setIfInBounds_toArray,List.set_cons_zero,List.set_cons_succ,i64_w,i32_w]
       rfl
      refine pure_ (i := 41) (N := (some 81)) (v := ?_) (a' := ?_) #[true,true,true,true,true,true,true,true,true,true,true,true,true,true,true,true,true,true,true,true,true,true,true,true,true,true,true,true,true,true,true,true,true,true,true,true,true,true,true,true,true,true,false,false,false,false,false,false] rfl rfl (any_of HT_.out (by kernel_rfl)) (fun _ _ _ h => h) (Or.inl ⟨by rfl,?_⟩) ?_ ?_
      rotate_left
      ·intro w'
       go_simp
       with_reducible rfl
      rotate_left
      ·simp only [Act.put,List.setIfInBounds_toArray,List.set_cons_zero,List.set_cons_succ,i64_w,i32_w]
       rfl
      refine pure_ (i := 42) (N := (some 82)) (v := ?_) (a' := ?_) #[true,true,true,true,true,true,true,true,true,true,true,true,true,true,true,true,true,true,true,true,true,true,true,true,true,true,true,true,true,true,true,true,true,true,true,true,true,true,true,true,true,true,true,false,false,false,false,false] rfl rfl (any_of HT_.out (by kernel_rfl)) (fun _ _ _ h => h) (Or.inl ⟨by rfl,?_⟩) ?_ ?_
      rotate_left
      ·intro w'
       go_simp
       with_reducible rfl
      rotate_left
      ·simp only [Act.put,List.setIfInBounds_toArray,List.set_cons_zero,List.set_cons_succ,i64_w,i32_w]
       rfl
      refine pure_ (i := 44) (N := (some 84)) (v := ?_) (a' := ?_) #[true,true,true,true,true,true,true,true,true,true,true,true,true,true,true,true,true,true,true,true,true,true,true,true,true,true,true,true,true,true,true,true,true,true,true,true,true,true,true,true,true,true,true,false,true,false,false,false] rfl rfl (any_of HT_.out (by kernel_rfl)) (fun _ _ _ h => h) (Or.inl ⟨by rfl,?_⟩) ?_ ?_
      rotate_left
      ·intro w'
       go_simp
       with_reducible rfl
      rotate_left
      ·simp only [Act.put,List.setIfInBounds_toArray,List.set_cons_zero,List.set_cons_succ,i64_w,i32_w]
       rfl
      refine one_ (i := 43) (N := (some 83)) #[true,true,true,true,true,true,true,true,true,true,true,true,true,true,true,true,true,true,true,true,true,true,true,true,true,true,true,true,true,true,true,true,true,true,true,true,true,true,true,true,true,true,true,true,true,false,false,false] rfl rfl (one_of HT_.out (by kernel_rfl)) (by decide) (fun K hK => ?_)
      refine call_ 21 #[.pointer (some ⟨pa,0,none⟩)] (by rfl) rfl au3 ?_
      refine (scr_rows g15.scr g15.bs hok).mono ?_
      rintro e w16 ⟨rfl,hM⟩
      have g16 := g15.made hM
      refine ⟨_,rfl,hK.out _ _ g16.sees (fun hHeld => ?_)⟩
      clear hK K g15 hM
      refine norm_ (a' := ?_) ?_ ?_
      rotate_left
      ·show Act.put _ (some 83) _ = _
       simp only [Act.put,List.setIfInBounds_toArray,List.set_cons_zero,List.set_cons_succ,i64_w,i32_w]
       rfl
      refine one_ (i := 45) (N := (some 85)) #[true,true,true,true,true,true,true,true,true,true,true,true,true,true,true,true,true,true,true,true,true,true,true,true,true,true,true,true,true,true,true,true,true,true,true,true,true,true,true,true,true,true,true,true,true,true,false,false] rfl rfl (one_of HT_.out (by kernel_rfl)) (by decide) (fun K hK => ?_)
      refine call_ 32 #[.pointer (some ⟨pa,0,none⟩)] (by rfl) rfl au3 ?_
      refine (scr_height g16.scr g16.bs hok).mono ?_
      rintro e w17 ⟨rfl,hM⟩
      have g17 := g16.made hM
      refine ⟨_,rfl,hK.out _ _ g17.sees (fun hHeld => ?_)⟩
      clear hK K g16 hM
      refine norm_ (a' := ?_) ?_ ?_
      rotate_left
      ·show Act.put _ (some 85) _ = _
       simp only [Act.put,List.setIfInBounds_toArray,List.set_cons_zero,List.set_cons_succ,i64_w,i32_w]
       rfl
      refine pure_ (i := 46) (N := (some 86)) (v := ?_) (a' := ?_) #[true,true,true,true,true,true,true,true,true,true,true,true,true,true,true,true,true,true,true,true,true,true,true,true,true,true,true,true,true,true,true,true,true,true,true,true,true,true,true,true,true,true,true,true,true,true,true,false] rfl rfl (any_of HT_.out (by kernel_rfl)) (fun _ _ _ h => h) (Or.inl ⟨by rfl,?_⟩) ?_ ?_
      rotate_left
      ·intro w'
       go_simp
       with_reducible rfl
      rotate_left
      ·simp only [Act.put,List.setIfInBounds_toArray,List.set_cons_zero,List.set_cons_succ,i64_w,i32_w]
       rfl
      refine pure_ (i := 47) (N := (some 87)) (v := ?_) (a' := ?_) #[true,true,true,true,true,true,true,true,true,true,true,true,true,true,true,true,true,true,true,true,true,true,true,true,true,true,true,true,true,true,true,true,true,true,true,true,true,true,true,true,true,true,true,true,true,true,true,true] rfl rfl (any_of HT_.out (by kernel_rfl)) (fun _ _ _ h => h) (Or.inl ⟨by rfl,?_⟩) ?_ ?_
      rotate_left
      ·intro w'
       go_simp
       with_reducible rfl
      rotate_left
      ·simp only [Act.put,List.setIfInBounds_toArray,List.set_cons_zero,List.set_cons_succ,i64_w,i32_w]
       rfl
      refine done_ (done_of HT_.out (by kernel_rfl)) ?_
      clear HT_ HW_
      clear hHeld
      go_wp2_with (fail)
      go_meet
      case rel => exact ⟨rfl,g17⟩
     | true =>
      have hcw := hfu.out hful
      have k7 : ((S.1.c : Int) != (S.1.w : Int) - 1) = false := by simp;omega
      have k8 : wrap64 ((S.1.w : Int) - 1) = (S.1.w : Int) - 1 := wrap64_in (by omega) (by omega)
      clear hfu hcw
      have hfF := Lib.hid hful
      clear hful
      refine start_ (n := 48) (S := fun w' => w'.cell? ⟨q,0,none⟩ = some (.int .i64 S.1.r) ∧ w'.cell? ⟨q,1,none⟩ = some (.int .i64 S.1.c)) (ds := []) #[false,false,false,false,false,false,false,false,false,false,false,false,false,false,false,false,false,false,false,false,false,false,false,false,false,false,false,false,false,false,false,false,false,false,false,false,false,false,false,false,false,false,false,false,false,false,false,false] (by kernel_rfl) rfl rfl hsee (fun hHeld => ?_);refine with_tabW gr11.tab gr11.bits (fun HT_ HW_ => ?_)
      have g11 := g10.more (below_drew (Below.refl _ _))
      generalize w10.drew = w11 at g11 hHeld ⊢
      clear g10
      refine pure_ (i := 0) (N := (some 40)) (v := ?_) (a' := ?_) #[true,false,false,false,false,false,false,false,false,false,false,false,false,false,false,false,false,false,false,false,false,false,false,false,false,false,false,false,false,false,false,false,false,false,false,false,false,false,false,false,false,false,false,false,false,false,false,false] rfl rfl (any_of HT_.out (by kernel_rfl)) (fun _ _ _ h => h) (Or.inl ⟨by rfl,?_⟩) ?_ ?_
      rotate_left
      ·intro w'
       go_simp
       with_reducible rfl
      rotate_left
      ·simp only [Act.put,List.setIfInBounds_toArray,List.set_cons_zero,List.set_cons_succ,i64_w,i32_w]
       rfl
      refine take_ (i := 1) (N := (some 41)) (v := ?_) (a' := ?_) #[true,true,false,false,false,false,false,false,false,false,false,false,false,false,false,false,false,false,false,false,false,false,false,false,false,false,false,false,false,false,false,false,false,false,false,false,false,false,false,false,false,false,false,false,false,false,false,false] rfl rfl (take_ofW HT_.out HW_.out (by kernel_rfl)) (fun _ _ _ h => h) (Or.inl ⟨by rfl,?_⟩) hHeld ?_ ?_
      rotate_left
      ·rintro w' ⟨s1,s2⟩
       go_simp
       with_reducible rfl
      rotate_left
      ·simp only [Act.put,List.setIfInBounds_toArray,List.set_cons_zero,List.set_cons_succ,i64_w,i32_w]
       rfl
      refine pure_ (i := 2) (N := (some 42)) (v := ?_) (a' := ?_) #[true,true,true,false,false,false,false,false,false,false,false,false,false,false,false,false,false,false,false,false,false,false,false,false,false,false,false,false,false,false,false,false,false,false,false,false,false,false,false,false,false,false,false,false,false,false,false,false] rfl rfl (any_of HT_.out (by kernel_rfl)) (fun _ _ _ h => h) (Or.inl ⟨by rfl,?_⟩) ?_ ?_
      rotate_left
      ·intro w'
       go_simp
       with_reducible rfl
      rotate_left
      ·simp only [Act.put,List.setIfInBounds_toArray,List.set_cons_zero,List.set_cons_succ,i64_w,i32_w]
       rfl
      refine pure_ (i := 3) (N := (some 43)) (v := ?_) (a' := ?_) #[true,true,true,true,false,false,false,false,false,false,false,false,false,false,false,false,false,false,false,false,false,false,false,false,false,false,false,false,false,false,false,false,false,false,false,false,false,false,false,false,false,false,false,false,false,false,false,false] rfl rfl (any_of HT_.out (by kernel_rfl)) (fun _ _ _ h => h) (Or.inl ⟨by rfl,?_⟩) ?_ ?_
      rotate_left
      ·intro w'
       go_simp
       with_reducible rfl
      rotate_left
      ·simp only [Act.put,List.setIfInBounds_toArray,List.set_cons_zero,List.set_cons_succ,i64_w,i32_w]
       rfl
      refine pure_ (i := 4) (N := (some 44)) (v := ?_) (a' := ?_) #[true,true,true,true,true,false,false,false,false,false,false,false,false,false,false,false,false,false,false,false,false,false,false,false,false,false,false,false,false,false,false,false,false,false,false,false,false,false,false,false,false,false,false,false,false,false,false,false] rfl rfl (any_of HT_.out (by kernel_rfl)) (fun _ _ _ h => h) (Or.inl ⟨by rfl,?_⟩) ?_ ?_
      rotate_left
      ·intro w'
       go_simp
       with_reducible rfl
      rotate_left
      ·simp only [Act.put,List.setIfInBounds_toArray,List.set_cons_zero,List.set_cons_succ,i64_w,i32_w]
       rfl
      refine take_ (i := 5) (N := (some 45)) (v := ?_) (a' := ?_) #[true,true,true,true,true,true,false,false,false,false,false,false,false,false,false,false,false,false,false,false,false,false,false,false,false,false,false,false,false,false,false,false,false,false,false,false,false,false,false,false,false,false,false,false,false,false,false,false] rfl rfl (take_ofW HT_.out HW_.out (by kernel_rfl)) (fun _ _ _ h => h) (Or.inl ⟨by rfl,?_⟩) hHeld ?_ ?_
      rotate_left
      ·rintro w' ⟨s1,s2⟩
       go_simp
       with_reducible rfl
      rotate_left
      ·simp only [Act.put,List.setIfInBounds_toArray,List.set_cons_zero,List.set_cons_succ,i64_w,i32_w]
       rfl
      refine pure_ (i := 6) (N := (some 46)) (v := ?_) (a' := ?_) #[true,true,true,true,true,true,true,false,false,false,false,false,false,false,false,false,false,false,false,false,false,false,false,false,false,false,false,false,false,false,false,false,false,false,false,false,false,false,false,false,false,false,false,false,false,false,false,false] rfl rfl (any_of HT_.out (by kernel_rfl)) (fun _ _ _ h => h) (Or.inl ⟨by rfl,?_⟩) ?_ ?_
      rotate_left
      ·intro w'
       go_simp
       with_reducible rfl
      rotate_left
      ·simp only [Act.put,List.setIfInBounds_toArray,List.set_cons_zero,List.set_cons_succ,i64_w,i32_w]
       rfl
      refine one_ (i := 7) (N := (some 47)) #[true,true,true,true,true,true,true,true,false,false,false,false,false,false,false,false,false,false,false,false,false,false,false,false,false,false,false,false,false,false,false,false,false,false,false,false,false,false,false,false,false,false,false,false,false,false,false,false] rfl rfl (one_of HT_.out (by kernel_rfl)) (by decide) (fun K hK => ?_)
      refine call_ 32 #[.pointer (some ⟨pa,0,none⟩)] (by rfl) rfl au3 ?_
      refine (scr_height g11.scr g11.bs hok).mono ?_
      rintro e w12 ⟨rfl,hM⟩
      have g12 := g11.made hM
      refine ⟨_,rfl,hK.out _ _ g12.sees (fun hHeld => ?_)⟩
      clear hK K g11 hM
      refine norm_ (a' := ?_) ?_ ?_
      rotate_left
      ·show Act.put _ (some 47) _ = _
       simp only [Act.put,List.setIfInBounds_toArray,List.set_cons_zero,List.set_cons_succ,i64_w,i32_w]
       rfl
      refine pure_ (i := 8) (N := (some 48)) (v := ?_) (a' := ?_) #[true,true,true,true,true,true,true,true,true,false,false,false,false,false,false,false,false,false,false,false,false,false,false,false,false,false,false,false,false,false,false,false,false,false,false,false,false,false,false,false,false,false,false,false,false,false,false,false] rfl rfl (any_of HT_.out (by kernel_rfl)) (fun _ _ _ h => h) (Or.inl ⟨by rfl,?_⟩) ?_ ?_
      rotate_left
      ·intro w'
       go_simp
       with_reducible rfl
      rotate_left
      ·simp only [Act.put,List.setIfInBounds_toArray,List.set_cons_zero,List.set_cons_succ,i64_w,i32_w]
       rfl
      refine pure_ (i := 9) (N := (some 49)) (v := ?_) (a' := ?_) #[true,true,true,true,true,true,true,true,true,true,false,false,false,false,false,false,false,false,false,false,false,false,false,false,false,false,false,false,false,false,false,false,false,false,false,false,false,false,false,false,false,false,false,false,false,false,false,false] rfl rfl (any_of HT_.out (by kernel_rfl)) (fun _ _ _ h => h) (Or.inl ⟨by rfl,?_⟩) ?_ ?_
      rotate_left
      ·intro w'
       go_simp
       with_reducible rfl
      rotate_left
      ·simp only [Act.put,List.setIfInBounds_toArray,List.set_cons_zero,List.set_cons_succ,i64_w,i32_w]
       rfl
      refine pure_ (i := 10) (N := (some 50)) (v := ?_) (a' := ?_) #[true,true,true,true,true,true,true,true,true,true,true,false,false,false,false,false,false,false,false,false,false,false,false,false,false,false,false,false,false,false,false,false,false,false,false,false,false,false,false,false,false,false,false,false,false,false,false,false] rfl rfl (any_of HT_.out (by kernel_rfl)) (fun _ _ _ h => h) (Or.inl ⟨by rfl,?_⟩) ?_ ?_
      rotate_left
      ·intro w'
       go_simp
       with_reducible rfl
      rotate_left
      ·simp only [Act.put,List.setIfInBounds_toArray,List.set_cons_zero,List.set_cons_succ,i64_w,i32_w]
       rfl
      refine pure_ (i := 11) (N := (some 51)) (v := ?_) (a' := ?_) #[true,true,true,true,true,true,true,true,true,true,true,true,false,false,false,false,false,false,false,false,false,false,false,false,false,false,false,false,false,false,false,false,false,false,false,false,false,false,false,false,false,false,false,false,false,false,false,false] rfl rfl (any_of HT_.out (by kernel_rfl)) (fun _ _ _ h => h) (Or.inl ⟨by rfl,?_⟩) ?_ ?_
      rotate_left
      ·intro w'
       go_simp
       with_reducible rfl
      rotate_left
      ·simp only [Act.put,List.setIfInBounds_toArray,List.set_cons_zero,List.set_cons_succ,i64_w,i32_w]
       rfl
      refine take_ (i := 12) (N := (some 52)) (v := ?_) (a' := ?_) #[true,true,true,true,true,true,true,true,true,true,true,true,true,false,false,false,false,false,false,false,false,false,false,false,false,false,false,false,false,false,false,false,false,false,false,false,false,false,false,false,false,false,false,false,false,false,false,false] rfl rfl (take_ofW HT_.out HW_.out (by kernel_rfl)) (fun _ _ _ h => h) (Or.inl ⟨by rfl,?_⟩) hHeld ?_ ?_
      rotate_left
      ·rintro w' ⟨s1,s2⟩
       go_simp
       with_reducible rfl
      rotate_left
      ·simp only [Act.put,List.setIfInBounds_toArray,List.set_cons_zero,List.set_cons_succ,i64_w,i32_w]
       rfl
      refine pure_ (i := 13) (N := (some 53)) (v := ?_) (a' := ?_) #[true,true,true,true,true,true,true,true,true,true,true,true,true,true,false,false,false,false,false,false,false,false,false,false,false,false,false,false,false,false,false,false,false,false,false,false,false,false,false,false,false,false,false,false,false,false,false,false] rfl rfl (any_of HT_.out (by kernel_rfl)) (fun _ _ _ h => h) (Or.inl ⟨by rfl,?_⟩) ?_ ?_
      rotate_left
      ·intro w'
       go_simp
       with_reducible rfl
      rotate_left
      ·simp only [Act.put,List.setIfInBounds_toArray,List.set_cons_zero,List.set_cons_succ,i64_w,i32_w]
       rfl
      refine pure_ (i := 14) (N := (some 54)) (v := ?_) (a' := ?_) #[true,true,true,true,true,true,true,true,true,true,true,true,true,true,true,false,false,false,false,false,false,false,false,false,false,false,false,false,false,false,false,false,false,false,false,false,false,false,false,false,false,false,false,false,false,false,false,false] rfl rfl (any_of HT_.out (by kernel_rfl)) (fun _ _ _ h => h) (Or.inl ⟨by rfl,?_⟩) ?_ ?_
      rotate_left
      ·intro w'
       go_simp
       with_reducible rfl
      rotate_left
      ·simp only [Act.put,List.setIfInBounds_toArray,List.set_cons_zero,List.set_cons_succ,i64_w,i32_w]
       rfl
      refine pure_ (i := 15) (N := (some 55)) (v := ?_) (a' := ?_) #[true,true,true,true,true,true,true,true,true,true,true,true,true,true,true,true,false,false,false,false,false,false,false,false,false,false,false,false,false,false,false,false,false,false,false,false,false,false,false,false,false,false,false,false,false,false,false,false] rfl rfl (any_of HT_.out (by kernel_rfl)) (fun _ _ _ h => h) (Or.inl ⟨by rfl,?_⟩) ?_ ?_
      rotate_left
      ·intro w'
       go_simp
       with_reducible rfl
      rotate_left
      ·simp only [Act.put,List.setIfInBounds_toArray,List.set_cons_zero,List.set_cons_succ,i64_w,i32_w]
       rfl
      refine pure_ (i := 16) (N := (some 56)) (v := ?_) (a' := ?_) #[true,true,true,true,true,true,true,true,true,true,true,true,true,true,true,true,true,false,false,false,false,false,false,false,false,false,false,false,false,false,false,false,false,false,false,false,false,false,false,false,false,false,false,false,false,false,false,false] rfl rfl (any_of HT_.out (by kernel_rfl)) (fun _ _ _ h => h) (Or.inl ⟨by rfl,?_⟩) ?_ ?_
      rotate_left
      ·intro w'
       go_simp
       with_reducible rfl
      rotate_left
      ·simp only [Act.put,List.setIfInBounds_toArray,List.set_cons_zero,List.set_cons_succ,i64_w,i32_w]
       rfl
      refine take_ (i := 17) (N := (some 57)) (v := ?_) (a' := ?_) #[true,true,true,true,true,true,true,true,true,true,true,true,true,true,true,true,true,true,false,false,false,false,false,false,false,false,false,false,false,false,false,false,false,false,false,false,false,false,false,false,false,false,false,false,false,false,false,false] rfl rfl (take_ofW HT_.out HW_.out (by kernel_rfl)) (fun _ _ _ h => h) (Or.inl ⟨by rfl,?_⟩) hHeld ?_ ?_
      rotate_left
      ·rintro w' ⟨s1,s2⟩
       go_simp
       with_reducible rfl
      rotate_left
      ·simp only [Act.put,List.setIfInBounds_toArray,List.set_cons_zero,List.set_cons_succ,i64_w,i32_w]
       rfl
      refine pure_ (i := 18) (N := (some 58)) (v := ?_) (a' := ?_) #[true,true,true,true,true,true,true,true,true,true,true,true,true,true,true,true,true,true,true,false,false,false,false,false,false,false,false,false,false,false,false,false,false,false,false,false,false,false,false,false,false,false,false,false,false,false,false,false] rfl rfl (any_of HT_.out (by kernel_rfl)) (fun _ _ _ h => h) (Or.inl ⟨by rfl,?_⟩) ?_ ?_
      rotate_left
      ·intro w'
       go_simp
       with_reducible rfl
      rotate_left
      ·simp only [Act.put,List.setIfInBounds_toArray,List.set_cons_zero,List.set_cons_succ,i64_w,i32_w]
       rfl
      refine one_ (i := 19) (N := (some 59)) #[true,true,true,true,true,true,true,true,true,true,true,true,true,true,true,true,true,true,true,true,false,false,false,false,false,false,false,false,false,false,false,false,false,false,false,false,false,false,false,false,false,false,false,false,false,false,false,false] rfl rfl (one_of HT_.out (by kernel_rfl)) (by decide) (fun K hK => ?_)
      refine call_ 22 #[.pointer (some ⟨pa,0,none⟩)] (by rfl) rfl au3 ?_
      refine (scr_width g12.scr g12.bs hok).mono ?_
      rintro e w13 ⟨rfl,hM⟩
      have g13 := g12.made hM
      refine ⟨_,rfl,hK.out _ _ g13.sees (fun hHeld => ?_)⟩
      clear hK K g12 hM
      refine norm_ (a' := ?_) ?_ ?_
      rotate_left
      ·show Act.put _ (some 59) _ = _
       simp only [Act.put,List.setIfInBounds_toArray,List.set_cons_zero,List.set_cons_succ,i64_w,i32_w]
       rfl
      refine pure_ (i := 20) (N := (some 60)) (v := ?_) (a' := ?_) #[true,true,true,true,true,true,true,true,true,true,true,true,true,true,true,true,true,true,true,true,true,false,false,false,false,false,false,false,false,false,false,false,false,false,false,false,false,false,false,false,false,false,false,false,false,false,false,false] rfl rfl (any_of HT_.out (by kernel_rfl)) (fun _ _ _ h => h) (Or.inl ⟨by rfl,?_⟩) ?_ ?_
      rotate_left
      ·intro w'
       go_simp
       with_reducible rfl
      rotate_left
      ·simp only [Act.put,List.setIfInBounds_toArray,List.set_cons_zero,List.set_cons_succ,i64_w,i32_w]
       rfl
      refine pure_ (i := 21) (N := (some 61)) (v := ?_) (a' := ?_) #[true,true,true,true,true,true,true,true,true,true,true,true,true,true,true,true,true,true,true,true,true,true,false,false,false,false,false,false,false,false,false,false,false,false,false,false,false,false,false,false,false,false,false,false,false,false,false,false] rfl rfl (any_of HT_.out (by kernel_rfl)) (fun _ _ _ h => h) (Or.inl ⟨by rfl,?_⟩) ?_ ?_
      rotate_left
      ·intro w'
       go_simp
       with_reducible rfl
      rotate_left
      ·simp only [Act.put,List.setIfInBounds_toArray,List.set_cons_zero,List.set_cons_succ,i64_w,i32_w]
       rfl
      refine pure_ (i := 22) (N := (some 62)) (v := ?_) (a' := ?_) #[true,true,true,true,true,true,true,true,true,true,true,true,true,true,true,true,true,true,true,true,true,true,true,false,false,false,false,false,false,false,false,false,false,false,false,false,false,false,false,false,false,false,false,false,false,false,false,false] rfl rfl (any_of HT_.out (by kernel_rfl)) (fun _ _ _ h => h) (Or.inl ⟨by rfl,?_⟩) ?_ ?_
      rotate_left
      ·intro w'
       go_simp
       with_reducible rfl
      rotate_left
      ·simp only [Act.put,List.setIfInBounds_toArray,List.set_cons_zero,List.set_cons_succ,i64_w,i32_w]
       rfl
      refine pure_ (i := 23) (N := (some 63)) (v := ?_) (a' := ?_) #[true,true,true,true,true,true,true,true,true,true,true,true,true,true,true,true,true,true,true,true,true,true,true,true,false,false,false,false,false,false,false,false,false,false,false,false,false,false,false,false,false,false,false,false,false,false,false,false] rfl rfl (any_of HT_.out (by kernel_rfl)) (fun _ _ _ h => h) (Or.inl ⟨by rfl,?_⟩) ?_ ?_
      rotate_left
      ·intro w'
       go_simp
       with_reducible rfl
      rotate_left
      ·simp only [Act.put,List.setIfInBounds_toArray,List.set_cons_zero,List.set_cons_succ,i64_w,i32_w]
       rfl
      refine one_ (i := 24) (N := (some 64)) #[true,true,true,true,true,true,true,true,true,true,true,true,true,true,true,true,true,true,true,true,true,true,true,true,true,false,false,false,false,false,false,false,false,false,false,false,false,false,false,false,false,false,false,false,false,false,false,false] rfl rfl (one_of HT_.out (by kernel_rfl)) (by decide) (fun K hK => ?_)
      refine call_ 25 #[.pointer (some ⟨pa,0,none⟩)] (by rfl) rfl au3 ?_
      refine (scr_full g13.scr g13.bs).mono ?_
      rintro e w14 ⟨rfl,hM⟩;rw [hfF.out]
      have g14 := g13.more hM
      refine ⟨_,rfl,hK.out _ _ g14.sees (fun hHeld => ?_)⟩
      clear hK K g13 hM
      refine norm_ (a' := ?_) ?_ ?_
      rotate_left
      ·show Act.put _ (some 64) _ = _
       simp only [Act.put,List.setIfInBounds_toArray,List.set_cons_zero,List.set_cons_succ,i64_w,i32_w]
       rfl
      refine pure_ (i := 25) (N := (some 65)) (v := ?_) (a' := ?_) #[true,true,true,true,true,true,true,true,true,true,true,true,true,true,true,true,true,true,true,true,true,true,true,true,true,true,false,false,false,false,false,false,false,false,false,false,false,false,false,false,false,false,false,false,false,false,false,false] rfl rfl (any_of HT_.out (by kernel_rfl)) (fun _ _ _ h => h) (Or.inl ⟨by rfl,?_⟩) ?_ ?_
      rotate_left
      ·intro w'
       go_simp
       with_reducible rfl
      rotate_left
      ·simp only [Act.put,List.setIfInBounds_toArray,List.set_cons_zero,List.set_cons_succ,i64_w,i32_w]
       rfl
      refine pure_ (i := 26) (N := (some 66)) (v := ?_) (a' := ?_) #[true,true,true,true,true,true,true,true,true,true,true,true,true,true,true,true,true,true,true,true,true,true,true,true,true,true,true,false,false,false,false,false,false,false,false,false,false,false,false,false,false,false,false,false,false,false,false,false] rfl rfl (any_of HT_.out (by kernel_rfl)) (fun _ _ _ h => h) (Or.inl ⟨by rfl,?_⟩) ?_ ?_
      rotate_left
      ·intro w'
       go_simp
       with_reducible rfl
      rotate_left
      ·simp only [Act.put,List.setIfInBounds_toArray,List.set_cons_zero,List.set_cons_succ,i64_w,i32_w]
       rfl
      refine take_ (i := 27) (N := (some 67)) (v := ?_) (a' := ?_) #[true,true,true,true,true,true,true,true,true,true,true,true,true,true,true,true,true,true,true,true,true,true,true,true,true,true,true,true,false,false,false,false,false,false,false,false,false,false,false,false,false,false,false,false,false,false,false,false] rfl rfl (take_ofW HT_.out HW_.out (by kernel_rfl)) (fun _ _ _ h => h) (Or.inl ⟨by rfl,?_⟩) hHeld ?_ ?_
      rotate_left
      ·rintro w' ⟨s1,s2⟩
       go_simp
       with_reducible rfl
      rotate_left
      ·simp only [Act.put,List.setIfInBounds_toArray,List.set_cons_zero,List.set_cons_succ,i64_w,i32_w]
       rfl
      refine pure_ (i := 28) (N := (some 68)) (v := ?_) (a' := ?_) #[true,true,true,true,true,true,true,true,true,true,true,true,true,true,true,true,true,true,true,true,true,true,true,true,true,true,true,true,true,false,false,false,false,false,false,false,false,false,false,false,false,false,false,false,false,false,false,false] rfl rfl (any_of HT_.out (by kernel_rfl)) (fun _ _ _ h => h) (Or.inl ⟨by rfl,?_⟩) ?_ ?_
      rotate_left
      ·intro w'
       go_simp
       with_reducible rfl
      rotate_left
      ·simp only [Act.put,List.setIfInBounds_toArray,List.set_cons_zero,List.set_cons_succ,i64_w,i32_w]
       rfl
      refine one_ (i := 29) (N := (some 69)) #[true,true,true,true,true,true,true,true,true,true,true,true,true,true,true,true,true,true,true,true,true,true,true,true,true,true,true,true,true,true,false,false,false,false,false,false,false,false,false,false,false,false,false,false,false,false,false,false] rfl rfl (one_of HT_.out (by kernel_rfl)) (by decide) (fun K hK => ?_)
      refine call_ 22 #[.pointer (some ⟨pa,0,none⟩)] (by rfl) rfl au3 ?_
      refine (scr_width g14.scr g14.bs hok).mono ?_
      rintro e w15 ⟨rfl,hM⟩
      have g15 := g14.made hM
      refine ⟨_,rfl,hK.out _ _ g15.sees (fun hHeld => ?_)⟩
      clear hK K g14 hM
      refine norm_ (a' := ?_) ?_ ?_
      rotate_left
      ·show Act.put _ (some 69) _ = _
       simp only [Act.put,List.setIfInBounds_toArray,List.set_cons_zero,List.set_cons_succ,i64_w,i32_w]
       rfl
      refine pure_ (i := 30) (N := (some 70)) (v := ?_) (a' := ?_) #[true,true,true,true,true,true,true,true,true,true,true,true,true,true,true,true,true,true,true,true,true,true,true,true,true,true,true,true,true,true,true,false,false,false,false,false,false,false,false,false,false,false,false,false,false,false,false,false] rfl rfl (any_of HT_.out (by kernel_rfl)) (fun _ _ _ h => h) (Or.inl ⟨by rfl,?_⟩) ?_ ?_
      rotate_left
      ·intro w'
       go_simp
       with_reducible rfl
      rotate_left
      ·simp only [Act.put,List.setIfInBounds_toArray,List.set_cons_zero,List.set_cons_succ,i64_w,i32_w]
       rfl
      refine pure_ (i := 31) (N := (some 71)) (v := ?_) (a' := ?_) #[true,true,true,true,true,true,true,true,true,true,true,true,true,true,true,true,true,true,true,true,true,true,true,true,true,true,true,true,true,true,true,true,false,false,false,false,false,false,false,false,false,false,false,false,false,false,false,false] rfl rfl (any_of HT_.out (by kernel_rfl)) (fun _ _ _ h => h) (Or.inl ⟨by rfl,?_⟩) ?_ ?_
      rotate_left
      ·intro w'
       go_simp
       with_reducible rfl
      rotate_left
      ·simp only [Act.put,List.setIfInBounds_toArray,List.set_cons_zero,List.set_cons_succ,i64_w,i32_w]
       rfl
      refine pure_ (i := 32) (N := (some 72)) (v := ?_) (a' := ?_) #[true,true,true,true,true,true,true,true,true,true,true,true,true,true,true,true,true,true,true,true,true,true,true,true,true,true,true,true,true,true,true,true,true,false,false,false,false,false,false,false,false,false,false,false,false,false,false,false] rfl rfl (any_of HT_.out (by kernel_rfl)) (fun _ _ _ h => h) (Or.inl ⟨by rfl,?_⟩) ?_ ?_
      rotate_left
      ·intro w'
       go_simp
       with_reducible rfl
      rotate_left
      ·simp only [Act.put,List.setIfInBounds_toArray,List.set_cons_zero,List.set_cons_succ,i64_w,i32_w]
       rfl
      refine pure_ (i := 33) (N := (some 73)) (v := ?_) (a' := ?_) #[true,true,true,true,true,true,true,true,true,true,true,true,true,true,true,true,true,true,true,true,true,true,true,true,true,true,true,true,true,true,true,true,true,true,false,false,false,false,false,false,false,false,false,false,false,false,false,false] rfl rfl (any_of HT_.out (by kernel_rfl)) (fun _ _ _ h => h) (Or.inl ⟨by rfl,?_⟩) ?_ ?_
      rotate_left
      ·intro w'
       go_simp
       with_reducible rfl
      rotate_left
      ·simp only [Act.put,List.setIfInBounds_toArray,List.set_cons_zero,List.set_cons_succ,i64_w,i32_w]
       rfl
      refine pure_ (i := 34) (N := (some 74)) (v := ?_) (a' := ?_) #[true,true,true,true,true,true,true,true,true,true,true,true,true,true,true,true,true,true,true,true,true,true,true,true,true,true,true,true,true,true,true,true,true,true,true,false,false,false,false,false,false,false,false,false,false,false,false,false] rfl rfl (any_of HT_.out (by kernel_rfl)) (fun _ _ _ h => h) (Or.inl ⟨by rfl,?_⟩) ?_ ?_
      rotate_left
      ·intro w'
       go_simp
       with_reducible rfl
      rotate_left
      ·simp only [Act.put,List.setIfInBounds_toArray,List.set_cons_zero,List.set_cons_succ,i64_w,i32_w]
       rfl
      refine pure_ (i := 35) (N := (some 75)) (v := ?_) (a' := ?_) #[true,true,true,true,true,true,true,true,true,true,true,true,true,true,true,true,true,true,true,true,true,true,true,true,true,true,true,true,true,true,true,true,true,true,true,true,false,false,false,false,false,false,false,false,false,false,false,false] rfl rfl (any_of HT_.out (by kernel_rfl)) (fun _ _ _ h => h) (Or.inl ⟨by rfl,?_⟩) ?_ ?_
      rotate_left
      ·intro w'
       go_simp
       with_reducible rfl
      rotate_left
      ·simp only [Act.put,List.setIfInBounds_toArray,List.set_cons_zero,List.set_cons_succ,i64_w,i32_w]
       rfl
      refine pure_ (i := 37) (N := (some 77)) (v := ?_) (a' := ?_) #[true,true,true,true,true,true,true,true,true,true,true,true,true,true,true,true,true,true,true,true,true,true,true,true,true,true,true,true,true,true,true,true,true,true,true,true,false,true,false,false,false,false,false,false,false,false,false,false] rfl rfl (any_of HT_.out (by kernel_rfl)) (fun _ _ _ h => h) (Or.inl ⟨by rfl,?_⟩) ?_ ?_
      rotate_left
      ·intro w'
       go_simp
       with_reducible rfl
      rotate_left
      ·simp only [Act.put,List.setIfInBounds_toArray,List.set_cons_zero,List.set_cons_succ,i64_w,i32_w]
       rfl
      refine take_ (i := 38) (N := (some 78)) (v := ?_) (a' := ?_) #[true,true,true,true,true,true,true,true,true,true,true,true,true,true,true,true,true,true,true,true,true,true,true,true,true,true,true,true,true,true,true,true,true,true,true,true,false,true,true,false,false,false,false,false,false,false,false,false] rfl rfl (take_ofW HT_.out HW_.out (by kernel_rfl)) (fun _ _ _ h => h) (Or.inl ⟨by rfl,?_⟩) hHeld ?_ ?_
      rotate_left
      ·rintro w' ⟨s1,s2⟩
       go_simp
       with_reducible rfl
      rotate_left
      ·simp only [Act.put,List.setIfInBounds_toArray,List.set_cons_zero,List.set_cons_succ,i64_w,i32_w]
       rfl
      refine one_ (i := 36) (N := (some 76)) #[true,true,true,true,true,true,true,true,true,true,true,true,true,true,true,true,true,true,true,true,true,true,true,true,true,true,true,true,true,true,true,true,true,true,true,true,true,true,true,false,false,false,false,false,false,false,false,false] rfl rfl (one_of HT_.out (by kernel_rfl)) (by decide) (fun K hK => ?_)
      refine call_ 21 #[.pointer (some ⟨pa,0,none⟩)] (by rfl) rfl au3 ?_
      refine (scr_rows g15.scr g15.bs hok).mono ?_
      rintro e w16 ⟨rfl,hM⟩
      have g16 := g15.made hM
      refine ⟨_,rfl,hK.out _ _ g16.sees (fun hHeld => ?_)⟩
      clear hK K g15 hM
      refine norm_ (a' := ?_) ?_ ?_
      rotate_left
      ·show Act.put _ (some 76) _ = _
       simp only [Act.put,List.setIfInBounds_toArray,List.set_cons_zero,List.set_cons_succ,i64_w,i32_w]
       rfl
      refine pure_ (i := 39) (N := (some 79)) (v := ?_) (a' := ?_) #[true,true,true,true,true,true,true,true,true,true,true,true,true,true,true,true,true,true,true,true,true,true,true,true,true,true,true,true,true,true,true,true,true,true,true,true,true,true,true,true,false,false,false,false,false,false,false,false] rfl rfl (any_of HT_.out (by kernel_rfl)) (fun _ _ _ h => h) (Or.inl ⟨by rfl,?_⟩) ?_ ?_
      rotate_left
      ·intro w'
       go_simp
       with_reducible rfl
      rotate_left
      ·simp only [Act.put,List.setIfInBounds_toArray,List.set_cons_zero,List.set_cons_succ,i64_w,i32_w]
       rfl
      refine pure_ (i := 40) (N := (some 80)) (v := ?_) (a' := ?_) #[true,true,true,true,true,true,true,true,true,true,true,true,true,true,true,true,true,true,true,true,true,true,true,true,true,true,true,true,true,true,true,true,true,true,true,true,true,true,true,true,true,false,false,false,false,false,false,false] rfl rfl (any_of HT_.out (by kernel_rfl)) (fun _ _ _ h => h) (Or.inl ⟨by rfl,?_⟩) ?_ ?_
      rotate_left
      ·intro w'
       go_simp
       with_reducible rfl
      rotate_left
      ·simp only [Act.put,List.setIfInBounds_toArray,List.set_cons_zero,List.set_cons_succ,i64_w,i32_w]
       rfl
      refine pure_ (i := 41) (N := (some 81)) (v := ?_) (a' := ?_) #[true,true,true,true,true,true,true,true,true,true,true,true,true,true,true,true,true,true,true,true,true,true,true,true,true,true,true,true,true,true,true,true,true,true,true,true,true,true,true,true,true,true,false,false,false,false,false,false] rfl rfl (any_of HT_.out (by kernel_rfl)) (fun _ _ _ h => h) (Or.inl ⟨by rfl,?_⟩) ?_ ?_
      rotate_left
      ·intro w'
       go_simp
       with_reducible rfl
      rotate_left
      ·simp only [Act.put,List.setIfInBounds_toArray,List.set_cons_zero,List.set_cons_succ,i64_w,i32_w]
       rfl
      refine pure_ (i := 42) (N := (some 82)) (v := ?_) (a' := ?_) #[true,true,true,true,true,true,true,true,true,true,true,true,true,true,true,true,true,true,true,true,true,true,true,true,true,true,true,true,true,true,true,true,true,true,true,true,true,true,true,true,true,true,true,false,false,false,false,false] rfl rfl (any_of HT_.out (by kernel_rfl)) (fun _ _ _ h => h) (Or.inl ⟨by rfl,?_⟩) ?_ ?_
      rotate_left
      ·intro w'
       go_simp
       with_reducible rfl
      rotate_left
      ·simp only [Act.put,List.setIfInBounds_toArray,List.set_cons_zero,List.set_cons_succ,i64_w,i32_w]
       rfl
      refine pure_ (i := 44) (N := (some 84)) (v := ?_) (a' := ?_) #[true,true,true,true,true,true,true,true,true,true,true,true,true,true,true,true,true,true,true,true,true,true,true,true,true,true,true,true,true,true,true,true,true,true,true,true,true,true,true,true,true,true,true,false,true,false,false,false] rfl rfl (any_of HT_.out (by kernel_rfl)) (fun _ _ _ h => h) (Or.inl ⟨by rfl,?_⟩) ?_ ?_
      rotate_left
      ·intro w'
       go_simp
       with_reducible rfl
      rotate_left
      ·simp only [Act.put,List.setIfInBounds_toArray,List.set_cons_zero,List.set_cons_succ,i64_w,i32_w]
       rfl
      refine one_ (i := 43) (N := (some 83)) #[true,true,true,true,true,true,true,true,true,true,true,true,true,true,true,true,true,true,true,true,true,true,true,true,true,true,true,true,true,true,true,true,true,true,true,true,true,true,true,true,true,true,true,true,true,false,false,false] rfl rfl (one_of HT_.out (by kernel_rfl)) (by decide) (fun K hK => ?_)
      refine call_ 21 #[.pointer (some ⟨pa,0,none⟩)] (by rfl) rfl au3 ?_
      refine (scr_rows g16.scr g16.bs hok).mono ?_
      rintro e w17 ⟨rfl,hM⟩
      have g17 := g16.made hM
      refine ⟨_,rfl,hK.out _ _ g17.sees (fun hHeld => ?_)⟩
      clear hK K g16 hM
      refine norm_ (a' := ?_) ?_ ?_
      rotate_left
      ·show Act.put _ (some 83) _ = _
       simp only [Act.put,List.setIfInBounds_toArray,List.set_cons_zero,List.set_cons_succ,i64_w,i32_w]
       rfl
      refine one_ (i := 45) (N := (some 85)) #[true,true,true,true,true,true,true,true,true,true,true,true,true,true,true,true,true,true,true,true,true,true,true,true,true,true,true,true,true,true,true,true,true,true,true,true,true,true,true,true,true,true,true,true,true,true,false,false] rfl rfl (one_of HT_.out (by kernel_rfl)) (by decide) (fun K hK => ?_)
      refine call_ 32 #[.pointer (some ⟨pa,0,none⟩)] (by rfl) rfl au3 ?_
      refine (scr_height g17.scr g17.bs hok).mono ?_
      rintro e w18 ⟨rfl,hM⟩
      have g18 := g17.made hM
      refine ⟨_,rfl,hK.out _ _ g18.sees (fun hHeld => ?_)⟩
      clear hK K g17 hM
      refine norm_ (a' := ?_) ?_ ?_
      rotate_left
      ·show Act.put _ (some 85) _ = _
       simp only [Act.put,List.setIfInBounds_toArray,List.set_cons_zero,List.set_cons_succ,i64_w,i32_w]
       rfl
      refine pure_ (i := 46) (N := (some 86)) (v := ?_) (a' := ?_) #[true,true,true,true,true,true,true,true,true,true,true,true,true,true,true,true,true,true,true,true,true,true,true,true,true,true,true,true,true,true,true,true,true,true,true,true,true,true,true,true,true,true,true,true,true,true,true,false] rfl rfl (any_of HT_.out (by kernel_rfl)) (fun _ _ _ h => h) (Or.inl ⟨by rfl,?_⟩) ?_ ?_
      rotate_left
      ·intro w'
       go_simp
       with_reducible rfl
      rotate_left
      ·simp only [Act.put,List.setIfInBounds_toArray,List.set_cons_zero,List.set_cons_succ,i64_w,i32_w]
       rfl
      refine pure_ (i := 47) (N := (some 87)) (v := ?_) (a' := ?_) #[true,true,true,true,true,true,true,true,true,true,true,true,true,true,true,true,true,true,true,true,true,true,true,true,true,true,true,true,true,true,true,true,true,true,true,true,true,true,true,true,true,true,true,true,true,true,true,true] rfl rfl (any_of HT_.out (by kernel_rfl)) (fun _ _ _ h => h) (Or.inl ⟨by rfl,?_⟩) ?_ ?_
      rotate_left
      ·intro w'
       go_simp
       with_reducible rfl
      rotate_left
      ·simp only [Act.put,List.setIfInBounds_toArray,List.set_cons_zero,List.set_cons_succ,i64_w,i32_w]
       rfl
      refine done_ (done_of HT_.out (by kernel_rfl)) ?_
      clear HT_ HW_
      clear hHeld
      go_wp2_with (fail)
      go_meet
      case rel => exact ⟨rfl,g18⟩
    case rest =>
     obtain ⟨rfl,g20⟩ := hcut
     clear g10 hsee hfu k1 k2 k3 k4 k5 k6
     have hfd : ∀ (x0 x1 x2 x3 : Value) (W : World),(Instr.field 26 (.agg #[x0,x1,x2,x3]) 1).run Tryd.prog W = .ok x1 W := fun _ _ _ _ _ => by kernel_rfl
     go_upto_block 2 with (first | (go_at_call 20;refine (scr_frame g21.scr g21.bs hok _).mono ?_;rintro e w22 ⟨rv,rfl,hF,hM⟩;have hA22 := hM.scr;have hN22 := g21.below.trans hM.below;have hlt22 := g21.scr.lt;have hbd22 := g21.scr.bd;obtain ⟨FA,fc,rfl⟩ := Kd.R_slice (Kd.S_R hF);clear g21 hM) | (go_at_call 21;refine (scr_rows g20.scr g20.bs hok).mono ?_;rintro e w21 ⟨rfl,hM⟩;have g21 := g20.made hM;clear g20 hM))
     have hrows := hg6.rows
     have hcl := hok.cl
     have hFL : ∀ j,j < (frameL S.1.rows (S.1.frameN S.1.nrows)).length → Good ((frameL S.1.rows (S.1.frameN S.1.nrows)).getD j []) X0 ∧ (0 < ((frameL S.1.rows (S.1.frameN S.1.nrows)).getD j []).length → isBl (gC ((frameL S.1.rows (S.1.frameN S.1.nrows)).getD j []) (((frameL S.1.rows (S.1.frameN S.1.nrows)).getD j []).length - 1)) = false) ∧ ((frameL S.1.rows (S.1.frameN S.1.nrows)).getD j []).length ≤ S.1.w := fun j hj => by
      have e : (frameL S.1.rows (S.1.frameN S.1.nrows)).getD j [] = trimR (S.1.rows.getD j []) := by
       rw [frameL_len] at hj
       unfold frameL
       rw [List.getD_eq_getElem?_getD,List.getElem?_map,List.getElem?_range hj]
       rfl
      rw [e]
      obtain ⟨t1,t2⟩ := good_trim (hrows j)
      refine ⟨t1,t2,?_⟩
      rw [trimR_len]
      refine Nat.le_trans (trimN_le _ _) ?_
      by_cases hjl : j < S.1.rows.length
      ·refine hcl _ ?_
       rw [List.getD_eq_getElem?_getD,List.getElem?_eq_getElem hjl]
       exact List.getElem_mem _
      ·rw [rw_nil _ _ (by omega)]
       exact Nat.zero_le _
     have hFlen : 0 < (frameL S.1.rows (S.1.frameN S.1.nrows)).length := by
      rw [frameL_len]
      unfold Sc.frameN
      have := hok.h1
      omega
     have hFle : (frameL S.1.rows (S.1.frameN S.1.nrows)).length ≤ 65535 := by
      rw [frameL_len]
      unfold Sc.frameN
      have := hok.h2
      omega
     generalize frameL S.1.rows (S.1.frameN S.1.nrows) = FL at hF hFL hFlen hFle ⊢
     clear hrows hcl
     obtain ⟨gf,cf,hv,hgf0,hgfl,_,_⟩ := Kd.S_form hF hFlen
     injection hv with hv1 _ hv3
     subst hv1;subst hv3
     go_wp2_with (fail)
     go_loopw [94] (fun v wq => ∃ j : Nat,v = .int .i64 j ∧ j ≤ FL.length ∧ Scr W.heap.size pa O6 wq S ∧ Kd.S kRow 36 wq w21.heap.size (fun k => w21.heap.size ≤ k) (.slice (some ⟨gf,0,none⟩) FL.length fc) FL ∧ Below W.heap.size W wq) (fun v _ => FL.length - (intOf v).toNat)
     case atStart => exact ⟨0,rfl,Nat.zero_le _,hA22,hF,hN22⟩
     case round =>
      obtain ⟨j,rfl,hj,hAq,hFq,hNq⟩ := hrel
      clear hA22 hF hN22
      by_cases hjl : j < FL.length
      ·have hjl' : (j : Int) < (FL.length : Int) := by omega
       obtain ⟨oki,A0,c0,hR,hcell,_,hoki,_⟩ := row_of hFq j hjl
       obtain ⟨t1,t2,t3⟩ := hFL j hjl
       have hcc := (Kd.R_reads' hR).2.1
       generalize FL.getD j [] = row at hR hcell t1 t2 t3 hcc
       have hbsq := hNq.size
       go_upto_if 102 with (first | (go_at_call 33;refine (fits_any t1 t2 _ (by omega) (by omega) A0 c0 _ hC5 hcc).mono ?_;rintro e w26 ⟨rfl,hb6⟩;have hA6' := hA5.below hb6;have hF6' := Kd.S_kept hF5 (Kept.of_below hb6 (fun _ => False)) (fun k _ he => he.elim);have hN6' := hN5.trans (hb6.mono hN5.size)) | (go_at_call 22;refine (scr_width hAq hbsq hok).mono ?_;rintro e w25 ⟨rfl,hM⟩;have hA5 := hM.scr;have hN5 := hNq.trans hM.below;have hF5 := Kd.S_kept hFq hM.kept (fun k hk he => he.elim (fun h => by have := hbd22 _ h;omega) (fun h => by omega));have hC5 := Kd.C_kept_own hR (fun k hk he => by have := (hoki k hk).1;exact he.elim (fun h => by have := hbd22 _ h;omega) (fun h => by omega)) _ hM.kept))
       go_wp2_with (fail)
       go_roundw
       case rel => exact ⟨j + 1,by go_num,by omega,hA6',hF6',hN6'⟩
       case measure => simp [intOf];omega
      ·have hjl' := eq_false (show ¬ (j : Int) < (FL.length : Int) by omega)
       go_wp2_with (fail)
       go_roundw
       case rel => exact ⟨i + 1,S,O6,by go_num,hlt,hAq,hf6,hg6,hNq⟩
       case measure => simp [intOf];omega
  ·have hlt' := eq_false (show ¬ (i : Int) < (l2.length : Int) by omega)
   go_wp2_with (fail)
   go_ret
   exact ⟨rfl,hN3⟩
def bodkinlaw22_ScreenGrids.f (a0 a1 : Int) (l2 : List OpV) : Option Bool :=
 if (0 ≤ a0 ∧ a0 ≤ 255) ∧ (0 ≤ a1 ∧ a1 ≤ 255) ∧ 3 * l2.length ≤ 1048576 ∧ (∀ x ∈ l2,x.f0.size ≤ 1048576) then some true else none
theorem bodkinlaw22_ScreenGrids.calls (a0 a1 : Int) (A2 : Option Addr) (c2 : Nat) (l2 : List OpV) (r : Bool) (w : World) (hr2 : Kd.C kOp w A2 l2.length l2) (hc2 : l2.length ≤ c2) (hT : Lib.Utf8Tabs 0 1 w) (h : bodkinlaw22_ScreenGrids.f a0 a1 l2 = some r) :
  Calls Tryd.prog 8 #[.int .u8 a0,.int .u8 a1,.slice A2 l2.length c2] w fun e w' => e = .returned (.bool r) ∧ Below w.heap.size w w' := by
 unfold bodkinlaw22_ScreenGrids.f at h
 split at h
 ·rename_i hs
  obtain ⟨h0,h1,hl,hs2⟩ := hs
  obtain rfl := Option.some.inj h
  exact grids_any a0 a1 h0 h1 A2 c2 l2 w hr2 hc2 hl hs2 hT
 ·cases h
end Go.Proofs.YtgdpnmikcopkmaaDoor.U
end
section
namespace Go.Proofs.YtgdpnmikcopkmaaDoor.Pure
open Go Go.RowKit Go.Proofs.YtgdpnmikcopkmaaDoor.U
theorem grid_wf {x : Int} (h : (Lit.int .u8 x).wf = true) : 0 ≤ x ∧ x ≤ 255 := by
 simp only [Lit.wf,Bool.and_eq_true] at h
 exact ⟨of_decide_eq_true h.1,of_decide_eq_true h.2⟩
theorem ScreenGrids (a0 a1 : Int) (l2 : List OpV) (w0 : (Lit.int .u8 a0).wf = true) (w1 : (Lit.int .u8 a1).wf = true) (u2 : 3 * l2.length ≤ 1048576) (s2 : ∀ q ∈ l2,q.f0.size ≤ 1048576) : bodkinlaw22_ScreenGrids.f a0 a1 l2 = some true := by
 unfold bodkinlaw22_ScreenGrids.f
 rw [if_pos ⟨grid_wf w0,grid_wf w1,u2,s2⟩]
end Go.Proofs.YtgdpnmikcopkmaaDoor.Pure
end
section
namespace Go.Proofs.YtgdpnmikcopkmaaDoor.Lf
open Go.Lib Go.Proofs
theorem own : ownKnob Tryd.prog.godebug = none := by kernel_rfl
theorem laidOut : laidOutB Tryd.prog = true := by kernel_rfl
theorem extra : U8Extra Tryd.prog Tryd.lays260_ren := {
 n3 := by kernel_rfl
 n4 := by kernel_rfl
 y3 := by kernel_rfl
 y4 := by kernel_rfl
 c5 := by kernel_rfl
 c119 := by kernel_rfl
 c138 := by kernel_rfl }
theorem first_eq : Rows.laid_unicode_utf8_first = Lib.firstData := by kernel_rfl
theorem accept_eq : (Rows.laid_unicode_utf8_acceptRanges : DataW Unit) = Lib.acceptData := by kernel_rfl
abbrev laid : List (String × DataW Unit) := [("unicode/utf8.acceptRanges", Rows.laid_unicode_utf8_acceptRanges), ("unicode/utf8.first", Rows.laid_unicode_utf8_first)]
/-- The two tables lie as the contracts ask. -/
theorem tabs {W : World} (h : laidMetH Tryd.prog laid W) : Lib.Utf8Tabs 0 1 W := by
  rw [MakeChecks.laidMetH_plain _ _ _ (by kernel_rfl)] at h
  have h3 := laidMet.reads h (n := "unicode/utf8.first") (d := Rows.laid_unicode_utf8_first) (List.mem_cons_of_mem _ List.mem_cons_self)
  have h4 := laidMet.reads h (n := "unicode/utf8.acceptRanges") (d := Rows.laid_unicode_utf8_acceptRanges) List.mem_cons_self
  rw [first_eq] at h3
  rw [accept_eq] at h4
  exact utf8Tabs_of_reads Tryd.lays260 extra h3 h4
/-- The world of the witness: the settled one,the tables laid. -/
noncomputable abbrev wit (os : Os) : World := World.laidAll Tryd.prog os laid
theorem wit_laid (os : Os) (args : Array Value) : laidMetH Tryd.prog laid ((wit os).forCall (fun _ _ => 0) ⟨#[],args,[]⟩).memory := by
 rw [MakeChecks.laidMetH_plain _ _ _ (by kernel_rfl)]
 exact laidMet_laidAll _ (by kernel_rfl) (by kernel_rfl)
theorem wit_shaped (os : Os) (args : Array Value) : ((wit os).forCall (fun _ _ => 0) ⟨#[],args,[]⟩).Shaped Tryd.prog :=
 World.shaped_of_ZipB (by kernel_rfl) (by kernel_rfl)
end Go.Proofs.YtgdpnmikcopkmaaDoor.Lf
end
section
namespace Go.Proofs.YtgdpnmikcopkmaaDoor.Lf
open Go Go.RowKit
theorem bulk_one {H : Type} (d : DataW H) : 1 ≤ Rows.uptoBulk d := by
 cases d with
 | lit l => cases l <;> simp [Rows.uptoBulk]
 | nil => simp [Rows.uptoBulk]
 | ptr d => simp [Rows.uptoBulk]
 | slice elems spare => simp [Rows.uptoBulk]
 | agg parts => simp [Rows.uptoBulk]
 | iface t d => simp [Rows.uptoBulk]
 | map entries => simp [Rows.uptoBulk]
 | held h => simp [Rows.uptoBulk]
theorem bulk_mem {H : Type} {x : DataW H} : ∀ {l : List (DataW H)},x ∈ l → Rows.uptoBulk x ≤ Rows.uptoBulkAll l
 | y :: r,h => by
  simp only [Rows.uptoBulkAll]
  rcases List.mem_cons.1 h with rfl | h
  ·omega
  ·have := bulk_mem h;omega
end Go.Proofs.YtgdpnmikcopkmaaDoor.Lf
end
section
namespace Go.Proofs.YtgdpnmikcopkmaaDoor.Lf
open Go Go.RowKit Go.ChangeShapes Go.WideShapes Go.Proofs.YtgdpnmikcopkmaaDoor.U Go.Proofs.YtgdpnmikcopkmaaDoorW.PrintWords Go.Proofs.YtgdpnmikcopkmaaDoorW.PrintLast Go.Proofs.YtgdpnmikcopkmaaDoorW.PrintMore
set_option linter.unusedVariables false
set_option linter.unusedSimpArgs false
theorem lo_gen {H : Type} {enc : TypeId × Value → H} {P : Program} {w : World} {base : Nat} {sp : Nat → Bool} {held : Bool} {t : TypeId} {p0 p1 p2 : Field} (ht : P.underlying t = some (.struct #[p0,p1,p2])) (ce : P.cellsOf t = 3)
  (o0 : p0.offset = 0) (c0 : P.cellsOf p0.type = 1) (u0 : P.underlying p0.type = some .string) (o1 : p1.offset = 1) (c1 : P.cellsOf p1.type = 1) (u1 : P.underlying p1.type = some (.int .i64)) (o2 : p2.offset = 2) (c2 : P.cellsOf p2.type = 1) (u2 : P.underlying p2.type = some .bool)
  {fuel : Nat} {cs : List Value} {x : DataW H × List MemPlace} (h : DataW.trod enc P w base sp held fuel t cs = some x) : ∃ (x0 : ByteArray) (x1 : Int) (x2 : Bool),cs = [.string x0,.int .i64 x1,.bool x2] ∧ x0.size + 3 ≤ Rows.uptoBulk x.1 := by
 obtain ⟨xs,n,_,rfl,hl,hlen,hf⟩ := DataW.trod_struct ht h
 rw [ce] at hl
 match xs,hlen,cs,hl with
 | [y0,y1,y2],_,[v0,v1,v2],_ =>
  have g0 := hf 0 p0 rfl
  have g1 := hf 1 p1 rfl
  have g2 := hf 2 p2 rfl
  simp [o0,c0,o1,c1,o2,c2] at g0 g1 g2
  obtain ⟨x0,e0,f0,_⟩ := DataW.trod_string u0 g0
  injection e0 with e0
  subst e0
  obtain ⟨x1,e1,f1,_⟩ := DataW.trod_int u1 g1
  injection e1 with e1
  subst e1
  obtain ⟨x2,e2,f2⟩ := DataW.trod_bool u2 g2
  injection e2 with e2
  subst e2
  refine ⟨x0,x1,x2,rfl,?_⟩
  have b1 := bulk_one y1.1
  have b2 := bulk_one y2.1
  simp only [List.map_cons,List.map_nil,Rows.uptoBulk,Rows.uptoBulkAll]
  rw [congrArg Prod.fst f0]
  simp only [show ∀ b : List UInt8,Rows.uptoBulk (DataW.lit (H := H) (.string b)) = b.length + 1 from fun b => by simp [Rows.uptoBulk]]
  have z0 : x0.data.toList.length = x0.size := rfl
  omega
theorem bulk_thrice {H : Type} (l : List (DataW H)) (h : ∀ x ∈ l,3 ≤ Rows.uptoBulk x) : 3 * l.length ≤ Rows.uptoBulkAll l := by
 induction l with
 | nil => simp [Rows.uptoBulkAll]
 | cons x r ih =>
  have := h x (List.mem_cons_self ..)
  have := ih (fun y hy => h y (List.mem_cons_of_mem _ hy))
  simp only [Rows.uptoBulkAll,List.length_cons]
  omega
theorem lo_el {H : Type} {enc : TypeId × Value → H} {w : World} {base : Nat} {sp : Nat → Bool} {held : Bool} {fuel : Nat} {cs : List Value} {x : DataW H × List MemPlace} (h : DataW.trod enc Tryd.prog w base sp held fuel 53 cs = some x) : ∃ (x0 : ByteArray) (x1 : Int) (x2 : Bool),cs = [.string x0,.int .i64 x1,.bool x2] ∧ x0.size + 3 ≤ Rows.uptoBulk x.1 :=
 lo_gen Tryd.underlying53 (by kernel_rfl) rfl (by kernel_rfl) Tryd.underlying9 rfl (by kernel_rfl) Tryd.underlying3 rfl (by kernel_rfl) Tryd.underlying4 h
theorem lo_read {H : Type} {enc : TypeId × Value → H} {w : World} {base : Nat} {held : Bool} {fuel : Nat} {a : Option Addr} {len cap : Nat} {x : DataW H × List MemPlace}
  (h : DataW.trod enc Tryd.prog w base (fun _ => true) held fuel 51 (Value.slice a len cap).cells.toList = some x) :
  ∃ l : List OpV,len = l.length ∧ Kd.C kOp w a l.length l ∧ l.length ≤ cap ∧ 3 * len ≤ Rows.uptoBulk x.1 ∧ ∀ q ∈ l,q.f0.size ≤ Rows.uptoBulk x.1 := by
 rcases Deep.open_slice Tryd.underlying51 h with ⟨hcs,hx⟩ | ⟨ad,l',c',m,n,D,Pl,hcs,_,hl,hm,hmm,hx,hc⟩
 ·simp [Value.cells] at hcs
  obtain ⟨rfl,rfl,rfl⟩ := hcs
  exact ⟨[],rfl,Kd.C_nil _ _,Nat.le_refl _,Nat.zero_le _,by simp⟩
 ·simp [Value.cells] at hcs
  obtain ⟨rfl,rfl,rfl⟩ := hcs
  simp only [if_true] at hmm
  subst hmm
  have ce : Tryd.prog.cellsOf 53 = 3 := by kernel_rfl
  have hv : ∀ i,i < len → ∃ q : OpV,(∀ j v,[.string q.f0,.int .i64 q.f1,.bool q.f2][j]? = some v → w.cell? (ad.add (i * 3 + j)) = some v) ∧ q.f0.size + 3 ≤ Rows.uptoBulk (D i) := by
   intro i hi
   obtain ⟨cs',h1,h2⟩ := hc i (by omega)
   obtain ⟨x0,x1,x2,rfl,hb⟩ := lo_el h2
   obtain ⟨_,_,hcell⟩ := World.cells?_some h1
   rw [ce] at hcell
   refine ⟨⟨x0,x1,x2⟩,fun j v hj => ?_,hb⟩
   have hjl : j < 3 := (List.getElem?_eq_some_iff.1 hj).1
   have := hcell j hjl
   rw [Deep.add_add] at this
   rw [this]
   exact hj
  haveI : Inhabited OpV := ⟨zOp⟩
  obtain ⟨q,hq⟩ := Deep.choose_lt hv
  have hb : Rows.uptoBulkAll ((List.range len).map D) ≤ Rows.uptoBulk x.1 := by
   rw [hx]
   simp only [Rows.uptoBulk]
   omega
  refine ⟨(List.range len).map q,by simp,⟨rfl,by simp;unfold maxLen at hm;omega,fun _ => ⟨ad,rfl,fun j p hj => ?_⟩⟩,by simpa using hl,?_,fun p hp => ?_⟩
  ·rw [List.getElem?_map] at hj
   by_cases hjl : j < len
   ·rw [List.getElem?_range hjl] at hj
    obtain rfl := Option.some.inj hj
    have c := (hq j hjl).1
    refine ⟨_,rfl,kOp_mk w (q j),fun i u hu => ?_⟩
    match i,hu with
    | 0,hu => obtain rfl := Option.some.inj hu;exact c 0 _ rfl
    | 1,hu => obtain rfl := Option.some.inj hu;exact c 1 _ rfl
    | 2,hu => obtain rfl := Option.some.inj hu;exact c 2 _ rfl
    | (i + 3),hu => simp at hu
   ·rw [List.getElem?_eq_none (by simpa using hjl)] at hj
    cases hj
  ·refine Nat.le_trans ?_ hb
   refine Nat.le_trans (Nat.le_of_eq ?_) (bulk_thrice ((List.range len).map D) (fun y hy => ?_))
   ·simp
   ·obtain ⟨i,hi,rfl⟩ := List.mem_map.1 hy
    have := (hq i (List.mem_range.1 hi)).2
    omega
  ·obtain ⟨i,hi,rfl⟩ := List.mem_map.1 hp
   have hi := List.mem_range.1 hi
   have h1 := bulk_mem (l := (List.range len).map D) (List.mem_map_of_mem (List.mem_range.2 hi))
   have h2 := (hq i hi).2
   omega
end Go.Proofs.YtgdpnmikcopkmaaDoor.Lf
end
