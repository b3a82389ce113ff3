/- What the law LayoutLays reaches of this seat's own texts, merged; what nothing uses is left out. -/
import Derived.Test.YtnpjaaldppemlaaDoorZLayoutLays0
import Derived.Test.YtnpjaaldppemlaaDoorZLayoutLays6
import Derived.Test.YtnpjaaldppemlaaDoorZLayoutLays7
import Derived.Test.YtnpjaaldppemlaaDoorZLayoutLays8
import Derived.Test.YtnpjaaldppemlaaDoorZLayoutLays9
import Derived.Test.YtnpjaaldppemlaaDoorZLayoutLays10
section
namespace Go.Proofs.YtnpjaaldppemlaaDoor.U
open Go.RowKit Go.Shelf Go.Proofs.YtnpjaaldppemlaaDoor.Mu Go.Proofs.YtnpjaaldppemlaaDoor.Pu Go.Proofs.YtnpjaaldppemlaaDoorW.PrintWords Go.Proofs.YtnpjaaldppemlaaDoorW.PrintLast Go.Proofs.YtnpjaaldppemlaaDoorW.PrintMore
set_option linter.unusedVariables false
set_option linter.unusedSimpArgs false
/-- What the reference answers of a text's clusters. -/
def RefOk (s : ByteArray) : Prop := (∃ k,bodkinref03_List.f k s = some (clusL s)) ∧ ∀ c ∈ clusL s,0 ≤ c.f0 ∧ c.f0 ≤ c.f1 ∧ c.f1 ≤ s.size ∧ (∃ k,bodkinref03_Drawn.f k (s.extract c.f0.toNat c.f1.toNat) = some (drawnS (s.extract c.f0.toNat c.f1.toNat))) ∧
 (c.f3 = 0 ∨ ∃ k us,bodkinref01_Units.f k (drawnS (s.extract c.f0.toNat c.f1.toNat)) = some us ∧ 0 < us.length ∧ (rd_T87 us 0).f1 = ((Lib.decodeGo (drawnS (s.extract c.f0.toNat c.f1.toNat))).2 : Int))
/-- No block of clusters,nor of places. -/
def noT (W : World) (k : Nat) : Prop := ∀ (cs : Array Value) (t : Nat),(t = 60 ∨ t = 27) → W.heap[k]? ≠ some (Obj.cells cs t (0,0))
theorem row_typ {α : Type} {d : Kd α} {e base : Nat} {ok S : Nat → Prop} {W w1 : World} {v : Value} {xs : List α} (h : Kd.R d e W base ok v xs) (hE : ∀ q,q ∈ e :: d.E → q = e) (hk : Kept W w1 S) (hn : ∀ (k : Nat) (cs : Array Value),W.heap[k]? = some (Obj.cells cs e (0,0)) → ¬ S k) : Kd.R d e w1 base ok v xs := by
 refine Kd.R_mono (Kd.R_move (Kd.R_bound h) (fun k hb => ?_)) (fun k hk => hk.1)
 obtain ⟨_,_,hlt,q,hq,cs,hc⟩ := hb
 obtain rfl := hE q hq
 exact hk.2 k hlt (hn k cs hc)
theorem onlyPl (q : Nat) (h : q ∈ 27 :: kPl.E) : q = 27 := by
 rcases List.mem_cons.1 h with h | h
 ·exact h
 ·exact absurd h (by simp [kPl,k27,Kd.iso,Kd.pair,Kd.int,Kd.scalar])
theorem onlyCu (q : Nat) (h : q ∈ 60 :: k60.E) : q = 60 := by
 rcases List.mem_cons.1 h with h | h
 ·exact h
 ·exact absurd h (by simp [k60,Kd.iso,Kd.pair,Kd.int,Kd.scalar])
theorem noT_pen {T base p : Nat} {ok : Nat → Prop} {W : World} {wd : Int} {s : Ly} (h : LyAt T base p ok W wd s) (hT : T ≠ 60 ∧ T ≠ 27) : ∀ (k : Nat) (cs : Array Value) (t : Nat),(t = 60 ∨ t = 27) → W.heap[k]? = some (Obj.cells cs t (0,0)) → ¬ ((ok k ∧ noT W k) ∨ k = p) := by
 intro k cs t ht hc hh
 rcases hh with hh | hh
 ·exact hh.2 cs t ht hc
 ·obtain ⟨⟨rv,hp,_⟩,_,_⟩ := h
  rw [← hh,hc] at hp
  injection hp with hp
  injection hp with _ hp
  subst hp
  rcases ht with ht | ht
  ·exact hT.1 ht
  ·exact hT.2 ht
theorem take_snoc {α : Type} (l : List α) (i : Nat) (h : i < l.length) (x : α) (hx : l[i]? = some x) : l.take (i + 1) = l.take i ++ [x] := by rw [List.take_add_one,hx];rfl
def txt6.T : Bool × List (List Nat × List Nat) := (true,[([],[]),([],[]),([],[]),([1,2],[1,2]),([3],[3]),([],[]),([],[]),([],[]),([6,7],[6,7]),([8],[8]),([9],[9]),([],[]),([],[]),([11,12],[11,12]),([13],[13]),([14],[14]),([5,10,15],[5,10,15]),([16],[16]),([0,4,17,17],[0,4,17])])
def txt6.B : List Nat := [0,0,0,6,14,0,0,0,192,448,960,0,0,6144,14336,30720,65504,131040,262143]
theorem txt6.tab : rtab .any (opsOf Tryd.f45 6) = txt6.T := by kernel_rfl
theorem txt6.bits : waitsOk txt6.T.2 txt6.B = true := by kernel_rfl
set_option maxRecDepth 100000 in
set_option maxHeartbeats 8000000 in
theorem pn_text {base p : Nat} {ok : Nat → Prop} {W : World} {wd : Int} {st : Ly} (h : LyAt 55 base p ok W wd st) (hf : ∀ k,W.heap.size ≤ k → ok k) (hb : base ≤ W.heap.size) (hF : st.Fit wd) (s : ByteArray) (hs : s.size ≤ 68719476736) (hl : st.1.length ≤ 206158430208) (hR : RefOk s) :
  Calls Tryd.prog 45 #[.pointer (some ⟨p,0,none⟩),.string s] W fun e w' => ∃ rv,e = .returned rv ∧ Kd.R kPl 27 w' W.heap.size (fun _ => True) rv (st.pl :: plsL wd s st (clusL s)) ∧ LyAt 55 base p ok w' wd (layL wd s st (clusL s)) ∧ Below base W w' ∧ Kept W w' (fun k => ok k ∨ k = p) := by
 obtain ⟨⟨kl,hkl⟩,hC⟩ := hR
 have hlen := clusL_length s
 generalize clusL s = cs at hkl hC hlen ⊢
 have hpl := h.lt
 go_enter Tryd.func45,Tryd.ntmps45
 go_upto_region 2 with (go_at_call 32;refine (bodkinref03_List.calls kl s cs _ hkl).mono ?_;rintro e w1 ⟨v1,rfl,hR1,hb1⟩;obtain ⟨Al,cl,rfl⟩ := Kd.R_slice hR1)
 have hG1 := h.below hb1
 have c2 := hG1.row
 have c3 := hG1.col
 have hpl1 := hG1.lt
 go_wp2
 obtain ⟨W2,hW2⟩ : ∃ W2,w1.alloc (.cells #[.int .i64 (st.1.length : Int),.int .i64 (st.2.length : Int)] 27) = W2 := ⟨_,rfl⟩
 try rw [hW2]
 have hb2 : Below w1.heap.size w1 W2 := by rw [← hW2];exact below_alloc (Below.refl _ _) _
 have hG2 := hG1.below hb2
 have hR2 := Kd.R_below hR1 hb2
 have hO2 : Kd.R kPl 27 W2 W.heap.size (fun _ => True) (.slice (some ⟨w1.heap.size,0,none⟩) 1 1) [st.pl] := by
  rw [← hW2]
  refine ⟨fun k hk => trivial,[.int .i64 (st.1.length : Int),.int .i64 (st.2.length : Int)],?_,?_⟩
  ·have h2 := World.ownsRow_lit (base := W.heap.size) (e := 27) (size := 2) w1 #[.int .i64 (st.1.length : Int),.int .i64 (st.2.length : Int)] 1 hb1.size (by decide) rfl
   have hz : kPl.sz = 2 := rfl
   rw [hz]
   exact (by simpa using h2)
  ·exact Reps.c2 (k27_mkM _ _ _ st.pl) (Reps.none _ _)
 have hb12 := hb1.trans (hb2.mono hb1.size)
 have hB2 := hb12.mono hb
 have hK2 := Kept.of_below hb12 (fun k => ok k ∨ k = p)
 clear hW2 hb2 hG1 hR1 hb1 c2 c3 hpl1
 go_loopw [6,7] (fun v6 v7 wr => ∃ (i : Nat),v7 = .int .i64 i ∧ i ≤ cs.length ∧ Kd.R k60 60 wr W.heap.size (fun _ => True) (.slice Al cs.length cl) cs ∧ Kd.R kPl 27 wr W.heap.size (fun _ => True) v6 (st.pl :: plsL wd s st (cs.take i)) ∧ LyAt 55 base p ok wr wd (layL wd s st (cs.take i)) ∧ Below base W wr ∧ Kept W wr (fun k => ok k ∨ k = p))
  (fun _ v _ => cs.length - (intOf v).toNat)
 case atStart => exact ⟨0,rfl,Nat.zero_le _,hR2,hO2,hG2,hB2,hK2⟩
 case round =>
  obtain ⟨i,rfl,hi,hRr,hOr,hGr,hBr,hKr⟩ := hrel
  clear hR2 hO2 hG2 hB2 hK2 hb12
  by_cases hlt : i < cs.length
  ·have hlt' : (i : Int) < (cs.length : Int) := by omega
   have hlen1 := hlt
   obtain ⟨x,hx⟩ : ∃ x,cs[i]? = some x := ⟨_,List.getElem?_eq_getElem hlt⟩
   have hxm : x ∈ cs := List.mem_of_getElem? hx
   obtain ⟨hx0,hx1,hx2,⟨kd_,hd⟩,hu⟩ := hC x hxm
   have htk := take_snoc cs i hlt x hx
   have hst : Hid (layL wd s st (cs.take (i + 1)) = layC wd s (layL wd s st (cs.take i)) x) := Lib.hid (by rw [htk,layL_snoc])
   have hpst : Hid (st.pl :: plsL wd s st (cs.take (i + 1)) = (st.pl :: plsL wd s st (cs.take i)) ++ [(layC wd s (layL wd s st (cs.take i)) x).pl]) := Lib.hid (by rw [htk,plsL_snoc,List.cons_append])
   have hFt := layL_fit wd s (cs.take i) _ hF
   have hLn := layL_len wd s (cs.take i) st
   rw [List.length_take] at hLn
   have hL2 : (layL wd s st (cs.take i)).1.length ≤ 549755813888 := by omega
   have hPn : (st.pl :: plsL wd s st (cs.take i)).length ≤ 68719476737 := by rw [List.length_cons,plsL_len,List.length_take];omega
   generalize layL wd s st (cs.take i) = sti at hst hpst hFt hL2 hGr ⊢
   generalize st.pl :: plsL wd s st (cs.take i) = P at hpst hPn hOr ⊢
   obtain ⟨ad,rfl,b0,b1,b2,b3⟩ := at_T60 (Kd.R_reads' hRr).2.2 (i : Int) (Int.natCast_nonneg _) hlt'
   have hrd : rd_T60 cs (i : Int) = x := by unfold rd_T60;rw [Int.toNat_natCast,List.getD_eq_getElem?_getD,hx];rfl
   rw [hrd,Int.toNat_natCast] at b0 b1 b2 b3
   obtain ⟨x0,x1,x2,x3⟩ := x
   dsimp only at b0 b1 b2 b3 hx0 hx1 hx2 hd hu
   have hrd := Lib.hid hrd
   clear hLn htk hx hxm
   obtain ⟨Ap,cp,rfl⟩ := Kd.R_slice hOr
   have q2 := eq_true hx0
   have q3 := eq_true hx1
   have q4 := eq_true hx2
   go_upto_region 6 with (fail)
   refine start_ (n := 19) (S := fun w' => w'.cell? (ad.add (i * 4)) = some (.int .i64 x0) ∧ w'.cell? ⟨(ad.add (i * 4)).block,(ad.add (i * 4)).off + 1,none⟩ = some (.int .i64 x1) ∧ w'.cell? ⟨(ad.add (i * 4)).block,(ad.add (i * 4)).off + 2,none⟩ = some (.int .i64 x2) ∧ w'.cell? ⟨(ad.add (i * 4)).block,(ad.add (i * 4)).off + 3,none⟩ = some (.int .i64 x3)) (ds := []) #[false,false,false,false,false,false,false,false,false,false,false,false,false,false,false,false,false,false,false] (by kernel_rfl) rfl rfl ⟨b0,b1,b2,b3⟩ (fun hHeld => ?_);refine with_tabW txt6.tab txt6.bits (fun HT_ HW_ => ?_)
   have hBr1 := below_drew1 hBr
   have hKr1 := Kept.drew hKr
   have hGr1 := hGr.below (below_drew (Below.refl _ _))
   have hRr1 := Kd.R_drew hRr
   have hOr1 := Kd.R_drew hOr
   generalize wr.drew = w3 at hBr1 hKr1 hGr1 hRr1 hOr1 hHeld b0 b1 b2 b3 ⊢
   clear hBr hKr hGr hRr hOr
   refine pure_ (i := 0) (N := (some 21)) (v := ?_) (a' := ?_) #[true,false,false,false,false,false,false,false,false,false,false,false,false,false,false,false,false,false,false] rfl rfl (any_of HT_.out (by kernel_rfl)) (fun _ _ _ h => h) (Or.inl ⟨by rfl,?_⟩) ?_ ?_
   rotate_left
   ·intro w'
    go_simp
    with_reducible rfl
   rotate_left
   ·simp only [Act.put,List.setIfInBounds_toArray,List.set_cons_zero,List.set_cons_succ,i64_w,i32_w]
    rfl
   refine pure_ (i := 1) (N := (some 22)) (v := ?_) (a' := ?_) #[true,true,false,false,false,false,false,false,false,false,false,false,false,false,false,false,false,false,false] rfl rfl (any_of HT_.out (by kernel_rfl)) (fun _ _ _ h => h) (Or.inl ⟨by rfl,?_⟩) ?_ ?_
   rotate_left
   ·intro w'
    go_simp
    with_reducible rfl
   rotate_left
   ·simp only [Act.put,List.setIfInBounds_toArray,List.set_cons_zero,List.set_cons_succ,i64_w,i32_w]
    rfl
   refine pure_ (i := 2) (N := (some 23)) (v := ?_) (a' := ?_) #[true,true,true,false,false,false,false,false,false,false,false,false,false,false,false,false,false,false,false] rfl rfl (any_of HT_.out (by kernel_rfl)) (fun _ _ _ h => h) (Or.inl ⟨by rfl,?_⟩) ?_ ?_
   rotate_left
   ·intro w'
    go_simp
    with_reducible rfl
   rotate_left
   ·simp only [Act.put,List.setIfInBounds_toArray,List.set_cons_zero,List.set_cons_succ,i64_w,i32_w]
    rfl
   refine pure_ (i := 3) (N := (some 24)) (v := ?_) (a' := ?_) #[true,true,true,true,false,false,false,false,false,false,false,false,false,false,false,false,false,false,false] rfl rfl (any_of HT_.out (by kernel_rfl)) (fun _ _ _ h => h) (Or.inl ⟨by rfl,?_⟩) ?_ ?_
   rotate_left
   ·intro w'
    go_simp
    with_reducible rfl
   rotate_left
   ·simp only [Act.put,List.setIfInBounds_toArray,List.set_cons_zero,List.set_cons_succ,i64_w,i32_w]
    rfl
   refine take_ (i := 4) (N := (some 25)) (v := ?_) (a' := ?_) #[true,true,true,true,true,false,false,false,false,false,false,false,false,false,false,false,false,false,false] rfl rfl (take_ofW HT_.out HW_.out (by kernel_rfl)) (fun _ _ _ h => h) (Or.inl ⟨by rfl,?_⟩) hHeld ?_ ?_
   rotate_left
   ·rintro w' ⟨s1,s2,s3,s4⟩
    go_simp
    with_reducible rfl
   rotate_left
   ·simp only [Act.put,List.setIfInBounds_toArray,List.set_cons_zero,List.set_cons_succ,i64_w,i32_w]
    rfl
   refine pure_ (i := 5) (N := (some 26)) (v := ?_) (a' := ?_) #[true,true,true,true,true,true,false,false,false,false,false,false,false,false,false,false,false,false,false] rfl rfl (any_of HT_.out (by kernel_rfl)) (fun _ _ _ h => h) (Or.inl ⟨by rfl,?_⟩) ?_ ?_
   rotate_left
   ·intro w'
    go_simp
    with_reducible rfl
   rotate_left
   ·simp only [Act.put,List.setIfInBounds_toArray,List.set_cons_zero,List.set_cons_succ,i64_w,i32_w]
    rfl
   refine pure_ (i := 6) (N := (some 27)) (v := ?_) (a' := ?_) #[true,true,true,true,true,true,true,false,false,false,false,false,false,false,false,false,false,false,false] rfl rfl (any_of HT_.out (by kernel_rfl)) (fun _ _ _ h => h) (Or.inl ⟨by rfl,?_⟩) ?_ ?_
   rotate_left
   ·intro w'
    go_simp
    with_reducible rfl
   rotate_left
   ·simp only [Act.put,List.setIfInBounds_toArray,List.set_cons_zero,List.set_cons_succ,i64_w,i32_w]
    rfl
   refine pure_ (i := 7) (N := (some 28)) (v := ?_) (a' := ?_) #[true,true,true,true,true,true,true,true,false,false,false,false,false,false,false,false,false,false,false] rfl rfl (any_of HT_.out (by kernel_rfl)) (fun _ _ _ h => h) (Or.inl ⟨by rfl,?_⟩) ?_ ?_
   rotate_left
   ·intro w'
    go_simp
    with_reducible rfl
   rotate_left
   ·simp only [Act.put,List.setIfInBounds_toArray,List.set_cons_zero,List.set_cons_succ,i64_w,i32_w]
    rfl
   refine pure_ (i := 8) (N := (some 29)) (v := ?_) (a' := ?_) #[true,true,true,true,true,true,true,true,true,false,false,false,false,false,false,false,false,false,false] rfl rfl (any_of HT_.out (by kernel_rfl)) (fun _ _ _ h => h) (Or.inl ⟨by rfl,?_⟩) ?_ ?_
   rotate_left
   ·intro w'
    go_simp
    with_reducible rfl
   rotate_left
   ·simp only [Act.put,List.setIfInBounds_toArray,List.set_cons_zero,List.set_cons_succ,i64_w,i32_w]
    rfl
   refine pure_ (i := 9) (N := (some 30)) (v := ?_) (a' := ?_) #[true,true,true,true,true,true,true,true,true,true,false,false,false,false,false,false,false,false,false] rfl rfl (any_of HT_.out (by kernel_rfl)) (fun _ _ _ h => h) (Or.inl ⟨by rfl,?_⟩) ?_ ?_
   rotate_left
   ·intro w'
    go_simp
    with_reducible rfl
   rotate_left
   ·simp only [Act.put,List.setIfInBounds_toArray,List.set_cons_zero,List.set_cons_succ,i64_w,i32_w]
    rfl
   refine take_ (i := 10) (N := (some 31)) (v := ?_) (a' := ?_) #[true,true,true,true,true,true,true,true,true,true,true,false,false,false,false,false,false,false,false] rfl rfl (take_ofW HT_.out HW_.out (by kernel_rfl)) (fun _ _ _ h => h) (Or.inl ⟨by rfl,?_⟩) hHeld ?_ ?_
   rotate_left
   ·rintro w' ⟨s1,s2,s3,s4⟩
    go_simp
    with_reducible rfl
   rotate_left
   ·simp only [Act.put,List.setIfInBounds_toArray,List.set_cons_zero,List.set_cons_succ,i64_w,i32_w]
    rfl
   refine pure_ (i := 11) (N := (some 32)) (v := ?_) (a' := ?_) #[true,true,true,true,true,true,true,true,true,true,true,true,false,false,false,false,false,false,false] rfl rfl (any_of HT_.out (by kernel_rfl)) (fun _ _ _ h => h) (Or.inl ⟨by rfl,?_⟩) ?_ ?_
   rotate_left
   ·intro w'
    go_simp
    with_reducible rfl
   rotate_left
   ·simp only [Act.put,List.setIfInBounds_toArray,List.set_cons_zero,List.set_cons_succ,i64_w,i32_w]
    rfl
   refine pure_ (i := 12) (N := (some 33)) (v := ?_) (a' := ?_) #[true,true,true,true,true,true,true,true,true,true,true,true,true,false,false,false,false,false,false] rfl rfl (any_of HT_.out (by kernel_rfl)) (fun _ _ _ h => h) (Or.inl ⟨by rfl,?_⟩) ?_ ?_
   rotate_left
   ·intro w'
    go_simp
    with_reducible rfl
   rotate_left
   ·simp only [Act.put,List.setIfInBounds_toArray,List.set_cons_zero,List.set_cons_succ,i64_w,i32_w]
    rfl
   refine pure_ (i := 13) (N := (some 34)) (v := ?_) (a' := ?_) #[true,true,true,true,true,true,true,true,true,true,true,true,true,true,false,false,false,false,false] rfl rfl (any_of HT_.out (by kernel_rfl)) (fun _ _ _ h => h) (Or.inl ⟨by rfl,?_⟩) ?_ ?_
   rotate_left
   ·intro w'
    go_simp
    with_reducible rfl
   rotate_left
   ·simp only [Act.put,List.setIfInBounds_toArray,List.set_cons_zero,List.set_cons_succ,i64_w,i32_w]
    rfl
   refine pure_ (i := 14) (N := (some 35)) (v := ?_) (a' := ?_) #[true,true,true,true,true,true,true,true,true,true,true,true,true,true,true,false,false,false,false] rfl rfl (any_of HT_.out (by kernel_rfl)) (fun _ _ _ h => h) (Or.inl ⟨by rfl,?_⟩) ?_ ?_
   rotate_left
   ·intro w'
    go_simp
    with_reducible rfl
   rotate_left
   ·simp only [Act.put,List.setIfInBounds_toArray,List.set_cons_zero,List.set_cons_succ,i64_w,i32_w]
    rfl
   refine take_ (i := 15) (N := (some 36)) (v := ?_) (a' := ?_) #[true,true,true,true,true,true,true,true,true,true,true,true,true,true,true,true,false,false,false] rfl rfl (take_ofW HT_.out HW_.out (by kernel_rfl)) (fun _ _ _ h => h) (Or.inl ⟨by rfl,?_⟩) hHeld ?_ ?_
   rotate_left
   ·rintro w' ⟨s1,s2,s3,s4⟩
    go_simp
    with_reducible rfl
   rotate_left
   ·simp only [Act.put,List.setIfInBounds_toArray,List.set_cons_zero,List.set_cons_succ,i64_w,i32_w]
    rfl
   refine pure_ (i := 16) (N := (some 37)) (v := ?_) (a' := ?_) #[true,true,true,true,true,true,true,true,true,true,true,true,true,true,true,true,true,false,false] rfl rfl (any_of HT_.out (by kernel_rfl)) (fun _ _ _ h => h) (Or.inl ⟨by rfl,?_⟩) ?_ ?_
   rotate_left
   ·intro w'
    go_simp
    with_reducible rfl
   rotate_left
   ·simp only [Act.put,List.setIfInBounds_toArray,List.set_cons_zero,List.set_cons_succ,i64_w,i32_w]
    rfl
   refine one_ (i := 17) (N := (some 38)) #[true,true,true,true,true,true,true,true,true,true,true,true,true,true,true,true,true,true,false] rfl rfl (one_of HT_.out (by kernel_rfl)) (by decide) (fun K hK => ?_)
   refine goes_ Tryd.func66 (by kernel_rfl) rfl #[.string (s.extract x0.toNat x1.toNat)] (by rfl) rfl rfl au37 ?_
   refine (bodkinref03_Drawn.calls kd_ _ _ _ hd).mono ?_
   rintro e w4 ⟨rfl,hb4⟩
   have hB4 := hBr1.trans (hb4.mono (Nat.le_trans hb hKr1.1))
   have hK4 := hKr1.below hb4
   have hG4 := hGr1.below hb4
   have hR4 := Kd.R_below hRr1 hb4
   have hO4 := Kd.R_below hOr1 hb4
   have hS4 := sees4 hHeld hb4
   clear hBr1 hKr1 hGr1 hRr1 hOr1 hHeld hb4 b0 b1 b2 b3
   refine ⟨_,rfl,?_⟩
   refine hK.out _ _ hS4 (fun hHeld => ?_)
   clear hK K
   refine norm_ (a' := ?_) ?_ ?_
   rotate_left
   ·show Act.put _ (some 38) _ = _
    simp only [Act.put,List.setIfInBounds_toArray,List.set_cons_zero,List.set_cons_succ,i64_w,i32_w]
    rfl
   refine one_ (i := 18) (N := (some 39)) #[true,true,true,true,true,true,true,true,true,true,true,true,true,true,true,true,true,true,true] rfl rfl (one_of HT_.out (by kernel_rfl)) (by decide) (fun K hK => ?_)
   obtain ⟨ku,us,hu'⟩ : ∃ ku us,x3 = 0 ∨ (bodkinref01_Units.f ku (drawnS (s.extract x0.toNat x1.toNat)) = some us ∧ 0 < us.length ∧ (rd_T87 us 0).f1 = ((Lib.decodeGo (drawnS (s.extract x0.toNat x1.toNat))).2 : Int)) := by
    rcases hu with hu | ⟨ku,us,hu⟩
    ·exact ⟨0,[],.inl hu⟩
    ·exact ⟨ku,us,.inr hu⟩
   have hpT := noT_pen hG4 (by decide)
   refine goes_ Tryd.func65 (by kernel_rfl) rfl #[.pointer (some ⟨p,0,none⟩),.agg #[.int .i64 x0,.int .i64 x1,.int .i64 x2,.int .i64 x3],.string (drawnS (s.extract x0.toNat x1.toNat))] (by rfl) rfl rfl au37 ?_
   refine (pn_lay hG4.boundT (fun k hk => ⟨hf k (Nat.le_trans hK4.1 hk),fun cs t _ hc => by have := blk_lt hc;omega⟩) (Nat.le_trans hb hK4.1) hFt hL2 ⟨x0,x1,x2,x3⟩ (drawnS (s.extract x0.toNat x1.toNat)) ku us _ hu' (decodeGo_le _)).mono ?_
   rintro e w5 ⟨rfl,hG5,hBa,hKa⟩
   have hR5 := row_typ hR4 onlyCu hKa (fun k cs hc => hpT k cs _ (.inl rfl) hc)
   have hO5 := row_typ hO4 onlyPl hKa (fun k cs hc => hpT k cs _ (.inr rfl) hc)
   have hG5' := hG5.mono (ok' := ok) (fun k hk => hk.1) h.ne
   have hB5 := hB4.trans hBa
   have hK5 := hK4.then_ hKa (fun k hk => .inl (hk.imp And.left id))
   have hS5 : w5.cell? (ad.add (i * 4)) = some (.int .i64 x0) ∧ w5.cell? ⟨(ad.add (i * 4)).block,(ad.add (i * 4)).off + 1,none⟩ = some (.int .i64 x1) ∧ w5.cell? ⟨(ad.add (i * 4)).block,(ad.add (i * 4)).off + 2,none⟩ = some (.int .i64 x2) ∧ w5.cell? ⟨(ad.add (i * 4)).block,(ad.add (i * 4)).off + 3,none⟩ = some (.int .i64 x3) := by
    obtain ⟨ad',he,c0,c1,c2,c3⟩ := at_T60 (Kd.R_reads' hR5).2.2 (i : Int) (Int.natCast_nonneg _) hlt'
    cases he
    rw [hrd.out,Int.toNat_natCast] at c0 c1 c2 c3
    exact ⟨c0,c1,c2,c3⟩
   dsimp only at hG5'
   obtain ⟨sti',hsti'⟩ : ∃ z,sti.lay wd x2 x3 (drawnS (s.extract x0.toNat x1.toNat)) (Lib.decodeGo (drawnS (s.extract x0.toNat x1.toNat))).2 = z := ⟨_,rfl⟩
   rw [hsti'] at hG5'
   have hst2 : Hid (layL wd s st (cs.take (i + 1)) = sti') := Lib.hid (by rw [hst.out,← hsti'];rfl)
   have hpst2 : Hid (st.pl :: plsL wd s st (cs.take (i + 1)) = P ++ [sti'.pl]) := Lib.hid (by rw [hpst.out,← hsti'];rfl)
   clear hG5 hKa hBa hR4 hO4 hG4 hB4 hK4 hS4 hHeld hst hpst hsti' hpT
   refine ⟨_,rfl,?_⟩
   refine hK.out _ _ hS5 (fun hHeld => ?_)
   clear hK K
   refine norm_ (a' := ?_) ?_ ?_
   rotate_left
   ·show Act.put _ (some 39) _ = _
    simp only [Act.put,List.setIfInBounds_toArray,List.set_cons_zero,List.set_cons_succ,i64_w,i32_w]
    rfl
   refine done_ (done_of HT_.out (by kernel_rfl)) ?_
   clear HT_ HW_ hS5 hHeld
   have d2 := hG5'.row
   have d3 := hG5'.col
   have dl := hG5'.lt
   go_wp2_with ((with_reducible refine gate_builtin (b := .append) (xs := #[.tmp 40,.tmp 45]) rfl ?_);at_builtin;(refine Kd.R_append kPl (w0 := w5) W.heap.size rfl (.tmp 40) (.tmp 45) 43 27 (.agg #[.int .i64 0,.int .i64 0]) 16 rfl Tryd.underlying43 info27 rfl (by decide) (by decide) (.slice Ap P.length cp) P sti'.pl [.int .i64 (sti'.1.length : Int),.int .i64 (sti'.2.length : Int)] (fun _ => True) (fun _ => False) rfl rfl (k27_mkM _ _ _ sti'.pl) (fun _ hk => hk.elim) (fun _ _ => trivial) hO5 (Below.refl _ _) hK5.1 (by omega) ?_;intro v6 w6 hO6 hB6 hg6 hat6;have hty : ∀ k,(Value.slice Ap P.length cp).ownBlock = some k → ∃ cells,w5.heap[k]? = some (.cells cells 27 (0,0)) := (fun k hk => Kd.R_typed hO5 k hk)))
   have hR6 := Kd.R_over hR5 hO5 (fun q hq => by rw [onlyCu q hq];decide) hg6
   have hG6 : LyAt 55 base p ok w6 wd sti' := by
    obtain ⟨⟨rv,h1,h2⟩,h3,h4⟩ := hG5'
    refine ⟨⟨rv,(hg6.block _ (blk_lt h1) (fun he => ?_)).trans h1,Kd.S_over' h2 hty (by decide) hg6⟩,h3,h4⟩
    obtain ⟨cells,hc⟩ := hty p he.symm
    rw [h1] at hc
    cases hc
   have hB7 := hB5.trans (hB6.mono hb)
   have hK7 := Kept.of_grown hg6 hK5 (fun k hk => .inr (Kd.R_base hO5 k hk))
   have hwi := wrap_succ (m := i) (by omega)
   go_wp2
   go_roundw
   case rel => exact ⟨i + 1,by first | rfl | go_num,hlen1,hR6,by rw [hpst2.out];exact hO6,by rw [hst2.out];exact hG6,hB7,hK7⟩
   case measure => exact meas_lt hlt
  ·have hge : ¬ ((i : Int) < (cs.length : Int)) := by omega
   have hii : i = cs.length := by omega
   subst hii
   rw [List.take_length] at hOr hGr
   go_wp2
   go_ret
   exact ⟨_,rfl,hOr,hGr,hBr,hKr⟩
end Go.Proofs.YtnpjaaldppemlaaDoor.U
end
section
namespace Go.Proofs.YtnpjaaldppemlaaDoor.Pu
open Go Go.RowKit Go.Proofs.YtnpjaaldppemlaaDoor.Mu Go.Proofs.YtnpjaaldppemlaaDoor.U Go.Proofs.YtnpjaaldppemlaaDoorW.PrintWords Go.Proofs.YtnpjaaldppemlaaDoorW.PrintLast Go.Proofs.YtnpjaaldppemlaaDoorW.PrintMore
set_option linter.unusedVariables false
theorem right_uC (a b : ByteArray) (y : Nat) : uC (a ++ b) (a.size + y) = uC b y := by unfold uC;rw [right_dec]
theorem right_bd (a b : ByteArray) (z : Nat) (h : Bd (a ++ b) (a.size + z)) : Bd b z := by
 have hs := size_two a b
 refine ⟨by have := h.1;omega,fun j hj => ?_⟩
 have := h.2 (a.size + j) (by omega)
 rw [right_uN] at this
 omega
theorem bd_left (a b : ByteArray) (i : Nat) (h : Bd (a ++ b) i) (hi : i ≤ a.size) : Bd a i := by
 have hs := size_two a b
 refine ⟨hi,fun j hj => ?_⟩
 by_cases h2 : 2 ≤ uN a j
 ·have hle := uN_le a j (by omega)
  have e := dec_prefix a (a ++ b) j j h2 (fun k hk => byt_append_left a b (j + k) (by omega)) (by omega)
  have : uN (a ++ b) j = uN a j := by unfold uN;rw [e]
  have := h.2 j hj
  omega
 ·have := uN_pos a j;omega
theorem right_nxt (a b : ByteArray) : ∀ n y : Nat,b.size - y ≤ n → y < b.size → nxt (a ++ b) (a.size + y) = a.size + nxt b y := by
 have hs := size_two a b
 intro n
 induction n with
 | zero => intro y hn hy;omega
 | succ n ih =>
  intro y hn hy
  have hp := uN_pos b y
  rw [nxt_eq (a ++ b) (a.size + y) (by omega),nxt_eq b y hy,right_uN,Nat.add_assoc,right_uC,right_uC]
  by_cases h : y + uN b y < b.size ∧ glueB (uC b y) (uC b (y + uN b y)) = true
  ·rw [if_pos ⟨by omega,h.2⟩,if_pos h];exact ih _ (by omega) h.1
  ·rw [if_neg (fun h' => h ⟨by omega,h'.2⟩),if_neg h]
def shiftC (d : Int) (c : S60) : S60 := ⟨d + c.f0,d + c.f1,c.f2,c.f3⟩
theorem right_clAt (a b : ByteArray) (y : Nat) (hy : y < b.size) : clAt (a ++ b) (a.size + y) = shiftC a.size (clAt b y) := by
 have hs := size_two a b
 have hq : crlf (a ++ b) (a.size + y) ↔ crlf b y := by
  unfold crlf;rw [right_uN,right_uC,Nat.add_assoc,right_uC]
  constructor
  ·rintro ⟨h1,h2,h3⟩;exact ⟨h1,by omega,h3⟩
  ·rintro ⟨h1,h2,h3⟩;exact ⟨h1,by omega,h3⟩
 unfold clAt shiftC clsAt celAt
 rw [right_nxt a b _ y (Nat.le_refl _) hy,right_uC]
 simp only [hq,Int.natCast_add]
section
variable (a b : ByteArray) (hC : CB (a ++ b) a.size)
theorem left_nxt (hC : CB (a ++ b) a.size) : ∀ n i : Nat,a.size - i ≤ n → i < a.size → Bd (a ++ b) i → nxt a i = nxt (a ++ b) i := by
 have hs := size_two a b
 intro n
 induction n with
 | zero => intro i hn hi _;omega
 | succ n ih =>
  intro i hn hi hb
  have hu := hC.1.2 i hi
  obtain ⟨h1,h2⟩ := left_unit a b i hi hu
  have hp := uN_pos a i
  rw [← h2] at hu
  have hbn := bd_next (a ++ b) i hb (by omega)
  rw [← h2] at hbn
  rw [nxt_eq a i hi,nxt_eq (a ++ b) i (by omega),← h2,← h1]
  by_cases hy : i + uN a i < a.size
  ·have h3 := left_unit a b (i + uN a i) hy (hC.1.2 _ hy)
   rw [← h3.1]
   by_cases hg : glueB (uC a i) (uC a (i + uN a i)) = true
   ·rw [if_pos ⟨hy,hg⟩,if_pos ⟨by omega,hg⟩];exact ih _ (by omega) hy hbn
   ·rw [if_neg (fun h => hg h.2),if_neg (fun h => hg h.2)]
  ·have hya : i + uN a i = a.size := by omega
   rw [if_neg (fun h => hy h.1),if_neg]
   rintro ⟨h4,h5⟩
   rw [hya] at h4 h5
   rw [h1,(cb_iff (a ++ b) a.size i hb (by omega) h4).1 hC] at h5
   cases h5
theorem left_clAt (hC : CB (a ++ b) a.size) (i : Nat) (hi : i < a.size) (hb : Bd (a ++ b) i) : clAt (a ++ b) i = clAt a i := by
 have hs := size_two a b
 have hu := hC.1.2 i hi
 obtain ⟨h1,h2⟩ := left_unit a b i hi hu
 have hq : crlf (a ++ b) i ↔ crlf a i := by
  unfold crlf
  rw [← h1,← h2]
  rw [← h2] at hu
  constructor
  ·rintro ⟨h3,h4,h5⟩
   by_cases hy : i + uN a i < a.size
   ·exact ⟨h3,hy,by rw [(left_unit a b _ hy (hC.1.2 _ hy)).1];exact h5⟩
   ·exfalso
    have hya : i + uN a i = a.size := by omega
    rw [hya] at h4 h5
    have := (cb_iff (a ++ b) a.size i hb (by omega) h4).1 hC
    rw [← h1,h3,h5] at this
    have h6 := (glue_nl 13).2 rfl
    rw [h6] at this;cases this
  ·rintro ⟨h3,h4,h5⟩
   exact ⟨h3,by omega,by rw [← (left_unit a b _ h4 (hC.1.2 _ h4)).1];exact h5⟩
 unfold clAt clsAt celAt
 rw [left_nxt a b hC _ i (Nat.le_refl _) hi hb,h1]
 simp only [hq]
end
theorem data_app (a b : ByteArray) : (a ++ b).data.toList = a.data.toList ++ b.data.toList := by simp
theorem left_extract (a b : ByteArray) (i t : Nat) (h : t ≤ a.size) : (a ++ b).extract i t = a.extract i t := by
 apply ByteArray.ext
 apply Array.toList_inj.1
 rw [Lib.extract_data,Lib.extract_data,data_app]
 have hl : a.data.toList.length = a.size := by rw [← Lib.size_eq]
 by_cases hi : i ≤ a.size
 ·rw [List.drop_append_of_le_length (by omega),List.take_append_of_le_length (by rw [List.length_drop];omega)]
 ·rw [show t - i = 0 by omega,List.take_zero,List.take_zero]
theorem right_extract (a b : ByteArray) (i t : Nat) : (a ++ b).extract (a.size + i) (a.size + t) = b.extract i t := by
 apply ByteArray.ext
 apply Array.toList_inj.1
 rw [Lib.extract_data,Lib.extract_data,data_app]
 have hl : a.data.toList.length = a.size := by rw [← Lib.size_eq]
 rw [List.drop_append,List.drop_eq_nil_of_le (by omega),List.nil_append,hl,show a.size + i - a.size = i by omega,show a.size + t - (a.size + i) = t - i by omega]
theorem cb_right (a b : ByteArray) (z : Nat) (h : CB (a ++ b) (a.size + z)) (hz : 0 < z) (hno : ∀ p,p < a.size → p + uN (a ++ b) p ≠ a.size + z) : CB b z := by
 have hs := size_two a b
 have hb := right_bd a b z h.1
 by_cases he : z < b.size
 ·obtain ⟨p,hp,hpe⟩ := bd_prev (a ++ b) (a.size + z) h.1 (by omega)
  have hge : a.size ≤ p := by
   rcases Nat.lt_or_ge p a.size with h1 | h1
   ·exact absurd hpe (hno p h1)
   ·exact h1
  obtain ⟨q,rfl⟩ : ∃ q,p = a.size + q := ⟨p - a.size,by omega⟩
  have hq := right_bd a b q hp
  have hg := (cb_iff (a ++ b) (a.size + z) (a.size + q) hp hpe (by omega)).1 h
  rw [right_uN] at hpe
  rw [cb_iff b z q hq (by omega) he]
  rw [right_uC,right_uC] at hg
  exact hg
 ·have := hb.1
  obtain rfl : z = b.size := by omega
  exact cb_size b
end Go.Proofs.YtnpjaaldppemlaaDoor.Pu
end
section
namespace Go.Proofs.YtnpjaaldppemlaaDoor.Pu
open Go Go.RowKit Go.Proofs.YtnpjaaldppemlaaDoor.Mu Go.Proofs.YtnpjaaldppemlaaDoor.U Go.Proofs.YtnpjaaldppemlaaDoorW.PrintWords Go.Proofs.YtnpjaaldppemlaaDoorW.PrintLast Go.Proofs.YtnpjaaldppemlaaDoorW.PrintMore
set_option linter.unusedVariables false
theorem draw_left (a b : ByteArray) (i : Nat) (hb : Bd a i) (hi : i < a.size) : drawB (a ++ b) (clAt a i) = drawB a (clAt a i) := by
 have e0 : (clAt a i).f0.toNat = i := Int.toNat_natCast i
 have e1 : (clAt a i).f1.toNat = nxt a i := Int.toNat_natCast _
 unfold drawB
 rw [e0,e1,left_extract a b i _ (nxt_le a i hb hi),byt_append_left a b i hi]
theorem draw_right (a b : ByteArray) (i : Nat) : drawB (a ++ b) (shiftC a.size (clAt b i)) = drawB b (clAt b i) := by
 have e0 : (clAt b i).f0.toNat = i := Int.toNat_natCast i
 have e1 : (clAt b i).f1.toNat = nxt b i := Int.toNat_natCast _
 have f0 : (shiftC a.size (clAt b i)).f0.toNat = a.size + i := by show ((a.size : Int) + (i : Int)).toNat = _;omega
 have f1 : (shiftC a.size (clAt b i)).f1.toNat = a.size + nxt b i := by show ((a.size : Int) + (nxt b i : Int)).toNat = _;omega
 unfold drawB
 rw [e0,e1,f0,f1,right_extract,byt_append_right]
 rfl
theorem drawU_cons (s : ByteArray) (c : S60) (cs : List S60) : drawU s (c :: cs) = (drawB s c).data.toList ++ drawU s cs := by unfold drawU;rw [List.flatMap_cons]
theorem drawU_nil (s : ByteArray) : drawU s [] = [] := by unfold drawU;rw [List.flatMap_nil]
end Go.Proofs.YtnpjaaldppemlaaDoor.Pu
end
section
namespace Go.Proofs.YtnpjaaldppemlaaDoor.Pu
open Go Go.RowKit Go.Proofs.YtnpjaaldppemlaaDoor.Mu Go.Proofs.YtnpjaaldppemlaaDoor.U Go.Proofs.YtnpjaaldppemlaaDoorW.PrintWords Go.Proofs.YtnpjaaldppemlaaDoorW.PrintLast Go.Proofs.YtnpjaaldppemlaaDoorW.PrintMore
set_option linter.unusedVariables false
theorem unit_eq (s t : ByteArray) (i j : Nat) (h1 : ∀ k,k < uN s i → byt t (j + k) = byt s (i + k)) (h2 : j + uN s i ≤ t.size) (h3 : ∀ k,k < uN t j → byt s (i + k) = byt t (j + k)) (h4 : i + uN t j ≤ s.size) : uC t j = uC s i ∧ uN t j = uN s i := by
 by_cases hs : 2 ≤ uN s i
 ·have e := dec_prefix s t i j hs h1 h2
  unfold uC uN;rw [e];exact ⟨rfl,rfl⟩
 ·by_cases ht : 2 ≤ uN t j
  ·have e := dec_prefix t s j i ht h3 h4
   unfold uC uN;rw [e];exact ⟨rfl,rfl⟩
  ·have e0 := h1 0 (by have := uN_pos s i;omega)
   rw [Nat.add_zero,Nat.add_zero] at e0
   have h5 := bad_or s i
   have h6 := bad_or t j
   rw [e0] at h6
   have := uN_pos s i;have := uN_pos t j
   generalize uN s i = p at *
   generalize uC s i = q at *
   generalize uN t j = p' at *
   generalize uC t j = q' at *
   omega
end Go.Proofs.YtnpjaaldppemlaaDoor.Pu
end
section
namespace Go.Proofs.YtnpjaaldppemlaaDoor.Pu
open Go Go.RowKit Go.Proofs.YtnpjaaldppemlaaDoor.Mu Go.Proofs.YtnpjaaldppemlaaDoor.U Go.Proofs.YtnpjaaldppemlaaDoorW.PrintWords Go.Proofs.YtnpjaaldppemlaaDoorW.PrintLast Go.Proofs.YtnpjaaldppemlaaDoorW.PrintMore
set_option linter.unusedVariables false
/-- A text without bad units. -/
def Valid (a : ByteArray) : Prop := ∀ j,Bd a j → j < a.size → 0 ≤ uC a j
theorem valid_nil : Valid ⟨#[]⟩ := fun j _ h => absurd h (Nat.not_lt_zero _)
/-- Behind a text without bad units,a seam is a boundary. -/
theorem valid_bd (a b : ByteArray) (h : Valid a) : Bd (a ++ b) a.size := by
 have hs := size_two a b
 refine ⟨by omega,fun j hj => ?_⟩
 by_cases hx : a.size < j + uN (a ++ b) j
 ·exfalso
  have h1 := left_over a b j hj hx
  have hbl := bd_long (a ++ b) j (by omega) (by omega)
  have h2 := h j (bd_left a b j hbl (by omega)) hj
  have h4 := bad_or a j
  have h5 := bad_or (a ++ b) j
  rw [byt_append_left a b j hj] at h5
  omega
 ·omega
theorem valid_two (a b : ByteArray) (ha : Valid a) (hb : Valid b) : Valid (a ++ b) := by
 have hs := size_two a b
 have hv := valid_bd a b ha
 intro j hj hlt
 by_cases hja : j < a.size
 ·have h3 := left_unit a b j hja (hv.2 j hja)
  rw [← h3.1]
  exact ha j (bd_left a b j hj (by omega)) hja
 ·obtain ⟨q,rfl⟩ : ∃ q,j = a.size + q := ⟨j - a.size,by omega⟩
  rw [right_uC]
  exact hb q (right_bd a b q hj) (by omega)
structure OneC (p : ByteArray) (k : Int) : Prop where
 valid : Valid p
 pos : 0 < p.size
 first : cls (uC p 0) = 0 ∨ cls (uC p 0) = 4
 inner : ∀ j,Bd p j → 0 < j → j < p.size → cls (uC p j) = 3
 cel : celB (uC p 0) = k
def Seam (b : ByteArray) : Prop := 0 < b.size → uC b 0 ≠ 10 ∧ cls (uC b 0) ≠ 3
theorem OneC.seam {p : ByteArray} {k : Int} (h : OneC p k) : Seam p := fun _ => by
 refine ⟨fun e => ?_,?_⟩
 ·have := h.first;rw [e,cls_nl] at this;omega
 ·have := h.first;omega
theorem cls_plain (c : Int) (h : 32 ≤ c) (h2 : c < 127) : cls c = 0 := by
 have hl := cls_low c (by omega)
 unfold cls
 rw [if_neg (by omega),if_neg (by omega),if_neg (by omega),hl.1,hl.2,if_neg (by simp),if_neg (by simp)]
theorem cel_plain (c : Int) (h : cls c = 0) : celB c = 1 := by unfold celB;rw [h,if_neg (by omega),if_neg (by omega)]
theorem byt_one (b : UInt8) : byt ⟨#[b]⟩ 0 = b.toNat := rfl
theorem one_ascii (b : UInt8) (h : 32 ≤ b.toNat) (h2 : b.toNat < 127) : OneC ⟨#[b]⟩ 1 := by
 have hu : uC ⟨#[b]⟩ 0 = (b.toNat : Int) := (uC_low ⟨#[b]⟩ 0 b.toNat (by omega)).2 (byt_one b)
 have hc : cls (uC ⟨#[b]⟩ 0) = 0 := by rw [hu];exact cls_plain _ (by omega) (by omega)
 have hz : (⟨#[b]⟩ : ByteArray).size = 1 := rfl
 refine ⟨fun j _ hj => ?_,by omega,.inl hc,fun j _ h0 hj => by omega,cel_plain _ hc⟩
 obtain rfl : j = 0 := by omega
 rw [hu];omega
theorem fffd_unit : uC ⟨#[239,191,189]⟩ 0 = 65533 ∧ uN ⟨#[239,191,189]⟩ 0 = 3 := ⟨by kernel_rfl,by kernel_rfl⟩
theorem fffd_cls : cls 65533 = 0 := by kernel_rfl
theorem fffd_valid : Valid ⟨#[239,191,189]⟩ := fun j hb hj => by
 have hz : (⟨#[239,191,189]⟩ : ByteArray).size = 3 := rfl
 rcases Nat.eq_zero_or_pos j with h | h
 ·rw [h,fffd_unit.1];omega
 ·exfalso;exact not_bd_inner ⟨#[239,191,189]⟩ 0 j h (by rw [fffd_unit.2];omega) hb
theorem one_fffd (rest : ByteArray) (hv : Valid rest) (hm : ∀ j,Bd rest j → j < rest.size → cls (uC rest j) = 3) : OneC (⟨#[239,191,189]⟩ ++ rest) 1 := by
 have hz : (⟨#[239,191,189]⟩ : ByteArray).size = 3 := rfl
 have hs := size_two ⟨#[239,191,189]⟩ rest
 have hvb := valid_bd ⟨#[239,191,189]⟩ rest fffd_valid
 have hl := left_unit ⟨#[239,191,189]⟩ rest 0 (by omega) (hvb.2 0 (by omega))
 rw [fffd_unit.1,fffd_unit.2] at hl
 have hc : cls (uC (⟨#[239,191,189]⟩ ++ rest) 0) = 0 := by rw [← hl.1];exact fffd_cls
 refine ⟨valid_two _ _ fffd_valid hv,by omega,.inl hc,fun j hb h0 hj => ?_,cel_plain _ hc⟩
 by_cases h3 : j < 3
 ·exfalso;exact not_bd_inner _ 0 j h0 (by rw [← hl.2];omega) hb
 ·obtain ⟨q,rfl⟩ : ∃ q,j = (⟨#[239,191,189]⟩ : ByteArray).size + q := ⟨j - 3,by omega⟩
  rw [right_uC]
  exact hm q (right_bd _ _ q hb) (by omega)
theorem one_space (m : ByteArray) (hv : Valid m) (hm : ∀ j,Bd m j → j < m.size → cls (uC m j) = 3) : OneC (⟨#[32]⟩ ++ m) 1 := by
 have hz : (⟨#[32]⟩ : ByteArray).size = 1 := rfl
 have ho := one_ascii 32 (by decide) (by decide)
 have hs := size_two ⟨#[32]⟩ m
 have hvb := valid_bd ⟨#[32]⟩ m ho.valid
 have hl := left_unit ⟨#[32]⟩ m 0 (by omega) (hvb.2 0 (by omega))
 have hf : cls (uC (⟨#[32]⟩ ++ m) 0) = 0 := by
  rw [← hl.1]
  have hu : uC ⟨#[32]⟩ 0 = (32 : Int) := (uC_low ⟨#[32]⟩ 0 32 (by omega)).2 rfl
  rw [hu];exact cls_plain _ (by omega) (by omega)
 refine ⟨valid_two _ _ ho.valid hv,by omega,.inl hf,fun j hb h0 hj => ?_,cel_plain _ hf⟩
 obtain ⟨q,rfl⟩ : ∃ q,j = (⟨#[32]⟩ : ByteArray).size + q := ⟨j - 1,by omega⟩
 rw [right_uC]
 exact hm q (right_bd _ _ q hb) (by omega)
section
variable (s : ByteArray) (i t : Nat) (hi : Bd s i) (ht : Bd s t) (hit : i ≤ t)
theorem mid_unit (ht : Bd s t) (j : Nat) (h1 : i ≤ j) (h2 : j < t) : uC (s.extract i t) (j - i) = uC s j ∧ uN (s.extract i t) (j - i) = uN s j := by
 have hts := ht.1
 have hsz := size_extract s i t ht.1
 have hle := uN_le (s.extract i t) (j - i) (by omega)
 have hle2 := ht.2 j h2
 refine unit_eq s (s.extract i t) j (j - i) (fun k hk => ?_) (by omega) (fun k hk => ?_) (by omega)
 ·rw [byt_extract _ _ _ _ (by omega) ht.1];congr 1;omega
 ·rw [byt_extract _ _ _ _ (by omega) ht.1];congr 1;omega
theorem mid_bd (hi : Bd s i) (ht : Bd s t) (q : Nat) (hit : i ≤ t) (h : Bd (s.extract i t) q) : Bd s (i + q) ∧ i + q ≤ t := by
 have hts := ht.1
 have hsz := size_extract s i t ht.1
 have hq := h.1
 refine ⟨⟨by omega,fun j hj => ?_⟩,by omega⟩
 by_cases hji : j < i
 ·have := hi.2 j hji;omega
 ·have h2 := h.2 (j - i) (by omega)
  rw [(mid_unit s i t ht j (by omega) (by omega)).2] at h2
  omega
end
/-- Within a cluster,behind its first unit,there are marks alone,but for the newline behind a carriage return. -/
theorem inner_marks (s : ByteArray) (i : Nat) (hc : CB s i) (hi : i < s.size) (hq : ¬ crlf s i) : ∀ n j,j ≤ n → Bd s j → i < j → j < nxt s i → cls (uC s j) = 3 := by
 have hle := nxt_le s i hc.1 hi
 intro n
 induction n with
 | zero => intro j h1 _ h2;omega
 | succ n ih =>
  intro j hj hb h1 h2
  obtain ⟨y,hy,hyj⟩ := bd_prev s j hb (by omega)
  have hp := uN_pos s y
  have hyi : i ≤ y := by
   rcases Nat.lt_or_ge y i with h | h
   ·have := hc.1.2 y h;omega
   ·exact h
  have hn : ¬ CB s j := fun h => by have := nxt_least s i hc.1 hi j h h1;omega
  have hg : glueB (uC s y) (uC s j) = true := by
   cases h : glueB (uC s y) (uC s j) with
   | true => rfl
   | false => exact absurd ((cb_iff s j y hy hyj (by omega)).2 h) hn
  rcases (glue_iff _ _).1 hg with h3 | h3
  ·exfalso
   rcases Nat.lt_or_ge i y with h4 | h4
   ·have := ih y (by omega) hy h4 (by omega)
    rw [h3.1,cls_cr] at this;omega
   ·obtain rfl : y = i := by omega
    exact hq ⟨h3.1,by rw [hyj];omega,by rw [hyj];exact h3.2⟩
  ·exact h3.1
theorem cls_good (c : Int) (h : cls c ≠ 5) : 0 ≤ c := by
 unfold cls at h
 split at h
 ·omega
 ·omega
theorem one_mid (s : ByteArray) (i : Nat) (hc : CB s i) (hi : i < s.size) (hq : ¬ crlf s i) (hf : cls (uC s i) = 0 ∨ cls (uC s i) = 4) : OneC (s.extract i (nxt s i)) (celB (uC s i)) := by
 have h1 := nxt_pos s i hi
 have hn := nxt_cb s i hc.1 hi
 have hle := nxt_le s i hc.1 hi
 have hsz := size_extract s i (nxt s i) hle
 have h0 := (mid_unit s i (nxt s i) hn.1 i (Nat.le_refl _) (by omega)).1
 rw [Nat.sub_self] at h0
 have hin : ∀ j,Bd (s.extract i (nxt s i)) j → 0 < j → j < (s.extract i (nxt s i)).size → cls (uC (s.extract i (nxt s i)) j) = 3 := by
  intro j hb hj0 hj
  obtain ⟨hb2,_⟩ := mid_bd s i (nxt s i) hc.1 hn.1 j (by omega) hb
  have h2 := (mid_unit s i (nxt s i) hn.1 (i + j) (by omega) (by omega)).1
  rw [show i + j - i = j by omega] at h2
  rw [h2]
  exact inner_marks s i hc hi hq (i + j) (i + j) (Nat.le_refl _) hb2 (by omega) (by omega)
 refine ⟨fun j hb hj => ?_,by omega,by rw [h0];exact hf,hin,by rw [h0]⟩
 apply cls_good
 rcases Nat.eq_zero_or_pos j with h | h
 ·rw [h,h0];omega
 ·have := hin j hb h hj;omega
/-- The marks that stand in a cluster from x on. -/
theorem marks_mid (s : ByteArray) (i x : Nat) (hc : CB s i) (hi : i < s.size) (hq : ¬ crlf s i) (hx : Bd s x) (hix : i ≤ x) (hxt : x ≤ nxt s i) (hx0 : x = i → cls (uC s i) = 3) :
  Valid (s.extract x (nxt s i)) ∧ ∀ j,Bd (s.extract x (nxt s i)) j → j < (s.extract x (nxt s i)).size → cls (uC (s.extract x (nxt s i)) j) = 3 := by
 have hn := nxt_cb s i hc.1 hi
 have hle := nxt_le s i hc.1 hi
 have hsz := size_extract s x (nxt s i) hle
 have hm : ∀ j,Bd (s.extract x (nxt s i)) j → j < (s.extract x (nxt s i)).size → cls (uC (s.extract x (nxt s i)) j) = 3 := by
  intro j hb hj
  obtain ⟨hb2,_⟩ := mid_bd s x (nxt s i) hx hn.1 j hxt hb
  have h2 := (mid_unit s x (nxt s i) hn.1 (x + j) (by omega) (by omega)).1
  rw [show x + j - x = j by omega] at h2
  rw [h2]
  by_cases h3 : x + j = i
  ·have : x = i := by omega
   rw [h3];exact hx0 this
  ·exact inner_marks s i hc hi hq (x + j) (x + j) (Nat.le_refl _) hb2 (by omega) (by omega)
 refine ⟨fun j hb hj => cls_good _ (by have := hm j hb hj;omega),hm⟩
theorem encode_caret (k : Nat) (h : k < 32) : ∃ b : UInt8,b.toNat = k + 64 ∧ Utf8.encode ((k : Int) + 64) = ⟨#[b]⟩ := by
 refine ⟨UInt8.ofNat (k + 64),by rw [UInt8.toNat_ofNat'];omega,?_⟩
 have hv : Utf8.valid ((k : Int) + 64) = true := by unfold Utf8.valid;simp;omega
 unfold Utf8.encode
 simp only [hv,if_true]
 have : ((k : Int) + 64).toNat = k + 64 := by omega
 rw [this,if_pos (by omega)]
end Go.Proofs.YtnpjaaldppemlaaDoor.Pu
end
section
namespace Go.Proofs.YtnpjaaldppemlaaDoor.Pu
open Go Go.RowKit Go.Proofs.YtnpjaaldppemlaaDoor.Mu Go.Proofs.YtnpjaaldppemlaaDoor.U Go.Proofs.YtnpjaaldppemlaaDoorW.PrintWords Go.Proofs.YtnpjaaldppemlaaDoorW.PrintLast Go.Proofs.YtnpjaaldppemlaaDoorW.PrintMore
set_option linter.unusedVariables false
theorem joined_j0 (u v x y : Int) (b : Bool) : Ev (fun k => bodkinref03_joined.j0 k b u x v y) (if b = true then true else (decide (cls v = 3) && (!decide (cls u = 1) && !decide (cls u = 2)))) := by
 refine Ev.step (fun k => bodkinref03_joined.j0.eq_2 ..) (ev_val (fun hb => ev_pos hb (Ev.now _)) (fun hb => ev_neg hb ?_))
 refine Ev.bind (ref_class_ans u) (Ev.bind (ref_class_ans v) ?_)
 by_cases h3 : cls v = 3
 ·refine ev_pos h3 ?_
  by_cases h1 : cls u = 1
  ·exact ev_pos h1 (ev_now (by simp [h1]))
  ·exact ev_neg h1 (ev_now (by by_cases h2 : cls u = 2 <;> simp [h1,h2,h3]))
 ·exact ev_neg h3 (ev_now (by simp [h3]))
theorem joined_ans (u v x y : Int) : Ev (fun k => bodkinref03_joined.f k u x v y) (glueB u v) := by
 unfold bodkinref03_joined.f
 by_cases h : u = 13
 ·refine ev_pos h ?_
  have e : glueB u v = (if (v == 10) = true then true else (decide (cls v = 3) && (!decide (cls u = 1) && !decide (cls u = 2)))) := by
   unfold glueB
   by_cases hv : v = 10 <;> simp [h,hv]
  rw [e];exact joined_j0 u v x y (v == 10)
 ·refine ev_neg h ?_
  have e : glueB u v = (if false = true then true else (decide (cls v = 3) && (!decide (cls u = 1) && !decide (cls u = 2)))) := by
   unfold glueB
   simp [h]
  rw [e];exact joined_j0 u v x y false
theorem ref_cells_ans (c : Int) : Ev (fun k => bodkinref02_Cells.f k c) (celB c) := by
 have hC : celB c = if cls c = 1 then 0 else if cls c = 4 ∨ (cls c = 2 ∧ c ≤ 127) then 2 else 1 := rfl
 unfold bodkinref02_Cells.f
 refine Ev.bind (ref_class_ans c) ?_
 by_cases h1 : cls c = 1
 ·exact ev_pos h1 (ev_now (by rw [hC,if_pos h1]))
 ·refine ev_neg h1 ?_
  by_cases h4 : cls c = 4
  ·exact ev_pos h4 (ev_now (by rw [hC,if_neg h1,if_pos (.inl h4)]))
  ·refine ev_neg h4 ?_
   by_cases h2 : cls c = 2
   ·refine ev_pos h2 ?_
    by_cases h5 : c ≤ 127
    ·exact ev_pos h5 (ev_now (by rw [hC,if_neg h1,if_pos (.inr ⟨h2,h5⟩)]))
    ·exact ev_neg h5 (ev_now (by rw [hC,if_neg h1,if_neg (by omega)]))
   ·exact ev_neg h2 (ev_now (by rw [hC,if_neg h1,if_neg (by omega)]))
theorem rd_last (L : List S60) (c : S60) : rd_T60 (L ++ [c]) (L.length : Int) = c := by
 unfold rd_T60;rw [Int.toNat_natCast,List.getD_eq_getElem?_getD];simp
theorem set_last (L : List S60) (c c' : S60) : (L ++ [c]).set L.length c' = L ++ [c'] := by simp
attribute [local irreducible] uC uN unitsL clusL tl ctl nxt cls celB
theorem el_len (L : List S60) (c : S60) (h : L.length ≤ 1099511627776) : wrap64 ((((L ++ [c]).length : Nat) : Int) - 1) = (L.length : Int) := by
 have hl : (((L ++ [c]).length : Nat) : Int) = (L.length : Int) + 1 := by simp
 rw [hl,w64 (by omega) (by omega)];omega
theorem ref_list_loop (s : ByteArray) (hs : s.size ≤ 1099511627776) : ∀ (n x i p : Nat) (L : List S60) (cur : S60),s.size - x ≤ n → Bd s x → (unitsL s).drop i = tl s x → 0 < i → (rd_T87 (unitsL s) ((i - 1 : Nat) : Int)).f0 = uC s p → L.length + 1 ≤ i →
  Ev (fun k => bodkinref03_List.l0 k (L ++ [cur]) (unitsL s) x i) (L ++ passL s n (uC s p) cur x) := by
 have hul := unitsL_length s
 intro n
 induction n with
 | zero =>
  intro x i p L cur hn hb hd hi hp hL
  have hx : s.size ≤ x := by omega
  rw [tl_end s x hx] at hd
  have := drop_nil_le hd
  exact Ev.step (fun k => bodkinref03_List.l0.eq_2 ..) (ev_neg (by omega) (ev_now rfl))
 | succ n ih =>
  intro x i p L cur hn hb hd hi hp hL
  by_cases hx : x < s.size
  ·have h1 := uN_pos s x
   have h4 := uN_le4 s x
   have hnb := bd_next s x hb hx
   rw [tl_go s x hx] at hd
   obtain ⟨hil,hg,hd'⟩ := drop_cons (d := z87) hd
   have eg : rd_T87 (unitsL s) (i : Int) = uAt s x := by unfold rd_T87;rw [Int.toNat_natCast];exact hg
   have ei : Hid (wrap64 ((i : Int) - 1) = ((i - 1 : Nat) : Int)) := Lib.hid (by rw [w64 (by omega) (by omega)];omega)
   have ei2 : Hid (wrap64 ((i : Int) + 1) = ((i + 1 : Nat) : Int)) := Lib.hid (by rw [w64 (by omega) (by omega)];omega)
   have ex : Hid (wrap64 ((x : Int) + (uN s x : Int)) = ((x + uN s x : Nat) : Int)) := Lib.hid (by rw [w64 (by omega) (by omega)];omega)
   have hL2 : L.length ≤ 1099511627776 := by omega
   have el := Lib.hid (el_len L cur hL2)
   have hl : Hid ((((L ++ [cur]).length : Nat) : Int) = (L.length : Int) + 1) := Lib.hid (by simp)
   have hp' : (rd_T87 (unitsL s) (((i + 1) - 1 : Nat) : Int)).f0 = uC s x := by rw [show i + 1 - 1 = i by omega,eg];rfl
   refine Ev.step (fun k => bodkinref03_List.l0.eq_2 ..) (ev_pos (by omega) (ev_pos (by omega) ?_))
   rw [ei.out]
   refine ev_pos (by omega) (ev_pos (by omega) (ev_pos (by omega) ?_))
   rw [hp,eg]
   refine Ev.bind (joined_ans (uC s p) (uC s x) _ _) ?_
   rw [passL,if_pos hx]
   by_cases hgl : glueB (uC s p) (uC s x) = true
   ·rw [if_pos hgl]
    refine Ev.step (fun k => bodkinref03_List.j1.eq_2 ..) (ev_pos hgl ?_)
    rw [el.out,eg]
    refine ev_pos (by omega) (ev_pos (by rw [hl.out];omega) (ev_pos (by omega) (ev_pos (by omega) ?_)))
    rw [Int.toNat_natCast,rd_last,set_last,set_last,ei2.out]
    show Ev (fun k => if uC s x = 10 then bodkinref03_List.l0 k (L ++ [⟨cur.f0,wrap64 ((x : Int) + (uN s x : Int)),1,0⟩]) (unitsL s) (wrap64 ((x : Int) + (uN s x : Int))) ((i + 1 : Nat) : Int) else bodkinref03_List.l0 k (L ++ [⟨cur.f0,wrap64 ((x : Int) + (uN s x : Int)),cur.f2,cur.f3⟩]) (unitsL s) (wrap64 ((x : Int) + (uN s x : Int))) ((i + 1 : Nat) : Int)) _
    rw [ex.out]
    by_cases h10 : uC s x = 10
    ·rw [if_pos h10,if_pos h10]
     exact ev_pos h10 (ih (x + uN s x) (i + 1) x L _ (by omega) hnb hd' (by omega) hp' (by omega))
    ·rw [if_neg h10,if_neg h10]
     exact ev_neg h10 (ih (x + uN s x) (i + 1) x L _ (by omega) hnb hd' (by omega) hp' (by omega))
   ·rw [if_neg hgl]
    refine Ev.step (fun k => bodkinref03_List.j1.eq_2 ..) (ev_neg hgl (ev_pos (by omega) (ev_pos (by omega) ?_)))
    rw [eg]
    refine Ev.bind (ref_class_ans (uC s x)) (Ev.bind (ref_cells_ans (uC s x)) (ev_pos (by simp;omega) ?_))
    rw [ei2.out]
    show Ev (fun k => bodkinref03_List.l0 k ((L ++ [cur]) ++ [⟨(x : Int),wrap64 ((x : Int) + (uN s x : Int)),cls (uC s x),celB (uC s x)⟩]) (unitsL s) (wrap64 ((x : Int) + (uN s x : Int))) ((i + 1 : Nat) : Int)) _
    rw [ex.out]
    have := ih (x + uN s x) (i + 1) x (L ++ [cur]) ⟨(x : Int),((x + uN s x : Nat) : Int),cls (uC s x),celB (uC s x)⟩ (by omega) hnb hd' (by omega) hp' (by simp;omega)
    have e9 : L ++ cur :: passL s n (uC s x) ⟨(x : Int),((x + uN s x : Nat) : Int),cls (uC s x),celB (uC s x)⟩ (x + uN s x) = (L ++ [cur]) ++ passL s n (uC s x) ⟨(x : Int),((x + uN s x : Nat) : Int),cls (uC s x),celB (uC s x)⟩ (x + uN s x) := by simp
    rw [e9]
    exact this
  ·rw [tl_end s x (by omega)] at hd
   have := drop_nil_le hd
   rw [passL,if_neg hx]
   exact Ev.step (fun k => bodkinref03_List.l0.eq_2 ..) (ev_neg (by omega) (Ev.now _))
theorem ref_list_ans (s : ByteArray) (hs : s.size ≤ 1099511627776) : Ev (fun k => bodkinref03_List.f k s) (clusL s) := by
 have hul := unitsL_length s
 refine Ev.bind (ref_units_ans s hs) ?_
 by_cases h0 : 0 < s.size
 ·have h1 := uN_pos s 0
  have h4 := uN_le4 s 0
  have hle := uN_le s 0 h0
  have hd : (unitsL s).drop 0 = uAt s 0 :: tl s (uN s 0) := by rw [List.drop_zero,unitsL_tl,tl_go s 0 h0,Nat.zero_add]
  obtain ⟨hil,hg,hd'⟩ := drop_cons (d := z87) hd
  have eg : rd_T87 (unitsL s) (0 : Int) = uAt s 0 := by unfold rd_T87;exact hg
  have e1 : Hid (wrap64 ((0 : Int) + 1) = ((1 : Nat) : Int)) := Lib.hid (by rw [w64 (by omega) (by omega)];rfl)
  have ex : Hid (wrap64 ((0 : Int) + (uN s 0 : Int)) = ((uN s 0 : Nat) : Int)) := Lib.hid (by rw [w64 (by omega) (by omega)];omega)
  refine Ev.step (fun k => bodkinref03_List.l0.eq_2 ..) (ev_pos (by omega) (ev_neg (by omega) ?_))
  refine Ev.step (fun k => bodkinref03_List.j1.eq_2 ..) (ev_neg (by simp) (ev_pos (by omega) (ev_pos (by omega) ?_)))
  rw [eg]
  refine Ev.bind (ref_class_ans (uC s 0)) (Ev.bind (ref_cells_ans (uC s 0)) (ev_pos (by simp) ?_))
  rw [e1.out]
  show Ev (fun k => bodkinref03_List.l0 k ([] ++ [⟨0,wrap64 ((0 : Int) + (uN s 0 : Int)),cls (uC s 0),celB (uC s 0)⟩]) (unitsL s) (wrap64 ((0 : Int) + (uN s 0 : Int))) ((1 : Nat) : Int)) _
  rw [ex.out]
  have := ref_list_loop s hs s.size (uN s 0) 1 0 [] ⟨0,((uN s 0 : Nat) : Int),cls (uC s 0),celB (uC s 0)⟩ (by omega) (by have := bd_next s 0 (bd_zero s) h0;rwa [Nat.zero_add] at this) hd' (by omega) (by show (rd_T87 (unitsL s) (0 : Int)).f0 = _;rw [eg];rfl) (by simp)
  rw [List.nil_append,pass_all s h0 s.size (by omega)] at this
  exact this
 ·have : unitsL s = [] := by rw [unitsL_tl,tl_end s 0 (by omega)]
  rw [this,clusL_ctl,ctl_end s 0 (by omega)]
  exact Ev.step (fun k => bodkinref03_List.l0.eq_2 ..) (ev_neg (by simp) (Ev.now _))
theorem rd_clu (cs : List S60) (i : Nat) : rd_T60 cs (i : Int) = cs.getD i z60 := by unfold rd_T60;rw [Int.toNat_natCast]
end Go.Proofs.YtnpjaaldppemlaaDoor.Pu
end
section
namespace Go.Proofs.YtnpjaaldppemlaaDoor.Pu
open Go Go.RowKit Go.Proofs.YtnpjaaldppemlaaDoor.Mu Go.Proofs.YtnpjaaldppemlaaDoor.U Go.Proofs.YtnpjaaldppemlaaDoorW.PrintWords Go.Proofs.YtnpjaaldppemlaaDoorW.PrintLast Go.Proofs.YtnpjaaldppemlaaDoorW.PrintMore
set_option linter.unusedVariables false
/-- One cluster's drawn text,by its cells and class. -/
def Kind (cls cel : Int) (d : ByteArray) : Prop := (cel = 0 ∧ d = ⟨#[]⟩) ∨ (cel = 1 ∧ OneC d 1) ∨ (cel = 2 ∧ cls = 4 ∧ OneC d 2) ∨ (cel = 2 ∧ cls ≠ 4 ∧ ∃ b : UInt8,33 ≤ b.toNat ∧ b.toNat < 127 ∧ d = (⟨#[94]⟩ : ByteArray) ++ ⟨#[b]⟩)
theorem drawn_kind (s : ByteArray) (i : Nat) (hc : CB s i) (hi : i < s.size) : Kind (clsAt s i) (celAt s i) (drawB s (clAt s i)) := by
 have e0 : (clAt s i).f0.toNat = i := Int.toNat_natCast i
 have e1 : (clAt s i).f1.toNat = nxt s i := Int.toNat_natCast _
 have e2 : (clAt s i).f2 = clsAt s i := rfl
 have h1 := nxt_pos s i hi
 have hle := nxt_le s i hc.1 hi
 have hsz := size_extract s i (nxt s i) hle
 have hlow := ctl_low s i
 unfold drawB
 rw [e0,e1,e2]
 by_cases hq : crlf s i
 ·have hcl : clsAt s i = 1 := by unfold clsAt;rw [if_pos hq]
  have hce : celAt s i = 0 := by unfold celAt;rw [if_pos hq]
  rw [if_pos hcl,hce]
  exact .inl ⟨rfl,rfl⟩
 have hcl : clsAt s i = cls (uC s i) := by unfold clsAt;rw [if_neg hq]
 have hce : celAt s i = celB (uC s i) := by unfold celAt;rw [if_neg hq]
 rw [hcl] at hlow ⊢
 rw [hce]
 have hC : celB (uC s i) = if cls (uC s i) = 1 then 0 else if cls (uC s i) = 4 ∨ (cls (uC s i) = 2 ∧ uC s i ≤ 127) then 2 else 1 := rfl
 by_cases q1 : cls (uC s i) = 1
 ·rw [if_pos q1,hC,if_pos q1]
  exact .inl ⟨rfl,rfl⟩
 rw [if_neg q1]
 by_cases q2 : cls (uC s i) = 2
 ·have hlo := hlow q2
  rw [if_pos q2]
  by_cases q7 : byt s i = 127
  ·rw [if_pos q7]
   have hu : uC s i = 127 := (uC_low s i 127 (by omega)).2 q7
   rw [hC,if_neg q1,if_pos (.inr ⟨q2,by omega⟩)]
   exact .inr (.inr (.inr ⟨rfl,by omega,63,by decide,by decide,rfl⟩))
  rw [if_neg q7]
  by_cases q8 : byt s i < 128
  ·have hu : uC s i = (byt s i : Nat) := (uC_low s i (byt s i) q8).2 rfl
   rw [if_pos q8,hC,if_neg q1,if_pos (.inr ⟨q2,by omega⟩)]
   obtain ⟨b,hb,he⟩ := encode_caret (byt s i) (by omega)
   rw [he]
   exact .inr (.inr (.inr ⟨rfl,by omega,b,by omega,by omega,rfl⟩))
  ·rw [if_neg q8,hC,if_neg q1,if_neg (by
    intro h
    rcases h with h | h
    ·omega
    ·have hp := cls_good (uC s i) (by omega)
     have := (uC_low s i (uC s i).toNat (by omega))
     rcases bad_or s i with h5 | h5 | h5
     ·have hr := uC_cases s i
      omega
     ·omega
     ·omega)]
   have := one_fffd ⟨#[]⟩ valid_nil (fun j _ h => absurd h (Nat.not_lt_zero _))
   have e : (⟨#[239,191,189]⟩ : ByteArray) ++ ⟨#[]⟩ = ⟨#[239,191,189]⟩ := rfl
   rw [e] at this
   exact .inr (.inl ⟨rfl,this⟩)
 rw [if_neg q2]
 by_cases q3 : cls (uC s i) = 3
 ·rw [if_pos q3,hC,if_neg q1,if_neg (by omega)]
  have hm := marks_mid s i i hc hi hq hc.1 (Nat.le_refl _) (by omega) (fun _ => q3)
  exact .inr (.inl ⟨rfl,one_space _ hm.1 hm.2⟩)
 rw [if_neg q3]
 by_cases q5 : cls (uC s i) = 5
 ·rw [if_pos q5,hC,if_neg q1,if_neg (by omega)]
  have hN : uN s i = 1 := by
   rcases uC_range s i with h | h
   ·exact h.2
   ·exfalso
    have hb : ¬ (uC s i < 0 ∨ uC s i > 1114111 ∨ (55296 ≤ uC s i ∧ uC s i ≤ 57343)) := by
     have hr := uC_cases s i
     have hlt := byt_lt s i
     omega
    unfold cls at q5
    rw [if_neg hb] at q5
    split at q5
    ·omega
    split at q5
    ·omega
    split at q5
    ·omega
    split at q5 <;> omega
  have hbn := bd_next s i hc.1 hi
  rw [hN] at hbn
  have hm := marks_mid s i (i + 1) hc hi hq hbn (by omega) (by omega) (fun h => by omega)
  have e : (s.extract i (nxt s i)).extract 1 (s.extract i (nxt s i)).size = s.extract (i + 1) (nxt s i) := by
   apply ByteArray.ext
   apply Array.toList_inj.1
   rw [Lib.extract_data,Lib.extract_data,Lib.extract_data,hsz,List.drop_take,List.drop_drop,List.take_take]
   congr 1
   omega
  rw [e]
  exact .inr (.inl ⟨rfl,one_fffd _ hm.1 hm.2⟩)
 rw [if_neg q5]
 have hf : cls (uC s i) = 0 ∨ cls (uC s i) = 4 := by
  have : 0 ≤ cls (uC s i) ∧ cls (uC s i) ≤ 5 := by unfold cls;repeat' split <;> omega
  omega
 have ho := one_mid s i hc hi hq hf
 rw [hC,if_neg q1] at ho ⊢
 by_cases q4 : cls (uC s i) = 4
 ·rw [if_pos (.inl q4)] at ho ⊢
  exact .inr (.inr (.inl ⟨rfl,q4,ho⟩))
 ·rw [if_neg (by omega)] at ho ⊢
  exact .inr (.inl ⟨rfl,ho⟩)
theorem cut_three (s : ByteArray) (a d : Nat) (h : a ≤ d) (hd : d ≤ s.size) : s.extract 0 a ++ (s.extract a d ++ s.extract d s.size) = s := by
 apply ByteArray.ext
 apply Array.toList_inj.1
 rw [data_app,data_app,Lib.extract_data,Lib.extract_data,Lib.extract_data,List.drop_zero,Nat.sub_zero]
 have e1 : (s.data.toList.drop d).take (s.size - d) = s.data.toList.drop d := List.take_of_length_le (by rw [List.length_drop,← Lib.size_eq];omega)
 rw [e1]
 have e2 : s.data.toList.drop d = (s.data.toList.drop a).drop (d - a) := by rw [List.drop_drop];congr 1;omega
 rw [e2,List.take_append_drop,List.take_append_drop]
theorem mid_cb (A P R : ByteArray) (ha : Bd (A ++ (P ++ R)) A.size) (hd : CB (A ++ (P ++ R)) (A.size + P.size)) (hp : 0 < P.size) : CB (P ++ R) P.size := by
 refine cb_right A (P ++ R) P.size hd hp (fun p hp2 he => ?_)
 have := ha.2 p hp2
 omega
/-- A cluster by itself: one cluster;what is drawn of it. -/
theorem piece_one (s : ByteArray) (i : Nat) (hc : CB s i) (hi : i < s.size) : clAt (s.extract i (nxt s i)) 0 = ⟨0,(nxt s i : Int) - i,clsAt s i,celAt s i⟩ ∧ clusL (s.extract i (nxt s i)) = [clAt (s.extract i (nxt s i)) 0] ∧ drawnS (s.extract i (nxt s i)) = drawB s (clAt s i) := by
 have h1 := nxt_pos s i hi
 have hle := nxt_le s i hc.1 hi
 have hC : CB s (nxt s i) := nxt_cb s i hc.1 hi
 have e := cut_three s i (nxt s i) (by omega) hle
 have e1 : (s.extract 0 i).size = i := by rw [size_extract _ _ _ (by omega)];omega
 have e2 : (s.extract i (nxt s i)).size = nxt s i - i := size_extract _ _ _ hle
 generalize s.extract 0 i = A at e e1
 generalize s.extract (nxt s i) s.size = R at e
 generalize hP : s.extract i (nxt s i) = P at e e2
 have hp : 0 < P.size := by omega
 have hb : Bd (A ++ (P ++ R)) A.size := by rw [e,e1];exact hc.1
 have hd : CB (A ++ (P ++ R)) (A.size + P.size) := by rw [e,e1,e2,show i + (nxt s i - i) = nxt s i by omega];exact hC
 have hCP := mid_cb A P R hb hd hp
 have hl := left_clAt P R hCP 0 hp (bd_zero _)
 have hr := right_clAt A (P ++ R) 0 (by rw [ByteArray.size_append];omega)
 have hd1 := draw_left P R 0 (bd_zero _) hp
 have hd2 := draw_right A (P ++ R) 0
 rw [Nat.add_zero,e,e1,hl] at hr
 rw [hl,e,e1,hd1] at hd2
 rw [← hr] at hd2
 have hn : nxt P 0 = P.size := by
  have := congrArg (·.f1) hr
  have h2 : (nxt s i : Int) = (i : Int) + (nxt P 0 : Int) := this
  omega
 have hk : clusL P = [clAt P 0] := by
  rw [clusL_ctl,ctl_go P 0 hp,hn,ctl_end P _ (Nat.le_refl _)]
 refine ⟨?_,hk,?_⟩
 ·have e3 := congrArg (·.f2) hr
  have e4 := congrArg (·.f3) hr
  have h3 : clsAt s i = clsAt P 0 := e3
  have h4 : celAt s i = celAt P 0 := e4
  rw [h3,h4]
  unfold clAt
  rw [hn,e2]
  have : ((nxt s i - i : Nat) : Int) = (nxt s i : Int) - i := by omega
  rw [← this]
  rfl
 ·unfold drawnS
  rw [hk,drawU_cons,drawU_nil,List.append_nil,hd2]
theorem bytes_ext' (a b : ByteArray) (h : a.data.toList = b.data.toList) : a = b := by
 apply ByteArray.ext
 exact Array.toList_inj.1 h
theorem caret_all' : ((List.range 32).all fun k => (strOfNums [((k : Int) + 64) % 256]).data.toList == (Utf8.encode ((k : Int) + 64)).data.toList) = true := by kernel_rfl
theorem caret' (k : Nat) (h : k < 32) : strOfNums [((k : Int) + 64) % 256] = Utf8.encode ((k : Int) + 64) := by
 have := List.all_eq_true.1 caret_all' k (List.mem_range.2 h)
 exact bytes_ext' _ _ (beq_iff_eq.1 this)
theorem rdrawn_ans (s : ByteArray) (hs : s.size ≤ 1099511627776) (i : Nat) (hc : CB s i) (hi : i < s.size) : bodkinref03_drawn.f (s.extract i (nxt s i)) (clsAt s i) = some (drawB s (clAt s i)) := by
 have h1 := nxt_pos s i hi
 have h2 := nxt_le s i hc.1 hi
 have hlow := ctl_low s i
 have hz : (s.extract i (nxt s i)).size = nxt s i - i := size_extract _ _ _ h2
 have hb : bt (s.extract i (nxt s i)) 0 = (byt s i : Int) := by
  have := bt_byt (s.extract i (nxt s i)) 0 (by omega)
  rw [byt_extract s i _ 0 (by omega) h2] at this
  exact this
 have e0 : (clAt s i).f0.toNat = i := Int.toNat_natCast i
 have e1 : (clAt s i).f1.toNat = nxt s i := Int.toNat_natCast _
 have e2 : (clAt s i).f2 = clsAt s i := rfl
 have hlt := byt_lt s i
 unfold bodkinref03_drawn.f drawB
 rw [e0,e1,e2,hb]
 obtain ⟨c,hcc⟩ : ∃ c,s.extract i (nxt s i) = c := ⟨_,rfl⟩
 rw [hcc] at hz ⊢
 by_cases q1 : clsAt s i = 1
 ·rw [if_pos q1,if_pos q1]
 rw [if_neg q1,if_neg q1]
 by_cases q2 : clsAt s i = 2
 ·have hlo := hlow q2
  rw [if_pos q2,if_pos q2,if_pos (by omega)]
  by_cases q7 : byt s i = 127
  ·rw [if_pos (by omega),if_pos q7]
  ·rw [if_neg (by omega),if_neg q7]
   by_cases q8 : byt s i < 32
   ·rw [if_pos (by omega),if_pos (by omega)]
    have hca := caret' (byt s i) q8
    have hsz := encode_low (byt s i) (by omega)
    rw [Option.bind_some,hca,if_pos (by omega)]
   ·rw [if_neg (by omega),if_neg (by omega)]
 rw [if_neg q2,if_neg q2]
 by_cases q3 : clsAt s i = 3
 ·rw [if_pos q3,if_pos q3,if_pos (by omega)]
 rw [if_neg q3,if_neg q3]
 by_cases q5 : clsAt s i = 5
 ·have hz1 : (c.extract 1 c.size).size = c.size - 1 := size_extract _ _ _ (Nat.le_refl _)
  rw [if_pos q5,if_pos q5,if_pos (by omega),if_pos (by omega)]
 rw [if_neg q5,if_neg q5]
def intsR (s : ByteArray) (cs : List S60) : List Int := (drawU s cs).map fun b => (b.toNat : Int)
theorem intsR_snoc (s : ByteArray) (cs : List S60) (c : S60) : intsR s (cs ++ [c]) = intsR s cs ++ bytesOf (drawB s c) := by
 unfold intsR;rw [drawU_snoc,List.map_append];rfl
theorem strR (l : List UInt8) : strOfNums (l.map fun b => (b.toNat : Int)) = ⟨l.toArray⟩ := by
 have e : (l.map fun b => (b.toNat : Int)).map (fun n => UInt8.ofNat n.toNat) = l := by
  rw [List.map_map]
  have : ∀ b ∈ l,((fun n : Int => UInt8.ofNat n.toNat) ∘ fun b : UInt8 => (b.toNat : Int)) b = id b := fun b _ => by
   show UInt8.ofNat ((b.toNat : Int).toNat) = b
   rw [Int.toNat_natCast,UInt8.ofNat_toNat]
  rw [List.map_congr_left this,List.map_id]
 unfold strOfNums
 rw [e]
theorem rdrawn_loop (s : ByteArray) (hs : s.size ≤ 1099511627776) : ∀ (rest pre : List S60),clusL s = pre ++ rest → Ev (fun k => bodkinref03_Drawn.l0 k s (intsR s pre) (clusL s) (pre.length : Int)) (drawnS s) := by
 have hll := clusL_length s
 intro rest
 induction rest with
 | nil =>
  intro pre h
  rw [List.append_nil] at h
  have hl : (clusL s).length = pre.length := by rw [h]
  refine Ev.step (fun k => bodkinref03_Drawn.l0.eq_2 ..) (ev_neg (by omega) (ev_now ?_))
  unfold intsR drawnS
  rw [strR,h]
 | cons c rest ih =>
  intro pre h
  have hl : (clusL s).length = pre.length + (rest.length + 1) := by rw [h];simp
  have hg : rd_T60 (clusL s) (pre.length : Int) = c := by rw [rd_clu,List.getD_eq_getElem?_getD,h];simp
  have hpre : pre ++ [c] <+: clusL s := ⟨rest,by rw [h];simp⟩
  have hds := draw_size s (pre ++ [c]) 0 (cb_zero s) (Nat.zero_le _) hpre
  rw [drawU_snoc,List.length_append] at hds
  obtain ⟨i,hci,hi,hc⟩ := clus_mem s s.size 0 (cb_zero s) c (by have := hpre.subset (show c ∈ pre ++ [c] by simp);exact this)
  have hn := nxt_pos s i hi
  have hle := nxt_le s i hci.1 hi
  have hda := rdrawn_ans s hs i hci hi
  have hnext := ih (pre ++ [c]) (by rw [h];simp)
  have e1 : wrap64 ((pre.length : Int) + 1) = ((pre ++ [c]).length : Int) := by rw [w64 (by omega) (by omega)];simp
  have hli : (intsR s pre).length = (drawU s pre).length := by unfold intsR;rw [List.length_map]
  have hdl : (drawB s c).data.toList.length = (drawB s c).size := rfl
  refine Ev.step (fun k => bodkinref03_Drawn.l0.eq_2 ..) (ev_pos (by omega) (ev_pos (by omega) ?_))
  rw [hg,hc,show clAt s i = (⟨(i : Int),(nxt s i : Int),clsAt s i,celAt s i⟩ : S60) from rfl]
  refine ev_pos (show (0 : Int) ≤ (i : Int) by omega) (ev_pos (show (i : Int) ≤ (nxt s i : Int) by omega) (ev_pos (show (nxt s i : Int) ≤ (s.size : Int) by omega) ?_))
  rw [Int.toNat_natCast,Int.toNat_natCast]
  refine ev_some hda (ev_pos ?_ ?_)
  ·rw [← hc];omega
  ·rw [e1,← hc,← intsR_snoc];exact hnext
theorem rdrawnS_ans (s : ByteArray) (hs : s.size ≤ 1099511627776) : Ev (fun k => bodkinref03_Drawn.f k s) (drawnS s) := Ev.bind (ref_list_ans s hs) (rdrawn_loop s hs (clusL s) [] rfl)
theorem uN_first (d : ByteArray) (h : 0 < d.size) : (Lib.decodeGo d).2 = uN d 0 ∧ (unitsL d) = uAt d 0 :: tl d (0 + uN d 0) := by
 have h1 := decodeGo_extract d 0 h
 rw [ByteArray.extract_zero_size] at h1
 refine ⟨by rw [h1];rfl,?_⟩
 rw [unitsL_tl,tl_go d 0 h]
theorem kind_pos {c k : Int} {d : ByteArray} (h : Kind c k d) (hk : k ≠ 0) : 0 < d.size := by
 rcases h with h | h | h | h
 ·exact absurd h.1 hk
 ·exact h.2.pos
 ·exact h.2.2.pos
 ·obtain ⟨b,_,_,rfl⟩ := h.2.2
  rw [ByteArray.size_append]
  show 0 < 1 + _
  omega
theorem ref_ok (s : ByteArray) (hs : s.size ≤ 34359738368) : RefOk s := by
 refine ⟨Ev.rounds (ref_list_ans s (by omega)),fun c hcm => ?_⟩
 obtain ⟨i,hci,hi,rfl⟩ := clus_mem s s.size 0 (cb_zero s) c hcm
 have h1 := nxt_pos s i hi
 have hle := nxt_le s i hci.1 hi
 have e0 : (clAt s i).f0.toNat = i := Int.toNat_natCast i
 have e1 : (clAt s i).f1.toNat = nxt s i := Int.toNat_natCast _
 rw [e0,e1]
 have hz : (s.extract i (nxt s i)).size ≤ 34359738368 := by rw [size_extract _ _ _ hle];omega
 refine ⟨Int.natCast_nonneg _,?_,?_,Ev.rounds (rdrawnS_ans _ (by omega)),?_⟩
 ·show (i : Int) ≤ (nxt s i : Int);omega
 ·show (nxt s i : Int) ≤ (s.size : Int);omega
 by_cases hk : celAt s i = 0
 ·exact .inl hk
 right
 have hkd := drawn_kind s i hci hi
 rw [(piece_one s i hci hi).2.2]
 have hp := kind_pos hkd hk
 have hsz : (drawB s (clAt s i)).size ≤ 1099511627776 := by
  have h3 := draw_size s [clAt s i] i hci (by omega) ⟨ctl s (nxt s i),by rw [ctl_go s i hi];rfl⟩
  rw [drawU_cons,drawU_nil,List.append_nil,← Lib.size_eq] at h3
  omega
 obtain ⟨k,hu⟩ := Ev.rounds (ref_units_ans (drawB s (clAt s i)) hsz)
 obtain ⟨h4,h5⟩ := uN_first (drawB s (clAt s i)) hp
 refine ⟨k,_,hu,by rw [h5];simp,?_⟩
 rw [h4,h5]
 rfl
end Go.Proofs.YtnpjaaldppemlaaDoor.Pu
end
section
namespace Go.Proofs.YtnpjaaldppemlaaDoor.U
open Go.RowKit Go.Shelf Go.Proofs.YtnpjaaldppemlaaDoor.Mu Go.Proofs.YtnpjaaldppemlaaDoor.Pu Go.Proofs.YtnpjaaldppemlaaDoorW.PrintWords Go.Proofs.YtnpjaaldppemlaaDoorW.PrintLast Go.Proofs.YtnpjaaldppemlaaDoorW.PrintMore
set_option linter.unusedVariables false
set_option linter.unusedSimpArgs false
theorem counted_in {width m : Int} (hm : bodkinref20_Counted.f width = some m) : 1 ≤ m ∧ m ≤ 65535 := by
 unfold bodkinref20_Counted.f at hm
 have hm2 := Option.some.inj hm
 rw [← hm2]
 unfold mn mx
 split <;> split <;> omega
set_option maxRecDepth 100000 in
set_option maxHeartbeats 8000000 in
theorem laid_any (pt t : ByteArray) (width m : Int) (w : World) (hps : pt.size ≤ 34359738368) (hs : t.size ≤ 34359738368) (hm : bodkinref20_Counted.f width = some m) (hR1 : RefOk pt) (hR2 : RefOk t) (st0 : Ly) (hst0 : Hid (layL m pt ([],[]) (clusL pt) = st0)) :
  Calls Tryd.prog 31 #[.string pt,.string t,.int .i64 width] w fun e w' => ∃ p rv,e = .returned (.tuple #[.pointer (some ⟨p,0,none⟩),rv]) ∧ w.heap.size ≤ p ∧ LyAt 55 w.heap.size p (fun k => k ≠ p) w' m (layL m t st0 (clusL t)) ∧ Kd.R kPl 27 w' w.heap.size (fun _ => True) rv (st0.pl :: plsL m t st0 (clusL t)) ∧ Below w.heap.size w w' := by
 have hF : Ly.Fit m ([],[]) := (ly_new (counted_in hm).1 (counted_in hm).2).1
 have hF0 : st0.Fit m := by rw [← hst0.out];exact layL_fit m pt _ _ hF
 have hLn0 : st0.1.length ≤ 206158430208 := by
  rw [← hst0.out]
  have h1 := layL_len m pt (clusL pt) ([],[])
  have h2 := clusL_length pt
  simp at h1
  omega
 go_enter Tryd.func31,Tryd.ntmps31
 go_upto_region 2 with (go_at_call 44;refine (bodkinref20_Counted.calls width m _ hm).mono ?_;rintro e w1 ⟨rfl,hb1⟩)
 obtain ⟨V,hV⟩ : ∃ V,(w1.alloc (.cells #[.slice none 0 0] 33 (0,0))).alloc (.cells #[.int .i64 m,.slice (some ⟨w1.heap.size,0,none⟩) 1 1,.int .i64 0,.int .i64 0] 55 (0,0)) = V := ⟨_,rfl⟩
 try rw [hV]
 have hb2 : Below w.heap.size w V := by rw [← hV];exact below_alloc (below_alloc hb1 _) _
 have hp : V.heap[w1.heap.size + 1]? = some (.cells #[.int .i64 m,.slice (some ⟨w1.heap.size,0,none⟩) 1 1,.int .i64 0,.int .i64 0] 55 (0,0)) := by
  rw [← hV]
  have hp_ := World.alloc_heap_new (w1.alloc (.cells #[.slice none 0 0] 33 (0,0))) (.cells #[.int .i64 m,.slice (some ⟨w1.heap.size,0,none⟩) 1 1,.int .i64 0,.int .i64 0] 55 (0,0))
  rwa [World.size_alloc] at hp_
 have hG : LyAt 55 w.heap.size (w1.heap.size + 1) (fun k => k ≠ w1.heap.size + 1) V m ([],[]) := by
  refine ⟨⟨_,hp,?_⟩,Nat.le_succ_of_le hb1.size,fun h => h rfl⟩
  rw [← hV]
  exact Kd.S_alloc (one_row w1 w.heap.size hb1.size (fun k => k ≠ w1.heap.size + 1) (by omega)) _
 have hpw : w.heap.size ≤ w1.heap.size + 1 := Nat.le_succ_of_le hb1.size
 have hpl := blk_lt hp
 clear hV hp hb1
 generalize w1.heap.size + 1 = p at hG hpw hpl ⊢
 go_upto_region 3 with (go_at_call 45;refine (pn_text hG (fun k hk => by omega) hb2.size hF pt (by omega) (by simp) hR1).mono ?_;rintro e w2 ⟨rv1,rfl,_,hG2,hB2,hK2⟩)
 rw [hst0.out] at hG2
 have hb3 := hb2.trans hB2
 have hpl2 := hG2.lt
 clear hG hB2 hb2 hK2 hpl
 go_upto_region 4 with (go_at_call 45;refine (pn_text hG2 (fun k hk => by omega) hb3.size hF0 t (by omega) hLn0 hR2).mono ?_;rintro e w3 ⟨rv2,rfl,hR3,hG3,hB3,hK3⟩)
 have hb4 := hb3.trans hB3
 have hR4 := Kd.R_lower hR3 hb3.size
 clear hG2 hB3 hb3 hR3
 go_wp2
 go_ret2
 exact ⟨p,rv2,rfl,hpw,hG3,hR4,hb4⟩
end Go.Proofs.YtnpjaaldppemlaaDoor.U
end
section
namespace Go.Proofs.YtnpjaaldppemlaaDoor.U
open Go.RowKit Go.Shelf Go.Proofs.YtnpjaaldppemlaaDoor.Mu Go.Proofs.YtnpjaaldppemlaaDoor.Pu Go.Proofs.YtnpjaaldppemlaaDoorW.PrintWords Go.Proofs.YtnpjaaldppemlaaDoorW.PrintLast Go.Proofs.YtnpjaaldppemlaaDoorW.PrintMore
set_option linter.unusedVariables false
set_option linter.unusedSimpArgs false
theorem rows_elem {base g n cap : Nat} {ok : Nat → Prop} {W : World} {rows : List (List Cl)} {f : Nat → Nat} (h : (Kd.tag f kRow).R 33 W base ok (.slice (some ⟨g,0,none⟩) n cap) rows.zipIdx) (i : Nat) (hi : i < rows.length) :
  ∃ A c,W.cell? ⟨g,i,none⟩ = some (.slice A (rows.getD i []).length c) ∧ Kd.R k35 35 W base (fun k => (ok k ∧ f k = i) ∧ k < W.heap.size) (.slice A (rows.getD i []).length c) (rows.getD i []) := by
 have hn : n = rows.length := by
  have := (Kd.R_reads' h).1
  rwa [List.length_zipIdx] at this
 obtain ⟨cs,hcl,hM,hcc,_⟩ := Kd.R_elem h ([],0) (i : Int) (Int.natCast_nonneg _) (by omega)
 have hz : (rows.zipIdx.getD (i : Int).toNat ([],0)) = (rows.getD i [],i) := by
  rw [Int.toNat_natCast,List.getD_eq_getElem?_getD,List.getElem?_zipIdx,List.getD_eq_getElem?_getD,List.getElem?_eq_getElem hi]
  simp
 rw [hz] at hM
 obtain ⟨v,rfl,hR⟩ := hM
 obtain ⟨A,c,rfl⟩ := Kd.R_slice hR
 refine ⟨A,c,?_,Kd.R_mono (Kd.R_bound hR) (fun k hk => ⟨⟨hk.1.1.1,hk.1.2⟩,hk.2.2.1⟩)⟩
 have h_ := hcc 0 _ rfl
 have hkz : (Kd.tag f kRow).sz = 1 := rfl
 rwa [hkz,Nat.mul_one,Nat.add_zero,Int.toNat_natCast] at h_
theorem plsL_get (wd : Int) (t : ByteArray) : ∀ (cs : List S60) (st : Ly) (i : Nat),i < cs.length → (plsL wd t st cs)[i]? = some (layL wd t st (cs.take (i + 1))).pl
 | [],_,_,h => by simp at h
 | c :: cs,st,0,_ => by rw [plsL];simp [layL]
 | c :: cs,st,i + 1,h => by
  rw [plsL,List.getElem?_cons_succ,plsL_get wd t cs _ i (by simpa using h)]
  rfl
def ray2.T : Bool × List (List Nat × List Nat) := (true,[([],[]),([0],[0]),([1],[1]),([2],[2]),([],[]),([4],[4]),([5],[5]),([3,6],[3,6]),([],[]),([8,7,0,1,2,3,4,5,6,7,8],[7,8])])
def ray2.B : List Nat := [0,1,3,7,0,16,48,127,0,511]
theorem ray2.tab : rtab .any (opsOf Tryd.f13 2) = ray2.T := by kernel_rfl
theorem ray2.bits : waitsOk ray2.T.2 ray2.B = true := by kernel_rfl
def ray12.T : Bool × List (List Nat × List Nat) := (true,[([],[]),([0],[0]),([],[]),([2],[2]),([3],[3]),([4],[4]),([],[]),([5,6],[5,6]),([7],[7]),([8],[8]),([9],[9]),([1,10,9],[1,10]),([0,1,2,3,4,5,6,7,8,9,10,11],[]),([12,11,11,0,1,2,3,4,5,6,7,8,9,10,11],[11,12])])
def ray12.B : List Nat := [0,1,0,4,12,28,0,124,252,508,1020,2047,4095,8191]
theorem ray12.tab : rtab .any (opsOf Tryd.f13 12) = ray12.T := by kernel_rfl
theorem ray12.bits : waitsOk ray12.T.2 ray12.B = true := by kernel_rfl
set_option maxRecDepth 100000 in
set_option maxHeartbeats 8000000 in
theorem rlay_any (pt t : ByteArray) (cursor width m : Int) (w : World) (hps : pt.size ≤ 34359738368) (hs : t.size ≤ 34359738368) (hm : bodkinref20_Counted.f width = some m) (hR1 : RefOk pt) (hR2 : RefOk t) (st0 : Ly) (hst0 : Hid (layL m pt ([],[]) (clusL pt) = st0)) (q : Ly × (Int × Int)) (hq : atL m t cursor (st0,st0.place) (clusL t) = q) (RW : List (List Cl)) (hRW : Hid ((q.1.1 ++ [q.1.2]).map trimR = RW)) :
  Calls Tryd.prog 13 #[.string pt,.string t,.int .i64 cursor,.int .i64 width] w fun e w' => ∃ rv,e = .returned (.agg #[.int .i64 m,rv,.int .i64 q.2.1,.int .i64 q.2.2]) ∧ Kd.S kRow 33 w' w.heap.size (fun _ => True) rv RW ∧ Below w.heap.size w w' := by
 have hIn0 : st0.In m := by rw [← hst0.out];exact layL_in _ _ _ _ (ly_new (counted_in hm).1 (counted_in hm).2)
 have hlen := clusL_length t
 have hIn : q.1.In m := by rw [← hq,atL_fst];exact layL_in m t _ _ hIn0
 have hfst : layL m t st0 (clusL t) = q.1 := by rw [← hq,atL_fst]
 have hLn0 : st0.1.length ≤ 206158430208 := by
  rw [← hst0.out]
  have h1 := layL_len m pt (clusL pt) ([],[])
  have h2 := clusL_length pt
  simp at h1
  omega
 have hLq : q.1.1.length ≤ 549755813888 := by
  rw [← hfst]
  have := layL_len m t (clusL t) st0
  omega
 obtain ⟨⟨kl,hkl⟩,hC⟩ := hR2
 obtain ⟨PS,hPS0⟩ : ∃ PS,st0.pl :: plsL m t st0 (clusL t) = PS := ⟨_,rfl⟩
 have hPl : PS.length = (clusL t).length + 1 := by rw [← hPS0,List.length_cons,plsL_len]
 have hP0 : rd_T27 PS 0 = st0.pl := by rw [← hPS0];rfl
 have hPi : ∀ i : Nat,i < (clusL t).length → rd_T27 PS ((i + 1 : Nat) : Int) = (layL m t st0 ((clusL t).take (i + 1))).pl := by
  intro i hi
  unfold rd_T27
  rw [← hPS0,Int.toNat_natCast,List.getD_eq_getElem?_getD,List.getElem?_cons_succ,plsL_get m t _ _ i hi]
  rfl
 have hPS := Lib.hid hPS0
 replace hPl := Lib.hid hPl
 clear hPS0
 go_enter Tryd.func13,Tryd.ntmps13
 have hb0 : Below w.heap.size w (w.alloc (.cells #[.int .i64 0,.slice none 0 0,.int .i64 0,.int .i64 0] 29 (0,0))) := below_alloc (Below.refl _ _) _
 have hq0 := World.alloc_heap_new w (.cells #[.int .i64 0,.slice none 0 0,.int .i64 0,.int .i64 0] 29 (0,0))
 go_upto_region 2 with (go_at_call 31;refine (laid_any pt t width m _ hps hs hm hR1 ⟨⟨kl,hkl⟩,hC⟩ st0 hst0).mono ?_;rintro e w1 ⟨p,rv,rfl,hp,hG,hR,hb1⟩;rw [hPS.out] at hR;obtain ⟨Ap,cp,rfl⟩ := Kd.R_slice hR)
 rw [World.size_alloc] at hp hG hR hb1
 have hq1 := (hb1.block _ (by omega)).trans hq0
 have hb2 := hb0.trans (hb1.mono (by omega))
 have hG1 := hG.lower (base' := w.heap.size) (by omega)
 have hR1' := Kd.R_lower (base' := w.heap.size) hR (by omega)
 have hpl := hG.lt
 rw [hfst] at hG1
 clear hb0 hq0 hb1 hG hR
 obtain ⟨ap,rfl,p0,p1⟩ := at_T27 (Kd.R_reads' hR1').2.2 0 (Int.le_refl _) (by rw [hPl.out];omega)
 rw [hP0] at p0 p1
 simp only [Int.toNat_zero,Nat.zero_mul] at p0 p1
 have hap : ap.add 0 = ap := by cases ap;rfl
 rw [hap] at p0 p1
 clear hap
 have hPn := eq_true (show (0 : Int) < (PS.length : Int) by rw [hPl.out];omega)
 have hPn2 := eq_true (show 0 < PS.length by rw [hPl.out];omega)
 have c0 := hG1.wd
 refine start_ (n := 10) (S := fun w' => w'.cell? ⟨p,0,none⟩ = some (.int .i64 m) ∧ w'.cell? ap = some (.int .i64 st0.pl.f0) ∧ w'.cell? ⟨ap.block,ap.off + 1,none⟩ = some (.int .i64 st0.pl.f1)) (ds := [9]) #[false,false,false,false,false,false,false,false,false,false] (by kernel_rfl) rfl rfl ⟨c0,p0,p1⟩ (fun hHeld => ?_);refine with_tabW ray2.tab ray2.bits (fun HT_ HW_ => ?_)
 have hb3 := below_drew1 hb2
 have hG3 := hG1.below (below_drew (Below.refl _ _))
 have hR3 := Kd.R_drew hR1'
 have hq3 : w1.drew.heap[w.heap.size]? = _ := hq1
 have hpl3 := hG3.lt
 generalize w1.drew = w3 at hb3 hG3 hR3 hq3 hHeld hpl3 ⊢
 clear hb2 hG1 hR1' hq1 c0 p0 p1 hpl
 refine pure_ (i := 0) (N := (some 22)) (v := ?_) (a' := ?_) #[true,false,false,false,false,false,false,false,false,false] rfl rfl (any_of HT_.out (by kernel_rfl)) (fun _ _ _ h => h) (Or.inl ⟨by rfl,?_⟩) ?_ ?_
 rotate_left
 ·intro w'
  go_simp
  with_reducible rfl
 rotate_left
 ·simp only [Act.put,List.setIfInBounds_toArray,List.set_cons_zero,List.set_cons_succ,i64_w,i32_w]
  rfl
 refine pure_ (i := 1) (N := (some 23)) (v := ?_) (a' := ?_) #[true,true,false,false,false,false,false,false,false,false] rfl rfl (any_of HT_.out (by kernel_rfl)) (fun _ _ _ h => h) (Or.inl ⟨by rfl,?_⟩) ?_ ?_
 rotate_left
 ·intro w'
  go_simp
  with_reducible rfl
 rotate_left
 ·simp only [Act.put,List.setIfInBounds_toArray,List.set_cons_zero,List.set_cons_succ,i64_w,i32_w]
  rfl
 refine pure_ (i := 2) (N := (some 24)) (v := ?_) (a' := ?_) #[true,true,true,false,false,false,false,false,false,false] rfl rfl (any_of HT_.out (by kernel_rfl)) (fun _ _ _ h => h) (Or.inl ⟨by rfl,?_⟩) ?_ ?_
 rotate_left
 ·intro w'
  go_simp
  with_reducible rfl
 rotate_left
 ·simp only [Act.put,List.setIfInBounds_toArray,List.set_cons_zero,List.set_cons_succ,i64_w,i32_w]
  rfl
 refine take_ (i := 3) (N := (some 25)) (v := ?_) (a' := ?_) #[true,true,true,true,false,false,false,false,false,false] rfl rfl (take_ofW HT_.out HW_.out (by kernel_rfl)) (fun _ _ _ h => h) (Or.inl ⟨by rfl,?_⟩) hHeld ?_ ?_
 rotate_left
 ·rintro w' ⟨s1,s2,s3⟩
  go_simp
  with_reducible rfl
 rotate_left
 ·simp only [Act.put,List.setIfInBounds_toArray,List.set_cons_zero,List.set_cons_succ,i64_w,i32_w]
  rfl
 refine pure_ (i := 4) (N := (some 26)) (v := ?_) (a' := ?_) #[true,true,true,true,true,false,false,false,false,false] rfl rfl (any_of HT_.out (by kernel_rfl)) (fun _ _ _ h => h) (Or.inl ⟨by rfl,?_⟩) ?_ ?_
 rotate_left
 ·intro w'
  go_simp
  with_reducible rfl
 rotate_left
 ·simp only [Act.put,List.setIfInBounds_toArray,List.set_cons_zero,List.set_cons_succ,i64_w,i32_w]
  rfl
 refine pure_ (i := 5) (N := (some 27)) (v := ?_) (a' := ?_) #[true,true,true,true,true,true,false,false,false,false] rfl rfl (any_of HT_.out (by kernel_rfl)) (fun _ _ _ h => h) (Or.inl ⟨by rfl,?_⟩) ?_ ?_
 rotate_left
 ·intro w'
  go_simp
  with_reducible rfl
 rotate_left
 ·simp only [Act.put,List.setIfInBounds_toArray,List.set_cons_zero,List.set_cons_succ,i64_w,i32_w]
  rfl
 refine take_ (i := 6) (N := (some 28)) (v := ?_) (a' := ?_) #[true,true,true,true,true,true,true,false,false,false] rfl rfl (take_ofW HT_.out HW_.out (by kernel_rfl)) (fun _ _ _ h => h) (Or.inl ⟨by rfl,?_⟩) hHeld ?_ ?_
 rotate_left
 ·rintro w' ⟨s1,s2,s3⟩
  go_simp
  with_reducible rfl
 rotate_left
 ·simp only [Act.put,List.setIfInBounds_toArray,List.set_cons_zero,List.set_cons_succ,i64_w,i32_w]
  rfl
 refine pure_ (i := 7) (N := (some 29)) (v := ?_) (a' := ?_) #[true,true,true,true,true,true,true,true,false,false] rfl rfl (any_of HT_.out (by kernel_rfl)) (fun _ _ _ h => h) (Or.inl ⟨by rfl,?_⟩) ?_ ?_
 rotate_left
 ·intro w'
  go_simp
  with_reducible rfl
 rotate_left
 ·simp only [Act.put,List.setIfInBounds_toArray,List.set_cons_zero,List.set_cons_succ,i64_w,i32_w]
  rfl
 refine one_ (i := 8) (N := (some 11)) #[true,true,true,true,true,true,true,true,true,false] rfl rfl (one_of HT_.out (by kernel_rfl)) (by decide) (fun K hK => ?_)
 refine value_ (w1 := ?_) (v := ?_) (by rfl) rfl ?_ ?_
 rotate_left 2
 ·go_simp
  constructor
  ·rfl
  ·rfl
 have hal : Below w3.heap.size w3 (w3.alloc (.cells #[.int .i64 0,.slice none 0 0,.int .i64 0,.int .i64 0] 29 (0,0))) := below_alloc (Below.refl _ _) _
 refine hK.out _ _ ⟨cell_below hHeld.1 hal,cell_below hHeld.2.1 hal,cell_below hHeld.2.2 hal⟩ (fun hHeld => ?_)
 clear hK K
 refine norm_ (a' := ?_) ?_ ?_
 rotate_left
 ·show Act.put _ (some 11) _ = _
  simp only [Act.put,List.setIfInBounds_toArray,List.set_cons_zero,List.set_cons_succ,i64_w,i32_w]
  rfl
 refine last_ (i := 9) (N := none) #[true,true,true,true,true,true,true,true,true,true] rfl rfl (one_of HT_.out (by kernel_rfl)) (by decide) (fun K hK => ?_)
 have hz4 : (w3.alloc (.cells #[.int .i64 0,.slice none 0 0,.int .i64 0,.int .i64 0] 29 (0,0))).heap[w3.heap.size]? = _ := World.alloc_heap_new w3 _
 have hb4 : Below w.heap.size w (w3.alloc (.cells #[.int .i64 0,.slice none 0 0,.int .i64 0,.int .i64 0] 29 (0,0))) := hb3.trans (hal.mono hb3.size)
 have hG4 := (hG3.bound.mono (ok' := fun k => k ≠ p ∧ k < w3.heap.size) (fun k hk => ⟨hk.1.1,hk.2⟩) (fun hk => hk.1 rfl)).below hal
 have hR4 := Kd.R_below (Kd.R_mono (ok' := fun k => k < w3.heap.size) (Kd.R_bound hR3) (fun k hk => hk.2.2.1)) hal
 have hq4 := (hal.block _ (blk_lt hq3)).trans hq3
 have hlq := blk_lt hq3
 have hl3 := hb3.size
 clear hb3 hG3 hR3 hq3 hal hHeld
 generalize w3.heap.size = q1 at hz4 hb4 hG4 hR4 hq4 hpl3 hlq hl3 ⊢
 generalize (w3.alloc (.cells #[.int .i64 0,.slice none 0 0,.int .i64 0,.int .i64 0] 29 (0,0))) = w4 at hz4 hb4 hG4 hR4 hq4 ⊢
 have hs0 : w4.cell? ⟨q1,0,none⟩ = some (.int .i64 0) := (blk_cell hz4 0).trans rfl
 have hf0 := blk_frozen hz4 0
 have hs1 : w4.cell? ⟨q1,1,none⟩ = some (.slice none 0 0) := (blk_cell hz4 1).trans rfl
 have hf1 := blk_frozen hz4 1
 have hs2 : w4.cell? ⟨q1,2,none⟩ = some (.int .i64 0) := (blk_cell hz4 2).trans rfl
 have hf2 := blk_frozen hz4 2
 have hs3 : w4.cell? ⟨q1,3,none⟩ = some (.int .i64 0) := (blk_cell hz4 3).trans rfl
 have hf3 := blk_frozen hz4 3
 refine skip_ (w1 := ?_) (by rfl) rfl ?_ ?_
 rotate_left
 ·go_simp
  rfl
 refine hK.out _ _ ?_
 clear hK K
 refine done_ (done_of HT_.out (by kernel_rfl)) ?_
 clear HT_ HW_
 have ho5 : ∀ k,¬ (k = q1) → ((((w4.setCell ⟨q1,0,none⟩ (.int .i64 m)).setCell ⟨q1,1,none⟩ (.slice none 0 0)).setCell ⟨q1,2,none⟩ (.int .i64 st0.pl.f0)).setCell ⟨q1,3,none⟩ (.int .i64 st0.pl.f1)).heap[k]? = w4.heap[k]? := fun k hk => (Below.heap_setCell _ ⟨q1,3,none⟩ _ k hk).trans ((Below.heap_setCell _ ⟨q1,2,none⟩ _ k hk).trans ((Below.heap_setCell _ ⟨q1,1,none⟩ _ k hk).trans (Below.heap_setCell w4 ⟨q1,0,none⟩ _ k hk)))
 have hz5 := put4 (b0 := .int .i64 m) (b1 := .slice none 0 0) (b2 := .int .i64 st0.pl.f0) (b3 := .int .i64 st0.pl.f1) hz4
 have hw1 : w.heap.size ≤ q1 := hl3
 have hb5 := (((hb4.setCell (p := ⟨q1,0,none⟩) hw1 (.int .i64 m)).setCell (p := ⟨q1,1,none⟩) hw1 (.slice none 0 0)).setCell (p := ⟨q1,2,none⟩) hw1 (.int .i64 st0.pl.f0)).setCell (p := ⟨q1,3,none⟩) hw1 (.int .i64 st0.pl.f1)
 have hq5 := (ho5 w.heap.size (by omega)).trans hq4
 have hR5 := Kd.R_move hR4 (fun k hk => ho5 k (by omega))
 have hG5f : ∀ V : World,(∀ k,¬ (k = q1) → V.heap[k]? = w4.heap[k]?) → LyAt 55 w.heap.size p (fun k => k ≠ p ∧ k < q1) V m q.1 := by
  intro V ho
  obtain ⟨⟨rv,h1,h2⟩,h3,h4⟩ := hG4
  exact ⟨⟨rv,(ho p (by omega)).trans h1,Kd.S_move h2 (fun k hk => ho k (by have := hk.2;omega))⟩,h3,h4⟩
 have hG5 := hG5f _ ho5
 clear hG5f
 clear hz4 hb4 hG4 hR4 hq4 ho5 hs0 hs1 hs2 hs3 hf0 hf1 hf2 hf3
 generalize ((((w4.setCell ⟨q1,0,none⟩ (.int .i64 m)).setCell ⟨q1,1,none⟩ (.slice none 0 0)).setCell ⟨q1,2,none⟩ (.int .i64 st0.pl.f0)).setCell ⟨q1,3,none⟩ (.int .i64 st0.pl.f1)) = w5 at hz5 hb5 hq5 hR5 hG5 ⊢
 clear w4
 go_upto_region 4 with (go_at_call 32;refine (bodkinref03_List.calls kl t _ _ hkl).mono ?_;rintro e w6 ⟨v6,rfl,hL6,hb6⟩)
 have hb7 := hb5.trans (hb6.mono hb5.size)
 have hq7 := (hb6.block _ (blk_lt hq5)).trans hq5
 have hz7 := (hb6.block _ (blk_lt hz5)).trans hz5
 have hR7 := Kd.R_below hR5 hb6
 have hG7 := hG5.below hb6
 have hq15 := blk_lt hz5
 have hL7 : Kd.R k60 60 w6 w.heap.size (fun k => q1 < k) v6 (clusL t) := Kd.R_lower (Kd.R_mono (Kd.R_bound hL6) (fun k hk => Nat.lt_of_lt_of_le hq15 hk.2.1)) hb5.size
 obtain ⟨Al,cl,rfl⟩ := Kd.R_slice hL7
 clear hb5 hq5 hz5 hR5 hG5 hL6 hb6 hq15
 have hat0 : atL m t cursor (st0,st0.place) ((clusL t).take 0) = (st0,st0.place) := rfl
 go_upto_block 0 with (fail)
 go_cut [13] from 32 to 50 (fun v13 w9 => Below w.heap.size w w9 ∧ w9.heap[w.heap.size]? = some (.cells #[.int .i64 0,.slice none 0 0,.int .i64 0,.int .i64 0] 29 (0,0)) ∧ w9.heap[q1]? = some (.cells #[.int .i64 m,.slice none 0 0,.int .i64 q.2.1,.int .i64 q.2.2] 29 (0,0)) ∧ LyAt 55 w.heap.size p (fun k => k ≠ p ∧ k < q1) w9 m q.1)
 case first =>
  go_wp2_with (fail)
  go_loopw [13] (fun v13 wr => ∃ (i : Nat),v13 = .int .i64 i ∧ i ≤ (clusL t).length ∧ Below w.heap.size w wr ∧ wr.heap[w.heap.size]? = some (.cells #[.int .i64 0,.slice none 0 0,.int .i64 0,.int .i64 0] 29 (0,0)) ∧ wr.heap[q1]? = some (.cells #[.int .i64 m,.slice none 0 0,.int .i64 (atL m t cursor (st0,st0.place) ((clusL t).take i)).2.1,.int .i64 (atL m t cursor (st0,st0.place) ((clusL t).take i)).2.2] 29 (0,0)) ∧ LyAt 55 w.heap.size p (fun k => k ≠ p ∧ k < q1) wr m q.1 ∧ Kd.R kPl 27 wr w.heap.size (fun k => k < q1) (.slice (some ap) PS.length cp) PS ∧ Kd.R k60 60 wr w.heap.size (fun k => q1 < k) (.slice Al (clusL t).length cl) (clusL t))
   (fun v _ => (clusL t).length - (intOf v).toNat)
  case atStart => exact ⟨0,rfl,Nat.zero_le _,hb7,hq7,hz7,hG7,hR7,hL7⟩
  case round =>
   obtain ⟨i,rfl,hi,hB,hqr,hzr,hGr,hRr,hLr⟩ := hrel
   clear hb7 hq7 hz7 hG7 hR7 hL7 hat0
   by_cases hlt : i < (clusL t).length
   ·have hlt' : (i : Int) < ((clusL t).length : Int) := by omega
    have hlen1 := hlt
    obtain ⟨x,hx⟩ : ∃ x,(clusL t)[i]? = some x := ⟨_,List.getElem?_eq_getElem hlt⟩
    have htk := take_snoc (clusL t) i hlt x hx
    have hfs : (atL m t cursor (st0,st0.place) ((clusL t).take i)).1 = layL m t st0 ((clusL t).take i) := atL_fst m t cursor _ _
    have hnew : Hid (atL m t cursor (st0,st0.place) ((clusL t).take (i + 1)) = (layL m t st0 ((clusL t).take (i + 1)),if x.f1 ≤ cursor then (layL m t st0 ((clusL t).take (i + 1))).place else (atL m t cursor (st0,st0.place) ((clusL t).take i)).2)) := Lib.hid (by
     rw [htk,atL_snoc,layL_snoc,← hfs]
     rfl)
    have hPx := hPi i hlt
    obtain ⟨ad,rfl,b0,b1,b2,b3⟩ := at_T60 (Kd.R_reads' hLr).2.2 (i : Int) (Int.natCast_nonneg _) hlt'
    have hrd : rd_T60 (clusL t) (i : Int) = x := by unfold rd_T60;rw [Int.toNat_natCast,List.getD_eq_getElem?_getD,hx];rfl
    rw [hrd,Int.toNat_natCast] at b1
    have hip : ((i + 1 : Nat) : Int) < (PS.length : Int) := by rw [hPl.out];omega
    obtain ⟨ap',hap',e0,e1⟩ := at_T27 (Kd.R_reads' hRr).2.2 ((i + 1 : Nat) : Int) (Int.natCast_nonneg _) hip
    cases hap'
    rw [hPx,Int.toNat_natCast] at e0 e1
    obtain ⟨ca,cb,hcab⟩ : ∃ ca cb,(atL m t cursor (st0,st0.place) ((clusL t).take i)).2 = (ca,cb) := ⟨_,_,rfl⟩
    rw [hcab] at hzr hnew
    generalize layL m t st0 ((clusL t).take (i + 1)) = st' at hnew e0 e1
    have hx1 : ∃ x1,x.f1 = x1 := ⟨_,rfl⟩
    obtain ⟨x1,hx1⟩ := hx1
    rw [hx1] at b1 hnew
    have hip2 := eq_true hip
    have hi0 := eq_true (show (0 : Int) ≤ ((i + 1 : Nat) : Int) by omega)
    have hi1 : i + 1 ≤ (clusL t).length := hlt
    have hnext : ∀ (wx : World) (a b : Int),(atL m t cursor (st0,st0.place) ((clusL t).take (i + 1))).2 = (a,b) → True := fun _ _ _ _ => trivial
    clear hnext b0 b2 b3 hrd hx hcab hfs htk hPx
    have hwi := wrap_succ (m := i) (by omega)
    by_cases hle : x1 ≤ cursor
    ·have hle' := eq_true hle
     have hn2 : Hid ((atL m t cursor (st0,st0.place) ((clusL t).take (i + 1))).2 = st'.place) := Lib.hid (by rw [hnew.out,if_pos hle])
     have z2 : wr.cell? ⟨q1,2,none⟩ = some (.int .i64 ca) := (blk_cell hzr 2).trans rfl
     have z3 : wr.cell? ⟨q1,3,none⟩ = some (.int .i64 cb) := (blk_cell hzr 3).trans rfl
     have g2 := blk_frozen hzr 2
     have g3 := blk_frozen hzr 3
     go_wp2
     have ho : ∀ k,¬ (k = q1) → ((wr.setCell ⟨q1,2,none⟩ (.int .i64 st'.pl.f0)).setCell ⟨q1,3,none⟩ (.int .i64 st'.pl.f1)).heap[k]? = wr.heap[k]? := fun k hk => (Below.heap_setCell _ ⟨q1,3,none⟩ _ k hk).trans (Below.heap_setCell wr ⟨q1,2,none⟩ _ k hk)
     have hz2 := blk_put (cs := #[.int .i64 m,.slice none 0 0,.int .i64 st'.pl.f0,.int .i64 cb]) (blk_put (cs := #[.int .i64 m,.slice none 0 0,.int .i64 ca,.int .i64 cb]) hzr 2 (.int .i64 st'.pl.f0) rfl) 3 (.int .i64 st'.pl.f1) rfl
     have hG2 : LyAt 55 w.heap.size p (fun k => k ≠ p ∧ k < q1) ((wr.setCell ⟨q1,2,none⟩ (.int .i64 st'.pl.f0)).setCell ⟨q1,3,none⟩ (.int .i64 st'.pl.f1)) m q.1 := by
      obtain ⟨⟨rv,h1,h2⟩,h3,h4⟩ := hGr
      exact ⟨⟨rv,(ho p (by omega)).trans h1,Kd.S_move h2 (fun k hk => ho k (by have := hk.2;omega))⟩,h3,h4⟩
     go_roundw
     case rel => exact ⟨i + 1,by first | rfl | go_num,hi1,(hB.setCell (p := ⟨q1,2,none⟩) hl3 _).setCell (p := ⟨q1,3,none⟩) hl3 _,(ho _ (by omega)).trans hqr,by rw [hn2.out];exact hz2,hG2,Kd.R_move hRr (fun k hk => ho k (by omega)),Kd.R_move hLr (fun k hk => ho k (by omega))⟩
     case measure => exact meas_lt hlt
    ·have hle' := eq_false hle
     have hn2 : Hid ((atL m t cursor (st0,st0.place) ((clusL t).take (i + 1))).2 = (ca,cb)) := Lib.hid (by rw [hnew.out,if_neg hle])
     go_wp2
     go_roundw
     case rel => exact ⟨i + 1,by first | rfl | go_num,hi1,hB,hqr,by rw [hn2.out];exact hzr,hGr,hRr,hLr⟩
     case measure => exact meas_lt hlt
   ·have hge : ¬ ((i : Int) < ((clusL t).length : Int)) := by omega
    have hii : i = (clusL t).length := by omega
    rw [hii,List.take_length,hq] at hzr
    go_wp2
    go_meet
    case rel => exact ⟨hB,hqr,hzr,hGr⟩
 case rest =>
  obtain ⟨hb9,hq9,hz9,hG9⟩ := hcut
  clear hb7 hq7 hz7 hG7 hR7 hL7 hat0
  obtain ⟨⟨rv,hpp,hS⟩,hlow,_⟩ := hG9
  have hrn : (q.1.1 ++ [q.1.2]).length ≤ 1099511627776 := by rw [List.length_append,List.length_singleton];omega
  have hrl : ∀ i,((q.1.1 ++ [q.1.2]).getD i []).length ≤ 1099511627776 := fun i => by have h1 := hIn.rows i;have h2 := hIn.1.2.1;omega
  have hr0 : 0 < (q.1.1 ++ [q.1.2]).length := by simp
  have hRW2 := hRW.out
  generalize q.1.1 ++ [q.1.2] = rows at hS hrn hrl hr0 hRW2
  obtain ⟨g,cap,rfl,hg0,hglt,_⟩ := Kd.S_form hS hr0
  have hgq : g < q1 := (hS.own_ok g rfl).2
  obtain ⟨f,hf⟩ := hS
  have hpl9 := blk_lt hpp
  have hql9 := blk_lt hq9
  have hzl9 := blk_lt hz9
  have hw9 := hb9.size
  have hwc := Kept.refl wc (fun k => k = q1)
  clear hlow
  clear hPi hPl hP0 hPS hC hkl hst0 hIn0 hIn hfst hLn0 hLq hlen hq hRW
  go_wp2
  go_loopw [14] (fun v14 wr => ∃ (i : Nat) (vO : Value),v14 = .int .i64 i ∧ i ≤ rows.length ∧ Kept wc wr (fun k => k = q1) ∧ Below w.heap.size w wr ∧ wr.heap[q1]? = some (.cells #[.int .i64 m,vO,.int .i64 q.2.1,.int .i64 q.2.2] 29 (0,0)) ∧ Kd.S kRow 33 wr w.heap.size (fun k => wc.heap.size ≤ k ∨ (k < q1 ∧ f k < i)) vO ((rows.take i).map trimR) ∧ (∀ k,vO.ownBlock = some k → wc.heap.size ≤ k))
   (fun v _ => rows.length - (intOf v).toNat)
  case atStart => exact ⟨0,_,rfl,Nat.zero_le _,hwc,hb9,hz9,Kd.S_nil _ _ _ _ _,fun k hk => by simp [Value.ownBlock] at hk⟩
  case round =>
   obtain ⟨i,vO,rfl,hi,hK_,hB,hzr,hSr,hOb⟩ := hrel
   have p1 : wr.cell? ⟨p,1,none⟩ = some (.slice (some ⟨g,0,none⟩) rows.length cap) := kept_cell hK_ ((blk_cell hpp 1).trans rfl) (fun (h : p = q1) => by omega)
   have p0 : wr.cell? ⟨p,0,none⟩ = some (.int .i64 m) := kept_cell hK_ ((blk_cell hpp 0).trans rfl) (fun (h : p = q1) => by omega)
   have hplr := Nat.lt_of_lt_of_le hpl9 hK_.1
   clear hwc hb9 hz9
   by_cases hlt : i < rows.length
   ·have hlt' : (i : Int) < (rows.length : Int) := by omega
    have hi1 : i + 1 ≤ rows.length := hlt
    obtain ⟨A,c,hce,hRe⟩ := rows_elem hf i hlt
    have hlL := hrl i
    have htk : Hid ((rows.take (i + 1)).map trimR = (rows.take i).map trimR ++ [trimR (rows.getD i [])]) := Lib.hid (by
     rw [take_snoc rows i hlt (rows.getD i []) (by rw [List.getD_eq_getElem?_getD,List.getElem?_eq_getElem hlt];rfl),List.map_append]
     rfl)
    have hln : ((rows.take i).map trimR).length ≤ 1099511627776 := by rw [List.length_map,List.length_take];omega
    generalize (rows.take i).map trimR = TR at htk hSr hln
    generalize rows.getD i [] = L at hce hRe hlL htk
    have hce2 := kept_cell hK_ hce (fun (h : g = q1) => by omega)
    have hRe2 : Kd.R k35 35 wr w.heap.size (fun k => k < q1 ∧ f k = i) (.slice A L.length c) L := Kd.R_mono (Kd.R_move hRe (fun k hk => hK_.2 k hk.2 (by have := hk.1.1.2;omega))) (fun k hk => ⟨hk.1.1.2,hk.1.2⟩)
    have hcL := (Kd.R_reads' hRe2).2.1
    have hAn : A = none → c = 0 := by
     intro hA
     subst hA
     obtain ⟨inner,ho⟩ := Kd.R_own hRe2
     rcases ho.2 with ⟨hv,_⟩ | ⟨g',cap',cur,hv,_⟩
     ·injection hv
     ·cases hv
    clear hRe
    have hwi := wrap_succ (m := i) (by omega)
    go_upto_region 12 with (fail)
    refine start_ (n := 14) (S := fun w' => w'.cell? ⟨q1,1,none⟩ = some vO ∧ w'.cell? ⟨p,1,none⟩ = some (.slice (some ⟨g,0,none⟩) rows.length cap) ∧ w'.cell? ⟨g,i,none⟩ = some (.slice A L.length c)) (ds := [13]) #[false,false,false,false,false,false,false,false,false,false,false,false,false,false] (by kernel_rfl) rfl rfl ⟨(blk_cell hzr 1).trans rfl,p1,hce2⟩ (fun hHeld => ?_);refine with_tabW ray12.tab ray12.bits (fun HT_ HW_ => ?_)
    have hK1 := Kept.drew hK_
    have hB1 := below_drew1 hB
    have hz1 : wr.drew.heap[q1]? = _ := hzr
    have hS1 := Kd.S_drew hSr
    have hR1 := Kd.R_drew hRe2
    generalize wr.drew = w1 at hK1 hB1 hz1 hS1 hR1 hHeld ⊢
    clear hK_ hB hzr hSr hRe2 hce2 p0 p1 hplr
    refine pure_ (i := 0) (N := (some 60)) (v := ?_) (a' := ?_) #[true,false,false,false,false,false,false,false,false,false,false,false,false,false] rfl rfl (any_of HT_.out (by kernel_rfl)) (fun _ _ _ h => h) (Or.inl ⟨by rfl,?_⟩) ?_ ?_
    rotate_left
    ·intro w'
     go_simp
     with_reducible rfl
    rotate_left
    ·simp only [Act.put,List.setIfInBounds_toArray,List.set_cons_zero,List.set_cons_succ,i64_w,i32_w]
     rfl
    refine take_ (i := 1) (N := (some 61)) (v := ?_) (a' := ?_) #[true,true,false,false,false,false,false,false,false,false,false,false,false,false] rfl rfl (take_ofW HT_.out HW_.out (by kernel_rfl)) (fun _ _ _ h => h) (Or.inl ⟨by rfl,?_⟩) hHeld ?_ ?_
    rotate_left
    ·rintro w' ⟨s1,s2,s3⟩
     go_simp
     with_reducible rfl
    rotate_left
    ·simp only [Act.put,List.setIfInBounds_toArray,List.set_cons_zero,List.set_cons_succ,i64_w,i32_w]
     rfl
    refine pure_ (i := 2) (N := (some 62)) (v := ?_) (a' := ?_) #[true,true,true,false,false,false,false,false,false,false,false,false,false,false] rfl rfl (any_of HT_.out (by kernel_rfl)) (fun _ _ _ h => h) (Or.inl ⟨by rfl,?_⟩) ?_ ?_
    rotate_left
    ·intro w'
     go_simp
     with_reducible rfl
    rotate_left
    ·simp only [Act.put,List.setIfInBounds_toArray,List.set_cons_zero,List.set_cons_succ,i64_w,i32_w]
     rfl
    refine pure_ (i := 3) (N := (some 63)) (v := ?_) (a' := ?_) #[true,true,true,true,false,false,false,false,false,false,false,false,false,false] rfl rfl (any_of HT_.out (by kernel_rfl)) (fun _ _ _ h => h) (Or.inl ⟨by rfl,?_⟩) ?_ ?_
    rotate_left
    ·intro w'
     go_simp
     with_reducible rfl
    rotate_left
    ·simp only [Act.put,List.setIfInBounds_toArray,List.set_cons_zero,List.set_cons_succ,i64_w,i32_w]
     rfl
    refine pure_ (i := 4) (N := (some 64)) (v := ?_) (a' := ?_) #[true,true,true,true,true,false,false,false,false,false,false,false,false,false] rfl rfl (any_of HT_.out (by kernel_rfl)) (fun _ _ _ h => h) (Or.inl ⟨by rfl,?_⟩) ?_ ?_
    rotate_left
    ·intro w'
     go_simp
     with_reducible rfl
    rotate_left
    ·simp only [Act.put,List.setIfInBounds_toArray,List.set_cons_zero,List.set_cons_succ,i64_w,i32_w]
     rfl
    refine take_ (i := 5) (N := (some 65)) (v := ?_) (a' := ?_) #[true,true,true,true,true,true,false,false,false,false,false,false,false,false] rfl rfl (take_ofW HT_.out HW_.out (by kernel_rfl)) (fun _ _ _ h => h) (Or.inl ⟨by rfl,?_⟩) hHeld ?_ ?_
    rotate_left
    ·rintro w' ⟨s1,s2,s3⟩
     go_simp
     with_reducible rfl
    rotate_left
    ·simp only [Act.put,List.setIfInBounds_toArray,List.set_cons_zero,List.set_cons_succ,i64_w,i32_w]
     rfl
    refine pure_ (i := 6) (N := (some 66)) (v := ?_) (a' := ?_) #[true,true,true,true,true,true,true,false,false,false,false,false,false,false] rfl rfl (any_of HT_.out (by kernel_rfl)) (fun _ _ _ h => h) (Or.inl ⟨by rfl,?_⟩) ?_ ?_
    rotate_left
    ·intro w'
     go_simp
     with_reducible rfl
    rotate_left
    ·simp only [Act.put,List.setIfInBounds_toArray,List.set_cons_zero,List.set_cons_succ,i64_w,i32_w]
     rfl
    refine pure_ (i := 7) (N := (some 67)) (v := ?_) (a' := ?_) #[true,true,true,true,true,true,true,true,false,false,false,false,false,false] rfl rfl (any_of HT_.out (by kernel_rfl)) (fun _ _ _ h => h) (Or.inl ⟨by rfl,?_⟩) ?_ ?_
    rotate_left
    ·intro w'
     go_simp
     with_reducible rfl
    rotate_left
    ·simp only [Act.put,List.setIfInBounds_toArray,List.set_cons_zero,List.set_cons_succ,i64_w,i32_w]
     rfl
    refine take_ (i := 8) (N := (some 68)) (v := ?_) (a' := ?_) #[true,true,true,true,true,true,true,true,true,false,false,false,false,false] rfl rfl (take_ofW HT_.out HW_.out (by kernel_rfl)) (fun _ _ _ h => h) (Or.inl ⟨by rfl,?_⟩) hHeld ?_ ?_
    rotate_left
    ·rintro w' ⟨s1,s2,s3⟩
     go_simp
     with_reducible rfl
    rotate_left
    ·simp only [Act.put,List.setIfInBounds_toArray,List.set_cons_zero,List.set_cons_succ,i64_w,i32_w]
     rfl
    refine one_ (i := 9) (N := (some 69)) #[true,true,true,true,true,true,true,true,true,true,false,false,false,false] rfl rfl (one_of HT_.out (by kernel_rfl)) (by decide) (fun K hK => ?_)
    refine goes_ Tryd.func33 (by kernel_rfl) rfl #[.slice A L.length c] (by rfl) rfl rfl au37 ?_
    refine (trimmed_any A L.length c L _ (Kd.R_reads' hR1).2.2 hlL hcL hAn).mono ?_
    rintro e w2 ⟨rfl,hb2⟩
    have hK2 := hK1.below hb2
    have hB2 := hB1.trans (hb2.mono hB1.size)
    have hz2 := (hb2.block _ (blk_lt hz1)).trans hz1
    have hS2 := Kd.S_below hS1 hb2
    have hR2 := Kd.R_take (Kd.R_below hR1 hb2) (trimN_le L L.length)
    have hT2 : Kd.R k35 35 w2 w.heap.size (fun k => k < q1 ∧ f k = i) (.slice A (trimN L L.length) c) (trimR L) := hR2
    have hs2 : w2.cell? ⟨q1,1,none⟩ = some vO ∧ w2.cell? ⟨p,1,none⟩ = some (.slice (some ⟨g,0,none⟩) rows.length cap) ∧ w2.cell? ⟨g,i,none⟩ = some (.slice A L.length c) := ⟨cell_below hHeld.1 hb2,cell_below hHeld.2.1 hb2,cell_below hHeld.2.2 hb2⟩
    clear hK1 hB1 hz1 hS1 hR1 hHeld hb2 hR2
    refine ⟨_,rfl,?_⟩
    refine hK.out _ _ hs2 (fun hHeld => ?_)
    clear hK K hs2
    refine norm_ (a' := ?_) ?_ ?_
    rotate_left
    ·show Act.put _ (some 69) _ = _
     simp only [Act.put,List.setIfInBounds_toArray,List.set_cons_zero,List.set_cons_succ,i64_w,i32_w]
     rfl
    refine one_ (i := 10) (N := (some 70)) #[true,true,true,true,true,true,true,true,true,true,true,false,false,false] rfl rfl (one_of HT_.out (by kernel_rfl)) (by decide) (fun K hK => ?_)
    refine value_ (w1 := ?_) (v := ?_) (by rfl) rfl ?_ ?_
    rotate_left 2
    ·go_simp
     constructor
     ·rfl
     ·rfl
    have hal : Below w2.heap.size w2 (w2.alloc (.cells #[.slice A (trimN L L.length) c] 33 (0,0))) := below_alloc (Below.refl _ _) _
    refine hK.out _ _ ⟨cell_below hHeld.1 hal,cell_below hHeld.2.1 hal,cell_below hHeld.2.2 hal⟩ (fun hHeld => ?_)
    clear hK K hal
    refine norm_ (a' := ?_) ?_ ?_
    rotate_left
    ·show Act.put _ (some 70) _ = _
     simp only [Act.put,List.setIfInBounds_toArray,List.set_cons_zero,List.set_cons_succ,i64_w,i32_w]
     rfl
    refine one_ (i := 11) (N := (some 71)) #[true,true,true,true,true,true,true,true,true,true,true,true,false,false] rfl rfl (one_of HT_.out (by kernel_rfl)) (by decide) (fun K hK => ?_)
    refine Kd.S_append_step kRow (w0 := w) w.heap.size (by rfl) (.tmp 61) (.tmp 70) 25 33 (.slice none 0 0) 24 rfl Tryd.underlying25 info33 rfl (by decide) (by decide) vO TR (trimR L) [.slice A (trimN L L.length) c] (fun k => wc.heap.size ≤ k ∨ (k < q1 ∧ f k < i + 1)) (fun k => k < q1 ∧ f k = i) rfl rfl (Kd.M_row hT2) (fun k hk => ⟨.inr ⟨hk.1,by omega⟩,fun he => by have h1 := hS2.own_ok k he.symm;omega⟩) (fun k hk => .inl (Nat.le_trans hK2.1 hk)) (Kd.S_mono hS2 (fun k hk => ⟨hk.imp id (fun h => ⟨h.1,by omega⟩),by omega⟩)) hB2 hB2.size (by omega) ?_
    intro v3 w3 hS3 hB3 hg3 hat3
    have hown : ∀ k,vO.ownBlock = some k → wc.heap.size ≤ k ∨ (k < q1 ∧ f k < i) := fun k hk => hS2.own_ok k hk
    have hz3 := (hg3.block _ (blk_lt hz2) (fun he => by have := hown q1 he.symm;omega)).trans hz2
    have hK3 := Kept.of_grown hg3 hK2 (fun k hk => .inr (hOb k hk))
    have hOb3 : ∀ k,v3.ownBlock = some k → wc.heap.size ≤ k := by
     intro k hk
     rcases hat3 with h | ⟨b,h,hb⟩
     ·rw [h] at hk
      exact hOb k hk
     ·rw [h] at hk
      injection hk with hk
      have := hK2.1
      omega
    obtain ⟨A3,c3,he3⟩ := Kd.S_slice hS3
    rw [List.length_append,List.length_singleton] at he3
    subst he3
    clear hS2 hB2 hz2 hT2 hK2 hg3 hat3 hown hHeld
    refine hK.out _ _ ⟨(blk_cell hz3 1).trans rfl,kept_cell hK3 ((blk_cell hpp 1).trans rfl) (fun (h : p = q1) => by omega),kept_cell hK3 hce (fun (h : g = q1) => by omega)⟩ (fun hHeld => ?_)
    clear hK K
    refine norm_ (a' := ?_) ?_ ?_
    rotate_left
    ·show Act.put _ (some 71) _ = _
     simp only [Act.put,List.setIfInBounds_toArray,List.set_cons_zero,List.set_cons_succ,i64_w,i32_w]
     rfl
    refine pure_ (i := 12) (N := (some 72)) (v := ?_) (a' := ?_) #[true,true,true,true,true,true,true,true,true,true,true,true,true,false] rfl rfl (any_of HT_.out (by kernel_rfl)) (fun _ _ _ h => h) (Or.inl ⟨by rfl,?_⟩) ?_ ?_
    rotate_left
    ·intro w'
     go_simp
     with_reducible rfl
    rotate_left
    ·simp only [Act.put,List.setIfInBounds_toArray,List.set_cons_zero,List.set_cons_succ,i64_w,i32_w]
     rfl
    refine last_ (i := 13) (N := none) #[true,true,true,true,true,true,true,true,true,true,true,true,true,true] rfl rfl (one_of HT_.out (by kernel_rfl)) (by decide) (fun K hK => ?_)
    have s1_ : w3.cell? ⟨q1,1,none⟩ = some vO := (blk_cell hz3 1).trans rfl
    have f1_ := blk_frozen hz3 1
    refine skip_ (w1 := ?_) (by rfl) rfl ?_ ?_
    rotate_left
    ·go_simp
     rfl
    refine hK.out _ _ ?_
    clear hK K
    refine done_ (done_of HT_.out (by kernel_rfl)) ?_
    clear HT_ HW_
    have hz4 := blk_put (cs := #[.int .i64 m,vO,.int .i64 q.2.1,.int .i64 q.2.2]) hz3 1 (.slice A3 (TR.length + 1) c3) rfl
    have hS4 := Kd.S_far (p := ⟨q1,1,none⟩) hS3 (fun k hk (he : k = q1) => by rcases hk with hk | hk <;> omega) (.slice A3 (TR.length + 1) c3)
    have hK4 := hK3.setCell (p := ⟨q1,1,none⟩) (.inl rfl) (.slice A3 (TR.length + 1) c3)
    have hB4 := hB3.setCell (p := ⟨q1,1,none⟩) hl3 (.slice A3 (TR.length + 1) c3)
    clear hz3 hS3 hK3 hB3 s1_ f1_ hHeld
    go_wp2
    go_roundw
    case rel => exact ⟨i + 1,_,by first | rfl | go_num,hi1,hK4,hB4,hz4,by rw [htk.out];exact hS4,hOb3⟩
    case measure => exact meas_lt hlt
   ·have hge : ¬ ((i : Int) < (rows.length : Int)) := by omega
    have hii : i = rows.length := by omega
    rw [hii,List.take_length,hRW2] at hSr
    obtain ⟨Ao,co,rfl⟩ := Kd.S_slice hSr
    have z0 : wr.cell? ⟨q1,0,none⟩ = some (.int .i64 m) := (blk_cell hzr 0).trans rfl
    have z1 : wr.cell? ⟨q1,1,none⟩ = some (.slice Ao RW.length co) := (blk_cell hzr 1).trans rfl
    have z2 : wr.cell? ⟨q1,2,none⟩ = some (.int .i64 q.2.1) := (blk_cell hzr 2).trans rfl
    have z3 : wr.cell? ⟨q1,3,none⟩ = some (.int .i64 q.2.2) := (blk_cell hzr 3).trans rfl
    have hqr := (hK_.2 _ hql9 (by omega)).trans hq9
    have y0 : wr.cell? ⟨w.heap.size,0,none⟩ = some (.int .i64 0) := (blk_cell hqr 0).trans rfl
    have y1 : wr.cell? ⟨w.heap.size,1,none⟩ = some (.slice none 0 0) := (blk_cell hqr 1).trans rfl
    have y2 : wr.cell? ⟨w.heap.size,2,none⟩ = some (.int .i64 0) := (blk_cell hqr 2).trans rfl
    have y3 : wr.cell? ⟨w.heap.size,3,none⟩ = some (.int .i64 0) := (blk_cell hqr 3).trans rfl
    have x0 := blk_frozen hqr 0
    have x1 := blk_frozen hqr 1
    have x2 := blk_frozen hqr 2
    have x3 := blk_frozen hqr 3
    have lq := blk_lt hqr
    have lz := blk_lt hzr
    go_wp2
    refine bodyPost_ret (results_cell_row rfl _ _ w.heap.size 29 #[.int .i64 m,.slice Ao RW.length co,.int .i64 q.2.1,.int .i64 q.2.2] (0,0) _ rfl (put4 hqr) Tryd.underlying29 rfl (by kernel_rfl)) rfl ?_
    have hS5 := Kd.S_types hSr hqr (by decide)
    refine ⟨_,rfl,?_,?_⟩
    ·exact Kd.S_mono (Kd.S_far (p := ⟨w.heap.size,3,none⟩) (Kd.S_far (p := ⟨w.heap.size,2,none⟩) (Kd.S_far (p := ⟨w.heap.size,1,none⟩) (Kd.S_far (p := ⟨w.heap.size,0,none⟩) hS5 (fun _ hk => hk.2) _) (fun _ hk => hk.2) _) (fun _ hk => hk.2) _) (fun _ hk => hk.2) _) (fun _ _ => trivial)
    ·have hww := Nat.le_refl w.heap.size
     exact (((hB.setCell (p := ⟨w.heap.size,0,none⟩) hww _).setCell (p := ⟨w.heap.size,1,none⟩) hww _).setCell (p := ⟨w.heap.size,2,none⟩) hww _).setCell (p := ⟨w.heap.size,3,none⟩) hww _
end Go.Proofs.YtnpjaaldppemlaaDoor.U
end
section
namespace Go.Proofs.YtnpjaaldppemlaaDoor.U
open Go.RowKit Go.Shelf Go.Proofs.YtnpjaaldppemlaaDoor.Mu Go.Proofs.YtnpjaaldppemlaaDoor.Pu Go.Proofs.YtnpjaaldppemlaaDoorW.PrintWords Go.Proofs.YtnpjaaldppemlaaDoorW.PrintLast Go.Proofs.YtnpjaaldppemlaaDoorW.PrintMore
set_option linter.unusedVariables false
/-- A width as it counts. -/
def cntW (width : Int) : Int := mn (mx width 1) 65535
/-- The grid behind a prompt. -/
def st0L (p : ByteArray) (width : Int) : Ly := layL (cntW width) p ([],[]) (clusL p)
/-- The grid behind a text,and the cursor's place. -/
def endL (p t : ByteArray) (cursor width : Int) : Ly × (Int × Int) := atL (cntW width) t cursor (st0L p width,(st0L p width).place) (clusL t)
def rowsL (p t : ByteArray) (cursor width : Int) : List (List Cl) := ((endL p t cursor width).1.1 ++ [(endL p t cursor width).1.2]).map trimR
def placesL (p t : ByteArray) (width : Int) : List Pl := (st0L p width).pl :: plsL (cntW width) t (st0L p width) (clusL t)
def layout_Lay.f (a0 a1 : ByteArray) (a2 a3 : Int) : Option (Int × List (List Cl) × Int × Int) := if a0.size ≤ 34359738368 ∧ a1.size ≤ 34359738368 then some (cntW a3,rowsL a0 a1 (if a2 < 0 then 0 else a2) a3,(endL a0 a1 (if a2 < 0 then 0 else a2) a3).2.1,(endL a0 a1 (if a2 < 0 then 0 else a2) a3).2.2) else none
def bodkinref20_Lay.f (a0 a1 : ByteArray) (a2 a3 : Int) : Option (Int × List (List Cl) × Int × Int) := if a0.size ≤ 34359738368 ∧ a1.size ≤ 34359738368 then some (cntW a3,rowsL a0 a1 a2 a3,(endL a0 a1 a2 a3).2.1,(endL a0 a1 a2 a3).2.2) else none
def layout_Places.f (a0 a1 : ByteArray) (a2 : Int) : Option (List Pl) := if a0.size ≤ 34359738368 ∧ a1.size ≤ 34359738368 then some (placesL a0 a1 a2) else none
theorem held_w (a : Int) : layout_held.f a = some (cntW a) := rfl
theorem counted_w (a : Int) : bodkinref20_Counted.f a = some (cntW a) := rfl
theorem layout_Lay.calls (a0 a1 : ByteArray) (a2 a3 : Int) (r1 : Int) (r2 : List (List Cl)) (r3 r4 : Int) (w : World) (hT : Lib.Utf8Tabs 0 1 w) (h : layout_Lay.f a0 a1 a2 a3 = some (r1,r2,r3,r4)) :
  Calls Tryd.prog 14 #[.string a0,.string a1,.int .i64 a2,.int .i64 a3] w fun e w' => ∃ v1_ : Value,e = .returned (.agg #[.int .i64 r1,v1_,.int .i64 r3,.int .i64 r4]) ∧ Kd.S (Kd.slice 35 k35) 33 w' w.heap.size (fun _ => True) v1_ r2 ∧ Below w.heap.size w w' := by
 unfold layout_Lay.f at h
 split at h
 ·rename_i hs
  cases h
  exact lay_any a0 a1 a2 a3 (cntW a3) w (by omega) (by omega) (held_w a3) hT _ rfl _ rfl _ (Lib.hid rfl)
 ·cases h
theorem bodkinref20_Lay.calls (a0 a1 : ByteArray) (a2 a3 : Int) (r1 : Int) (r2 : List (List Cl)) (r3 r4 : Int) (w : World) (h : bodkinref20_Lay.f a0 a1 a2 a3 = some (r1,r2,r3,r4)) :
  Calls Tryd.prog 13 #[.string a0,.string a1,.int .i64 a2,.int .i64 a3] w fun e w' => ∃ v1_ : Value,e = .returned (.agg #[.int .i64 r1,v1_,.int .i64 r3,.int .i64 r4]) ∧ Kd.S (Kd.slice 35 k35) 33 w' w.heap.size (fun _ => True) v1_ r2 ∧ Below w.heap.size w w' := by
 unfold bodkinref20_Lay.f at h
 split at h
 ·rename_i hs
  cases h
  exact rlay_any a0 a1 a2 a3 (cntW a3) w hs.1 hs.2 (counted_w a3) (ref_ok a0 hs.1) (ref_ok a1 hs.2) _ (Lib.hid rfl) _ rfl _ (Lib.hid rfl)
 ·cases h
theorem layout_Places.calls (a0 a1 : ByteArray) (a2 : Int) (r : List Pl) (w : World) (hT : Lib.Utf8Tabs 0 1 w) (h : layout_Places.f a0 a1 a2 = some r) :
  Calls Tryd.prog 25 #[.string a0,.string a1,.int .i64 a2] w fun e w' => ∃ v0_ : Value,e = .returned (v0_) ∧ Kd.R k27 27 w' w.heap.size (fun _ => True) v0_ r ∧ Below w.heap.size w w' := by
 unfold layout_Places.f at h
 split at h
 ·rename_i hs
  cases h
  exact places_any a0 a1 a2 (cntW a2) w (by omega) (by omega) (held_w a2) hT _ rfl _ (Lib.hid rfl)
 ·cases h
end Go.Proofs.YtnpjaaldppemlaaDoor.U
end
