/- What the law LayoutPlaces reaches of this seat's own texts, merged; what nothing uses is left out. -/
import Derived.Test.YtnpjaaldppemlaaDoorZLayoutPlaces0
import Derived.Test.YtnpjaaldppemlaaDoorZLayoutPlaces1
import Derived.Test.YtnpjaaldppemlaaDoorZLayoutPlaces2
import Derived.Test.YtnpjaaldppemlaaDoorZLayoutPlaces3
section
namespace Go.Proofs.YtnpjaaldppemlaaDoor.U
open Go.RowKit Go.Proofs.YtnpjaaldppemlaaDoorW.PrintWords Go.Proofs.YtnpjaaldppemlaaDoorW.PrintLast Go.Proofs.YtnpjaaldppemlaaDoorW.PrintMore
set_option linter.unusedVariables false
set_option linter.unusedSimpArgs false
def pncell3.T : Bool × List (List Nat × List Nat) := (true,[([],[]),([0],[0]),([1],[1]),([2],[2]),([],[]),([4],[4]),([5],[5]),([6],[6]),([7],[7]),([],[]),([3,8,0,1,2,3,4,5,6,7,8,9],[3,8]),([10,9,0,1,2,3,4,5,6,7,8,9],[9,10])])
def pncell3.B : List Nat := [0,1,3,7,0,16,48,112,240,0,1023,2047]
theorem pncell3.tab : rtab .any (opsOf Tryd.f79 3) = pncell3.T := by kernel_rfl
theorem pncell3.bits : waitsOk pncell3.T.2 pncell3.B = true := by kernel_rfl
def grput1.T : Bool × List (List Nat × List Nat) := (true,[([],[]),([0],[0]),([1],[1]),([2],[2]),([],[]),([4],[4]),([5],[5]),([6],[6]),([7],[7]),([],[]),([9],[9]),([10],[10]),([11],[11]),([],[]),([13],[13]),([14],[14]),([15],[15]),([16],[16]),([12,17],[12,17]),([18],[18]),([],[]),([20],[20]),([19,21],[19,21]),([3,8,0,1,2,3,4,5,6,7,8,9,10,11,12,13,14,15,16,17,18,19,20,21,22],[3,8]),([23,22,22,0,1,2,3,4,5,6,7,8,9,10,11,12,13,14,15,16,17,18,19,20,21,22],[22,23])])
def grput1.B : List Nat := [0,1,3,7,0,16,48,112,240,0,512,1536,3584,0,8192,24576,57344,122880,261632,523776,0,1048576,4193792,8388607,16777215]
theorem grput1.tab : rtab .any (opsOf Tryd.f55 1) = grput1.T := by kernel_rfl
theorem grput1.bits : waitsOk grput1.T.2 grput1.B = true := by kernel_rfl
/-- The rows behind a cell's laying,and the pen. -/
def setRow (rows : List (List Cl)) (r : Nat) (L : List Cl) : List (List Cl) := rows.set r L
theorem grid_at {T base p : Nat} {ok : Nat → Prop} {W : World} {wd r c : Int} {rows : List (List Cl)} {rv : Value} (h1 : W.heap[p]? = some (.cells #[.int .i64 wd,rv,.int .i64 r,.int .i64 c] T (0,0))) (h2 : Kd.S kRow 33 W base ok rv rows) (h3 : base ≤ p) (h4 : ¬ ok p) : GridAt T base p ok W wd rows r c := ⟨⟨rv,h1,h2⟩,h3,h4⟩
/-- What stands behind the row's slot being written anew. -/
theorem slot_put {base g n cap : Nat} {ok okT : Nat → Prop} {V : World} {rows : List (List Cl)} {r : Int} {cs : List Value} {v1 : Value} {L : List Cl} (hH : Kd.H kRow 33 V base ok (.slice (some ⟨g,0,none⟩) n cap) rows r okT cs) (h0 : 0 ≤ r) (h1 : r < n) (hc : cs.length = 1) (hR : Kd.R k35 35 V base okT v1 L) :
  Kd.S kRow 33 (V.setCell ⟨g,r.toNat,none⟩ v1) base ok (.slice (some ⟨g,0,none⟩) n cap) (setRow rows r.toNat L) := by
 obtain ⟨A1,c1,rfl⟩ := Kd.R_slice hR
 have h := (Kd.S_seg0 (seg := [.slice A1 L.length c1]) (j := 0) (x' := L) hH h0 h1 (Nat.le_refl 1) (by
  rw [List.take_zero,List.nil_append,List.drop_eq_nil_of_le (by rw [hc];exact Nat.le_refl _),List.append_nil]
  exact Kd.M_row hR) (fun k hk => hk)).1
 have hz : (kRow).sz = 1 := rfl
 rw [hz,Nat.mul_one,Nat.add_zero] at h
 exact h
theorem hin_at {base g n cap : Nat} {ok okT : Nat → Prop} {V : World} {rows : List (List Cl)} {r : Int} {v : Value} (hH : Kd.H kRow 33 V base ok (.slice (some ⟨g,0,none⟩) n cap) rows r okT [v]) (h0 : 0 ≤ r) (h1 : r < n) : V.cell? ⟨g,r.toNat,none⟩ = some v := by
 have h := (Kd.H_at hH h0 h1).1 0 _ rfl
 have hz : (kRow).sz = 1 := rfl
 rwa [hz,Nat.mul_one,Nat.add_zero] at h
theorem cell_below {w w' : World} {a : Addr} {v : Value} (h : w.cell? a = some v) (hb : Below w.heap.size w w') : w'.cell? a = some v := by
 have := hb.block a.block (World.block_lt_of_cell? w a h)
 simpa [World.cell?,this] using h
theorem sees5 {w w' : World} {a0 a1 a2 a3 a4 : Addr} {v0 v1 v2 v3 v4 : Value} (h : w.cell? a0 = some v0 ∧ w.cell? a1 = some v1 ∧ w.cell? a2 = some v2 ∧ w.cell? a3 = some v3 ∧ w.cell? a4 = some v4) (hb : Below w.heap.size w w') : w'.cell? a0 = some v0 ∧ w'.cell? a1 = some v1 ∧ w'.cell? a2 = some v2 ∧ w'.cell? a3 = some v3 ∧ w'.cell? a4 = some v4 := ⟨cell_below h.1 hb,cell_below h.2.1 hb,cell_below h.2.2.1 hb,cell_below h.2.2.2.1 hb,cell_below h.2.2.2.2 hb⟩
set_option maxRecDepth 100000 in
set_option maxHeartbeats 8000000 in
theorem pn_cell {base p : Nat} {ok : Nat → Prop} {W : World} {wd r c : Int} {rows : List (List Cl)} (h : GridAt 55 base p ok W wd rows r c) (hf : ∀ k,W.heap.size ≤ k → ok k) (hb : base ≤ W.heap.size) (hr : 0 ≤ r ∧ r < rows.length) (hc : 0 ≤ c ∧ c ≤ 4398046511104) (hl : rows.length ≤ 4398046511104) (hrl : (rows.getD r.toNat []).length ≤ 1099511627776) (x : Cl) :
  Calls Tryd.prog 79 #[.pointer (some ⟨p,0,none⟩),.agg #[.string x.f0,.int .i64 x.f1]] W fun e w' => e = .returned (.tuple #[]) ∧ (if c + 1 = wd then GridAt 55 base p ok w' wd (setRow rows r.toNat (rows.getD r.toNat [] ++ [x]) ++ [[]]) (r + 1) 0 else GridAt 55 base p ok w' wd (setRow rows r.toNat (rows.getD r.toNat [] ++ [x])) r (c + 1)) ∧ Below base W w' ∧ Kept W w' (fun k => ok k ∨ k = p) := by
 obtain ⟨⟨rv,hp,hS⟩,hlow,hne⟩ := h
 obtain ⟨g,cap,rfl,hg0,hglt,cells,hgc⟩ := Kd.S_form hS (by omega)
 have hpl := blk_lt hp
 have hgok : ok g := hS.own_ok g rfl
 have hpg : p ≠ g := fun he => by subst he;exact hne hgok
 obtain ⟨oki,ce,hcl,hM,hcc,hfr,hoki,hH⟩ := Kd.S_elem hS [] r hr.1 (by omega)
 generalize hL : rows.getD r.toNat [] = L at hM hrl ⊢
 generalize hLx : L ++ [x] = Lx
 obtain ⟨iv,rfl,hIR⟩ := hM
 have hz : (kRow).sz = 1 := rfl
 have hw : IntKind.i64.wrap (c + 1) = c + 1 := (i64_w _).trans (by unfold wrap64;omega)
 obtain ⟨A1,cc1,rfl⟩ := Kd.R_slice hIR
 have hin : W.cell? ⟨g,r.toNat,none⟩ = some (.slice A1 L.length cc1) := by have h_ := hcc 0 _ rfl;rwa [hz,Nat.mul_one,Nat.add_zero] at h_
 have c1 : W.cell? ⟨p,1,none⟩ = some _ := (blk_cell hp 1).trans rfl
 have c2 : W.cell? ⟨p,2,none⟩ = some (.int .i64 r) := (blk_cell hp 2).trans rfl
 have hii := Kd.R_lt hIR
 have hoT : ∀ k,oki k → ok k := fun k hk => (hoki k hk).1
 have hip : ∀ k,(Value.slice A1 L.length cc1).ownBlock = some k → k ≠ p := fun k hk he => hne (he ▸ hoT k (hIR.1 k hk))
 have hig : ∀ k,(Value.slice A1 L.length cc1).ownBlock = some k → k ≠ g := fun k hk => (hoki k (hIR.1 k hk)).2
 clear hcc hfr hcl hS hgc
 go_enter Tryd.func79,Tryd.ntmps79
 go_wp2
 go_quiet (fail)
 have hbl : Below W.heap.size W ((W.alloc (.cells #[.string x.f0,.int .i64 x.f1] 35 (0,0))).drewN nq) := pw_below_drewN (below_alloc (Below.refl _ _) _) nq
 have hB0 : Below base W ((W.alloc (.cells #[.string x.f0,.int .i64 x.f1] 35 (0,0))).drewN nq) := hbl.mono hb
 have hK0 := Kept.of_below hbl (fun k => ok k ∨ k = p)
 have hH0 := Kd.H_widen (Kd.H_below hH hbl)
 have hI0 := Kd.R_below hIR hbl
 have hp0 := (hbl.block p hpl).trans hp
 have hx0 : ((W.alloc (.cells #[.string x.f0,.int .i64 x.f1] 35 (0,0))).drewN nq).heap[W.heap.size]? = _ := World.alloc_heap_new W _
 generalize ((W.alloc (.cells #[.string x.f0,.int .i64 x.f1] 35 (0,0))).drewN nq) = V at hbl hB0 hK0 hH0 hI0 hp0 hx0 ⊢
 generalize hbx : W.heap.size = bx at hx0 ⊢
 have x0 := blk_cell hx0 0
 have x1 := blk_cell hx0 1
 have hxl := blk_lt hx0
 have hbV := Nat.le_trans hb hbl.size
 clear hH hIR hin c1 c2
 go_wp2_with ((with_reducible refine gate_builtin (b := .append) (xs := #[.tmp 16,.tmp 18]) rfl ?_);at_builtin;(refine Kd.R_append k35 (w0 := W) base rfl (.tmp 16) (.tmp 18) 33 35 (.agg #[.string ⟨#[]⟩,.int .i64 0]) 24 rfl Tryd.underlying33 info35 rfl (by decide) (by decide) (.slice A1 L.length cc1) L x [.string x.f0,.int .i64 x.f1] (fun k => oki k ∨ ok k ∧ V.heap.size ≤ k) (fun _ => False) rfl rfl (k35_mkM _ _ _ x) (fun _ hk => hk.elim) (fun k hk => .inr ⟨hf k (Nat.le_trans hbl.size hk),hk⟩) (Kd.R_mono hI0 (fun k hk => .inl hk)) hB0 hbV (by omega) ?_;intro v1 w1 hI1 hB1 hg1 hat1;rw [hLx] at hI1;obtain ⟨A2,cc2,rfl⟩ := Kd.R_slice hI1;have hp1 := blk_grown hp0 hg1 (fun he => hip p he.symm rfl);have hH1 := Kd.H_grown hH0 hg1 (fun k hk => .inl (hI0.1 k hk));have hK1 := Kept.of_grown hg1 hK0 (fun k hk => .inl (.inl (hoT k (hI0.1 k hk))))))
 have hS_ : w1.drew.cell? ⟨p,1,none⟩ = some (.slice (some ⟨g,0,none⟩) rows.length cap) ∧ w1.drew.cell? ⟨p,2,none⟩ = some (.int .i64 r) := ⟨(blk_cell hp1 1).trans rfl,(blk_cell hp1 2).trans rfl⟩
 refine start_ (n := 12) (S := fun w' => w'.cell? ⟨p,1,none⟩ = some (.slice (some ⟨g,0,none⟩) rows.length cap) ∧ w'.cell? ⟨p,2,none⟩ = some (.int .i64 r)) (ds := [11]) #[false,false,false,false,false,false,false,false,false,false,false,false] (by kernel_rfl) rfl rfl hS_ (fun hHeld => ?_);refine with_tabW pncell3.tab pncell3.bits (fun HT_ HW_ => ?_)
 refine pure_ (i := 0) (N := (some 20)) (v := ?_) (a' := ?_) #[true,false,false,false,false,false,false,false,false,false,false,false] rfl rfl (any_of HT_.out (by kernel_rfl)) (fun _ _ _ h => h) (Or.inl ⟨by rfl,?_⟩) ?_ ?_
 rotate_left
 ·intro w'
  go_simp
  with_reducible rfl
 rotate_left
 ·simp only [Act.put,List.setIfInBounds_toArray,List.set_cons_zero,List.set_cons_succ,i64_w,i32_w]
  rfl
 refine pure_ (i := 1) (N := (some 21)) (v := ?_) (a' := ?_) #[true,true,false,false,false,false,false,false,false,false,false,false] rfl rfl (any_of HT_.out (by kernel_rfl)) (fun _ _ _ h => h) (Or.inl ⟨by rfl,?_⟩) ?_ ?_
 rotate_left
 ·intro w'
  go_simp
  with_reducible rfl
 rotate_left
 ·simp only [Act.put,List.setIfInBounds_toArray,List.set_cons_zero,List.set_cons_succ,i64_w,i32_w]
  rfl
 refine pure_ (i := 2) (N := (some 22)) (v := ?_) (a' := ?_) #[true,true,true,false,false,false,false,false,false,false,false,false] rfl rfl (any_of HT_.out (by kernel_rfl)) (fun _ _ _ h => h) (Or.inl ⟨by rfl,?_⟩) ?_ ?_
 rotate_left
 ·intro w'
  go_simp
  with_reducible rfl
 rotate_left
 ·simp only [Act.put,List.setIfInBounds_toArray,List.set_cons_zero,List.set_cons_succ,i64_w,i32_w]
  rfl
 refine take_ (i := 3) (N := (some 23)) (v := ?_) (a' := ?_) #[true,true,true,true,false,false,false,false,false,false,false,false] rfl rfl (take_ofW HT_.out HW_.out (by kernel_rfl)) (fun _ _ _ h => h) (Or.inl ⟨by rfl,?_⟩) hHeld ?_ ?_
 rotate_left
 ·rintro w' ⟨s1,s2⟩
  go_simp
  with_reducible rfl
 rotate_left
 ·simp only [Act.put,List.setIfInBounds_toArray,List.set_cons_zero,List.set_cons_succ,i64_w,i32_w]
  rfl
 refine pure_ (i := 4) (N := (some 24)) (v := ?_) (a' := ?_) #[true,true,true,true,true,false,false,false,false,false,false,false] rfl rfl (any_of HT_.out (by kernel_rfl)) (fun _ _ _ h => h) (Or.inl ⟨by rfl,?_⟩) ?_ ?_
 rotate_left
 ·intro w'
  go_simp
  with_reducible rfl
 rotate_left
 ·simp only [Act.put,List.setIfInBounds_toArray,List.set_cons_zero,List.set_cons_succ,i64_w,i32_w]
  rfl
 refine pure_ (i := 5) (N := (some 25)) (v := ?_) (a' := ?_) #[true,true,true,true,true,true,false,false,false,false,false,false] rfl rfl (any_of HT_.out (by kernel_rfl)) (fun _ _ _ h => h) (Or.inl ⟨by rfl,?_⟩) ?_ ?_
 rotate_left
 ·intro w'
  go_simp
  with_reducible rfl
 rotate_left
 ·simp only [Act.put,List.setIfInBounds_toArray,List.set_cons_zero,List.set_cons_succ,i64_w,i32_w]
  rfl
 refine pure_ (i := 6) (N := (some 26)) (v := ?_) (a' := ?_) #[true,true,true,true,true,true,true,false,false,false,false,false] rfl rfl (any_of HT_.out (by kernel_rfl)) (fun _ _ _ h => h) (Or.inl ⟨by rfl,?_⟩) ?_ ?_
 rotate_left
 ·intro w'
  go_simp
  with_reducible rfl
 rotate_left
 ·simp only [Act.put,List.setIfInBounds_toArray,List.set_cons_zero,List.set_cons_succ,i64_w,i32_w]
  rfl
 refine pure_ (i := 7) (N := (some 27)) (v := ?_) (a' := ?_) #[true,true,true,true,true,true,true,true,false,false,false,false] rfl rfl (any_of HT_.out (by kernel_rfl)) (fun _ _ _ h => h) (Or.inl ⟨by rfl,?_⟩) ?_ ?_
 rotate_left
 ·intro w'
  go_simp
  with_reducible rfl
 rotate_left
 ·simp only [Act.put,List.setIfInBounds_toArray,List.set_cons_zero,List.set_cons_succ,i64_w,i32_w]
  rfl
 refine take_ (i := 8) (N := (some 28)) (v := ?_) (a' := ?_) #[true,true,true,true,true,true,true,true,true,false,false,false] rfl rfl (take_ofW HT_.out HW_.out (by kernel_rfl)) (fun _ _ _ h => h) (Or.inl ⟨by rfl,?_⟩) hHeld ?_ ?_
 rotate_left
 ·rintro w' ⟨s1,s2⟩
  go_simp
  with_reducible rfl
 rotate_left
 ·simp only [Act.put,List.setIfInBounds_toArray,List.set_cons_zero,List.set_cons_succ,i64_w,i32_w]
  rfl
 refine pure_ (i := 9) (N := (some 29)) (v := ?_) (a' := ?_) #[true,true,true,true,true,true,true,true,true,true,false,false] rfl rfl (any_of HT_.out (by kernel_rfl)) (fun _ _ _ h => h) (Or.inl ⟨by rfl,?_⟩) ?_ ?_
 rotate_left
 ·intro w'
  go_simp
  with_reducible rfl
 rotate_left
 ·simp only [Act.put,List.setIfInBounds_toArray,List.set_cons_zero,List.set_cons_succ,i64_w,i32_w]
  rfl
 refine pure_ (i := 10) (N := (some 30)) (v := ?_) (a' := ?_) #[true,true,true,true,true,true,true,true,true,true,true,false] rfl rfl (any_of HT_.out (by kernel_rfl)) (fun _ _ _ h => h) (Or.inl ⟨by rfl,?_⟩) ?_ ?_
 rotate_left
 ·intro w'
  go_simp
  with_reducible rfl
 rotate_left
 ·simp only [Act.put,List.setIfInBounds_toArray,List.set_cons_zero,List.set_cons_succ,i64_w,i32_w]
  rfl
 refine last_ (i := 11) (N := none) #[true,true,true,true,true,true,true,true,true,true,true,true] rfl rfl (one_of HT_.out (by kernel_rfl)) (by decide) (fun K hK => ?_)
 have hin1 := (Kd.H_at hH1 hr.1 (by omega)).1 0 _ rfl
 have hfi1 := (Kd.H_at hH1 hr.1 (by omega)).2 0
 rw [hz,Nat.mul_one,Nat.add_zero] at hin1 hfi1
 have hin2 : w1.drew.cell? ⟨g,r.toNat,none⟩ = _ := hin1
 have hfi2 : w1.drew.frozen? ⟨g,r.toNat,none⟩ = _ := hfi1
 refine skip_ (w1 := ?_) (by rfl) rfl ?_ ?_
 rotate_left
 ·go_simp
  rfl
 refine hK.out _ _ ?_
 clear hK K
 have hS2 := Kd.S_drew (slot_put hH1 hr.1 (by omega) rfl hI1)
 have hp2 : (w1.setCell ⟨g,r.toNat,none⟩ (.slice A2 Lx.length cc2)).drew.heap[p]? = _ := (Below.heap_setCell w1 ⟨g,r.toNat,none⟩ (.slice A2 Lx.length cc2) p hpg).trans hp1
 have hB2 := below_drew1 (hB1.setCell (p := ⟨g,r.toNat,none⟩) hg0 (.slice A2 Lx.length cc2))
 have hK2 := Kept.drew (hK1.setCell (p := ⟨g,r.toNat,none⟩) (.inl (.inl hgok)) (.slice A2 Lx.length cc2))
 generalize (w1.setCell ⟨g,r.toNat,none⟩ (.slice A2 Lx.length cc2)).drew = V1 at hS2 hp2 hB2 hK2 ⊢
 clear hS_ hHeld hin1 hfi1 hin2 hfi2 hp1 hH1 hI1 hB1 hg1 hat1 hK1
 have hS1 := hS2
 have hp1 := hp2
 have hB1 := hB2
 have hK1 := hK2
 clear hS2 hp2 hB2 hK2
 refine done_ (done_of HT_.out (by kernel_rfl)) ?_
 clear HT_ HW_
 have hpl1 := blk_lt hp1
 have d3 : V1.cell? ⟨p,3,none⟩ = some (.int .i64 c) := (blk_cell hp1 3).trans rfl
 have g3 := blk_frozen hp1 3
 go_upto_region 5 with (fail)
 have hp2 : (V1.setCell ⟨p,3,none⟩ (.int .i64 (c + 1))).heap[p]? = _ := blk_put hp1 3 _ rfl
 have hS2 := Kd.S_far (p := ⟨p,3,none⟩) hS1 (fun k hk (he : k = p) => hne (he ▸ hk)) (.int .i64 (c + 1))
 have hB2 := hB1.setCell (p := ⟨p,3,none⟩) hlow (.int .i64 (c + 1))
 have hK2 := hK1.setCell (p := ⟨p,3,none⟩) (.inl (.inr rfl)) (.int .i64 (c + 1))
 generalize (V1.setCell ⟨p,3,none⟩ (.int .i64 (c + 1))) = V2 at hp2 hS2 hB2 hK2 ⊢
 clear hp1 hS1 hB1 hK1 d3 g3 hpl1
 have hpl2 := blk_lt hp2
 have e0 : V2.cell? ⟨p,0,none⟩ = some (.int .i64 wd) := (blk_cell hp2 0).trans rfl
 have e3 : V2.cell? ⟨p,3,none⟩ = some (.int .i64 (c + 1)) := (blk_cell hp2 3).trans rfl
 have hn : ∀ k,ok k → k ≠ p := fun k hk he => hne (he ▸ hk)
 go_quiet (fail)
 have hp3 : (V2.drewN nq).heap[p]? = _ := hp2
 have hS3 := Kd.S_drewN hS2 nq
 have hB3 := pw_below_drewN hB2 nq
 have hK3 := Kept.drewN hK2 nq
 generalize V2.drewN nq = V3 at hp3 hS3 hB3 hK3 ⊢
 clear hp2 hS2 hB2 hK2 e0 e3 hpl2
 by_cases hcw : c + 1 = wd
 ·have hcw' := eq_true hcw
  have hlen : (setRow rows r.toNat Lx).length = rows.length := by unfold setRow;simp
  go_wp2_with (go_at_call 78;refine (pn_down (base := base) (ok := ok) (grid_at hp3 hS3 hlow hne) (fun k hk => hf k (Nat.le_trans hK3.1 hk)) (Nat.le_trans hb hK3.1) ⟨hr.1,by omega⟩ (by omega)).mono ?_;rintro e w6 ⟨rfl,hG6,hB6,hK6⟩)
  refine bodyPost_end (results_none rfl _ _ _) rfl ?_
  exact ⟨rfl,hG6,hB3.trans hB6,hK3.then_ hK6 (fun k hk => .inl hk)⟩
 ·have hcw' := eq_false hcw
  go_wp2
  refine bodyPost_end (results_none rfl _ _ _) rfl ?_
  exact ⟨rfl,grid_at hp3 hS3 hlow hne,hB3,hK3⟩
set_option maxRecDepth 100000 in
set_option maxHeartbeats 8000000 in
theorem gr_put {base p : Nat} {ok : Nat → Prop} {W : World} {wd r c : Int} {rows : List (List Cl)} (h : GridAt 65 base p ok W wd rows r c) (hf : ∀ k,W.heap.size ≤ k → ok k) (hb : base ≤ W.heap.size) (hr : 0 ≤ r ∧ r < rows.length) (hc : 0 ≤ c ∧ c ≤ 4398046511104) (hl : rows.length ≤ 4398046511104) (hrl : (rows.getD r.toNat []).length ≤ 1099511627776) (x : Cl) :
  Calls Tryd.prog 55 #[.pointer (some ⟨p,0,none⟩),.agg #[.string x.f0,.int .i64 x.f1]] W fun e w' => e = .returned (.tuple #[]) ∧ (if c + 1 = wd then GridAt 65 base p ok w' wd (setRow rows r.toNat (rows.getD r.toNat [] ++ [x]) ++ [[]]) (r + 1) 0 else GridAt 65 base p ok w' wd (setRow rows r.toNat (rows.getD r.toNat [] ++ [x])) r (c + 1)) ∧ Below base W w' ∧ Kept W w' (fun k => ok k ∨ k = p) := by
 obtain ⟨⟨rv,hp,hS⟩,hlow,hne⟩ := h
 obtain ⟨g,cap,rfl,hg0,hglt,cells,hgc⟩ := Kd.S_form hS (by omega)
 have hpl := blk_lt hp
 have hgok : ok g := hS.own_ok g rfl
 have hpg : p ≠ g := fun he => by subst he;exact hne hgok
 obtain ⟨oki,ce,hcl,hM,hcc,hfr,hoki,hH⟩ := Kd.S_elem hS [] r hr.1 (by omega)
 generalize hL : rows.getD r.toNat [] = L at hM hrl ⊢
 generalize hLx : L ++ [x] = Lx
 obtain ⟨iv,rfl,hIR⟩ := hM
 have hz : (kRow).sz = 1 := rfl
 have hw : IntKind.i64.wrap (c + 1) = c + 1 := (i64_w _).trans (by unfold wrap64;omega)
 obtain ⟨A1,cc1,rfl⟩ := Kd.R_slice hIR
 have hin : W.cell? ⟨g,r.toNat,none⟩ = some (.slice A1 L.length cc1) := by have h_ := hcc 0 _ rfl;rwa [hz,Nat.mul_one,Nat.add_zero] at h_
 have c1 : W.cell? ⟨p,1,none⟩ = some _ := (blk_cell hp 1).trans rfl
 have c2 : W.cell? ⟨p,2,none⟩ = some (.int .i64 r) := (blk_cell hp 2).trans rfl
 have hii := Kd.R_lt hIR
 have hoT : ∀ k,oki k → ok k := fun k hk => (hoki k hk).1
 have hip : ∀ k,(Value.slice A1 L.length cc1).ownBlock = some k → k ≠ p := fun k hk he => hne (he ▸ hoT k (hIR.1 k hk))
 have hig : ∀ k,(Value.slice A1 L.length cc1).ownBlock = some k → k ≠ g := fun k hk => (hoki k (hIR.1 k hk)).2
 clear hcc hfr hcl hS hgc
 go_enter Tryd.func55,Tryd.ntmps55
 go_upto_region 1 with (fail)
 have hbl : Below W.heap.size W (W.alloc (.cells #[.string x.f0,.int .i64 x.f1] 35 (0,0))).drew := below_drew1 (below_alloc (Below.refl _ _) _)
 have hB0 : Below base W (W.alloc (.cells #[.string x.f0,.int .i64 x.f1] 35 (0,0))).drew := hbl.mono hb
 have hK0 := Kept.of_below hbl (fun k => ok k ∨ k = p)
 have hH0 := Kd.H_widen (Kd.H_below hH hbl)
 have hI0 := Kd.R_below hIR hbl
 have hp0 := (hbl.block p hpl).trans hp
 have hx0 : (W.alloc (.cells #[.string x.f0,.int .i64 x.f1] 35 (0,0))).drew.heap[W.heap.size]? = _ := World.alloc_heap_new W _
 have hib : ∀ k,(Value.slice A1 L.length cc1).ownBlock = some k → k ≠ W.heap.size := fun k hk => by have := hii k hk;omega
 have hi0 := hin_at (Kd.H_below hH hbl) hr.1 (by omega)
 clear hH hIR hin c1 c2 hii
 have hS_ : (fun w' : World => w'.cell? ⟨p,1,none⟩ = some (.slice (some ⟨g,0,none⟩) rows.length cap) ∧ w'.cell? ⟨p,2,none⟩ = some (.int .i64 r) ∧ w'.cell? ⟨g,r.toNat,none⟩ = some (.slice A1 L.length cc1) ∧ w'.cell? ⟨W.heap.size,0,none⟩ = some (.string x.f0) ∧ w'.cell? ⟨W.heap.size,1,none⟩ = some (.int .i64 x.f1)) (W.alloc (.cells #[.string x.f0,.int .i64 x.f1] 35 (0,0))).drew := ⟨(blk_cell hp0 1).trans rfl,(blk_cell hp0 2).trans rfl,hi0,(blk_cell hx0 0).trans rfl,(blk_cell hx0 1).trans rfl⟩
 refine start_ (n := 25) (S := fun w' => w'.cell? ⟨p,1,none⟩ = some (.slice (some ⟨g,0,none⟩) rows.length cap) ∧ w'.cell? ⟨p,2,none⟩ = some (.int .i64 r) ∧ w'.cell? ⟨g,r.toNat,none⟩ = some (.slice A1 L.length cc1) ∧ w'.cell? ⟨W.heap.size,0,none⟩ = some (.string x.f0) ∧ w'.cell? ⟨W.heap.size,1,none⟩ = some (.int .i64 x.f1)) (ds := [24]) #[false,false,false,false,false,false,false,false,false,false,false,false,false,false,false,false,false,false,false,false,false,false,false,false,false] (by kernel_rfl) rfl rfl hS_ (fun hHeld => ?_);refine with_tabW grput1.tab grput1.bits (fun HT_ HW_ => ?_)
 generalize (W.alloc (.cells #[.string x.f0,.int .i64 x.f1] 35 (0,0))).drew = V at hbl hB0 hK0 hH0 hI0 hp0 hx0 hHeld hi0 ⊢
 clear hS_
 have hbV := Nat.le_trans hb hbl.size
 refine pure_ (i := 0) (N := (some 4)) (v := ?_) (a' := ?_) #[true,false,false,false,false,false,false,false,false,false,false,false,false,false,false,false,false,false,false,false,false,false,false,false,false] rfl rfl (any_of HT_.out (by kernel_rfl)) (fun _ _ _ h => h) (Or.inl ⟨by rfl,?_⟩) ?_ ?_
 rotate_left
 ·intro w'
  go_simp
  with_reducible rfl
 rotate_left
 ·simp only [Act.put,List.setIfInBounds_toArray,List.set_cons_zero,List.set_cons_succ,i64_w,i32_w]
  rfl
 refine pure_ (i := 1) (N := (some 5)) (v := ?_) (a' := ?_) #[true,true,false,false,false,false,false,false,false,false,false,false,false,false,false,false,false,false,false,false,false,false,false,false,false] rfl rfl (any_of HT_.out (by kernel_rfl)) (fun _ _ _ h => h) (Or.inl ⟨by rfl,?_⟩) ?_ ?_
 rotate_left
 ·intro w'
  go_simp
  with_reducible rfl
 rotate_left
 ·simp only [Act.put,List.setIfInBounds_toArray,List.set_cons_zero,List.set_cons_succ,i64_w,i32_w]
  rfl
 refine pure_ (i := 2) (N := (some 6)) (v := ?_) (a' := ?_) #[true,true,true,false,false,false,false,false,false,false,false,false,false,false,false,false,false,false,false,false,false,false,false,false,false] rfl rfl (any_of HT_.out (by kernel_rfl)) (fun _ _ _ h => h) (Or.inl ⟨by rfl,?_⟩) ?_ ?_
 rotate_left
 ·intro w'
  go_simp
  with_reducible rfl
 rotate_left
 ·simp only [Act.put,List.setIfInBounds_toArray,List.set_cons_zero,List.set_cons_succ,i64_w,i32_w]
  rfl
 refine take_ (i := 3) (N := (some 7)) (v := ?_) (a' := ?_) #[true,true,true,true,false,false,false,false,false,false,false,false,false,false,false,false,false,false,false,false,false,false,false,false,false] rfl rfl (take_ofW HT_.out HW_.out (by kernel_rfl)) (fun _ _ _ h => h) (Or.inl ⟨by rfl,?_⟩) hHeld ?_ ?_
 rotate_left
 ·rintro w' ⟨s1,s2,s3,s4,s5⟩
  go_simp
  with_reducible rfl
 rotate_left
 ·simp only [Act.put,List.setIfInBounds_toArray,List.set_cons_zero,List.set_cons_succ,i64_w,i32_w]
  rfl
 refine pure_ (i := 4) (N := (some 8)) (v := ?_) (a' := ?_) #[true,true,true,true,true,false,false,false,false,false,false,false,false,false,false,false,false,false,false,false,false,false,false,false,false] rfl rfl (any_of HT_.out (by kernel_rfl)) (fun _ _ _ h => h) (Or.inl ⟨by rfl,?_⟩) ?_ ?_
 rotate_left
 ·intro w'
  go_simp
  with_reducible rfl
 rotate_left
 ·simp only [Act.put,List.setIfInBounds_toArray,List.set_cons_zero,List.set_cons_succ,i64_w,i32_w]
  rfl
 refine pure_ (i := 5) (N := (some 9)) (v := ?_) (a' := ?_) #[true,true,true,true,true,true,false,false,false,false,false,false,false,false,false,false,false,false,false,false,false,false,false,false,false] rfl rfl (any_of HT_.out (by kernel_rfl)) (fun _ _ _ h => h) (Or.inl ⟨by rfl,?_⟩) ?_ ?_
 rotate_left
 ·intro w'
  go_simp
  with_reducible rfl
 rotate_left
 ·simp only [Act.put,List.setIfInBounds_toArray,List.set_cons_zero,List.set_cons_succ,i64_w,i32_w]
  rfl
 refine pure_ (i := 6) (N := (some 10)) (v := ?_) (a' := ?_) #[true,true,true,true,true,true,true,false,false,false,false,false,false,false,false,false,false,false,false,false,false,false,false,false,false] rfl rfl (any_of HT_.out (by kernel_rfl)) (fun _ _ _ h => h) (Or.inl ⟨by rfl,?_⟩) ?_ ?_
 rotate_left
 ·intro w'
  go_simp
  with_reducible rfl
 rotate_left
 ·simp only [Act.put,List.setIfInBounds_toArray,List.set_cons_zero,List.set_cons_succ,i64_w,i32_w]
  rfl
 refine pure_ (i := 7) (N := (some 11)) (v := ?_) (a' := ?_) #[true,true,true,true,true,true,true,true,false,false,false,false,false,false,false,false,false,false,false,false,false,false,false,false,false] rfl rfl (any_of HT_.out (by kernel_rfl)) (fun _ _ _ h => h) (Or.inl ⟨by rfl,?_⟩) ?_ ?_
 rotate_left
 ·intro w'
  go_simp
  with_reducible rfl
 rotate_left
 ·simp only [Act.put,List.setIfInBounds_toArray,List.set_cons_zero,List.set_cons_succ,i64_w,i32_w]
  rfl
 refine take_ (i := 8) (N := (some 12)) (v := ?_) (a' := ?_) #[true,true,true,true,true,true,true,true,true,false,false,false,false,false,false,false,false,false,false,false,false,false,false,false,false] rfl rfl (take_ofW HT_.out HW_.out (by kernel_rfl)) (fun _ _ _ h => h) (Or.inl ⟨by rfl,?_⟩) hHeld ?_ ?_
 rotate_left
 ·rintro w' ⟨s1,s2,s3,s4,s5⟩
  go_simp
  with_reducible rfl
 rotate_left
 ·simp only [Act.put,List.setIfInBounds_toArray,List.set_cons_zero,List.set_cons_succ,i64_w,i32_w]
  rfl
 refine pure_ (i := 9) (N := (some 13)) (v := ?_) (a' := ?_) #[true,true,true,true,true,true,true,true,true,true,false,false,false,false,false,false,false,false,false,false,false,false,false,false,false] rfl rfl (any_of HT_.out (by kernel_rfl)) (fun _ _ _ h => h) (Or.inl ⟨by rfl,?_⟩) ?_ ?_
 rotate_left
 ·intro w'
  go_simp
  with_reducible rfl
 rotate_left
 ·simp only [Act.put,List.setIfInBounds_toArray,List.set_cons_zero,List.set_cons_succ,i64_w,i32_w]
  rfl
 refine pure_ (i := 10) (N := (some 14)) (v := ?_) (a' := ?_) #[true,true,true,true,true,true,true,true,true,true,true,false,false,false,false,false,false,false,false,false,false,false,false,false,false] rfl rfl (any_of HT_.out (by kernel_rfl)) (fun _ _ _ h => h) (Or.inl ⟨by rfl,?_⟩) ?_ ?_
 rotate_left
 ·intro w'
  go_simp
  with_reducible rfl
 rotate_left
 ·simp only [Act.put,List.setIfInBounds_toArray,List.set_cons_zero,List.set_cons_succ,i64_w,i32_w]
  rfl
 refine pure_ (i := 11) (N := (some 15)) (v := ?_) (a' := ?_) #[true,true,true,true,true,true,true,true,true,true,true,true,false,false,false,false,false,false,false,false,false,false,false,false,false] rfl rfl (any_of HT_.out (by kernel_rfl)) (fun _ _ _ h => h) (Or.inl ⟨by rfl,?_⟩) ?_ ?_
 rotate_left
 ·intro w'
  go_simp
  with_reducible rfl
 rotate_left
 ·simp only [Act.put,List.setIfInBounds_toArray,List.set_cons_zero,List.set_cons_succ,i64_w,i32_w]
  rfl
 refine take_ (i := 12) (N := (some 16)) (v := ?_) (a' := ?_) #[true,true,true,true,true,true,true,true,true,true,true,true,true,false,false,false,false,false,false,false,false,false,false,false,false] rfl rfl (take_ofW HT_.out HW_.out (by kernel_rfl)) (fun _ _ _ h => h) (Or.inl ⟨by rfl,?_⟩) hHeld ?_ ?_
 rotate_left
 ·rintro w' ⟨s1,s2,s3,s4,s5⟩
  go_simp
  with_reducible rfl
 rotate_left
 ·simp only [Act.put,List.setIfInBounds_toArray,List.set_cons_zero,List.set_cons_succ,i64_w,i32_w]
  rfl
 refine pure_ (i := 13) (N := (some 17)) (v := ?_) (a' := ?_) #[true,true,true,true,true,true,true,true,true,true,true,true,true,true,false,false,false,false,false,false,false,false,false,false,false] rfl rfl (any_of HT_.out (by kernel_rfl)) (fun _ _ _ h => h) (Or.inl ⟨by rfl,?_⟩) ?_ ?_
 rotate_left
 ·intro w'
  go_simp
  with_reducible rfl
 rotate_left
 ·simp only [Act.put,List.setIfInBounds_toArray,List.set_cons_zero,List.set_cons_succ,i64_w,i32_w]
  rfl
 refine pure_ (i := 14) (N := (some 18)) (v := ?_) (a' := ?_) #[true,true,true,true,true,true,true,true,true,true,true,true,true,true,true,false,false,false,false,false,false,false,false,false,false] rfl rfl (any_of HT_.out (by kernel_rfl)) (fun _ _ _ h => h) (Or.inl ⟨by rfl,?_⟩) ?_ ?_
 rotate_left
 ·intro w'
  go_simp
  with_reducible rfl
 rotate_left
 ·simp only [Act.put,List.setIfInBounds_toArray,List.set_cons_zero,List.set_cons_succ,i64_w,i32_w]
  rfl
 refine pure_ (i := 15) (N := (some 19)) (v := ?_) (a' := ?_) #[true,true,true,true,true,true,true,true,true,true,true,true,true,true,true,true,false,false,false,false,false,false,false,false,false] rfl rfl (any_of HT_.out (by kernel_rfl)) (fun _ _ _ h => h) (Or.inl ⟨by rfl,?_⟩) ?_ ?_
 rotate_left
 ·intro w'
  go_simp
  with_reducible rfl
 rotate_left
 ·simp only [Act.put,List.setIfInBounds_toArray,List.set_cons_zero,List.set_cons_succ,i64_w,i32_w]
  rfl
 refine pure_ (i := 16) (N := (some 20)) (v := ?_) (a' := ?_) #[true,true,true,true,true,true,true,true,true,true,true,true,true,true,true,true,true,false,false,false,false,false,false,false,false] rfl rfl (any_of HT_.out (by kernel_rfl)) (fun _ _ _ h => h) (Or.inl ⟨by rfl,?_⟩) ?_ ?_
 rotate_left
 ·intro w'
  go_simp
  with_reducible rfl
 rotate_left
 ·simp only [Act.put,List.setIfInBounds_toArray,List.set_cons_zero,List.set_cons_succ,i64_w,i32_w]
  rfl
 refine take_ (i := 17) (N := (some 21)) (v := ?_) (a' := ?_) #[true,true,true,true,true,true,true,true,true,true,true,true,true,true,true,true,true,true,false,false,false,false,false,false,false] rfl rfl (take_ofW HT_.out HW_.out (by kernel_rfl)) (fun _ _ _ h => h) (Or.inl ⟨by rfl,?_⟩) hHeld ?_ ?_
 rotate_left
 ·rintro w' ⟨s1,s2,s3,s4,s5⟩
  go_simp
  with_reducible rfl
 rotate_left
 ·simp only [Act.put,List.setIfInBounds_toArray,List.set_cons_zero,List.set_cons_succ,i64_w,i32_w]
  rfl
 refine pure_ (i := 18) (N := (some 22)) (v := ?_) (a' := ?_) #[true,true,true,true,true,true,true,true,true,true,true,true,true,true,true,true,true,true,true,false,false,false,false,false,false] rfl rfl (any_of HT_.out (by kernel_rfl)) (fun _ _ _ h => h) (Or.inl ⟨by rfl,?_⟩) ?_ ?_
 rotate_left
 ·intro w'
  go_simp
  with_reducible rfl
 rotate_left
 ·simp only [Act.put,List.setIfInBounds_toArray,List.set_cons_zero,List.set_cons_succ,i64_w,i32_w]
  rfl
 refine take_ (i := 19) (N := (some 23)) (v := ?_) (a' := ?_) #[true,true,true,true,true,true,true,true,true,true,true,true,true,true,true,true,true,true,true,true,false,false,false,false,false] rfl rfl (take_ofW HT_.out HW_.out (by kernel_rfl)) (fun _ _ _ h => h) (Or.inl ⟨by rfl,?_⟩) hHeld ?_ ?_
 rotate_left
 ·rintro w' ⟨s1,s2,s3,s4,s5⟩
  go_simp
  with_reducible rfl
 rotate_left
 ·simp only [Act.put,List.setIfInBounds_toArray,List.set_cons_zero,List.set_cons_succ,i64_w,i32_w]
  rfl
 refine take_ (i := 20) (N := (some 24)) (v := ?_) (a' := ?_) #[true,true,true,true,true,true,true,true,true,true,true,true,true,true,true,true,true,true,true,true,true,false,false,false,false] rfl rfl (take_ofW HT_.out HW_.out (by kernel_rfl)) (fun _ _ _ h => h) (Or.inl ⟨by rfl,?_⟩) hHeld ?_ ?_
 rotate_left
 ·rintro w' ⟨s1,s2,s3,s4,s5⟩
  go_simp
  with_reducible rfl
 rotate_left
 ·simp only [Act.put,List.setIfInBounds_toArray,List.set_cons_zero,List.set_cons_succ,i64_w,i32_w]
  rfl
 refine one_ (i := 21) (N := (some 25)) #[true,true,true,true,true,true,true,true,true,true,true,true,true,true,true,true,true,true,true,true,true,true,false,false,false] rfl rfl (one_of HT_.out (by kernel_rfl)) (by decide) (fun K hK => ?_)
 refine value_ (w1 := ?_) (v := ?_) (by rfl) rfl ?_ ?_
 rotate_left 2
 ·go_simp
  constructor
  ·rfl
  ·rfl
 refine hK.out _ _ (sees5 hHeld (below_alloc (Below.refl _ _) _)) (fun hHeld1 => ?_)
 clear hK K
 refine norm_ (a' := ?_) ?_ ?_
 rotate_left
 ·show Act.put _ (some 25) _ = _
  simp only [Act.put,List.setIfInBounds_toArray,List.set_cons_zero,List.set_cons_succ,i64_w,i32_w]
  rfl
 refine one_ (i := 22) (N := (some 26)) #[true,true,true,true,true,true,true,true,true,true,true,true,true,true,true,true,true,true,true,true,true,true,true,false,false] rfl rfl (one_of HT_.out (by kernel_rfl)) (by decide) (fun K hK => ?_)
 refine Kd.R_append_step k35 (w0 := W) base (by rfl) (.tmp 23) (.tmp 25) 33 35 (.agg #[.string ⟨#[]⟩,.int .i64 0]) 24 rfl Tryd.underlying33 info35 rfl (by decide) (by decide) (.slice A1 L.length cc1) L x [.string x.f0,.int .i64 x.f1] (fun k => oki k ∨ ok k ∧ V.heap.size ≤ k) (fun _ => False) rfl rfl (k35_mkM _ _ _ x) (fun _ hk => hk.elim) (fun k hk => .inr ⟨hf k (Nat.le_trans hbl.size hk),hk⟩) (Kd.R_mono hI0 (fun k hk => .inl hk)) hB0 hbV (by omega) ?_
 intro v1 w1 hI1 hB1 hg1 hat1
 rw [hLx] at hI1
 obtain ⟨A2,cc2,rfl⟩ := Kd.R_slice hI1
 have hp1 := blk_grown hp0 hg1 (fun he => hip p he.symm rfl)
 have hH1 := Kd.H_grown hH0 hg1 (fun k hk => .inl (hI0.1 k hk))
 have hK1 := Kept.of_grown hg1 hK0 (fun k hk => .inl (.inl (hoT k (hI0.1 k hk))))
 have hx1 := blk_grown hx0 hg1 (fun he => hib _ he.symm rfl)
 have hi1 := hin_at hH1 hr.1 (by omega)
 refine hK.out _ _ ⟨(blk_cell hp1 1).trans rfl,(blk_cell hp1 2).trans rfl,hi1,(blk_cell hx1 0).trans rfl,(blk_cell hx1 1).trans rfl⟩ (fun hHeld2 => ?_)
 clear hK K
 refine norm_ (a' := ?_) ?_ ?_
 rotate_left
 ·show Act.put _ (some 26) _ = _
  simp only [Act.put,List.setIfInBounds_toArray,List.set_cons_zero,List.set_cons_succ,i64_w,i32_w]
  rfl
 refine pure_ (i := 23) (N := (some 27)) (v := ?_) (a' := ?_) #[true,true,true,true,true,true,true,true,true,true,true,true,true,true,true,true,true,true,true,true,true,true,true,true,false] rfl rfl (any_of HT_.out (by kernel_rfl)) (fun _ _ _ h => h) (Or.inl ⟨by rfl,?_⟩) ?_ ?_
 rotate_left
 ·intro w'
  go_simp
  with_reducible rfl
 rotate_left
 ·simp only [Act.put,List.setIfInBounds_toArray,List.set_cons_zero,List.set_cons_succ,i64_w,i32_w]
  rfl
 refine last_ (i := 24) (N := none) #[true,true,true,true,true,true,true,true,true,true,true,true,true,true,true,true,true,true,true,true,true,true,true,true,true] rfl rfl (one_of HT_.out (by kernel_rfl)) (by decide) (fun K hK => ?_)
 have hin1 := (Kd.H_at hH1 hr.1 (by omega)).1 0 _ rfl
 have hfi1 := (Kd.H_at hH1 hr.1 (by omega)).2 0
 rw [hz,Nat.mul_one,Nat.add_zero] at hin1 hfi1
 have hin2 : w1.cell? ⟨g,r.toNat,none⟩ = _ := hin1
 have hfi2 : w1.frozen? ⟨g,r.toNat,none⟩ = _ := hfi1
 refine skip_ (w1 := ?_) (by rfl) rfl ?_ ?_
 rotate_left
 ·go_simp
  rfl
 refine hK.out _ _ ?_
 clear hK K
 have hS2 := (slot_put hH1 hr.1 (by omega) rfl hI1)
 have hp2 : (w1.setCell ⟨g,r.toNat,none⟩ (.slice A2 Lx.length cc2)).heap[p]? = _ := (Below.heap_setCell w1 ⟨g,r.toNat,none⟩ (.slice A2 Lx.length cc2) p hpg).trans hp1
 have hB2 := (hB1.setCell (p := ⟨g,r.toNat,none⟩) hg0 (.slice A2 Lx.length cc2))
 have hK2 := (hK1.setCell (p := ⟨g,r.toNat,none⟩) (.inl (.inl hgok)) (.slice A2 Lx.length cc2))
 generalize (w1.setCell ⟨g,r.toNat,none⟩ (.slice A2 Lx.length cc2)) = V1 at hS2 hp2 hB2 hK2 ⊢
 clear hHeld2 hin1 hfi1 hin2 hfi2 hp1 hH1 hI1 hB1 hg1 hat1 hK1
 have hS1 := hS2
 have hp1 := hp2
 have hB1 := hB2
 have hK1 := hK2
 clear hS2 hp2 hB2 hK2
 refine done_ (done_of HT_.out (by kernel_rfl)) ?_
 clear HT_ HW_
 have hpl1 := blk_lt hp1
 have d3 : V1.cell? ⟨p,3,none⟩ = some (.int .i64 c) := (blk_cell hp1 3).trans rfl
 have g3 := blk_frozen hp1 3
 go_upto_region 3 with (fail)
 have hp2 : (V1.setCell ⟨p,3,none⟩ (.int .i64 (c + 1))).heap[p]? = _ := blk_put hp1 3 _ rfl
 have hS2 := Kd.S_far (p := ⟨p,3,none⟩) hS1 (fun k hk (he : k = p) => hne (he ▸ hk)) (.int .i64 (c + 1))
 have hB2 := hB1.setCell (p := ⟨p,3,none⟩) hlow (.int .i64 (c + 1))
 have hK2 := hK1.setCell (p := ⟨p,3,none⟩) (.inl (.inr rfl)) (.int .i64 (c + 1))
 generalize (V1.setCell ⟨p,3,none⟩ (.int .i64 (c + 1))) = V2 at hp2 hS2 hB2 hK2 ⊢
 clear hp1 hS1 hB1 hK1 d3 g3 hpl1
 have hpl2 := blk_lt hp2
 have e0 : V2.cell? ⟨p,0,none⟩ = some (.int .i64 wd) := (blk_cell hp2 0).trans rfl
 have e3 : V2.cell? ⟨p,3,none⟩ = some (.int .i64 (c + 1)) := (blk_cell hp2 3).trans rfl
 have hn : ∀ k,ok k → k ≠ p := fun k hk he => hne (he ▸ hk)
 go_quiet (fail)
 have hp3 : (V2.drewN nq).heap[p]? = _ := hp2
 have hS3 := Kd.S_drewN hS2 nq
 have hB3 := pw_below_drewN hB2 nq
 have hK3 := Kept.drewN hK2 nq
 generalize V2.drewN nq = V3 at hp3 hS3 hB3 hK3 ⊢
 clear hp2 hS2 hB2 hK2 e0 e3 hpl2
 by_cases hcw : c + 1 = wd
 ·have hcw' := eq_true hcw
  have hlen : (setRow rows r.toNat Lx).length = rows.length := by unfold setRow;simp
  go_wp2_with (go_at_call 54;refine (gr_down (base := base) (ok := ok) (grid_at hp3 hS3 hlow hne) (fun k hk => hf k (Nat.le_trans hK3.1 hk)) (Nat.le_trans hb hK3.1) ⟨hr.1,by omega⟩ (by omega)).mono ?_;rintro e w6 ⟨rfl,hG6,hB6,hK6⟩)
  refine bodyPost_end (results_none rfl _ _ _) rfl ?_
  exact ⟨rfl,hG6,hB3.trans hB6,hK3.then_ hK6 (fun k hk => .inl hk)⟩
 ·have hcw' := eq_false hcw
  go_wp2
  refine bodyPost_end (results_none rfl _ _ _) rfl ?_
  exact ⟨rfl,grid_at hp3 hS3 hlow hne,hB3,hK3⟩
end Go.Proofs.YtnpjaaldppemlaaDoor.U
end
section
namespace Go.Proofs.YtnpjaaldppemlaaDoor.U
open Go.RowKit Go.Proofs.YtnpjaaldppemlaaDoorW.PrintWords Go.Proofs.YtnpjaaldppemlaaDoorW.PrintLast Go.Proofs.YtnpjaaldppemlaaDoorW.PrintMore
set_option linter.unusedVariables false
set_option linter.unusedSimpArgs false
/-- The rows behind the pen's,and the pen's row. -/
abbrev Ly := List (List Cl) × List Cl
def Ly.down (s : Ly) : Ly := (s.1 ++ [s.2],[])
def Ly.cell (wd : Int) (s : Ly) (x : Cl) : Ly := if (s.2.length : Int) + 1 = wd then (s.1 ++ [s.2 ++ [x]],[]) else (s.1,s.2 ++ [x])
def badB : ByteArray := ⟨#[239,191,189]⟩
/-- A cluster is laid: drawn d,of which the first character has n bytes. -/
def Ly.lay (wd : Int) (s : Ly) (cls cells : Int) (d : ByteArray) (n : Nat) : Ly :=
 if cells = 0 then s.down else if cells = 1 then s.cell wd ⟨d,1⟩ else if wd = 1 then s.cell wd ⟨badB,1⟩ else
 if cls = 4 then ((if (s.2.length : Int) = wd - 1 then s.down else s).cell wd ⟨d,2⟩).cell wd ⟨⟨#[]⟩,0⟩
 else ((if (s.2.length : Int) = wd - 1 then s.down else s).cell wd ⟨d.extract 0 n,1⟩).cell wd ⟨d.extract n d.size,1⟩
/-- The pen stands on the grid. -/
def Ly.Fit (wd : Int) (s : Ly) : Prop := 1 ≤ wd ∧ wd ≤ 65535 ∧ (s.2.length : Int) < wd
theorem Ly.Fit.down {wd : Int} {s : Ly} (h : s.Fit wd) : s.down.Fit wd := ⟨h.1,h.2.1,by have := h.1;simpa [Ly.down] using (by omega : (0 : Int) < wd)⟩
theorem Ly.Fit.cell {wd : Int} {s : Ly} (h : s.Fit wd) (x : Cl) : (s.cell wd x).Fit wd := by
 obtain ⟨h1,h2,h3⟩ := h
 unfold Ly.cell
 split
 ·exact ⟨h1,h2,by simpa using (by omega : (0 : Int) < wd)⟩
 ·exact ⟨h1,h2,by simp only [List.length_append,List.length_singleton];omega⟩
theorem Ly.len_down (s : Ly) : s.down.1.length = s.1.length + 1 := by simp [Ly.down]
theorem Ly.len_cell (wd : Int) (s : Ly) (x : Cl) : (s.cell wd x).1.length ≤ s.1.length + 1 := by
 unfold Ly.cell
 split
 ·simp
 ·simp
theorem Ly.Fit.lay {wd : Int} {s : Ly} (h : s.Fit wd) (cls cells : Int) (d : ByteArray) (n : Nat) : (s.lay wd cls cells d n).Fit wd := by
 have hm : (if (s.2.length : Int) = wd - 1 then s.down else s).Fit wd := by
  split
  ·exact h.down
  ·exact h
 unfold Ly.lay
 split
 ·exact h.down
 split
 ·exact h.cell _
 split
 ·exact h.cell _
 split
 ·exact (hm.cell _).cell _
 ·exact (hm.cell _).cell _
theorem Ly.len_lay (wd : Int) (s : Ly) (cls cells : Int) (d : ByteArray) (n : Nat) : (s.lay wd cls cells d n).1.length ≤ s.1.length + 3 := by
 have hm : (if (s.2.length : Int) = wd - 1 then s.down else s).1.length ≤ s.1.length + 1 := by
  split
  ·exact Nat.le_of_eq (Ly.len_down s)
  ·exact Nat.le_succ _
 unfold Ly.lay
 split
 ·rw [Ly.len_down];omega
 split
 ·exact Nat.le_trans (Ly.len_cell wd s _) (by omega)
 split
 ·exact Nat.le_trans (Ly.len_cell wd s _) (by omega)
 split
 ·exact Nat.le_trans (Ly.len_cell wd _ _) (by have := Ly.len_cell wd (if (s.2.length : Int) = wd - 1 then s.down else s) ⟨d,2⟩;omega)
 ·exact Nat.le_trans (Ly.len_cell wd _ _) (by have := Ly.len_cell wd (if (s.2.length : Int) = wd - 1 then s.down else s) ⟨d.extract 0 n,1⟩;omega)
/-- A grid of type T at block p on which s has been laid. -/
def LyAt (T base p : Nat) (ok : Nat → Prop) (W : World) (wd : Int) (s : Ly) : Prop := GridAt T base p ok W wd (s.1 ++ [s.2]) s.1.length s.2.length
theorem LyAt.bound {T base p : Nat} {ok : Nat → Prop} {W : World} {wd : Int} {s : Ly} (h : LyAt T base p ok W wd s) : LyAt T base p (fun k => ok k ∧ k < W.heap.size) W wd s := by
 obtain ⟨⟨rv,h1,h2⟩,h3,h4⟩ := h
 exact ⟨⟨rv,h1,Kd.S_mono (Kd.S_bound h2) (fun k hk => ⟨hk.1,hk.2.2.1⟩)⟩,h3,fun h => h4 h.1⟩
theorem LyAt.lt {T base p : Nat} {ok : Nat → Prop} {W : World} {wd : Int} {s : Ly} (h : LyAt T base p ok W wd s) : p < W.heap.size := by
 obtain ⟨⟨rv,h1,h2⟩,h3,h4⟩ := h
 exact blk_lt h1
theorem LyAt.mono {T base p : Nat} {ok ok' : Nat → Prop} {W : World} {wd : Int} {s : Ly} (h : LyAt T base p ok W wd s) (hk : ∀ k,ok k → ok' k) (hn : ¬ ok' p) : LyAt T base p ok' W wd s := GridAt.mono h hk hn
theorem LyAt.below {T base p : Nat} {ok : Nat → Prop} {W w1 : World} {wd : Int} {s : Ly} (h : LyAt T base p ok W wd s) (hb : Below W.heap.size W w1) : LyAt T base p ok w1 wd s := by
 obtain ⟨⟨rv,h1,h2⟩,h3,h4⟩ := h
 exact ⟨⟨rv,(hb.block p (blk_lt h1)).trans h1,Kd.S_below h2 hb⟩,h3,h4⟩
theorem setRow_end (a : List (List Cl)) (b L : List Cl) : setRow (a ++ [b]) a.length L = a ++ [L] := by unfold setRow;simp
theorem gr_downL {base p : Nat} {ok : Nat → Prop} {W : World} {wd : Int} {s : Ly} (h : LyAt 65 base p ok W wd s) (hf : ∀ k,W.heap.size ≤ k → ok k) (hb : base ≤ W.heap.size) (hl : s.1.length ≤ 1099511627776) :
  Calls Tryd.prog 54 #[.pointer (some ⟨p,0,none⟩)] W fun e w' => e = .returned (.tuple #[]) ∧ LyAt 65 base p ok w' wd s.down ∧ Below base W w' ∧ Kept W w' (fun k => ok k ∨ k = p) := by
 refine (gr_down h hf hb ⟨by omega,by omega⟩ (by simp;omega)).mono ?_
 rintro e w' ⟨rfl,hG,hB,hK⟩
 refine ⟨rfl,?_,hB,hK⟩
 unfold LyAt
 have he : ((s.1.length : Int) + 1) = ((s.down.1.length : Nat) : Int) := by rw [Ly.len_down];omega
 rw [he] at hG
 exact hG
theorem gr_putL {base p : Nat} {ok : Nat → Prop} {W : World} {wd : Int} {s : Ly} (h : LyAt 65 base p ok W wd s) (hf : ∀ k,W.heap.size ≤ k → ok k) (hb : base ≤ W.heap.size) (hF : s.Fit wd) (hl : s.1.length ≤ 1099511627776) (x : Cl) :
  Calls Tryd.prog 55 #[.pointer (some ⟨p,0,none⟩),.agg #[.string x.f0,.int .i64 x.f1]] W fun e w' => e = .returned (.tuple #[]) ∧ LyAt 65 base p ok w' wd (s.cell wd x) ∧ Below base W w' ∧ Kept W w' (fun k => ok k ∨ k = p) := by
 obtain ⟨h1,h2,h3⟩ := hF
 have hg : ((s.1 ++ [s.2]).getD (s.1.length : Int).toNat []) = s.2 := by simp
 refine (gr_put h hf hb ⟨by omega,by simp only [List.length_append,List.length_singleton];omega⟩ ⟨by omega,by omega⟩ (by simp;omega) (by rw [hg];omega) x).mono ?_
 rintro e w' ⟨rfl,hG,hB,hK⟩
 refine ⟨rfl,?_,hB,hK⟩
 rw [hg,Int.toNat_natCast,setRow_end] at hG
 unfold Ly.cell LyAt
 split at hG
 ·rename_i hc
  rw [if_pos hc]
  have he : ((s.1.length : Int) + 1) = (((s.1 ++ [s.2 ++ [x]]).length : Nat) : Int) := by simp
  rw [he] at hG
  exact hG
 ·rename_i hc
  rw [if_neg hc]
  have he : ((s.2.length : Int) + 1) = (((s.2 ++ [x]).length : Nat) : Int) := by simp
  rw [he] at hG
  exact hG
theorem pn_downL {base p : Nat} {ok : Nat → Prop} {W : World} {wd : Int} {s : Ly} (h : LyAt 55 base p ok W wd s) (hf : ∀ k,W.heap.size ≤ k → ok k) (hb : base ≤ W.heap.size) (hl : s.1.length ≤ 1099511627776) :
  Calls Tryd.prog 78 #[.pointer (some ⟨p,0,none⟩)] W fun e w' => e = .returned (.tuple #[]) ∧ LyAt 55 base p ok w' wd s.down ∧ Below base W w' ∧ Kept W w' (fun k => ok k ∨ k = p) := by
 refine (pn_down h hf hb ⟨by omega,by omega⟩ (by simp;omega)).mono ?_
 rintro e w' ⟨rfl,hG,hB,hK⟩
 refine ⟨rfl,?_,hB,hK⟩
 unfold LyAt
 have he : ((s.1.length : Int) + 1) = ((s.down.1.length : Nat) : Int) := by rw [Ly.len_down];omega
 rw [he] at hG
 exact hG
theorem pn_putL {base p : Nat} {ok : Nat → Prop} {W : World} {wd : Int} {s : Ly} (h : LyAt 55 base p ok W wd s) (hf : ∀ k,W.heap.size ≤ k → ok k) (hb : base ≤ W.heap.size) (hF : s.Fit wd) (hl : s.1.length ≤ 1099511627776) (x : Cl) :
  Calls Tryd.prog 79 #[.pointer (some ⟨p,0,none⟩),.agg #[.string x.f0,.int .i64 x.f1]] W fun e w' => e = .returned (.tuple #[]) ∧ LyAt 55 base p ok w' wd (s.cell wd x) ∧ Below base W w' ∧ Kept W w' (fun k => ok k ∨ k = p) := by
 obtain ⟨h1,h2,h3⟩ := hF
 have hg : ((s.1 ++ [s.2]).getD (s.1.length : Int).toNat []) = s.2 := by simp
 refine (pn_cell h hf hb ⟨by omega,by simp only [List.length_append,List.length_singleton];omega⟩ ⟨by omega,by omega⟩ (by simp;omega) (by rw [hg];omega) x).mono ?_
 rintro e w' ⟨rfl,hG,hB,hK⟩
 refine ⟨rfl,?_,hB,hK⟩
 rw [hg,Int.toNat_natCast,setRow_end] at hG
 unfold Ly.cell LyAt
 split at hG
 ·rename_i hc
  rw [if_pos hc]
  have he : ((s.1.length : Int) + 1) = (((s.1 ++ [s.2 ++ [x]]).length : Nat) : Int) := by simp
  rw [he] at hG
  exact hG
 ·rename_i hc
  rw [if_neg hc]
  have he : ((s.2.length : Int) + 1) = (((s.2 ++ [x]).length : Nat) : Int) := by simp
  rw [he] at hG
  exact hG
end Go.Proofs.YtnpjaaldppemlaaDoor.U
end
section
namespace Go.Proofs.YtnpjaaldppemlaaDoor.U
open Go.RowKit Go.Proofs.YtnpjaaldppemlaaDoorW.PrintWords Go.Proofs.YtnpjaaldppemlaaDoorW.PrintLast Go.Proofs.YtnpjaaldppemlaaDoorW.PrintMore
attribute [local go_sem] max2_int min2_int max_two min_two max_three min_three max_four min_four   -- for this text's walks alone
set_option linter.unusedVariables false
set_option linter.unusedSimpArgs false
def cluster_made.f (k : Nat) (a0 : ByteArray) (a1 : Int) (a2 : Int) : Option (Int × Int × Int × Int) := (unit_At.f k a0 a1).bind fun bt418 => ((width_Class.f k bt418.1).bind fun t422 => ((width_Cells.f k bt418.1).bind fun t423 => (if bt418.1 = 13 then (if 0 ≤ (wrap64 (a1 + 1)) then (if (wrap64 (a1 + 1)) ≤ (a0.size : Int) then ((strings_HasPrefix.f (a0.extract ((wrap64 (a1 + 1)) : Int).toNat a0.size) (⟨#[10]⟩ : ByteArray)).bind fun t425 => (if t425 = true then (some (a1,a2,1,0)) else (some (a1,a2,t422,t423)))) else (none)) else (none)) else (some (a1,a2,t422,t423)))))
def cluster_made.T2 : Bool × List (List Nat × List Nat) := (true,[([],[]),([],[]),([],[]),([2],[2]),([3],[3]),([],[]),([5],[5]),([6,4],[6]),([0,1,4,7],[0,1,4,7]),([],[]),([9,8,7,0,1,2,3,4,5,6,7,8,9],[8,9])])
def cluster_made.B2 : List Nat := [0,0,0,4,12,0,32,124,255,0,1023]
theorem cluster_made.tab2 : rtab .any (opsOf Tryd.f53 2) = cluster_made.T2 := by kernel_rfl
theorem cluster_made.bits2 : waitsOk cluster_made.T2.2 cluster_made.B2 = true := by kernel_rfl
set_option maxHeartbeats 8000000 in
set_option maxRecDepth 100000 in
theorem cluster_made.calls (k : Nat) (a0 : ByteArray) (a1 : Int) (a2 : Int) (r1 : Int) (r2 : Int) (r3 : Int) (r4 : Int) (w : World) (hT : Lib.Utf8Tabs 0 1 w) (h : cluster_made.f k a0 a1 a2 = some (r1,r2,r3,r4)) :
  Calls Tryd.prog 53 #[.string a0,.int .i64 a1,.int .i64 a2] w fun e w' => e = .returned (.agg #[.int .i64 r1,.int .i64 r2,.int .i64 r3,.int .i64 r4]) ∧ Below w.heap.size w w' := by
 have hu60 := Tryd.underlying60
 have hu87 := Tryd.underlying87
 have HT := Aside0.mk hT
 clear hT
 have HB := Aside0.mk (Below.refl w.heap.size w)
 have H : ((unit_At.f k a0 a1).bind fun bt418 => ((width_Class.f k bt418.1).bind fun t422 => ((width_Cells.f k bt418.1).bind fun t423 => (if bt418.1 = 13 then (if 0 ≤ (wrap64 (a1 + 1)) then (if (wrap64 (a1 + 1)) ≤ (a0.size : Int) then ((strings_HasPrefix.f (a0.extract ((wrap64 (a1 + 1)) : Int).toNat a0.size) (⟨#[10]⟩ : ByteArray)).bind fun t425 => (if t425 = true then (some (a1,a2,1,0)) else (some (a1,a2,t422,t423)))) else (none)) else (none)) else (some (a1,a2,t422,t423)))))) = some (r1,r2,r3,r4) := h
 clear h
 replace H := Option.bind_eq_some_iff.mp H
 obtain ⟨⟨t418,t419,t420⟩,A40,H⟩ := H
 replace H : ((width_Class.f k t418).bind fun t422 => ((width_Cells.f k t418).bind fun t423 => (if t418 = 13 then (if 0 ≤ (wrap64 (a1 + 1)) then (if (wrap64 (a1 + 1)) ≤ (a0.size : Int) then ((strings_HasPrefix.f (a0.extract ((wrap64 (a1 + 1)) : Int).toNat a0.size) (⟨#[10]⟩ : ByteArray)).bind fun t425 => (if t425 = true then (some (a1,a2,1,0)) else (some (a1,a2,t422,t423)))) else (none)) else (none)) else (some (a1,a2,t422,t423))))) = some (r1,r2,r3,r4) := H
 have A4 := Aside0.mk A40
 clear A40
 replace H := Option.bind_eq_some_iff.mp H
 obtain ⟨t422,A50,H⟩ := H
 replace H : ((width_Cells.f k t418).bind fun t423 => (if t418 = 13 then (if 0 ≤ (wrap64 (a1 + 1)) then (if (wrap64 (a1 + 1)) ≤ (a0.size : Int) then ((strings_HasPrefix.f (a0.extract ((wrap64 (a1 + 1)) : Int).toNat a0.size) (⟨#[10]⟩ : ByteArray)).bind fun t425 => (if t425 = true then (some (a1,a2,1,0)) else (some (a1,a2,t422,t423)))) else (none)) else (none)) else (some (a1,a2,t422,t423)))) = some (r1,r2,r3,r4) := H
 have A5 := Aside0.mk A50
 clear A50
 replace H := Option.bind_eq_some_iff.mp H
 obtain ⟨t423,A60,H⟩ := H
 replace H : (if t418 = 13 then (if 0 ≤ (wrap64 (a1 + 1)) then (if (wrap64 (a1 + 1)) ≤ (a0.size : Int) then ((strings_HasPrefix.f (a0.extract ((wrap64 (a1 + 1)) : Int).toNat a0.size) (⟨#[10]⟩ : ByteArray)).bind fun t425 => (if t425 = true then (some (a1,a2,1,0)) else (some (a1,a2,t422,t423)))) else (none)) else (none)) else (some (a1,a2,t422,t423))) = some (r1,r2,r3,r4) := H
 have A6 := Aside0.mk A60
 clear A60
 go_enter Tryd.func53,Tryd.ntmps53
 try go_wp2_with (first | ((with_reducible refine gate_dst (N := 6) rfl ?_);refine box_event ?hg (N := 6) ?hd (cs := #[.int .i64 0,.int .i64 0,.int .i64 0,.int .i64 0]) (t := 60) ?hr ?_;(case hd => rfl);(case hg => rfl);(case hr => first | (go_simp;done) | (go_simp;rfl));intro gb417 hg w13 hbox hb;have n0_ := Aside0.mk (below_step au0 hb);have n1_ := Aside0.mk (hbox);have n2_ := Aside0.mk ((by rw [hg];exact (below_size au0) : w.heap.size ≤ gb417));have n3_ := Aside0.mk ((by rw [hg];exact (below_size au0) : w.heap.size ≤ gb417));clear HB;have HB := n0_;have BK417 := n1_;have GW417 := n2_;have GE417 := n3_;clear n0_ n1_ n2_ n3_;clear hb hbox hg) | ((with_reducible refine gate_callee (f := 61) rfl ?_);refine goesL_ (some 13) rfl rfl Tryd.func61 (by kernel_rfl) rfl #[.string a0,.int .i64 a1] rfl au1 ?_;(with_reducible refine (unit_At.calls k a0 a1 t418 t419 t420 _ ?side1 A4.out).mono ?_);(case side1 => exact tabs_below HT.out au24);rintro e w14 ⟨rfl,hb⟩;refine ⟨_,rfl,?_⟩;have n0_ := Aside0.mk (blk_below (g := gb417) (o := .cells #[.int .i64 0,.int .i64 0,.int .i64 0,.int .i64 0] 60 (0,0)) au5 hb);have n1_ := Aside0.mk (below_step au24 hb);clear BK417;clear HB;have BK417 := n0_;have HB := n1_;clear n0_ n1_;(try clear hb);(try clear hb2);(try clear hk);(try clear hi)) | ((with_reducible refine gate_dst (N := 7) rfl ?_);refine box_event ?hg (N := 7) ?hd (cs := #[.int .i32 0,.int .i64 0]) (t := 87) ?hr ?_;(case hd => rfl);(case hg => rfl);(case hr => first | (go_simp;done) | (go_simp;rfl));intro gb421 hg w15 hbox hb;have n0_ := Aside0.mk (blk_below (g := gb417) (o := .cells #[.int .i64 0,.int .i64 0,.int .i64 0,.int .i64 0] 60 (0,0)) au5 hb);have n1_ := Aside0.mk (below_step au24 hb);have n2_ := Aside0.mk (hbox);have n3_ := Aside0.mk ((by rw [hg];exact (below_size au24) : w.heap.size ≤ gb421));have n4_ := Aside0.mk ((by rw [hg];exact (below_size au24) : w.heap.size ≤ gb421));have n5_ := Aside0.mk ((by rw [hg];exact Nat.ne_of_lt (blk_lt (g := gb417) (o := .cells #[.int .i64 0,.int .i64 0,.int .i64 0,.int .i64 0] 60 (0,0)) au5) : gb417 ≠ gb421));have n6_ := Aside0.mk ((by rw [hg];exact Nat.ne_of_gt (blk_lt (g := gb417) (o := .cells #[.int .i64 0,.int .i64 0,.int .i64 0,.int .i64 0] 60 (0,0)) au5) : gb421 ≠ gb417));clear BK417;clear HB;have BK417 := n0_;have HB := n1_;have BK421 := n2_;have GW421 := n3_;have GE421 := n4_;have NB417_421 := n5_;have NB421_417 := n6_;clear n0_ n1_ n2_ n3_ n4_ n5_ n6_;clear hb hbox hg;have hnb16 := NB421_417.out;have hnc16 := NB417_421.out;have hcz17_0 : w15.cell? ⟨gb421,0,none⟩ = some (.int .i32 0) := (blk_cell BK421.out 0).trans rfl;have hcz17_1 : w15.cell? ⟨gb421,1,none⟩ = some (.int .i64 0) := (blk_cell BK421.out 1).trans rfl;have hfz17_0 := blk_frozen BK421.out 0;have hfz17_1 := blk_frozen BK421.out 1))
 have n0_ : Aside0 (((w15.setCell ⟨gb421,0,none⟩ (.int .i32 t418)).setCell ⟨gb421,1,none⟩ (.int .i64 t419)).heap[gb417]? = some (.cells #[.int .i64 0,.int .i64 0,.int .i64 0,.int .i64 0] 60 (0,0))) := ⟨by (with_reducible repeat (first | refine blk_drewN ?_ _ | refine blk_drew ?_ | refine blk_alloc ?_ _));refine blk_far ?_ NB417_421.out _;(with_reducible repeat (first | refine blk_drewN ?_ _ | refine blk_drew ?_ | refine blk_alloc ?_ _));refine blk_far ?_ NB417_421.out _;(with_reducible repeat (first | refine blk_drewN ?_ _ | refine blk_drew ?_ | refine blk_alloc ?_ _));exact BK417.out⟩
 have n1_ : Aside0 (((w15.setCell ⟨gb421,0,none⟩ (.int .i32 t418)).setCell ⟨gb421,1,none⟩ (.int .i64 t419)).heap[gb421]? = some (.cells #[.int .i32 t418,.int .i64 t419] 87 (0,0))) := ⟨by (with_reducible repeat (first | refine blk_drewN ?_ _ | refine blk_drew ?_ | refine blk_alloc ?_ _));refine blk_put (cs := #[.int .i32 t418,.int .i64 0]) ?_ 1 _ rfl;(with_reducible repeat (first | refine blk_drewN ?_ _ | refine blk_drew ?_ | refine blk_alloc ?_ _));refine blk_put (cs := #[.int .i32 0,.int .i64 0]) ?_ 0 _ rfl;(with_reducible repeat (first | refine blk_drewN ?_ _ | refine blk_drew ?_ | refine blk_alloc ?_ _));exact BK421.out⟩
 have n2_ : Aside0 (Below w.heap.size w ((w15.setCell ⟨gb421,0,none⟩ (.int .i32 t418)).setCell ⟨gb421,1,none⟩ (.int .i64 t419))) := ⟨by repeat (first | (with_reducible first | exact HB.out | apply below_alloc | apply pw_below_drewN | apply below_drew1 | refine below_set ?_ GE417.out | refine below_set ?_ GE421.out) | exact HB.out)⟩
 (try clear BK417)
 (try clear BK421)
 (try clear HB)
 generalize ((w15.setCell ⟨gb421,0,none⟩ (.int .i32 t418)).setCell ⟨gb421,1,none⟩ (.int .i64 t419)) = w18 at n0_ n1_ n2_ ⊢
 have BK417 := n0_
 have BK421 := n1_
 have HB := n2_
 clear n0_ n1_ n2_
 have n0_ := Aside0.mk (blk_drew BK417.out)
 have n1_ := Aside0.mk (blk_drew BK421.out)
 have n2_ := Aside0.mk (below_drew1 HB.out)
 clear BK417
 clear BK421
 clear HB
 have BK417 := n0_
 have BK421 := n1_
 have HB := n2_
 clear n0_ n1_ n2_
 refine start_ (n := 11) (S := fun w' => w'.cell? ⟨gb421,0,none⟩ = some (.int .i32 t418) ∧ w'.cell? ⟨gb421,1,none⟩ = some (.int .i64 t419)) (ds := []) #[false,false,false,false,false,false,false,false,false,false,false] (by kernel_rfl) rfl rfl ⟨(blk_cell BK421.out 0).trans rfl,(blk_cell BK421.out 1).trans rfl⟩ (fun hHeld => ?_);refine with_tabW cluster_made.tab2 cluster_made.bits2 (fun HT_ HW_ => ?_)
 generalize w18.drew = w19 at BK417 BK421 HB hHeld ⊢
 refine pure_ (i := 0) (N := some 16) (v := ?_) (a' := ?_) #[true,false,false,false,false,false,false,false,false,false,false] rfl rfl (any_of HT_.out (by kernel_rfl)) (fun _ _ _ h => h) (Or.inl ⟨by rfl,?_⟩) ?_ ?_
 rotate_left
 ·intro w'
  go_simp
  with_reducible rfl
 rotate_left
 ·simp only [Act.put,List.setIfInBounds_toArray,List.set_cons_zero,List.set_cons_succ,i64_w,i32_w]
  rfl
 refine pure_ (i := 1) (N := some 17) (v := ?_) (a' := ?_) #[true,true,false,false,false,false,false,false,false,false,false] rfl rfl (any_of HT_.out (by kernel_rfl)) (fun _ _ _ h => h) (Or.inl ⟨by rfl,?_⟩) ?_ ?_
 rotate_left
 ·intro w'
  go_simp
  with_reducible rfl
 rotate_left
 ·simp only [Act.put,List.setIfInBounds_toArray,List.set_cons_zero,List.set_cons_succ,i64_w,i32_w]
  rfl
 refine pure_ (i := 2) (N := some 18) (v := ?_) (a' := ?_) #[true,true,true,false,false,false,false,false,false,false,false] rfl rfl (any_of HT_.out (by kernel_rfl)) (fun _ _ _ h => h) (Or.inl ⟨by rfl,?_⟩) ?_ ?_
 rotate_left
 ·intro w'
  go_simp
  with_reducible rfl
 rotate_left
 ·simp only [Act.put,List.setIfInBounds_toArray,List.set_cons_zero,List.set_cons_succ,i64_w,i32_w]
  rfl
 refine pure_ (i := 5) (N := some 21) (v := ?_) (a' := ?_) #[true,true,true,false,false,true,false,false,false,false,false] rfl rfl (any_of HT_.out (by kernel_rfl)) (fun _ _ _ h => h) (Or.inl ⟨by rfl,?_⟩) ?_ ?_
 rotate_left
 ·intro w'
  go_simp
  with_reducible rfl
 rotate_left
 ·simp only [Act.put,List.setIfInBounds_toArray,List.set_cons_zero,List.set_cons_succ,i64_w,i32_w]
  rfl
 refine take_ (i := 3) (N := some 19) (v := ?_) (a' := ?_) #[true,true,true,true,false,true,false,false,false,false,false] rfl rfl (take_ofW HT_.out HW_.out (by kernel_rfl)) (fun _ _ _ h => h) (Or.inl ⟨by rfl,?_⟩) hHeld ?_ ?_
 rotate_left
 ·rintro w' ⟨s0,s1⟩
  go_simp
  with_reducible rfl
 rotate_left
 ·simp only [Act.put,List.setIfInBounds_toArray,List.set_cons_zero,List.set_cons_succ,i64_w,i32_w]
  rfl
 refine take_ (i := 6) (N := some 22) (v := ?_) (a' := ?_) #[true,true,true,true,false,true,true,false,false,false,false] rfl rfl (take_ofW HT_.out HW_.out (by kernel_rfl)) (fun _ _ _ h => h) (Or.inl ⟨by rfl,?_⟩) hHeld ?_ ?_
 rotate_left
 ·rintro w' ⟨s0,s1⟩
  go_simp
  with_reducible rfl
 rotate_left
 ·simp only [Act.put,List.setIfInBounds_toArray,List.set_cons_zero,List.set_cons_succ,i64_w,i32_w]
  rfl
 refine join_ (σ := Nat) 1 #[true,true,true,true,true,true,true,true,true,true,false] (fun s_ => [(20,.int .i64 t422),(23,.int .i64 t423),(9,.pointer (some ⟨s_,0,none⟩)),(24,.agg #[.int .i64 a1,.int .i64 a2,.int .i64 t422,.int .i64 t423])]) (fun s_ w' => (w'.cell? ⟨gb421,0,none⟩ = some (.int .i32 t418) ∧ w'.cell? ⟨gb421,1,none⟩ = some (.int .i64 t419)) ∧ (w'.heap[gb417]? = some (.cells #[.int .i64 0,.int .i64 0,.int .i64 0,.int .i64 0] 60 (0,0))) ∧ (w'.heap[gb421]? = some (.cells #[.int .i32 t418,.int .i64 t419] 87 (0,0))) ∧ (w'.heap[s_]? = some (.cells #[.int .i64 0,.int .i64 0,.int .i64 0,.int .i64 0] 60 (0,0))) ∧ (w.heap.size ≤ s_) ∧ (w.heap.size ≤ s_) ∧ (gb417 ≠ s_) ∧ (s_ ≠ gb417) ∧ (gb421 ≠ s_) ∧ (s_ ≠ gb421) ∧ (Below w.heap.size w w')) ?_ ?_
 rotate_left
 ·intro hCont
  refine two_ (i := 4) (j := 9) (Ni := some 20) (Nj := some 9) #[true,true,true,true,true,true,true,false,false,false,false] #[true,true,true,true,false,true,true,false,false,true,false] rfl rfl rfl rfl (two_of HT_.out (by kernel_rfl)) (by decide) (by decide) (fun K hK => ?_) (fun K hK => ?_)
  ·skip
   refine goes_ Tryd.func71 (by kernel_rfl) rfl #[.int .i32 t418] (by rfl) rfl rfl au1 ?_
   with_reducible refine (width_Class.calls k t418 t422 _ A5.out).mono ?_
   rintro e w20 ⟨rfl,hb⟩
   refine ⟨_,rfl,?_⟩
   have n0_ := Aside0.mk (blk_below (g := gb417) (o := .cells #[.int .i64 0,.int .i64 0,.int .i64 0,.int .i64 0] 60 (0,0)) au5 hb)
   have n1_ := Aside0.mk (blk_below (g := gb421) (o := .cells #[.int .i32 t418,.int .i64 t419] 87 (0,0)) au9 hb)
   have n2_ := Aside0.mk (below_step au8 hb)
   clear BK417
   clear BK421
   clear HB
   have BK417 := n0_
   have BK421 := n1_
   have HB := n2_
   clear n0_ n1_ n2_
   (try clear hb)
   (try clear hb2)
   (try clear hk)
   (try clear hi)
   refine hK.out _ _ ⟨(blk_cell BK421.out 0).trans rfl,(blk_cell BK421.out 1).trans rfl⟩ (fun hHeld => ?_)
   clear hK K
   refine norm_ (a' := ?_) ?_ ?_
   rotate_left
   ·show Act.put _ (some 20) _ = _
    simp only [Act.put,List.setIfInBounds_toArray,List.set_cons_zero,List.set_cons_succ,i64_w,i32_w]
    rfl
   refine two_ (i := 7) (j := 9) (Ni := some 23) (Nj := some 9) #[true,true,true,true,true,true,true,true,false,false,false] #[true,true,true,true,true,true,true,false,false,true,false] rfl rfl rfl rfl (two_of HT_.out (by kernel_rfl)) (by decide) (by decide) (fun K hK => ?_) (fun K hK => ?_)
   ·skip
    refine goes_ Tryd.func72 (by kernel_rfl) rfl #[.int .i32 t418] (by rfl) rfl rfl au1 ?_
    with_reducible refine (width_Cells.calls k t418 t423 _ A6.out).mono ?_
    rintro e w21 ⟨rfl,hb⟩
    refine ⟨_,rfl,?_⟩
    have n0_ := Aside0.mk (blk_below (g := gb417) (o := .cells #[.int .i64 0,.int .i64 0,.int .i64 0,.int .i64 0] 60 (0,0)) au5 hb)
    have n1_ := Aside0.mk (blk_below (g := gb421) (o := .cells #[.int .i32 t418,.int .i64 t419] 87 (0,0)) au9 hb)
    have n2_ := Aside0.mk (below_step au8 hb)
    clear BK417
    clear BK421
    clear HB
    have BK417 := n0_
    have BK421 := n1_
    have HB := n2_
    clear n0_ n1_ n2_
    (try clear hb)
    (try clear hb2)
    (try clear hk)
    (try clear hi)
    refine hK.out _ _ ⟨(blk_cell BK421.out 0).trans rfl,(blk_cell BK421.out 1).trans rfl⟩ (fun hHeld => ?_)
    clear hK K
    refine norm_ (a' := ?_) ?_ ?_
    rotate_left
    ·show Act.put _ (some 23) _ = _
     simp only [Act.put,List.setIfInBounds_toArray,List.set_cons_zero,List.set_cons_succ,i64_w,i32_w]
     rfl
    refine pure_ (i := 8) (N := some 24) (v := ?_) (a' := ?_) #[true,true,true,true,true,true,true,true,true,false,false] rfl rfl (any_of HT_.out (by kernel_rfl)) (fun _ _ _ h => h) (Or.inl ⟨by rfl,?_⟩) ?_ ?_
    rotate_left
    ·intro w'
     go_simp
     with_reducible rfl
    rotate_left
    ·simp only [Act.put,List.setIfInBounds_toArray,List.set_cons_zero,List.set_cons_succ,i64_w,i32_w]
     rfl
    refine one_ (i := 9) (N := some 9) #[true,true,true,true,true,true,true,true,true,true,false] rfl rfl (one_of HT_.out (by kernel_rfl)) (by decide) (fun K hK => ?_)
    refine box_step ?hg (N := 9) ?hd (cs := #[.int .i64 0,.int .i64 0,.int .i64 0,.int .i64 0]) (t := 60) ?hr ?_;(case hd => rfl);(case hg => rfl);(case hr => first | (go_simp;done) | (go_simp;rfl))
    intro gb424 hg w22 hbox hb
    have n0_ := Aside0.mk (blk_below (g := gb417) (o := .cells #[.int .i64 0,.int .i64 0,.int .i64 0,.int .i64 0] 60 (0,0)) au5 hb)
    have n1_ := Aside0.mk (blk_below (g := gb421) (o := .cells #[.int .i32 t418,.int .i64 t419] 87 (0,0)) au9 hb)
    have n2_ := Aside0.mk (below_step au8 hb)
    have n3_ := Aside0.mk (hbox)
    have n4_ := Aside0.mk ((by rw [hg];exact (below_size au8) : w.heap.size ≤ gb424))
    have n5_ := Aside0.mk ((by rw [hg];exact (below_size au8) : w.heap.size ≤ gb424))
    have n6_ := Aside0.mk ((by rw [hg];exact Nat.ne_of_lt (blk_lt (g := gb417) (o := .cells #[.int .i64 0,.int .i64 0,.int .i64 0,.int .i64 0] 60 (0,0)) au5) : gb417 ≠ gb424))
    have n7_ := Aside0.mk ((by rw [hg];exact Nat.ne_of_gt (blk_lt (g := gb417) (o := .cells #[.int .i64 0,.int .i64 0,.int .i64 0,.int .i64 0] 60 (0,0)) au5) : gb424 ≠ gb417))
    have n8_ := Aside0.mk ((by rw [hg];exact Nat.ne_of_lt (blk_lt (g := gb421) (o := .cells #[.int .i32 t418,.int .i64 t419] 87 (0,0)) au9) : gb421 ≠ gb424))
    have n9_ := Aside0.mk ((by rw [hg];exact Nat.ne_of_gt (blk_lt (g := gb421) (o := .cells #[.int .i32 t418,.int .i64 t419] 87 (0,0)) au9) : gb424 ≠ gb421))
    clear BK417
    clear BK421
    clear HB
    have BK417 := n0_
    have BK421 := n1_
    have HB := n2_
    have BK424 := n3_
    have GW424 := n4_
    have GE424 := n5_
    have NB417_424 := n6_
    have NB424_417 := n7_
    have NB421_424 := n8_
    have NB424_421 := n9_
    clear n0_ n1_ n2_ n3_ n4_ n5_ n6_ n7_ n8_ n9_
    clear hb hbox hg
    refine hK.out _ _ ⟨(blk_cell BK421.out 0).trans rfl,(blk_cell BK421.out 1).trans rfl⟩ (fun hHeld => ?_)
    clear hK K
    refine norm_ (a' := ?_) ?_ ?_
    rotate_left
    ·show Act.put _ (some 9) _ = _
     simp only [Act.put,List.setIfInBounds_toArray,List.set_cons_zero,List.set_cons_succ,i64_w,i32_w]
     rfl
    exact norm_ (by simp only [putAll,Act.put,List.setIfInBounds_toArray,List.set_cons_zero,List.set_cons_succ]) (hCont (gb424) _ ⟨hHeld,au5,au9,au27,GW424.out,GE424.out,NB417_424.out,NB424_417.out,NB421_424.out,NB424_421.out,au11⟩)
   ·skip
    refine box_step ?hg (N := 9) ?hd (cs := #[.int .i64 0,.int .i64 0,.int .i64 0,.int .i64 0]) (t := 60) ?hr ?_;(case hd => rfl);(case hg => rfl);(case hr => first | (go_simp;done) | (go_simp;rfl))
    intro gb424 hg w21 hbox hb
    have n0_ := Aside0.mk (blk_below (g := gb417) (o := .cells #[.int .i64 0,.int .i64 0,.int .i64 0,.int .i64 0] 60 (0,0)) au5 hb)
    have n1_ := Aside0.mk (blk_below (g := gb421) (o := .cells #[.int .i32 t418,.int .i64 t419] 87 (0,0)) au9 hb)
    have n2_ := Aside0.mk (below_step au8 hb)
    have n3_ := Aside0.mk (hbox)
    have n4_ := Aside0.mk ((by rw [hg];exact (below_size au8) : w.heap.size ≤ gb424))
    have n5_ := Aside0.mk ((by rw [hg];exact (below_size au8) : w.heap.size ≤ gb424))
    have n6_ := Aside0.mk ((by rw [hg];exact Nat.ne_of_lt (blk_lt (g := gb417) (o := .cells #[.int .i64 0,.int .i64 0,.int .i64 0,.int .i64 0] 60 (0,0)) au5) : gb417 ≠ gb424))
    have n7_ := Aside0.mk ((by rw [hg];exact Nat.ne_of_gt (blk_lt (g := gb417) (o := .cells #[.int .i64 0,.int .i64 0,.int .i64 0,.int .i64 0] 60 (0,0)) au5) : gb424 ≠ gb417))
    have n8_ := Aside0.mk ((by rw [hg];exact Nat.ne_of_lt (blk_lt (g := gb421) (o := .cells #[.int .i32 t418,.int .i64 t419] 87 (0,0)) au9) : gb421 ≠ gb424))
    have n9_ := Aside0.mk ((by rw [hg];exact Nat.ne_of_gt (blk_lt (g := gb421) (o := .cells #[.int .i32 t418,.int .i64 t419] 87 (0,0)) au9) : gb424 ≠ gb421))
    clear BK417
    clear BK421
    clear HB
    have BK417 := n0_
    have BK421 := n1_
    have HB := n2_
    have BK424 := n3_
    have GW424 := n4_
    have GE424 := n5_
    have NB417_424 := n6_
    have NB424_417 := n7_
    have NB421_424 := n8_
    have NB424_421 := n9_
    clear n0_ n1_ n2_ n3_ n4_ n5_ n6_ n7_ n8_ n9_
    clear hb hbox hg
    refine hK.out _ _ ⟨(blk_cell BK421.out 0).trans rfl,(blk_cell BK421.out 1).trans rfl⟩ (fun hHeld => ?_)
    clear hK K
    refine norm_ (a' := ?_) ?_ ?_
    rotate_left
    ·show Act.put _ (some 9) _ = _
     simp only [Act.put,List.setIfInBounds_toArray,List.set_cons_zero,List.set_cons_succ,i64_w,i32_w]
     rfl
    refine one_ (i := 7) (N := some 23) #[true,true,true,true,true,true,true,true,false,true,false] rfl rfl (one_of HT_.out (by kernel_rfl)) (by decide) (fun K hK => ?_)
    refine goes_ Tryd.func72 (by kernel_rfl) rfl #[.int .i32 t418] (by rfl) rfl rfl au1 ?_
    with_reducible refine (width_Cells.calls k t418 t423 _ A6.out).mono ?_
    rintro e w22 ⟨rfl,hb⟩
    refine ⟨_,rfl,?_⟩
    have n0_ := Aside0.mk (blk_below (g := gb417) (o := .cells #[.int .i64 0,.int .i64 0,.int .i64 0,.int .i64 0] 60 (0,0)) au5 hb)
    have n1_ := Aside0.mk (blk_below (g := gb421) (o := .cells #[.int .i32 t418,.int .i64 t419] 87 (0,0)) au9 hb)
    have n2_ := Aside0.mk (blk_below (g := gb424) (o := .cells #[.int .i64 0,.int .i64 0,.int .i64 0,.int .i64 0] 60 (0,0)) au27 hb)
    have n3_ := Aside0.mk (below_step au11 hb)
    clear BK417
    clear BK421
    clear BK424
    clear HB
    have BK417 := n0_
    have BK421 := n1_
    have BK424 := n2_
    have HB := n3_
    clear n0_ n1_ n2_ n3_
    (try clear hb)
    (try clear hb2)
    (try clear hk)
    (try clear hi)
    refine hK.out _ _ ⟨(blk_cell BK421.out 0).trans rfl,(blk_cell BK421.out 1).trans rfl⟩ (fun hHeld => ?_)
    clear hK K
    refine norm_ (a' := ?_) ?_ ?_
    rotate_left
    ·show Act.put _ (some 23) _ = _
     simp only [Act.put,List.setIfInBounds_toArray,List.set_cons_zero,List.set_cons_succ,i64_w,i32_w]
     rfl
    refine pure_ (i := 8) (N := some 24) (v := ?_) (a' := ?_) #[true,true,true,true,true,true,true,true,true,true,false] rfl rfl (any_of HT_.out (by kernel_rfl)) (fun _ _ _ h => h) (Or.inl ⟨by rfl,?_⟩) ?_ ?_
    rotate_left
    ·intro w'
     go_simp
     with_reducible rfl
    rotate_left
    ·simp only [Act.put,List.setIfInBounds_toArray,List.set_cons_zero,List.set_cons_succ,i64_w,i32_w]
     rfl
    exact norm_ (by simp only [putAll,Act.put,List.setIfInBounds_toArray,List.set_cons_zero,List.set_cons_succ]) (hCont (gb424) _ ⟨hHeld,au5,au9,au27,GW424.out,GE424.out,NB417_424.out,NB424_417.out,NB421_424.out,NB424_421.out,au11⟩)
  ·skip
   refine box_step ?hg (N := 9) ?hd (cs := #[.int .i64 0,.int .i64 0,.int .i64 0,.int .i64 0]) (t := 60) ?hr ?_;(case hd => rfl);(case hg => rfl);(case hr => first | (go_simp;done) | (go_simp;rfl))
   intro gb424 hg w20 hbox hb
   have n0_ := Aside0.mk (blk_below (g := gb417) (o := .cells #[.int .i64 0,.int .i64 0,.int .i64 0,.int .i64 0] 60 (0,0)) au5 hb)
   have n1_ := Aside0.mk (blk_below (g := gb421) (o := .cells #[.int .i32 t418,.int .i64 t419] 87 (0,0)) au9 hb)
   have n2_ := Aside0.mk (below_step au8 hb)
   have n3_ := Aside0.mk (hbox)
   have n4_ := Aside0.mk ((by rw [hg];exact (below_size au8) : w.heap.size ≤ gb424))
   have n5_ := Aside0.mk ((by rw [hg];exact (below_size au8) : w.heap.size ≤ gb424))
   have n6_ := Aside0.mk ((by rw [hg];exact Nat.ne_of_lt (blk_lt (g := gb417) (o := .cells #[.int .i64 0,.int .i64 0,.int .i64 0,.int .i64 0] 60 (0,0)) au5) : gb417 ≠ gb424))
   have n7_ := Aside0.mk ((by rw [hg];exact Nat.ne_of_gt (blk_lt (g := gb417) (o := .cells #[.int .i64 0,.int .i64 0,.int .i64 0,.int .i64 0] 60 (0,0)) au5) : gb424 ≠ gb417))
   have n8_ := Aside0.mk ((by rw [hg];exact Nat.ne_of_lt (blk_lt (g := gb421) (o := .cells #[.int .i32 t418,.int .i64 t419] 87 (0,0)) au9) : gb421 ≠ gb424))
   have n9_ := Aside0.mk ((by rw [hg];exact Nat.ne_of_gt (blk_lt (g := gb421) (o := .cells #[.int .i32 t418,.int .i64 t419] 87 (0,0)) au9) : gb424 ≠ gb421))
   clear BK417
   clear BK421
   clear HB
   have BK417 := n0_
   have BK421 := n1_
   have HB := n2_
   have BK424 := n3_
   have GW424 := n4_
   have GE424 := n5_
   have NB417_424 := n6_
   have NB424_417 := n7_
   have NB421_424 := n8_
   have NB424_421 := n9_
   clear n0_ n1_ n2_ n3_ n4_ n5_ n6_ n7_ n8_ n9_
   clear hb hbox hg
   refine hK.out _ _ ⟨(blk_cell BK421.out 0).trans rfl,(blk_cell BK421.out 1).trans rfl⟩ (fun hHeld => ?_)
   clear hK K
   refine norm_ (a' := ?_) ?_ ?_
   rotate_left
   ·show Act.put _ (some 9) _ = _
    simp only [Act.put,List.setIfInBounds_toArray,List.set_cons_zero,List.set_cons_succ,i64_w,i32_w]
    rfl
   refine one_ (i := 4) (N := some 20) #[true,true,true,true,true,true,true,false,false,true,false] rfl rfl (one_of HT_.out (by kernel_rfl)) (by decide) (fun K hK => ?_)
   refine goes_ Tryd.func71 (by kernel_rfl) rfl #[.int .i32 t418] (by rfl) rfl rfl au1 ?_
   with_reducible refine (width_Class.calls k t418 t422 _ A5.out).mono ?_
   rintro e w21 ⟨rfl,hb⟩
   refine ⟨_,rfl,?_⟩
   have n0_ := Aside0.mk (blk_below (g := gb417) (o := .cells #[.int .i64 0,.int .i64 0,.int .i64 0,.int .i64 0] 60 (0,0)) au5 hb)
   have n1_ := Aside0.mk (blk_below (g := gb421) (o := .cells #[.int .i32 t418,.int .i64 t419] 87 (0,0)) au9 hb)
   have n2_ := Aside0.mk (blk_below (g := gb424) (o := .cells #[.int .i64 0,.int .i64 0,.int .i64 0,.int .i64 0] 60 (0,0)) au27 hb)
   have n3_ := Aside0.mk (below_step au11 hb)
   clear BK417
   clear BK421
   clear BK424
   clear HB
   have BK417 := n0_
   have BK421 := n1_
   have BK424 := n2_
   have HB := n3_
   clear n0_ n1_ n2_ n3_
   (try clear hb)
   (try clear hb2)
   (try clear hk)
   (try clear hi)
   refine hK.out _ _ ⟨(blk_cell BK421.out 0).trans rfl,(blk_cell BK421.out 1).trans rfl⟩ (fun hHeld => ?_)
   clear hK K
   refine norm_ (a' := ?_) ?_ ?_
   rotate_left
   ·show Act.put _ (some 20) _ = _
    simp only [Act.put,List.setIfInBounds_toArray,List.set_cons_zero,List.set_cons_succ,i64_w,i32_w]
    rfl
   refine one_ (i := 7) (N := some 23) #[true,true,true,true,true,true,true,true,false,true,false] rfl rfl (one_of HT_.out (by kernel_rfl)) (by decide) (fun K hK => ?_)
   refine goes_ Tryd.func72 (by kernel_rfl) rfl #[.int .i32 t418] (by rfl) rfl rfl au1 ?_
   with_reducible refine (width_Cells.calls k t418 t423 _ A6.out).mono ?_
   rintro e w22 ⟨rfl,hb⟩
   refine ⟨_,rfl,?_⟩
   have n0_ := Aside0.mk (blk_below (g := gb417) (o := .cells #[.int .i64 0,.int .i64 0,.int .i64 0,.int .i64 0] 60 (0,0)) au5 hb)
   have n1_ := Aside0.mk (blk_below (g := gb421) (o := .cells #[.int .i32 t418,.int .i64 t419] 87 (0,0)) au9 hb)
   have n2_ := Aside0.mk (blk_below (g := gb424) (o := .cells #[.int .i64 0,.int .i64 0,.int .i64 0,.int .i64 0] 60 (0,0)) au27 hb)
   have n3_ := Aside0.mk (below_step au11 hb)
   clear BK417
   clear BK421
   clear BK424
   clear HB
   have BK417 := n0_
   have BK421 := n1_
   have BK424 := n2_
   have HB := n3_
   clear n0_ n1_ n2_ n3_
   (try clear hb)
   (try clear hb2)
   (try clear hk)
   (try clear hi)
   refine hK.out _ _ ⟨(blk_cell BK421.out 0).trans rfl,(blk_cell BK421.out 1).trans rfl⟩ (fun hHeld => ?_)
   clear hK K
   refine norm_ (a' := ?_) ?_ ?_
   rotate_left
   ·show Act.put _ (some 23) _ = _
    simp only [Act.put,List.setIfInBounds_toArray,List.set_cons_zero,List.set_cons_succ,i64_w,i32_w]
    rfl
   refine pure_ (i := 8) (N := some 24) (v := ?_) (a' := ?_) #[true,true,true,true,true,true,true,true,true,true,false] rfl rfl (any_of HT_.out (by kernel_rfl)) (fun _ _ _ h => h) (Or.inl ⟨by rfl,?_⟩) ?_ ?_
   rotate_left
   ·intro w'
    go_simp
    with_reducible rfl
   rotate_left
   ·simp only [Act.put,List.setIfInBounds_toArray,List.set_cons_zero,List.set_cons_succ,i64_w,i32_w]
    rfl
   exact norm_ (by simp only [putAll,Act.put,List.setIfInBounds_toArray,List.set_cons_zero,List.set_cons_succ]) (hCont (gb424) _ ⟨hHeld,au5,au9,au27,GW424.out,GE424.out,NB417_424.out,NB424_417.out,NB421_424.out,NB424_421.out,au11⟩)
 rintro gb424 w23 ⟨hS_,h0_,h1_,h2_,h3_,h4_,h5_,h6_,h7_,h8_,h9_⟩
 have n0_ : Aside0 (w23.heap[gb417]? = some (.cells #[.int .i64 0,.int .i64 0,.int .i64 0,.int .i64 0] 60 (0,0))) := ⟨h0_⟩
 have n1_ : Aside0 (w23.heap[gb421]? = some (.cells #[.int .i32 t418,.int .i64 t419] 87 (0,0))) := ⟨h1_⟩
 have n2_ : Aside0 (w23.heap[gb424]? = some (.cells #[.int .i64 0,.int .i64 0,.int .i64 0,.int .i64 0] 60 (0,0))) := ⟨h2_⟩
 have n3_ : Aside0 (w.heap.size ≤ gb424) := ⟨h3_⟩
 have n4_ : Aside0 (w.heap.size ≤ gb424) := ⟨h4_⟩
 have n5_ : Aside0 (gb417 ≠ gb424) := ⟨h5_⟩
 have n6_ : Aside0 (gb424 ≠ gb417) := ⟨h6_⟩
 have n7_ : Aside0 (gb421 ≠ gb424) := ⟨h7_⟩
 have n8_ : Aside0 (gb424 ≠ gb421) := ⟨h8_⟩
 have n9_ : Aside0 (Below w.heap.size w w23) := ⟨h9_⟩
 clear BK417
 clear BK421
 clear HB
 clear h0_ h1_ h2_ h3_ h4_ h5_ h6_ h7_ h8_ h9_
 have BK417 := n0_
 have BK421 := n1_
 have BK424 := n2_
 have GW424 := n3_
 have GE424 := n4_
 have NB417_424 := n5_
 have NB424_417 := n6_
 have NB421_424 := n7_
 have NB424_421 := n8_
 have HB := n9_
 clear n0_ n1_ n2_ n3_ n4_ n5_ n6_ n7_ n8_ n9_
 have hHeld : w23.cell? ⟨gb421,0,none⟩ = some (.int .i32 t418) ∧ w23.cell? ⟨gb421,1,none⟩ = some (.int .i64 t419) := hS_
 refine norm_ (a' := ?_) ?_ ?_
 rotate_left
 ·simp only [putAll,Act.put,List.setIfInBounds_toArray,List.set_cons_zero,List.set_cons_succ]
  rfl
 refine one_ (i := 10) (N := none) #[true,true,true,true,true,true,true,true,true,true,true] rfl rfl (one_of HT_.out (by kernel_rfl)) (by decide) (fun K hK => ?_)
 have hs24 : w23.cell? ⟨gb424,0,none⟩ = some (.int .i64 0) := (blk_cell BK424.out 0).trans rfl
 have hfs24 := blk_frozen BK424.out 0
 have hns24_0 := NB417_424.out
 have hns24_1 := NB421_424.out
 have hms24_0 := NB424_417.out
 have hms24_1 := NB424_421.out
 have hs25 : w23.cell? ⟨gb424,1,none⟩ = some (.int .i64 0) := (blk_cell BK424.out 1).trans rfl
 have hfs25 := blk_frozen BK424.out 1
 have hns25_0 := NB417_424.out
 have hns25_1 := NB421_424.out
 have hms25_0 := NB424_417.out
 have hms25_1 := NB424_421.out
 have hs26 : w23.cell? ⟨gb424,2,none⟩ = some (.int .i64 0) := (blk_cell BK424.out 2).trans rfl
 have hfs26 := blk_frozen BK424.out 2
 have hns26_0 := NB417_424.out
 have hns26_1 := NB421_424.out
 have hms26_0 := NB424_417.out
 have hms26_1 := NB424_421.out
 have hs27 : w23.cell? ⟨gb424,3,none⟩ = some (.int .i64 0) := (blk_cell BK424.out 3).trans rfl
 have hfs27 := blk_frozen BK424.out 3
 have hns27_0 := NB417_424.out
 have hns27_1 := NB421_424.out
 have hms27_0 := NB424_417.out
 have hms27_1 := NB424_421.out
 refine skip_ (w1 := ?_) (by rfl) rfl ?_ ?_
 rotate_left
 ·go_simp
  rfl
 refine hK.out _ _ ⟨((cell_far (p := ⟨gb424,_,none⟩) NB421_424.out _).trans (((cell_far (p := ⟨gb424,_,none⟩) NB421_424.out _).trans (((cell_far (p := ⟨gb424,_,none⟩) NB421_424.out _).trans (((cell_far (p := ⟨gb424,_,none⟩) NB421_424.out _).trans (hHeld.1)))))))),((cell_far (p := ⟨gb424,_,none⟩) NB421_424.out _).trans (((cell_far (p := ⟨gb424,_,none⟩) NB421_424.out _).trans (((cell_far (p := ⟨gb424,_,none⟩) NB421_424.out _).trans (((cell_far (p := ⟨gb424,_,none⟩) NB421_424.out _).trans (hHeld.2))))))))⟩ (fun hHeld => ?_)
 clear hK K
 refine done_ (done_of HT_.out (by kernel_rfl)) ?_
 have m0 : ((((w23.setCell ⟨gb424,0,none⟩ (.int .i64 a1)).setCell ⟨gb424,1,none⟩ (.int .i64 a2)).setCell ⟨gb424,2,none⟩ (.int .i64 t422)).setCell ⟨gb424,3,none⟩ (.int .i64 t423)).heap[gb424]? = some (.cells #[.int .i64 a1,.int .i64 a2,.int .i64 t422,.int .i64 t423] 60 (0,0)) :=
  blk_put (cs := #[.int .i64 a1,.int .i64 a2,.int .i64 t422,.int .i64 0]) (blk_put (cs := #[.int .i64 a1,.int .i64 a2,.int .i64 0,.int .i64 0]) (blk_put (cs := #[.int .i64 a1,.int .i64 0,.int .i64 0,.int .i64 0]) (blk_put (cs := #[.int .i64 0,.int .i64 0,.int .i64 0,.int .i64 0]) BK424.out 0 _ rfl) 1 _ rfl) 2 _ rfl) 3 _ rfl
 have m1 : ((((w23.setCell ⟨gb424,0,none⟩ (.int .i64 a1)).setCell ⟨gb424,1,none⟩ (.int .i64 a2)).setCell ⟨gb424,2,none⟩ (.int .i64 t422)).setCell ⟨gb424,3,none⟩ (.int .i64 t423)).heap[gb421]? = some (.cells #[.int .i32 t418,.int .i64 t419] 87 (0,0)) :=
  blk_far (blk_far (blk_far (blk_far BK421.out NB421_424.out _) NB421_424.out _) NB421_424.out _) NB421_424.out _
 have m2 : ((((w23.setCell ⟨gb424,0,none⟩ (.int .i64 a1)).setCell ⟨gb424,1,none⟩ (.int .i64 a2)).setCell ⟨gb424,2,none⟩ (.int .i64 t422)).setCell ⟨gb424,3,none⟩ (.int .i64 t423)).heap[gb417]? = some (.cells #[.int .i64 0,.int .i64 0,.int .i64 0,.int .i64 0] 60 (0,0)) :=
  blk_far (blk_far (blk_far (blk_far BK417.out NB417_424.out _) NB417_424.out _) NB417_424.out _) NB417_424.out _
 have m3 : Below w.heap.size w ((((w23.setCell ⟨gb424,0,none⟩ (.int .i64 a1)).setCell ⟨gb424,1,none⟩ (.int .i64 a2)).setCell ⟨gb424,2,none⟩ (.int .i64 t422)).setCell ⟨gb424,3,none⟩ (.int .i64 t423)) :=
  below_set (below_set (below_set (below_set HB.out GE424.out) GE424.out) GE424.out) GE424.out
 have q1 := NB417_424.out
 have q2 := NB424_417.out
 have q3 := GE424.out
 have q4 := GE417.out
 generalize ((((w23.setCell ⟨gb424,0,none⟩ (.int .i64 a1)).setCell ⟨gb424,1,none⟩ (.int .i64 a2)).setCell ⟨gb424,2,none⟩ (.int .i64 t422)).setCell ⟨gb424,3,none⟩ (.int .i64 t423)) = W at m0 m1 m2 m3 ⊢
 (try clear HB)
 (try clear BK417)
 (try clear GW417)
 (try clear GE417)
 (try clear BK421)
 (try clear GW421)
 (try clear GE421)
 (try clear NB417_421)
 (try clear NB421_417)
 (try clear hnb16)
 (try clear hnc16)
 (try clear hcz17_0)
 (try clear hcz17_1)
 (try clear hfz17_0)
 (try clear hfz17_1)
 (try clear BK424)
 (try clear GW424)
 (try clear GE424)
 (try clear NB417_424)
 (try clear NB424_417)
 (try clear NB421_424)
 (try clear NB424_421)
 (try clear hs24)
 (try clear hfs24)
 (try clear hns24_0)
 (try clear hns24_1)
 (try clear hms24_0)
 (try clear hms24_1)
 (try clear hs25)
 (try clear hfs25)
 (try clear hns25_0)
 (try clear hns25_1)
 (try clear hms25_0)
 (try clear hms25_1)
 (try clear hs26)
 (try clear hfs26)
 (try clear hns26_0)
 (try clear hns26_1)
 (try clear hms26_0)
 (try clear hms26_1)
 (try clear hs27)
 (try clear hfs27)
 (try clear hns27_0)
 (try clear hns27_1)
 (try clear hms27_0)
 (try clear hms27_1)
 (try clear hS_)
 (try clear hHeld)
 (try clear HT_)
 (try clear HW_)
 (try clear hCont)
 have e0 : W.cell? ⟨gb421,0,none⟩ = some (.int .i32 t418) := (blk_cell m1 0).trans rfl
 have d0 : W.cell? ⟨gb424,0,none⟩ = some (.int .i64 a1) := (blk_cell m0 0).trans rfl
 have d1 : W.cell? ⟨gb424,1,none⟩ = some (.int .i64 a2) := (blk_cell m0 1).trans rfl
 have d2 : W.cell? ⟨gb424,2,none⟩ = some (.int .i64 t422) := (blk_cell m0 2).trans rfl
 have d3 : W.cell? ⟨gb424,3,none⟩ = some (.int .i64 t423) := (blk_cell m0 3).trans rfl
 have fd2 : W.frozen? ⟨gb424,2,none⟩ = false := blk_frozen m0 2
 have fd3 : W.frozen? ⟨gb424,3,none⟩ = false := blk_frozen m0 3
 have r0 : W.cell? ⟨gb417,0,none⟩ = some (.int .i64 0) := (blk_cell m2 0).trans rfl
 have r1_ : W.cell? ⟨gb417,1,none⟩ = some (.int .i64 0) := (blk_cell m2 1).trans rfl
 have r2_ : W.cell? ⟨gb417,2,none⟩ = some (.int .i64 0) := (blk_cell m2 2).trans rfl
 have r3_ : W.cell? ⟨gb417,3,none⟩ = some (.int .i64 0) := (blk_cell m2 3).trans rfl
 have fr0 : W.frozen? ⟨gb417,0,none⟩ = false := blk_frozen m2 0
 have fr1 : W.frozen? ⟨gb417,1,none⟩ = false := blk_frozen m2 1
 have fr2 : W.frozen? ⟨gb417,2,none⟩ = false := blk_frozen m2 2
 have fr3 : W.frozen? ⟨gb417,3,none⟩ = false := blk_frozen m2 3
 by_cases c7 : t418 = 13
 ·rw [if_pos c7] at H
  have c7b0 : (t418 == 13) = true := beq_iff_eq.mpr c7
  clear c7
  obtain ⟨j,hj⟩ : ∃ j_ : Int,wrap64 (a1 + 1) = j_ := ⟨_,rfl⟩
  rw [hj] at H
  have hjw : IntKind.i64.wrap (a1 + 1) = j := (i64_w _).trans hj
  clear hj
  by_cases c9 : 0 ≤ j
  ·rw [if_pos c9] at H
   have c9b0 := eq_true c9
   have c9b1 : decide (0 ≤ j) = true := decide_eq_true c9
   clear c9
   by_cases c10 : j ≤ (a0.size : Int)
   ·rw [if_pos c10] at H
    have c10b0 := eq_true c10
    have c10b1 : decide (j ≤ (a0.size : Int)) = true := decide_eq_true c10
    clear c10
    obtain ⟨b,hp,H⟩ := Option.bind_eq_some_iff.mp H
    have HP := Aside0.mk hp
    clear hp
    by_cases c12 : b = true
    ·subst c12
     rw [if_pos rfl] at H
     simp only [Option.some.injEq,Prod.mk.injEq] at H
     obtain ⟨rfl,rfl,rfl,rfl⟩ := H
     go_wp2_with (go_at_call 73;(with_reducible refine (strings_HasPrefix.calls (a0.extract (j : Int).toNat a0.size) (⟨#[10]⟩ : ByteArray) true _ HP.out).mono ?_);rintro e w' ⟨rfl,⟨nd,rfl⟩⟩)
     refine bodyPost_ret (results_cell_row rfl _ _ gb417 60 #[.int .i64 a1,.int .i64 a2,.int .i64 1,.int .i64 0] (0,0) _ rfl (blk_put (cs := #[.int .i64 a1,.int .i64 a2,.int .i64 1,.int .i64 0]) (blk_put (cs := #[.int .i64 a1,.int .i64 a2,.int .i64 0,.int .i64 0]) (blk_put (cs := #[.int .i64 a1,.int .i64 0,.int .i64 0,.int .i64 0]) (blk_put (cs := #[.int .i64 0,.int .i64 0,.int .i64 0,.int .i64 0]) (blk_far (blk_far (blk_drewN m2 nd) q1 _) q1 _) 0 _ rfl) 1 _ rfl) 2 _ rfl) 3 _ rfl) Tryd.underlying60 rfl (by kernel_rfl)) rfl ?_
     exact ⟨rfl,below_set (below_set (below_set (below_set (below_set (below_set (pw_below_drewN m3 nd) q3) q3) q4) q4) q4) q4⟩
    ·replace c12 := Bool.eq_false_iff.mpr c12
     subst c12
     rw [if_neg (by decide)] at H
     simp only [Option.some.injEq,Prod.mk.injEq] at H
     obtain ⟨rfl,rfl,rfl,rfl⟩ := H
     go_wp2_with (go_at_call 73;(with_reducible refine (strings_HasPrefix.calls (a0.extract (j : Int).toNat a0.size) (⟨#[10]⟩ : ByteArray) false _ HP.out).mono ?_);rintro e w' ⟨rfl,⟨nd,rfl⟩⟩)
     refine bodyPost_ret (results_cell_row rfl _ _ gb417 60 #[.int .i64 a1,.int .i64 a2,.int .i64 t422,.int .i64 t423] (0,0) _ rfl (blk_put (cs := #[.int .i64 a1,.int .i64 a2,.int .i64 t422,.int .i64 0]) (blk_put (cs := #[.int .i64 a1,.int .i64 a2,.int .i64 0,.int .i64 0]) (blk_put (cs := #[.int .i64 a1,.int .i64 0,.int .i64 0,.int .i64 0]) (blk_put (cs := #[.int .i64 0,.int .i64 0,.int .i64 0,.int .i64 0]) (blk_drewN m2 nd) 0 _ rfl) 1 _ rfl) 2 _ rfl) 3 _ rfl) Tryd.underlying60 rfl (by kernel_rfl)) rfl ?_
     exact ⟨rfl,below_set (below_set (below_set (below_set (pw_below_drewN m3 nd) q4) q4) q4) q4⟩
   ·rw [if_neg c10] at H;cases H
  ·rw [if_neg c9] at H;cases H
 ·rw [if_neg c7] at H
  have c7b0 : (t418 == 13) = false := by simpa using c7
  clear c7
  simp only [Option.some.injEq,Prod.mk.injEq] at H
  obtain ⟨rfl,rfl,rfl,rfl⟩ := H
  go_wp2
  refine bodyPost_ret (results_cell_row rfl _ _ gb417 60 #[.int .i64 a1,.int .i64 a2,.int .i64 t422,.int .i64 t423] (0,0) _ rfl (blk_put (cs := #[.int .i64 a1,.int .i64 a2,.int .i64 t422,.int .i64 0]) (blk_put (cs := #[.int .i64 a1,.int .i64 a2,.int .i64 0,.int .i64 0]) (blk_put (cs := #[.int .i64 a1,.int .i64 0,.int .i64 0,.int .i64 0]) (blk_put (cs := #[.int .i64 0,.int .i64 0,.int .i64 0,.int .i64 0]) m2 0 _ rfl) 1 _ rfl) 2 _ rfl) 3 _ rfl) Tryd.underlying60 rfl (by kernel_rfl)) rfl ?_
  exact ⟨rfl,below_set (below_set (below_set (below_set m3 q4) q4) q4) q4⟩
end Go.Proofs.YtnpjaaldppemlaaDoor.U
end
section
namespace Go.Proofs.YtnpjaaldppemlaaDoor.Rg
open Go Go.RowKit
/-- What a round keeps: what lies below n₀;the cells that lie from B on;and the cells of the blocks of Pr (what the iterator has captured). -/
def KeepB (n₀ : Nat) (Pr : Nat → Prop) (B : Nat) (W W' : World) : Prop :=
 Below n₀ W W' ∧ ∀ (k : Nat) (o : Obj),(Pr k ∨ B ≤ k) → W.heap[k]? = some o → o.isCells = true → W'.heap[k]? = some o
theorem KeepB.refl (n₀ : Nat) (Pr : Nat → Prop) (B : Nat) (W : World) : KeepB n₀ Pr B W W := ⟨Below.refl _ _,fun _ _ _ h _ => h⟩
theorem KeepB.trans {n₀ : Nat} {Pr : Nat → Prop} {B : Nat} {X Y Z : World} (h : KeepB n₀ Pr B X Y) (k : KeepB n₀ Pr B Y Z) : KeepB n₀ Pr B X Z :=
 ⟨h.1.trans k.1,fun i o hi ho hc => k.2 i o hi (h.2 i o hi ho hc) hc⟩
theorem KeepB.of_below {n₀ : Nat} {Pr : Nat → Prop} {B : Nat} {X Y : World} (hn : n₀ ≤ X.heap.size) (h : Below X.heap.size X Y) : KeepB n₀ Pr B X Y :=
 ⟨h.mono hn,fun k _o _ ho _ => (h.block k (Array.getElem?_eq_some_iff.1 ho).1).trans ho⟩
theorem KeepB.putObj {n₀ : Nat} {Pr : Nat → Prop} {B : Nat} {W : World} {l : Nat} {o : Obj} (o' : Obj) (hn : n₀ ≤ W.heap.size) (hl : n₀ ≤ l) (h : W.heap[l]? = some o) (ho : o.isCells = false) : KeepB n₀ Pr B W (W.putObj l o') :=
 ⟨(Below.refl n₀ W).grown (grownBy_putObj' W l o') hn (fun k e => by cases e;omega),fun k p _ hk hc => by
  refine (World.putObj_heap_other (fun e => ?_)).trans hk
  subst e;rw [h] at hk;cases hk;rw [ho] at hc;cases hc⟩
/-- The iterator's contract: at each call of yield it tells a world W0 in which the caller's word held,and what it has laid since. -/
def SeqB {α : Type} (F : Fence) (n : Nat) (P : Program) (g : Nat) (lb : Array Value) (encs : α → Array Value) (n₀ : Nat) (Pr : Nat → Prop) (S Sp : List α → Prop) (N : Nat) (w : World) : Prop :=
 ∀ (l : Nat) (J Jx : List α → World → Prop) (W : World),Below w.heap.size w W → AbidesFrom W.heap.size J → AbidesFrom W.heap.size Jx →
  (∀ pre x W0 W1,J pre W0 → Below W0.heap.size W0 W1 → pre.length < N → Sp (pre ++ [x]) → YieldAt F (n - 1) P l (encs x) W1 fun e W' =>
   (e = .returned (.bool true) ∧ J (pre ++ [x]) W' ∧ KeepB n₀ Pr W0.heap.size W1 W') ∨ (e = .returned (.bool false) ∧ Jx (pre ++ [x]) W')) →
  J [] W →
  CallsIn F n P g (#[.func (.yield l) #[] #[]] ++ lb) W fun e W' => (∃ v,e = .returned v) ∧ ((∃ xs,S xs ∧ J xs W') ∨ (∃ pre,Sp pre ∧ Jx pre W'))
theorem SeqB.inRound {α : Type} {F : Fence} {n : Nat} {P : Program} {g : Nat} {lb : Array Value} {encs : α → Array Value} {n₀ : Nat} {Pr : Nat → Prop} {S Sp : List α → Prop} {N : Nat} {w : World} (l : Nat)
  (h : SeqB F n P g lb encs n₀ Pr S Sp N w) : SeqB (F.inRound l) n P g lb encs n₀ Pr S Sp N w := h
/-- How a round may be left. -/
def PostB {α : Type} (C n₀ : Nat) (Pr : Nat → Prop) (B : Nat) (I : Nat → List α → World → Prop) (Ix : Code → List α → World → Prop) (xs : List α) (W : World) : Exit → Act → World → Prop
 | .normal,_,W' => KeepsFrom C W W' ∧ KeepB n₀ Pr B W W' ∧ I W'.heap.size xs W'
 | .ret,_,W' => KeepsFrom C W W' ∧ Ix .ret xs W'
 | .exit id,_,W' => KeepsFrom C W W' ∧ Ix (.exit id) xs W'
 | .goto t,_,W' => KeepsFrom C W W' ∧ Ix (.goto t) xs W'
 | .panic _,_,_ => False
 | .outgrown,_,_ => False
variable {F : Fence} {n : Nat} {P : Program}
/-- What of a loop's own book-keeping lasts through its rounds: its record,and the block for deferred calls,where there is one. -/
structure Book (dz : Option Nat) (L : Nat) (r : Loop) (W : World) : Prop where
 at_ : W.heap[L]? = some (.loop r)
 dz_ : ∀ d,dz = some d → W.heap[d]? = some (.deferred (some []))
theorem Book.walks {dz : Option Nat} {L : Nat} {r : Loop} {A B : World} {row : Option Nat} (h : Book dz L r A) (hg : A.grownBy B row) (hr : ∀ k,row = some k → ∃ o : Obj,A.heap[k]? = some o ∧ o.isWalk = true) : Book dz L r B :=
 ⟨(grownBy_keeps hg hr h.at_ rfl).trans h.at_,fun d e => (grownBy_keeps hg hr (h.dz_ d e) rfl).trans (h.dz_ d e)⟩
theorem Book.from_ {dz : Option Nat} {L C : Nat} {r : Loop} {A B : World} (h : Book dz L r A) (hL : C ≤ L) (hd : ∀ d,dz = some d → C ≤ d ∧ d ≠ L) (hk : KeepsFrom C A B) : Book dz L r B :=
 ⟨hk.same _ _ hL h.at_ rfl,fun d e => hk.same _ _ (hd d e).1 (h.dz_ d e) rfl⟩
theorem Book.put {dz : Option Nat} {L C : Nat} {r : Loop} {A : World} (h : Book dz L r A) (hd : ∀ d,dz = some d → C ≤ d ∧ d ≠ L) (r' : Loop) : Book dz L r' (A.putObj L (.loop r')) :=
 ⟨World.putObj_heap_same (Array.getElem?_eq_some_iff.1 h.at_).1,fun d e => (World.putObj_heap_other (hd d e).2).trans (h.dz_ d e)⟩
/-- The rounds,whichever way the loop was entered. -/
theorem rounds {α : Type} {fid : FuncId} {ps : Array Tmp} {assign body : Code} {tm : Array Value} {C n₀ L D gf : Nat} {Pr : Nat → Prop} {lb : Array Value} {W1 w0 : World} {dz : Option Nat}
  {encs : α → Array Value} {S Sp : List α → Prop} {N : Nat} (hfid : F.fn fid) (hseq : SeqB F (n - 1) P gf lb encs n₀ Pr S Sp N w0) (hb1 : Below w0.heap.size w0 W1) (hps : ∀ x,(encs x).size = ps.size)
  (rec : LoopState → Option Code → Loop) (hrec : rec = fun st pe => { state := st,pending := pe,fn := fid,tmps := tm,params := ps,assign,body,defers := D })
  (hnC : n₀ ≤ C) (hCL : C ≤ L) (hCW : C ≤ W1.heap.size) (hdz : ∀ d,dz = some d → C ≤ d ∧ d ≠ L) (hbk : Book dz L (rec .ready none) W1)
  (I : Nat → List α → World → Prop) (Ix : Code → List α → World → Prop) (hI : ∀ B,OwnFrom C (I B)) (hm : ∀ B B' pre W,B ≤ B' → I B pre W → I B' pre W) (hIx : ∀ c,OwnFrom C (Ix c)) (h0 : I W1.heap.size [] W1)
  (Ax : α → Act → World → Prop) (hAx : ∀ x a',OwnFrom C (fun (_ : Unit) W => Ax x a' W))
  (hassign : ∀ (B : Nat) (pre : List α) (x : α) (W : World) (K : Act → World → Prop),C ≤ W.heap.size → B ≤ W.heap.size → I B pre W → (∀ a' W',KeepsFrom C W W' → KeepB n₀ Pr B W W' → I B pre W' → Ax x a' W' → K a' W') →
   assign.wpIn (F.inRound L) (n - 1 - 1) P (Exit.then K (fun _ _ _ => False)) { tmps := (ps.zip (encs x)).foldl (fun t (p,v) => t.setIfInBounds p v) tm,defers := [] } W)
  (hbody : ∀ (B : Nat) (pre : List α) (x : α) (a' : Act) (W : World),C ≤ W.heap.size → (∃ r,W.heap[L]? = some (.loop r)) → B ≤ W.heap.size → I B pre W → Ax x a' W → pre.length < N → Sp (pre ++ [x]) → body.wpIn (F.inRound L) (n - 1 - 1) P (PostB C n₀ Pr B I Ix (pre ++ [x]) W) a' W) :
  CallsIn F (n - 1) P gf (#[.func (.yield L) #[] #[]] ++ lb) W1 fun e W' => (∃ v,e = .returned v) ∧
   ((∃ xs,S xs ∧ C ≤ W'.heap.size ∧ I W'.heap.size xs W' ∧ Book dz L (rec .ready none) W') ∨ (∃ pre c,Sp pre ∧ C ≤ W'.heap.size ∧ Ix c pre W' ∧ Book dz L (rec .done (some c)) W')) := by
 have hC0 : ∀ {A B : World} {row : Option Nat},(∀ r,row = some r → W1.heap.size ≤ r ∧ ∃ o : Obj,A.heap[r]? = some o ∧ o.isWalk = true) → (∀ r,row = some r → C ≤ r ∧ ∃ o : Obj,A.heap[r]? = some o ∧ o.isCells = false) :=
  fun hr r e => by obtain ⟨hB,o,ho,hw⟩ := hr r e;exact ⟨Nat.le_trans hCW hB,o,ho,Obj.not_cells_of_walk hw⟩
 refine (hseq L (fun pre W => I W.heap.size pre W ∧ Book dz L (rec .ready none) W ∧ C ≤ W.heap.size) (fun pre W => ∃ c,Ix c pre W ∧ Book dz L (rec .done (some c)) W ∧ C ≤ W.heap.size) W1 hb1 ?_ ?_ ?_ ⟨h0,hbk,hCW⟩).mono ?_
 ·rintro s A B row ⟨h1,h2,h3⟩ hg hr
  exact ⟨hm _ _ _ _ hg.size (hI _ s A B row h1 hg (hC0 (B := B) hr)),h2.walks hg (fun r e => (hr r e).2),Nat.le_trans h3 hg.size⟩
 ·rintro s A B row ⟨c,h1,h2,h3⟩ hg hr
  exact ⟨c,hIx c s A B row h1 hg (hC0 (B := B) hr),h2.walks hg (fun r e => (hr r e).2),Nat.le_trans h3 hg.size⟩
 ·rintro pre x W0 W ⟨hi0,hb0,hC⟩ hbel hlen hsp
  have hg : W0.grownBy W none := ⟨hbel.os,hbel.tape,hbel.output,hbel.size,fun i hi _ => hbel.block i hi⟩
  have hi : I W0.heap.size pre W := hI _ pre W0 W none hi0 hg (fun r e => by cases e)
  have hb : Book dz L (rec .ready none) W := hb0.walks hg (fun r e => by cases e)
  have hCW' : C ≤ W.heap.size := Nat.le_trans hC hbel.size
  have hy := run_yield (P := P) (args := encs x) hb.at_ (by rw [hrec];exact hps x)
  rw [hrec] at hy
  refine ⟨fid,_,assign,body,hy,roundIn_of_wpIn hfid (hassign W0.heap.size pre x W _ hCW' hbel.size hi ?_)⟩
  intro a' Wa hkf hkb hia hax
  have hba := hb.from_ hCL hdz hkf
  have hCa : C ≤ Wa.heap.size := Nat.le_trans hCW' hkf.size
  refine ⟨_,run_beginRound hba.at_ (by rw [hrec]),?_⟩
  have hba2 := hba.put (C := C) hdz { rec .ready none with state := .busy }
  have hkb2 : KeepB n₀ Pr W0.heap.size Wa (Wa.putObj L (.loop { rec .ready none with state := .busy })) := KeepB.putObj _ (Nat.le_trans hnC hCa) (Nat.le_trans hnC hCL) hba.at_ rfl
  have hsz2 : (Wa.putObj L (.loop { rec .ready none with state := .busy })).heap.size = Wa.heap.size := by simp
  refine wpIn_mono (hbody W0.heap.size pre x a' _ (by rw [hsz2];exact hCa) ⟨_,hba2.at_⟩ (by rw [hsz2];exact Nat.le_trans hbel.size hkf.size) ((hI _).putObj _ hia hCL hba.at_ rfl) ((hAx x a').putObj (s := ()) _ hax hCL hba.at_ rfl) hlen hsp) ?_
  have fin : ∀ (jump : Option Code) (W3 : World),KeepsFrom C (Wa.putObj L (.loop { rec .ready none with state := .busy })) W3 →
    (Instr.endRound L jump).run P W3 = .ok (.bool jump.isNone) (W3.putObj L (.loop (rec (if jump.isNone then .ready else .done) jump))) ∧
    W3.heap[L]? = some (.loop { rec .ready none with state := .busy }) ∧ Book dz L (rec (if jump.isNone then .ready else .done) jump) (W3.putObj L (.loop (rec (if jump.isNone then .ready else .done) jump))) ∧
    C ≤ (W3.putObj L (.loop (rec (if jump.isNone then .ready else .done) jump))).heap.size := fun jump W3 hk3 => by
   have hb3 := hba2.from_ hCL hdz hk3
   have he := run_endRound (P := P) jump hb3.at_
   refine ⟨?_,hb3.at_,hb3.put (C := C) hdz _,by have := hk3.size;rw [hsz2] at this;simp;omega⟩
   rw [hrec] at he ⊢
   exact he
  rintro e a3 W3 hp
  cases e with
  | normal =>
   obtain ⟨hk3,hkp3,hi3⟩ := hp
   obtain ⟨hr,hl3,hb4,hC4⟩ := fin none W3 hk3
   have hsz3 : n₀ ≤ W3.heap.size := Nat.le_trans hnC (by simpa using hC4)
   refine ⟨_,_,hr,.inl ⟨rfl,⟨?_,hb4,hC4⟩,((hkb.trans hkb2).trans hkp3).trans (KeepB.putObj _ hsz3 (Nat.le_trans hnC hCL) hl3 rfl)⟩⟩
   have hx := (hI _).putObj (.loop (rec .ready none)) hi3 hCL hl3 rfl
   simpa using hx
  | ret =>
   obtain ⟨hk3,hi3⟩ := hp
   obtain ⟨hr,hl3,hb4,hC4⟩ := fin (some .ret) W3 hk3
   exact ⟨_,_,hr,.inr ⟨rfl,.ret,(hIx _).putObj _ hi3 hCL hl3 rfl,hb4,hC4⟩⟩
  | exit id =>
   obtain ⟨hk3,hi3⟩ := hp
   obtain ⟨hr,hl3,hb4,hC4⟩ := fin (some (.exit id)) W3 hk3
   exact ⟨_,_,hr,.inr ⟨rfl,.exit id,(hIx _).putObj _ hi3 hCL hl3 rfl,hb4,hC4⟩⟩
  | goto t =>
   obtain ⟨hk3,hi3⟩ := hp
   obtain ⟨hr,hl3,hb4,hC4⟩ := fin (some (.goto t)) W3 hk3
   exact ⟨_,_,hr,.inr ⟨rfl,.goto t,(hIx _).putObj _ hi3 hCL hl3 rfl,hb4,hC4⟩⟩
  | panic ch => exact hp.elim
  | outgrown => exact hp.elim
 ·rintro e W2 ⟨⟨v,rfl⟩,(⟨xs,hS,hi,hb,hC⟩ | ⟨pre,hSp,c,hi,hb,hC⟩)⟩
  ·exact ⟨⟨v,rfl⟩,.inl ⟨xs,hS,hC,hi,hb⟩⟩
  ·exact ⟨⟨v,rfl⟩,.inr ⟨pre,c,hSp,hC,hi,hb⟩⟩
/-- A loop that stands in no round. -/
theorem range_outer {α : Type} {g : Operand} {ps : Array Tmp} {assign body : Code} {Q : Exit → Act → World → Prop} {a : Act} {w : World} {n₀ : Nat} {Pr : Nat → Prop}
  (hro : F.round = none) (h1 : 1 ≤ n) {gf : Nat} {lb : Array Value} (hg : a.eval g = .func (.func gf) #[] lb) (hFg : F.fn gf) (eg : ∀ args w,(callFunc gf args).run P w = .ok (.enter gf args) w)
  {encs : α → Array Value} {S Sp : List α → Prop} {N : Nat} {w0 : World} (hseq : SeqB F (n - 1) P gf lb encs n₀ Pr S Sp N w0) (hb0 : Below w0.heap.size w0 w) (hps : ∀ x,(encs x).size = ps.size) (hn₀ : n₀ ≤ w.heap.size)
  (I : Nat → List α → World → Prop) (Ix : Code → List α → World → Prop) (hI : ∀ B,OwnFrom w.heap.size (I B)) (hm : ∀ B B' pre W,B ≤ B' → I B pre W → I B' pre W) (hIx : ∀ c,OwnFrom w.heap.size (Ix c)) (h0 : I w.heap.size [] w)
  (Ax : α → Act → World → Prop) (hAx : ∀ x a',OwnFrom w.heap.size (fun (_ : Unit) W => Ax x a' W))
  (hassign : ∀ (l B : Nat) (pre : List α) (x : α) (W : World) (K : Act → World → Prop),w.heap.size ≤ W.heap.size → B ≤ W.heap.size → I B pre W → (∀ a' W',KeepsFrom w.heap.size W W' → KeepB n₀ Pr B W W' → I B pre W' → Ax x a' W' → K a' W') →
   assign.wpIn (F.inRound l) (n - 1 - 1) P (Exit.then K (fun _ _ _ => False)) { tmps := (ps.zip (encs x)).foldl (fun t (p,v) => t.setIfInBounds p v) a.tmps,defers := [] } W)
  (hbody : ∀ (l B : Nat) (pre : List α) (x : α) (a' : Act) (W : World),w.heap.size ≤ l → w.heap.size ≤ W.heap.size → (∃ r,W.heap[l]? = some (.loop r)) → B ≤ W.heap.size → I B pre W → Ax x a' W → pre.length < N → Sp (pre ++ [x]) → body.wpIn (F.inRound l) (n - 1 - 1) P (PostB w.heap.size n₀ Pr B I Ix (pre ++ [x]) W) a' W)
  (hdone : ∀ (D : Nat) (xs : List α) (W : World),w.heap.size ≤ D → S xs → I W.heap.size xs W → W.heap[D]? = some (.deferred (some [])) → Q .normal { a with defers := { target := .collected D,args := #[] } :: a.defers } W)
  (hstop : ∀ (D : Nat) (c : Code) (pre : List α) (W : World),w.heap.size ≤ D → Sp pre → Ix c pre W → W.heap[D]? = some (.deferred (some [])) → c.wpIn F n P Q { a with defers := { target := .collected D,args := #[] } :: a.defers } W) :
  (Code.rangeFunc g ps assign body).wpIn F n P Q a w := by
 refine wpIn_rangeFunc ?_
 intro fid hfid
 rw [hro]
 obtain ⟨rec,hrec⟩ : ∃ rec : LoopState → Option Code → Loop,rec = fun st pe => { state := st,pending := pe,fn := fid,tmps := a.tmps,params := ps,assign,body,defers := w.heap.size } := ⟨_,rfl⟩
 obtain ⟨W1,hW1⟩ : ∃ W1,(w.alloc (.deferred (some []))).alloc (.loop (rec .ready none)) = W1 := ⟨_,rfl⟩
 have hbk : Book (some w.heap.size) (w.heap.size + 1) (rec .ready none) W1 := by
  rw [← hW1]
  refine ⟨?_,fun d e => ?_⟩
  ·have := World.alloc_heap_new (w.alloc (.deferred (some []))) (.loop (rec .ready none));rwa [World.size_alloc] at this
  ·cases e;exact (Below.heap_alloc _ _ _ (by simp)).trans (World.alloc_heap_new w _)
 have hsz : W1.heap.size = w.heap.size + 2 := by rw [← hW1];simp
 have hI1 : I W1.heap.size [] W1 := hm w.heap.size W1.heap.size [] W1 (by omega) (by rw [← hW1];exact (hI w.heap.size).alloc _ ((hI w.heap.size).alloc _ h0))
 have hb1 : Below w0.heap.size w0 W1 := by
  rw [← hW1];exact hb0.trans ((((Below.refl _ w).alloc (Nat.le_refl _) _).alloc (by simp) _).mono hb0.size)
 refine ⟨w.heap.size + 1,[{ target := .collected w.heap.size,args := #[] }],W1,{ target := .fn (.func gf) lb,args := #[.func (.yield (w.heap.size + 1)) #[] #[]] },W1,gf,
  #[.func (.yield (w.heap.size + 1)) #[] #[]] ++ lb,W1,?_,?_,?_,?_,fun _ => h1,?_⟩
 ·rw [← hW1,hrec];exact run_enterLoop_outer _ _ _ _ _
 ·simp only [resolve,hg]
  simp [go_sem]
 ·intro f' hf';simp [Target.leads] at hf';subst hf';exact hFg
 ·simp [invoke,go_sem,eg]
 ·refine (rounds (C := w.heap.size) (dz := some w.heap.size) hfid hseq hb1 hps rec hrec hn₀ (by omega) (by omega) (fun d e => by cases e;exact ⟨Nat.le_refl _,by omega⟩) hbk I Ix hI hm hIx hI1 Ax hAx
   (fun B => hassign _ B) (fun B pre x a' W => hbody _ B pre x a' W (by omega))).mono ?_
  rintro e W2 ⟨⟨v,rfl⟩,(⟨xs,hS,hC,hi,hb⟩ | ⟨pre,c,hSp,hC,hi,hb⟩)⟩
  ·refine ⟨none,_,by have := run_endLoop (P := P) hb.at_ (by rw [hrec];simp);rw [hrec] at this;exact this,hdone w.heap.size xs _ (Nat.le_refl _) hS ?_ ((World.putObj_heap_other (by omega)).trans (hb.dz_ _ rfl))⟩
   have hx := (hI _).putObj (.loop { rec .ready none with state := .exhausted }) hi (by omega : w.heap.size ≤ w.heap.size + 1) hb.at_ rfl
   rw [hrec] at hx
   simpa using hx
  ·exact ⟨some c,_,by have := run_endLoop (P := P) hb.at_ (by rw [hrec];simp);rw [hrec] at this;exact this,hstop w.heap.size c pre _ (Nat.le_refl _) hSp ((hIx c).putObj _ hi (by omega) hb.at_ rfl) ((World.putObj_heap_other (by omega)).trans (hb.dz_ _ rfl))⟩
section
variable {ops : Array Oper} {md : Region.Mode} {C : World → Prop}
def noDefer : List Oper → Bool
 | [] => true
 | o :: l => (match o.op with | .defer _ => false | _ => true) && noDefer l
theorem noDefer_spec : ∀ {l : List Oper},noDefer l = true → ∀ (j : Nat) (o : Oper),l[j]? = some o → ∀ c,o.op ≠ Op.defer c
 | [],_,_,_,h,_ => by simp at h
 | p :: l,hn,j,o,h,c => by
  simp only [noDefer,Bool.and_eq_true] at hn
  cases j with
  | zero => simp at h;subst h;intro e;rw [e] at hn;simp at hn
  | succ j => exact noDefer_spec hn.2 j o (by simpa using h) c
end
end Go.Proofs.YtnpjaaldppemlaaDoor.Rg
end
section
namespace Go.Proofs.YtnpjaaldppemlaaDoor.U
open Go.RowKit Go.Shelf Go.Proofs.YtnpjaaldppemlaaDoor.Mu Go.Proofs.YtnpjaaldppemlaaDoor.Rg Go.Proofs.YtnpjaaldppemlaaDoorW.PrintWords Go.Proofs.YtnpjaaldppemlaaDoorW.PrintLast Go.Proofs.YtnpjaaldppemlaaDoorW.PrintMore
attribute [local go_sem] Oper.semAt_some
set_option linter.unusedVariables false
set_option linter.unusedSimpArgs false
theorem boxed_grow {X Y : World} {row : Option Nat} {B : Nat} {t : TypeId} {v : Value} (h : Boxed X B t v) (hg : X.grownBy Y row) (hr : ∀ r,row = some r → ∃ o : Obj,X.heap[r]? = some o ∧ o.isCells = false) : Boxed Y B t v :=
 boxed_own B t (fun _ : Unit => v) () X Y row h hg hr
theorem boxed_below {X Y : World} {B : Nat} {t : TypeId} {v : Value} (h : Boxed X B t v) (hb : Below X.heap.size X Y) : Boxed Y B t v := (hb.block B h.lt).trans h
end Go.Proofs.YtnpjaaldppemlaaDoor.U
end
