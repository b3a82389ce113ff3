/- What the law UnitBegins reaches of this seat's own texts, merged; what nothing uses is left out. -/
import Derived.Test.YtfhnfhgpaoddbaaDoorZUnitBegins0
section
namespace Go.Proofs.YtfhnfhgpaoddbaaDoor.U
open Go.RowKit Go.Shelf Go.Proofs.YtfhnfhgpaoddbaaDoor.Mu Go.Proofs.YtfhnfhgpaoddbaaDoor.Rf Go.Proofs.YtfhnfhgpaoddbaaDoorW.PrintWords Go.Proofs.YtfhnfhgpaoddbaaDoorW.PrintLast Go.Proofs.YtfhnfhgpaoddbaaDoorW.PrintMore
attribute [local go_sem] Oper.semAt_some
set_option linter.unusedVariables false
set_option linter.unusedSimpArgs false
def uAt (s : ByteArray) (i : Nat) : S30 := ⟨uC s i,(uN s i : Int)⟩
def walkL (s : ByteArray) : Nat → Nat → List (Int × S30)
 | 0,_ => []
 | k + 1,i => if i < s.size then ((i : Int),uAt s i) :: walkL s k (i + uN s i) else []
def walkU (s : ByteArray) : List (Int × S30) := walkL s s.size 0
def unitsL (s : ByteArray) : List S30 := (walkU s).map (·.2)
theorem walkL_length (s : ByteArray) : ∀ k i,(walkL s k i).length ≤ k
 | 0,_ => by simp [walkL]
 | k + 1,i => by
  unfold walkL
  split
  ·have := walkL_length s k (i + uN s i);simp;omega
  ·simp
theorem first_at (s : ByteArray) (i : Nat) (h : i < s.size) : unit_first.f (s.extract i s.size) = some (uC s i,(uN s i : Int)) := by
 unfold unit_first.f utf8_DecodeRuneInString.f
 rw [decodeGo_extract s i h]
 unfold uC uN
 simp only [Option.bind_some]
 generalize Utf8.decode s i = d
 obtain ⟨c,m⟩ := d
 by_cases hc : c = 65533
 ·by_cases hm : m = 1
  ·subst hc;subst hm;simp
  ·have : ¬ ((m : Int) = 1) := by omega
   simp [hc,hm,this]
 ·have : ¬ ((c : Int) = 65533) := by omega
  simp [hc,this]
abbrev encU (x : Int × S30) : Array Value := #[.int .i64 x.1,.agg #[.int .i32 x.2.f0,.int .i64 x.2.f1]]
set_option maxRecDepth 100000 in
set_option maxHeartbeats 2000000 in
/-- unit.Walk's inner function: its contract. -/
theorem walk1_seq (n : Nat) (hn : 1 ≤ n) (w₀ w : World) (s : ByteArray) (Bs : Nat) (hs : s.size ≤ 4611686018427387904) (hT : Lib.Utf8Tabs 0 1 w₀) (hb : Below w₀.heap.size w₀ w) (hc : Boxed w Bs 9 (.string s)) :
  SeqB Fence.wide n Tryd.prog 60 #[.pointer (some ⟨Bs,0,none⟩)] encU w₀.heap.size (fun k => k = Bs) (fun xs => Hid (xs = walkU s)) (fun pre => pre <+: walkU s) (walkU s).length w := by
 intro l J Jx W hW hJ hJx hY h0
 refine callsIn_of_wp Tryd.func60 rfl trivial ?_ rfl
 simp only [Tryd.ntmps60,List.size_toArray,List.length_cons,List.length_nil,Nat.reduceAdd,Nat.reduceSub,Array.replicate_succ,Array.replicate_zero,List.push_toArray,List.append_toArray,List.nil_append,List.cons_append]
 gi_wp2
 gi_loopw [3] (fun v wr => ∃ (i k : Nat) (pre : List (Int × S30)),v = .int .i64 i ∧ i ≤ s.size ∧ s.size ≤ i + k ∧ Hid (walkU s = pre ++ walkL s k i) ∧ J pre wr ∧ Boxed wr Bs 9 (.string s) ∧ Below w₀.heap.size w₀ wr)
  (fun v _ => s.size - (intOf v).toNat)
 case atStart =>
  exact ⟨0,s.size,[],rfl,Nat.zero_le _,by omega,Lib.hid rfl,h0,(hW.block Bs hc.lt).trans hc,hb.trans (hW.mono hb.size)⟩
 case round =>
  obtain ⟨i,k,pre,rfl,hi,hk,hx,hJs,hbx,hbl⟩ := hrel
  have hcb := hbx.cell
  by_cases hlt : i < s.size
  ·have hlt' : (i : Int) < (s.size : Int) := by omega
   obtain ⟨k,rfl⟩ : ∃ k',k = k' + 1 := ⟨k - 1,by omega⟩
   obtain ⟨c,hc'⟩ : ∃ c,uC s i = c := ⟨_,rfl⟩
   obtain ⟨m,hm'⟩ : ∃ m,uN s i = m := ⟨_,rfl⟩
   have hf : Hid (unit_first.f (s.extract i s.size) = some (c,(m : Int))) := Lib.hid (by rw [first_at s i hlt,hc',hm'])
   have hx2 : Hid (walkU s = pre ++ ((i : Int),(⟨c,(m : Int)⟩ : S30)) :: walkL s k (i + m)) := Lib.hid (by
    have := hx.out;rw [walkL,if_pos hlt] at this;unfold uAt at this;rw [hc',hm'] at this;exact this)
   have hm1 : 1 ≤ m := hm' ▸ uN_pos s i
   have hm2 : i + m ≤ s.size := hm' ▸ uN_le s i hlt
   clear hx hc' hm'
   have hTw := tabs_below hT hbl
   gi_wp2_with (refine ⟨trivial,?_⟩;gi_at_call 61;refine (callsIn_wide.2 (unit_first.calls (s.extract i s.size) c m wr hTw hf.out)).mono ?_;rintro e w1 ⟨rfl,hb1⟩;obtain ⟨fn,tmps,assign,body,hy,hR⟩ := hY pre ((i : Int),(⟨c,(m : Int)⟩ : S30)) wr (w1.alloc (.cells #[.int .i32 c,.int .i64 m] 30)) hJs (hb1.alloc hb1.size _) (by rw [hx2.out];simp))
   refine hR.mono ?_
   rintro e W3 (⟨rfl,hJ3,hk3⟩ | ⟨rfl,hJx3⟩)
   ·have hu3 := hk3.2 w1.heap.size _ (.inr hb1.size) (World.alloc_heap_new w1 _) rfl
    have hbx3 : Boxed W3 Bs 9 (.string s) := hk3.2 Bs _ (.inl rfl) (((hb1.alloc hb1.size _).block Bs hbx.lt).trans hbx) rfl
    have hbl3 : Below w₀.heap.size w₀ W3 := (hbl.trans ((hb1.alloc hb1.size _).mono hbl.size)).trans hk3.1
    have hcu : W3.cell? ⟨w1.heap.size,1,none⟩ = some (.int .i64 m) := by simp [World.cell?,hu3]
    gi_wp2
    go_roundw
    case rel => exact ⟨i + m,k,pre ++ [((i : Int),(⟨c,(m : Int)⟩ : S30))],by go_num,by omega,by omega,Lib.hid (by rw [hx2.out];simp),hJ3,hbx3,hbl3⟩
    case measure => simp [intOf];omega
   ·gi_wp2
    refine bodyPost_ret (results_none rfl _ _ _) rfl ?_
    exact ⟨⟨_,rfl⟩,.inr ⟨_,⟨walkL s k (i + m),by rw [hx2.out];simp⟩,hJx3⟩⟩
  ·have hge : ¬ ((i : Int) < (s.size : Int)) := by omega
   gi_wp2
   go_end0
   have hz : walkL s k i = [] := by cases k with
    | zero => rfl
    | succ k => rw [walkL,if_neg hlt]
   exact ⟨⟨_,rfl⟩,.inl ⟨pre,Lib.hid (by rw [hx.out,hz,List.append_nil]),hJs⟩⟩
theorem walk_calls (s : ByteArray) (w : World) :
  Calls Tryd.prog 25 #[.string s] w fun e w' => e = .returned (.func (.func 60) #[] #[.pointer (some ⟨w.heap.size,0,none⟩)]) ∧ w' = w.alloc (.cells #[.string s] 9) := by
 go_enter Tryd.func25,Tryd.ntmps25
 go_wp2
 go_ret
 exact ⟨rfl,rfl⟩
def cellsU : List S30 → List Value
 | [] => []
 | u :: us => .int .i32 u.f0 :: .int .i64 u.f1 :: cellsU us
theorem cellsU_snoc (us : List S30) (u : S30) : cellsU (us ++ [u]) = cellsU us ++ [.int .i32 u.f0,.int .i64 u.f1] := by
 induction us with
 | nil => rfl
 | cons x xs ih => simp [cellsU,ih]
theorem reps_cellsU (w : World) (base : Nat) (ok : Nat → Prop) : ∀ us : List S30,Reps (k30.M w base ok) 2 us (cellsU us)
 | [] => Reps.none _ _
 | u :: us => Reps.c2 (k30_mkM w base ok u) (reps_cellsU w base ok us)
theorem cells_two_new (w : World) (x y : Value) (t : TypeId) : ∀ j u,[x,y][j]? = some u → (w.alloc (.cells #[x,y] t)).cell? ((⟨w.heap.size,0,none⟩ : Addr).add j) = some u := by
 intro j u hj
 match j,hj with
 | 0,hj => simp at hj;subst hj;simp [Addr.add]
 | 1,hj => simp at hj;subst hj;simp [Addr.add]
 | (j + 2),hj => simp at hj
/-- An append to a row that a variable holds turns no cells of the iterator's. -/
theorem appended_keepB {W w1 : World} {B outB : Nat} {v v' : Value} {tmp : Obj} {Pr : Nat → Prop} (hgrow : (W.alloc tmp).grownBy w1 v.ownBlock) (hout : outB < B) (hPr : ∀ k, Pr k → k ≠ outB ∧ some k ≠ v.ownBlock)
    (hv : ∀ g, v.ownBlock = some g → g < B) : ∀ (k : Nat) (o : Obj), (Pr k ∨ B ≤ k) → W.heap[k]? = some o → o.isCells = true → (w1.setCell ⟨outB, 0, none⟩ v').heap[k]? = some o := by
  intro k o hk ho _
  have h1 : k ≠ outB := by rcases hk with hk | hk
                           · exact (hPr k hk).1
                           · omega
  have h2 : some k ≠ v.ownBlock := by
    rcases hk with hk | hk
    · exact (hPr k hk).2
    · intro e; have := hv k e.symm; omega
  have hlt := (Array.getElem?_eq_some_iff.1 ho).1
  exact (Below.heap_setCell w1 ⟨outB, 0, none⟩ v' k h1).trans ((hgrow.block k (by simp; omega) h2).trans ((Below.heap_alloc W tmp k hlt).trans ho))
set_option maxRecDepth 100000 in
set_option maxHeartbeats 4000000 in
theorem units_any (s : ByteArray) (w : World) (hs : s.size ≤ 8796093022207) (hT : Lib.Utf8Tabs 0 1 w) :
  Calls Tryd.prog 23 #[.string s] w fun e w' => ∃ v0_ : Value,e = .returned v0_ ∧ Kd.R k30 30 w' w.heap.size (fun _ => True) v0_ (unitsL s) ∧ Below w.heap.size w w' := by
 have hlen : (walkU s).length ≤ s.size := walkL_length s s.size 0
 obtain ⟨i0,hi,hz0,hz1,hz2⟩ := info_parts info30
 refine (callsIn_wide (n := 6)).1 ?_
 refine callsIn_of_wp_marks Tryd.func23 rfl trivial ?_ rfl
 simp only [Tryd.ntmps23,List.size_toArray,List.length_cons,List.length_nil,Nat.reduceAdd,Nat.reduceSub,Array.replicate_succ,Array.replicate_zero,List.push_toArray,List.append_toArray,List.nil_append,List.cons_append]
 gi_wp2_with (refine ⟨trivial,?_⟩;gi_at_call 25;refine (callsIn_wide.2 (walk_calls s _)).mono ?_;rintro e w' ⟨rfl,rfl⟩)
 have bO := (Boxed.new w 27 (.slice none 0 0)).alloc (.cells #[.string s] 9)
 have bS := Boxed.new (w.alloc (.cells #[.slice none 0 0] 27)) 9 (.string s)
 rw [World.size_alloc] at bS
 have hB0 : Below w.heap.size w ((w.alloc (.cells #[.slice none 0 0] 27)).alloc (.cells #[.string s] 9)) := ((Below.refl _ w).alloc (Nat.le_refl _) _).alloc (by simp) _
 have hsz : ((w.alloc (.cells #[.slice none 0 0] 27)).alloc (.cells #[.string s] 9)).heap.size = w.heap.size + 2 := by simp
 obtain ⟨W0,hW0⟩ : ∃ W0,(w.alloc (.cells #[.slice none 0 0] 27)).alloc (.cells #[.string s] 9) = W0 := ⟨_,rfl⟩
 rw [hW0] at bO bS hB0 hsz ⊢
 clear hW0
 refine range_outer (α := Int × S30) rfl (by omega) (gf := 60) (lb := #[.pointer (some ⟨w.heap.size + 1,0,none⟩)]) rfl trivial (enters_of Tryd.func60 (by kernel_rfl) rfl)
  (walk1_seq 5 (by omega) w W0 s (w.heap.size + 1) (by omega) hT hB0 bS) (Below.refl _ _) (fun _ => rfl) (by omega)
  (fun (B : Nat) (pre : List (Int × S30)) (W : World) => (((∃ v,Boxed W w.heap.size 27 v ∧ W.ownsRow w.heap.size 30 2 v pre.length (cellsU (pre.map (·.2))) ∧ (∀ g,v.ownBlock = some g → g < B)) ∧ Boxed W (w.heap.size + 1) 9 (.string s)) ∧ Below w.heap.size w W) ∧ w.heap.size < B)
  (fun _ _ _ => False)
  (fun B => OwnFrom.and (OwnFrom.and (OwnFrom.and (Own.from (holdsRow_own w.heap.size w.heap.size 27 30 2 (fun (pre : List (Int × S30)) => pre.length) (fun pre => cellsU (pre.map (·.2))) (fun _ v => ∀ g,v.ownBlock = some g → g < B)) _) (Own.from (boxed_own _ _ _) _)) (ownFrom_below (Nat.le_refl _) (by omega))) (ownFrom_pure _ (fun _ => w.heap.size < B)))
  (fun B B' pre W hBB h => ⟨⟨⟨by obtain ⟨v,h1,h2,h3⟩ := h.1.1.1;exact ⟨v,h1,h2,fun g hg => Nat.lt_of_lt_of_le (h3 g hg) hBB⟩,h.1.1.2⟩,h.1.2⟩,Nat.lt_of_lt_of_le h.2 hBB⟩)
  (fun _ _ _ _ _ hs _ _ => hs)
  ⟨⟨⟨⟨_,bO,World.ownsRow_nil _ _ _ _,by simp [Value.ownBlock]⟩,bS⟩,hB0⟩,by omega⟩
  (fun (x : Int × S30) (a' : Act) (W : World) => ∃ Bx,Hid (W.heap[Bx]? = some (.cells #[.int .i32 x.2.f0,.int .i64 x.2.f1] 30 (0,0))) ∧ a' = { tmps := #[.string s,undef,.slice none 0 0,.pointer (some ⟨w.heap.size,0,none⟩),undef,.pointer (some ⟨Bx,0,none⟩),.string s,.func (.func 60) #[] #[.pointer (some ⟨w.heap.size + 1,0,none⟩)],.int .i64 x.1,.agg #[.int .i32 x.2.f0,.int .i64 x.2.f1],undef,undef,undef,undef,undef],defers := [] })
  (fun x a' _ X Y row hs hg hr => by
   obtain ⟨Bx,h1,h2⟩ := hs
   refine ⟨Bx,?_,h2⟩
   refine (hg.block Bx (Array.getElem?_eq_some_iff.1 h1).1 (fun e => ?_)).trans h1
   obtain ⟨_,o,ho,hc⟩ := hr Bx e.symm
   rw [show X.heap[Bx]? = _ from h1] at ho;cases ho;cases hc)
  ?assign ?body ?done ?stop
 case assign =>
  rintro l B pre x W K hCW hBW hI hK
  have hsz1 := hI.1.2.size
  gi_wp2
  exact hK _ _ ((KeepsOthers.alloc _ _).from _) (KeepB.of_below hsz1 ((Below.refl _ W).alloc (Nat.le_refl _) _)) ⟨⟨⟨by obtain ⟨v,h1,h2,h3⟩ := hI.1.1.1;exact ⟨v,h1.alloc _,h2.alloc _,h3⟩,hI.1.1.2.alloc _⟩,hI.1.2.alloc hsz1 _⟩,hI.2⟩ ⟨W.heap.size,Lib.hid (World.alloc_heap_new W _),rfl⟩
 case body =>
  rintro l B pre x a' W hl hCW hr hBW ⟨⟨⟨⟨v,hv,hrow,hvB⟩,hbs⟩,hB⟩,hoB⟩ ⟨Bx,hBx,rfl⟩ hlt
  have hc := hv.cell
  have hsz1 := hB.size
  have hcx0 : W.cell? ⟨Bx,0,none⟩ = some (.int .i32 x.2.f0) := by simp [World.cell?,show W.heap[Bx]? = _ from hBx]
  have hcx1 : W.cell? ⟨Bx,1,none⟩ = some (.int .i64 x.2.f1) := by simp [World.cell?,show W.heap[Bx]? = _ from hBx]
  have hu := Tryd.underlying30
  gi_wp2_with (gi_at_builtin;refine wpListIn_append_own _ rfl _ _ 27 rfl w.heap.size 30 i0 _ 2 16 Tryd.underlying27 hi hz0 hz1 hz2 rfl (by decide) _ _ _ rfl (hrow.alloc _) ⟨W.heap.size,0,none⟩ 1 1 [.int .i32 x.2.f0,.int .i64 x.2.f1] rfl rfl (cells_two_new _ _ _ _) (by simp [Value.oneCell']) (by unfold maxLen;omega) (by omega) (by simp;omega) ?_;intro v' w1 hown' hgrow _;obtain ⟨g',cap',rfl⟩ := ownsRow_succ hown';obtain ⟨hv1,hv2,hr2,hk2,hb2⟩ := hv.appended (by decide) hrow hsz1 (Nat.le_refl _) hown' hgrow;have hkb := appended_keepB (v' := .slice (some ⟨g',0,none⟩) (pre.length + 1) cap') (Pr := fun k => k = w.heap.size + 1) hgrow hoB (fun k hk => ⟨by omega,by rw [hk];exact hbs.not_row (by decide) hrow⟩) hvB;have hbs2 : Boxed (w1.setCell ⟨w.heap.size,0,none⟩ (.slice (some ⟨g',0,none⟩) (pre.length + 1) cap')) (w.heap.size + 1) 9 (.string s) := hkb _ _ (.inl rfl) hbs rfl;have hc1 := hv1.cell;have hf1 := hv1.frozen)
  have hsz2 : w.heap.size < (w1.setCell ⟨w.heap.size,0,none⟩ (.slice (some ⟨g',0,none⟩) (pre.length + 1) cap')).heap.size := hv2.lt
  exact ⟨hk2.from _,⟨hb2,hkb⟩,⟨⟨⟨_,hv2,by rw [List.map_append,List.map_cons,List.map_nil,cellsU_snoc,List.length_append];exact hr2,fun g hg => own_lt hr2 g hg⟩,hbs2⟩,hB.trans hb2⟩,hsz2⟩
 case done =>
  rintro D ys W hD hys ⟨⟨⟨⟨v,hv,hrow,_⟩,_⟩,hB⟩,_⟩ hK
  have hc := hv.cell
  gi_wp2
  refine ⟨by simp,.inl ⟨_,_,rfl,run_takeDeferred hK,?_⟩⟩
  refine ⟨_,results_tmp rfl _ _ _,v,rfl,⟨fun _ _ => trivial,cellsU (unitsL s),?_,reps_cellsU _ _ _ _⟩,hB.trans (belowK_b (w := w) (Nat.le_refl _) W D _ _ (by omega) hK rfl rfl)⟩
  have e : ys = walkU s := hys
  have h2 := ownsRow_putObj hrow (.deferred none) hK rfl
  rw [e] at h2
  have e2 : (unitsL s).length = (walkU s).length := by unfold unitsL;simp
  rw [e2]
  exact h2
 case stop =>
  rintro D c pre W _ _ h _
  exact h.elim
end Go.Proofs.YtfhnfhgpaoddbaaDoor.U
end
section
namespace Go.Proofs.YtfhnfhgpaoddbaaDoor.U
open Go.RowKit Go.Proofs.YtfhnfhgpaoddbaaDoorW.PrintWords Go.Proofs.YtfhnfhgpaoddbaaDoorW.PrintLast Go.Proofs.YtfhnfhgpaoddbaaDoorW.PrintMore
set_option linter.unusedVariables false
set_option linter.unusedSimpArgs false
theorem cuts_next : unit_Next.f 100 ⟨#[97]⟩ 0 = some 1 := by kernel_rfl
theorem cuts_units : unitsL ⟨#[97,195,169,195]⟩ = [⟨97,1⟩,⟨233,2⟩,⟨-1,1⟩] := by kernel_rfl
theorem cuts_up : unit_Up.f 100 ⟨#[97,195,169]⟩ 2 = some 3 := by kernel_rfl
theorem cuts_boundary : unit_Boundary.f 100 ⟨#[97]⟩ 1 = some true := by kernel_rfl
theorem walk_not_nil (a : Addr) (W : World) : (binOp .eql 33 (.func (.func 60) #[] #[.pointer (some a)]) .nilFunc).run Tryd.prog W = .ok (.bool false) W := by kernel_rfl
theorem cuts_list (w : World) (hT : Lib.Utf8Tabs 0 1 w) :
  Calls Tryd.prog 23 #[.string ⟨#[97,195,169,195]⟩] w fun e w' => ∃ (b o : Nat) (c : Nat),e = .returned (.slice (some ⟨b,o,none⟩) 3 c) ∧ 3 ≤ c ∧
   (w'.cell? ⟨b,o + 2,none⟩ = some (.int .i32 233) ∧ w'.cell? ⟨b,o + 2 + 1,none⟩ = some (.int .i64 2)) ∧ (w'.cell? ⟨b,o + 4,none⟩ = some (.int .i32 (-1)) ∧ w'.cell? ⟨b,o + 4 + 1,none⟩ = some (.int .i64 1)) ∧ Below w.heap.size w w' := by
 refine (units_any ⟨#[97,195,169,195]⟩ _ (by decide) hT).mono ?_
 rintro e w2 ⟨v,rfl,hR,hb2⟩
 rw [cuts_units] at hR
 obtain ⟨inner,ho,hr⟩ := hR.2
 rcases ho.2 with ⟨_,h0⟩ | ⟨g,cap,cur,rfl,_⟩
 ·simp at h0
 obtain ⟨A,c,he,hlc,hC⟩ := Kd.R_reads hR
 injection he with h1 h2 h3
 subst h1;subst h3
 obtain ⟨ad,e1,c10,c11⟩ := at_T30 hC 1 (by decide) (by decide)
 obtain ⟨ad',e2,c20,c21⟩ := at_T30 hC 2 (by decide) (by decide)
 obtain rfl := Option.some.inj e1
 obtain rfl := Option.some.inj e2
 exact ⟨g,0,cap,rfl,hlc,⟨c10,c11⟩,⟨c20,c21⟩,hb2⟩
set_option maxRecDepth 100000 in
set_option maxHeartbeats 4000000 in
theorem cuts_any (w : World) (hT : Lib.Utf8Tabs 0 1 w) :
  Calls Tryd.prog 21 #[] w fun e w' => e = .returned (.bool true) ∧ Below w.heap.size w w' := by
 have hnn := walk_not_nil
 have hu := Tryd.underlying30
 have hT1 : Lib.Utf8Tabs 0 1 (w.alloc (.cells #[.string ⟨#[]⟩] 9)) := tabs_below hT ((Below.refl _ w).alloc (Nat.le_refl _) _)
 go_enter Tryd.func21,Tryd.ntmps21
 go_wp2_with (go_at_call 25;refine (walk_calls _ _).mono ?_;rintro e w' ⟨rfl,rfl⟩)
 refine (unit_Next.calls 100 ⟨#[97]⟩ 0 1 _ hT1 cuts_next).mono ?_
 rintro e w1 ⟨rfl,hb1⟩
 have hB1 : Below w.heap.size w w1 := ((Below.refl _ w).alloc (Nat.le_refl _) _).trans (hb1.mono (by simp))
 have hT2 := tabs_below hT hB1
 clear hT1 hb1
 go_wp2_with (go_at_call 23;refine (cuts_list _ hT2).mono ?_;rintro e w2 ⟨b,o,c,rfl,hlc,⟨c10,c11⟩,⟨c20,c21⟩,hb2⟩)
 have hB2 : Below w.heap.size w w2 := hB1.trans (hb2.mono hB1.size)
 have hT3 := tabs_below hT hB2
 clear hb2 hT2 hB1
 refine (unit_Up.calls 100 ⟨#[97,195,169]⟩ 2 3 _ hT3 cuts_up).mono ?_
 rintro e w3 ⟨rfl,hb3⟩
 have hB3 : Below w.heap.size w w3 := hB2.trans (hb3.mono hB2.size)
 have hT4 := tabs_below hT hB3
 clear hb3 hT3 hB2
 go_wp2_with (fail)
 refine (unit_Boundary.calls 100 ⟨#[97]⟩ 1 true _ hT4 cuts_boundary).mono ?_
 rintro e w4 ⟨rfl,hb4⟩
 have hB4 : Below w.heap.size w w4 := hB3.trans (hb4.mono hB3.size)
 clear hb4 hB3
 go_wp2
 go_ret
 exact ⟨rfl,hB4⟩
def bodkinlaw01_cuts.f : Option (Bool) := some true
theorem bodkinlaw01_cuts.calls (r : Bool) (w : World) (hT : Lib.Utf8Tabs 0 1 w) (h : bodkinlaw01_cuts.f = some r) :
  Calls Tryd.prog 21 #[] w fun e w' => e = .returned (.bool r) ∧ Below w.heap.size w w' := by
 obtain rfl := Option.some.inj h
 exact cuts_any w hT
end Go.Proofs.YtfhnfhgpaoddbaaDoor.U
end
section
namespace Go.Proofs.YtfhnfhgpaoddbaaDoor.U
open Go.RowKit Go.Proofs.YtfhnfhgpaoddbaaDoorW.PrintWords Go.Proofs.YtfhnfhgpaoddbaaDoorW.PrintLast Go.Proofs.YtfhnfhgpaoddbaaDoorW.PrintMore
set_option linter.unusedVariables false
set_option linter.unusedSimpArgs false
/-- The bytes xs lie at the block g,with room for cap. -/
structure Bs (T : TypeId) (w : World) (g cap : Nat) (xs : List Int) : Prop where
 ex : ∃ cur mk,w.heap[g]? = some (.cells cur T mk) ∧ cur.size = cap ∧ cur.toList.take xs.length = xs.map (Value.int .u8) ∧ ∀ i,i < cap → ¬ (mk.1 ≤ i ∧ i < mk.2)
 le : xs.length ≤ cap
section
variable {T : TypeId} {w w1 : World} {g cap : Nat} {xs : List Int}
theorem Bs.lt (h : Bs T w g cap xs) : g < w.heap.size := by
 obtain ⟨cur,mk,hh,_⟩ := h.ex
 exact blk_lt hh
theorem Bs.blk (h : Bs T w g cap xs) (he : w1.heap[g]? = w.heap[g]?) : Bs T w1 g cap xs := by
 obtain ⟨cur,mk,hh,hr⟩ := h.ex
 exact ⟨⟨cur,mk,he.trans hh,hr⟩,h.le⟩
theorem Bs.below (h : Bs T w g cap xs) (hb : Below w.heap.size w w1) : Bs T w1 g cap xs := h.blk (hb.block g h.lt)
theorem Bs.kept {S : Nat → Prop} (h : Bs T w g cap xs) (hk : Kept w w1 S) (hn : ¬ S g) : Bs T w1 g cap xs := h.blk (hk.2 g h.lt hn)
theorem Bs.grown (h : Bs T w g cap xs) {row : Option Nat} (hg : w.grownBy w1 row) (hn : some g ≠ row) : Bs T w1 g cap xs := h.blk (hg.block g h.lt hn)
theorem Bs.cell (h : Bs T w g cap xs) (i : Nat) (hi : i < xs.length) : w.cell? ⟨g,i,none⟩ = some (.int .u8 (xs.getD i 0)) ∧ w.frozen? ⟨g,i,none⟩ = false := by
 obtain ⟨cur,mk,hh,hs,ht,hm⟩ := h.ex
 have hle := h.le
 constructor
 ·rw [cell_of_row w g i cur T mk hh]
  have h2 := congrArg (fun l => l[i]?) ht
  rw [List.getElem?_take_of_lt hi,List.getElem?_map,List.getElem?_eq_getElem hi] at h2
  rw [← Array.getElem?_toList,h2,List.getD_eq_getElem?_getD,List.getElem?_eq_getElem hi]
  rfl
 ·obtain ⟨m0,m1⟩ := mk
  have h2 := hm i (by omega)
  unfold World.frozen?
  rw [hh]
  simpa using h2
theorem Bs.put (h : Bs T w g cap xs) (i : Nat) (hi : i < xs.length) (x : Int) : Bs T (w.setCell ⟨g,i,none⟩ (.int .u8 x)) g cap (xs.set i x) := by
 obtain ⟨cur,mk,hh,hs,ht,hm⟩ := h.ex
 refine ⟨⟨cur.setIfInBounds i (.int .u8 x),mk,?_,by rw [Array.size_setIfInBounds];exact hs,?_,hm⟩,by rw [List.length_set];exact h.le⟩
 ·have hlt := blk_lt hh
  show (w.heap.modify g _)[g]? = _
  rw [Array.getElem?_modify,if_pos rfl,hh]
  rfl
 ·rw [Array.toList_setIfInBounds,List.length_set,List.map_set,← ht,List.take_set]
theorem Bs.app (h : Bs T w g cap xs) (hr : xs.length < cap) (x : Int) : Bs T (w.setCell ⟨g,xs.length,none⟩ (.int .u8 x)) g cap (xs ++ [x]) := by
 obtain ⟨cur,mk,hh,hs,ht,hm⟩ := h.ex
 refine ⟨⟨cur.setIfInBounds xs.length (.int .u8 x),mk,?_,by rw [Array.size_setIfInBounds];exact hs,?_,hm⟩,by rw [List.length_append,List.length_singleton];omega⟩
 ·have hlt := blk_lt hh
  show (w.heap.modify g _)[g]? = _
  rw [Array.getElem?_modify,if_pos rfl,hh]
  rfl
 ·have hl : xs.length < cur.toList.length := by
   have : cur.toList.length = cur.size := Array.length_toList
   omega
  rw [Array.toList_setIfInBounds,List.length_append,List.length_singleton,List.take_add_one,List.getElem?_set_self hl,List.map_append,← ht]
  congr 1
  rw [List.take_set,List.set_eq_of_length_le (by rw [List.length_take];omega)]
/-- Made of a string. -/
theorem Bs.conv (w : World) (T : TypeId) (s : ByteArray) : Bs T (Lib.bytesWorld w T s) w.heap.size (grownCap w s.size 0 T) (s.data.toList.map (fun b => (b.toNat : Int))) := by
 have hle : s.size ≤ grownCap w s.size 0 T := grownCap_ge w s.size 0 T
 have hsz : (Lib.bytesCells w T s).size = grownCap w s.size 0 T := by
  unfold Lib.bytesCells
  rw [Array.size_append,Array.size_map,Array.size_replicate]
  show s.size + _ = _
  omega
 refine ⟨⟨_,_,Lib.bytesWorld_at_new w T s,hsz,?_,fun i hi => ?_⟩,by rw [List.length_map,Array.length_toList];exact hle⟩
 ·rw [List.length_map,Array.length_toList]
  unfold Lib.bytesCells
  rw [Array.toList_append,List.take_append_of_le_length (by rw [Array.toList_map,List.length_map,Array.length_toList];exact Nat.le_refl _)]
  rw [Array.toList_map,List.take_of_length_le (by rw [List.length_map,Array.length_toList];exact Nat.le_refl _),List.map_map]
  rfl
 ·show ¬ ((Lib.bytesCells w T s).size ≤ i ∧ _)
  omega
/-- Read as a string. -/
theorem Bs.str {P : Program} (h : Bs T w g cap xs) (src dst : TypeId) (hs : P.underlying src = some (.slice T)) (he : P.underlying T = some (.int .u8)) (hd : P.underlying dst = some .string) :
  (convert src dst (.slice (some ⟨g,0,none⟩) xs.length cap)).run P w = .ok (.string (strOfNums xs)) w := by
 exact run_convert_bytes_arg w src T hs he g 0 xs.length cap xs rfl (fun i hi => by rw [Nat.zero_add];exact (h.cell i hi).1) dst hd
end
/-- An append of a byte. -/
theorem run_bs_append {P : Program} {w : World} {T ts ty : TypeId} {i : TypeInfo} (ht : P.underlying ts = some (.slice T)) (hi : P.info? T = some i) (hz : i.zero = some (.int .u8 0)) (hsz : i.size = 1) (hby : i.bytes = 1)
  {g cap : Nat} {xs : List Int} (hB : Bs T w g cap xs) (b : Nat) (p : Int) (hn : w.cell? ⟨b,0,none⟩ = some (.int .u8 p)) (hl : xs.length ≤ 1099511627776) :
  ∃ g1 cap1 w1,(Builtin.append_ #[ts,ts] ty #[.slice (some ⟨g,0,none⟩) xs.length cap,.slice (some ⟨b,0,none⟩) 1 1]).run P w = .ok (.slice (some ⟨g1,0,none⟩) (xs.length + 1) cap1) w1 ∧ Bs T w1 g1 cap1 (xs ++ [p]) ∧ w.grownBy w1 (some g) ∧ (g1 = g ∨ g1 = w.heap.size) := by
 have hnews : ∀ j u,([Value.int .u8 p] : List Value)[j]? = some u → w.cell? ((⟨b,0,none⟩ : Addr).add j) = some u := fun j u hj => by
  cases j with
  | zero => injection hj with hj;subst hj;exact hn
  | succ j => cases hj
 by_cases hroom : xs.length + 1 ≤ cap
 ·have hle := hB.le
  have hf := run_firstCells_some (P := P) w i.size 1 ⟨b,0,none⟩ 1 1 [Value.int .u8 p] (by rw [hsz];rfl) hnews
  obtain ⟨cur,mk,hh,hs,ht2,hm⟩ := hB.ex
  have hst := run_storeCells_cells (P := P) g (xs.length * i.size) [Value.int .u8 p] 0 w (fun j hj => by
    have hj : j = 0 := by simp at hj;omega
    subst hj
    rw [cell_of_row w g _ cur T mk hh,hsz]
    simp
    omega) (fun j hj => by
    have hj : j = 0 := by simp at hj;omega
    subst hj
    obtain ⟨m0,m1⟩ := mk
    have h2 := hm (xs.length * 1 + 0 + 0) (by omega)
    unfold World.frozen?
    rw [hh,hsz]
    simpa using h2) (fun v hv => by
    obtain rfl := List.mem_singleton.1 hv
    rfl)
  simp only [Nat.add_zero] at hst
  refine ⟨g,cap,w.setCells g (xs.length * i.size) [Value.int .u8 p],?_,?_,?_,.inl rfl⟩
  ·simp [Builtin.append_,run_underlying ht,sizeOf,typeInfo,hi,Builtin.lenOf,hroom,hf,Addr.add_lit,hst]
  ·rw [hsz,Nat.mul_one]
   exact hB.app hroom p
  ·rw [hsz,Nat.mul_one]
   exact ⟨rfl,rfl,rfl,by simp [World.setCells,World.setCell],fun k hk hne => Below.heap_setCell w ⟨g,xs.length,none⟩ (.int .u8 p) k (fun he => hne (by rw [he]))⟩
 ·have hgr := run_append_grow (P := P) w ts ty T i (.int .u8 0) ht hi hz ⟨g,0,none⟩ xs.length cap (xs.map (Value.int .u8)) (by rw [List.length_map,hsz,Nat.mul_one]) (fun j v hj => by
    rw [List.getElem?_map] at hj
    obtain ⟨y,hy,rfl⟩ := Option.map_eq_some_iff.1 hj
    have hjl : j < xs.length := (List.getElem?_eq_some_iff.1 hy).1
    have h3 := (hB.cell j hjl).1
    rw [List.getD_eq_getElem?_getD,hy] at h3
    rw [Addr.add_lit,Nat.zero_add]
    exact h3) ⟨b,0,none⟩ 1 1 [Value.int .u8 p] (by rw [hsz];rfl) hnews (by omega) (by omega) (growslice_fits (by omega) (by rw [hby];omega))
  have hge := grownCap_ge w (xs.length + 1) cap T
  refine ⟨w.heap.size,_,_,hgr,?_,(fun (h : w.drew.grownBy _ (some g)) => ⟨h.os,h.tape,h.output,h.size,h.block⟩) (World.grownBy_alloc w.drew _ (some g)),.inr rfl⟩
  have hc : ((xs.map (Value.int .u8)).toArray ++ [Value.int .u8 p].toArray ++ Builtin.zeroCells (Value.int .u8 0).cells (grownCap w (xs.length + 1) cap T - (xs.length + 1))).size = grownCap w (xs.length + 1) cap T := by
   rw [Array.size_append,Array.size_append,size_zeroCells]
   show (xs.map (Value.int .u8)).length + 1 + _ * 1 = _
   rw [List.length_map]
   omega
  refine ⟨⟨_,(0,0),heap_alloc_new w.drew _,hc,?_,fun i _ h2 => by have : i < 0 := h2.2;omega⟩,by rw [List.length_append,List.length_singleton];exact hge⟩
  rw [Array.toList_append,Array.toList_append,List.take_append_of_le_length (by simp),List.take_of_length_le (by simp),List.map_append]
  rfl
theorem bs_append {P : Program} {ops : Array Oper} {rest : List Oper} {o : Oper} {a : Act} {Q : Exit → Act → World → Prop} {w0 W : World} {T ts : TypeId} (base : Nat) (hgd : o.guard = none) (s x : Operand)
  (ho : o.op = .call { callee := .builtin .append,args := #[s,x],argTypes := #[ts,ts] }) (ht : P.underlying ts = some (.slice T)) (hinfo : (P.info? T).map (fun i => (i.zero,i.size,i.bytes)) = some (some (.int .u8 0),1,1))
  {g cap : Nat} {xs : List Int} (p : Int) (hs : a.eval s = .slice (some ⟨g,0,none⟩) xs.length cap) (hx : a.eval x = .slice (some ⟨W.heap.size,0,none⟩) 1 1) (hB : Bs T W g cap xs) (HB : Below base w0 W) (hbase : base ≤ W.heap.size) (hg : base ≤ g) (hl : xs.length ≤ 1099511627776)
  (h : ∀ g1 cap1 w1,Bs T w1 g1 cap1 (xs ++ [p]) → base ≤ g1 → Below base w0 w1 → W.grownBy w1 (some g) → (g1 = g ∨ W.heap.size ≤ g1) → wpList P ops Q rest (a.put o.dst (.slice (some ⟨g1,0,none⟩) (xs.length + 1) cap1)) w1) :
  wpList P ops Q (o :: rest) a (W.alloc (.cells #[.int .u8 p] T)) := by
 obtain ⟨i0,hi,hzz⟩ := Option.map_eq_some_iff.1 hinfo
 simp only [Prod.mk.injEq] at hzz
 obtain ⟨hz0,hz1,hz2⟩ := hzz
 have hal := below_alloc (Below.refl _ W) (.cells #[.int .u8 p] T)
 refine wpList_plain hgd fun K hK => ?_
 obtain ⟨g1,cap1,w1,hrun,h2,h3,h4⟩ := run_bs_append (P := P) (ty := o.type) ht hi hz0 hz1 hz2 (hB.below hal) W.heap.size p (blk_cell (heap_alloc_new W _) 0) hl
 have hgw : W.grownBy w1 (some g) := World.grownBy.trans (World.grownBy_alloc W _ _) h3
 have hat : g1 = g ∨ W.heap.size ≤ g1 := h4.imp id (fun h => by rw [h,World.size_alloc];omega)
 unfold Oper.wp execOp
 simp only [ho,resolve,invoke,builtin,Sem.run_bind,Sem.run_pure,Result.andThen_ok,List.map_toArray,List.map_cons,List.map_nil,hs,hx,hrun]
 refine hK _ _ (h g1 cap1 w1 h2 (by omega) ?_ hgw hat)
 exact (HB.alloc hbase _).grown h3 (by simp;omega) (fun k hk => by injection hk with hk;omega)
end Go.Proofs.YtfhnfhgpaoddbaaDoor.U
end
section
namespace Go.Proofs.YtfhnfhgpaoddbaaDoor.Pu
open Go Go.RowKit Go.Proofs.YtfhnfhgpaoddbaaDoor.Mu Go.Proofs.YtfhnfhgpaoddbaaDoor.U Go.Proofs.YtfhnfhgpaoddbaaDoorW.PrintWords Go.Proofs.YtfhnfhgpaoddbaaDoorW.PrintLast Go.Proofs.YtfhnfhgpaoddbaaDoorW.PrintMore
theorem w64 {x : Int} (h : -9223372036854775808 ≤ x) (h2 : x < 9223372036854775808) : wrap64 x = x := by unfold wrap64;omega
theorem w32 {x : Int} (h : -2147483648 ≤ x) (h2 : x < 2147483648) : wrap32 x = x := by unfold wrap32;omega
theorem ev_pos {α : Type} {c : Prop} [Decidable c] {a b : Nat → Option α} {v : α} (hc : c) (h : Ev a v) : Ev (fun k => if c then a k else b k) v := Ev.congr (fun _ => if_pos hc) h
theorem ev_neg {α : Type} {c : Prop} [Decidable c] {a b : Nat → Option α} {v : α} (hc : ¬ c) (h : Ev b v) : Ev (fun k => if c then a k else b k) v := Ev.congr (fun _ => if_neg hc) h
theorem ev_some {α β : Type} {o : Option α} {f : Nat → α → Option β} {a : α} {v : β} (ho : o = some a) (h : Ev (fun n => f n a) v) : Ev (fun k => o.bind (f k)) v := Ev.congr (fun k => by rw [ho];rfl) h
theorem ev_now {α : Type} {v v' : α} (h : v = v') : Ev (fun _ => some v) v' := ⟨0,fun _ _ => by rw [h]⟩
def BdI (s : ByteArray) (a : Int) : Prop := 0 ≤ a ∧ Bd s a.toNat
theorem bdI_le {s : ByteArray} {a : Int} (h : BdI s a) : 0 ≤ a ∧ a ≤ s.size := ⟨h.1,by have := h.2.1;have := h.1;omega⟩
def DownS (s : ByteArray) (a d : Int) : Prop := BdI s d ∧ (d ≤ a ∨ d = 0) ∧ ∀ e,BdI s e → e ≤ a → e ≤ d
def UpS (s : ByteArray) (a d : Int) : Prop := BdI s d ∧ (a ≤ d ∨ d = s.size) ∧ ∀ e,BdI s e → a ≤ e → d ≤ e
def NextS (s : ByteArray) (a d : Int) : Prop := BdI s d ∧ (a < d ∨ d = s.size) ∧ ∀ e,BdI s e → a < e → d ≤ e
def PrevS (s : ByteArray) (a d : Int) : Prop := BdI s d ∧ (d < a ∨ d = 0) ∧ ∀ e,BdI s e → e < a → e ≤ d
theorem DownS.one {s : ByteArray} {a d d' : Int} (h : DownS s a d) (h' : DownS s a d') : d = d' := by
 have := bdI_le h.1;have := bdI_le h'.1
 rcases h.2.1 with h1 | h1 <;> rcases h'.2.1 with h2 | h2
 ·have := h.2.2 d' h'.1 h2;have := h'.2.2 d h.1 h1;omega
 ·have := h'.2.2 d h.1 h1;omega
 ·have := h.2.2 d' h'.1 h2;omega
 ·omega
theorem PrevS.one {s : ByteArray} {a d d' : Int} (h : PrevS s a d) (h' : PrevS s a d') : d = d' := by
 have := bdI_le h.1;have := bdI_le h'.1
 rcases h.2.1 with h1 | h1 <;> rcases h'.2.1 with h2 | h2
 ·have := h.2.2 d' h'.1 h2;have := h'.2.2 d h.1 h1;omega
 ·have := h'.2.2 d h.1 h1;omega
 ·have := h.2.2 d' h'.1 h2;omega
 ·omega
theorem UpS.one {s : ByteArray} {a d d' : Int} (h : UpS s a d) (h' : UpS s a d') : d = d' := by
 have := bdI_le h.1;have := bdI_le h'.1
 rcases h.2.1 with h1 | h1 <;> rcases h'.2.1 with h2 | h2
 ·have := h.2.2 d' h'.1 h2;have := h'.2.2 d h.1 h1;omega
 ·have := h'.2.2 d h.1 h1;omega
 ·have := h.2.2 d' h'.1 h2;omega
 ·omega
theorem NextS.one {s : ByteArray} {a d d' : Int} (h : NextS s a d) (h' : NextS s a d') : d = d' := by
 have := bdI_le h.1;have := bdI_le h'.1
 rcases h.2.1 with h1 | h1 <;> rcases h'.2.1 with h2 | h2
 ·have := h.2.2 d' h'.1 h2;have := h'.2.2 d h.1 h1;omega
 ·have := h'.2.2 d h.1 h1;omega
 ·have := h.2.2 d' h'.1 h2;omega
 ·omega
end Go.Proofs.YtfhnfhgpaoddbaaDoor.Pu
end
section
namespace Go.Proofs.YtfhnfhgpaoddbaaDoor.Pu
open Go Go.RowKit Go.Proofs.YtfhnfhgpaoddbaaDoor.Mu Go.Proofs.YtfhnfhgpaoddbaaDoor.U Go.Proofs.YtfhnfhgpaoddbaaDoorW.PrintWords Go.Proofs.YtfhnfhgpaoddbaaDoorW.PrintLast Go.Proofs.YtfhnfhgpaoddbaaDoorW.PrintMore
/-- A boundary lies at or before a unit,or behind it. -/
theorem apart {s : ByteArray} {x : Nat} {e : Int} (he : BdI s e) : e ≤ x ∨ (x : Int) + uN s x ≤ e := by
 have := bdI_le he
 by_cases h : (x : Int) < e
 ·have := he.2.2 x (by omega);omega
 ·omega
end Go.Proofs.YtfhnfhgpaoddbaaDoor.Pu
end
section
namespace Go.Proofs.YtfhnfhgpaoddbaaDoor.Pu
open Go Go.RowKit Go.Proofs.YtfhnfhgpaoddbaaDoor.Mu
theorem uC_of (s : ByteArray) (i c n : Nat) (h : Utf8.decode s i = (c,n)) (hg : c = 65533 → n ≠ 1) : uC s i = c ∧ uN s i = n := by
 unfold uC uN;rw [h]
 exact ⟨if_neg (fun h => hg h.1 h.2),rfl⟩
/-- What a unit can be. -/
theorem uC_cases (s : ByteArray) (i : Nat) :
  (byt s i < 128 ∧ uC s i = byt s i ∧ uN s i = 1) ∨ (128 ≤ byt s i ∧ uC s i = -1 ∧ uN s i = 1) ∨
  (192 ≤ byt s i ∧ byt s i < 224 ∧ 1 < s.size - i ∧ byt s (i + 1) / 64 = 2 ∧ 128 ≤ byt s i % 32 * 64 + byt s (i + 1) % 64 ∧ uC s i = (byt s i % 32 * 64 + byt s (i + 1) % 64 : Nat) ∧ uN s i = 2) ∨
  (224 ≤ byt s i ∧ byt s i < 240 ∧ 2 < s.size - i ∧ byt s (i + 1) / 64 = 2 ∧ byt s (i + 2) / 64 = 2 ∧ 2048 ≤ byt s i % 16 * 4096 + byt s (i + 1) % 64 * 64 + byt s (i + 2) % 64 ∧
   (byt s i % 16 * 4096 + byt s (i + 1) % 64 * 64 + byt s (i + 2) % 64 < 55296 ∨ 57344 ≤ byt s i % 16 * 4096 + byt s (i + 1) % 64 * 64 + byt s (i + 2) % 64) ∧
   uC s i = (byt s i % 16 * 4096 + byt s (i + 1) % 64 * 64 + byt s (i + 2) % 64 : Nat) ∧ uN s i = 3) ∨
  (240 ≤ byt s i ∧ byt s i < 248 ∧ 3 < s.size - i ∧ byt s (i + 1) / 64 = 2 ∧ byt s (i + 2) / 64 = 2 ∧ byt s (i + 3) / 64 = 2 ∧ 65536 ≤ byt s i % 8 * 262144 + byt s (i + 1) % 64 * 4096 + byt s (i + 2) % 64 * 64 + byt s (i + 3) % 64 ∧
   byt s i % 8 * 262144 + byt s (i + 1) % 64 * 4096 + byt s (i + 2) % 64 * 64 + byt s (i + 3) % 64 ≤ 1114111 ∧ uC s i = (byt s i % 8 * 262144 + byt s (i + 1) % 64 * 4096 + byt s (i + 2) % 64 * 64 + byt s (i + 3) % 64 : Nat) ∧ uN s i = 4) := by
 have hd := dec_eq s i
 rcases dec_cases (s.size - i) (byt s i) (byt s (i + 1)) (byt s (i + 2)) (byt s (i + 3)) (byt_lt s i) with h | h | h | h | h
 ·have := uC_of s i _ _ (hd.trans h.2) (by omega)
  exact .inl ⟨h.1,this⟩
 ·refine .inr (.inl ⟨h.1,?_,?_⟩)
  ·unfold uC;rw [hd,h.2];simp
  ·unfold uN;rw [hd,h.2]
 ·obtain ⟨h0,h1,h2,h3,h4,e⟩ := h
  have := uC_of s i _ _ (hd.trans e) (by omega)
  exact .inr (.inr (.inl ⟨h0,h1,h2,h3,h4,this⟩))
 ·obtain ⟨h0,h1,h2,h3,h4,h5,h6,e⟩ := h
  have := uC_of s i _ _ (hd.trans e) (by omega)
  exact .inr (.inr (.inr (.inl ⟨h0,h1,h2,h3,h4,h5,h6,this⟩)))
 ·obtain ⟨h0,h1,h2,h3,h4,h5,h6,h7,e⟩ := h
  have := uC_of s i _ _ (hd.trans e) (by omega)
  exact .inr (.inr (.inr (.inr ⟨h0,h1,h2,h3,h4,h5,h6,h7,this⟩)))
end Go.Proofs.YtfhnfhgpaoddbaaDoor.Pu
end
section
namespace Go.Proofs.YtfhnfhgpaoddbaaDoor.Pu
open Go Go.RowKit Go.Proofs.YtfhnfhgpaoddbaaDoor.Mu Go.Proofs.YtfhnfhgpaoddbaaDoor.U Go.Proofs.YtfhnfhgpaoddbaaDoorW.PrintWords Go.Proofs.YtfhnfhgpaoddbaaDoorW.PrintLast Go.Proofs.YtfhnfhgpaoddbaaDoorW.PrintMore
theorem bt_byt (t : ByteArray) (i : Nat) (h : i < t.size) : bt t i = (byt t i : Int) := by
 unfold bt byt
 rw [dif_pos (by simpa using h)]
 simp only [Int.toNat_natCast]
 rw [get!_eq,List.getD_eq_getElem?_getD,List.getElem?_eq_getElem (by rw [← Lib.size_eq];exact h)]
 rfl
theorem lead_ans (b : Nat) : Ev (fun k => bodkinref01_lead.f k (b : Int)) (if b < 128 then ((b : Int),0) else if b < 192 then (0,-1) else if b < 224 then ((b : Int) - 192,1) else if b < 240 then ((b : Int) - 224,2) else if b < 248 then ((b : Int) - 240,3) else (0,-1)) := by
 unfold bodkinref01_lead.f
 by_cases h1 : b < 128
 ·rw [if_pos h1];exact ev_pos (by omega) (ev_now (by rw [w32 (by omega) (by omega)]))
 rw [if_neg h1]
 refine ev_neg (by omega) ?_
 have hj1 : ∀ c,Ev (fun k => bodkinref01_lead.j0 k (b : Int) c) (if c = true then (wrap32 (wrap32 (b : Int) - 192),1) else if 224 ≤ b then (if b < 240 then (wrap32 (wrap32 (b : Int) - 224),2) else if b < 248 then (wrap32 (wrap32 (b : Int) - 240),3) else (0,-1)) else (0,-1)) := by
  intro c
  refine Ev.step (fun k => bodkinref01_lead.j0.eq_2 ..) ?_
  cases c
  ·refine ev_neg (by simp) ?_
   rw [if_neg (by simp)]
   by_cases h3 : 224 ≤ b
   ·rw [if_pos h3]
    refine ev_pos (by omega) (Ev.step (fun k => bodkinref01_lead.j1.eq_2 ..) ?_)
    by_cases h4 : b < 240
    ·rw [if_pos h4];exact ev_pos (by rw [decide_eq_true_eq];omega) (Ev.now _)
    ·rw [if_neg h4];refine ev_neg (by rw [decide_eq_true_eq];omega) (ev_pos (by omega) ?_)
     by_cases h5 : b < 248
     ·rw [if_pos h5];exact ev_pos (by omega) (Ev.now _)
     ·rw [if_neg h5];exact ev_neg (by omega) (Ev.now _)
   ·rw [if_neg h3]
    exact ev_neg (by omega) (Ev.step (fun k => bodkinref01_lead.j1.eq_2 ..) (ev_neg (by simp) (ev_neg (by omega) (Ev.now _))))
  ·exact ev_pos rfl (Ev.now _)
 by_cases h2 : b < 192
 ·rw [if_pos h2]
  refine ev_neg (by omega) ?_
  have := hj1 false
  rwa [if_neg (by simp),if_neg (by omega)] at this
 ·rw [if_neg h2]
  refine ev_pos (by omega) ?_
  have := hj1 (decide ((b : Int) < 224))
  by_cases h3 : b < 224
  ·rw [if_pos (by simp;omega),w32 (x := (b : Int)) (by omega) (by omega),w32 (by omega) (by omega)] at this
   rwa [if_pos h3]
  ·rw [if_neg (by simp;omega),if_pos (by omega)] at this
   rw [if_neg h3]
   by_cases h4 : b < 240
   ·rw [if_pos h4,w32 (x := (b : Int)) (by omega) (by omega),w32 (by omega) (by omega)] at this;rwa [if_pos h4]
   ·rw [if_neg h4] at this;rw [if_neg h4]
    by_cases h5 : b < 248
    ·rw [if_pos h5,w32 (x := (b : Int)) (by omega) (by omega),w32 (by omega) (by omega)] at this;rwa [if_pos h5]
    ·rw [if_neg h5] at this;rwa [if_neg h5]
section
variable (t : ByteArray) (ht : t.size ≤ 1099511627776)
include ht
theorem begins_go (c : Nat) (n i : Nat) (hi : i ≤ n) (hs : i < t.size) (hb : 128 ≤ byt t i) (hb2 : byt t i ≤ 191) (hc : c < 100000) {v : Int} (h : Ev (fun k => bodkinref01_begins.l0 k t ((c * 64 + byt t i % 64 : Nat) : Int) n ((i + 1 : Nat) : Int)) v) : Ev (fun k => bodkinref01_begins.l0 k t c n i) v := by
 refine Ev.step (fun k => bodkinref01_begins.l0.eq_2 ..) (ev_pos (by omega) (ev_pos (by omega) (ev_pos (by omega) (ev_neg ?_ (ev_neg ?_ ?_)))))
 ·rw [bt_byt t i hs];omega
 ·rw [bt_byt t i hs];omega
 ·rw [bt_byt t i hs,w64 (by omega) (by omega)]
  have e : wrap32 (wrap32 (wrap32 ((c : Int) * 64) + wrap32 (byt t i : Int)) - 128) = ((c * 64 + byt t i % 64 : Nat) : Int) := by
   rw [w32 (x := (c : Int) * 64) (by omega) (by omega),w32 (x := (byt t i : Int)) (by omega) (by omega),w32 (x := (c : Int) * 64 + (byt t i : Int)) (by omega) (by omega),w32 (by omega) (by omega)]
   omega
  rw [e];exact h
omit ht in
theorem begins_bad (c : Int) (n i : Nat) (hi : i ≤ n) (hs : i < t.size) (hb : byt t i < 128 ∨ 191 < byt t i) : Ev (fun k => bodkinref01_begins.l0 k t c n i) (-1) := by
 refine Ev.step (fun k => bodkinref01_begins.l0.eq_2 ..) (ev_pos (by omega) (ev_pos (by omega) (ev_pos (by omega) ?_)))
 rw [bt_byt t i hs]
 by_cases h : byt t i < 128
 ·exact ev_pos (by omega) (Ev.now _)
 ·exact ev_neg (by omega) (ev_pos (by omega) (Ev.now _))
omit ht
theorem scalar_ans (c : Int) : bodkinref01_scalar.f c = some (decide (0 ≤ c ∧ c ≤ 1114111 ∧ (c < 55296 ∨ 57343 < c))) := by
 unfold bodkinref01_scalar.f
 split
 ·split
  ·split
   ·rw [decide_eq_true (by omega)]
   ·congr 1;rw [decide_eq_decide];omega
  ·rw [decide_eq_false (by omega)]
 ·rw [decide_eq_false (by omega)]
theorem size_ans (c : Int) : bodkinref01_size.f c = some (if c < 128 then 1 else if c < 2048 then 2 else if c < 65536 then 3 else 4) := by
 unfold bodkinref01_size.f;split
 ·rfl
 ·split
  ·rfl
  ·split <;> rfl
theorem begins_end (c : Int) (n : Nat) (hn : n ≤ 3) : Ev (fun k => bodkinref01_begins.l0 k t c n ((n + 1 : Nat) : Int)) (if (0 ≤ c ∧ c ≤ 1114111 ∧ (c < 55296 ∨ 57343 < c)) ∧ (if c < 128 then (1 : Int) else if c < 2048 then 2 else if c < 65536 then 3 else 4) = n + 1 then c else -1) := by
 refine Ev.step (fun k => bodkinref01_begins.l0.eq_2 ..) (ev_neg (by omega) (ev_some (scalar_ans c) ?_))
 by_cases hsc : 0 ≤ c ∧ c ≤ 1114111 ∧ (c < 55296 ∨ 57343 < c)
 ·refine ev_pos (by rw [decide_eq_true_eq];exact hsc) (ev_some (size_ans c) ?_)
  rw [w64 (by omega) (by omega)]
  by_cases hz : (if c < 128 then (1 : Int) else if c < 2048 then 2 else if c < 65536 then 3 else 4) = n + 1
  ·exact ev_pos hz (ev_now (if_pos ⟨hsc,hz⟩).symm)
  ·exact ev_neg hz (ev_now (if_neg (fun h => hz h.2)).symm)
 ·exact ev_neg (by rw [decide_eq_true_eq];exact hsc) (ev_now (if_neg (fun h => hsc h.1)).symm)
theorem begins_end_good (c n : Nat) (hn : n ≤ 3) (h : c ≤ 1114111 ∧ (c < 55296 ∨ 57343 < c)) (hz : n = 0 ∧ c < 128 ∨ n = 1 ∧ 128 ≤ c ∧ c < 2048 ∨ n = 2 ∧ 2048 ≤ c ∧ c < 65536 ∨ n = 3 ∧ 65536 ≤ c) : Ev (fun k => bodkinref01_begins.l0 k t c n ((n + 1 : Nat) : Int)) (c : Int) := by
 have := begins_end t c n hn
 rwa [if_pos] at this
 refine ⟨by omega,?_⟩
 split
 ·omega
 ·split
  ·omega
  ·split <;> omega
theorem begins_end_bad (c n : Nat) (hn : n ≤ 3) (h : ¬ (c ≤ 1114111 ∧ (c < 55296 ∨ 57343 < c) ∧ (n = 0 ∧ c < 128 ∨ n = 1 ∧ 128 ≤ c ∧ c < 2048 ∨ n = 2 ∧ 2048 ≤ c ∧ c < 65536 ∨ n = 3 ∧ 65536 ≤ c))) : Ev (fun k => bodkinref01_begins.l0 k t c n ((n + 1 : Nat) : Int)) (-1) := by
 have := begins_end t c n hn
 rwa [if_neg] at this
 rintro ⟨h1,h2⟩
 apply h
 refine ⟨by omega,by omega,?_⟩
 split at h2
 ·omega
 ·split at h2
  ·omega
  ·split at h2 <;> omega
include ht
theorem begins_ans (h0 : 0 < t.size) : Ev (fun k => bodkinref01_begins.f k t) (uC t 0) := by
 have hlt := byt_lt t 0
 have hl := lead_ans (byt t 0)
 have hcs := uC_cases t 0
 simp only [Nat.zero_add,Nat.sub_zero] at hcs
 unfold bodkinref01_begins.f
 refine ev_pos (by omega) ?_
 have hb0 : bt t 0 = (byt t 0 : Int) := bt_byt t 0 h0
 rw [hb0]
 refine Ev.bind hl ?_
 by_cases h1 : byt t 0 < 128
 ·rw [if_pos h1]
  refine ev_neg (by simp) (Ev.step (fun k => bodkinref01_begins.j0.eq_2 ..) (ev_neg (by simp only [decide_eq_true_eq];omega) ?_))
  have hu : uC t 0 = (byt t 0 : Int) := by rcases hcs with h | h | h | h | h <;> omega
  rw [hu]
  exact begins_end_good t (byt t 0) 0 (by omega) (by omega) (by omega)
 rw [if_neg h1]
 have hneg : (¬ (192 ≤ byt t 0 ∧ byt t 0 < 224 ∧ 1 < t.size ∧ byt t 1 / 64 = 2 ∧ 128 ≤ byt t 0 % 32 * 64 + byt t 1 % 64)) →
  (¬ (224 ≤ byt t 0 ∧ byt t 0 < 240 ∧ 2 < t.size ∧ byt t 1 / 64 = 2 ∧ byt t 2 / 64 = 2 ∧ 2048 ≤ byt t 0 % 16 * 4096 + byt t 1 % 64 * 64 + byt t 2 % 64 ∧ (byt t 0 % 16 * 4096 + byt t 1 % 64 * 64 + byt t 2 % 64 < 55296 ∨ 57344 ≤ byt t 0 % 16 * 4096 + byt t 1 % 64 * 64 + byt t 2 % 64))) →
  (¬ (240 ≤ byt t 0 ∧ byt t 0 < 248 ∧ 3 < t.size ∧ byt t 1 / 64 = 2 ∧ byt t 2 / 64 = 2 ∧ byt t 3 / 64 = 2 ∧ 65536 ≤ byt t 0 % 8 * 262144 + byt t 1 % 64 * 4096 + byt t 2 % 64 * 64 + byt t 3 % 64 ∧ byt t 0 % 8 * 262144 + byt t 1 % 64 * 4096 + byt t 2 % 64 * 64 + byt t 3 % 64 ≤ 1114111)) → uC t 0 = -1 := by
  intro g2 g3 g4
  rcases hcs with h | h | h | h | h
  ·omega
  ·exact h.2.1
  ·exact absurd ⟨h.1,h.2.1,h.2.2.1,h.2.2.2.1,h.2.2.2.2.1⟩ g2
  ·exact absurd ⟨h.1,h.2.1,h.2.2.1,h.2.2.2.1,h.2.2.2.2.1,h.2.2.2.2.2.1,h.2.2.2.2.2.2.1⟩ g3
  ·exact absurd ⟨h.1,h.2.1,h.2.2.1,h.2.2.2.1,h.2.2.2.2.1,h.2.2.2.2.2.1,h.2.2.2.2.2.2.1,h.2.2.2.2.2.2.2.1⟩ g4
 by_cases h2 : byt t 0 < 192
 ·rw [if_pos h2,hneg (by omega) (by omega) (by omega)]
  exact ev_pos (by simp) (Ev.step (fun k => bodkinref01_begins.j0.eq_2 ..) (ev_pos rfl (Ev.now _)))
 rw [if_neg h2]
 by_cases h3 : byt t 0 < 224
 ·rw [if_pos h3]
  refine ev_neg (by simp) (Ev.step (fun k => bodkinref01_begins.j0.eq_2 ..) ?_)
  by_cases hs : t.size ≤ 1
  ·rw [hneg (by omega) (by omega) (by omega)];exact ev_pos (by simp;omega) (Ev.now _)
  refine ev_neg (by simp;omega) ?_
  rw [show (byt t 0 : Int) - 192 = ((byt t 0 - 192 : Nat) : Int) by omega]
  have k1 := byt_lt t 1
  by_cases hb : byt t 1 < 128 ∨ 191 < byt t 1
  ·rw [hneg (by omega) (by omega) (by omega)];exact begins_bad t _ 1 1 (by omega) (by omega) hb
  refine begins_go t ht _ 1 1 (by omega) (by omega) (by omega) (by omega) (by omega) ?_
  by_cases hg : 128 ≤ byt t 0 % 32 * 64 + byt t 1 % 64
  ·have hu : uC t 0 = (((byt t 0 - 192) * 64 + byt t 1 % 64 : Nat) : Int) := by
    have hd := dec_eq t 0
    rw [dec_two _ _ _ _ _ (by omega) (by omega) (by omega) (show byt t (0 + 1) / 64 = 2 by rw [Nat.zero_add];omega) (by rw [Nat.zero_add];omega)] at hd
    have := (uC_of t 0 _ _ hd (by omega)).1
    rw [this,Nat.zero_add];omega
   rw [hu]
   exact begins_end_good t _ 1 (by omega) (by omega) (by omega)
  ·rw [hneg (by omega) (by omega) (by omega)]
   exact begins_end_bad t _ 1 (by omega) (by omega)
 rw [if_neg h3]
 by_cases h4 : byt t 0 < 240
 ·rw [if_pos h4]
  refine ev_neg (by simp) (Ev.step (fun k => bodkinref01_begins.j0.eq_2 ..) ?_)
  by_cases hs : t.size ≤ 2
  ·rw [hneg (by omega) (by omega) (by omega)];exact ev_pos (by simp;omega) (Ev.now _)
  refine ev_neg (by simp;omega) ?_
  rw [show (byt t 0 : Int) - 224 = ((byt t 0 - 224 : Nat) : Int) by omega]
  have k1 := byt_lt t 1
  have k2 := byt_lt t 2
  by_cases hb : byt t 1 < 128 ∨ 191 < byt t 1
  ·rw [hneg (by omega) (by omega) (by omega)];exact begins_bad t _ 2 1 (by omega) (by omega) hb
  refine begins_go t ht _ 2 1 (by omega) (by omega) (by omega) (by omega) (by omega) ?_
  by_cases hb' : byt t 2 < 128 ∨ 191 < byt t 2
  ·rw [hneg (by omega) (by omega) (by omega)];exact begins_bad t _ 2 2 (by omega) (by omega) hb'
  refine begins_go t ht _ 2 2 (by omega) (by omega) (by omega) (by omega) (by omega) ?_
  by_cases hg : 2048 ≤ byt t 0 % 16 * 4096 + byt t 1 % 64 * 64 + byt t 2 % 64 ∧ (byt t 0 % 16 * 4096 + byt t 1 % 64 * 64 + byt t 2 % 64 < 55296 ∨ 57344 ≤ byt t 0 % 16 * 4096 + byt t 1 % 64 * 64 + byt t 2 % 64)
  ·have hu : uC t 0 = ((((byt t 0 - 224) * 64 + byt t 1 % 64) * 64 + byt t 2 % 64 : Nat) : Int) := by
    have hd := dec_eq t 0
    simp only [Nat.zero_add] at hd
    rw [dec_three _ _ _ _ _ (by omega) (by omega) (by omega) (by omega) (by omega) (by omega) (by omega)] at hd
    have := (uC_of t 0 _ _ hd (by omega)).1
    rw [this];omega
   rw [hu]
   exact begins_end_good t _ 2 (by omega) (by omega) (by omega)
  ·rw [hneg (by omega) (by omega) (by omega)]
   exact begins_end_bad t _ 2 (by omega) (by omega)
 rw [if_neg h4]
 by_cases h5 : byt t 0 < 248
 ·rw [if_pos h5]
  refine ev_neg (by simp) (Ev.step (fun k => bodkinref01_begins.j0.eq_2 ..) ?_)
  by_cases hs : t.size ≤ 3
  ·rw [hneg (by omega) (by omega) (by omega)];exact ev_pos (by simp;omega) (Ev.now _)
  refine ev_neg (by simp;omega) ?_
  rw [show (byt t 0 : Int) - 240 = ((byt t 0 - 240 : Nat) : Int) by omega]
  have k1 := byt_lt t 1
  have k2 := byt_lt t 2
  have k3 := byt_lt t 3
  by_cases hb : byt t 1 < 128 ∨ 191 < byt t 1
  ·rw [hneg (by omega) (by omega) (by omega)];exact begins_bad t _ 3 1 (by omega) (by omega) hb
  refine begins_go t ht _ 3 1 (by omega) (by omega) (by omega) (by omega) (by omega) ?_
  by_cases hb' : byt t 2 < 128 ∨ 191 < byt t 2
  ·rw [hneg (by omega) (by omega) (by omega)];exact begins_bad t _ 3 2 (by omega) (by omega) hb'
  refine begins_go t ht _ 3 2 (by omega) (by omega) (by omega) (by omega) (by omega) ?_
  by_cases hb'' : byt t 3 < 128 ∨ 191 < byt t 3
  ·rw [hneg (by omega) (by omega) (by omega)];exact begins_bad t _ 3 3 (by omega) (by omega) hb''
  refine begins_go t ht _ 3 3 (by omega) (by omega) (by omega) (by omega) (by omega) ?_
  by_cases hg : 65536 ≤ byt t 0 % 8 * 262144 + byt t 1 % 64 * 4096 + byt t 2 % 64 * 64 + byt t 3 % 64 ∧ byt t 0 % 8 * 262144 + byt t 1 % 64 * 4096 + byt t 2 % 64 * 64 + byt t 3 % 64 ≤ 1114111
  ·have hu : uC t 0 = (((((byt t 0 - 240) * 64 + byt t 1 % 64) * 64 + byt t 2 % 64) * 64 + byt t 3 % 64 : Nat) : Int) := by
    have hd := dec_eq t 0
    simp only [Nat.zero_add] at hd
    rw [dec_four _ _ _ _ _ (by omega) (by omega) (by omega) (by omega) (by omega) (by omega) (by omega) (by omega)] at hd
    have := (uC_of t 0 _ _ hd (by omega)).1
    rw [this];omega
   rw [hu]
   exact begins_end_good t _ 3 (by omega) (by omega) (by omega)
  ·rw [hneg (by omega) (by omega) (by omega)]
   exact begins_end_bad t _ 3 (by omega) (by omega)
 ·rw [if_neg h5,hneg (by omega) (by omega) (by omega)]
  exact ev_pos (by simp) (Ev.step (fun k => bodkinref01_begins.j0.eq_2 ..) (ev_pos rfl (Ev.now _)))
end
end Go.Proofs.YtfhnfhgpaoddbaaDoor.Pu
end
section
namespace Go.Proofs.YtfhnfhgpaoddbaaDoor.U
open Go.RowKit Go.Proofs.YtfhnfhgpaoddbaaDoor.Mu Go.Proofs.YtfhnfhgpaoddbaaDoor.Pu Go.Proofs.YtfhnfhgpaoddbaaDoorW.PrintWords Go.Proofs.YtfhnfhgpaoddbaaDoorW.PrintLast Go.Proofs.YtfhnfhgpaoddbaaDoorW.PrintMore
set_option linter.unusedVariables false
set_option linter.unusedSimpArgs false
attribute [local irreducible] uC uN
/-- Is what is tried a character? -/
def goodI (l : List Int) : Bool := decide (0 ≤ uC (strOfNums l) 0)
/-- One of the bytes from 128 + i on,n of them,in place j. -/
def tryB (l : List Int) (j : Nat) : Nat → Nat → Bool
 | _,0 => false
 | i,n + 1 => goodI (l.set j ((128 + i : Nat) : Int)) || tryB l j (i + 1) n
theorem tryB_succ (l : List Int) (j i m : Nat) : tryB l j i (m + 1) = (goodI (l.set j ((128 + i : Nat) : Int)) || tryB l j (i + 1) m) := rfl
def triedB (low high : List Int) (n : Nat) : Bool := goodI low || (goodI high || (decide (n < low.length) && tryB low n 0 64))
theorem begins_good (l : List Int) (h : 0 < l.length) (hs : l.length ≤ 1099511627776) : ∃ k,bodkinref01_begins.f k (strOfNums l) = some (uC (strOfNums l) 0) := by
 obtain ⟨k,hk⟩ := begins_ans (t := strOfNums l) (by rw [strOfNums_size];exact hs) (by rw [strOfNums_size];exact h)
 exact ⟨k,hk k (Nat.le_refl _)⟩
theorem set_setI (l : List Int) (j : Nat) (x y : Int) : (l.set j x).set j y = l.set j y := List.set_set ..
set_option maxRecDepth 100000 in
set_option maxHeartbeats 8000000 in
theorem tried_any {base gl cl gh ch : Nat} {W : World} {low high : List Int} (hl : Bs 5 W gl cl low) (hh : Bs 5 W gh ch high) (hne : gl ≠ gh) (hb : base ≤ gl) (hbw : base ≤ W.heap.size) (h0 : 0 < low.length) (h1 : 0 < high.length) (hs : low.length ≤ 1099511627776) (hs2 : high.length ≤ 1099511627776) (n : Nat) (hn : n ≤ 1099511627776) :
  Calls Tryd.prog 74 #[.slice (some ⟨gl,0,none⟩) low.length cl,.slice (some ⟨gh,0,none⟩) high.length ch,.int .i64 n] W fun e w' => e = .returned (.bool (triedB low high n)) ∧ Below base W w' := by
 obtain ⟨k1,hk1⟩ := begins_good low h0 hs
 obtain ⟨k2,hk2⟩ := begins_good high h1 hs2
 have hcv : ∀ (w : World) (g cap : Nat) (xs : List Int),Bs 5 w g cap xs → (convert 73 9 (.slice (some ⟨g,0,none⟩) xs.length cap)).run Tryd.prog w = .ok (.string (strOfNums xs)) w := fun w g cap xs hB => hB.str _ _ Tryd.underlying73 Tryd.underlying5 Tryd.underlying9
 have q1 := hcv W gl cl low hl
 go_enter Tryd.func74,Tryd.ntmps74
 cases hg : goodI low with
 | true =>
  have hq : (uC (strOfNums low) 0 ≥ 0) = True := eq_true (of_decide_eq_true hg)
  have hr : triedB low high n = true := by unfold triedB;rw [hg];rfl
  go_wp2_with (go_at_call 62;(with_reducible refine (bodkinref01_begins.calls k1 _ _ _ hk1).mono ?_);rintro e w1 ⟨rfl,hb1⟩)
  go_ret
  exact ⟨by rw [hr];rfl,hb1.mono hbw⟩
 | false =>
  have hq : (uC (strOfNums low) 0 ≥ 0) = False := eq_false (of_decide_eq_false hg)
  cases hg2 : goodI high with
  | true =>
   have hq2 : (uC (strOfNums high) 0 ≥ 0) = True := eq_true (of_decide_eq_true hg2)
   have hr : triedB low high n = true := by unfold triedB;rw [hg,hg2];rfl
   go_wp2_with (first | (go_at_call 62;(with_reducible refine (bodkinref01_begins.calls k1 _ _ _ hk1).mono ?_);rintro e w1 ⟨rfl,hb1⟩;have q2 := hcv w1 gh ch high (hh.below hb1)) | (go_at_call 62;(with_reducible refine (bodkinref01_begins.calls k2 _ _ _ hk2).mono ?_);rintro e w2 ⟨rfl,hb2⟩))
   go_ret
   exact ⟨by rw [hr];rfl,(hb1.trans (hb2.mono hb1.size)).mono hbw⟩
  | false =>
   have hq2 : (uC (strOfNums high) 0 ≥ 0) = False := eq_false (of_decide_eq_false hg2)
   go_upto_region 3 with (first | (go_at_call 62;(with_reducible refine (bodkinref01_begins.calls k1 _ _ _ hk1).mono ?_);rintro e w1 ⟨rfl,hb1⟩;have q2 := hcv w1 gh ch high (hh.below hb1)) | (go_at_call 62;(with_reducible refine (bodkinref01_begins.calls k2 _ _ _ hk2).mono ?_);rintro e w2 ⟨rfl,hb2⟩))
   have hB2 := (hb1.trans (hb2.mono hb1.size)).mono hbw
   have hl2 := (hl.below hb1).below hb2
   clear hb1 hb2 hk1 hk2 q1 q2 hh hl hq hq2
   by_cases hnl : n < low.length
   ·have q3 := eq_false (show ¬ ((n : Int) ≥ (low.length : Int)) by omega)
    have hr : triedB low high n = tryB low n 0 64 := by unfold triedB;rw [hg,hg2,decide_eq_true hnl];rfl
    have hrH := Lib.hid hr
    clear hr hg hg2
    have hnl' : (n : Int) < (low.length : Int) := by omega
    go_wp2_with (fail)
    go_loopw [7] (fun v wr => ∃ (i : Nat) (l : List Int),v = .int .i64 ((128 + i : Nat) : Int) ∧ i ≤ 64 ∧ Bs 5 wr gl cl l ∧ Hid (l.length = low.length) ∧ Hid (∀ x,l.set n x = low.set n x) ∧ Hid (tryB low n 0 64 = tryB low n i (64 - i)) ∧ Below base W wr) (fun v _ => 192 - (intOf v).toNat)
    case atStart => exact ⟨0,low,rfl,by omega,hl2,Lib.hid rfl,Lib.hid (fun _ => rfl),Lib.hid rfl,hB2⟩
    case round =>
     obtain ⟨i,l,rfl,hi,hBl,hll,hls,hT,hBr⟩ := hrel
     by_cases hi2 : i < 64
     ·have hle := eq_true (show ((128 + i : Nat) : Int) ≤ 191 by omega)
      have hcu : IntKind.u8.wrap ((128 + i : Nat) : Int) = ((128 + i : Nat) : Int) := by
       rw [IntKind.wrap_u8]
       omega
      have hln : n < l.length := by rw [hll.out];exact hnl
      obtain ⟨c0,c1⟩ := hBl.cell n hln
      have hB3 := hBl.put n hln ((128 + i : Nat) : Int)
      obtain ⟨k3,hk3⟩ := begins_good (l.set n ((128 + i : Nat) : Int)) (by rw [List.length_set,hll.out];exact h0) (by rw [List.length_set,hll.out];exact hs)
      have q4 := hcv _ gl cl _ hB3
      rw [List.length_set,hll.out] at q4
      have hBw := hBr.setCell (p := ⟨gl,n,none⟩) hb (.int .u8 ((128 + i : Nat) : Int))
      have hl3 : Hid ((l.set n ((128 + i : Nat) : Int)).length = low.length) := Lib.hid (by rw [List.length_set,hll.out])
      have hs3 : Hid (∀ x,(l.set n ((128 + i : Nat) : Int)).set n x = low.set n x) := Lib.hid (fun x => by rw [set_setI,hls.out])
      have hT3 : tryB low n i (64 - i) = (goodI (l.set n ((128 + i : Nat) : Int)) || tryB low n (i + 1) (63 - i)) := by
       rw [show 64 - i = 63 - i + 1 by omega,tryB_succ,hls.out]
      have hTH := Lib.hid (hT.out.trans hT3)
      clear hT3 hln
      generalize l.set n ((128 + i : Nat) : Int) = l2 at hB3 hk3 q4 hl3 hs3 hTH
      generalize hxe : ((128 + i : Nat) : Int) = x at hle hcu c0 hB3 q4 hBw ⊢
      cases hg3 : goodI l2 with
      | true =>
       have hq : (uC (strOfNums l2) 0 ≥ 0) = True := eq_true (of_decide_eq_true hg3)
       have hr : triedB low high n = true := by rw [hrH.out,hTH.out,hg3];rfl
       go_wp2_with (go_at_call 62;(with_reducible refine (bodkinref01_begins.calls k3 _ _ _ hk3).mono ?_);rintro e w5 ⟨rfl,hb5⟩)
       go_ret
       exact ⟨by rw [hr];rfl,hBw.trans (hb5.mono (Nat.le_trans hbw hBw.size))⟩
      | false =>
       have hq : (uC (strOfNums l2) 0 ≥ 0) = False := eq_false (of_decide_eq_false hg3)
       have hT4 : Hid (tryB low n 0 64 = tryB low n (i + 1) (64 - (i + 1))) := Lib.hid (by rw [hTH.out,hg3,Bool.false_or,show 63 - i = 64 - (i + 1) by omega])
       have hx2 : 128 ≤ x ∧ x ≤ 191 := by omega
       have hxH := Lib.hid hxe
       clear hxe
       go_wp2_with (go_at_call 62;(with_reducible refine (bodkinref01_begins.calls k3 _ _ _ hk3).mono ?_);rintro e w5 ⟨rfl,hb5⟩)
       go_roundw
       case rel => exact ⟨i + 1,l2,by have := hxH.out;go_num,hi2,hB3.below hb5,hl3,hs3,hT4,hBw.trans (hb5.mono (Nat.le_trans hbw hBw.size))⟩
       case measure => have := hxH.out;simp [intOf];omega
     ·have hle := eq_false (show ¬ ((128 + i : Nat) : Int) ≤ 191 by omega)
      have hr : triedB low high n = false := by rw [hrH.out,hT.out,show 64 - i = 0 by omega];rfl
      generalize ((128 + i : Nat) : Int) = x at hle ⊢
      go_wp2_with (fail)
      go_ret
      exact ⟨by rw [hr];rfl,hBr⟩
   ·have q3 := eq_true (show ((n : Int) ≥ (low.length : Int)) by omega)
    have hr : triedB low high n = false := by unfold triedB;rw [hg,hg2,decide_eq_false hnl];rfl
    go_wp2_with (fail)
    go_ret
    exact ⟨by rw [hr];rfl,hB2⟩
end Go.Proofs.YtfhnfhgpaoddbaaDoor.U
end
section
namespace Go.Proofs.YtfhnfhgpaoddbaaDoor.U
open Go.RowKit Go.Proofs.YtfhnfhgpaoddbaaDoor.Mu Go.Proofs.YtfhnfhgpaoddbaaDoor.Pu Go.Proofs.YtfhnfhgpaoddbaaDoorW.PrintWords Go.Proofs.YtfhnfhgpaoddbaaDoorW.PrintLast Go.Proofs.YtfhnfhgpaoddbaaDoorW.PrintMore
set_option linter.unusedVariables false
set_option linter.unusedSimpArgs false
attribute [local irreducible] uC uN
/-- How many bytes follow a first one;-1: it is none. -/
def leadP (b : Nat) : Int × Int := if b < 128 then ((b : Int),0) else if b < 192 then (0,-1) else if b < 224 then ((b : Int) - 192,1) else if b < 240 then ((b : Int) - 224,2) else if b < 248 then ((b : Int) - 240,3) else (0,-1)
def moreI (b : Nat) : Int := (leadP b).2
theorem lead_more (b : Nat) : ∃ k c,bodkinref01_lead.f k (b : Int) = some (c,moreI b) := by
 obtain ⟨k,hk⟩ := lead_ans b
 exact ⟨k,_,hk k (Nat.le_refl _)⟩
theorem more_eq (b : Nat) : moreI b = if b < 128 then 0 else if b < 192 then -1 else if b < 224 then 1 else if b < 240 then 2 else if b < 248 then 3 else -1 := by
 unfold moreI leadP
 repeat' split
 all_goals rfl
theorem more_le (b : Nat) : moreI b ≤ 3 := by
 rw [more_eq]
 repeat' split
 all_goals omega
/-- Are the n bytes from place i on such as follow a first one? -/
def contB (s : ByteArray) : Nat → Nat → Bool
 | _,0 => true
 | i,n + 1 => decide (128 ≤ byt s i ∧ byt s i ≤ 191) && contB s (i + 1) n
theorem contB_succ (s : ByteArray) (i n : Nat) : contB s i (n + 1) = (decide (128 ≤ byt s i ∧ byt s i ≤ 191) && contB s (i + 1) n) := rfl
def bytI (s : ByteArray) : List Int := s.data.toList.map (fun b => (b.toNat : Int))
def begB (s : ByteArray) : Bool :=
 if s.size = 0 then false
 else if moreI (byt s 0) < 1 ∨ moreI (byt s 0) < s.size then false
 else contB s 1 (s.size - 1) && triedB (bytI s ++ List.replicate ((moreI (byt s 0)).toNat + 1 - s.size) 128) (bytI s ++ List.replicate ((moreI (byt s 0)).toNat + 1 - s.size) 191) s.size
theorem bytI_len (s : ByteArray) : (bytI s).length = s.size := by unfold bytI;rw [List.length_map,Array.length_toList];rfl
theorem empty_iff' (s : ByteArray) : (s.toList == ([] : List UInt8)) = (s.size == 0) := by
 have h : s.toList = s.data.toList := Lib.toList_data s
 rw [h]
 have h2 : s.size = s.data.toList.length := Lib.size_eq s
 rw [h2]
 cases s.data.toList with
 | nil => rfl
 | cons a l => rfl
theorem below_bytes (w : World) (e : TypeId) (s : ByteArray) : Below w.heap.size w (Lib.bytesWorld w e s) :=
 ⟨rfl,rfl,rfl,by rw [Lib.bytesWorld_size];omega,fun k hk => Lib.bytesWorld_at_old w e s k hk⟩
theorem byt_getV (s : ByteArray) (i : Nat) (h : i < s.size) : byt s i = (s[i]'h).toNat := by
 unfold byt
 congr 1
 show s.data[i]! = s.data[i]'h
 exact getElem!_pos s.data i h
theorem rep_snoc (l : List Int) (t : Nat) (x : Int) : (l ++ List.replicate t x) ++ [x] = l ++ List.replicate (t + 1) x := by
 rw [List.append_assoc,← List.replicate_succ']
set_option maxRecDepth 100000 in
set_option maxHeartbeats 8000000 in
theorem rbegun_any (s : ByteArray) (hs : s.size ≤ 1099511627776) (W : World) :
  Calls Tryd.prog 35 #[.string s] W fun e w' => e = .returned (.bool (begB s)) ∧ Below W.heap.size W w' := by
 by_cases h0 : s.size = 0
 ·have q0 : (s.toList == ([] : List UInt8)) = true := by rw [empty_iff'];simpa using h0
  have hr : begB s = false := by unfold begB;rw [if_pos h0]
  have hrH := Lib.hid hr
  clear hr h0
  go_enter Tryd.func35,Tryd.ntmps35
  go_wp2_with (fail)
  go_ret
  exact ⟨by rw [hrH.out];rfl,Below.refl _ _⟩
 have q0 : (s.toList == ([] : List UInt8)) = false := by rw [empty_iff'];simpa using h0
 have hlt0 : 0 < s.size := by omega
 have hb0 := byt_getV s 0 hlt0
 obtain ⟨x0,hx0⟩ : ∃ x,s[0]'hlt0 = x := ⟨_,rfl⟩
 rw [hx0] at hb0
 obtain ⟨kl,cl,hkl⟩ := lead_more (byt s 0)
 have hm3 := more_le (byt s 0)
 have hbd : begB s = if moreI (byt s 0) < 1 ∨ moreI (byt s 0) < s.size then false else contB s 1 (s.size - 1) && triedB (bytI s ++ List.replicate ((moreI (byt s 0)).toNat + 1 - s.size) 128) (bytI s ++ List.replicate ((moreI (byt s 0)).toNat + 1 - s.size) 191) s.size := by
  unfold begB
  rw [if_neg h0]
 have hbH := Lib.hid hbd
 clear hbd
 generalize moreI (byt s 0) = m at hkl hm3 hbH
 rw [hb0] at hkl
 clear hb0 h0
 by_cases hm : m < 1 ∨ m < (s.size : Int)
 ·have hrH := Lib.hid (show begB s = false by rw [hbH.out,if_pos hm])
  have q1 : (m < 1) = True ∨ ((m < 1) = False ∧ ((s.size : Int) > m) = True) := by
   by_cases h1 : m < 1
   ·exact .inl (eq_true h1)
   ·exact .inr ⟨eq_false h1,eq_true (by omega)⟩
  clear hm hbH
  rcases q1 with q1 | ⟨q1,q2⟩
  ·go_enter Tryd.func35,Tryd.ntmps35
   go_wp2_with (go_at_call 73;(with_reducible refine (bodkinref01_lead.calls kl _ _ _ _ hkl).mono ?_);rintro e w1 ⟨rfl,hd1⟩)
   go_ret
   exact ⟨by rw [hrH.out];rfl,hd1.below⟩
  ·go_enter Tryd.func35,Tryd.ntmps35
   go_wp2_with (go_at_call 73;(with_reducible refine (bodkinref01_lead.calls kl _ _ _ _ hkl).mono ?_);rintro e w1 ⟨rfl,hd1⟩)
   go_ret
   exact ⟨by rw [hrH.out];rfl,hd1.below⟩
 have hb2 := Lib.hid (show begB s = (contB s 1 (s.size - 1) && triedB (bytI s ++ List.replicate (m.toNat + 1 - s.size) 128) (bytI s ++ List.replicate (m.toNat + 1 - s.size) 191) s.size) by rw [hbH.out,if_neg hm])
 have q1 := eq_false (show ¬ m < 1 by omega)
 have q2 := eq_false (show ¬ (s.size : Int) > m by omega)
 have hms : (s.size : Int) ≤ m := by omega
 clear hbH hm
 go_enter Tryd.func35,Tryd.ntmps35
 go_wp2_with (go_at_call 73;(with_reducible refine (bodkinref01_lead.calls kl _ _ _ _ hkl).mono ?_);rintro e w1 ⟨rfl,hd1⟩)
 have hB1 := hd1.below
 clear hd1 hkl hx0
 go_loopw [5] (fun v wr => ∃ i : Nat,v = .int .i64 i ∧ 1 ≤ i ∧ i ≤ s.size ∧ Hid (contB s 1 (s.size - 1) = contB s i (s.size - i)) ∧ wr = w1) (fun v _ => s.size - (intOf v).toNat)
 case atStart => exact ⟨1,rfl,Nat.le_refl _,hlt0,Lib.hid rfl,rfl⟩
 case round =>
  obtain ⟨i,rfl,hi1,hi,hC,rfl⟩ := hrel
  by_cases hlt : i < s.size
  ·have hlt' := eq_true (show (i : Int) < (s.size : Int) by omega)
   have hbi := byt_getV s i hlt
   obtain ⟨x,hx⟩ : ∃ x,s[i]'hlt = x := ⟨_,rfl⟩
   rw [hx] at hbi
   have hC2 : contB s i (s.size - i) = (decide (128 ≤ byt s i ∧ byt s i ≤ 191) && contB s (i + 1) (s.size - (i + 1))) := by
    rw [show s.size - i = (s.size - (i + 1)) + 1 by omega,contB_succ]
   rw [hbi] at hC2
   have hC3 := Lib.hid (hC.out.trans hC2)
   clear hC2 hbi
   by_cases hok : 128 ≤ x.toNat ∧ x.toNat ≤ 191
   ·have r1 := eq_false (show ¬ (x.toNat : Int) < 128 by omega)
    have r2 := eq_false (show ¬ (x.toNat : Int) > 191 by omega)
    have hC4 : Hid (contB s 1 (s.size - 1) = contB s (i + 1) (s.size - (i + 1))) := Lib.hid (by rw [hC3.out,decide_eq_true hok,Bool.true_and])
    clear hok
    go_wp2_with (fail)
    go_roundw
    case rel => exact ⟨i + 1,by go_num,by omega,hlt,hC4,trivial⟩
    case measure => simp [intOf];omega
   ·have hr := Lib.hid (show begB s = false by rw [hb2.out,hC3.out,decide_eq_false hok];rfl)
    have r1 : ((x.toNat : Int) < 128) = True ∨ (((x.toNat : Int) < 128) = False ∧ ((x.toNat : Int) > 191) = True) := by
     by_cases h1 : (x.toNat : Int) < 128
     ·exact .inl (eq_true h1)
     ·exact .inr ⟨eq_false h1,eq_true (by omega)⟩
    clear hok
    rcases r1 with r1 | ⟨r1,r2⟩
    ·go_wp2_with (fail)
     go_ret
     exact ⟨by rw [hr.out];rfl,hB1⟩
    ·go_wp2_with (fail)
     go_ret
     exact ⟨by rw [hr.out];rfl,hB1⟩
  ·have hlt' := eq_false (show ¬ (i : Int) < (s.size : Int) by omega)
   have hC4 := Lib.hid (show contB s 1 (s.size - 1) = true by rw [hC.out,show s.size - i = 0 by omega];rfl)
   have hcv : ∀ (w : World),(convert 9 73 (.string s)).run Tryd.prog w = .ok (.slice (some ⟨w.heap.size,0,none⟩) s.size (grownCap w s.size 0 5)) (Lib.bytesWorld w 5 s) := fun w => Lib.run_convert_string_bytes w _ _ 5 s Tryd.underlying9 Tryd.underlying73 Tryd.underlying5
   have hsw := hB1.size
   have b1 := below_bytes wr 5 s
   have hL0 := Bs.conv wr 5 s
   go_upto_region 12 with (fail)
   generalize Lib.bytesWorld wr 5 s = w2 at b1 hL0 ⊢
   generalize grownCap wr s.size 0 5 = c1 at hL0 ⊢
   have hB2 := hB1.trans (b1.mono hsw)
   generalize wr.heap.size = gl at hL0 hsw ⊢
   have hsw2 := hB2.size
   have b2 := below_bytes w2 5 s
   have hH0 := Bs.conv w2 5 s
   have hL1 := hL0.below b2
   have hB3 := hB2.trans (b2.mono hsw2)
   have hlt2 : gl < w2.heap.size := hL0.lt
   go_wp2_with (fail)
   generalize Lib.bytesWorld w2 5 s = w3 at b2 hH0 hL1 hB3 ⊢
   generalize grownCap w2 s.size 0 5 = c2 at hH0 ⊢
   generalize w2.heap.size = gh at hH0 hlt2 hsw2 ⊢
   clear hL0 b1 b2 hB1 hB2 hcv
   go_loopw [6,7] (fun v6 v7 wr => ∃ (n t gl cl gh ch : Nat) (low high : List Int),v6 = .slice (some ⟨gl,0,none⟩) n cl ∧ v7 = .slice (some ⟨gh,0,none⟩) n ch ∧ Hid (n = s.size + t) ∧ (n : Int) ≤ m + 1 ∧ Hid (low.length = n) ∧ Hid (high.length = n) ∧ Hid (low = bytI s ++ List.replicate t 128) ∧ Hid (high = bytI s ++ List.replicate t 191) ∧ Bs 5 wr gl cl low ∧ Bs 5 wr gh ch high ∧ gl ≠ gh ∧ W.heap.size ≤ gl ∧ W.heap.size ≤ gh ∧ Below W.heap.size W wr) (fun v _ _ => match v with | .slice _ n _ => 10 - n | _ => 0)
   case atStart => exact ⟨s.size,0,gl,_,gh,_,_,_,rfl,rfl,Lib.hid rfl,by omega,Lib.hid (bytI_len s),Lib.hid (bytI_len s),Lib.hid (List.append_nil _).symm,Lib.hid (List.append_nil _).symm,hL1,hH0,by omega,hsw,hsw2,hB3⟩
   case round =>
    obtain ⟨n,t,gl,cl,gh,ch,low,high,rfl,rfl,hn,hnm,hll,hhl,hlow,hhigh,hBl,hBh,hgn,hg1,hg2,hB4⟩ := hrel
    by_cases hle : (n : Int) ≤ m
    ·have hle' := eq_true hle
     have hbs := hB4.size
     go_wp2_with (first | ((with_reducible refine gate_builtin (b := .append) (xs := #[.tmp 48,.tmp 49]) rfl ?_);at_builtin;(refine bs_append (w0 := W) W.heap.size rfl (.tmp 48) (.tmp 49) rfl Tryd.underlying73 info5 128 (by rw [hll.out];rfl) rfl hBl hB4 hbs hg1 (by rw [hll.out];omega) ?_;intro g1 cap1 w5 hA1 hA2 hA3 hA4 hA5;rw [hll.out];have hBh5 := hBh.grown hA4 (fun he => hgn (by injection he with he;exact he.symm));have hbs5 := hA3.size;have hlt5 := hBh.lt)) | ((with_reducible refine gate_builtin (b := .append) (xs := #[.tmp 51,.tmp 52]) rfl ?_);at_builtin;(refine bs_append (w0 := W) W.heap.size rfl (.tmp 51) (.tmp 52) rfl Tryd.underlying73 info5 191 (by rw [hhl.out];rfl) rfl hBh5 hA3 hbs5 hg2 (by rw [hhl.out];omega) ?_;intro g2 cap2 w6 hC1 hC2 hC3 hC4 hC5;rw [hhl.out])))
     have hgn5 : gh ≠ g1 := by rcases hA5 with h | h <;> omega
     have hBl6 := hA1.grown hC4 (fun he => hgn5 (by injection he with he;exact he.symm))
     have hlt6 := hA1.lt
     go_roundw
     case rel => exact ⟨n + 1,t + 1,g1,cap1,g2,cap2,_,_,rfl,rfl,Lib.hid (by rw [hn.out];rfl),by omega,Lib.hid (by rw [List.length_append,hll.out];rfl),Lib.hid (by rw [List.length_append,hhl.out];rfl),Lib.hid (by rw [hlow.out,rep_snoc]),Lib.hid (by rw [hhigh.out,rep_snoc]),hBl6,hC1,by rcases hC5 with h | h <;> omega,hA2,hC2,hC3⟩
     case measure => simp;omega
    ·have hle' := eq_false hle
     have ht : t = m.toNat + 1 - s.size := by have := hn.out;omega
     have hbs := hB4.size
     have hT := tried_any hBl hBh hgn hg1 hbs (by rw [hll.out,hn.out];omega) (by rw [hhl.out,hn.out];omega) (by rw [hll.out];omega) (by rw [hhl.out];omega) s.size hs
     rw [hll.out,hhl.out] at hT
     have hr : begB s = triedB low high s.size := by rw [hb2.out,hC4.out,Bool.true_and,hlow.out,hhigh.out,ht]
     have hrH := Lib.hid hr
     clear hr ht
     go_wp2_with (go_at_call 74;refine hT.mono ?_;rintro e w7 ⟨rfl,hb7⟩)
     go_ret
     exact ⟨by rw [hrH.out];rfl,hB4.trans hb7⟩
def bodkinref01_Begun.f (a0 : ByteArray) : Option Bool := if a0.size ≤ 1099511627776 then some (begB a0) else none
theorem bodkinref01_Begun.calls (a0 : ByteArray) (r : Bool) (w : World) (h : bodkinref01_Begun.f a0 = some r) :
  Calls Tryd.prog 35 #[.string a0] w fun e w' => e = .returned (.bool r) ∧ Below w.heap.size w w' := by
 unfold bodkinref01_Begun.f at h
 split at h
 ·rename_i hs
  obtain rfl := Option.some.inj h
  exact rbegun_any a0 hs w
 ·cases h
end Go.Proofs.YtfhnfhgpaoddbaaDoor.U
end
section
namespace Go.Proofs.YtfhnfhgpaoddbaaDoor.U
open Go.RowKit Go.Proofs.YtfhnfhgpaoddbaaDoorW.PrintWords Go.Proofs.YtfhnfhgpaoddbaaDoorW.PrintLast Go.Proofs.YtfhnfhgpaoddbaaDoorW.PrintMore
attribute [local go_sem] max2_int min2_int max_two min_two max_three min_three max_four min_four   -- for this text's walks alone
set_option linter.unusedVariables false
set_option linter.unusedSimpArgs false
mutual
def bodkinlaw01_UnitBegins.j0 : Nat → ByteArray → Bool → Option (Bool)
 | 0,_,_ => none
 | k + 1,x0,x17 => if x17 = true then (some false) else (bodkinlaw01_UnitBegins.l0 k x0 (mn (x0.size : Int) 100) 0)
def bodkinlaw01_UnitBegins.l0 : Nat → ByteArray → Int → Int → Option (Bool)
 | 0,_,_,_ => none
 | k + 1,x0,x20,x21 => if x21 < x20 then (bodkinlaw01_UnitBegins.l1 k x0 x21 x21 x20 x21) else (some true)
def bodkinlaw01_UnitBegins.l1 : Nat → ByteArray → Int → Int → Int → Int → Option (Bool)
 | 0,_,_,_,_,_ => none
 | k + 1,x0,x3,x4,x20,x21 => if x4 ≤ (mn (x0.size : Int) (wrap64 (x3 + 5))) then (if 0 ≤ x3 then (if x3 ≤ x4 then (if x4 ≤ (x0.size : Int) then ((unit_Begun.f (x0.extract (x3 : Int).toNat (x4 : Int).toNat)).bind fun t274 => ((bodkinref01_Begun.f (x0.extract (x3 : Int).toNat (x4 : Int).toNat)).bind fun t275 => (if (t274 != t275) = true then (some false) else (bodkinlaw01_UnitBegins.l1 k x0 x3 (wrap64 (x4 + 1)) x20 x21)))) else (none)) else (none)) else (none)) else (bodkinlaw01_UnitBegins.l0 k x0 x20 (wrap64 (x21 + 1)))
end
def bodkinlaw01_UnitBegins.f (k : Nat) (a0 : ByteArray) : Option (Bool) := (bodkinlaw01_cuts.f).bind fun t270 => (if t270 = true then ((unit_Begun.f (⟨#[226,130]⟩ : ByteArray)).bind fun t271 => (if t271 = true then ((unit_Begun.f a0).bind fun t272 => ((bodkinref01_Begun.f a0).bind fun t273 => (bodkinlaw01_UnitBegins.j0 k a0 (t272 != t273)))) else (bodkinlaw01_UnitBegins.j0 k a0 true))) else (bodkinlaw01_UnitBegins.j0 k a0 true))
def bodkinlaw01_UnitBegins.T9 : Bool × List (List Nat × List Nat) := (true,[([],[]),([],[]),([],[]),([0,1,2],[0,1,2]),([3],[3]),([],[]),([],[]),([],[]),([5,6,7],[5,6,7]),([8,4],[8]),([4,9],[4,9])])
def bodkinlaw01_UnitBegins.B9 : List Nat := [0,0,0,7,15,0,0,0,224,511,1023]
theorem bodkinlaw01_UnitBegins.tab9 : rtab .any (opsOf Tryd.f9 9) = bodkinlaw01_UnitBegins.T9 := by kernel_rfl
theorem bodkinlaw01_UnitBegins.bits9 : waitsOk bodkinlaw01_UnitBegins.T9.2 bodkinlaw01_UnitBegins.B9 = true := by kernel_rfl
set_option maxHeartbeats 8000000 in
set_option maxRecDepth 100000 in
theorem bodkinlaw01_UnitBegins.calls (k : Nat) (a0 : ByteArray) (r : Bool) (w : World) (hT : Lib.Utf8Tabs 0 1 w) (h : bodkinlaw01_UnitBegins.f k a0 = some r) :
  Calls Tryd.prog 9 #[.string a0] w fun e w' => e = .returned (.bool r) ∧ Below w.heap.size w w' := by
 have HT := Aside0.mk hT
 clear hT
 have HB := Aside0.mk (Below.refl w.heap.size w)
 have H : ((bodkinlaw01_cuts.f).bind fun t270 => (if t270 = true then ((unit_Begun.f (⟨#[226,130]⟩ : ByteArray)).bind fun t271 => (if t271 = true then ((unit_Begun.f a0).bind fun t272 => ((bodkinref01_Begun.f a0).bind fun t273 => (bodkinlaw01_UnitBegins.j0 k a0 (t272 != t273)))) else (bodkinlaw01_UnitBegins.j0 k a0 true))) else (bodkinlaw01_UnitBegins.j0 k a0 true))) = some r := h
 clear h
 have HC2 := Aside0.mk H
 clear H
 go_enter Tryd.func9,Tryd.ntmps9
 go_upto_region 1 with (fail)
 go_cut [17] (fun v17 wc => ∃ (kq : Nat) (x17_1 : Bool),v17 = .bool x17_1 ∧ Aside0 (bodkinlaw01_UnitBegins.j0 kq a0 x17_1 = some r) ∧ Aside0 (kq ≤ k) ∧ Aside0 (Below w.heap.size w wc))
 case first =>
  have H := HC2.out
  clear HC2
  replace H := Option.bind_eq_some_iff.mp H
  obtain ⟨t270,A30,H⟩ := H
  replace H : (if t270 = true then ((unit_Begun.f (⟨#[226,130]⟩ : ByteArray)).bind fun t271 => (if t271 = true then ((unit_Begun.f a0).bind fun t272 => ((bodkinref01_Begun.f a0).bind fun t273 => (bodkinlaw01_UnitBegins.j0 k a0 (t272 != t273)))) else (bodkinlaw01_UnitBegins.j0 k a0 true))) else (bodkinlaw01_UnitBegins.j0 k a0 true)) = some r := H
  have A3 := Aside0.mk A30
  clear A30
  by_cases c4 : t270 = true
  ·subst c4
   have H1 : ((unit_Begun.f (⟨#[226,130]⟩ : ByteArray)).bind fun t271 => (if t271 = true then ((unit_Begun.f a0).bind fun t272 => ((bodkinref01_Begun.f a0).bind fun t273 => (bodkinlaw01_UnitBegins.j0 k a0 (t272 != t273)))) else (bodkinlaw01_UnitBegins.j0 k a0 true))) = some r := by rw [if_pos rfl] at H;exact H
   clear H
   have H := H1
   clear H1
   replace H := Option.bind_eq_some_iff.mp H
   obtain ⟨t271,A50,H⟩ := H
   replace H : (if t271 = true then ((unit_Begun.f a0).bind fun t272 => ((bodkinref01_Begun.f a0).bind fun t273 => (bodkinlaw01_UnitBegins.j0 k a0 (t272 != t273)))) else (bodkinlaw01_UnitBegins.j0 k a0 true)) = some r := H
   have A5 := Aside0.mk A50
   clear A50
   by_cases c6 : t271 = true
   ·subst c6
    have H1 : ((unit_Begun.f a0).bind fun t272 => ((bodkinref01_Begun.f a0).bind fun t273 => (bodkinlaw01_UnitBegins.j0 k a0 (t272 != t273)))) = some r := by rw [if_pos rfl] at H;exact H
    clear H
    have H := H1
    clear H1
    replace H := Option.bind_eq_some_iff.mp H
    obtain ⟨t272,A70,H⟩ := H
    replace H : ((bodkinref01_Begun.f a0).bind fun t273 => (bodkinlaw01_UnitBegins.j0 k a0 (t272 != t273))) = some r := H
    have A7 := Aside0.mk A70
    clear A70
    replace H := Option.bind_eq_some_iff.mp H
    obtain ⟨t273,A80,H⟩ := H
    replace H : (bodkinlaw01_UnitBegins.j0 k a0 (t272 != t273)) = some r := H
    have A8 := Aside0.mk A80
    clear A80
    have H' := Aside0.mk H
    clear H
    go_wp2_with (first | ((with_reducible refine gate_callee (f := 21) rfl ?_);refine goesL_ (some 5) rfl rfl Tryd.func21 (by kernel_rfl) rfl #[] rfl au1 ?_;(with_reducible refine (bodkinlaw01_cuts.calls  true _ ?side1 A3.out).mono ?_);(case side1 => exact tabs_below HT.out au0);rintro e w9 ⟨rfl,hb⟩;refine ⟨_,rfl,?_⟩;have n0_ := Aside0.mk (below_step au0 hb);clear HB;have HB := n0_;clear n0_;(try clear hb);(try clear hb2);(try clear hk);(try clear hi)) | (go_at_call 34;(with_reducible refine (unit_Begun.calls (⟨#[226,130]⟩ : ByteArray) true _ ?side1 A5.out).mono ?_);(case side1 => exact tabs_below HT.out au0);rintro e w10 ⟨rfl,hb⟩;have n0_ := Aside0.mk (below_step au0 hb);clear HB;have HB := n0_;clear n0_;(try clear hb);(try clear hb2);(try clear hk);(try clear hi)) | (go_at_call 34;(with_reducible refine (unit_Begun.calls a0 t272 _ ?side1 A7.out).mono ?_);(case side1 => exact tabs_below HT.out au0);rintro e w11 ⟨rfl,hb⟩;have n0_ := Aside0.mk (below_step au0 hb);clear HB;have HB := n0_;clear n0_;(try clear hb);(try clear hb2);(try clear hk);(try clear hi)) | (go_at_call 35;(with_reducible refine (bodkinref01_Begun.calls a0 t273 _ A8.out).mono ?_);rintro e w12 ⟨rfl,hb⟩;have n0_ := Aside0.mk (below_step au0 hb);clear HB;have HB := n0_;clear n0_;(try clear hb);(try clear hb2);(try clear hk);(try clear hi)))
    go_meet
    case rel => exact ⟨_,((t272 != t273)),au5,H',⟨by first | omega | exact Nat.le_refl _⟩,⟨au0⟩⟩
   ·replace c6 := Bool.eq_false_iff.mpr c6
    subst c6
    have H1 : (bodkinlaw01_UnitBegins.j0 k a0 true) = some r := by rw [if_neg (show ¬ (false = true) by decide)] at H;exact H
    clear H
    have H := H1
    clear H1
    have H' := Aside0.mk H
    clear H
    go_wp2_with (first | ((with_reducible refine gate_callee (f := 21) rfl ?_);refine goesL_ (some 5) rfl rfl Tryd.func21 (by kernel_rfl) rfl #[] rfl au1 ?_;(with_reducible refine (bodkinlaw01_cuts.calls  true _ ?side1 A3.out).mono ?_);(case side1 => exact tabs_below HT.out au0);rintro e w13 ⟨rfl,hb⟩;refine ⟨_,rfl,?_⟩;have n0_ := Aside0.mk (below_step au0 hb);clear HB;have HB := n0_;clear n0_;(try clear hb);(try clear hb2);(try clear hk);(try clear hi)) | (go_at_call 34;(with_reducible refine (unit_Begun.calls (⟨#[226,130]⟩ : ByteArray) false _ ?side1 A5.out).mono ?_);(case side1 => exact tabs_below HT.out au0);rintro e w14 ⟨rfl,hb⟩;have n0_ := Aside0.mk (below_step au0 hb);clear HB;have HB := n0_;clear n0_;(try clear hb);(try clear hb2);(try clear hk);(try clear hi)))
    go_meet
    case rel => exact ⟨_,(true),au5,H',⟨by first | omega | exact Nat.le_refl _⟩,⟨au0⟩⟩
  ·replace c4 := Bool.eq_false_iff.mpr c4
   subst c4
   have H1 : (bodkinlaw01_UnitBegins.j0 k a0 true) = some r := by rw [if_neg (show ¬ (false = true) by decide)] at H;exact H
   clear H
   have H := H1
   clear H1
   have H' := Aside0.mk H
   clear H
   go_wp2_with (first | ((with_reducible refine gate_callee (f := 21) rfl ?_);refine goesL_ (some 5) rfl rfl Tryd.func21 (by kernel_rfl) rfl #[] rfl au1 ?_;(with_reducible refine (bodkinlaw01_cuts.calls  false _ ?side1 A3.out).mono ?_);(case side1 => exact tabs_below HT.out au0);rintro e w15 ⟨rfl,hb⟩;refine ⟨_,rfl,?_⟩;have n0_ := Aside0.mk (below_step au0 hb);clear HB;have HB := n0_;clear n0_;(try clear hb);(try clear hb2);(try clear hk);(try clear hi)))
   go_meet
   case rel => exact ⟨_,(true),au5,H',⟨by first | omega | exact Nat.le_refl _⟩,⟨au0⟩⟩
 case rest =>
  clear HC2
  try clear c2
  try clear p2
  try clear c4
  try clear c6
  try clear c9
  obtain ⟨kq,x17_1,rfl,HA,HJ1,HB⟩ := hcut
  cases kq with
  | zero => exact absurd HA.out (by simp [bodkinlaw01_UnitBegins.j0])
  | succ kj1 =>
   have H := HA.out
   clear HA
   simp only [bodkinlaw01_UnitBegins.j0] at H
   by_cases c16 : x17_1 = true
   ·subst c16
    have H1 : (some false) = some r := by rw [if_pos rfl] at H;exact H
    clear H
    have H := H1
    clear H1
    obtain rfl := Option.some.inj H
    go_wp2
    go_ret
    exact ⟨au2,au0⟩
   ·replace c16 := Bool.eq_false_iff.mpr c16
    subst c16
    have H1 : (bodkinlaw01_UnitBegins.l0 kj1 a0 (mn (a0.size : Int) 100) 0) = some r := by rw [if_neg (show ¬ (false = true) by decide)] at H;exact H
    clear H
    have H := H1
    clear H1
    obtain ⟨ji17,hji17⟩ : ∃ j_ : Int,(mn (a0.size : Int) 100) = j_ := ⟨_,rfl⟩
    replace H : (bodkinlaw01_UnitBegins.l0 kj1 a0 ji17 0) = some r := by first | (rw [hji17] at H;exact H) | (simp only [hji17] at H ⊢;exact H)
    have hji17_ : (if 100 < (a0.size : Int) then 100 else (a0.size : Int)) = ji17 := hji17
    have H' := Aside0.mk H
    clear H
    go_wp2
    go_loopg [21] kj1 (fun kq v21 w' => ∃ (x21_2 : Int),v21 = .int .i64 x21_2 ∧ Aside0 (bodkinlaw01_UnitBegins.l0 kq a0 ji17 x21_2 = some r) ∧ Aside0 (kq ≤ kj1) ∧ Aside0 (Below w.heap.size w w'))
    case atStart => exact ⟨(0),au5,H',⟨Nat.le_refl _⟩,⟨au0⟩⟩
    case round =>
     clear H'
     try clear c1
     try clear c2
     try clear p2
     try clear c4
     try clear c6
     try clear c9
     try clear c16
     try clear p2
     obtain ⟨x21_2,rfl,HA,HK2,HB⟩ := hrel
     cases gk with
     | zero => exact absurd HA.out (by simp [bodkinlaw01_UnitBegins.l0])
     | succ k2 =>
      have H := HA.out
      clear HA
      simp only [bodkinlaw01_UnitBegins.l0] at H
      by_cases c18 : x21_2 < ji17
      ·rw [if_pos c18] at H
       have c18b0 : decide (x21_2 < ji17) = true := decide_eq_true c18
       clear c18
       have H' := Aside0.mk H
       clear H
       go_wp2
       go_loopg [4] k2 (fun kq v4 w' => ∃ (x4_3 : Int),v4 = .int .i64 x4_3 ∧ Aside0 (bodkinlaw01_UnitBegins.l1 kq a0 x21_2 x4_3 ji17 x21_2 = some r) ∧ Aside0 (kq ≤ k2) ∧ Aside0 (Below w.heap.size w w'))
       case atStart => exact ⟨(x21_2),au5,H',⟨Nat.le_refl _⟩,⟨au0⟩⟩
       case round =>
        clear H'
        try clear c1
        try clear c2
        try clear p2
        try clear c4
        try clear c6
        try clear c9
        try clear c16
        try clear c18
        try clear c18b0
        try clear p2
        obtain ⟨x4_3,rfl,HA,HK3,HB⟩ := hrel
        cases gk with
        | zero => exact absurd HA.out (by simp [bodkinlaw01_UnitBegins.l1])
        | succ k3 =>
         have H := HA.out
         clear HA
         simp only [bodkinlaw01_UnitBegins.l1] at H
         obtain ⟨ji19,hji19⟩ : ∃ j_ : Int,(mn (a0.size : Int) (wrap64 (x21_2 + 5))) = j_ := ⟨_,rfl⟩
         replace H : (if x4_3 ≤ (ji19) then (if 0 ≤ x21_2 then (if x21_2 ≤ x4_3 then (if x4_3 ≤ (a0.size : Int) then ((unit_Begun.f (a0.extract (x21_2 : Int).toNat (x4_3 : Int).toNat)).bind fun t274 => ((bodkinref01_Begun.f (a0.extract (x21_2 : Int).toNat (x4_3 : Int).toNat)).bind fun t275 => (if (t274 != t275) = true then (some false) else (bodkinlaw01_UnitBegins.l1 k3 a0 x21_2 (wrap64 (x4_3 + 1)) ji17 x21_2)))) else (none)) else (none)) else (none)) else (bodkinlaw01_UnitBegins.l0 k3 a0 ji17 (wrap64 (x21_2 + 1)))) = some r := by first | (rw [hji19] at H;exact H) | (simp only [hji19] at H ⊢;exact H)
         have hji19_ : (if (wrap64 (x21_2 + 5)) < (a0.size : Int) then (wrap64 (x21_2 + 5)) else (a0.size : Int)) = ji19 := hji19
         by_cases c20 : x4_3 ≤ (ji19)
         ·rw [if_pos c20] at H
          have c20b0 : decide (x4_3 ≤ (ji19)) = true := decide_eq_true c20
          clear c20
          by_cases c21 : 0 ≤ x21_2
          ·rw [if_pos c21] at H
           have c21b0 := eq_true c21
           have c21b1 : decide (0 ≤ x21_2) = true := decide_eq_true c21
           clear c21
           by_cases c22 : x21_2 ≤ x4_3
           ·rw [if_pos c22] at H
            have c22b0 := eq_true c22
            have c22b1 : decide (x21_2 ≤ x4_3) = true := decide_eq_true c22
            clear c22
            by_cases c23 : x4_3 ≤ (a0.size : Int)
            ·rw [if_pos c23] at H
             have c23b0 := eq_true c23
             have c23b1 : decide (x4_3 ≤ (a0.size : Int)) = true := decide_eq_true c23
             clear c23
             replace H := Option.bind_eq_some_iff.mp H
             obtain ⟨t274,A240,H⟩ := H
             replace H : ((bodkinref01_Begun.f (a0.extract (x21_2 : Int).toNat (x4_3 : Int).toNat)).bind fun t275 => (if (t274 != t275) = true then (some false) else (bodkinlaw01_UnitBegins.l1 k3 a0 x21_2 (wrap64 (x4_3 + 1)) ji17 x21_2))) = some r := H
             have A24 := Aside0.mk A240
             clear A240
             have c25b0 := eq_true (of_decide_eq_true au4 : 0 ≤ x21_2)
             have c26b0 := eq_true (of_decide_eq_true au4 : x21_2 ≤ x4_3)
             have c27b0 := eq_true (of_decide_eq_true au4 : x4_3 ≤ (a0.size : Int))
             replace H := Option.bind_eq_some_iff.mp H
             obtain ⟨t275,A280,H⟩ := H
             replace H : (if (t274 != t275) = true then (some false) else (bodkinlaw01_UnitBegins.l1 k3 a0 x21_2 (wrap64 (x4_3 + 1)) ji17 x21_2)) = some r := H
             have A28 := Aside0.mk A280
             clear A280
             by_cases c29 : (t274 != t275) = true
             ·rw [if_pos c29] at H
              have c29b0 : (t274 != t275) = true := c29
              (try (have c29b1 : decide (t274 = t275) = false := by simpa using c29))
              (try (have c29b2 : (t274 == t275) = false := by simpa using c29))
              (try (have c29b3 : ¬ (t274 = t275) := by simpa using c29))
              clear c29
              obtain rfl := Option.some.inj H
              try go_wp2
              have n0_ := Aside0.mk (below_drew1 HB.out)
              clear HB
              have HB := n0_
              clear n0_
              refine start_ (n := 11) (S := fun w' => True) (ds := []) #[false,false,false,false,false,false,false,false,false,false,false] (by kernel_rfl) rfl rfl trivial (fun hHeld => ?_);refine with_tabW bodkinlaw01_UnitBegins.tab9 bodkinlaw01_UnitBegins.bits9 (fun HT_ HW_ => ?_)
              generalize wr.drew = w30 at HB hHeld ⊢
              refine pure_ (i := 0) (N := some 34) (v := ?_) (a' := ?_) #[true,false,false,false,false,false,false,false,false,false,false] rfl rfl (any_of HT_.out (by kernel_rfl)) (fun _ _ _ h => h) (Or.inl ⟨by rfl,?_⟩) ?_ ?_
              rotate_left
              ·intro w'
               go_simp
               with_reducible rfl
              rotate_left
              ·simp only [Act.put,List.setIfInBounds_toArray,List.set_cons_zero,List.set_cons_succ,i64_w,i32_w]
               rfl
              refine pure_ (i := 1) (N := some 35) (v := ?_) (a' := ?_) #[true,true,false,false,false,false,false,false,false,false,false] rfl rfl (any_of HT_.out (by kernel_rfl)) (fun _ _ _ h => h) (Or.inl ⟨by rfl,?_⟩) ?_ ?_
              rotate_left
              ·intro w'
               go_simp
               with_reducible rfl
              rotate_left
              ·simp only [Act.put,List.setIfInBounds_toArray,List.set_cons_zero,List.set_cons_succ,i64_w,i32_w]
               rfl
              refine pure_ (i := 2) (N := some 36) (v := ?_) (a' := ?_) #[true,true,true,false,false,false,false,false,false,false,false] rfl rfl (any_of HT_.out (by kernel_rfl)) (fun _ _ _ h => h) (Or.inl ⟨by rfl,?_⟩) ?_ ?_
              rotate_left
              ·intro w'
               go_simp
               with_reducible rfl
              rotate_left
              ·simp only [Act.put,List.setIfInBounds_toArray,List.set_cons_zero,List.set_cons_succ,i64_w,i32_w]
               rfl
              refine pure_ (i := 3) (N := some 37) (v := ?_) (a' := ?_) #[true,true,true,true,false,false,false,false,false,false,false] rfl rfl (any_of HT_.out (by kernel_rfl)) (fun _ _ _ h => h) (Or.inl ⟨by rfl,?_⟩) ?_ ?_
              rotate_left
              ·intro w'
               go_simp
               with_reducible rfl
              rotate_left
              ·simp only [Act.put,List.setIfInBounds_toArray,List.set_cons_zero,List.set_cons_succ,i64_w,i32_w]
               rfl
              refine pure_ (i := 5) (N := some 39) (v := ?_) (a' := ?_) #[true,true,true,true,false,true,false,false,false,false,false] rfl rfl (any_of HT_.out (by kernel_rfl)) (fun _ _ _ h => h) (Or.inl ⟨by rfl,?_⟩) ?_ ?_
              rotate_left
              ·intro w'
               go_simp
               with_reducible rfl
              rotate_left
              ·simp only [Act.put,List.setIfInBounds_toArray,List.set_cons_zero,List.set_cons_succ,i64_w,i32_w]
               rfl
              refine pure_ (i := 6) (N := some 40) (v := ?_) (a' := ?_) #[true,true,true,true,false,true,true,false,false,false,false] rfl rfl (any_of HT_.out (by kernel_rfl)) (fun _ _ _ h => h) (Or.inl ⟨by rfl,?_⟩) ?_ ?_
              rotate_left
              ·intro w'
               go_simp
               with_reducible rfl
              rotate_left
              ·simp only [Act.put,List.setIfInBounds_toArray,List.set_cons_zero,List.set_cons_succ,i64_w,i32_w]
               rfl
              refine pure_ (i := 7) (N := some 41) (v := ?_) (a' := ?_) #[true,true,true,true,false,true,true,true,false,false,false] rfl rfl (any_of HT_.out (by kernel_rfl)) (fun _ _ _ h => h) (Or.inl ⟨by rfl,?_⟩) ?_ ?_
              rotate_left
              ·intro w'
               go_simp
               with_reducible rfl
              rotate_left
              ·simp only [Act.put,List.setIfInBounds_toArray,List.set_cons_zero,List.set_cons_succ,i64_w,i32_w]
               rfl
              refine pure_ (i := 8) (N := some 42) (v := ?_) (a' := ?_) #[true,true,true,true,false,true,true,true,true,false,false] rfl rfl (any_of HT_.out (by kernel_rfl)) (fun _ _ _ h => h) (Or.inl ⟨by rfl,?_⟩) ?_ ?_
              rotate_left
              ·intro w'
               go_simp
               with_reducible rfl
              rotate_left
              ·simp only [Act.put,List.setIfInBounds_toArray,List.set_cons_zero,List.set_cons_succ,i64_w,i32_w]
               rfl
              refine one_ (i := 4) (N := some 38) #[true,true,true,true,true,true,true,true,true,false,false] rfl rfl (one_of HT_.out (by kernel_rfl)) (by decide) (fun K hK => ?_)
              refine goes_ Tryd.func34 (by kernel_rfl) rfl #[.string (a0.extract (x21_2 : Int).toNat (x4_3 : Int).toNat)] (by rfl) rfl rfl au1 ?_
              with_reducible refine (unit_Begun.calls (a0.extract (x21_2 : Int).toNat (x4_3 : Int).toNat) t274 _ ?side1 A24.out).mono ?_
              (case side1 => exact tabs_below HT.out au0)
              rintro e w31 ⟨rfl,hb⟩
              refine ⟨_,rfl,?_⟩
              have n0_ := Aside0.mk (below_step au0 hb)
              clear HB
              have HB := n0_
              clear n0_
              (try clear hb)
              (try clear hb2)
              (try clear hk)
              (try clear hi)
              refine hK.out _ _ trivial (fun hHeld => ?_)
              clear hK K
              refine norm_ (a' := ?_) ?_ ?_
              rotate_left
              ·show Act.put _ (some 38) _ = _
               simp only [Act.put,List.setIfInBounds_toArray,List.set_cons_zero,List.set_cons_succ,i64_w,i32_w]
               rfl
              refine one_ (i := 9) (N := some 43) #[true,true,true,true,true,true,true,true,true,true,false] rfl rfl (one_of HT_.out (by kernel_rfl)) (by decide) (fun K hK => ?_)
              refine goes_ Tryd.func35 (by kernel_rfl) rfl #[.string (a0.extract (x21_2 : Int).toNat (x4_3 : Int).toNat)] (by rfl) rfl rfl au1 ?_
              with_reducible refine (bodkinref01_Begun.calls (a0.extract (x21_2 : Int).toNat (x4_3 : Int).toNat) t275 _ A28.out).mono ?_
              rintro e w32 ⟨rfl,hb⟩
              refine ⟨_,rfl,?_⟩
              have n0_ := Aside0.mk (below_step au0 hb)
              clear HB
              have HB := n0_
              clear n0_
              (try clear hb)
              (try clear hb2)
              (try clear hk)
              (try clear hi)
              refine hK.out _ _ trivial (fun hHeld => ?_)
              clear hK K
              refine norm_ (a' := ?_) ?_ ?_
              rotate_left
              ·show Act.put _ (some 43) _ = _
               simp only [Act.put,List.setIfInBounds_toArray,List.set_cons_zero,List.set_cons_succ,i64_w,i32_w]
               rfl
              refine pure_ (i := 10) (N := some 44) (v := ?_) (a' := ?_) #[true,true,true,true,true,true,true,true,true,true,true] rfl rfl (any_of HT_.out (by kernel_rfl)) (fun _ _ _ h => h) (Or.inl ⟨by rfl,?_⟩) ?_ ?_
              rotate_left
              ·intro w'
               go_simp
               with_reducible rfl
              rotate_left
              ·simp only [Act.put,List.setIfInBounds_toArray,List.set_cons_zero,List.set_cons_succ,i64_w,i32_w]
               rfl
              refine done_ (done_of HT_.out (by kernel_rfl)) ?_
              try go_wp2
              go_ret
              exact ⟨by first | rfl | (simp [errW_none,errW_some] <;> rfl) | (simp only [← hji17,← hji19];first | rfl | (simp [errW_none,errW_some] <;> rfl)) | (simp [*,errW_none,errW_some] <;> rfl),au0⟩
             ·rw [if_neg c29] at H
              have c29b0 : (t274 != t275) = false := by simpa using c29
              (try (have c29b1 : decide (t274 = t275) = true := by simpa using c29))
              (try (have c29b2 : (t274 == t275) = true := by simpa using c29))
              clear c29
              have H' := Aside0.mk H
              clear H
              try go_wp2
              have n0_ := Aside0.mk (below_drew1 HB.out)
              clear HB
              have HB := n0_
              clear n0_
              refine start_ (n := 11) (S := fun w' => True) (ds := []) #[false,false,false,false,false,false,false,false,false,false,false] (by kernel_rfl) rfl rfl trivial (fun hHeld => ?_);refine with_tabW bodkinlaw01_UnitBegins.tab9 bodkinlaw01_UnitBegins.bits9 (fun HT_ HW_ => ?_)
              generalize wr.drew = w33 at HB hHeld ⊢
              refine pure_ (i := 0) (N := some 34) (v := ?_) (a' := ?_) #[true,false,false,false,false,false,false,false,false,false,false] rfl rfl (any_of HT_.out (by kernel_rfl)) (fun _ _ _ h => h) (Or.inl ⟨by rfl,?_⟩) ?_ ?_
              rotate_left
              ·intro w'
               go_simp
               with_reducible rfl
              rotate_left
              ·simp only [Act.put,List.setIfInBounds_toArray,List.set_cons_zero,List.set_cons_succ,i64_w,i32_w]
               rfl
              refine pure_ (i := 1) (N := some 35) (v := ?_) (a' := ?_) #[true,true,false,false,false,false,false,false,false,false,false] rfl rfl (any_of HT_.out (by kernel_rfl)) (fun _ _ _ h => h) (Or.inl ⟨by rfl,?_⟩) ?_ ?_
              rotate_left
              ·intro w'
               go_simp
               with_reducible rfl
              rotate_left
              ·simp only [Act.put,List.setIfInBounds_toArray,List.set_cons_zero,List.set_cons_succ,i64_w,i32_w]
               rfl
              refine pure_ (i := 2) (N := some 36) (v := ?_) (a' := ?_) #[true,true,true,false,false,false,false,false,false,false,false] rfl rfl (any_of HT_.out (by kernel_rfl)) (fun _ _ _ h => h) (Or.inl ⟨by rfl,?_⟩) ?_ ?_
              rotate_left
              ·intro w'
               go_simp
               with_reducible rfl
              rotate_left
              ·simp only [Act.put,List.setIfInBounds_toArray,List.set_cons_zero,List.set_cons_succ,i64_w,i32_w]
               rfl
              refine pure_ (i := 3) (N := some 37) (v := ?_) (a' := ?_) #[true,true,true,true,false,false,false,false,false,false,false] rfl rfl (any_of HT_.out (by kernel_rfl)) (fun _ _ _ h => h) (Or.inl ⟨by rfl,?_⟩) ?_ ?_
              rotate_left
              ·intro w'
               go_simp
               with_reducible rfl
              rotate_left
              ·simp only [Act.put,List.setIfInBounds_toArray,List.set_cons_zero,List.set_cons_succ,i64_w,i32_w]
               rfl
              refine pure_ (i := 5) (N := some 39) (v := ?_) (a' := ?_) #[true,true,true,true,false,true,false,false,false,false,false] rfl rfl (any_of HT_.out (by kernel_rfl)) (fun _ _ _ h => h) (Or.inl ⟨by rfl,?_⟩) ?_ ?_
              rotate_left
              ·intro w'
               go_simp
               with_reducible rfl
              rotate_left
              ·simp only [Act.put,List.setIfInBounds_toArray,List.set_cons_zero,List.set_cons_succ,i64_w,i32_w]
               rfl
              refine pure_ (i := 6) (N := some 40) (v := ?_) (a' := ?_) #[true,true,true,true,false,true,true,false,false,false,false] rfl rfl (any_of HT_.out (by kernel_rfl)) (fun _ _ _ h => h) (Or.inl ⟨by rfl,?_⟩) ?_ ?_
              rotate_left
              ·intro w'
               go_simp
               with_reducible rfl
              rotate_left
              ·simp only [Act.put,List.setIfInBounds_toArray,List.set_cons_zero,List.set_cons_succ,i64_w,i32_w]
               rfl
              refine pure_ (i := 7) (N := some 41) (v := ?_) (a' := ?_) #[true,true,true,true,false,true,true,true,false,false,false] rfl rfl (any_of HT_.out (by kernel_rfl)) (fun _ _ _ h => h) (Or.inl ⟨by rfl,?_⟩) ?_ ?_
              rotate_left
              ·intro w'
               go_simp
               with_reducible rfl
              rotate_left
              ·simp only [Act.put,List.setIfInBounds_toArray,List.set_cons_zero,List.set_cons_succ,i64_w,i32_w]
               rfl
              refine pure_ (i := 8) (N := some 42) (v := ?_) (a' := ?_) #[true,true,true,true,false,true,true,true,true,false,false] rfl rfl (any_of HT_.out (by kernel_rfl)) (fun _ _ _ h => h) (Or.inl ⟨by rfl,?_⟩) ?_ ?_
              rotate_left
              ·intro w'
               go_simp
               with_reducible rfl
              rotate_left
              ·simp only [Act.put,List.setIfInBounds_toArray,List.set_cons_zero,List.set_cons_succ,i64_w,i32_w]
               rfl
              refine one_ (i := 4) (N := some 38) #[true,true,true,true,true,true,true,true,true,false,false] rfl rfl (one_of HT_.out (by kernel_rfl)) (by decide) (fun K hK => ?_)
              refine goes_ Tryd.func34 (by kernel_rfl) rfl #[.string (a0.extract (x21_2 : Int).toNat (x4_3 : Int).toNat)] (by rfl) rfl rfl au1 ?_
              with_reducible refine (unit_Begun.calls (a0.extract (x21_2 : Int).toNat (x4_3 : Int).toNat) t274 _ ?side1 A24.out).mono ?_
              (case side1 => exact tabs_below HT.out au0)
              rintro e w34 ⟨rfl,hb⟩
              refine ⟨_,rfl,?_⟩
              have n0_ := Aside0.mk (below_step au0 hb)
              clear HB
              have HB := n0_
              clear n0_
              (try clear hb)
              (try clear hb2)
              (try clear hk)
              (try clear hi)
              refine hK.out _ _ trivial (fun hHeld => ?_)
              clear hK K
              refine norm_ (a' := ?_) ?_ ?_
              rotate_left
              ·show Act.put _ (some 38) _ = _
               simp only [Act.put,List.setIfInBounds_toArray,List.set_cons_zero,List.set_cons_succ,i64_w,i32_w]
               rfl
              refine one_ (i := 9) (N := some 43) #[true,true,true,true,true,true,true,true,true,true,false] rfl rfl (one_of HT_.out (by kernel_rfl)) (by decide) (fun K hK => ?_)
              refine goes_ Tryd.func35 (by kernel_rfl) rfl #[.string (a0.extract (x21_2 : Int).toNat (x4_3 : Int).toNat)] (by rfl) rfl rfl au1 ?_
              with_reducible refine (bodkinref01_Begun.calls (a0.extract (x21_2 : Int).toNat (x4_3 : Int).toNat) t275 _ A28.out).mono ?_
              rintro e w35 ⟨rfl,hb⟩
              refine ⟨_,rfl,?_⟩
              have n0_ := Aside0.mk (below_step au0 hb)
              clear HB
              have HB := n0_
              clear n0_
              (try clear hb)
              (try clear hb2)
              (try clear hk)
              (try clear hi)
              refine hK.out _ _ trivial (fun hHeld => ?_)
              clear hK K
              refine norm_ (a' := ?_) ?_ ?_
              rotate_left
              ·show Act.put _ (some 43) _ = _
               simp only [Act.put,List.setIfInBounds_toArray,List.set_cons_zero,List.set_cons_succ,i64_w,i32_w]
               rfl
              refine pure_ (i := 10) (N := some 44) (v := ?_) (a' := ?_) #[true,true,true,true,true,true,true,true,true,true,true] rfl rfl (any_of HT_.out (by kernel_rfl)) (fun _ _ _ h => h) (Or.inl ⟨by rfl,?_⟩) ?_ ?_
              rotate_left
              ·intro w'
               go_simp
               with_reducible rfl
              rotate_left
              ·simp only [Act.put,List.setIfInBounds_toArray,List.set_cons_zero,List.set_cons_succ,i64_w,i32_w]
               rfl
              refine done_ (done_of HT_.out (by kernel_rfl)) ?_
              try go_wp2
              go_roundg k3
              case measure => have := HJ1.out;have := HK2.out;have := HK3.out;omega
              case rel => exact ⟨(wrap64 (x4_3 + 1)),au5,H',⟨by have := HJ1.out;have := HK2.out;have := HK3.out;omega⟩,⟨au0⟩⟩
            ·rw [if_neg c23] at H
             exact absurd H (by simp)
           ·rw [if_neg c22] at H
            exact absurd H (by simp)
          ·rw [if_neg c21] at H
           exact absurd H (by simp)
         ·rw [if_neg c20] at H
          have c20b0 : decide (x4_3 ≤ (ji19)) = false := decide_eq_false c20
          clear c20
          have H' := Aside0.mk H
          clear H
          go_wp2
          go_roundg k3
          case measure => have := HJ1.out;have := HK2.out;have := HK3.out;omega
          case rel => exact ⟨(wrap64 (x21_2 + 1)),au5,H',⟨by have := HJ1.out;have := HK2.out;have := HK3.out;omega⟩,⟨au0⟩⟩
      ·rw [if_neg c18] at H
       have c18b0 : decide (x21_2 < ji17) = false := decide_eq_false c18
       clear c18
       obtain rfl := Option.some.inj H
       go_wp2
       go_ret
       exact ⟨by first | rfl | (simp [errW_none,errW_some] <;> rfl) | (simp only [← hji17];first | rfl | (simp [errW_none,errW_some] <;> rfl)) | (simp [*,errW_none,errW_some] <;> rfl),au0⟩
end Go.Proofs.YtfhnfhgpaoddbaaDoor.U
end
section
namespace Go.Proofs.YtfhnfhgpaoddbaaDoor.Pu
open Go Go.RowKit Go.Lib Go.Proofs.YtfhnfhgpaoddbaaDoor.Mu Go.Proofs.YtfhnfhgpaoddbaaDoor.U
set_option linter.unusedVariables false
theorem first_vals (b0 : Nat) (hb : b0 < 256) : (firstT b0 = 240 ∧ b0 < 128) ∨ (firstT b0 = 241 ∧ 128 ≤ b0 ∧ (b0 < 194 ∨ 245 ≤ b0)) ∨ (firstT b0 = 2 ∧ 194 ≤ b0 ∧ b0 < 224) ∨ (firstT b0 = 19 ∧ b0 = 224) ∨
  (firstT b0 = 3 ∧ 224 < b0 ∧ b0 < 240 ∧ b0 ≠ 237) ∨ (firstT b0 = 35 ∧ b0 = 237) ∨ (firstT b0 = 52 ∧ b0 = 240) ∨ (firstT b0 = 4 ∧ 240 < b0 ∧ b0 < 244) ∨ (firstT b0 = 68 ∧ b0 = 244) := by
 unfold firstT
 repeat' split
 all_goals omega
/-- What a whole beginning is,in numbers. -/
def FullC (n b0 b1 b2 : Nat) : Prop := 1 ≤ n ∧ (b0 < 194 ∨ 245 ≤ b0 ∨ (b0 < 224 ∧ 2 ≤ n) ∨ (b0 < 240 ∧ 3 ≤ n) ∨ 4 ≤ n ∨
 (1 < n ∧ ((b0 = 224 ∧ (b1 < 160 ∨ 191 < b1)) ∨ (b0 = 237 ∧ (b1 < 128 ∨ 159 < b1)) ∨ (224 < b0 ∧ b0 < 240 ∧ (b1 < 128 ∨ 191 < b1)) ∨ (b0 = 240 ∧ (b1 < 144 ∨ 191 < b1)) ∨ (b0 = 244 ∧ (b1 < 128 ∨ 143 < b1)) ∨ (240 < b0 ∧ b0 < 244 ∧ (b1 < 128 ∨ 191 < b1)))) ∨
 (2 < n ∧ 240 ≤ b0 ∧ (b2 < 128 ∨ 191 < b2)))
theorem full_iff (n b0 b1 b2 : Nat) (hb : b0 < 256) : fullN n b0 b1 b2 = true ↔ FullC n b0 b1 b2 := by
 have h := first_vals b0 hb
 unfold fullN FullC
 rcases h with ⟨h,h2⟩ | ⟨h,h2⟩ | ⟨h,h2⟩ | ⟨h,h2⟩ | ⟨h,h2⟩ | ⟨h,h2⟩ | ⟨h,h2⟩ | ⟨h,h2⟩ | ⟨h,h2⟩ <;>
  (rw [h];simp only [accLo,accHi,Nat.reduceDiv,Nat.reduceMod,Nat.reduceEqDiff,if_true,if_false]) <;> (repeat' split) <;> simp <;> omega
end Go.Proofs.YtfhnfhgpaoddbaaDoor.Pu
end
