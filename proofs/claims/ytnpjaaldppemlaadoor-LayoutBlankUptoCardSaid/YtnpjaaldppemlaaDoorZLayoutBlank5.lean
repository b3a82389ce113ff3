/- What the law LayoutBlank reaches of this seat's own texts, merged; what nothing uses is left out. -/
import Derived.Test.YtnpjaaldppemlaaDoorZLayoutBlank0
import Derived.Test.YtnpjaaldppemlaaDoorZLayoutBlank1
import Derived.Test.YtnpjaaldppemlaaDoorZLayoutBlank2
import Derived.Test.YtnpjaaldppemlaaDoorZLayoutBlank3
import Derived.Test.YtnpjaaldppemlaaDoorZLayoutBlank4
section
namespace Go.Proofs.YtnpjaaldppemlaaDoor.U
open Go.RowKit Go.Shelf Go.Proofs.YtnpjaaldppemlaaDoor.Mu Go.Proofs.YtnpjaaldppemlaaDoor.Pu Go.Proofs.YtnpjaaldppemlaaDoor.Rg Go.Proofs.YtnpjaaldppemlaaDoorW.PrintWords Go.Proofs.YtnpjaaldppemlaaDoorW.PrintLast Go.Proofs.YtnpjaaldppemlaaDoorW.PrintMore
attribute [local go_sem] Oper.semAt_some max2_int min2_int max_two min_two
set_option linter.unusedVariables false
set_option linter.unusedSimpArgs false
/-- All rows are within the width. -/
def Ly.In (wd : Int) (s : Ly) : Prop := s.Fit wd ∧ ∀ L ∈ s.1,(L.length : Int) ≤ wd
theorem Ly.In.down {wd : Int} {s : Ly} (h : s.In wd) : s.down.In wd := ⟨h.1.down,fun L hL => by
 rcases List.mem_append.1 hL with hL | hL
 ·exact h.2 L hL
 ·obtain rfl := List.mem_singleton.1 hL
  have := h.1.2.2
  omega⟩
theorem Ly.In.cell {wd : Int} {s : Ly} (h : s.In wd) (x : Cl) : (s.cell wd x).In wd := by
 refine ⟨h.1.cell x,fun L hL => ?_⟩
 unfold Ly.cell at hL
 split at hL
 ·rename_i he
  rcases List.mem_append.1 hL with hL | hL
  ·exact h.2 L hL
  ·obtain rfl := List.mem_singleton.1 hL
   rw [List.length_append,List.length_singleton]
   omega
 ·exact h.2 L hL
theorem Ly.In.lay {wd : Int} {s : Ly} (h : s.In wd) (cls cells : Int) (d : ByteArray) (n : Nat) : (s.lay wd cls cells d n).In wd := by
 have hm : (if (s.2.length : Int) = wd - 1 then s.down else s).In wd := by
  split
  ·exact h.down
  ·exact h
 unfold Ly.lay
 split
 ·exact h.down
 split
 ·exact h.cell _
 split
 ·exact h.cell _
 split
 ·exact (hm.cell _).cell _
 ·exact (hm.cell _).cell _
theorem layL_in (wd : Int) (t : ByteArray) (cs : List S60) : ∀ (st : Ly),st.In wd → (layL wd t st cs).In wd := by
 induction cs with
 | nil => intro st h;exact h
 | cons c cs ih => intro st h;exact ih _ (h.lay _ _ _ _)
theorem ly_new {m : Int} (h1 : 1 ≤ m) (h2 : m ≤ 65535) : Ly.In m ([],[]) := ⟨⟨h1,h2,by simpa using (by omega : (0 : Int) < m)⟩,fun L hL => by cases hL⟩
theorem held_in {width m : Int} (hm : layout_held.f width = some m) : 1 ≤ m ∧ m ≤ 65535 := by
 unfold layout_held.f at hm
 have hm2 := Option.some.inj hm
 rw [← hm2]
 unfold mn mx
 split <;> split <;> omega
theorem Ly.In.rows {wd : Int} {s : Ly} (h : s.In wd) (i : Nat) : (((s.1 ++ [s.2]).getD i []).length : Int) ≤ wd := by
 by_cases hi : i < (s.1 ++ [s.2]).length
 ·rw [List.getD_eq_getElem?_getD,List.getElem?_eq_getElem hi,Option.getD_some]
  rcases List.mem_append.1 (List.getElem_mem hi) with hL | hL
  ·exact h.2 _ hL
  ·have := List.mem_singleton.1 hL
   rw [this]
   have := h.1.2.2
   omega
 ·rw [List.getD_eq_getElem?_getD,List.getElem?_eq_none (by omega)]
  have := h.1.1
  simp
  omega
/-- The pen's place. -/
def Ly.place (s : Ly) : Int × Int := (s.1.length,s.2.length)
/-- A cluster is laid;the pen's place behind it is the cursor's,if it ends at the cursor or ahead of it. -/
def atF (wd : Int) (t : ByteArray) (cur : Int) (s : Ly × (Int × Int)) (c : S60) : Ly × (Int × Int) := (layC wd t s.1 c,if c.f1 ≤ cur then (layC wd t s.1 c).place else s.2)
def atL (wd : Int) (t : ByteArray) (cur : Int) (s : Ly × (Int × Int)) (cs : List S60) : Ly × (Int × Int) := cs.foldl (atF wd t cur) s
theorem atL_snoc (wd : Int) (t : ByteArray) (cur : Int) (s : Ly × (Int × Int)) (cs : List S60) (c : S60) : atL wd t cur s (cs ++ [c]) = atF wd t cur (atL wd t cur s cs) c := by unfold atL;rw [List.foldl_append];rfl
theorem atL_fst (wd : Int) (t : ByteArray) (cur : Int) (cs : List S60) : ∀ (s : Ly × (Int × Int)),(atL wd t cur s cs).1 = layL wd t s.1 cs := by
 induction cs with
 | nil => intro s;rfl
 | cons c cs ih => intro s;exact ih _
theorem obj_grow {X Y : World} {row : Option Nat} {b : Nat} {cs : Array Value} {t : TypeId} (h : X.heap[b]? = some (.cells cs t (0,0))) (hg : X.grownBy Y row) (hr : ∀ r,row = some r → ∃ o : Obj,X.heap[r]? = some o ∧ o.isCells = false) : Y.heap[b]? = some (.cells cs t (0,0)) :=
 (hg.block b (blk_lt h) (fun e => by
  obtain ⟨o,ho,hc⟩ := hr b e.symm
  rw [h] at ho
  cases ho
  cases hc)).trans h
theorem LyAt.boundT {T base p : Nat} {ok : Nat → Prop} {W : World} {wd : Int} {s : Ly} (h : LyAt T base p ok W wd s) : LyAt T base p (fun k => ok k ∧ ∀ cs t,(t = 60 ∨ t = 27) → W.heap[k]? ≠ some (.cells cs t (0,0))) W wd s := by
 obtain ⟨⟨rv,h1,h2⟩,h3,h4⟩ := h
 refine ⟨⟨rv,h1,Kd.S_mono (Kd.S_bound h2) (fun k hk => ⟨hk.1,fun cs t' ht' hc => ?_⟩)⟩,h3,fun h => h4 h.1⟩
 obtain ⟨_,_,_,t,ht,cs',hc'⟩ := hk
 rw [hc] at hc'
 cases hc'
 rcases ht' with rfl | rfl
 ·exact absurd ht (by decide)
 ·exact absurd ht (by decide)
/-- The grid's blocks ahead of a laying,none of which holds a cluster or a place. -/
def layOkT (B p : Nat) (nb : Nat → Prop) (W : World) (k : Nat) : Prop := layOk B p nb W k ∧ ∀ cs t,(t = 60 ∨ t = 27) → W.heap[k]? ≠ some (.cells cs t (0,0))
theorem layOkT_new {B p : Nat} {nb : Nat → Prop} {W : World} (hn : ∀ k,nb k → k < W.heap.size) (hp : p < W.heap.size) : ∀ k,W.heap.size ≤ k → layOkT B p nb W k := fun k hk => ⟨layOk_new hn hp k hk,fun cs t _ hc => by have := blk_lt hc;omega⟩
theorem kept_more {W w1 : World} {S S' : Nat → Prop} (hk : Kept W w1 S) (h : ∀ k,S k → S' k) : Kept W w1 S' := ⟨hk.1,fun k hlt hn => hk.2 k hlt (fun hs => hn (h k hs))⟩
theorem keep_setA {X : World} {n₀ B C b j : Nat} {Pr : Nat → Prop} (hn : n₀ ≤ X.heap.size) (hb0 : n₀ ≤ b) (hB : b < B) (hPr : ∀ k,Pr k → k ≠ b) (v : Value) :
  KeepsFrom C X (X.setCell ⟨b,j,none⟩ v) ∧ KeepB n₀ Pr B X (X.setCell ⟨b,j,none⟩ v) := by
 refine ⟨(KeepsOthers.setCell X _ v).from C,?_,?_⟩
 ·exact (Below.refl n₀ X).setCell (p := ⟨b,j,none⟩) hb0 v
 ·intro k o hk ho _
  have h5 : k ≠ b := by
   rcases hk with hk | hk
   ·exact hPr k hk
   ·omega
  exact (Below.heap_setCell X ⟨b,j,none⟩ v k h5).trans ho
/-- The boxes of Lay's variables. -/
def nbL (w0 bg : Nat) (k : Nat) : Prop := (w0 ≤ k ∧ k ≤ w0 + 2) ∨ (bg ≤ k ∧ k ≤ bg + 2)
/-- What Lay's variables hold behind the clusters pre. -/
structure LaInv (w : World) (t : ByteArray) (cur m : Int) (p bg : Nat) (st : Ly × (Int × Int)) (B : Nat) (W : World) : Prop where
 gr : GrIn 65 w.heap.size p (nbL w.heap.size bg) B W m st.1
 txt : Boxed W w.heap.size 9 (.string t)
 cur : Boxed W (w.heap.size + 1) 3 (.int .i64 cur)
 res : W.heap[w.heap.size + 2]? = some (.cells #[.int .i64 0,.slice none 0 0,.int .i64 0,.int .i64 0] 29 (0,0))
 ptr : Boxed W bg 62 (.pointer (some ⟨p,0,none⟩))
 at_ : W.heap[bg + 1]? = some (.cells #[.int .i64 st.2.1,.int .i64 st.2.2] 27 (0,0))
 cls : Boxed W (bg + 2) 9 (.string t)
 bel : Below w.heap.size w W
 low : bg + 2 < B
theorem LaInv.grow {w : World} {t : ByteArray} {cur m : Int} {p bg : Nat} {st : Ly × (Int × Int)} {B : Nat} {X Y : World} {row : Option Nat} (h : LaInv w t cur m p bg st B X) (hg : X.grownBy Y row) (hr : ∀ r,row = some r → w.heap.size ≤ r ∧ ∃ o : Obj,X.heap[r]? = some o ∧ o.isCells = false) : LaInv w t cur m p bg st B Y := by
 have hr' : ∀ r,row = some r → ∃ o : Obj,X.heap[r]? = some o ∧ o.isCells = false := fun r e => (hr r e).2
 exact ⟨h.gr.grow hg hr',boxed_grow h.txt hg hr',boxed_grow h.cur hg hr',obj_grow h.res hg hr',boxed_grow h.ptr hg hr',obj_grow h.at_ hg hr',boxed_grow h.cls hg hr',h.bel.grown hg h.bel.size (fun k e => (hr k e).1),h.low⟩
theorem LaInv.below {w : World} {t : ByteArray} {cur m : Int} {p bg : Nat} {st : Ly × (Int × Int)} {B : Nat} {X Y : World} (h : LaInv w t cur m p bg st B X) (hb : Below X.heap.size X Y) : LaInv w t cur m p bg st B Y :=
 ⟨h.gr.below hb,boxed_below h.txt hb,boxed_below h.cur hb,(hb.block _ (blk_lt h.res)).trans h.res,boxed_below h.ptr hb,(hb.block _ (blk_lt h.at_)).trans h.at_,boxed_below h.cls hb,h.bel.trans (hb.mono h.bel.size),h.low⟩
set_option maxRecDepth 100000 in
set_option maxHeartbeats 4000000 in
theorem lay_any (pt t : ByteArray) (cursor width m : Int) (w : World) (hps : pt.size ≤ 68719476736) (hs : t.size ≤ 68719476736) (hm : layout_held.f width = some m) (hT : Lib.Utf8Tabs 0 1 w) (st0 : Ly) (hst0 : layL m pt ([],[]) (clusL pt) = st0) (q : Ly × (Int × Int)) (hq : atL m t (if cursor < 0 then 0 else cursor) (st0,st0.place) (clusL t) = q) (RW : List (List Cl)) (hRW : Hid ((q.1.1 ++ [q.1.2]).map trimR = RW)) :
  Calls Tryd.prog 14 #[.string pt,.string t,.int .i64 cursor,.int .i64 width] w fun e w' => ∃ rv,e = .returned (.agg #[.int .i64 m,rv,.int .i64 q.2.1,.int .i64 q.2.2]) ∧ Kd.S kRow 33 w' w.heap.size (fun _ => True) rv RW ∧ Below w.heap.size w w' := by
 have hlen : (clusL t).length ≤ t.size := clusL_length t
 have hIn0 : st0.In m := by rw [← hst0];exact layL_in _ _ _ _ (ly_new (held_in hm).1 (held_in hm).2)
 have hLn0 : st0.1.length ≤ 3 * pt.size := by
  rw [← hst0]
  have h1 := layL_len m pt (clusL pt) ([],[])
  have h2 := clusL_length pt
  simp at h1
  omega
 obtain ⟨cur,hcur⟩ : ∃ cur,(if cursor < 0 then 0 else cursor) = cur := ⟨_,rfl⟩
 rw [hcur] at hq
 refine (callsIn_wide (n := 6)).1 ?_
 refine callsIn_of_wp_marks Tryd.func14 rfl trivial ?_ rfl
 simp only [Tryd.ntmps14,List.size_toArray,List.length_cons,List.length_nil,Nat.reduceAdd,Nat.reduceSub,Array.replicate_succ,Array.replicate_zero,List.push_toArray,List.append_toArray,List.nil_append,List.cons_append]
 gi_upto_region 2 with (fail)
 try rw [hcur]
 clear hcur
 obtain ⟨V,hV⟩ : ∃ V,(((w.alloc (.cells #[.string t] 9)).alloc (.cells #[.int .i64 cur] 3)).alloc (.cells #[.int .i64 0,.slice none 0 0,.int .i64 0,.int .i64 0] 29)) = V := ⟨_,rfl⟩
 rw [hV]
 simp only [Nat.add_assoc,Nat.reduceAdd]
 have hVs : V.heap.size = w.heap.size + 3 := by rw [← hV];simp
 have hVb : Below w.heap.size w V := by rw [← hV];exact below_alloc (below_alloc (below_alloc (Below.refl _ _) _) _) _
 have hV0 : Boxed V w.heap.size 9 (.string t) := by rw [← hV];exact ((Boxed.new w _ _).alloc _).alloc _
 have hV1 : Boxed V (w.heap.size + 1) 3 (.int .i64 cur) := by
  rw [← hV]
  have := Boxed.new (w.alloc (.cells #[.string t] 9)) 3 (.int .i64 cur)
  rw [World.size_alloc] at this
  exact this.alloc _
 have hV2 : V.heap[w.heap.size + 2]? = some (.cells #[.int .i64 0,.slice none 0 0,.int .i64 0,.int .i64 0] 29 (0,0)) := by
  rw [← hV]
  have := World.alloc_heap_new ((w.alloc (.cells #[.string t] 9)).alloc (.cells #[.int .i64 cur] 3)) (.cells #[.int .i64 0,.slice none 0 0,.int .i64 0,.int .i64 0] 29)
  rw [World.size_alloc,World.size_alloc] at this
  exact this
 clear hV
 gi_upto_region 3 with (refine ⟨trivial,?_⟩;gi_at_call 34;refine (callsIn_wide.2 (prompted_any pt width m _ hps hm (tabs_below hT hVb))).mono ?_;rintro e w1 ⟨p,rfl,hp,hG,hb1⟩)
 rw [hst0] at hG
 have hplt := hG.lt
 have hW1 := boxed_below hV0 hb1
 have hW2 := boxed_below hV1 hb1
 have hW3 := (hb1.block _ (blk_lt hV2)).trans hV2
 have hb0 := hVb.trans (hb1.mono (by omega))
 have hsz1 := hb1.size
 rw [hVs] at hp hG
 have hGr : GrIn 65 w.heap.size p (nbL w.heap.size w1.heap.size) w1.heap.size w1 m st0 :=
  ⟨(hG.lower (base' := w.heap.size) (by omega)).mono (fun k hk => ⟨hk.2.2,fun h => by have h1 := hk.2.1;have h2 := hk.2.2;unfold nbL at h;omega,hk.1⟩) (fun hk => hk.2.2 rfl),hplt⟩
 clear hG hV0 hV1 hV2 hVb
 have c9 := hGr.1.row
 have c10 := hGr.1.col
 have c11 := hW1.cell
 have l11 := hW1.lt
 gi_wp2_with (refine ⟨trivial,?_⟩;gi_at_call 35;refine (callsIn_wide.2 (cwalk_calls t _)).mono ?_;rintro e w' ⟨rfl,rfl⟩)
 obtain ⟨W0,hW0⟩ : ∃ W0,((w1.alloc (.cells #[.pointer (some ⟨p,0,none⟩)] 62)).alloc (.cells #[.int .i64 (st0.1.length : Int),.int .i64 (st0.2.length : Int)] 27)).alloc (.cells #[.string t] 9) = W0 := ⟨_,rfl⟩
 try rw [hW0]
 try simp only [Nat.add_assoc,Nat.reduceAdd]
 have hsz : W0.heap.size = w1.heap.size + 3 := by rw [← hW0];simp
 have hI0 : LaInv w t cur m p w1.heap.size (st0,st0.place) (w1.heap.size + 3) W0 := by
  rw [← hW0]
  have hb2 : Below w1.heap.size w1 (((w1.alloc (.cells #[.pointer (some ⟨p,0,none⟩)] 62)).alloc (.cells #[.int .i64 (st0.1.length : Int),.int .i64 (st0.2.length : Int)] 27)).alloc (.cells #[.string t] 9)) := below_alloc (below_alloc (below_alloc (Below.refl _ _) _) _) _
  refine ⟨(hGr.below hb2).mono (by omega),boxed_below hW1 hb2,boxed_below hW2 hb2,(hb2.block _ (blk_lt hW3)).trans hW3,((Boxed.new w1 _ _).alloc _).alloc _,?_,?_,hb0.trans (hb2.mono hb0.size),by omega⟩
  ·have := World.alloc_heap_new (w1.alloc (.cells #[.pointer (some ⟨p,0,none⟩)] 62)) (.cells #[.int .i64 (st0.1.length : Int),.int .i64 (st0.2.length : Int)] 27)
   rw [World.size_alloc] at this
   exact blk_alloc this _
  ·have := Boxed.new ((w1.alloc (.cells #[.pointer (some ⟨p,0,none⟩)] 62)).alloc (.cells #[.int .i64 (st0.1.length : Int),.int .i64 (st0.2.length : Int)] 27)) 9 (.string t)
   rw [World.size_alloc,World.size_alloc] at this
   exact this
 clear hW0 hGr hb0 hb1 hW1 hW2 hW3 c9 c10 c11 l11
 generalize w1.heap.size = bg at hplt hsz1 hsz hI0 ⊢
 clear w1
 have hF0 : Ly.Fit m st0 := hIn0.1
 refine range_outer (α := S60) rfl (by omega) (gf := 52) (lb := #[.pointer (some ⟨bg + 2,0,none⟩)]) rfl trivial (enters_of Tryd.func52 (by kernel_rfl) rfl)
  (cwalk1_seq 5 (by omega) w W0 t (bg + 2) (by omega) hT hI0.bel hI0.cls) (Below.refl _ _) (fun _ => rfl) (by omega)
  (fun (B : Nat) (pre : List S60) (W : World) => LaInv w t cur m p bg (atL m t cur (st0,st0.place) pre) B W)
  (fun _ _ _ => False)
  (fun B pre X Y row h hg hr => h.grow hg (fun r e => ⟨by have := (hr r e).1;omega,(hr r e).2⟩))
  (fun B B' pre W hBB h => ⟨h.gr.mono hBB,h.txt,h.cur,h.res,h.ptr,h.at_,h.cls,h.bel,Nat.lt_of_lt_of_le h.low hBB⟩)
  (fun _ _ _ _ _ hs _ _ => hs)
  (by rw [hsz];exact hI0)
  (fun (x : S60) (a' : Act) (W : World) => ∃ Bx,Hid (W.heap[Bx]? = some (.cells #[.int .i64 x.f0,.int .i64 x.f1,.int .i64 x.f2,.int .i64 x.f3] 60 (0,0))) ∧ a' = { tmps := #[.string pt,.string t,.int .i64 cursor,.int .i64 width,undef,.pointer (some ⟨w.heap.size,0,none⟩),.pointer (some ⟨w.heap.size + 1,0,none⟩),undef,.pointer (some ⟨w.heap.size + 2,0,none⟩),.pointer (some ⟨bg,0,none⟩),.pointer (some ⟨bg + 1,0,none⟩),.pointer (some ⟨Bx,0,none⟩),.int .i64 cursor,.int .i64 cur,.string pt,.int .i64 width,.pointer (some ⟨p,0,none⟩),.pointer (some ⟨p,0,none⟩),.pointer (some ⟨p,0,none⟩),.pointer (some ⟨p,2,none⟩),.agg #[.int .i64 (st0.1.length : Int),.int .i64 (st0.2.length : Int)],.string t,.func (.func 52) #[] #[.pointer (some ⟨bg + 2,0,none⟩)],.agg #[.int .i64 x.f0,.int .i64 x.f1,.int .i64 x.f2,.int .i64 x.f3],undef,undef,undef,undef,undef,undef,undef,undef,undef,undef,undef,undef,undef,undef,undef],defers := [] })
  (fun x a' _ X Y row hs hg hr => by
   obtain ⟨Bx,h1,h2⟩ := hs
   refine ⟨Bx,?_,h2⟩
   refine (hg.block Bx (Array.getElem?_eq_some_iff.1 h1).1 (fun e => ?_)).trans h1
   obtain ⟨_,o,ho,hc⟩ := hr Bx e.symm
   rw [show X.heap[Bx]? = _ from h1] at ho;cases ho;cases hc)
  ?assign ?body ?done ?stop
 case assign =>
  rintro l B pre x W K hCW hBW hI hK
  have hsz1 := hI.bel.size
  gi_wp2
  exact hK _ _ ((KeepsOthers.alloc _ _).from _) (KeepB.of_below hsz1 ((Below.refl _ W).alloc (Nat.le_refl _) _)) (hI.below ((Below.refl _ W).alloc (Nat.le_refl _) _)) ⟨W.heap.size,Lib.hid (World.alloc_heap_new W _),rfl⟩
 case body =>
  rintro l B pre x a' W hl hCW hr hBW hI ⟨Bx,hBx,rfl⟩ hlt hpx
  obtain ⟨i,hci,hiS,hxe⟩ : ∃ i : Nat,CB t i ∧ i < t.size ∧ x = clAt t i := clus_mem t t.size 0 (cb_zero t) x (hpx.subset (by simp))
  have hx0 : 0 ≤ x.f0 := by rw [hxe];exact Int.natCast_nonneg _
  have hx1 : x.f0 ≤ x.f1 := by rw [hxe];have := nxt_up t _ i (Nat.le_refl _) hiS;show (i : Int) ≤ (nxt t i : Int);omega
  have hx2 : x.f1 ≤ t.size := by rw [hxe];have := nxt_le t i hci.1 hiS;show (nxt t i : Int) ≤ (t.size : Int);omega
  have hst : Hid (atL m t cur (st0,st0.place) (pre ++ [x]) = atF m t cur (atL m t cur (st0,st0.place) pre) x) := Lib.hid (atL_snoc _ _ _ _ _ _)
  have hfst := atL_fst m t cur pre (st0,st0.place)
  have hFt := layL_fit m t pre _ hF0
  have hLn := layL_len m t pre st0
  have hlt2 : pre.length < t.size := Nat.lt_of_lt_of_le hlt hlen
  have hL2 : (layL m t st0 pre).1.length ≤ 549755813888 := by omega
  dsimp only at hfst
  rw [← hfst] at hFt hL2
  obtain ⟨⟨st,ca,cb⟩,hste⟩ : ∃ q_,atL m t cur (st0,st0.place) pre = q_ := ⟨_,rfl⟩
  rw [hste] at hI hst hFt hL2
  dsimp only at hFt hL2
  clear hfst hste hLn
  clear hxe hpx
  have hTw := tabs_below hT hI.bel
  have cp := hI.ptr.cell
  have ct := hI.txt.cell
  have cc := hI.cur.cell
  have hpW := hI.gr.1.lt
  have hnb : ∀ k,nbL w.heap.size bg k → k < W.heap.size := by
   intro k hk
   have h1 := blk_lt hI.res
   have h2 := hI.cls.lt
   unfold nbL at hk
   omega
  have hnp : ¬ nbL w.heap.size bg p := fun h => by unfold nbL at h;omega
  obtain ⟨x0,x1,x2,x3⟩ := x
  have b0 : W.cell? ⟨Bx,0,none⟩ = some (.int .i64 x0) := by simp [World.cell?,show W.heap[Bx]? = _ from hBx.out]
  have b1 : W.cell? ⟨Bx,1,none⟩ = some (.int .i64 x1) := by simp [World.cell?,show W.heap[Bx]? = _ from hBx.out]
  have b2 : W.cell? ⟨Bx,2,none⟩ = some (.int .i64 x2) := by simp [World.cell?,show W.heap[Bx]? = _ from hBx.out]
  have b3 : W.cell? ⟨Bx,3,none⟩ = some (.int .i64 x3) := by simp [World.cell?,show W.heap[Bx]? = _ from hBx.out]
  have hu60 := Tryd.underlying60
  have hnW : 2 ≤ w.heap.size := by
   have h1 := (hT.2 0 (by decide)).2
   have := World.block_lt_of_cell? w ⟨1,_,none⟩ h1
   exact this
  have hsub : (t.extract x0.toNat x1.toNat).size ≤ 1099511627776 := by simp [ByteArray.size_extract];omega
  dsimp only
  gi_upto_region 7 with (refine ⟨trivial,?_⟩;gi_at_call 36;refine (callsIn_wide.2 (gr_lay hI.gr.ahead.boundT (layOkT_new hnb hpW) hI.bel.size hnW hTw hFt hL2 t ⟨x0,x1,x2,x3⟩ hx0 hx1 hx2 (drawnS (t.extract x0.toNat x1.toNat)) (by unfold cluster_Drawn.f;exact if_pos hsub) _ rfl (decodeGo_le _))).mono ?_;rintro e w2 ⟨rfl,hG2,hB2,hK2⟩)
  have hG3 := hG2.mono (ok' := layOk B p (nbL w.heap.size bg) W) (fun k hk => hk.1) (fun h => h.2.2 rfl)
  have hK3 := kept_more hK2 (S' := fun k => layOk B p (nbL w.heap.size bg) W k ∨ k = p) (fun k hk => hk.imp And.left id)
  have hk := fun C => lay_keeps (C := C) (Pr := fun k => k = bg + 2) hK3 hB2 hI.gr.1.cells hI.gr.2 (fun k hk => ⟨.inr (by omega),by omega⟩)
  have hb3 : ∀ k,nbL w.heap.size bg k → w2.heap[k]? = W.heap[k]? := fun k hk => hK3.2 k (hnb k hk) (fun h => h.elim (fun h => h.2.1 hk) (fun h => hnp (h ▸ hk)))
  have hBx2 : w2.heap[Bx]? = W.heap[Bx]? := hK2.2 Bx (blk_lt hBx.out) (fun h => h.elim (fun h => h.2 _ _ (.inl rfl) hBx.out) (fun h => by
   obtain ⟨rv,hgp,_⟩ := hI.gr.1.1
   rw [← h,show W.heap[Bx]? = _ from hBx.out] at hgp
   cases hgp))
  have hgr := GrIn.behind hG3
  have hI2 : LaInv w t cur m p bg (st.lay m x2 x3 (drawnS (t.extract x0.toNat x1.toNat)) (Lib.decodeGo (drawnS (t.extract x0.toNat x1.toNat))).2,(ca,cb)) w2.heap.size w2 :=
   ⟨hgr,(hb3 _ (.inl ⟨by omega,by omega⟩)).trans hI.txt,(hb3 _ (.inl ⟨by omega,by omega⟩)).trans hI.cur,(hb3 _ (.inl ⟨by omega,by omega⟩)).trans hI.res,(hb3 _ (.inr ⟨by omega,by omega⟩)).trans hI.ptr,(hb3 _ (.inr ⟨by omega,by omega⟩)).trans hI.at_,(hb3 _ (.inr ⟨by omega,by omega⟩)).trans hI.cls,hI.bel.trans hB2,Nat.lt_of_lt_of_le (Nat.lt_of_lt_of_le hI.low hBW) hB2.size⟩
  have d1 : w2.cell? ⟨Bx,1,none⟩ = some (.int .i64 x1) := by simp [World.cell?,hBx2,show W.heap[Bx]? = _ from hBx.out]
  have d2 := hI2.cur.cell
  have d3 := hI2.ptr.cell
  have d4 := hI2.gr.1.row
  have d5 := hI2.gr.1.col
  have d6 : w2.cell? ⟨bg + 1,0,none⟩ = some (.int .i64 ca) := (blk_cell hI2.at_ 0).trans rfl
  have d7 : w2.cell? ⟨bg + 1,1,none⟩ = some (.int .i64 cb) := (blk_cell hI2.at_ 1).trans rfl
  have f6 := blk_frozen hI2.at_ 0
  have f7 := blk_frozen hI2.at_ 1
  obtain ⟨st',hst'⟩ : ∃ st',st.lay m x2 x3 (drawnS (t.extract x0.toNat x1.toNat)) (Lib.decodeGo (drawnS (t.extract x0.toNat x1.toNat))).2 = st' := ⟨_,rfl⟩
  rw [hst'] at hI2 d4 d5
  have hst2 : Hid (atL m t cur (st0,st0.place) (pre ++ [(⟨x0,x1,x2,x3⟩ : S60)]) = (st',if x1 ≤ cur then st'.place else (ca,cb))) := Lib.hid (by rw [hst.out,← hst'];rfl)
  clear hG2 hG3 hK2 hK3 hst hst' hb3 hgr hBx2
  by_cases hle : x1 ≤ cur
  ·have hst3 := Lib.hid (hst2.out.trans (by rw [if_pos hle]))
   have hle' := eq_true hle
   gi_wp2
   have hk4 := fun C => keep_setA (C := C) (B := B) (b := bg + 1) (j := 0) (Pr := fun k => k = bg + 2) hI2.bel.size (by omega) (by have := hI.low;omega) (fun k hk => by omega) (.int .i64 (st'.1.length : Int))
   have hk5 := fun C => keep_setA (X := w2.setCell ⟨bg + 1,0,none⟩ (.int .i64 (st'.1.length : Int))) (C := C) (B := B) (b := bg + 1) (j := 1) (Pr := fun k => k = bg + 2) (Nat.le_trans hI2.bel.size (hk4 0).1.size) (by omega) (by have := hI.low;omega) (fun k hk => by omega) (.int .i64 (st'.2.length : Int))
   refine ⟨((hk _).1.trans (hk4 _).1).trans (hk5 _).1,((hk 0).2.trans (hk4 0).2).trans (hk5 0).2,?_⟩
   show LaInv w t cur m p bg (atL m t cur (st0,st0.place) _) _ _
   rw [hst3.out]
   have ho : ∀ k,k ≠ bg + 1 → ((w2.setCell ⟨bg + 1,0,none⟩ (.int .i64 (st'.1.length : Int))).setCell ⟨bg + 1,1,none⟩ (.int .i64 (st'.2.length : Int))).heap[k]? = w2.heap[k]? := fun k hk => (Below.heap_setCell _ ⟨bg + 1,1,none⟩ _ k hk).trans (Below.heap_setCell w2 ⟨bg + 1,0,none⟩ _ k hk)
   have hse : ((w2.setCell ⟨bg + 1,0,none⟩ (.int .i64 (st'.1.length : Int))).setCell ⟨bg + 1,1,none⟩ (.int .i64 (st'.2.length : Int))).heap.size = w2.heap.size := by simp [World.setCell]
   rw [hse]
   have hbg1 : nbL w.heap.size bg (bg + 1) := .inr ⟨by omega,by omega⟩
   have hwb : w.heap.size ≤ bg + 1 := by omega
   exact ⟨(hI2.gr.other hbg1 (by omega) 0 _).other hbg1 (by omega) 1 _,(ho _ (by omega)).trans hI2.txt,(ho _ (by omega)).trans hI2.cur,(ho _ (by omega)).trans hI2.res,(ho _ (by omega)).trans hI2.ptr,blk_put (cs := #[.int .i64 (st'.1.length : Int),.int .i64 cb]) (blk_put (cs := #[.int .i64 ca,.int .i64 cb]) hI2.at_ 0 _ rfl) 1 _ rfl,(ho _ (by omega)).trans hI2.cls,(hI2.bel.setCell (p := ⟨bg + 1,0,none⟩) hwb _).setCell (p := ⟨bg + 1,1,none⟩) hwb _,hI2.low⟩
  ·have hst3 := Lib.hid (hst2.out.trans (by rw [if_neg hle]))
   have hle' := eq_false hle
   gi_wp2
   refine ⟨(hk _).1,(hk 0).2,?_⟩
   show LaInv w t cur m p bg (atL m t cur (st0,st0.place) _) _ _
   rw [hst3.out]
   exact hI2
 case done =>
  rintro D ys W hD hys hI hK
  have e : ys = clusL t := hys
  rw [e,hq] at hI
  have cp := hI.ptr.cell
  have ca0 : W.cell? ⟨bg + 1,0,none⟩ = some (.int .i64 q.2.1) := (blk_cell hI.at_ 0).trans rfl
  have ca1 : W.cell? ⟨bg + 1,1,none⟩ = some (.int .i64 q.2.2) := (blk_cell hI.at_ 1).trans rfl
  have hDl := blk_lt hK
  have hpl := hI.gr.1.lt
  have hbs := hI.bel.size
  have hnbl : ∀ k,nbL w.heap.size bg k → k < W0.heap.size := fun k hk => by unfold nbL at hk;omega
  have hnD : ¬ nbL w.heap.size bg D := fun h => by have := hnbl D h;omega
  have hG := hI.gr.1.boundC.mono (ok' := fun k => ¬ nbL w.heap.size bg k ∧ k ≠ p ∧ k ≠ D) (fun k hk => ⟨hk.1.2.1,hk.1.2.2,fun h => by
   obtain ⟨o,ho,hc⟩ := hk.2
   rw [h,hK] at ho
   cases ho
   cases hc⟩) (fun h => h.2.1 rfl)
  have hIn : q.1.In m := by rw [← hq,atL_fst];exact layL_in m t _ _ hIn0
  have hLq : q.1.1.length ≤ 549755813888 := by
   rw [← hq,atL_fst]
   have := layL_len m t (clusL t) st0
   show (layL m t st0 (clusL t)).1.length ≤ _
   omega
  obtain ⟨⟨qs,qr⟩,qa,qb⟩ := q
  dsimp only at hG hLq ca0 ca1 ⊢
  dsimp only at hRW
  have hne := hI.gr.1.ne
  gi_wp2_with (refine ⟨trivial,?_⟩;gi_at_call 37;refine (callsIn_wide.2 (gr_frame hG (fun k hk => ⟨fun h => by have := hnbl k h;omega,by omega,by omega⟩) hbs (by simp) (by simp;omega) (fun i => by have h1 := hIn.rows i;have h2 := hIn.1.2.1;omega) qa qb)).mono ?_;rintro e w5 ⟨rv,rfl,hS5,hB5,hK5⟩;rw [hRW.out] at hS5;have hr5 := (hK5.2 _ (blk_lt hI.res) (fun h => h.elim (fun h => h.1 (.inl ⟨by omega,by omega⟩)) (fun h => by omega))).trans hI.res;have hD5 := (hK5.2 D hDl (fun h => h.elim (fun h => h.2.2 rfl) (fun h => by obtain ⟨rv_,hgp,_⟩ := hI.gr.1.1;rw [← h,hK] at hgp;cases hgp))).trans hK;obtain ⟨Ar,cr,rfl⟩ := Kd.S_slice hS5;have e0 : w5.cell? ⟨w.heap.size + 2,0,none⟩ = some (.int .i64 0) := (blk_cell hr5 0).trans rfl;have e1 : w5.cell? ⟨w.heap.size + 2,1,none⟩ = some (.slice none 0 0) := (blk_cell hr5 1).trans rfl;have e2 : w5.cell? ⟨w.heap.size + 2,2,none⟩ = some (.int .i64 0) := (blk_cell hr5 2).trans rfl;have e3 : w5.cell? ⟨w.heap.size + 2,3,none⟩ = some (.int .i64 0) := (blk_cell hr5 3).trans rfl;have f0 := blk_frozen hr5 0;have f1 := blk_frozen hr5 1;have f2 := blk_frozen hr5 2;have f3 := blk_frozen hr5 3)
  have hn2 : ∀ k,¬ (k = w.heap.size + 2) → ((((w5.setCell ⟨w.heap.size + 2,0,none⟩ (.int .i64 m)).setCell ⟨w.heap.size + 2,1,none⟩ (.slice Ar RW.length cr)).setCell ⟨w.heap.size + 2,2,none⟩ (.int .i64 qa)).setCell ⟨w.heap.size + 2,3,none⟩ (.int .i64 qb)).heap[k]? = w5.heap[k]? := fun k hk => (Below.heap_setCell _ ⟨w.heap.size + 2,3,none⟩ _ k hk).trans ((Below.heap_setCell _ ⟨w.heap.size + 2,2,none⟩ _ k hk).trans ((Below.heap_setCell _ ⟨w.heap.size + 2,1,none⟩ _ k hk).trans (Below.heap_setCell w5 ⟨w.heap.size + 2,0,none⟩ _ k hk)))
  have hDn : ¬ (D = w.heap.size + 2) := by omega
  have hD6 := (hn2 D hDn).trans hD5
  have hr6 := put4 (b0 := .int .i64 m) (b1 := .slice Ar RW.length cr) (b2 := .int .i64 qa) (b3 := .int .i64 qb) hr5
  have hS6 : Kd.S kRow 33 _ w.heap.size (fun k => ¬nbL w.heap.size bg k ∧ k ≠ p ∧ k ≠ D) (.slice Ar RW.length cr) RW := Kd.S_step hS5 (fun k hk _ => hn2 k (fun h => hk.1 (.inl ⟨by omega,by omega⟩)))
  have hwb : w.heap.size ≤ w.heap.size + 2 := by omega
  have hB6 := (((hB5.setCell (p := ⟨w.heap.size + 2,0,none⟩) hwb (.int .i64 m)).setCell (p := ⟨w.heap.size + 2,1,none⟩) hwb (.slice Ar RW.length cr)).setCell (p := ⟨w.heap.size + 2,2,none⟩) hwb (.int .i64 qa)).setCell (p := ⟨w.heap.size + 2,3,none⟩) hwb (.int .i64 qb)
  have hb6 := hI.bel.trans hB6
  clear hn2 hS5 hB5 hB6 hr5 hD5 e0 e1 e2 e3 f0 f1 f2 f3 hK5
  generalize ((((w5.setCell ⟨w.heap.size + 2,0,none⟩ (.int .i64 m)).setCell ⟨w.heap.size + 2,1,none⟩ (.slice Ar RW.length cr)).setCell ⟨w.heap.size + 2,2,none⟩ (.int .i64 qa)).setCell ⟨w.heap.size + 2,3,none⟩ (.int .i64 qb)) = w6 at hD6 hr6 hS6 hb6 ⊢
  refine ⟨by simp,.inl ⟨_,_,rfl,run_takeDeferred hD6,?_⟩⟩
  refine ⟨_,results_cell_row rfl _ _ (w.heap.size + 2) 29 #[.int .i64 m,.slice Ar RW.length cr,.int .i64 qa,.int .i64 qb] (0,0) _ rfl ((World.putObj_heap_other (by omega)).trans hr6) Tryd.underlying29 rfl (by kernel_rfl),_,rfl,?_,hb6.trans (belowK_b (w := w) (Nat.le_refl _) w6 D _ _ (by omega) hD6 rfl rfl)⟩
  exact Kd.S_mono (Kd.S_step hS6 (fun k hk _ => World.putObj_heap_other (fun h => hk.2.2 (by first | exact h | exact h.symm)))) (fun _ _ => trivial)
 case stop =>
  rintro D c pre W _ _ h _
  exact h.elim
end Go.Proofs.YtnpjaaldppemlaaDoor.U
end
section
namespace Go.Proofs.YtnpjaaldppemlaaDoor.U
open Go.RowKit Go.Shelf Go.Proofs.YtnpjaaldppemlaaDoor.Mu Go.Proofs.YtnpjaaldppemlaaDoor.Pu Go.Proofs.YtnpjaaldppemlaaDoor.Rg Go.Proofs.YtnpjaaldppemlaaDoorW.PrintWords Go.Proofs.YtnpjaaldppemlaaDoorW.PrintLast Go.Proofs.YtnpjaaldppemlaaDoorW.PrintMore
attribute [local go_sem] Oper.semAt_some
set_option linter.unusedVariables false
set_option linter.unusedSimpArgs false
abbrev Pl := S27
abbrev kPl : Kd Pl := k27
def Ly.pl (s : Ly) : Pl := ⟨s.1.length,s.2.length⟩
/-- The boxes of Places' variables. -/
def nbP (w0 bg : Nat) (k : Nat) : Prop := k = w0 ∨ k = bg ∨ k = bg + 2 ∨ k = bg + 3
/-- A row of places of the call's own,below B,in the box b. -/
def AllIn (n₀ b B : Nat) (W : World) (pl : List Pl) : Prop := ∃ v,Boxed W b 43 v ∧ Kd.R kPl 27 W n₀ (fun k => k < B) v pl
/-- What Places' variables hold behind the clusters pre. -/
structure PlInv (w : World) (t : ByteArray) (m : Int) (p bg : Nat) (st : Ly) (pl : List Pl) (B : Nat) (W : World) : Prop where
 gr : GrIn 65 w.heap.size p (nbP w.heap.size bg) B W m st
 txt : Boxed W w.heap.size 9 (.string t)
 ptr : Boxed W bg 62 (.pointer (some ⟨p,0,none⟩))
 all : AllIn w.heap.size (bg + 2) B W pl
 cls : Boxed W (bg + 3) 9 (.string t)
 bel : Below w.heap.size w W
 low : bg + 3 < B
theorem AllIn.mono {n₀ b B B' : Nat} {W : World} {pl : List Pl} (h : AllIn n₀ b B W pl) (hB : B ≤ B') : AllIn n₀ b B' W pl := by
 obtain ⟨v,h1,h2⟩ := h
 exact ⟨v,h1,Kd.R_mono h2 (fun k hk => Nat.lt_of_lt_of_le hk hB)⟩
theorem AllIn.below {n₀ b B : Nat} {W w1 : World} {pl : List Pl} (h : AllIn n₀ b B W pl) (hb : Below W.heap.size W w1) : AllIn n₀ b B w1 pl := by
 obtain ⟨v,h1,h2⟩ := h
 exact ⟨v,boxed_below h1 hb,Kd.R_below h2 hb⟩
/-- Where all cells of places stand as they stood. -/
theorem AllIn.move {n₀ b B : Nat} {W w1 : World} {pl : List Pl} (h : AllIn n₀ b B W pl) (hb : w1.heap[b]? = W.heap[b]?) (hm : ∀ (k : Nat) (cs : Array Value),W.heap[k]? = some (Obj.cells cs 27 (0,0)) → w1.heap[k]? = W.heap[k]?) : AllIn n₀ b B w1 pl := by
 obtain ⟨v,h1,h2⟩ := h
 refine ⟨v,hb.trans h1,Kd.R_mono (Kd.R_move (Kd.R_bound h2) (fun k hk => ?_)) (fun k hk => hk.1)⟩
 obtain ⟨_,_,_,q,hq,cs,hc⟩ := hk
 have hq' : q = 27 := by
  rcases List.mem_cons.1 hq with h | h
  ·exact h
  ·exact absurd h (by simp [kPl,k27,Kd.iso,Kd.pair,Kd.int,Kd.scalar])
 subst hq'
 exact hm k cs hc
theorem AllIn.grow {n₀ b B : Nat} {X Y : World} {row : Option Nat} {pl : List Pl} (h : AllIn n₀ b B X pl) (hg : X.grownBy Y row) (hr : ∀ r,row = some r → ∃ o : Obj,X.heap[r]? = some o ∧ o.isCells = false) : AllIn n₀ b B Y pl := by
 refine h.move ?_ (fun k cs hc => hg.block k (blk_lt hc) (fun e => ?_))
 ·obtain ⟨v,h1,h2⟩ := h
  exact (boxed_grow h1 hg hr).trans h1.symm
 ·obtain ⟨o,ho,hc'⟩ := hr k e.symm
  rw [hc] at ho
  cases ho
  cases hc'
theorem PlInv.grow {w : World} {t : ByteArray} {m : Int} {p bg : Nat} {st : Ly} {pl : List Pl} {B : Nat} {X Y : World} {row : Option Nat} (h : PlInv w t m p bg st pl B X) (hg : X.grownBy Y row) (hr : ∀ r,row = some r → w.heap.size ≤ r ∧ ∃ o : Obj,X.heap[r]? = some o ∧ o.isCells = false) : PlInv w t m p bg st pl B Y := by
 have hr' : ∀ r,row = some r → ∃ o : Obj,X.heap[r]? = some o ∧ o.isCells = false := fun r e => (hr r e).2
 exact ⟨h.gr.grow hg hr',boxed_grow h.txt hg hr',boxed_grow h.ptr hg hr',h.all.grow hg hr',boxed_grow h.cls hg hr',h.bel.grown hg h.bel.size (fun k e => (hr k e).1),h.low⟩
theorem PlInv.below {w : World} {t : ByteArray} {m : Int} {p bg : Nat} {st : Ly} {pl : List Pl} {B : Nat} {X Y : World} (h : PlInv w t m p bg st pl B X) (hb : Below X.heap.size X Y) : PlInv w t m p bg st pl B Y :=
 ⟨h.gr.below hb,boxed_below h.txt hb,boxed_below h.ptr hb,h.all.below hb,boxed_below h.cls hb,h.bel.trans (hb.mono h.bel.size),h.low⟩
def pl6.T : Bool × List (List Nat × List Nat) := (true,[([],[]),([],[]),([1],[1]),([2],[2]),([3],[3]),([4],[4]),([0,5],[0,5]),([6,6,0,1,2,3,4,5,6],[6])])
def pl6.B : List Nat := [0,0,2,6,14,30,63,127]
theorem pl6.tab : rtab .any (opsOf Tryd.f25 6) = pl6.T := by kernel_rfl
theorem pl6.bits : waitsOk pl6.T.2 pl6.B = true := by kernel_rfl
end Go.Proofs.YtnpjaaldppemlaaDoor.U
end
section
namespace Go.Proofs.YtnpjaaldppemlaaDoor.U
open Go.RowKit Go.Shelf Go.Proofs.YtnpjaaldppemlaaDoor.Mu Go.Proofs.YtnpjaaldppemlaaDoor.Pu Go.Proofs.YtnpjaaldppemlaaDoorW.PrintWords Go.Proofs.YtnpjaaldppemlaaDoorW.PrintLast Go.Proofs.YtnpjaaldppemlaaDoorW.PrintMore
set_option linter.unusedVariables false
set_option linter.unusedSimpArgs false
def txt6.T : Bool × List (List Nat × List Nat) := (true,[([],[]),([],[]),([],[]),([1,2],[1,2]),([3],[3]),([],[]),([],[]),([],[]),([6,7],[6,7]),([8],[8]),([9],[9]),([],[]),([],[]),([11,12],[11,12]),([13],[13]),([14],[14]),([5,10,15],[5,10,15]),([16],[16]),([0,4,17,17],[0,4,17])])
def txt6.B : List Nat := [0,0,0,6,14,0,0,0,192,448,960,0,0,6144,14336,30720,65504,131040,262143]
theorem txt6.tab : rtab .any (opsOf Tryd.f45 6) = txt6.T := by kernel_rfl
theorem txt6.bits : waitsOk txt6.T.2 txt6.B = true := by kernel_rfl
end Go.Proofs.YtnpjaaldppemlaaDoor.U
end
section
namespace Go.Proofs.YtnpjaaldppemlaaDoor.U
open Go.RowKit Go.Shelf Go.Proofs.YtnpjaaldppemlaaDoor.Mu Go.Proofs.YtnpjaaldppemlaaDoor.Pu Go.Proofs.YtnpjaaldppemlaaDoorW.PrintWords Go.Proofs.YtnpjaaldppemlaaDoorW.PrintLast Go.Proofs.YtnpjaaldppemlaaDoorW.PrintMore
set_option linter.unusedVariables false
set_option linter.unusedSimpArgs false
def ray2.T : Bool × List (List Nat × List Nat) := (true,[([],[]),([0],[0]),([1],[1]),([2],[2]),([],[]),([4],[4]),([5],[5]),([3,6],[3,6]),([],[]),([8,7,0,1,2,3,4,5,6,7,8],[7,8])])
def ray2.B : List Nat := [0,1,3,7,0,16,48,127,0,511]
theorem ray2.tab : rtab .any (opsOf Tryd.f13 2) = ray2.T := by kernel_rfl
theorem ray2.bits : waitsOk ray2.T.2 ray2.B = true := by kernel_rfl
def ray12.T : Bool × List (List Nat × List Nat) := (true,[([],[]),([0],[0]),([],[]),([2],[2]),([3],[3]),([4],[4]),([],[]),([5,6],[5,6]),([7],[7]),([8],[8]),([9],[9]),([1,10,9],[1,10]),([0,1,2,3,4,5,6,7,8,9,10,11],[]),([12,11,11,0,1,2,3,4,5,6,7,8,9,10,11],[11,12])])
def ray12.B : List Nat := [0,1,0,4,12,28,0,124,252,508,1020,2047,4095,8191]
theorem ray12.tab : rtab .any (opsOf Tryd.f13 12) = ray12.T := by kernel_rfl
theorem ray12.bits : waitsOk ray12.T.2 ray12.B = true := by kernel_rfl
end Go.Proofs.YtnpjaaldppemlaaDoor.U
end
section
namespace Go.Proofs.YtnpjaaldppemlaaDoor.U
open Go.RowKit Go.Shelf Go.Proofs.YtnpjaaldppemlaaDoor.Mu Go.Proofs.YtnpjaaldppemlaaDoor.Pu Go.Proofs.YtnpjaaldppemlaaDoorW.PrintWords Go.Proofs.YtnpjaaldppemlaaDoorW.PrintLast Go.Proofs.YtnpjaaldppemlaaDoorW.PrintMore
set_option linter.unusedVariables false
/-- A width as it counts. -/
def cntW (width : Int) : Int := mn (mx width 1) 65535
/-- The grid behind a prompt. -/
def st0L (p : ByteArray) (width : Int) : Ly := layL (cntW width) p ([],[]) (clusL p)
/-- The grid behind a text,and the cursor's place. -/
def endL (p t : ByteArray) (cursor width : Int) : Ly × (Int × Int) := atL (cntW width) t cursor (st0L p width,(st0L p width).place) (clusL t)
def rowsL (p t : ByteArray) (cursor width : Int) : List (List Cl) := ((endL p t cursor width).1.1 ++ [(endL p t cursor width).1.2]).map trimR
def layout_Lay.f (a0 a1 : ByteArray) (a2 a3 : Int) : Option (Int × List (List Cl) × Int × Int) := if a0.size ≤ 34359738368 ∧ a1.size ≤ 34359738368 then some (cntW a3,rowsL a0 a1 (if a2 < 0 then 0 else a2) a3,(endL a0 a1 (if a2 < 0 then 0 else a2) a3).2.1,(endL a0 a1 (if a2 < 0 then 0 else a2) a3).2.2) else none
theorem held_w (a : Int) : layout_held.f a = some (cntW a) := rfl
theorem layout_Lay.calls (a0 a1 : ByteArray) (a2 a3 : Int) (r1 : Int) (r2 : List (List Cl)) (r3 r4 : Int) (w : World) (hT : Lib.Utf8Tabs 0 1 w) (h : layout_Lay.f a0 a1 a2 a3 = some (r1,r2,r3,r4)) :
  Calls Tryd.prog 14 #[.string a0,.string a1,.int .i64 a2,.int .i64 a3] w fun e w' => ∃ v1_ : Value,e = .returned (.agg #[.int .i64 r1,v1_,.int .i64 r3,.int .i64 r4]) ∧ Kd.S (Kd.slice 35 k35) 33 w' w.heap.size (fun _ => True) v1_ r2 ∧ Below w.heap.size w w' := by
 unfold layout_Lay.f at h
 split at h
 ·rename_i hs
  cases h
  exact lay_any a0 a1 a2 a3 (cntW a3) w (by omega) (by omega) (held_w a3) hT _ rfl _ rfl _ (Lib.hid rfl)
 ·cases h
end Go.Proofs.YtnpjaaldppemlaaDoor.U
end
section
namespace Go.Proofs.YtnpjaaldppemlaaDoor.U
open Go.RowKit Go.Proofs.YtnpjaaldppemlaaDoorW.PrintWords Go.Proofs.YtnpjaaldppemlaaDoorW.PrintLast Go.Proofs.YtnpjaaldppemlaaDoorW.PrintMore
attribute [local go_sem] max2_int min2_int max_two min_two max_three min_three max_four min_four   -- for this text's walks alone
set_option linter.unusedVariables false
set_option linter.unusedSimpArgs false
attribute [local go_sem high] eqA27 eqA35
def bodkinlaw20_awake.f (k : Nat)  : Option (Bool) := (cluster_Next.f k (⟨#[97]⟩ : ByteArray) 0).bind fun t149 => (if t149 = 1 then ((layout_Lay.f (⟨#[62,32]⟩ : ByteArray) (⟨#[97,98]⟩ : ByteArray) 1 5).bind fun bt150 => ((layout_Lay.f (⟨#[]⟩ : ByteArray) (⟨#[97,228,184,128]⟩ : ByteArray) 1 2).bind fun bt157 => (if bt150.1 = 5 then (if (bt150.2.1.length : Int) = 1 then (if 0 < (bt150.2.1.length : Int) then (if ((rd_L3 bt150.2.1 0).length : Int) = 4 then (if 2 < ((rd_L3 bt150.2.1 0).length : Int) then (if ((((rd_T35 (rd_L3 bt150.2.1 0) 2).f0).toList) == ([97] : List UInt8) && (((rd_T35 (rd_L3 bt150.2.1 0) 2).f1) == 1)) = true then (if (bt150.2.2.1 == 0 && (bt150.2.2.2 == 3)) = true then (if (bt157.2.1.length : Int) = 3 then (if 0 < (bt157.2.1.length : Int) then (if ((rd_L3 bt157.2.1 0).length : Int) = 1 then (if 1 < (bt157.2.1.length : Int) then (if ((rd_L3 bt157.2.1 1).length : Int) = 2 then (if 1 < ((rd_L3 bt157.2.1 1).length : Int) then (if ((((rd_T35 (rd_L3 bt157.2.1 1) 1).f0).toList) == ([] : List UInt8) && (((rd_T35 (rd_L3 bt157.2.1 1) 1).f1) == 0)) = true then (some (bt157.2.2.1 == 0 && (bt157.2.2.2 == 1))) else (some false)) else (none)) else (some false)) else (none)) else (some false)) else (none)) else (some false)) else (some false)) else (some false)) else (none)) else (some false)) else (none)) else (some false)) else (some false)))) else (some false))
theorem bodkinlaw20_awake.mono : ∀ k,LeO (bodkinlaw20_awake.f k ) (bodkinlaw20_awake.f (k + 1) ) := by
 intro  k
 unfold bodkinlaw20_awake.f
 repeat' first
   | (with_reducible exact cluster_Next.mono _ _ _)
   | (with_reducible exact LeO.refl _)
   | (with_reducible exact LeO.none _)
   | (with_reducible refine LeO.ite ?_ ?_)
   | (with_reducible refine LeO.bind ?_ (fun _ => ?_))
   | exact cluster_Next.mono _ _ _
   | exact LeO.none _
   | refine LeO.ite ?_ ?_
   | refine LeO.bind ?_ (fun _ => ?_)
set_option maxHeartbeats 8000000 in
set_option maxRecDepth 100000 in
theorem bodkinlaw20_awake.calls (k : Nat)  (r : Bool) (hr_ : r = true) (w : World) (hT : Lib.Utf8Tabs 0 1 w) (h : bodkinlaw20_awake.f k  = some r) :
  Calls Tryd.prog 12 #[] w fun e w' => e = .returned (.bool r) ∧ Below w.heap.size w w' := by
 have hu29 := Tryd.underlying29
 have hu35 := Tryd.underlying35
 have hu27 := Tryd.underlying27
 have HT := Aside0.mk hT
 clear hT
 have HB := Aside0.mk (Below.refl w.heap.size w)
 have H : ((cluster_Next.f k (⟨#[97]⟩ : ByteArray) 0).bind fun t149 => (if t149 = 1 then ((layout_Lay.f (⟨#[62,32]⟩ : ByteArray) (⟨#[97,98]⟩ : ByteArray) 1 5).bind fun bt150 => ((layout_Lay.f (⟨#[]⟩ : ByteArray) (⟨#[97,228,184,128]⟩ : ByteArray) 1 2).bind fun bt157 => (if bt150.1 = 5 then (if (bt150.2.1.length : Int) = 1 then (if 0 < (bt150.2.1.length : Int) then (if ((rd_L3 bt150.2.1 0).length : Int) = 4 then (if 2 < ((rd_L3 bt150.2.1 0).length : Int) then (if ((((rd_T35 (rd_L3 bt150.2.1 0) 2).f0).toList) == ([97] : List UInt8) && (((rd_T35 (rd_L3 bt150.2.1 0) 2).f1) == 1)) = true then (if (bt150.2.2.1 == 0 && (bt150.2.2.2 == 3)) = true then (if (bt157.2.1.length : Int) = 3 then (if 0 < (bt157.2.1.length : Int) then (if ((rd_L3 bt157.2.1 0).length : Int) = 1 then (if 1 < (bt157.2.1.length : Int) then (if ((rd_L3 bt157.2.1 1).length : Int) = 2 then (if 1 < ((rd_L3 bt157.2.1 1).length : Int) then (if ((((rd_T35 (rd_L3 bt157.2.1 1) 1).f0).toList) == ([] : List UInt8) && (((rd_T35 (rd_L3 bt157.2.1 1) 1).f1) == 0)) = true then (some (bt157.2.2.1 == 0 && (bt157.2.2.2 == 1))) else (some false)) else (none)) else (some false)) else (none)) else (some false)) else (none)) else (some false)) else (some false)) else (some false)) else (none)) else (some false)) else (none)) else (some false)) else (some false)))) else (some false))) = some r := h
 clear h
 replace H := Option.bind_eq_some_iff.mp H
 obtain ⟨t149,A10,H⟩ := H
 replace H : (if t149 = 1 then ((layout_Lay.f (⟨#[62,32]⟩ : ByteArray) (⟨#[97,98]⟩ : ByteArray) 1 5).bind fun bt150 => ((layout_Lay.f (⟨#[]⟩ : ByteArray) (⟨#[97,228,184,128]⟩ : ByteArray) 1 2).bind fun bt157 => (if bt150.1 = 5 then (if (bt150.2.1.length : Int) = 1 then (if 0 < (bt150.2.1.length : Int) then (if ((rd_L3 bt150.2.1 0).length : Int) = 4 then (if 2 < ((rd_L3 bt150.2.1 0).length : Int) then (if ((((rd_T35 (rd_L3 bt150.2.1 0) 2).f0).toList) == ([97] : List UInt8) && (((rd_T35 (rd_L3 bt150.2.1 0) 2).f1) == 1)) = true then (if (bt150.2.2.1 == 0 && (bt150.2.2.2 == 3)) = true then (if (bt157.2.1.length : Int) = 3 then (if 0 < (bt157.2.1.length : Int) then (if ((rd_L3 bt157.2.1 0).length : Int) = 1 then (if 1 < (bt157.2.1.length : Int) then (if ((rd_L3 bt157.2.1 1).length : Int) = 2 then (if 1 < ((rd_L3 bt157.2.1 1).length : Int) then (if ((((rd_T35 (rd_L3 bt157.2.1 1) 1).f0).toList) == ([] : List UInt8) && (((rd_T35 (rd_L3 bt157.2.1 1) 1).f1) == 0)) = true then (some (bt157.2.2.1 == 0 && (bt157.2.2.2 == 1))) else (some false)) else (none)) else (some false)) else (none)) else (some false)) else (none)) else (some false)) else (some false)) else (some false)) else (none)) else (some false)) else (none)) else (some false)) else (some false)))) else (some false)) = some r := H
 have A1 := Aside0.mk A10
 clear A10
 by_cases c2 : t149 = 1
 ·rw [if_pos c2] at H
  have c2b0 : (t149 == 1) = true := beq_iff_eq.mpr c2
  have c2b1 : (t149 != 1) = false := bne_eq_false_iff_eq.mpr c2
  clear c2
  replace H := Option.bind_eq_some_iff.mp H
  obtain ⟨⟨t150,t151,t154,t155⟩,A30,H⟩ := H
  replace H : ((layout_Lay.f (⟨#[]⟩ : ByteArray) (⟨#[97,228,184,128]⟩ : ByteArray) 1 2).bind fun bt157 => (if t150 = 5 then (if (t151.length : Int) = 1 then (if 0 < (t151.length : Int) then (if ((rd_L3 t151 0).length : Int) = 4 then (if 2 < ((rd_L3 t151 0).length : Int) then (if ((((rd_T35 (rd_L3 t151 0) 2).f0).toList) == ([97] : List UInt8) && (((rd_T35 (rd_L3 t151 0) 2).f1) == 1)) = true then (if (t154 == 0 && (t155 == 3)) = true then (if (bt157.2.1.length : Int) = 3 then (if 0 < (bt157.2.1.length : Int) then (if ((rd_L3 bt157.2.1 0).length : Int) = 1 then (if 1 < (bt157.2.1.length : Int) then (if ((rd_L3 bt157.2.1 1).length : Int) = 2 then (if 1 < ((rd_L3 bt157.2.1 1).length : Int) then (if ((((rd_T35 (rd_L3 bt157.2.1 1) 1).f0).toList) == ([] : List UInt8) && (((rd_T35 (rd_L3 bt157.2.1 1) 1).f1) == 0)) = true then (some (bt157.2.2.1 == 0 && (bt157.2.2.2 == 1))) else (some false)) else (none)) else (some false)) else (none)) else (some false)) else (none)) else (some false)) else (some false)) else (some false)) else (none)) else (some false)) else (none)) else (some false)) else (some false))) = some r := H
  have A3 := Aside0.mk A30
  clear A30
  replace H := Option.bind_eq_some_iff.mp H
  obtain ⟨⟨t157,t158,t161,t162⟩,A40,H⟩ := H
  replace H : (if t150 = 5 then (if (t151.length : Int) = 1 then (if 0 < (t151.length : Int) then (if ((rd_L3 t151 0).length : Int) = 4 then (if 2 < ((rd_L3 t151 0).length : Int) then (if ((((rd_T35 (rd_L3 t151 0) 2).f0).toList) == ([97] : List UInt8) && (((rd_T35 (rd_L3 t151 0) 2).f1) == 1)) = true then (if (t154 == 0 && (t155 == 3)) = true then (if (t158.length : Int) = 3 then (if 0 < (t158.length : Int) then (if ((rd_L3 t158 0).length : Int) = 1 then (if 1 < (t158.length : Int) then (if ((rd_L3 t158 1).length : Int) = 2 then (if 1 < ((rd_L3 t158 1).length : Int) then (if ((((rd_T35 (rd_L3 t158 1) 1).f0).toList) == ([] : List UInt8) && (((rd_T35 (rd_L3 t158 1) 1).f1) == 0)) = true then (some (t161 == 0 && (t162 == 1))) else (some false)) else (none)) else (some false)) else (none)) else (some false)) else (none)) else (some false)) else (some false)) else (some false)) else (none)) else (some false)) else (none)) else (some false)) else (some false)) = some r := H
  have A4 := Aside0.mk A40
  clear A40
  by_cases c5 : t150 = 5
  ·rw [if_pos c5] at H
   have c5b0 : (t150 == 5) = true := beq_iff_eq.mpr c5
   have c5b1 : (t150 != 5) = false := bne_eq_false_iff_eq.mpr c5
   clear c5
   by_cases c6 : (t151.length : Int) = 1
   ·rw [if_pos c6] at H
    have c6b0 : ((t151.length : Int) == 1) = true := beq_iff_eq.mpr c6
    have c6b1 : ((t151.length : Int) != 1) = false := bne_eq_false_iff_eq.mpr c6
    clear c6
    by_cases c7 : 0 < (t151.length : Int)
    ·rw [if_pos c7] at H
     have c7b0 : decide (0 < (t151.length : Int)) = true := decide_eq_true c7
     have c7b1 : decide (0 < t151.length) = true := decide_eq_true (by omega)
     clear c7
     by_cases c8 : ((rd_L3 t151 0).length : Int) = 4
     ·rw [if_pos c8] at H
      have c8b0 : (((rd_L3 t151 0).length : Int) == 4) = true := beq_iff_eq.mpr c8
      have c8b1 : (((rd_L3 t151 0).length : Int) != 4) = false := bne_eq_false_iff_eq.mpr c8
      clear c8
      by_cases c9 : 2 < ((rd_L3 t151 0).length : Int)
      ·rw [if_pos c9] at H
       have c9b0 : decide (2 < ((rd_L3 t151 0).length : Int)) = true := decide_eq_true c9
       have c9b1 : decide (2 < (rd_L3 t151 0).length) = true := decide_eq_true (by omega)
       clear c9
       by_cases c10 : ((((rd_T35 (rd_L3 t151 0) 2).f0).toList) == ([97] : List UInt8) && (((rd_T35 (rd_L3 t151 0) 2).f1) == 1)) = true
       ·rw [if_pos c10] at H
        have c10b0 : ((((rd_T35 (rd_L3 t151 0) 2).f0).toList) == ([97] : List UInt8) && (((rd_T35 (rd_L3 t151 0) 2).f1) == 1)) = true := c10
        (try (have c10b1 : decide ((((rd_T35 (rd_L3 t151 0) 2).f0).toList) = ([97] : List UInt8) && (((rd_T35 (rd_L3 t151 0) 2).f1) == 1)) = true := by simpa using c10))
        (try (have c10b2 : ((((rd_T35 (rd_L3 t151 0) 2).f0).toList) == ([97] : List UInt8) && (((rd_T35 (rd_L3 t151 0) 2).f1) == 1)) = true := by simpa using c10))
        clear c10
        by_cases c11 : (t154 == 0 && (t155 == 3)) = true
        ·rw [if_pos c11] at H
         have c11b0 : (t154 == 0 && (t155 == 3)) = true := c11
         (try (have c11b1 : decide (t154 = 0 && (t155 == 3)) = true := by simpa using c11))
         (try (have c11b2 : (t154 == 0 && (t155 == 3)) = true := by simpa using c11))
         clear c11
         by_cases c12 : (t158.length : Int) = 3
         ·rw [if_pos c12] at H
          have c12b0 : ((t158.length : Int) == 3) = true := beq_iff_eq.mpr c12
          have c12b1 : ((t158.length : Int) != 3) = false := bne_eq_false_iff_eq.mpr c12
          clear c12
          by_cases c13 : 0 < (t158.length : Int)
          ·rw [if_pos c13] at H
           have c13b0 : decide (0 < (t158.length : Int)) = true := decide_eq_true c13
           have c13b1 : decide (0 < t158.length) = true := decide_eq_true (by omega)
           clear c13
           by_cases c14 : ((rd_L3 t158 0).length : Int) = 1
           ·rw [if_pos c14] at H
            have c14b0 : (((rd_L3 t158 0).length : Int) == 1) = true := beq_iff_eq.mpr c14
            have c14b1 : (((rd_L3 t158 0).length : Int) != 1) = false := bne_eq_false_iff_eq.mpr c14
            clear c14
            by_cases c15 : 1 < (t158.length : Int)
            ·rw [if_pos c15] at H
             have c15b0 : decide (1 < (t158.length : Int)) = true := decide_eq_true c15
             have c15b1 : decide (1 < t158.length) = true := decide_eq_true (by omega)
             clear c15
             by_cases c16 : ((rd_L3 t158 1).length : Int) = 2
             ·rw [if_pos c16] at H
              have c16b0 : (((rd_L3 t158 1).length : Int) == 2) = true := beq_iff_eq.mpr c16
              have c16b1 : (((rd_L3 t158 1).length : Int) != 2) = false := bne_eq_false_iff_eq.mpr c16
              clear c16
              by_cases c17 : 1 < ((rd_L3 t158 1).length : Int)
              ·rw [if_pos c17] at H
               have c17b0 : decide (1 < ((rd_L3 t158 1).length : Int)) = true := decide_eq_true c17
               have c17b1 : decide (1 < (rd_L3 t158 1).length) = true := decide_eq_true (by omega)
               clear c17
               by_cases c18 : ((((rd_T35 (rd_L3 t158 1) 1).f0).toList) == ([] : List UInt8) && (((rd_T35 (rd_L3 t158 1) 1).f1) == 0)) = true
               ·rw [if_pos c18] at H
                have c18b0 : ((((rd_T35 (rd_L3 t158 1) 1).f0).toList) == ([] : List UInt8) && (((rd_T35 (rd_L3 t158 1) 1).f1) == 0)) = true := c18
                have hc18 := c18
                (try (have c18b1 : decide ((((rd_T35 (rd_L3 t158 1) 1).f0).toList) = ([] : List UInt8) && (((rd_T35 (rd_L3 t158 1) 1).f1) == 0)) = true := by simpa using c18))
                (try (have c18b2 : ((((rd_T35 (rd_L3 t158 1) 1).f0).toList) == ([] : List UInt8) && (((rd_T35 (rd_L3 t158 1) 1).f1) == 0)) = true := by simpa using c18))
                clear c18
                obtain rfl := Option.some.inj H
                go_enter Tryd.func12,Tryd.ntmps12
                go_wp2_with (first | ((with_reducible refine gate_callee (f := 18) rfl ?_);refine goesL_ (some 3) rfl rfl Tryd.func18 (by kernel_rfl) rfl #[.string (⟨#[97]⟩ : ByteArray),.int .i64 0] rfl au1 ?_;(with_reducible refine (cluster_Next.calls k (⟨#[97]⟩ : ByteArray) 0 t149 _ ?side1 A1.out).mono ?_);(case side1 => exact tabs_below HT.out au0);rintro e w19 ⟨rfl,hb⟩;refine ⟨_,rfl,?_⟩;have n0_ := Aside0.mk (below_step au0 hb);clear HB;have HB := n0_;clear n0_;(try clear hb);(try clear hb2);(try clear hk);(try clear hi)) | ((with_reducible refine gate_callee (f := 14) rfl ?_);refine goesL_ (some 5) rfl rfl Tryd.func14 (by kernel_rfl) rfl #[.string (⟨#[62,32]⟩ : ByteArray),.string (⟨#[97,98]⟩ : ByteArray),.int .i64 1,.int .i64 5] rfl au1 ?_;(with_reducible refine (layout_Lay.calls (⟨#[62,32]⟩ : ByteArray) (⟨#[97,98]⟩ : ByteArray) 1 5 t150 t151 t154 t155 _ ?side1 A3.out).mono ?_);(case side1 => exact tabs_below HT.out au0);rintro e w20 ⟨v152,rfl,ho0,hb⟩;refine ⟨_,rfl,?_⟩;have n0_ := Aside0.mk (Kd.S_lower ho0 (below_size au0));have n1_ := Aside0.mk (below_step au0 hb);clear HB;have HO153 := n0_;have HB := n1_;clear n0_ n1_;(try clear hb);(try clear hb2);(try clear hk);(try clear hi);(try clear ho0)) | ((with_reducible refine gate_dst (N := 1) rfl ?_);(try (refine gate_guard (by rfl) ?_;dsimp only));refine box_event ?hg (N := 1) ?hd (cs := #[.int .i64 0,.slice none 0 0,.int .i64 0,.int .i64 0]) (t := 29) ?hr ?_;(case hd => rfl);(case hg => rfl);(case hr => first | (go_simp;done) | (go_simp;rfl));intro gb156 hg w21 hbox hb;have n0_ := Aside0.mk (Kd.S_below (by (with_reducible repeat (first | apply Kd.S_alloc | apply Kd.S_drewN | apply Kd.S_drew));exact HO153.out) hb);have n1_ := Aside0.mk (below_step au0 hb);have n2_ := Aside0.mk (hbox);have n3_ := Aside0.mk ((by rw [hg];exact (below_size au0) : w.heap.size ≤ gb156));have n4_ := Aside0.mk ((by rw [hg];exact (below_size au0) : w.heap.size ≤ gb156));clear HO153;clear HB;have HO153 := n0_;have HB := n1_;have BK156 := n2_;have GW156 := n3_;have GE156 := n4_;clear n0_ n1_ n2_ n3_ n4_;clear hb hbox hg;have hcz22_0 : w21.cell? ⟨gb156,0,none⟩ = some (.int .i64 0) := (blk_cell BK156.out 0).trans rfl;have hcz22_1 : w21.cell? ⟨gb156,1,none⟩ = some (.slice none 0 0) := (blk_cell BK156.out 1).trans rfl;have hcz22_2 : w21.cell? ⟨gb156,2,none⟩ = some (.int .i64 0) := (blk_cell BK156.out 2).trans rfl;have hcz22_3 : w21.cell? ⟨gb156,3,none⟩ = some (.int .i64 0) := (blk_cell BK156.out 3).trans rfl;have hfz22_0 := blk_frozen BK156.out 0;have hfz22_1 := blk_frozen BK156.out 1;have hfz22_2 := blk_frozen BK156.out 2;have hfz22_3 := blk_frozen BK156.out 3;obtain ⟨Ao23,co23,eo23⟩ := Kd.S_slice HO153.out;subst eo23) | ((with_reducible refine gate_callee (f := 14) rfl ?_);refine goesL_ (some 6) rfl rfl Tryd.func14 (by kernel_rfl) rfl #[.string (⟨#[]⟩ : ByteArray),.string (⟨#[97,228,184,128]⟩ : ByteArray),.int .i64 1,.int .i64 2] rfl au1 ?_;(with_reducible refine (layout_Lay.calls (⟨#[]⟩ : ByteArray) (⟨#[97,228,184,128]⟩ : ByteArray) 1 2 t157 t158 t161 t162 _ ?side1 A4.out).mono ?_);(case side1 => exact tabs_below HT.out au16);rintro e w24 ⟨v159,rfl,ho0,hb⟩;refine ⟨_,rfl,?_⟩;have n0_ := Aside0.mk (Kd.S_elder' au24 (Kd.S_base ho0) hb);have n1_ := Aside0.mk (Kd.S_lower (Kd.S_new' ho0 (Kd.S_lt au24)) (below_size au16));have n2_ := Aside0.mk (blk_below (g := gb156) (o := .cells #[.int .i64 t150,.slice Ao23 t151.length co23,.int .i64 t154,.int .i64 t155] 29 (0,0)) (by (with_reducible repeat (first | refine blk_drewN ?_ _ | refine blk_drew ?_ | refine blk_alloc ?_ _));refine blk_put (cs := #[.int .i64 t150,.slice Ao23 t151.length co23,.int .i64 t154,.int .i64 0]) ?_ 3 _ rfl;(with_reducible repeat (first | refine blk_drewN ?_ _ | refine blk_drew ?_ | refine blk_alloc ?_ _));refine blk_put (cs := #[.int .i64 t150,.slice Ao23 t151.length co23,.int .i64 0,.int .i64 0]) ?_ 2 _ rfl;(with_reducible repeat (first | refine blk_drewN ?_ _ | refine blk_drew ?_ | refine blk_alloc ?_ _));refine blk_put (cs := #[.int .i64 t150,.slice none 0 0,.int .i64 0,.int .i64 0]) ?_ 1 _ rfl;(with_reducible repeat (first | refine blk_drewN ?_ _ | refine blk_drew ?_ | refine blk_alloc ?_ _));refine blk_put (cs := #[.int .i64 0,.slice none 0 0,.int .i64 0,.int .i64 0]) ?_ 0 _ rfl;(with_reducible repeat (first | refine blk_drewN ?_ _ | refine blk_drew ?_ | refine blk_alloc ?_ _));exact BK156.out) hb);have n3_ := Aside0.mk (below_step au16 hb);clear HO153;clear BK156;clear HB;have HO153 := n0_;have HO160 := n1_;have BK156 := n2_;have HB := n3_;clear n0_ n1_ n2_ n3_;(try clear hb);(try clear hb2);(try clear hk);(try clear hi);(try clear ho0)) | ((with_reducible refine gate_dst (N := 2) rfl ?_);(try (refine gate_guard (by rfl) ?_;dsimp only));refine box_event ?hg (N := 2) ?hd (cs := #[.int .i64 0,.slice none 0 0,.int .i64 0,.int .i64 0]) (t := 29) ?hr ?_;(case hd => rfl);(case hg => rfl);(case hr => first | (go_simp;done) | (go_simp;rfl));intro gb163 hg w25 hbox hb;have n0_ := Aside0.mk (Kd.S_below (by (with_reducible repeat (first | apply Kd.S_alloc | apply Kd.S_drewN | apply Kd.S_drew));exact HO153.out) hb);have n1_ := Aside0.mk (Kd.S_below (by (with_reducible repeat (first | apply Kd.S_alloc | apply Kd.S_drewN | apply Kd.S_drew));exact HO160.out) hb);have n2_ := Aside0.mk (blk_below (g := gb156) (o := .cells #[.int .i64 t150,.slice Ao23 t151.length co23,.int .i64 t154,.int .i64 t155] 29 (0,0)) (by (with_reducible repeat (first | refine blk_drewN ?_ _ | refine blk_drew ?_ | refine blk_alloc ?_ _));exact BK156.out) hb);have n3_ := Aside0.mk (below_step au16 hb);have n4_ := Aside0.mk (hbox);have n5_ := Aside0.mk ((by rw [hg];exact (below_size au16) : w.heap.size ≤ gb163));have n6_ := Aside0.mk ((by rw [hg];exact (below_size au16) : w.heap.size ≤ gb163));have n7_ := Aside0.mk ((by rw [hg];exact Nat.ne_of_lt (blk_lt (g := gb156) (o := .cells #[.int .i64 t150,.slice Ao23 t151.length co23,.int .i64 t154,.int .i64 t155] 29 (0,0)) (by (with_reducible repeat (first | refine blk_drewN ?_ _ | refine blk_drew ?_ | refine blk_alloc ?_ _));exact BK156.out)) : gb156 ≠ gb163));have n8_ := Aside0.mk ((by rw [hg];exact Nat.ne_of_gt (blk_lt (g := gb156) (o := .cells #[.int .i64 t150,.slice Ao23 t151.length co23,.int .i64 t154,.int .i64 t155] 29 (0,0)) (by (with_reducible repeat (first | refine blk_drewN ?_ _ | refine blk_drew ?_ | refine blk_alloc ?_ _));exact BK156.out)) : gb163 ≠ gb156));clear HO153;clear HO160;clear BK156;clear HB;have HO153 := n0_;have HO160 := n1_;have BK156 := n2_;have HB := n3_;have BK163 := n4_;have GW163 := n5_;have GE163 := n6_;have NB156_163 := n7_;have NB163_156 := n8_;clear n0_ n1_ n2_ n3_ n4_ n5_ n6_ n7_ n8_;clear hb hbox hg;have hnb26 := NB163_156.out;have hnc26 := NB156_163.out;have hcz27_0 : w25.cell? ⟨gb163,0,none⟩ = some (.int .i64 0) := (blk_cell BK163.out 0).trans rfl;have hcz27_1 : w25.cell? ⟨gb163,1,none⟩ = some (.slice none 0 0) := (blk_cell BK163.out 1).trans rfl;have hcz27_2 : w25.cell? ⟨gb163,2,none⟩ = some (.int .i64 0) := (blk_cell BK163.out 2).trans rfl;have hcz27_3 : w25.cell? ⟨gb163,3,none⟩ = some (.int .i64 0) := (blk_cell BK163.out 3).trans rfl;have hfz27_0 := blk_frozen BK163.out 0;have hfz27_1 := blk_frozen BK163.out 1;have hfz27_2 := blk_frozen BK163.out 2;have hfz27_3 := blk_frozen BK163.out 3;obtain ⟨Ao28,co28,eo28⟩ := Kd.S_slice HO160.out;subst eo28) | ((with_reducible refine gate_store (t := 29) (p := 2) rfl ?_);refine store_event (t := 29) (p := 2) (v := ?vo_w29) (w1 := ((((w25.setCell ⟨gb163,0,none⟩ (.int .i64 t157)).setCell ⟨gb163,1,none⟩ (.slice Ao28 t158.length co28)).setCell ⟨gb163,2,none⟩ (.int .i64 t161)).setCell ⟨gb163,3,none⟩ (.int .i64 t162))) ?hg ?ho ?hn ?hr ?_;(case ho => rfl);(case hg => rfl);(case hn => rfl);(case hr => first | (go_simp;done) | (go_simp;rfl));intro w29 hw;have n0_ : Aside0 (Kd.S (Kd.slice 35 k35) 33 w29 w.heap.size (fun k_ => some k_ ≠ (.slice Ao28 t158.length co28 : Value).ownBlock) (.slice Ao23 t151.length co23) t151) := ⟨(by rw [hw];exact (by (with_reducible repeat (first | apply Kd.S_alloc | apply Kd.S_drewN | apply Kd.S_drew));exact Kd.S_mono (Kd.S_far (p := ⟨gb163,3,none⟩) (Kd.S_far (p := ⟨gb163,2,none⟩) (Kd.S_far (p := ⟨gb163,1,none⟩) (Kd.S_far (p := ⟨gb163,0,none⟩) (Kd.S_types HO153.out BK163.out (by decide)) (fun _ hk => hk.2) (.int .i64 t157)) (fun _ hk => hk.2) (.slice Ao28 t158.length co28)) (fun _ hk => hk.2) (.int .i64 t161)) (fun _ hk => hk.2) (.int .i64 t162)) (fun _ hk => hk.1.2)))⟩;have n1_ : Aside0 (Kd.S (Kd.slice 35 k35) 33 w29 w.heap.size (fun k_ => some k_ ≠ (.slice Ao23 t151.length co23 : Value).ownBlock) (.slice Ao28 t158.length co28) t158) := ⟨(by rw [hw];exact (by (with_reducible repeat (first | apply Kd.S_alloc | apply Kd.S_drewN | apply Kd.S_drew));exact Kd.S_mono (Kd.S_far (p := ⟨gb163,3,none⟩) (Kd.S_far (p := ⟨gb163,2,none⟩) (Kd.S_far (p := ⟨gb163,1,none⟩) (Kd.S_far (p := ⟨gb163,0,none⟩) (Kd.S_types HO160.out BK163.out (by decide)) (fun _ hk => hk.2) (.int .i64 t157)) (fun _ hk => hk.2) (.slice Ao28 t158.length co28)) (fun _ hk => hk.2) (.int .i64 t161)) (fun _ hk => hk.2) (.int .i64 t162)) (fun _ hk => hk.1.2)))⟩;have n2_ : Aside0 (w29.heap[gb156]? = some (.cells #[.int .i64 t150,.slice Ao23 t151.length co23,.int .i64 t154,.int .i64 t155] 29 (0,0))) := ⟨(by rw [hw];exact (by (with_reducible repeat (first | refine blk_drewN ?_ _ | refine blk_drew ?_ | refine blk_alloc ?_ _));refine blk_far ?_ NB156_163.out _;(with_reducible repeat (first | refine blk_drewN ?_ _ | refine blk_drew ?_ | refine blk_alloc ?_ _));refine blk_far ?_ NB156_163.out _;(with_reducible repeat (first | refine blk_drewN ?_ _ | refine blk_drew ?_ | refine blk_alloc ?_ _));refine blk_far ?_ NB156_163.out _;(with_reducible repeat (first | refine blk_drewN ?_ _ | refine blk_drew ?_ | refine blk_alloc ?_ _));refine blk_far ?_ NB156_163.out _;(with_reducible repeat (first | refine blk_drewN ?_ _ | refine blk_drew ?_ | refine blk_alloc ?_ _));exact BK156.out))⟩;have n3_ : Aside0 (w29.heap[gb163]? = some (.cells #[.int .i64 t157,.slice Ao28 t158.length co28,.int .i64 t161,.int .i64 t162] 29 (0,0))) := ⟨(by rw [hw];exact (by (with_reducible repeat (first | refine blk_drewN ?_ _ | refine blk_drew ?_ | refine blk_alloc ?_ _));refine blk_put (cs := #[.int .i64 t157,.slice Ao28 t158.length co28,.int .i64 t161,.int .i64 0]) ?_ 3 _ rfl;(with_reducible repeat (first | refine blk_drewN ?_ _ | refine blk_drew ?_ | refine blk_alloc ?_ _));refine blk_put (cs := #[.int .i64 t157,.slice Ao28 t158.length co28,.int .i64 0,.int .i64 0]) ?_ 2 _ rfl;(with_reducible repeat (first | refine blk_drewN ?_ _ | refine blk_drew ?_ | refine blk_alloc ?_ _));refine blk_put (cs := #[.int .i64 t157,.slice none 0 0,.int .i64 0,.int .i64 0]) ?_ 1 _ rfl;(with_reducible repeat (first | refine blk_drewN ?_ _ | refine blk_drew ?_ | refine blk_alloc ?_ _));refine blk_put (cs := #[.int .i64 0,.slice none 0 0,.int .i64 0,.int .i64 0]) ?_ 0 _ rfl;(with_reducible repeat (first | refine blk_drewN ?_ _ | refine blk_drew ?_ | refine blk_alloc ?_ _));exact BK163.out))⟩;have n4_ : Aside0 (Below w.heap.size w w29) := ⟨(by rw [hw];exact (by repeat (first | (with_reducible first | exact HB.out | apply below_alloc | apply pw_below_drewN | apply below_drew1 | refine below_set ?_ GE156.out | refine below_set ?_ GE163.out) | exact HB.out)))⟩;clear hw;clear HO153;clear HO160;clear BK156;clear BK163;clear HB;have HO153 := n0_;have HO160 := n1_;have BK156 := n2_;have BK163 := n3_;have HB := n4_;clear n0_ n1_ n2_ n3_ n4_;have hcz30_0 : w29.cell? ⟨gb156,0,none⟩ = some (.int .i64 t150) := (blk_cell BK156.out 0).trans rfl;have hcz30_1 : w29.cell? ⟨gb156,1,none⟩ = some (.slice Ao23 t151.length co23) := (blk_cell BK156.out 1).trans rfl;have hcz30_2 : w29.cell? ⟨gb156,2,none⟩ = some (.int .i64 t154) := (blk_cell BK156.out 2).trans rfl;have hcz30_3 : w29.cell? ⟨gb156,3,none⟩ = some (.int .i64 t155) := (blk_cell BK156.out 3).trans rfl;have hfz30_0 := blk_frozen BK156.out 0;have hfz30_1 := blk_frozen BK156.out 1;have hfz30_2 := blk_frozen BK156.out 2;have hfz30_3 := blk_frozen BK156.out 3;have p164 : 0 ≤ (0 : Int) := (by omega);have q164 : 0 < (t151.length : Int) := of_decide_eq_true au6;obtain ⟨ad164,A164_0,c164_0,e164,hx164_0,hl164_0,hi164_0⟩ := at_L3 (Kd.S_reads' HO153.out).2.2 0 p164 q164;cases e164;obtain ⟨ce164,hce164,hMe164,hcc164⟩ := Kd.S_get HO153.out [] 0 p164 (by first | exact q164 | exact of_decide_eq_true au6 | (have e_ := (Kd.S_reads' HO153.out).1;omega));obtain ⟨ve164_0,rfl,ge164_0⟩ := hMe164;have hv164_0 := hcc164 0 _ rfl;rw [Nat.add_zero,show ((Kd.slice 35 k35)).sz = 1 from rfl,Nat.mul_one] at hv164_0;replace hv164_0 := Option.some.inj (hv164_0.symm.trans hx164_0);rw [hv164_0] at ge164_0;have HL164_0 := Aside0.mk (show Kd.R k35 35 _ _ _ _ (rd_L3 t151 0) from ge164_0);clear hv164_0 ge164_0;clear hcc164 hce164;have qi164 : (0 < t151.length) = True := eq_true (by omega);(try rw [show ((0 : Int)).toNat = 0 from rfl] at hx164_0);(try rw [Addr.add_zero'] at hx164_0);have HR164_0 := Aside0.mk hi164_0;have HC164_0 := Aside0.mk hl164_0;clear hi164_0 hl164_0;replace p164 := eq_true p164;replace q164 := eq_true q164;have p165 : 0 ≤ (0 : Int) := (by omega);have q165 : 0 < (t151.length : Int) := of_decide_eq_true au6;obtain ⟨ad165,A165_0,c165_0,e165,hx165_0,hl165_0,hi165_0⟩ := at_L3 (Kd.S_reads' HO153.out).2.2 0 p165 q165;obtain rfl : ad164 = ad165 := (by injection e165);obtain ⟨ce165,hce165,hMe165,hcc165⟩ := Kd.S_get HO153.out [] 0 p165 (by first | exact q165 | exact of_decide_eq_true au6 | (have e_ := (Kd.S_reads' HO153.out).1;omega));obtain ⟨ve165_0,rfl,ge165_0⟩ := hMe165;have hv165_0 := hcc165 0 _ rfl;rw [Nat.add_zero,show ((Kd.slice 35 k35)).sz = 1 from rfl,Nat.mul_one] at hv165_0;replace hv165_0 := Option.some.inj (hv165_0.symm.trans hx165_0);rw [hv165_0] at ge165_0;have HL165_0 := Aside0.mk (show Kd.R k35 35 _ _ _ _ (rd_L3 t151 0) from ge165_0);clear hv165_0 ge165_0;clear hcc165 hce165;have qi165 : (0 < t151.length) = True := eq_true (by omega);(try rw [show ((0 : Int)).toNat = 0 from rfl] at hx165_0);(try rw [Addr.add_zero'] at hx165_0);have HR165_0 := Aside0.mk hi165_0;have HC165_0 := Aside0.mk hl165_0;clear hi165_0 hl165_0;replace p165 := eq_true p165;replace q165 := eq_true q165;have ea_ := Option.some.inj (hx164_0.symm.trans hx165_0);injection ea_ with ea_ en_ ec_;subst ea_;subst ec_;clear en_;have p166 : 0 ≤ (2 : Int) := (by omega);have q166 : 2 < ((rd_L3 t151 0).length : Int) := of_decide_eq_true au6;obtain ⟨ad166,e166,hx166_0,hx166_1⟩ := at_T35 (by repeat (first | (with_reducible exact HR165_0.out) | (with_reducible refine Kd.C_alloc ?_ _) | (with_reducible refine Kd.C_drewN ?_ _) | (with_reducible refine Kd.C_drew ?_) | exact HR165_0.out)) 2 p166 q166;cases e166;(try simp only [show (2 : Int).toNat = 2 from rfl,Nat.reduceMul,Nat.reduceEqDiff,Go.Addr.add,↓reduceIte] at hx166_0);(try simp only [show (2 : Int).toNat = 2 from rfl,Nat.reduceMul,Nat.reduceEqDiff,Go.Addr.add,↓reduceIte] at hx166_1);have qi166 : (2 < (rd_L3 t151 0).length) = True := eq_true (by omega);(try rw [show ((2 : Int)).toNat = 2 from rfl] at hx166_0);(try rw [show 2 * 2 = 4 from rfl] at hx166_0);(try rw [show ((2 : Int)).toNat = 2 from rfl] at hx166_1);(try rw [show 2 * 2 = 4 from rfl] at hx166_1);replace p166 := eq_true p166;replace q166 := eq_true q166;have hcz31_0 : w29.cell? ⟨gb163,0,none⟩ = some (.int .i64 t157) := (blk_cell BK163.out 0).trans rfl;have hcz31_1 : w29.cell? ⟨gb163,1,none⟩ = some (.slice Ao28 t158.length co28) := (blk_cell BK163.out 1).trans rfl;have hcz31_2 : w29.cell? ⟨gb163,2,none⟩ = some (.int .i64 t161) := (blk_cell BK163.out 2).trans rfl;have hcz31_3 : w29.cell? ⟨gb163,3,none⟩ = some (.int .i64 t162) := (blk_cell BK163.out 3).trans rfl;have hfz31_0 := blk_frozen BK163.out 0;have hfz31_1 := blk_frozen BK163.out 1;have hfz31_2 := blk_frozen BK163.out 2;have hfz31_3 := blk_frozen BK163.out 3;have p167 : 0 ≤ (0 : Int) := (by omega);have q167 : 0 < (t158.length : Int) := of_decide_eq_true au6;obtain ⟨ad167,A167_0,c167_0,e167,hx167_0,hl167_0,hi167_0⟩ := at_L3 (Kd.S_reads' HO160.out).2.2 0 p167 q167;cases e167;obtain ⟨ce167,hce167,hMe167,hcc167⟩ := Kd.S_get HO160.out [] 0 p167 (by first | exact q167 | exact of_decide_eq_true au6 | (have e_ := (Kd.S_reads' HO160.out).1;omega));obtain ⟨ve167_0,rfl,ge167_0⟩ := hMe167;have hv167_0 := hcc167 0 _ rfl;rw [Nat.add_zero,show ((Kd.slice 35 k35)).sz = 1 from rfl,Nat.mul_one] at hv167_0;replace hv167_0 := Option.some.inj (hv167_0.symm.trans hx167_0);rw [hv167_0] at ge167_0;have HL167_0 := Aside0.mk (show Kd.R k35 35 _ _ _ _ (rd_L3 t158 0) from ge167_0);clear hv167_0 ge167_0;clear hcc167 hce167;have qi167 : (0 < t158.length) = True := eq_true (by omega);(try rw [show ((0 : Int)).toNat = 0 from rfl] at hx167_0);(try rw [Addr.add_zero'] at hx167_0);have HR167_0 := Aside0.mk hi167_0;have HC167_0 := Aside0.mk hl167_0;clear hi167_0 hl167_0;replace p167 := eq_true p167;replace q167 := eq_true q167;have p168 : 0 ≤ (1 : Int) := (by omega);have q168 : 1 < (t158.length : Int) := of_decide_eq_true au6;obtain ⟨ad168,A168_0,c168_0,e168,hx168_0,hl168_0,hi168_0⟩ := at_L3 (Kd.S_reads' HO160.out).2.2 1 p168 q168;obtain rfl : ad167 = ad168 := (by injection e168);obtain ⟨ce168,hce168,hMe168,hcc168⟩ := Kd.S_get HO160.out [] 1 p168 (by first | exact q168 | exact of_decide_eq_true au6 | (have e_ := (Kd.S_reads' HO160.out).1;omega));obtain ⟨ve168_0,rfl,ge168_0⟩ := hMe168;have hv168_0 := hcc168 0 _ rfl;rw [Nat.add_zero,show ((Kd.slice 35 k35)).sz = 1 from rfl,Nat.mul_one] at hv168_0;replace hv168_0 := Option.some.inj (hv168_0.symm.trans hx168_0);rw [hv168_0] at ge168_0;have HL168_0 := Aside0.mk (show Kd.R k35 35 _ _ _ _ (rd_L3 t158 1) from ge168_0);clear hv168_0 ge168_0;clear hcc168 hce168;(try simp only [show (1 : Int).toNat = 1 from rfl,Nat.reduceMul,Nat.reduceEqDiff,Go.Addr.add,↓reduceIte] at hx168_0);have qi168 : (1 < t158.length) = True := eq_true (by omega);(try rw [show ((1 : Int)).toNat = 1 from rfl] at hx168_0);have HR168_0 := Aside0.mk hi168_0;have HC168_0 := Aside0.mk hl168_0;clear hi168_0 hl168_0;replace p168 := eq_true p168;replace q168 := eq_true q168;have p169 : 0 ≤ (1 : Int) := (by omega);have q169 : 1 < (t158.length : Int) := of_decide_eq_true au6;obtain ⟨ad169,A169_0,c169_0,e169,hx169_0,hl169_0,hi169_0⟩ := at_L3 (Kd.S_reads' HO160.out).2.2 1 p169 q169;obtain rfl : ad167 = ad169 := (by injection e169);obtain ⟨ce169,hce169,hMe169,hcc169⟩ := Kd.S_get HO160.out [] 1 p169 (by first | exact q169 | exact of_decide_eq_true au6 | (have e_ := (Kd.S_reads' HO160.out).1;omega));obtain ⟨ve169_0,rfl,ge169_0⟩ := hMe169;have hv169_0 := hcc169 0 _ rfl;rw [Nat.add_zero,show ((Kd.slice 35 k35)).sz = 1 from rfl,Nat.mul_one] at hv169_0;replace hv169_0 := Option.some.inj (hv169_0.symm.trans hx169_0);rw [hv169_0] at ge169_0;have HL169_0 := Aside0.mk (show Kd.R k35 35 _ _ _ _ (rd_L3 t158 1) from ge169_0);clear hv169_0 ge169_0;clear hcc169 hce169;(try simp only [show (1 : Int).toNat = 1 from rfl,Nat.reduceMul,Nat.reduceEqDiff,Go.Addr.add,↓reduceIte] at hx169_0);have qi169 : (1 < t158.length) = True := eq_true (by omega);(try rw [show ((1 : Int)).toNat = 1 from rfl] at hx169_0);have HR169_0 := Aside0.mk hi169_0;have HC169_0 := Aside0.mk hl169_0;clear hi169_0 hl169_0;replace p169 := eq_true p169;replace q169 := eq_true q169;have ea_ := Option.some.inj (hx168_0.symm.trans hx169_0);injection ea_ with ea_ en_ ec_;subst ea_;subst ec_;clear en_;have p170 : 0 ≤ (1 : Int) := (by omega);have q170 : 1 < ((rd_L3 t158 1).length : Int) := of_decide_eq_true au6;obtain ⟨ad170,e170,hx170_0,hx170_1⟩ := at_T35 (by repeat (first | (with_reducible exact HR169_0.out) | (with_reducible refine Kd.C_alloc ?_ _) | (with_reducible refine Kd.C_drewN ?_ _) | (with_reducible refine Kd.C_drew ?_) | exact HR169_0.out)) 1 p170 q170;cases e170;(try simp only [show (1 : Int).toNat = 1 from rfl,Nat.reduceMul,Nat.reduceEqDiff,Go.Addr.add,↓reduceIte] at hx170_0);(try simp only [show (1 : Int).toNat = 1 from rfl,Nat.reduceMul,Nat.reduceEqDiff,Go.Addr.add,↓reduceIte] at hx170_1);have qi170 : (1 < (rd_L3 t158 1).length) = True := eq_true (by omega);(try rw [show ((1 : Int)).toNat = 1 from rfl] at hx170_0);(try rw [show 1 * 2 = 2 from rfl] at hx170_0);(try rw [show ((1 : Int)).toNat = 1 from rfl] at hx170_1);(try rw [show 1 * 2 = 2 from rfl] at hx170_1);replace p170 := eq_true p170;replace q170 := eq_true q170))
                go_ret
                exact ⟨au2,by repeat (first | (with_reducible first | exact HB.out | apply below_alloc | apply pw_below_drewN | apply below_drew1 | refine below_set ?_ GE156.out | refine below_set ?_ GE163.out) | exact HB.out)⟩
                rename_i hx_
                exfalso
                apply hx_
                have h1_ := hc18
                rw [Bool.and_eq_true] at h1_
                exact ⟨by simpa using h1_.1,by simpa using h1_.2⟩
               ·rw [if_neg c18] at H
                have c18b0 : ((((rd_T35 (rd_L3 t158 1) 1).f0).toList) == ([] : List UInt8) && (((rd_T35 (rd_L3 t158 1) 1).f1) == 0)) = false := by simpa using c18
                (try (have c18b1 : decide ((((rd_T35 (rd_L3 t158 1) 1).f0).toList) = ([] : List UInt8) && (((rd_T35 (rd_L3 t158 1) 1).f1) == 0)) = false := by simpa using c18))
                (try (have c18b2 : ((((rd_T35 (rd_L3 t158 1) 1).f0).toList) == ([] : List UInt8) && (((rd_T35 (rd_L3 t158 1) 1).f1) == 0)) = false := by simpa using c18))
                (try (have c18b3 : ¬ ((((rd_T35 (rd_L3 t158 1) 1).f0).toList) = ([] : List UInt8) && (((rd_T35 (rd_L3 t158 1) 1).f1) == 0)) := by simpa using c18))
                clear c18
                obtain rfl := Option.some.inj H
                cases hr_
              ·rw [if_neg c17] at H
               exact absurd H (by simp)
             ·rw [if_neg c16] at H
              have c16b0 : (((rd_L3 t158 1).length : Int) == 2) = false := beq_eq_false_iff_ne.mpr c16
              have c16b1 : (((rd_L3 t158 1).length : Int) != 2) = true := bne_iff_ne.mpr c16
              obtain rfl := Option.some.inj H
              cases hr_
            ·rw [if_neg c15] at H
             exact absurd H (by simp)
           ·rw [if_neg c14] at H
            have c14b0 : (((rd_L3 t158 0).length : Int) == 1) = false := beq_eq_false_iff_ne.mpr c14
            have c14b1 : (((rd_L3 t158 0).length : Int) != 1) = true := bne_iff_ne.mpr c14
            obtain rfl := Option.some.inj H
            cases hr_
          ·rw [if_neg c13] at H
           exact absurd H (by simp)
         ·rw [if_neg c12] at H
          have c12b0 : ((t158.length : Int) == 3) = false := beq_eq_false_iff_ne.mpr c12
          have c12b1 : ((t158.length : Int) != 3) = true := bne_iff_ne.mpr c12
          obtain rfl := Option.some.inj H
          cases hr_
        ·rw [if_neg c11] at H
         have c11b0 : (t154 == 0 && (t155 == 3)) = false := by simpa using c11
         (try (have c11b1 : decide (t154 = 0 && (t155 == 3)) = false := by simpa using c11))
         (try (have c11b2 : (t154 == 0 && (t155 == 3)) = false := by simpa using c11))
         (try (have c11b3 : ¬ (t154 = 0 && (t155 == 3)) := by simpa using c11))
         clear c11
         obtain rfl := Option.some.inj H
         cases hr_
       ·rw [if_neg c10] at H
        have c10b0 : ((((rd_T35 (rd_L3 t151 0) 2).f0).toList) == ([97] : List UInt8) && (((rd_T35 (rd_L3 t151 0) 2).f1) == 1)) = false := by simpa using c10
        (try (have c10b1 : decide ((((rd_T35 (rd_L3 t151 0) 2).f0).toList) = ([97] : List UInt8) && (((rd_T35 (rd_L3 t151 0) 2).f1) == 1)) = false := by simpa using c10))
        (try (have c10b2 : ((((rd_T35 (rd_L3 t151 0) 2).f0).toList) == ([97] : List UInt8) && (((rd_T35 (rd_L3 t151 0) 2).f1) == 1)) = false := by simpa using c10))
        (try (have c10b3 : ¬ ((((rd_T35 (rd_L3 t151 0) 2).f0).toList) = ([97] : List UInt8) && (((rd_T35 (rd_L3 t151 0) 2).f1) == 1)) := by simpa using c10))
        clear c10
        obtain rfl := Option.some.inj H
        cases hr_
      ·rw [if_neg c9] at H
       exact absurd H (by simp)
     ·rw [if_neg c8] at H
      have c8b0 : (((rd_L3 t151 0).length : Int) == 4) = false := beq_eq_false_iff_ne.mpr c8
      have c8b1 : (((rd_L3 t151 0).length : Int) != 4) = true := bne_iff_ne.mpr c8
      obtain rfl := Option.some.inj H
      cases hr_
    ·rw [if_neg c7] at H
     exact absurd H (by simp)
   ·rw [if_neg c6] at H
    have c6b0 : ((t151.length : Int) == 1) = false := beq_eq_false_iff_ne.mpr c6
    have c6b1 : ((t151.length : Int) != 1) = true := bne_iff_ne.mpr c6
    obtain rfl := Option.some.inj H
    cases hr_
  ·rw [if_neg c5] at H
   have c5b0 : (t150 == 5) = false := beq_eq_false_iff_ne.mpr c5
   have c5b1 : (t150 != 5) = true := bne_iff_ne.mpr c5
   obtain rfl := Option.some.inj H
   cases hr_
 ·rw [if_neg c2] at H
  have c2b0 : (t149 == 1) = false := beq_eq_false_iff_ne.mpr c2
  have c2b1 : (t149 != 1) = true := bne_iff_ne.mpr c2
  obtain rfl := Option.some.inj H
  cases hr_
end Go.Proofs.YtnpjaaldppemlaaDoor.U
end
section
namespace Go.Proofs.YtnpjaaldppemlaaDoor.U
open Go.RowKit Go.Proofs.YtnpjaaldppemlaaDoorW.PrintWords Go.Proofs.YtnpjaaldppemlaaDoorW.PrintLast Go.Proofs.YtnpjaaldppemlaaDoorW.PrintMore
attribute [local go_sem] max2_int min2_int max_two min_two max_three min_three max_four min_four   -- for this text's walks alone
set_option linter.unusedVariables false
set_option linter.unusedSimpArgs false
def bodkinlaw20_LayoutBlank.f (k : Nat) (a0 : Int) (a1 : Int) : Option (Bool) := (bodkinlaw20_awake.f k).bind fun t190 => (if t190 = true then ((layout_Blank.f a0 a1).bind fun bt191 => ((bodkinref20_Blank.f k a0 a1).bind fun bt197 => ((bodkinref20_Same.f k bt191.1 bt191.2.1 bt191.2.2.1 bt191.2.2.2 bt197.1 bt197.2.1 bt197.2.2.1 bt197.2.2.2).bind fun t203 => (some t203)))) else (some false))
set_option maxHeartbeats 8000000 in
set_option maxRecDepth 100000 in
theorem bodkinlaw20_LayoutBlank.calls (k : Nat) (a0 : Int) (a1 : Int) (r : Bool) (hr_ : r = true) (w : World) (hT : Lib.Utf8Tabs 0 1 w) (h : bodkinlaw20_LayoutBlank.f k a0 a1 = some r) :
  Calls Tryd.prog 5 #[.int .i64 a0,.int .i64 a1] w fun e w' => e = .returned (.bool r) ∧ Below w.heap.size w w' := by
 have HT := Aside0.mk hT
 clear hT
 have HB := Aside0.mk (Below.refl w.heap.size w)
 have H : ((bodkinlaw20_awake.f k).bind fun t190 => (if t190 = true then ((layout_Blank.f a0 a1).bind fun bt191 => ((bodkinref20_Blank.f k a0 a1).bind fun bt197 => ((bodkinref20_Same.f k bt191.1 bt191.2.1 bt191.2.2.1 bt191.2.2.2 bt197.1 bt197.2.1 bt197.2.2.1 bt197.2.2.2).bind fun t203 => (some t203)))) else (some false))) = some r := h
 clear h
 replace H := Option.bind_eq_some_iff.mp H
 obtain ⟨t190,A30,H⟩ := H
 replace H : (if t190 = true then ((layout_Blank.f a0 a1).bind fun bt191 => ((bodkinref20_Blank.f k a0 a1).bind fun bt197 => ((bodkinref20_Same.f k bt191.1 bt191.2.1 bt191.2.2.1 bt191.2.2.2 bt197.1 bt197.2.1 bt197.2.2.1 bt197.2.2.2).bind fun t203 => (some t203)))) else (some false)) = some r := H
 have A3 := Aside0.mk A30
 clear A30
 by_cases c4 : t190 = true
 ·subst c4
  have H1 : ((layout_Blank.f a0 a1).bind fun bt191 => ((bodkinref20_Blank.f k a0 a1).bind fun bt197 => ((bodkinref20_Same.f k bt191.1 bt191.2.1 bt191.2.2.1 bt191.2.2.2 bt197.1 bt197.2.1 bt197.2.2.1 bt197.2.2.2).bind fun t203 => (some t203)))) = some r := by rw [if_pos rfl] at H;exact H
  clear H
  have H := H1
  clear H1
  replace H := Option.bind_eq_some_iff.mp H
  obtain ⟨⟨t191,t192,t195,t196⟩,A50,H⟩ := H
  replace H : ((bodkinref20_Blank.f k a0 a1).bind fun bt197 => ((bodkinref20_Same.f k t191 t192 t195 t196 bt197.1 bt197.2.1 bt197.2.2.1 bt197.2.2.2).bind fun t203 => (some t203))) = some r := H
  have A5 := Aside0.mk A50
  clear A50
  replace H := Option.bind_eq_some_iff.mp H
  obtain ⟨⟨t197,t198,t201,t202⟩,A60,H⟩ := H
  replace H : ((bodkinref20_Same.f k t191 t192 t195 t196 t197 t198 t201 t202).bind fun t203 => (some t203)) = some r := H
  have A6 := Aside0.mk A60
  clear A60
  replace H := Option.bind_eq_some_iff.mp H
  obtain ⟨t203,A70,H⟩ := H
  replace H : (some t203) = some r := H
  have A7 := Aside0.mk A70
  clear A70
  obtain rfl := Option.some.inj H
  go_enter Tryd.func5,Tryd.ntmps5
  go_wp2_with (first | ((with_reducible refine gate_callee (f := 12) rfl ?_);refine goesL_ (some 5) rfl rfl Tryd.func12 (by kernel_rfl) rfl #[] rfl au1 ?_;(with_reducible refine (bodkinlaw20_awake.calls k true rfl _ ?side1 A3.out).mono ?_);(case side1 => exact tabs_below HT.out au0);rintro e w8 ⟨rfl,hb⟩;refine ⟨_,rfl,?_⟩;have n0_ := Aside0.mk (below_step au0 hb);clear HB;have HB := n0_;clear n0_;(try clear hb);(try clear hb2);(try clear hk);(try clear hi)) | ((with_reducible refine gate_callee (f := 22) rfl ?_);refine goesL_ (some 9) rfl rfl Tryd.func22 (by kernel_rfl) rfl #[.int .i64 a0,.int .i64 a1] rfl au1 ?_;(with_reducible refine (layout_Blank.calls a0 a1 t191 t192 t195 t196 _ A5.out).mono ?_);rintro e w9 ⟨v193,rfl,ho0,hb⟩;refine ⟨_,rfl,?_⟩;have n0_ := Aside0.mk (Kd.S_lower ho0 (below_size au0));have n1_ := Aside0.mk (below_step au0 hb);clear HB;have HO194 := n0_;have HB := n1_;clear n0_ n1_;(try clear hb);(try clear hb2);(try clear hk);(try clear hi);(try clear ho0)) | ((with_reducible refine gate_callee (f := 23) rfl ?_);refine goesL_ (some 12) rfl rfl Tryd.func23 (by kernel_rfl) rfl #[.int .i64 a0,.int .i64 a1] rfl au1 ?_;(with_reducible refine (bodkinref20_Blank.calls k a0 a1 t197 t198 t201 t202 _ A6.out).mono ?_);rintro e w10 ⟨v199,rfl,ho0,hb⟩;refine ⟨_,rfl,?_⟩;have n0_ := Aside0.mk (Kd.S_elder' (by (with_reducible repeat (first | apply Kd.S_alloc | apply Kd.S_drewN | apply Kd.S_drew));exact HO194.out) (Kd.S_base ho0) hb);have n1_ := Aside0.mk (Kd.S_lower (Kd.S_new' ho0 (Kd.S_lt (by (with_reducible repeat (first | apply Kd.S_alloc | apply Kd.S_drewN | apply Kd.S_drew));exact HO194.out))) (below_size au0));have n2_ := Aside0.mk (below_step au0 hb);clear HO194;clear HB;have HO194 := n0_;have HO200 := n1_;have HB := n2_;clear n0_ n1_ n2_;(try clear hb);(try clear hb2);(try clear hk);(try clear hi);(try clear ho0);obtain ⟨Ao11,co11,eo11⟩ := Kd.S_slice HO194.out;subst eo11;obtain ⟨Ao12,co12,eo12⟩ := Kd.S_slice HO200.out;subst eo12) | ((with_reducible refine gate_callee (f := 15) rfl ?_);refine goesL_ (some 13) rfl rfl Tryd.func15 (by kernel_rfl) rfl #[.agg #[.int .i64 t191,.slice Ao11 t192.length co11,.int .i64 t195,.int .i64 t196],.agg #[.int .i64 t197,.slice Ao12 t198.length co12,.int .i64 t201,.int .i64 t202]] rfl au1 ?_;(with_reducible refine (bodkinref20_Same.calls k t191 _ _ t192 t195 t196 t197 _ _ t198 t201 t202 t203 _ ?side1 ?side2 ?side3 ?side4 A7.out).mono ?_);(case side1 => repeat (first | exact (Kd.S_reads' HO194.out).2.2 | (with_reducible refine Kd.C_alloc ?_ _) | (with_reducible refine Kd.C_drewN ?_ _) | (with_reducible refine Kd.C_drew ?_)));(case side2 => exact (Kd.S_reads' HO194.out).2.1);(case side3 => repeat (first | exact (Kd.S_reads' HO200.out).2.2 | (with_reducible refine Kd.C_alloc ?_ _) | (with_reducible refine Kd.C_drewN ?_ _) | (with_reducible refine Kd.C_drew ?_)));(case side4 => exact (Kd.S_reads' HO200.out).2.1);rintro e w13 ⟨rfl,hb⟩;refine ⟨_,rfl,?_⟩;have n0_ := Aside0.mk (Kd.S_below (by (with_reducible repeat (first | apply Kd.S_alloc | apply Kd.S_drewN | apply Kd.S_drew));exact HO194.out) hb);have n1_ := Aside0.mk (Kd.S_below (by (with_reducible repeat (first | apply Kd.S_alloc | apply Kd.S_drewN | apply Kd.S_drew));exact HO200.out) hb);have n2_ := Aside0.mk (below_step au0 hb);clear HO194;clear HO200;clear HB;have HO194 := n0_;have HO200 := n1_;have HB := n2_;clear n0_ n1_ n2_;(try clear hb);(try clear hb2);(try clear hk);(try clear hi)))
  go_ret
  exact ⟨au2,au0⟩
 ·replace c4 := Bool.eq_false_iff.mpr c4
  subst c4
  have H1 : (some false) = some r := by rw [if_neg (show ¬ (false = true) by decide)] at H;exact H
  clear H
  have H := H1
  clear H1
  obtain rfl := Option.some.inj H
  cases hr_
end Go.Proofs.YtnpjaaldppemlaaDoor.U
end
section
namespace Go.Proofs.YtnpjaaldppemlaaDoor.Pu
open Go Go.RowKit Go.Proofs.YtnpjaaldppemlaaDoor.Mu Go.Proofs.YtnpjaaldppemlaaDoor.U Go.Proofs.YtnpjaaldppemlaaDoorW.PrintWords Go.Proofs.YtnpjaaldppemlaaDoorW.PrintLast Go.Proofs.YtnpjaaldppemlaaDoorW.PrintMore
set_option linter.unusedVariables false
theorem ev_if {α : Type} {c : Prop} [Decidable c] {a b : Nat → Option α} {v v' : α} (h : c → Ev a v) (h' : ¬ c → Ev b v') : Ev (fun k => if c then a k else b k) (if c then v else v') := by
 by_cases hc : c
 ·rw [if_pos hc];exact ev_pos hc (h hc)
 ·rw [if_neg hc];exact ev_neg hc (h' hc)
theorem ne_len {a b : Nat} (h : ((a : Int) != (b : Int)) = false) : a = b := by
 have h3 : (a : Int) = (b : Int) := by simpa using h
 omega
abbrev Cz := S35
/-- Do the n cells from number i on differ nowhere? -/
def rowFrom (a b : List Cz) : Nat → Nat → Bool
 | 0,_ => true
 | n + 1,i => if (!(((rd_T35 a (i : Int)).f0.toList) == ((rd_T35 b (i : Int)).f0.toList)) || (!((rd_T35 a (i : Int)).f1 == (rd_T35 b (i : Int)).f1))) = true then false else rowFrom a b n (i + 1)
def rowE (a b : List Cz) : Bool := if (a.length : Int) = (b.length : Int) then rowFrom a b a.length 0 else false
def rowsFrom (A B : List (List Cz)) : Nat → Nat → Bool
 | 0,_ => true
 | n + 1,i => if rowE (rd_L3 A (i : Int)) (rd_L3 B (i : Int)) = true then rowsFrom A B n (i + 1) else false
/-- The same frames. -/
def frE (w : Int) (A : List (List Cz)) (r c w' : Int) (B : List (List Cz)) (r' c' : Int) : Bool := if w = w' then (if (!(r == r') || (!(c == c'))) = true then false else if ((A.length : Int) != (B.length : Int)) = true then false else rowsFrom A B A.length 0) else false
theorem rowFrom_refl (a : List Cz) : ∀ n i,rowFrom a a n i = true
 | 0,_ => rfl
 | n + 1,i => by rw [rowFrom,if_neg (by simp)];exact rowFrom_refl a n (i + 1)
theorem rowE_refl (a : List Cz) : rowE a a = true := by unfold rowE;rw [if_pos rfl];exact rowFrom_refl a _ _
theorem rowsFrom_refl (A : List (List Cz)) : ∀ n i,rowsFrom A A n i = true
 | 0,_ => rfl
 | n + 1,i => by rw [rowsFrom,if_pos (rowE_refl _)];exact rowsFrom_refl A n (i + 1)
theorem frE_refl (w : Int) (A : List (List Cz)) (r c : Int) : frE w A r c w A r c = true := by
 unfold frE
 rw [if_pos rfl,if_neg (by simp),if_neg (by simp)]
 exact rowsFrom_refl A _ _
theorem srow_loop (a b : List Cz) (ha : a.length ≤ 1099511627776) (hb : a.length = b.length) : ∀ n i : Nat,i + n = a.length → Ev (fun k => bodkinref20_SameRow.l0 k a b (i : Int)) (rowFrom a b n i) := by
 intro n
 induction n with
 | zero => intro i hi;exact Ev.step (fun k => bodkinref20_SameRow.l0.eq_2 ..) (ev_neg (by omega) (Ev.now _))
 | succ n ih =>
  intro i hi
  refine Ev.step (fun k => bodkinref20_SameRow.l0.eq_2 ..) (ev_pos (by omega) (ev_pos (by omega) (ev_pos (by omega) ?_)))
  rw [rowFrom]
  refine ev_if (fun h => Ev.now _) (fun h => ?_)
  rw [w64 (by omega) (by omega)]
  exact ih (i + 1) (by omega)
theorem srow_ans (a b : List Cz) (ha : a.length ≤ 1099511627776) : Ev (fun k => bodkinref20_SameRow.f k a b) (rowE a b) := by
 unfold bodkinref20_SameRow.f rowE
 exact ev_if (fun h => srow_loop a b ha (by omega) a.length 0 (by omega)) (fun h => Ev.now _)
/-- No row is too long. -/
def Rb (A : List (List Cz)) : Prop := A.length ≤ 1099511627776 ∧ ∀ i : Int,(rd_L3 A i).length ≤ 1099511627776
theorem rsame_loop (w r c w' r' c' : Int) (A B : List (List Cz)) (hA : Rb A) (hB : A.length = B.length) : ∀ n i : Nat,i + n = A.length → Ev (fun k => bodkinref20_Same.l0 k (i : Int) w A r c w' B r' c') (rowsFrom A B n i) := by
 have hA1 := hA.1
 intro n
 induction n with
 | zero => intro i hi;exact Ev.step (fun k => bodkinref20_Same.l0.eq_2 ..) (ev_neg (by omega) (Ev.now _))
 | succ n ih =>
  intro i hi
  refine Ev.step (fun k => bodkinref20_Same.l0.eq_2 ..) (ev_pos (by omega) (ev_pos (by omega) (ev_pos (by omega) (Ev.bind (srow_ans _ _ (hA.2 _)) ?_))))
  rw [rowsFrom]
  refine ev_if (fun h => ?_) (fun h => Ev.now _)
  rw [w64 (by omega) (by omega)]
  exact ih (i + 1) (by omega)
theorem rsame_j (w r c w' r' c' : Int) (A B : List (List Cz)) (hA : Rb A) (b : Bool) (hb : b = false → A.length = B.length) : Ev (fun k => bodkinref20_Same.j0 k b w A r c w' B r' c') (if b = true then false else rowsFrom A B A.length 0) := by
 refine Ev.step (fun k => bodkinref20_Same.j0.eq_2 ..) ?_
 cases b with
 | true => exact ev_pos rfl (Ev.now _)
 | false => exact ev_neg (by simp) (rsame_loop w r c w' r' c' A B hA (hb rfl) A.length 0 (by omega))
theorem rsame_ans (w r c w' r' c' : Int) (A B : List (List Cz)) (hA : Rb A) : Ev (fun k => bodkinref20_Same.f k w A r c w' B r' c') (frE w A r c w' B r' c') := by
 unfold bodkinref20_Same.f frE
 refine ev_if (fun h => ev_if (fun h2 => ?_) (fun h2 => ?_)) (fun h => ?_)
 ·exact rsame_j w r c w' r' c' A B hA true (by simp)
 ·exact rsame_j w r c w' r' c' A B hA _ ne_len
 ·exact rsame_j w r c w' r' c' A B hA true (by simp)
theorem rsame_refl (w r c : Int) (A : List (List Cz)) (hA : Rb A) : Ev (fun k => bodkinref20_Same.f k w A r c w A r c) true := by
 have h := rsame_ans w r c w r c A A hA
 rwa [frE_refl] at h
theorem rblank_loop (n : Int) (m : Int) : ∀ (d i : Nat),(i + d : Nat) = (mn (mx n 1) 65535).toNat → Ev (fun k => bodkinref20_Blank.l0 k n (i : Int) m (List.replicate i []) 0 0) (m,List.replicate (mn (mx n 1) 65535).toNat [],0,0) := by
 have hb : 1 ≤ mn (mx n 1) 65535 ∧ mn (mx n 1) 65535 ≤ 65535 := by unfold mn mx;split <;> split <;> omega
 intro d
 induction d with
 | zero =>
  intro i hi
  refine Ev.step (fun k => bodkinref20_Blank.l0.eq_2 ..) (ev_some rfl (ev_neg (by omega) (ev_now ?_)))
  rw [← hi,Nat.add_zero]
 | succ d ih =>
  intro i hi
  refine Ev.step (fun k => bodkinref20_Blank.l0.eq_2 ..) (ev_some rfl (ev_pos (by omega) (ev_pos (by rw [List.length_replicate];omega) ?_)))
  rw [w64 (by omega) (by omega)]
  have e : List.replicate i ([] : List Cz) ++ [[]] = List.replicate (i + 1) [] := by rw [List.replicate_succ']
  rw [e]
  exact ih (i + 1) (by omega)
theorem rblank_ans (w n : Int) : Ev (fun k => bodkinref20_Blank.f k w n) (mn (mx w 1) 65535,List.replicate (mn (mx n 1) 65535).toNat [],0,0) := by
 unfold bodkinref20_Blank.f
 exact ev_some rfl (rblank_loop n _ (mn (mx n 1) 65535).toNat 0 (by omega))
theorem lblank_f (w n : Int) : layout_Blank.f w n = some (mn (mx w 1) 65535,List.replicate (mn (mx n 1) 65535).toNat [],0,0) := by
 have hb : 1 ≤ mn (mx n 1) 65535 ∧ mn (mx n 1) 65535 ≤ 65535 := by unfold mn mx;split <;> split <;> omega
 unfold layout_Blank.f layout_held.f
 rw [Option.bind_some,if_pos (by omega),if_pos (by omega)]
end Go.Proofs.YtnpjaaldppemlaaDoor.Pu
end
section
namespace Go.Proofs.YtnpjaaldppemlaaDoor.Pu
open Go Go.RowKit Go.Proofs.YtnpjaaldppemlaaDoor.Mu Go.Proofs.YtnpjaaldppemlaaDoor.U Go.Proofs.YtnpjaaldppemlaaDoorW.PrintWords Go.Proofs.YtnpjaaldppemlaaDoorW.PrintLast Go.Proofs.YtnpjaaldppemlaaDoorW.PrintMore
set_option linter.unusedVariables false
theorem awake20 : Ev (fun k => bodkinlaw20_awake.f k) true := Ev.of (fun k => bodkinlaw20_awake.mono k) (k := 200) (by kernel_rfl)
end Go.Proofs.YtnpjaaldppemlaaDoor.Pu
end
section
namespace Go.Proofs.YtnpjaaldppemlaaDoor.Pure
open Go Go.RowKit Go.Proofs.YtnpjaaldppemlaaDoor.Mu Go.Proofs.YtnpjaaldppemlaaDoor.Pu Go.Proofs.YtnpjaaldppemlaaDoor.U Go.Proofs.YtnpjaaldppemlaaDoorW.PrintWords Go.Proofs.YtnpjaaldppemlaaDoorW.PrintLast Go.Proofs.YtnpjaaldppemlaaDoorW.PrintMore
set_option linter.unusedVariables false
theorem LayoutBlank (a0 : Int) (a1 : Int) (_w0 : (Lit.int .i64 a0).wf = true) (_w1 : (Lit.int .i64 a1).wf = true) : ∃ k,bodkinlaw20_LayoutBlank.f k a0 a1 = some true := by
 apply Ev.rounds
 unfold bodkinlaw20_LayoutBlank.f
 have hb : 1 ≤ mn (mx a1 1) 65535 ∧ mn (mx a1 1) 65535 ≤ 65535 := by unfold mn mx;split <;> split <;> omega
 refine Ev.bind awake20 (ev_pos rfl (ev_some (lblank_f a0 a1) (Ev.bind (rblank_ans a0 a1) ?_)))
 have hR : Rb (List.replicate (mn (mx a1 1) 65535).toNat ([] : List Cz)) := by
  refine ⟨by rw [List.length_replicate];omega,fun i => ?_⟩
  unfold rd_L3
  rw [List.getD_eq_getElem?_getD,List.getElem?_replicate]
  split <;> simp
 exact Ev.bind (rsame_refl _ 0 0 _ hR) (Ev.now _)
end Go.Proofs.YtnpjaaldppemlaaDoor.Pure
end
section
namespace Go.Proofs.YtnpjaaldppemlaaDoor.Lf
open Go.Lib Go.Proofs
theorem own : ownKnob Tryd.prog.godebug = none := by kernel_rfl
theorem extra : U8Extra Tryd.prog Tryd.lays260_ren := {
 n3 := by kernel_rfl
 n4 := by kernel_rfl
 y3 := by kernel_rfl
 y4 := by kernel_rfl
 c5 := by kernel_rfl
 c119 := by kernel_rfl
 c138 := by kernel_rfl }
theorem first_eq : Rows.laid_unicode_utf8_first = Lib.firstData := by kernel_rfl
theorem accept_eq : (Rows.laid_unicode_utf8_acceptRanges : DataW Unit) = Lib.acceptData := by kernel_rfl
abbrev laid : List (String × DataW Unit) := [("unicode/utf8.acceptRanges", Rows.laid_unicode_utf8_acceptRanges), ("unicode/utf8.first", Rows.laid_unicode_utf8_first)]
/-- The two tables lie as the contracts ask. -/
theorem tabs {W : World} (h : laidMetH Tryd.prog laid W) : Lib.Utf8Tabs 0 1 W := by
  rw [MakeChecks.laidMetH_plain _ _ _ (by kernel_rfl)] at h
  have h3 := laidMet.reads h (n := "unicode/utf8.first") (d := Rows.laid_unicode_utf8_first) (List.mem_cons_of_mem _ List.mem_cons_self)
  have h4 := laidMet.reads h (n := "unicode/utf8.acceptRanges") (d := Rows.laid_unicode_utf8_acceptRanges) List.mem_cons_self
  rw [first_eq] at h3
  rw [accept_eq] at h4
  exact utf8Tabs_of_reads Tryd.lays260 extra h3 h4
/-- The world of the witness: the settled one,the tables laid. -/
noncomputable abbrev wit (os : Os) : World := World.laidAll Tryd.prog os laid
theorem wit_laid (os : Os) (args : Array Value) : laidMetH Tryd.prog laid ((wit os).forCall (fun _ _ => 0) ⟨#[],args,[]⟩).memory := by
 rw [MakeChecks.laidMetH_plain _ _ _ (by kernel_rfl)]
 exact laidMet_laidAll _ (by kernel_rfl) (by kernel_rfl)
theorem wit_shaped (os : Os) (args : Array Value) : ((wit os).forCall (fun _ _ => 0) ⟨#[],args,[]⟩).Shaped Tryd.prog :=
 World.shaped_of_ZipB (by kernel_rfl) (by kernel_rfl)
end Go.Proofs.YtnpjaaldppemlaaDoor.Lf
end
