/- What the law LayoutLays reaches of this seat's own texts, merged; what nothing uses is left out. -/
import Derived.Test.YtnpjaaldppemlaaDoorZLayoutLays0
import Derived.Test.YtnpjaaldppemlaaDoorZLayoutLays1
import Derived.Test.YtnpjaaldppemlaaDoorZLayoutLays6
import Derived.Test.YtnpjaaldppemlaaDoorZLayoutLays8
section
namespace Go.Proofs.YtnpjaaldppemlaaDoor.U
open Go.RowKit Go.Shelf Go.Proofs.YtnpjaaldppemlaaDoor.Mu Go.Proofs.YtnpjaaldppemlaaDoor.Pu Go.Proofs.YtnpjaaldppemlaaDoor.Rg Go.Proofs.YtnpjaaldppemlaaDoorW.PrintWords Go.Proofs.YtnpjaaldppemlaaDoorW.PrintLast Go.Proofs.YtnpjaaldppemlaaDoorW.PrintMore
attribute [local go_sem] Oper.semAt_some
set_option linter.unusedVariables false
set_option linter.unusedSimpArgs false
abbrev Pl := S27
abbrev kPl : Kd Pl := k27
def Ly.pl (s : Ly) : Pl := ⟨s.1.length,s.2.length⟩
/-- The pen's places behind each cluster. -/
def plsL (wd : Int) (t : ByteArray) : Ly → List S60 → List Pl
 | _,[] => []
 | st,c :: cs => (layC wd t st c).pl :: plsL wd t (layC wd t st c) cs
theorem plsL_snoc (wd : Int) (t : ByteArray) (c : S60) : ∀ (cs : List S60) (st : Ly),plsL wd t st (cs ++ [c]) = plsL wd t st cs ++ [(layC wd t (layL wd t st cs) c).pl]
 | [],_ => rfl
 | x :: cs,st => by rw [List.cons_append,plsL,plsL,plsL_snoc wd t c cs];rfl
theorem plsL_len (wd : Int) (t : ByteArray) : ∀ (cs : List S60) (st : Ly),(plsL wd t st cs).length = cs.length
 | [],_ => rfl
 | x :: cs,st => by rw [plsL,List.length_cons,plsL_len wd t cs,List.length_cons]
theorem sees4 {w w' : World} {a0 a1 a2 a3 : Addr} {v0 v1 v2 v3 : Value} (h : w.cell? a0 = some v0 ∧ w.cell? a1 = some v1 ∧ w.cell? a2 = some v2 ∧ w.cell? a3 = some v3) (hb : Below w.heap.size w w') : w'.cell? a0 = some v0 ∧ w'.cell? a1 = some v1 ∧ w'.cell? a2 = some v2 ∧ w'.cell? a3 = some v3 := ⟨cell_below h.1 hb,cell_below h.2.1 hb,cell_below h.2.2.1 hb,cell_below h.2.2.2 hb⟩
/-- The boxes of Places' variables. -/
def nbP (w0 bg : Nat) (k : Nat) : Prop := k = w0 ∨ k = bg ∨ k = bg + 2 ∨ k = bg + 3
/-- A row of places of the call's own,below B,in the box b. -/
def AllIn (n₀ b B : Nat) (W : World) (pl : List Pl) : Prop := ∃ v,Boxed W b 43 v ∧ Kd.R kPl 27 W n₀ (fun k => k < B) v pl
/-- What Places' variables hold behind the clusters pre. -/
structure PlInv (w : World) (t : ByteArray) (m : Int) (p bg : Nat) (st : Ly) (pl : List Pl) (B : Nat) (W : World) : Prop where
 gr : GrIn 65 w.heap.size p (nbP w.heap.size bg) B W m st
 txt : Boxed W w.heap.size 9 (.string t)
 ptr : Boxed W bg 62 (.pointer (some ⟨p,0,none⟩))
 all : AllIn w.heap.size (bg + 2) B W pl
 cls : Boxed W (bg + 3) 9 (.string t)
 bel : Below w.heap.size w W
 low : bg + 3 < B
theorem AllIn.mono {n₀ b B B' : Nat} {W : World} {pl : List Pl} (h : AllIn n₀ b B W pl) (hB : B ≤ B') : AllIn n₀ b B' W pl := by
 obtain ⟨v,h1,h2⟩ := h
 exact ⟨v,h1,Kd.R_mono h2 (fun k hk => Nat.lt_of_lt_of_le hk hB)⟩
theorem AllIn.below {n₀ b B : Nat} {W w1 : World} {pl : List Pl} (h : AllIn n₀ b B W pl) (hb : Below W.heap.size W w1) : AllIn n₀ b B w1 pl := by
 obtain ⟨v,h1,h2⟩ := h
 exact ⟨v,boxed_below h1 hb,Kd.R_below h2 hb⟩
/-- Where all cells of places stand as they stood. -/
theorem AllIn.move {n₀ b B : Nat} {W w1 : World} {pl : List Pl} (h : AllIn n₀ b B W pl) (hb : w1.heap[b]? = W.heap[b]?) (hm : ∀ (k : Nat) (cs : Array Value),W.heap[k]? = some (Obj.cells cs 27 (0,0)) → w1.heap[k]? = W.heap[k]?) : AllIn n₀ b B w1 pl := by
 obtain ⟨v,h1,h2⟩ := h
 refine ⟨v,hb.trans h1,Kd.R_mono (Kd.R_move (Kd.R_bound h2) (fun k hk => ?_)) (fun k hk => hk.1)⟩
 obtain ⟨_,_,_,q,hq,cs,hc⟩ := hk
 have hq' : q = 27 := by
  rcases List.mem_cons.1 hq with h | h
  ·exact h
  ·exact absurd h (by simp [kPl,k27,Kd.iso,Kd.pair,Kd.int,Kd.scalar])
 subst hq'
 exact hm k cs hc
theorem AllIn.grow {n₀ b B : Nat} {X Y : World} {row : Option Nat} {pl : List Pl} (h : AllIn n₀ b B X pl) (hg : X.grownBy Y row) (hr : ∀ r,row = some r → ∃ o : Obj,X.heap[r]? = some o ∧ o.isCells = false) : AllIn n₀ b B Y pl := by
 refine h.move ?_ (fun k cs hc => hg.block k (blk_lt hc) (fun e => ?_))
 ·obtain ⟨v,h1,h2⟩ := h
  exact (boxed_grow h1 hg hr).trans h1.symm
 ·obtain ⟨o,ho,hc'⟩ := hr k e.symm
  rw [hc] at ho
  cases ho
  cases hc'
theorem PlInv.grow {w : World} {t : ByteArray} {m : Int} {p bg : Nat} {st : Ly} {pl : List Pl} {B : Nat} {X Y : World} {row : Option Nat} (h : PlInv w t m p bg st pl B X) (hg : X.grownBy Y row) (hr : ∀ r,row = some r → w.heap.size ≤ r ∧ ∃ o : Obj,X.heap[r]? = some o ∧ o.isCells = false) : PlInv w t m p bg st pl B Y := by
 have hr' : ∀ r,row = some r → ∃ o : Obj,X.heap[r]? = some o ∧ o.isCells = false := fun r e => (hr r e).2
 exact ⟨h.gr.grow hg hr',boxed_grow h.txt hg hr',boxed_grow h.ptr hg hr',h.all.grow hg hr',boxed_grow h.cls hg hr',h.bel.grown hg h.bel.size (fun k e => (hr k e).1),h.low⟩
theorem PlInv.below {w : World} {t : ByteArray} {m : Int} {p bg : Nat} {st : Ly} {pl : List Pl} {B : Nat} {X Y : World} (h : PlInv w t m p bg st pl B X) (hb : Below X.heap.size X Y) : PlInv w t m p bg st pl B Y :=
 ⟨h.gr.below hb,boxed_below h.txt hb,boxed_below h.ptr hb,h.all.below hb,boxed_below h.cls hb,h.bel.trans (hb.mono h.bel.size),h.low⟩
def pl6.T : Bool × List (List Nat × List Nat) := (true,[([],[]),([],[]),([1],[1]),([2],[2]),([3],[3]),([4],[4]),([0,5],[0,5]),([6,6,0,1,2,3,4,5,6],[6])])
def pl6.B : List Nat := [0,0,2,6,14,30,63,127]
theorem pl6.tab : rtab .any (opsOf Tryd.f25 6) = pl6.T := by kernel_rfl
theorem pl6.bits : waitsOk pl6.T.2 pl6.B = true := by kernel_rfl
set_option maxRecDepth 100000 in
set_option maxHeartbeats 4000000 in
theorem places_any (pt t : ByteArray) (width m : Int) (w : World) (hps : pt.size ≤ 68719476736) (hs : t.size ≤ 68719476736) (hm : layout_held.f width = some m) (hT : Lib.Utf8Tabs 0 1 w) (st0 : Ly) (hst0 : layL m pt ([],[]) (clusL pt) = st0) (RW : List Pl) (hRW : Hid (st0.pl :: plsL m t st0 (clusL t) = RW)) :
  Calls Tryd.prog 25 #[.string pt,.string t,.int .i64 width] w fun e w' => ∃ rv,e = .returned rv ∧ Kd.R kPl 27 w' w.heap.size (fun _ => True) rv RW ∧ Below w.heap.size w w' := by
 have hlen : (clusL t).length ≤ t.size := clusL_length t
 have hIn0 : st0.In m := by rw [← hst0];exact layL_in _ _ _ _ (ly_new (held_in hm).1 (held_in hm).2)
 have hLn0 : st0.1.length ≤ 3 * pt.size := by
  rw [← hst0]
  have h1 := layL_len m pt (clusL pt) ([],[])
  have h2 := clusL_length pt
  simp at h1
  omega
 refine (callsIn_wide (n := 6)).1 ?_
 refine callsIn_of_wp_marks Tryd.func25 rfl trivial ?_ rfl
 simp only [Tryd.ntmps25,List.size_toArray,List.length_cons,List.length_nil,Nat.reduceAdd,Nat.reduceSub,Array.replicate_succ,Array.replicate_zero,List.push_toArray,List.append_toArray,List.nil_append,List.cons_append]
 gi_upto_region 2 with (refine ⟨trivial,?_⟩;gi_at_call 34;refine (callsIn_wide.2 (prompted_any pt width m _ hps hm (tabs_below hT (below_alloc (Below.refl _ _) _)))).mono ?_;rintro e w1 ⟨p,rfl,hp,hG,hb1⟩)
 rw [hst0] at hG
 have hplt := hG.lt
 have hW1 := boxed_below (Boxed.new w 9 (.string t)) hb1
 have hb0 : Below w.heap.size w w1 := (below_alloc (Below.refl w.heap.size w) (.cells #[.string t] 9 (0,0))).trans (hb1.mono (by simp))
 have hsz1 := hb1.size
 rw [World.size_alloc] at hp hG hsz1
 have hGr : GrIn 65 w.heap.size p (nbP w.heap.size w1.heap.size) w1.heap.size w1 m st0 :=
  ⟨(hG.lower (base' := w.heap.size) (by omega)).mono (fun k hk => ⟨hk.2.2,fun h => by have h1 := hk.2.1;have h2 := hk.2.2;unfold nbP at h;omega,hk.1⟩) (fun hk => hk.2.2 rfl),hplt⟩
 clear hG
 have c9 := hGr.1.row
 have c10 := hGr.1.col
 gi_upto_region 3 with (fail)
 obtain ⟨V,hV⟩ : ∃ V,((w1.alloc (.cells #[.pointer (some ⟨p,0,none⟩)] 62)).alloc (.cells #[.int .i64 (st0.1.length : Int),.int .i64 (st0.2.length : Int)] 27)).alloc (.cells #[.slice (some ⟨w1.heap.size + 1,0,none⟩) 1 1] 43) = V := ⟨_,rfl⟩
 try rw [hV]
 try simp only [Nat.add_assoc,Nat.reduceAdd]
 have hVb : Below w1.heap.size w1 V := by rw [← hV];exact below_alloc (below_alloc (below_alloc (Below.refl _ _) _) _) _
 have hVs : V.heap.size = w1.heap.size + 3 := by rw [← hV];simp
 have hV0 : Boxed V w1.heap.size 62 (.pointer (some ⟨p,0,none⟩)) := by rw [← hV];exact ((Boxed.new w1 _ _).alloc _).alloc _
 have hV2 : Boxed V (w1.heap.size + 2) 43 (.slice (some ⟨w1.heap.size + 1,0,none⟩) 1 1) := by
  rw [← hV]
  have := Boxed.new ((w1.alloc (.cells #[.pointer (some ⟨p,0,none⟩)] 62)).alloc (.cells #[.int .i64 (st0.1.length : Int),.int .i64 (st0.2.length : Int)] 27)) 43 (.slice (some ⟨w1.heap.size + 1,0,none⟩) 1 1)
  rw [World.size_alloc,World.size_alloc] at this
  exact this
 have hV3 : Kd.R kPl 27 V w.heap.size (fun k => k < w1.heap.size + 4) (.slice (some ⟨w1.heap.size + 1,0,none⟩) 1 1) [st0.pl] := by
  rw [← hV]
  refine Kd.R_alloc ⟨fun k hk => ?_,[.int .i64 (st0.1.length : Int),.int .i64 (st0.2.length : Int)],?_,?_⟩ _
  ·have : w1.heap.size + 1 = k := by simpa [Value.ownBlock] using hk
   omega
  ·have h2 := World.ownsRow_lit (base := w.heap.size) (e := 27) (size := 2) (w1.alloc (.cells #[.pointer (some ⟨p,0,none⟩)] 62)) #[.int .i64 (st0.1.length : Int),.int .i64 (st0.2.length : Int)] 1 (by rw [World.size_alloc];omega) (by decide) rfl
   rw [World.size_alloc] at h2
   have hz : kPl.sz = 2 := rfl
   rw [hz]
   exact (by simpa using h2)
  ·exact Reps.c2 (k27_mkM _ _ _ st0.pl) (Reps.none _ _)
 have hV4 := boxed_below hW1 hVb
 have hV5 : Below w.heap.size w V := hb0.trans (hVb.mono hb0.size)
 have hVg := (hGr.below hVb).mono (B' := w1.heap.size + 4) (by omega)
 clear hV hGr hb0 hb1 hW1 c9 c10 hVb
 generalize w1.heap.size = bg at *
 clear w1
 have c11 := hV4.cell
 have l11 := hV4.lt
 gi_wp2_with (refine ⟨trivial,?_⟩;gi_at_call 35;refine (callsIn_wide.2 (cwalk_calls t _)).mono ?_;rintro e w' ⟨rfl,rfl⟩)
 obtain ⟨W0,hW0⟩ : ∃ W0,V.alloc (.cells #[.string t] 9) = W0 := ⟨_,rfl⟩
 try rw [hW0]
 have hsz : W0.heap.size = bg + 4 := by rw [← hW0,World.size_alloc,hVs]
 have hI0 : PlInv w t m p bg st0 [st0.pl] (bg + 4) W0 := by
  rw [← hW0]
  have hb2 : Below V.heap.size V (V.alloc (.cells #[.string t] 9)) := below_alloc (Below.refl _ _) _
  refine ⟨hVg.below hb2,boxed_below hV4 hb2,boxed_below hV0 hb2,AllIn.below ⟨_,hV2,hV3⟩ hb2,?_,hV5.trans (hb2.mono hV5.size),by omega⟩
  have := Boxed.new V 9 (.string t)
  rwa [hVs] at this
 clear hW0 hV0 hV2 hV3 hV4 hV5 hVg c11 l11
 try rw [hVs]
 clear hVs
 have hF0 : Ly.Fit m st0 := hIn0.1
 refine range_outer (α := S60) rfl (by omega) (gf := 52) (lb := #[.pointer (some ⟨bg + 3,0,none⟩)]) rfl trivial (enters_of Tryd.func52 (by kernel_rfl) rfl)
  (cwalk1_seq 5 (by omega) w W0 t (bg + 3) (by omega) hT hI0.bel hI0.cls) (Below.refl _ _) (fun _ => rfl) (by omega)
  (fun (B : Nat) (pre : List S60) (W : World) => PlInv w t m p bg (layL m t st0 pre) (st0.pl :: plsL m t st0 pre) B W)
  (fun _ _ _ => False)
  (fun B pre X Y row h hg hr => h.grow hg (fun r e => ⟨by have := (hr r e).1;omega,(hr r e).2⟩))
  (fun B B' pre W hBB h => ⟨h.gr.mono hBB,h.txt,h.ptr,h.all.mono hBB,h.cls,h.bel,Nat.lt_of_lt_of_le h.low hBB⟩)
  (fun _ _ _ _ _ hs _ _ => hs)
  (by rw [hsz];exact hI0)
  (fun (x : S60) (a' : Act) (W : World) => ∃ Bx,Hid (W.heap[Bx]? = some (.cells #[.int .i64 x.f0,.int .i64 x.f1,.int .i64 x.f2,.int .i64 x.f3] 60 (0,0))) ∧ a' = { tmps := #[.string pt,.string t,.int .i64 width,undef,.pointer (some ⟨w.heap.size,0,none⟩),undef,.slice none 0 0,.pointer (some ⟨bg,0,none⟩),.pointer (some ⟨bg + 2,0,none⟩),.pointer (some ⟨Bx,0,none⟩),.string pt,.int .i64 width,.pointer (some ⟨p,0,none⟩),.pointer (some ⟨p,0,none⟩),.pointer (some ⟨p,0,none⟩),.pointer (some ⟨p,2,none⟩),.agg #[.int .i64 (st0.1.length : Int),.int .i64 (st0.2.length : Int)],.slice (some ⟨bg + 1,0,none⟩) 1 1,.string t,.func (.func 52) #[] #[.pointer (some ⟨bg + 3,0,none⟩)],.agg #[.int .i64 x.f0,.int .i64 x.f1,.int .i64 x.f2,.int .i64 x.f3],undef,undef,undef,undef,undef,undef,undef,undef,undef,undef,undef,undef],defers := [] })
  (fun x a' _ X Y row hs hg hr => by
   obtain ⟨Bx,h1,h2⟩ := hs
   refine ⟨Bx,?_,h2⟩
   refine (hg.block Bx (Array.getElem?_eq_some_iff.1 h1).1 (fun e => ?_)).trans h1
   obtain ⟨_,o,ho,hc⟩ := hr Bx e.symm
   rw [show X.heap[Bx]? = _ from h1] at ho;cases ho;cases hc)
  ?assign ?body ?done ?stop
 case assign =>
  rintro l B pre x W K hCW hBW hI hK
  have hsz1 := hI.bel.size
  gi_wp2
  exact hK _ _ ((KeepsOthers.alloc _ _).from _) (KeepB.of_below hsz1 ((Below.refl _ W).alloc (Nat.le_refl _) _)) (hI.below ((Below.refl _ W).alloc (Nat.le_refl _) _)) ⟨W.heap.size,Lib.hid (World.alloc_heap_new W _),rfl⟩
 case body =>
  rintro l B pre x a' W hl hCW hr hBW hI ⟨Bx,hBx,rfl⟩ hlt hpx
  obtain ⟨i,hci,hiS,hxe⟩ : ∃ i : Nat,CB t i ∧ i < t.size ∧ x = clAt t i := clus_mem t t.size 0 (cb_zero t) x (hpx.subset (by simp))
  have hx0 : 0 ≤ x.f0 := by rw [hxe];exact Int.natCast_nonneg _
  have hx1 : x.f0 ≤ x.f1 := by rw [hxe];have := nxt_up t _ i (Nat.le_refl _) hiS;show (i : Int) ≤ (nxt t i : Int);omega
  have hx2 : x.f1 ≤ t.size := by rw [hxe];have := nxt_le t i hci.1 hiS;show (nxt t i : Int) ≤ (t.size : Int);omega
  have hst : Hid (layL m t st0 (pre ++ [x]) = layC m t (layL m t st0 pre) x) := Lib.hid (layL_snoc _ _ _ _ _)
  have hpst : Hid (st0.pl :: plsL m t st0 (pre ++ [x]) = (st0.pl :: plsL m t st0 pre) ++ [(layC m t (layL m t st0 pre) x).pl]) := Lib.hid (by rw [plsL_snoc,List.cons_append])
  have hFt := layL_fit m t pre _ hF0
  have hLn := layL_len m t pre st0
  have hlt2 : pre.length < t.size := Nat.lt_of_lt_of_le hlt hlen
  have hL2 : (layL m t st0 pre).1.length ≤ 549755813888 := by omega
  have hPn : (st0.pl :: plsL m t st0 pre).length ≤ 68719476737 := by rw [List.length_cons,plsL_len];omega
  generalize layL m t st0 pre = st at hI hst hFt hL2 hpst ⊢
  generalize st0.pl :: plsL m t st0 pre = P at hI hpst hPn ⊢
  clear hLn hxe hpx
  have hTw := tabs_below hT hI.bel
  have cp := hI.ptr.cell
  have ct := hI.txt.cell
  have hpW := hI.gr.1.lt
  have hnb : ∀ k,nbP w.heap.size bg k → k < W.heap.size := by
   intro k hk
   have h1 := hI.txt.lt
   have h2 := hI.cls.lt
   unfold nbP at hk
   omega
  have hnp : ¬ nbP w.heap.size bg p := fun h => by unfold nbP at h;omega
  obtain ⟨x0,x1,x2,x3⟩ := x
  have b0 : W.cell? ⟨Bx,0,none⟩ = some (.int .i64 x0) := by simp [World.cell?,show W.heap[Bx]? = _ from hBx.out]
  have b1 : W.cell? ⟨Bx,1,none⟩ = some (.int .i64 x1) := by simp [World.cell?,show W.heap[Bx]? = _ from hBx.out]
  have b2 : W.cell? ⟨Bx,2,none⟩ = some (.int .i64 x2) := by simp [World.cell?,show W.heap[Bx]? = _ from hBx.out]
  have b3 : W.cell? ⟨Bx,3,none⟩ = some (.int .i64 x3) := by simp [World.cell?,show W.heap[Bx]? = _ from hBx.out]
  have hu60 := Tryd.underlying60
  have hnW : 2 ≤ w.heap.size := by
   have h1 := (hT.2 0 (by decide)).2
   have := World.block_lt_of_cell? w ⟨1,_,none⟩ h1
   exact this
  have hsub : (t.extract x0.toNat x1.toNat).size ≤ 1099511627776 := by simp [ByteArray.size_extract];omega
  dsimp only
  gi_upto_region 6 with (refine ⟨trivial,?_⟩;gi_at_call 36;refine (callsIn_wide.2 (gr_lay hI.gr.ahead.boundT (layOkT_new hnb hpW) hI.bel.size hnW hTw hFt hL2 t ⟨x0,x1,x2,x3⟩ hx0 hx1 hx2 (drawnS (t.extract x0.toNat x1.toNat)) (by unfold cluster_Drawn.f;exact if_pos hsub) _ rfl (decodeGo_le _))).mono ?_;rintro e w2 ⟨rfl,hG2,hB2,hK2⟩)
  have hG3 := hG2.mono (ok' := layOk B p (nbP w.heap.size bg) W) (fun k hk => hk.1) (fun h => h.2.2 rfl)
  have hK3 := kept_more hK2 (S' := fun k => layOk B p (nbP w.heap.size bg) W k ∨ k = p) (fun k hk => hk.imp And.left id)
  have hk := fun C => lay_keeps (C := C) (Pr := fun k => k = bg + 3) hK3 hB2 hI.gr.1.cells hI.gr.2 (fun k hk => ⟨.inr (.inr (.inr hk)),by omega⟩)
  have hb3 : ∀ k,nbP w.heap.size bg k → w2.heap[k]? = W.heap[k]? := fun k hk => hK3.2 k (hnb k hk) (fun h => h.elim (fun h => h.2.1 hk) (fun h => hnp (h ▸ hk)))
  have hpl2 : ∀ (k : Nat) (cs : Array Value),W.heap[k]? = some (Obj.cells cs 27 (0,0)) → w2.heap[k]? = W.heap[k]? := fun k cs hc => hK2.2 k (blk_lt hc) (fun h => h.elim (fun h => h.2 _ _ (.inr rfl) hc) (fun h => by
   obtain ⟨rv,hgp,_⟩ := hI.gr.1.1
   rw [← h,hc] at hgp
   cases hgp))
  have hgr := GrIn.behind hG3
  obtain ⟨st',hst'⟩ : ∃ st',st.lay m x2 x3 (drawnS (t.extract x0.toNat x1.toNat)) (Lib.decodeGo (drawnS (t.extract x0.toNat x1.toNat))).2 = st' := ⟨_,rfl⟩
  rw [hst'] at hgr
  have hst2 : Hid (layL m t st0 (pre ++ [(⟨x0,x1,x2,x3⟩ : S60)]) = st') := Lib.hid (by rw [hst.out,← hst'];rfl)
  have hpst2 : Hid (st0.pl :: plsL m t st0 (pre ++ [(⟨x0,x1,x2,x3⟩ : S60)]) = P ++ [st'.pl]) := Lib.hid (by rw [hpst.out,← hst'];rfl)
  obtain ⟨v,hv,hrow⟩ := hI.all.move (hb3 _ (.inr (.inr (.inl rfl)))) hpl2
  have hI2 : Boxed w2 w.heap.size 9 (.string t) ∧ Boxed w2 bg 62 (.pointer (some ⟨p,0,none⟩)) ∧ Boxed w2 (bg + 3) 9 (.string t) ∧ Below w.heap.size w w2 :=
   ⟨(hb3 _ (.inl rfl)).trans hI.txt,(hb3 _ (.inr (.inl rfl))).trans hI.ptr,(hb3 _ (.inr (.inr (.inr rfl)))).trans hI.cls,hI.bel.trans hB2⟩
  have hlow := hI.low
  have hBw := Nat.le_trans hBW hB2.size
  clear hI hG2 hG3 hK2 hK3 hst hpst hb3 hpl2 cp ct b0 b1 b2 b3 hBx hTw hB2 hst'
  have d4 := hgr.1.row
  have d5 := hgr.1.col
  refine startI_ (m := 8) (S := fun w' => w'.cell? ⟨bg + 2,0,none⟩ = some v ∧ w'.cell? ⟨bg,0,none⟩ = some (.pointer (some ⟨p,0,none⟩)) ∧ w'.cell? ⟨p,2,none⟩ = some (.int .i64 (st'.1.length : Int)) ∧ w'.cell? ⟨p,3,none⟩ = some (.int .i64 (st'.2.length : Int))) (ds := [7]) #[false,false,false,false,false,false,false,false] rfl (by kernel_rfl) rfl rfl ⟨hv.cell,hI2.2.1.cell,d4,d5⟩ (fun hHeld => ?_);refine with_tabW pl6.tab pl6.bits (fun HT_ HW_ => ?_)
  have hgr' : GrIn 65 w.heap.size p (nbP w.heap.size bg) w2.drew.heap.size w2.drew m st' := hgr.below (below_drew (Below.refl _ _))
  have hv' : Boxed w2.drew (bg + 2) 43 v := hv
  have hrow' := Kd.R_drew hrow
  have hI2' : Boxed w2.drew w.heap.size 9 (.string t) ∧ Boxed w2.drew bg 62 (.pointer (some ⟨p,0,none⟩)) ∧ Boxed w2.drew (bg + 3) 9 (.string t) ∧ Below w.heap.size w w2.drew := ⟨hI2.1,hI2.2.1,hI2.2.2.1,below_drew1 hI2.2.2.2⟩
  have hBw' : B ≤ w2.drew.heap.size := hBw
  have hk' : ∀ C,KeepsFrom C W w2.drew ∧ KeepB w.heap.size (fun k => k = bg + 3) B W w2.drew := fun C => ⟨(hk C).1.trans ((KeepsOthers.drew w2).from C),(hk 0).2.trans (KeepB.of_below hI2.2.2.2.size (below_drew (Below.refl _ _)))⟩
  clear hgr hv hrow hI2 d4 d5 hBw hk
  generalize w2.drew = w3 at hgr' hv' hrow' hI2' hHeld hBw' hk' ⊢
  clear w2
  obtain ⟨Av,cv,rfl⟩ := Kd.R_slice hrow'
  refine take_ (i := 0) (N := (some 25)) (v := ?_) (a' := ?_) #[true,false,false,false,false,false,false,false] rfl rfl (take_ofW HT_.out HW_.out (by kernel_rfl)) (fun _ _ _ h => by cases h.1) (Or.inl ⟨by rfl,?_⟩) hHeld ?_ ?_
  rotate_left
  ·rintro w' ⟨s1,s2,s3,s4⟩
   go_simp
   with_reducible rfl
  rotate_left
  ·simp only [Act.put,List.setIfInBounds_toArray,List.set_cons_zero,List.set_cons_succ,i64_w,i32_w]
   rfl
  refine take_ (i := 1) (N := (some 26)) (v := ?_) (a' := ?_) #[true,true,false,false,false,false,false,false] rfl rfl (take_ofW HT_.out HW_.out (by kernel_rfl)) (fun _ _ _ h => by cases h.1) (Or.inl ⟨by rfl,?_⟩) hHeld ?_ ?_
  rotate_left
  ·rintro w' ⟨s1,s2,s3,s4⟩
   go_simp
   with_reducible rfl
  rotate_left
  ·simp only [Act.put,List.setIfInBounds_toArray,List.set_cons_zero,List.set_cons_succ,i64_w,i32_w]
   rfl
  refine pure_ (i := 2) (N := (some 27)) (v := ?_) (a' := ?_) #[true,true,true,false,false,false,false,false] rfl rfl (any_of HT_.out (by kernel_rfl)) (fun _ _ _ h => by cases h.1) (Or.inl ⟨by rfl,?_⟩) ?_ ?_
  rotate_left
  ·intro w'
   go_simp
   with_reducible rfl
  rotate_left
  ·simp only [Act.put,List.setIfInBounds_toArray,List.set_cons_zero,List.set_cons_succ,i64_w,i32_w]
   rfl
  refine pure_ (i := 3) (N := (some 28)) (v := ?_) (a' := ?_) #[true,true,true,true,false,false,false,false] rfl rfl (any_of HT_.out (by kernel_rfl)) (fun _ _ _ h => by cases h.1) (Or.inl ⟨by rfl,?_⟩) ?_ ?_
  rotate_left
  ·intro w'
   go_simp
   with_reducible rfl
  rotate_left
  ·simp only [Act.put,List.setIfInBounds_toArray,List.set_cons_zero,List.set_cons_succ,i64_w,i32_w]
   rfl
  refine take_ (i := 4) (N := (some 29)) (v := ?_) (a' := ?_) #[true,true,true,true,true,false,false,false] rfl rfl (take_ofW HT_.out HW_.out (by kernel_rfl)) (fun _ _ _ h => by cases h.1) (Or.inl ⟨by rfl,?_⟩) hHeld ?_ ?_
  rotate_left
  ·rintro w' ⟨s1,s2,s3,s4⟩
   go_simp
   with_reducible rfl
  rotate_left
  ·simp only [Act.put,List.setIfInBounds_toArray,List.set_cons_zero,List.set_cons_succ,i64_w,i32_w]
   rfl
  refine one_ (i := 5) (N := (some 30)) #[true,true,true,true,true,true,false,false] rfl rfl (one_of HT_.out (by kernel_rfl)) (by decide) (fun K hK => ?_)
  refine value_ (w1 := ?_) (v := ?_) (by rfl) rfl ?_ ?_
  rotate_left 2
  ·go_simp
   constructor
   ·rfl
   ·rfl
  refine hK.out _ _ (sees4 hHeld (below_alloc (Below.refl _ _) _)) (fun hHeld => ?_)
  clear hK K
  refine norm_ (a' := ?_) ?_ ?_
  rotate_left
  ·show Act.put _ (some 30) _ = _
   simp only [Act.put,List.setIfInBounds_toArray,List.set_cons_zero,List.set_cons_succ,i64_w,i32_w]
   rfl
  refine one_ (i := 6) (N := (some 31)) #[true,true,true,true,true,true,true,false] rfl rfl (one_of HT_.out (by kernel_rfl)) (by decide) (fun K hK => ?_)
  refine Kd.R_append_step kPl (w0 := w) w.heap.size (by rfl) (.tmp 25) (.tmp 30) 43 27 (.agg #[.int .i64 0,.int .i64 0]) 16 rfl Tryd.underlying43 info27 rfl (by decide) (by decide) (.slice Av P.length cv) P st'.pl [.int .i64 (st'.1.length : Int),.int .i64 (st'.2.length : Int)] (fun k => k < B ∨ w3.heap.size ≤ k) (fun _ => False) rfl rfl (k27_mkM _ _ _ st'.pl) (fun _ hk => hk.elim) (fun k hk => .inr hk) (Kd.R_mono hrow' (fun k hk => .inl hk)) hI2'.2.2.2 hI2'.2.2.2.size (by omega) ?_
  intro v1 w4 hR4 hB4 hg4 hat4
  have hown := hrow'.1
  have hty : ∀ k,(Value.slice Av P.length cv).ownBlock = some k → ∃ cells,w3.heap[k]? = some (.cells cells 27 (0,0)) := fun k hk => Kd.R_typed hrow' k hk
  obtain ⟨A4,c4,he4⟩ := Kd.R_slice hR4
  rw [List.length_append,List.length_singleton] at he4
  subst he4
  have hne : ∀ {k : Nat} {cs : Array Value} {tt : Nat},w3.heap[k]? = some (.cells cs tt (0,0)) → tt ≠ 27 → some k ≠ (Value.slice Av P.length cv).ownBlock := fun hk ht he => by
   obtain ⟨cells,hc⟩ := hty _ he.symm
   rw [hk] at hc
   cases hc
   exact ht rfl
  have g1 : Boxed w4 w.heap.size 9 (.string t) := (hg4.block _ hI2'.1.lt (hne hI2'.1 (by decide))).trans hI2'.1
  have g2 : Boxed w4 bg 62 (.pointer (some ⟨p,0,none⟩)) := (hg4.block _ hI2'.2.1.lt (hne hI2'.2.1 (by decide))).trans hI2'.2.1
  have g3 : Boxed w4 (bg + 3) 9 (.string t) := (hg4.block _ hI2'.2.2.1.lt (hne hI2'.2.2.1 (by decide))).trans hI2'.2.2.1
  have g4 : Boxed w4 (bg + 2) 43 (.slice Av P.length cv) := (hg4.block _ hv'.lt (hne hv' (by decide))).trans hv'
  have g5 : GrIn 65 w.heap.size p (nbP w.heap.size bg) w3.heap.size w4 m st' := by
   obtain ⟨⟨rv,h1,h2⟩,h3,h4⟩ := hgr'.1
   exact ⟨⟨⟨rv,(hg4.block _ (blk_lt h1) (hne h1 (by decide))).trans h1,Kd.S_over' h2 hty (by decide) hg4⟩,h3,h4⟩,hgr'.2⟩
  have g6 : ∀ C,KeepsFrom C w3 w4 ∧ KeepB w.heap.size (fun k => k = bg + 3) B w3 w4 := fun C => ⟨⟨hg4.size,fun k o _ ho hc => (hg4.block k (Array.getElem?_eq_some_iff.1 ho).1 (fun he => by
   obtain ⟨cells,hc'⟩ := hty k he.symm
   rw [ho] at hc'
   cases hc'
   cases hc)).trans ho⟩,Below.grown (Below.refl _ _) hg4 hI2'.2.2.2.size (fun k he => Kd.R_base hrow' k he),fun k o hk ho hc => (hg4.block k (Array.getElem?_eq_some_iff.1 ho).1 (fun he => by
   have hkB := hown k he.symm
   rcases hk with hk | hk
   ·subst hk
    exact hne hI2'.2.2.1 (by decide) he
   ·omega)).trans ho⟩
  have g7 : Below w.heap.size w w4 := hI2'.2.2.2.trans (g6 0).2.1
  have d4 := g5.1.row
  have d5 := g5.1.col
  refine hK.out _ _ ⟨g4.cell,g2.cell,d4,d5⟩ (fun hHeld => ?_)
  clear hK K
  refine norm_ (a' := ?_) ?_ ?_
  rotate_left
  ·show Act.put _ (some 31) _ = _
   simp only [Act.put,List.setIfInBounds_toArray,List.set_cons_zero,List.set_cons_succ,i64_w,i32_w]
   rfl
  refine last_ (i := 7) (N := none) #[true,true,true,true,true,true,true,true] rfl rfl (one_of HT_.out (by kernel_rfl)) (by decide) (fun K hK => ?_)
  have d6 := g4.cell
  have f6 := g4.frozen
  refine skip_ (w1 := ?_) (by rfl) rfl ?_ ?_
  rotate_left
  ·go_simp
   rfl
  refine hK.out _ _ ?_
  clear hK K
  refine done_ (done_of HT_.out (by kernel_rfl)) ?_
  clear HT_ HW_
  refine ⟨rfl,?_⟩
  have hk4 := fun C => keep_setA (X := w4) (C := C) (B := B) (b := bg + 2) (j := 0) (Pr := fun k => k = bg + 3) g7.size (by omega) (by omega) (fun k hk => by omega) (.slice A4 (P.length + 1) c4)
  have ho : ∀ k,k ≠ bg + 2 → (w4.setCell ⟨bg + 2,0,none⟩ (.slice A4 (P.length + 1) c4)).heap[k]? = w4.heap[k]? := fun k hk => Below.heap_setCell w4 ⟨bg + 2,0,none⟩ _ k hk
  have hse : (w4.setCell ⟨bg + 2,0,none⟩ (.slice A4 (P.length + 1) c4)).heap.size = w4.heap.size := by simp [World.setCell]
  have hR5 : Kd.R kPl 27 (w4.setCell ⟨bg + 2,0,none⟩ (.slice A4 (P.length + 1) c4)) w.heap.size (fun k => k < w4.heap.size) (.slice A4 (P.length + 1) c4) (P ++ [st'.pl]) := by
   refine Kd.R_mono (Kd.R_move (Kd.R_bound hR4) (fun k hk => ho k (fun he => ?_))) (fun k hk => hk.2.2.1)
   obtain ⟨_,_,_,q,hq,cs,hc⟩ := hk
   rw [he] at hc
   rw [show w4.heap[bg + 2]? = _ from g4] at hc
   cases hc
   rcases List.mem_cons.1 hq with h | h
   ·exact absurd h (by decide)
   ·exact absurd h (by simp [kPl,k27,Kd.iso,Kd.pair,Kd.int,Kd.scalar])
  refine ⟨((hk' _).1.trans (g6 _).1).trans (hk4 _).1,((hk' 0).2.trans (g6 0).2).trans (hk4 0).2,?_⟩
  show PlInv w t m p bg (layL m t st0 _) _ _ _
  rw [hst2.out,hpst2.out,hse]
  have hgB := g5.mono (B' := w4.heap.size) hg4.size
  exact ⟨hgB.other (.inr (.inr (.inl rfl))) (by omega) 0 _,(ho _ (by omega)).trans g1,(ho _ (by omega)).trans g2,⟨_,g4.set _,hR5⟩,(ho _ (by omega)).trans g3,g7.setCell (p := ⟨bg + 2,0,none⟩) (by show w.heap.size ≤ bg + 2;omega) _,Nat.lt_of_lt_of_le (Nat.lt_of_lt_of_le hlow hBw') hg4.size⟩
 case done =>
  rintro D ys W hD hys hI hK
  have e : ys = clusL t := hys
  rw [e,hRW.out] at hI
  obtain ⟨v,hv,hrow⟩ := hI.all
  have hc := hv.cell
  gi_wp2
  refine ⟨by simp,.inl ⟨_,_,rfl,run_takeDeferred hK,?_⟩⟩
  refine ⟨_,results_tmp rfl _ _ _,v,rfl,?_,hI.bel.trans (belowK_b (w := w) (Nat.le_refl _) W D _ _ (by omega) hK rfl rfl)⟩
  obtain ⟨h0,inner,ho,hr⟩ := hrow
  refine Kd.R_mono (Kd.R_move (Kd.R_bound ⟨h0,inner,ho,hr⟩) (fun k hk => World.putObj_heap_other (fun he => ?_))) (fun _ _ => trivial)
  obtain ⟨_,_,_,q,hq,cs,hcc⟩ := hk
  have he' : k = D := by first | exact he | exact he.symm
  rw [he',hK] at hcc
  cases hcc
 case stop =>
  rintro D c pre W _ _ h _
  exact h.elim
end Go.Proofs.YtnpjaaldppemlaaDoor.U
end
section
namespace Go.Proofs.YtnpjaaldppemlaaDoor.U
open Go.RowKit Go.Proofs.YtnpjaaldppemlaaDoorW.PrintWords Go.Proofs.YtnpjaaldppemlaaDoorW.PrintLast Go.Proofs.YtnpjaaldppemlaaDoorW.PrintMore
attribute [local go_sem] max2_int min2_int max_two min_two max_three min_three max_four min_four   -- for this text's walks alone
set_option linter.unusedVariables false
set_option linter.unusedSimpArgs false
def bodkinref03_joined.j0 : Nat → Bool → Int → Int → Int → Int → Option (Bool)
 | 0,_,_,_,_,_ => none
 | k + 1,x13,x472000,x472001,x473000,x473001 => if x13 = true then (some true) else ((bodkinref02_Class.f k x472000).bind fun t473 => ((bodkinref02_Class.f k x473000).bind fun t474 => (if t474 = 3 then (if t473 = 1 then (some false) else (some (t473 != 2))) else (some false))))
def bodkinref03_joined.f (k : Nat) (a0_0 : Int) (a0_1 : Int) (a1_0 : Int) (a1_1 : Int) : Option (Bool) := if a0_0 = 13 then (bodkinref03_joined.j0 k (a1_0 == 10) a0_0 a0_1 a1_0 a1_1) else (bodkinref03_joined.j0 k false a0_0 a0_1 a1_0 a1_1)
set_option maxHeartbeats 8000000 in
set_option maxRecDepth 100000 in
theorem bodkinref03_joined.calls (k : Nat) (a0_0 : Int) (a0_1 : Int) (a1_0 : Int) (a1_1 : Int) (r : Bool) (w : World) (h : bodkinref03_joined.f k a0_0 a0_1 a1_0 a1_1 = some r) :
  Calls Tryd.prog 47 #[.agg #[.int .i32 a0_0,.int .i64 a0_1],.agg #[.int .i32 a1_0,.int .i64 a1_1]] w fun e w' => e = .returned (.bool r) ∧ Below w.heap.size w w' := by
 have hu87 := Tryd.underlying87
 have HB := Aside0.mk (Below.refl w.heap.size w)
 have H : (if a0_0 = 13 then (bodkinref03_joined.j0 k (a1_0 == 10) a0_0 a0_1 a1_0 a1_1) else (bodkinref03_joined.j0 k false a0_0 a0_1 a1_0 a1_1)) = some r := h
 clear h
 have HC3 := Aside0.mk H
 clear H
 go_enter Tryd.func47,Tryd.ntmps47
 go_upto_region 1 with (first | ((with_reducible refine gate_dst (N := 2) rfl ?_);refine box_event ?hg (N := 2) ?hd (cs := #[.int .i32 a0_0,.int .i64 a0_1]) (t := 87) ?hr ?_;(case hd => rfl);(case hg => rfl);(case hr => first | (go_simp;done) | (go_simp;rfl));intro gb471 hg w4 hbox hb;have n0_ := Aside0.mk (below_step au0 hb);have n1_ := Aside0.mk (hbox);have n2_ := Aside0.mk ((by rw [hg];exact (below_size au0) : w.heap.size ≤ gb471));have n3_ := Aside0.mk ((by rw [hg];exact (below_size au0) : w.heap.size ≤ gb471));clear HB;have HB := n0_;have BK471 := n1_;have GW471 := n2_;have GE471 := n3_;clear n0_ n1_ n2_ n3_;clear hb hbox hg) | ((with_reducible refine gate_dst (N := 3) rfl ?_);refine box_event ?hg (N := 3) ?hd (cs := #[.int .i32 a1_0,.int .i64 a1_1]) (t := 87) ?hr ?_;(case hd => rfl);(case hg => rfl);(case hr => first | (go_simp;done) | (go_simp;rfl));intro gb472 hg w5 hbox hb;have n0_ := Aside0.mk (blk_below (g := gb471) (o := .cells #[.int .i32 a0_0,.int .i64 a0_1] 87 (0,0)) au15 hb);have n1_ := Aside0.mk (below_step (by repeat (first | (with_reducible first | exact HB.out | apply below_alloc | apply pw_below_drewN | apply below_drew1 | refine below_set ?_ GE471.out) | exact HB.out)) hb);have n2_ := Aside0.mk (hbox);have n3_ := Aside0.mk ((by rw [hg];exact (below_size (by repeat (first | (with_reducible first | exact HB.out | apply below_alloc | apply pw_below_drewN | apply below_drew1 | refine below_set ?_ GE471.out) | exact HB.out))) : w.heap.size ≤ gb472));have n4_ := Aside0.mk ((by rw [hg];exact (below_size (by repeat (first | (with_reducible first | exact HB.out | apply below_alloc | apply pw_below_drewN | apply below_drew1 | refine below_set ?_ GE471.out) | exact HB.out))) : w.heap.size ≤ gb472));have n5_ := Aside0.mk ((by rw [hg];exact Nat.ne_of_lt (blk_lt (g := gb471) (o := .cells #[.int .i32 a0_0,.int .i64 a0_1] 87 (0,0)) au15) : gb471 ≠ gb472));have n6_ := Aside0.mk ((by rw [hg];exact Nat.ne_of_gt (blk_lt (g := gb471) (o := .cells #[.int .i32 a0_0,.int .i64 a0_1] 87 (0,0)) au15) : gb472 ≠ gb471));clear BK471;clear HB;have BK471 := n0_;have HB := n1_;have BK472 := n2_;have GW472 := n3_;have GE472 := n4_;have NB471_472 := n5_;have NB472_471 := n6_;clear n0_ n1_ n2_ n3_ n4_ n5_ n6_;clear hb hbox hg))
 (try simp only [Act.put,List.setIfInBounds_toArray,List.set_cons_zero,List.set_cons_succ])
 go_cut [13] (fun v13 wc => ∃ (kq : Nat) (x13_2 : Bool),v13 = .bool x13_2 ∧ Aside0 (bodkinref03_joined.j0 kq x13_2 a0_0 a0_1 a1_0 a1_1 = some r) ∧ Aside0 (kq ≤ k) ∧ Aside0 (wc.heap[gb471]? = some (.cells #[.int .i32 a0_0,.int .i64 a0_1] 87 (0,0))) ∧ Aside0 (wc.heap[gb472]? = some (.cells #[.int .i32 a1_0,.int .i64 a1_1] 87 (0,0))) ∧ Aside0 (Below w.heap.size w wc))
 case first =>
  have H := HC3.out
  clear HC3
  by_cases c6 : a0_0 = 13
  ·rw [if_pos c6] at H
   have c6b0 : (a0_0 == 13) = true := beq_iff_eq.mpr c6
   have c6b1 : (a0_0 != 13) = false := bne_eq_false_iff_eq.mpr c6
   clear c6
   (first | rw [c6b0] | (simp only [i64_w,i32_w];rw [c6b0]) | skip)
   have H' := Aside0.mk H
   clear H
   have hnb7 := NB471_472.out
   have hnc7 := NB472_471.out
   have hcz8_0 : w5.cell? ⟨gb471,0,none⟩ = some (.int .i32 a0_0) := (blk_cell BK471.out 0).trans rfl
   have hcz8_1 : w5.cell? ⟨gb471,1,none⟩ = some (.int .i64 a0_1) := (blk_cell BK471.out 1).trans rfl
   have hfz8_0 := blk_frozen BK471.out 0
   have hfz8_1 := blk_frozen BK471.out 1
   have hcz9_0 : w5.cell? ⟨gb472,0,none⟩ = some (.int .i32 a1_0) := (blk_cell BK472.out 0).trans rfl
   have hcz9_1 : w5.cell? ⟨gb472,1,none⟩ = some (.int .i64 a1_1) := (blk_cell BK472.out 1).trans rfl
   have hfz9_0 := blk_frozen BK472.out 0
   have hfz9_1 := blk_frozen BK472.out 1
   go_wp2
   go_meet
   case rel => exact ⟨_,((a1_0 == 10)),au4,H',⟨by first | omega | exact Nat.le_refl _⟩,⟨by (with_reducible repeat (first | refine blk_drewN ?_ _ | refine blk_drew ?_ | refine blk_alloc ?_ _));exact BK471.out⟩,⟨by (with_reducible repeat (first | refine blk_drewN ?_ _ | refine blk_drew ?_ | refine blk_alloc ?_ _));exact BK472.out⟩,⟨by repeat (first | (with_reducible first | exact HB.out | apply below_alloc | apply pw_below_drewN | apply below_drew1 | refine below_set ?_ GE471.out | refine below_set ?_ GE472.out) | exact HB.out)⟩⟩
  ·rw [if_neg c6] at H
   have c6b0 : (a0_0 == 13) = false := beq_eq_false_iff_ne.mpr c6
   have c6b1 : (a0_0 != 13) = true := bne_iff_ne.mpr c6
   (first | rw [c6b0] | (simp only [i64_w,i32_w];rw [c6b0]) | skip)
   have H' := Aside0.mk H
   clear H
   have hnb10 := NB471_472.out
   have hnc10 := NB472_471.out
   have hcz11_0 : w5.cell? ⟨gb471,0,none⟩ = some (.int .i32 a0_0) := (blk_cell BK471.out 0).trans rfl
   have hcz11_1 : w5.cell? ⟨gb471,1,none⟩ = some (.int .i64 a0_1) := (blk_cell BK471.out 1).trans rfl
   have hfz11_0 := blk_frozen BK471.out 0
   have hfz11_1 := blk_frozen BK471.out 1
   go_wp2
   go_meet
   case rel => exact ⟨_,(false),au4,H',⟨by first | omega | exact Nat.le_refl _⟩,⟨by (with_reducible repeat (first | refine blk_drewN ?_ _ | refine blk_drew ?_ | refine blk_alloc ?_ _));exact BK471.out⟩,⟨by (with_reducible repeat (first | refine blk_drewN ?_ _ | refine blk_drew ?_ | refine blk_alloc ?_ _));exact BK472.out⟩,⟨by repeat (first | (with_reducible first | exact HB.out | apply below_alloc | apply pw_below_drewN | apply below_drew1 | refine below_set ?_ GE471.out | refine below_set ?_ GE472.out) | exact HB.out)⟩⟩
 case rest =>
  clear HC3
  try clear c1
  try clear p2
  try clear c4
  try clear c6
  try clear c6b0
  try clear c6b1
  try clear c7
  try clear c10
  try clear hcz11_0
  try clear hcz11_1
  try clear hcz8_0
  try clear hcz8_1
  try clear hcz9_0
  try clear hcz9_1
  try clear hfz11_0
  try clear hfz11_1
  try clear hfz8_0
  try clear hfz8_1
  try clear hfz9_0
  try clear hfz9_1
  obtain ⟨kq,x13_2,rfl,HA,HJ2,BK471,BK472,HB⟩ := hcut
  cases kq with
  | zero => exact absurd HA.out (by simp [bodkinref03_joined.j0])
  | succ kj2 =>
   have H := HA.out
   clear HA
   simp only [bodkinref03_joined.j0] at H
   by_cases c12 : x13_2 = true
   ·subst c12
    have H1 : (some true) = some r := by rw [if_pos rfl] at H;exact H
    clear H
    have H := H1
    clear H1
    obtain rfl := Option.some.inj H
    go_wp2
    go_ret
    exact ⟨au2,by repeat (first | (with_reducible first | exact HB.out | apply below_alloc | apply pw_below_drewN | apply below_drew1 | refine below_set ?_ GE471.out | refine below_set ?_ GE472.out) | exact HB.out)⟩
   ·replace c12 := Bool.eq_false_iff.mpr c12
    subst c12
    have H1 : ((bodkinref02_Class.f kj2 a0_0).bind fun t473 => ((bodkinref02_Class.f kj2 a1_0).bind fun t474 => (if t474 = 3 then (if t473 = 1 then (some false) else (some (t473 != 2))) else (some false)))) = some r := by rw [if_neg (show ¬ (false = true) by decide)] at H;exact H
    clear H
    have H := H1
    clear H1
    replace H := Option.bind_eq_some_iff.mp H
    obtain ⟨t473,A130,H⟩ := H
    replace H : ((bodkinref02_Class.f kj2 a1_0).bind fun t474 => (if t474 = 3 then (if t473 = 1 then (some false) else (some (t473 != 2))) else (some false))) = some r := H
    have A13 := Aside0.mk A130
    clear A130
    replace H := Option.bind_eq_some_iff.mp H
    obtain ⟨t474,A140,H⟩ := H
    replace H : (if t474 = 3 then (if t473 = 1 then (some false) else (some (t473 != 2))) else (some false)) = some r := H
    have A14 := Aside0.mk A140
    clear A140
    by_cases c15 : t474 = 3
    ·rw [if_pos c15] at H
     have c15b0 : (t474 == 3) = true := beq_iff_eq.mpr c15
     have c15b1 : (t474 != 3) = false := bne_eq_false_iff_eq.mpr c15
     clear c15
     by_cases c16 : t473 = 1
     ·rw [if_pos c16] at H
      have c16b0 : (t473 == 1) = true := beq_iff_eq.mpr c16
      have c16b1 : (t473 != 1) = false := bne_eq_false_iff_eq.mpr c16
      clear c16
      obtain rfl := Option.some.inj H
      have hnb17 := NB471_472.out
      have hnc17 := NB472_471.out
      have hcz18_0 : wc.cell? ⟨gb471,0,none⟩ = some (.int .i32 a0_0) := (blk_cell BK471.out 0).trans rfl
      have hcz18_1 : wc.cell? ⟨gb471,1,none⟩ = some (.int .i64 a0_1) := (blk_cell BK471.out 1).trans rfl
      have hfz18_0 := blk_frozen BK471.out 0
      have hfz18_1 := blk_frozen BK471.out 1
      go_wp2_with (first | ((with_reducible refine gate_callee (f := 48) rfl ?_);refine goesL_ (some 16) rfl rfl Tryd.func48 (by kernel_rfl) rfl #[.int .i32 a0_0] rfl au1 ?_;(with_reducible refine (bodkinref02_Class.calls kj2 a0_0 t473 _ A13.out).mono ?_);rintro e w19 ⟨rfl,hb⟩;refine ⟨_,rfl,?_⟩;have n0_ := Aside0.mk (blk_below (g := gb471) (o := .cells #[.int .i32 a0_0,.int .i64 a0_1] 87 (0,0)) au15 hb);have n1_ := Aside0.mk (blk_below (g := gb472) (o := .cells #[.int .i32 a1_0,.int .i64 a1_1] 87 (0,0)) au30 hb);have n2_ := Aside0.mk (below_step au12 hb);clear BK471;clear BK472;clear HB;have BK471 := n0_;have BK472 := n1_;have HB := n2_;clear n0_ n1_ n2_;(try clear hb);(try clear hb2);(try clear hk);(try clear hi);have hcz20_0 : w19.cell? ⟨gb472,0,none⟩ = some (.int .i32 a1_0) := (blk_cell BK472.out 0).trans rfl;have hcz20_1 : w19.cell? ⟨gb472,1,none⟩ = some (.int .i64 a1_1) := (blk_cell BK472.out 1).trans rfl;have hfz20_0 := blk_frozen BK472.out 0;have hfz20_1 := blk_frozen BK472.out 1) | ((with_reducible refine gate_callee (f := 48) rfl ?_);refine goesL_ (some 19) rfl rfl Tryd.func48 (by kernel_rfl) rfl #[.int .i32 a1_0] rfl au1 ?_;(with_reducible refine (bodkinref02_Class.calls kj2 a1_0 t474 _ A14.out).mono ?_);rintro e w21 ⟨rfl,hb⟩;refine ⟨_,rfl,?_⟩;have n0_ := Aside0.mk (blk_below (g := gb471) (o := .cells #[.int .i32 a0_0,.int .i64 a0_1] 87 (0,0)) au15 hb);have n1_ := Aside0.mk (blk_below (g := gb472) (o := .cells #[.int .i32 a1_0,.int .i64 a1_1] 87 (0,0)) au30 hb);have n2_ := Aside0.mk (below_step au12 hb);clear BK471;clear BK472;clear HB;have BK471 := n0_;have BK472 := n1_;have HB := n2_;clear n0_ n1_ n2_;(try clear hb);(try clear hb2);(try clear hk);(try clear hi)))
      go_ret
      exact ⟨au2,by repeat (first | (with_reducible first | exact HB.out | apply below_alloc | apply pw_below_drewN | apply below_drew1 | refine below_set ?_ GE471.out | refine below_set ?_ GE472.out) | exact HB.out)⟩
     ·rw [if_neg c16] at H
      have c16b0 : (t473 == 1) = false := beq_eq_false_iff_ne.mpr c16
      have c16b1 : (t473 != 1) = true := bne_iff_ne.mpr c16
      obtain rfl := Option.some.inj H
      have hnb22 := NB471_472.out
      have hnc22 := NB472_471.out
      have hcz23_0 : wc.cell? ⟨gb471,0,none⟩ = some (.int .i32 a0_0) := (blk_cell BK471.out 0).trans rfl
      have hcz23_1 : wc.cell? ⟨gb471,1,none⟩ = some (.int .i64 a0_1) := (blk_cell BK471.out 1).trans rfl
      have hfz23_0 := blk_frozen BK471.out 0
      have hfz23_1 := blk_frozen BK471.out 1
      go_wp2_with (first | ((with_reducible refine gate_callee (f := 48) rfl ?_);refine goesL_ (some 16) rfl rfl Tryd.func48 (by kernel_rfl) rfl #[.int .i32 a0_0] rfl au1 ?_;(with_reducible refine (bodkinref02_Class.calls kj2 a0_0 t473 _ A13.out).mono ?_);rintro e w24 ⟨rfl,hb⟩;refine ⟨_,rfl,?_⟩;have n0_ := Aside0.mk (blk_below (g := gb471) (o := .cells #[.int .i32 a0_0,.int .i64 a0_1] 87 (0,0)) au15 hb);have n1_ := Aside0.mk (blk_below (g := gb472) (o := .cells #[.int .i32 a1_0,.int .i64 a1_1] 87 (0,0)) au30 hb);have n2_ := Aside0.mk (below_step au12 hb);clear BK471;clear BK472;clear HB;have BK471 := n0_;have BK472 := n1_;have HB := n2_;clear n0_ n1_ n2_;(try clear hb);(try clear hb2);(try clear hk);(try clear hi);have hcz25_0 : w24.cell? ⟨gb472,0,none⟩ = some (.int .i32 a1_0) := (blk_cell BK472.out 0).trans rfl;have hcz25_1 : w24.cell? ⟨gb472,1,none⟩ = some (.int .i64 a1_1) := (blk_cell BK472.out 1).trans rfl;have hfz25_0 := blk_frozen BK472.out 0;have hfz25_1 := blk_frozen BK472.out 1) | ((with_reducible refine gate_callee (f := 48) rfl ?_);refine goesL_ (some 19) rfl rfl Tryd.func48 (by kernel_rfl) rfl #[.int .i32 a1_0] rfl au1 ?_;(with_reducible refine (bodkinref02_Class.calls kj2 a1_0 t474 _ A14.out).mono ?_);rintro e w26 ⟨rfl,hb⟩;refine ⟨_,rfl,?_⟩;have n0_ := Aside0.mk (blk_below (g := gb471) (o := .cells #[.int .i32 a0_0,.int .i64 a0_1] 87 (0,0)) au15 hb);have n1_ := Aside0.mk (blk_below (g := gb472) (o := .cells #[.int .i32 a1_0,.int .i64 a1_1] 87 (0,0)) au30 hb);have n2_ := Aside0.mk (below_step au12 hb);clear BK471;clear BK472;clear HB;have BK471 := n0_;have BK472 := n1_;have HB := n2_;clear n0_ n1_ n2_;(try clear hb);(try clear hb2);(try clear hk);(try clear hi)))
      go_ret
      exact ⟨au2,by repeat (first | (with_reducible first | exact HB.out | apply below_alloc | apply pw_below_drewN | apply below_drew1 | refine below_set ?_ GE471.out | refine below_set ?_ GE472.out) | exact HB.out)⟩
    ·rw [if_neg c15] at H
     have c15b0 : (t474 == 3) = false := beq_eq_false_iff_ne.mpr c15
     have c15b1 : (t474 != 3) = true := bne_iff_ne.mpr c15
     obtain rfl := Option.some.inj H
     have hnb27 := NB471_472.out
     have hnc27 := NB472_471.out
     have hcz28_0 : wc.cell? ⟨gb471,0,none⟩ = some (.int .i32 a0_0) := (blk_cell BK471.out 0).trans rfl
     have hcz28_1 : wc.cell? ⟨gb471,1,none⟩ = some (.int .i64 a0_1) := (blk_cell BK471.out 1).trans rfl
     have hfz28_0 := blk_frozen BK471.out 0
     have hfz28_1 := blk_frozen BK471.out 1
     go_wp2_with (first | ((with_reducible refine gate_callee (f := 48) rfl ?_);refine goesL_ (some 16) rfl rfl Tryd.func48 (by kernel_rfl) rfl #[.int .i32 a0_0] rfl au1 ?_;(with_reducible refine (bodkinref02_Class.calls kj2 a0_0 t473 _ A13.out).mono ?_);rintro e w29 ⟨rfl,hb⟩;refine ⟨_,rfl,?_⟩;have n0_ := Aside0.mk (blk_below (g := gb471) (o := .cells #[.int .i32 a0_0,.int .i64 a0_1] 87 (0,0)) au15 hb);have n1_ := Aside0.mk (blk_below (g := gb472) (o := .cells #[.int .i32 a1_0,.int .i64 a1_1] 87 (0,0)) au30 hb);have n2_ := Aside0.mk (below_step au12 hb);clear BK471;clear BK472;clear HB;have BK471 := n0_;have BK472 := n1_;have HB := n2_;clear n0_ n1_ n2_;(try clear hb);(try clear hb2);(try clear hk);(try clear hi);have hcz30_0 : w29.cell? ⟨gb472,0,none⟩ = some (.int .i32 a1_0) := (blk_cell BK472.out 0).trans rfl;have hcz30_1 : w29.cell? ⟨gb472,1,none⟩ = some (.int .i64 a1_1) := (blk_cell BK472.out 1).trans rfl;have hfz30_0 := blk_frozen BK472.out 0;have hfz30_1 := blk_frozen BK472.out 1) | ((with_reducible refine gate_callee (f := 48) rfl ?_);refine goesL_ (some 19) rfl rfl Tryd.func48 (by kernel_rfl) rfl #[.int .i32 a1_0] rfl au1 ?_;(with_reducible refine (bodkinref02_Class.calls kj2 a1_0 t474 _ A14.out).mono ?_);rintro e w31 ⟨rfl,hb⟩;refine ⟨_,rfl,?_⟩;have n0_ := Aside0.mk (blk_below (g := gb471) (o := .cells #[.int .i32 a0_0,.int .i64 a0_1] 87 (0,0)) au15 hb);have n1_ := Aside0.mk (blk_below (g := gb472) (o := .cells #[.int .i32 a1_0,.int .i64 a1_1] 87 (0,0)) au30 hb);have n2_ := Aside0.mk (below_step au12 hb);clear BK471;clear BK472;clear HB;have BK471 := n0_;have BK472 := n1_;have HB := n2_;clear n0_ n1_ n2_;(try clear hb);(try clear hb2);(try clear hk);(try clear hi)))
     go_ret
     exact ⟨au2,by repeat (first | (with_reducible first | exact HB.out | apply below_alloc | apply pw_below_drewN | apply below_drew1 | refine below_set ?_ GE471.out | refine below_set ?_ GE472.out) | exact HB.out)⟩
def bodkinref02_Cells.f (k : Nat) (a0 : Int) : Option (Int) := (bodkinref02_Class.f k a0).bind fun t475 => (if t475 = 1 then (some 0) else (if t475 = 4 then (some 2) else (if t475 = 2 then (if a0 ≤ 127 then (some 2) else (some 1)) else (some 1))))
set_option maxHeartbeats 8000000 in
set_option maxRecDepth 100000 in
theorem bodkinref02_Cells.calls (k : Nat) (a0 : Int) (r : Int) (w : World) (h : bodkinref02_Cells.f k a0 = some r) :
  Calls Tryd.prog 49 #[.int .i32 a0] w fun e w' => e = .returned (.int .i64 r) ∧ Below w.heap.size w w' := by
 have HB := Aside0.mk (Below.refl w.heap.size w)
 have H : ((bodkinref02_Class.f k a0).bind fun t475 => (if t475 = 1 then (some 0) else (if t475 = 4 then (some 2) else (if t475 = 2 then (if a0 ≤ 127 then (some 2) else (some 1)) else (some 1))))) = some r := h
 clear h
 replace H := Option.bind_eq_some_iff.mp H
 obtain ⟨t475,A20,H⟩ := H
 replace H : (if t475 = 1 then (some 0) else (if t475 = 4 then (some 2) else (if t475 = 2 then (if a0 ≤ 127 then (some 2) else (some 1)) else (some 1)))) = some r := H
 have A2 := Aside0.mk A20
 clear A20
 by_cases c3 : t475 = 1
 ·rw [if_pos c3] at H
  have c3b0 : (t475 == 1) = true := beq_iff_eq.mpr c3
  have c3b1 : (t475 != 1) = false := bne_eq_false_iff_eq.mpr c3
  clear c3
  obtain rfl := Option.some.inj H
  go_enter Tryd.func49,Tryd.ntmps49
  go_wp2_with (first | ((with_reducible refine gate_callee (f := 48) rfl ?_);refine goesL_ (some 5) rfl rfl Tryd.func48 (by kernel_rfl) rfl #[.int .i32 a0] rfl au1 ?_;(with_reducible refine (bodkinref02_Class.calls k a0 t475 _ A2.out).mono ?_);rintro e w4 ⟨rfl,hb⟩;refine ⟨_,rfl,?_⟩;have n0_ := Aside0.mk (below_step au0 hb);clear HB;have HB := n0_;clear n0_;(try clear hb);(try clear hb2);(try clear hk);(try clear hi)))
  go_ret
  exact ⟨au2,au0⟩
 ·rw [if_neg c3] at H
  have c3b0 : (t475 == 1) = false := beq_eq_false_iff_ne.mpr c3
  have c3b1 : (t475 != 1) = true := bne_iff_ne.mpr c3
  by_cases c5 : t475 = 4
  ·rw [if_pos c5] at H
   have c5b0 : (t475 == 4) = true := beq_iff_eq.mpr c5
   have c5b1 : (t475 != 4) = false := bne_eq_false_iff_eq.mpr c5
   clear c5
   obtain rfl := Option.some.inj H
   go_enter Tryd.func49,Tryd.ntmps49
   go_wp2_with (first | ((with_reducible refine gate_callee (f := 48) rfl ?_);refine goesL_ (some 5) rfl rfl Tryd.func48 (by kernel_rfl) rfl #[.int .i32 a0] rfl au1 ?_;(with_reducible refine (bodkinref02_Class.calls k a0 t475 _ A2.out).mono ?_);rintro e w6 ⟨rfl,hb⟩;refine ⟨_,rfl,?_⟩;have n0_ := Aside0.mk (below_step au0 hb);clear HB;have HB := n0_;clear n0_;(try clear hb);(try clear hb2);(try clear hk);(try clear hi)))
   go_ret
   exact ⟨au2,au0⟩
  ·rw [if_neg c5] at H
   have c5b0 : (t475 == 4) = false := beq_eq_false_iff_ne.mpr c5
   have c5b1 : (t475 != 4) = true := bne_iff_ne.mpr c5
   by_cases c7 : t475 = 2
   ·rw [if_pos c7] at H
    have c7b0 : (t475 == 2) = true := beq_iff_eq.mpr c7
    have c7b1 : (t475 != 2) = false := bne_eq_false_iff_eq.mpr c7
    clear c7
    by_cases c8 : a0 ≤ 127
    ·rw [if_pos c8] at H
     have c8b0 : decide (a0 ≤ 127) = true := decide_eq_true c8
     clear c8
     obtain rfl := Option.some.inj H
     go_enter Tryd.func49,Tryd.ntmps49
     go_wp2_with (first | ((with_reducible refine gate_callee (f := 48) rfl ?_);refine goesL_ (some 5) rfl rfl Tryd.func48 (by kernel_rfl) rfl #[.int .i32 a0] rfl au1 ?_;(with_reducible refine (bodkinref02_Class.calls k a0 t475 _ A2.out).mono ?_);rintro e w9 ⟨rfl,hb⟩;refine ⟨_,rfl,?_⟩;have n0_ := Aside0.mk (below_step au0 hb);clear HB;have HB := n0_;clear n0_;(try clear hb);(try clear hb2);(try clear hk);(try clear hi)))
     go_ret
     exact ⟨au2,au0⟩
    ·rw [if_neg c8] at H
     have c8b0 : decide (a0 ≤ 127) = false := decide_eq_false c8
     clear c8
     obtain rfl := Option.some.inj H
     go_enter Tryd.func49,Tryd.ntmps49
     go_wp2_with (first | ((with_reducible refine gate_callee (f := 48) rfl ?_);refine goesL_ (some 5) rfl rfl Tryd.func48 (by kernel_rfl) rfl #[.int .i32 a0] rfl au1 ?_;(with_reducible refine (bodkinref02_Class.calls k a0 t475 _ A2.out).mono ?_);rintro e w10 ⟨rfl,hb⟩;refine ⟨_,rfl,?_⟩;have n0_ := Aside0.mk (below_step au0 hb);clear HB;have HB := n0_;clear n0_;(try clear hb);(try clear hb2);(try clear hk);(try clear hi)))
     go_ret
     exact ⟨au2,au0⟩
   ·rw [if_neg c7] at H
    have c7b0 : (t475 == 2) = false := beq_eq_false_iff_ne.mpr c7
    have c7b1 : (t475 != 2) = true := bne_iff_ne.mpr c7
    obtain rfl := Option.some.inj H
    go_enter Tryd.func49,Tryd.ntmps49
    go_wp2_with (first | ((with_reducible refine gate_callee (f := 48) rfl ?_);refine goesL_ (some 5) rfl rfl Tryd.func48 (by kernel_rfl) rfl #[.int .i32 a0] rfl au1 ?_;(with_reducible refine (bodkinref02_Class.calls k a0 t475 _ A2.out).mono ?_);rintro e w11 ⟨rfl,hb⟩;refine ⟨_,rfl,?_⟩;have n0_ := Aside0.mk (below_step au0 hb);clear HB;have HB := n0_;clear n0_;(try clear hb);(try clear hb2);(try clear hk);(try clear hi)))
    go_ret
    exact ⟨au2,au0⟩
def bodkinref03_drawn.f (a0 : ByteArray) (a1 : Int) : Option (ByteArray) := if a1 = 1 then (some (⟨#[]⟩ : ByteArray)) else (if a1 = 2 then (if 0 < (a0.size : Int) then (if (bt a0 0) = 127 then (some (⟨#[94,63]⟩ : ByteArray)) else (if (bt a0 0) < 32 then ((some (([((bt a0 0) + 64) % 256] : List Int) : List Int)).bind fun y498 => (if 1 + (strOfNums y498).size ≤ 9223372036854775807 then (some ((⟨#[94]⟩ : ByteArray) ++ (strOfNums y498))) else (none))) else (some (⟨#[239,191,189]⟩ : ByteArray)))) else (none)) else (if a1 = 3 then (if 1 + a0.size ≤ 9223372036854775807 then (some ((⟨#[32]⟩ : ByteArray) ++ a0)) else (none)) else (if a1 = 5 then (if 1 ≤ (a0.size : Int) then (if 3 + (a0.extract 1 a0.size).size ≤ 9223372036854775807 then (some ((⟨#[239,191,189]⟩ : ByteArray) ++ (a0.extract 1 a0.size))) else (none)) else (none)) else (some a0))))
set_option maxHeartbeats 8000000 in
set_option maxRecDepth 100000 in
theorem bodkinref03_drawn.calls (a0 : ByteArray) (a1 : Int) (r : ByteArray) (w : World) (h : bodkinref03_drawn.f a0 a1 = some r) :
  Calls Tryd.prog 80 #[.string a0,.int .i64 a1] w fun e w' => e = .returned (.string r) ∧ Below w.heap.size w w' := by
 have HB := Aside0.mk (Below.refl w.heap.size w)
 have H : (if a1 = 1 then (some (⟨#[]⟩ : ByteArray)) else (if a1 = 2 then (if 0 < (a0.size : Int) then (if (bt a0 0) = 127 then (some (⟨#[94,63]⟩ : ByteArray)) else (if (bt a0 0) < 32 then ((some (([((bt a0 0) + 64) % 256] : List Int) : List Int)).bind fun y498 => (if 1 + (strOfNums y498).size ≤ 9223372036854775807 then (some ((⟨#[94]⟩ : ByteArray) ++ (strOfNums y498))) else (none))) else (some (⟨#[239,191,189]⟩ : ByteArray)))) else (none)) else (if a1 = 3 then (if 1 + a0.size ≤ 9223372036854775807 then (some ((⟨#[32]⟩ : ByteArray) ++ a0)) else (none)) else (if a1 = 5 then (if 1 ≤ (a0.size : Int) then (if 3 + (a0.extract 1 a0.size).size ≤ 9223372036854775807 then (some ((⟨#[239,191,189]⟩ : ByteArray) ++ (a0.extract 1 a0.size))) else (none)) else (none)) else (some a0))))) = some r := h
 clear h
 by_cases c3 : a1 = 1
 ·rw [if_pos c3] at H
  have c3b0 : (a1 == 1) = true := beq_iff_eq.mpr c3
  have c3b1 : (a1 != 1) = false := bne_eq_false_iff_eq.mpr c3
  clear c3
  obtain rfl := Option.some.inj H
  go_enter Tryd.func80,Tryd.ntmps80
  go_wp2
  go_ret
  exact ⟨au2,au0⟩
 ·rw [if_neg c3] at H
  have c3b0 : (a1 == 1) = false := beq_eq_false_iff_ne.mpr c3
  have c3b1 : (a1 != 1) = true := bne_iff_ne.mpr c3
  by_cases c4 : a1 = 2
  ·rw [if_pos c4] at H
   have c4b0 : (a1 == 2) = true := beq_iff_eq.mpr c4
   have c4b1 : (a1 != 2) = false := bne_eq_false_iff_eq.mpr c4
   clear c4
   by_cases c5 : 0 < (a0.size : Int)
   ·rw [if_pos c5] at H
    have c5b0 : decide (0 < (a0.size : Int)) = true := decide_eq_true c5
    have c5b1 : decide (0 < a0.size) = true := decide_eq_true (by omega)
    clear c5
    by_cases c7 : (bt a0 0) = 127
    ·rw [if_pos c7] at H
     have c7b0 : ((bt a0 0) == 127) = true := beq_iff_eq.mpr c7
     have c7b1 : ((bt a0 0) != 127) = false := bne_eq_false_iff_eq.mpr c7
     clear c7
     obtain rfl := Option.some.inj H
     have p6 : 0 ≤ (0 : Int) := (by omega)
     have q6 : 0 < a0.size := (by have : (0 : Int) < (a0.size : Int) := of_decide_eq_true au3;omega)
     have hx6 : ∀ h : 0 < a0.size,((a0[0]'h).toNat : Int) = bt a0 0 := bt_at a0 0
     clear p6
     have qi6 : (0 < (a0.size : Int)) = True := eq_true (of_decide_eq_true au3)
     replace q6 := eq_true q6
     go_enter Tryd.func80,Tryd.ntmps80
     go_wp2
     go_ret
     exact ⟨au2,au0⟩
    ·rw [if_neg c7] at H
     have c7b0 : ((bt a0 0) == 127) = false := beq_eq_false_iff_ne.mpr c7
     have c7b1 : ((bt a0 0) != 127) = true := bne_iff_ne.mpr c7
     by_cases c9 : (bt a0 0) < 32
     ·rw [if_pos c9] at H
      have c9b0 : decide ((bt a0 0) < 32) = true := decide_eq_true c9
      clear c9
      obtain ⟨y498,hy498⟩ : ∃ y_ : List Int,y_ = (([((bt a0 0) + 64) % 256] : List Int)) := ⟨_,rfl⟩
      replace H : (if 1 + (strOfNums y498).size ≤ 9223372036854775807 then (some ((⟨#[94]⟩ : ByteArray) ++ (strOfNums y498))) else (none)) = some r := by first | (rw [hy498];with_reducible exact H) | (have H2_ := (Option.bind_some _ _).symm.trans H;rw [hy498];with_reducible exact H2_) | (have H2_ := (Option.bind_some _ _).symm.trans H;with_reducible exact H2_) | with_reducible exact H | (rw [hy498];exact H) | exact H
      have Ny498 := Aside0.mk hy498
      clear hy498
      by_cases c11 : 1 + (strOfNums y498).size ≤ 9223372036854775807
      ·rw [if_pos c11] at H
       have c11b0 := eq_true c11
       have c11b1 : decide (1 + (strOfNums y498).size ≤ 9223372036854775807) = true := decide_eq_true c11
       try have c11b2 : (9223372036854775807 < 1 + (strOfNums y498).size) = False := eq_false (Nat.not_lt.2 c11)
       obtain rfl := Option.some.inj H
       have p6 : 0 ≤ (0 : Int) := (by omega)
       have q6 : 0 < a0.size := (by have : (0 : Int) < (a0.size : Int) := of_decide_eq_true au3;omega)
       have hx6 : ∀ h : 0 < a0.size,((a0[0]'h).toNat : Int) = bt a0 0 := bt_at a0 0
       clear p6
       have qi6 : (0 < (a0.size : Int)) = True := eq_true (of_decide_eq_true au3)
       replace q6 := eq_true q6
       have p8 : 0 ≤ (0 : Int) := (by omega)
       have q8 : 0 < a0.size := (by have : (0 : Int) < (a0.size : Int) := of_decide_eq_true au3;omega)
       have hx8 : ∀ h : 0 < a0.size,((a0[0]'h).toNat : Int) = bt a0 0 := bt_at a0 0
       clear p8
       have qi8 : (0 < (a0.size : Int)) = True := eq_true (of_decide_eq_true au3)
       replace q8 := eq_true q8
       have p10 : 0 ≤ (0 : Int) := (by omega)
       have q10 : 0 < a0.size := (by have : (0 : Int) < (a0.size : Int) := of_decide_eq_true au3;omega)
       have hx10 : ∀ h : 0 < a0.size,((a0[0]'h).toNat : Int) = bt a0 0 := bt_at a0 0
       clear p10
       have qi10 : (0 < (a0.size : Int)) = True := eq_true (of_decide_eq_true au3)
       replace q10 := eq_true q10
       go_enter Tryd.func80,Tryd.ntmps80
       go_wp2_with (first | ((with_reducible refine gate_dst (N := 19) rfl ?_);refine Kd.R_lit (Kd.int .u8) _ 5 ?hg (N := 19) ?hd (xs := ([((bt a0 0) + 64) % 256] : List Int)) (inner := [.int .u8 (((bt a0 0) + 64) % 256)]) (ok := fun _ => True) (okp := fun _ => True) ?hr ?hp (fun _ hk => hk) trivial (Below.refl _ _) (Nat.le_refl _) (by simp) ?_;(case hd => rfl);(case hg => rfl);(case hr => first | (go_simp;done) | (go_simp;rfl));(case hp => exact (Reps.one (show Kd.M (Kd.int .u8) _ _ _ (((bt a0 0) + 64) % 256) [.int .u8 (((bt a0 0) + 64) % 256)] from rfl) (Reps.none _ _)));intro v499 w12 ho13 hb hg_ hnew_;clear hg_ hnew_;(first | rw [← Ny498.out] at ho13 | (simp only [Int.reduceToNat] at ho13;rw [← Ny498.out] at ho13));have n0_ := Aside0.mk (Kd.R_lower ho13 (below_size au0));have n1_ := Aside0.mk (below_step au0 hb);clear HB;have HO500 := n0_;have HB := n1_;clear n0_ n1_;clear hb ho13;have hcv14 := own_string (P := Tryd.prog) Tryd.underlying74 Tryd.underlying5 Tryd.underlying9 (Kd.own_of_R HO500.out)))
       go_ret
       exact ⟨au2,au0⟩
      ·rw [if_neg c11] at H
       exact absurd H (by simp)
     ·rw [if_neg c9] at H
      have c9b0 : decide ((bt a0 0) < 32) = false := decide_eq_false c9
      clear c9
      obtain rfl := Option.some.inj H
      have p6 : 0 ≤ (0 : Int) := (by omega)
      have q6 : 0 < a0.size := (by have : (0 : Int) < (a0.size : Int) := of_decide_eq_true au3;omega)
      have hx6 : ∀ h : 0 < a0.size,((a0[0]'h).toNat : Int) = bt a0 0 := bt_at a0 0
      clear p6
      have qi6 : (0 < (a0.size : Int)) = True := eq_true (of_decide_eq_true au3)
      replace q6 := eq_true q6
      have p8 : 0 ≤ (0 : Int) := (by omega)
      have q8 : 0 < a0.size := (by have : (0 : Int) < (a0.size : Int) := of_decide_eq_true au3;omega)
      have hx8 : ∀ h : 0 < a0.size,((a0[0]'h).toNat : Int) = bt a0 0 := bt_at a0 0
      clear p8
      have qi8 : (0 < (a0.size : Int)) = True := eq_true (of_decide_eq_true au3)
      replace q8 := eq_true q8
      go_enter Tryd.func80,Tryd.ntmps80
      go_wp2
      go_ret
      exact ⟨au2,au0⟩
   ·rw [if_neg c5] at H
    exact absurd H (by simp)
  ·rw [if_neg c4] at H
   have c4b0 : (a1 == 2) = false := beq_eq_false_iff_ne.mpr c4
   have c4b1 : (a1 != 2) = true := bne_iff_ne.mpr c4
   by_cases c15 : a1 = 3
   ·rw [if_pos c15] at H
    have c15b0 : (a1 == 3) = true := beq_iff_eq.mpr c15
    have c15b1 : (a1 != 3) = false := bne_eq_false_iff_eq.mpr c15
    clear c15
    by_cases c16 : 1 + a0.size ≤ 9223372036854775807
    ·rw [if_pos c16] at H
     have c16b0 := eq_true c16
     have c16b1 : decide (1 + a0.size ≤ 9223372036854775807) = true := decide_eq_true c16
     try have c16b2 : (9223372036854775807 < 1 + a0.size) = False := eq_false (Nat.not_lt.2 c16)
     obtain rfl := Option.some.inj H
     go_enter Tryd.func80,Tryd.ntmps80
     go_wp2
     go_ret
     exact ⟨au2,au0⟩
    ·rw [if_neg c16] at H
     exact absurd H (by simp)
   ·rw [if_neg c15] at H
    have c15b0 : (a1 == 3) = false := beq_eq_false_iff_ne.mpr c15
    have c15b1 : (a1 != 3) = true := bne_iff_ne.mpr c15
    by_cases c17 : a1 = 5
    ·rw [if_pos c17] at H
     have c17b0 : (a1 == 5) = true := beq_iff_eq.mpr c17
     have c17b1 : (a1 != 5) = false := bne_eq_false_iff_eq.mpr c17
     clear c17
     by_cases c18 : 1 ≤ (a0.size : Int)
     ·rw [if_pos c18] at H
      have c18b0 := eq_true c18
      have c18b1 : decide (1 ≤ (a0.size : Int)) = true := decide_eq_true c18
      clear c18
      by_cases c19 : 3 + (a0.extract 1 a0.size).size ≤ 9223372036854775807
      ·rw [if_pos c19] at H
       have c19b0 := eq_true c19
       have c19b1 : decide (3 + (a0.extract 1 a0.size).size ≤ 9223372036854775807) = true := decide_eq_true c19
       try have c19b2 : (9223372036854775807 < 3 + (a0.extract 1 a0.size).size) = False := eq_false (Nat.not_lt.2 c19)
       have c19s : (9223372036854775807 < 3 + (a0.size - 1)) = False := eq_false (by have e_ := c19;simp only [ByteArray.size_extract] at e_;omega)
       obtain rfl := Option.some.inj H
       go_enter Tryd.func80,Tryd.ntmps80
       go_wp2
       go_ret
       exact ⟨au2,au0⟩
      ·rw [if_neg c19] at H
       exact absurd H (by simp)
     ·rw [if_neg c18] at H
      exact absurd H (by simp)
    ·rw [if_neg c17] at H
     have c17b0 : (a1 == 5) = false := beq_eq_false_iff_ne.mpr c17
     have c17b1 : (a1 != 5) = true := bne_iff_ne.mpr c17
     obtain rfl := Option.some.inj H
     go_enter Tryd.func80,Tryd.ntmps80
     go_wp2
     go_ret
     exact ⟨au2,au0⟩
end Go.Proofs.YtnpjaaldppemlaaDoor.U
end
