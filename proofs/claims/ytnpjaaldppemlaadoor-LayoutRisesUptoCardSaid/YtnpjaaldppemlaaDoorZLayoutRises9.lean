/- What the law LayoutRises reaches of this seat's own texts, merged; what nothing uses is left out. -/
import Derived.Test.YtnpjaaldppemlaaDoorZLayoutRises0
import Derived.Test.YtnpjaaldppemlaaDoorZLayoutRises1
import Derived.Test.YtnpjaaldppemlaaDoorZLayoutRises6
import Derived.Test.YtnpjaaldppemlaaDoorZLayoutRises7
import Derived.Test.YtnpjaaldppemlaaDoorZLayoutRises8
section
namespace Go.Proofs.YtnpjaaldppemlaaDoor.Pu
open Go Go.RowKit Go.Proofs.YtnpjaaldppemlaaDoor.Mu Go.Proofs.YtnpjaaldppemlaaDoor.U Go.Proofs.YtnpjaaldppemlaaDoorW.PrintWords Go.Proofs.YtnpjaaldppemlaaDoorW.PrintLast Go.Proofs.YtnpjaaldppemlaaDoorW.PrintMore
set_option linter.unusedVariables false
theorem awake20 : Ev (fun k => bodkinlaw20_awake.f k) true := Ev.of (fun k => bodkinlaw20_awake.mono k) (k := 200) (by kernel_rfl)
theorem cntW_in (w : Int) : 1 ≤ cntW w ∧ cntW w ≤ 65535 := held_in (held_w w)
theorem cf1_pos (t : ByteArray) (c : S60) (h : c ∈ clusL t) : 1 ≤ c.f1 := by
 obtain ⟨i,hci,hi,rfl⟩ := clus_mem t t.size 0 (cb_zero t) c h
 have := nxt_pos t i hi
 show (1 : Int) ≤ (nxt t i : Int)
 omega
theorem atL_cur (wd : Int) (t : ByteArray) (cur : Int) : ∀ (cs : List S60) (s : Ly × (Int × Int)),(∀ c ∈ cs,1 ≤ c.f1) → atL wd t (if cur < 0 then 0 else cur) s cs = atL wd t cur s cs
 | [],_,_ => rfl
 | c :: cs,s,h => by
  have h1 := h c (by simp)
  have e : atF wd t (if cur < 0 then 0 else cur) s c = atF wd t cur s c := by
   unfold atF
   by_cases hn : cur < 0
   ·rw [if_pos hn,if_neg (by omega),if_neg (by omega)]
   ·rw [if_neg hn]
  show atL wd t _ (atF wd t _ s c) cs = atL wd t cur (atF wd t cur s c) cs
  rw [e]
  exact atL_cur wd t cur cs _ (fun c hc => h c (List.mem_cons_of_mem _ hc))
theorem endL_cur (p t : ByteArray) (cur w : Int) : endL p t (if cur < 0 then 0 else cur) w = endL p t cur w := atL_cur _ t cur _ _ (fun c hc => cf1_pos t c hc)
theorem rowsL_cur (p t : ByteArray) (cur w : Int) : rowsL p t (if cur < 0 then 0 else cur) w = rowsL p t cur w := by unfold rowsL;rw [endL_cur]
/-- The rows do not hang on the cursor. -/
theorem rowsL_eq (p t : ByteArray) (cur w : Int) : rowsL p t cur w = (((layL (cntW w) t (st0L p w) (clusL t)).1 ++ [(layL (cntW w) t (st0L p w) (clusL t)).2])).map trimR := by
 unfold rowsL
 have : (endL p t cur w).1 = layL (cntW w) t (st0L p w) (clusL t) := atL_fst _ _ _ _ _
 rw [this]
theorem lay_f (p t : ByteArray) (cur w : Int) (hp : p.size ≤ 34359738368) (ht : t.size ≤ 34359738368) : layout_Lay.f p t cur w = some (cntW w,rowsL p t cur w,(endL p t cur w).2.1,(endL p t cur w).2.2) := by
 unfold layout_Lay.f
 rw [if_pos ⟨hp,ht⟩,rowsL_cur,endL_cur]
theorem pl_f (p t : ByteArray) (w : Int) (hp : p.size ≤ 34359738368) (ht : t.size ≤ 34359738368) : layout_Places.f p t w = some (placesL p t w) := by
 unfold layout_Places.f
 rw [if_pos ⟨hp,ht⟩]
theorem st0_in (p : ByteArray) (w : Int) : (st0L p w).In (cntW w) := layL_in _ _ _ _ (ly_new (cntW_in w).1 (cntW_in w).2)
theorem st0_len (p : ByteArray) (w : Int) : (st0L p w).1.length ≤ 3 * p.size := by
 have h1 := layL_len (cntW w) p (clusL p) ([],[])
 have h2 := clusL_length p
 simp at h1
 unfold st0L
 omega
theorem fin_len (p t : ByteArray) (w : Int) : (layL (cntW w) t (st0L p w) (clusL t)).1.length ≤ 3 * p.size + 3 * t.size := by
 have h1 := layL_len (cntW w) t (clusL t) (st0L p w)
 have h2 := clusL_length t
 have h3 := st0_len p w
 omega
theorem rowsL_len (p t : ByteArray) (cur w : Int) : (rowsL p t cur w).length = (layL (cntW w) t (st0L p w) (clusL t)).1.length + 1 := by rw [rowsL_eq];simp
theorem placesL_len (p t : ByteArray) (w : Int) : (placesL p t w).length = (clusL t).length + 1 := by unfold placesL;rw [List.length_cons,plsL_len]
theorem pl_at (p t : ByteArray) (w : Int) (i : Nat) (h : i ≤ (clusL t).length) : rd_T27 (placesL p t w) (i : Int) = (layL (cntW w) t (st0L p w) ((clusL t).take i)).pl := by
 unfold rd_T27 placesL
 rw [Int.toNat_natCast,List.getD_eq_getElem?_getD]
 cases i with
 | zero => rw [List.getElem?_cons_zero,List.take_zero];simp only [Option.getD_some,layL,List.foldl_nil]
 | succ i => rw [List.getElem?_cons_succ,plsL_get (cntW w) t _ _ i (by omega)];simp only [Option.getD_some]
theorem pl_last (p t : ByteArray) (w : Int) : rd_T27 (placesL p t w) ((clusL t).length : Int) = (layL (cntW w) t (st0L p w) (clusL t)).pl := by
 have h := pl_at p t w (clusL t).length (Nat.le_refl _)
 rwa [List.take_length] at h
theorem rows_f (p t : ByteArray) (cur w : Int) (hp : p.size ≤ 34359738368) (ht : t.size ≤ 34359738368) : layout_Rows.f p t w = some ((rowsL p t cur w).length : Int) := by
 have hl := placesL_len p t w
 have hn := clusL_length t
 have hf := fin_len p t w
 have h1 := pl_last p t w
 have hr := rowsL_len p t cur w
 unfold layout_Rows.f
 have e : wrap64 (((placesL p t w).length : Int) - 1) = ((clusL t).length : Int) := by rw [hl,w64 (by omega) (by omega)];omega
 rw [pl_f p t w hp ht,Option.bind_some,e,if_pos (by omega),if_pos (by omega),h1,hr]
 show some (wrap64 (((layL (cntW w) t (st0L p w) (clusL t)).1.length : Int) + 1)) = _
 rw [w64 (by omega) (by omega)]
 rfl
end Go.Proofs.YtnpjaaldppemlaaDoor.Pu
end
section
namespace Go.Proofs.YtnpjaaldppemlaaDoor.Pu
open Go Go.RowKit Go.Proofs.YtnpjaaldppemlaaDoor.Mu Go.Proofs.YtnpjaaldppemlaaDoor.U Go.Proofs.YtnpjaaldppemlaaDoorW.PrintWords Go.Proofs.YtnpjaaldppemlaaDoorW.PrintLast Go.Proofs.YtnpjaaldppemlaaDoorW.PrintMore
set_option linter.unusedVariables false
set_option linter.unusedSimpArgs false
theorem layL_nil (wd : Int) (t : ByteArray) (st : Ly) : layL wd t st [] = st := by unfold layL;rw [List.foldl_nil]
theorem atL_nil (wd : Int) (t : ByteArray) (cur : Int) (s : Ly × (Int × Int)) : atL wd t cur s [] = s := by unfold atL;rw [List.foldl_nil]
theorem layL_cons (wd : Int) (t : ByteArray) (st : Ly) (c : S60) (cs : List S60) : layL wd t st (c :: cs) = layL wd t (layC wd t st c) cs := rfl
theorem atL_cons (wd : Int) (t : ByteArray) (cur : Int) (s : Ly × (Int × Int)) (c : S60) (cs : List S60) : atL wd t cur s (c :: cs) = atL wd t cur (atF wd t cur s c) cs := rfl
theorem layL_app (wd : Int) (t : ByteArray) (st : Ly) (xs ys : List S60) : layL wd t st (xs ++ ys) = layL wd t (layL wd t st xs) ys := by unfold layL;rw [List.foldl_append]
theorem atL_app (wd : Int) (t : ByteArray) (cur : Int) (s : Ly × (Int × Int)) (xs ys : List S60) : atL wd t cur s (xs ++ ys) = atL wd t cur (atL wd t cur s xs) ys := by unfold atL;rw [List.foldl_append]
theorem atL_late (wd : Int) (t : ByteArray) (cur : Int) : ∀ (cs : List S60) (s : Ly × (Int × Int)),(∀ c ∈ cs,cur < c.f1) → (atL wd t cur s cs).2 = s.2
 | [],_,_ => rfl
 | c :: cs,s,h => by
  rw [atL_cons,atL_late wd t cur cs _ (fun c hc => h c (List.mem_cons_of_mem _ hc))]
  unfold atF
  rw [if_neg (by have := h c (by simp);omega)]
end Go.Proofs.YtnpjaaldppemlaaDoor.Pu
end
section
namespace Go.Proofs.YtnpjaaldppemlaaDoor.Pure
open Go Go.RowKit Go.Proofs.YtnpjaaldppemlaaDoor.Mu Go.Proofs.YtnpjaaldppemlaaDoor.Pu Go.Proofs.YtnpjaaldppemlaaDoor.U Go.Proofs.YtnpjaaldppemlaaDoorW.PrintWords Go.Proofs.YtnpjaaldppemlaaDoorW.PrintLast Go.Proofs.YtnpjaaldppemlaaDoorW.PrintMore
set_option linter.unusedVariables false
theorem wn (i : Nat) (h : i ≤ 1099511627776) : wrap64 ((i : Int) + 1) = ((i + 1 : Nat) : Int) := by rw [w64 (by omega) (by omega)];rfl
theorem wp (i : Nat) (h0 : 0 < i) (h : i ≤ 1099511627776) : wrap64 ((i : Int) - 1) = ((i - 1 : Nat) : Int) := by rw [w64 (by omega) (by omega)];omega
/-- The pen has gone on. -/
def LyLt (s s' : Ly) : Prop := s.1.length < s'.1.length ∨ (s.1.length = s'.1.length ∧ s.2.length < s'.2.length)
theorem LyLt.trans {a b c : Ly} (h : LyLt a b) (h2 : LyLt b c) : LyLt a c := by unfold LyLt at *;omega
theorem down_lt (s : Ly) : LyLt s s.down := .inl (by rw [Ly.len_down];omega)
theorem cell_lt (wd : Int) (s : Ly) (x : Cl) : LyLt s (s.cell wd x) := by
 unfold Ly.cell
 split
 ·exact .inl (by simp)
 ·exact .inr ⟨rfl,by simp⟩
theorem mid_lt {s s' : Ly} (c : Prop) [Decidable c] (h : LyLt (if c then s.down else s) s') : LyLt s s' := by
 split at h
 ·exact (down_lt s).trans h
 ·exact h
theorem lay_lt (wd : Int) (s : Ly) (cls cells : Int) (d : ByteArray) (n : Nat) : LyLt s (s.lay wd cls cells d n) := by
 unfold Ly.lay
 split
 ·exact down_lt s
 split
 ·exact cell_lt _ _ _
 split
 ·exact cell_lt _ _ _
 split
 ·exact mid_lt _ ((cell_lt _ _ _).trans (cell_lt _ _ _))
 ·exact mid_lt _ ((cell_lt _ _ _).trans (cell_lt _ _ _))
theorem layC_lt (wd : Int) (t : ByteArray) (s : Ly) (c : S60) : LyLt s (layC wd t s c) := by unfold layC;exact lay_lt _ _ _ _ _ _
theorem layL_grow (wd : Int) (t : ByteArray) : ∀ (cs : List S60) (s : Ly),s.1.length ≤ (layL wd t s cs).1.length
 | [],s => by rw [layL_nil];exact Nat.le_refl _
 | c :: cs,s => by
  rw [layL_cons]
  have h1 := layC_lt wd t s c
  have h2 := layL_grow wd t cs (layC wd t s c)
  unfold LyLt at h1
  omega
/-- The grid behind the first clusters. -/
def gS (p t : ByteArray) (w : Int) (i : Nat) : Ly := layL (cntW w) t (st0L p w) ((clusL t).take i)
theorem gS_lt (p t : ByteArray) (w : Int) (i : Nat) (h : i < (clusL t).length) : LyLt (gS p t w i) (gS p t w (i + 1)) := by
 unfold gS
 rw [List.take_add_one,List.getElem?_eq_getElem h]
 show LyLt _ (layL _ t _ ((clusL t).take i ++ [(clusL t)[i]]))
 rw [layL_snoc]
 exact layC_lt _ _ _ _
theorem gS_le (p t : ByteArray) (w : Int) (i : Nat) : (gS p t w i).1.length ≤ (gS p t w (clusL t).length).1.length := by
 have e : gS p t w (clusL t).length = layL (cntW w) t (gS p t w i) ((clusL t).drop i) := by
  unfold gS
  rw [← layL_app,List.take_append_drop,List.take_length]
 rw [e]
 exact layL_grow _ _ _ _
theorem gS_fit (p t : ByteArray) (w : Int) (i : Nat) : ((gS p t w i).2.length : Int) < cntW w := (layL_fit (cntW w) t _ _ (st0_in p w).1).2.2
theorem gS_pl (p t : ByteArray) (w : Int) (i : Nat) (h : i ≤ (clusL t).length) : (rd_T27 (placesL p t w) (i : Int)).f0 = ((gS p t w i).1.length : Int) ∧ (rd_T27 (placesL p t w) (i : Int)).f1 = ((gS p t w i).2.length : Int) := by
 rw [pl_at p t w i h]
 unfold gS
 generalize layL (cntW w) t (st0L p w) ((clusL t).take i) = X
 exact ⟨rfl,rfl⟩
theorem gS_rows (p t : ByteArray) (cur w : Int) : ((rowsL p t cur w).length : Int) = ((gS p t w (clusL t).length).1.length : Int) + 1 := by
 rw [rowsL_len]
 unfold gS
 rw [List.take_length]
 rfl
/-- The cursor behind what ends ahead of it. -/
theorem at_early (wd : Int) (t : ByteArray) (cur : Int) : ∀ (cs : List S60) (s : Ly),(∀ c ∈ cs,c.f1 ≤ cur) → (atL wd t cur (s,s.place) cs).2 = (layL wd t s cs).place
 | [],s,_ => by rw [atL_nil,layL_nil]
 | c :: cs,s,h => by
  have e : atF wd t cur (s,s.place) c = (layC wd t s c,(layC wd t s c).place) := by
   unfold atF
   rw [if_pos (h c (by simp))]
  rw [atL_cons,layL_cons,e]
  exact at_early wd t cur cs _ (fun c hc => h c (List.mem_cons_of_mem _ hc))
theorem end_cut (p t : ByteArray) (w e : Int) (pre post : List S60) (hcl : clusL t = pre ++ post) (h1 : ∀ c ∈ pre,c.f1 ≤ e) (h2 : ∀ c ∈ post,e < c.f1) : (endL p t e w).2 = (gS p t w pre.length).place := by
 have h3 : (clusL t).take pre.length = pre := by rw [hcl,List.take_append_of_le_length (Nat.le_refl _),List.take_length]
 unfold endL gS
 rw [h3,hcl,atL_app,atL_late _ _ _ _ _ h2]
 exact at_early _ _ _ _ _ h1
theorem end_pl (p t : ByteArray) (w e : Int) (pre post : List S60) (hcl : clusL t = pre ++ post) (h1 : ∀ c ∈ pre,c.f1 ≤ e) (h2 : ∀ c ∈ post,e < c.f1) : (endL p t e w).2 = ((rd_T27 (placesL p t w) (pre.length : Int)).f0,(rd_T27 (placesL p t w) (pre.length : Int)).f1) := by
 have hle : pre.length ≤ (clusL t).length := by rw [hcl,List.length_append];omega
 obtain ⟨e1,e2⟩ := gS_pl p t w pre.length hle
 rw [end_cut p t w e pre post hcl h1 h2,e1,e2]
 unfold Ly.place
 rfl
theorem clus_f1 (t : ByteArray) (c : S60) (h : c ∈ clusL t) : c.f1 ≤ (t.size : Int) := by
 obtain ⟨i,hci,hi,rfl⟩ := clus_mem t t.size 0 (cb_zero t) c h
 have := nxt_le t i hci.1 hi
 show (nxt t i : Int) ≤ _
 omega
theorem ctl_after (t : ByteArray) : ∀ m b : Nat,t.size - b ≤ m → CB t b → b ≤ t.size → ∀ c ∈ ctl t b,(b : Int) < c.f1 := by
 intro m
 induction m with
 | zero =>
  intro b hm hc hb c h
  rw [ctl_end t b (by omega)] at h
  cases h
 | succ m ih =>
  intro b hm hc hb c h
  rcases Nat.lt_or_ge b t.size with hlt | hge
  ·have h1 := nxt_pos t b hlt
   rw [ctl_go t b hlt] at h
   rcases List.mem_cons.1 h with rfl | h
   ·show (b : Int) < (nxt t b : Int);omega
   ·have := ih (nxt t b) (by omega) (nxt_cb t b hc.1 hlt) (nxt_le t b hc.1 hlt) c h
    omega
  ·rw [ctl_end t b (by omega)] at h
   cases h
theorem ctl_next (t : ByteArray) (b : Nat) (hc : CB t b) (hlt : b < t.size) : ∀ c ∈ ctl t b,(nxt t b : Int) ≤ c.f1 := by
 intro c h
 rw [ctl_go t b hlt] at h
 rcases List.mem_cons.1 h with rfl | h
 ·exact Int.le_refl _
 ·have := ctl_after t _ (nxt t b) (Nat.le_refl _) (nxt_cb t b hc.1 hlt) (nxt_le t b hc.1 hlt) c h
  omega
theorem rise_round (p t : ByteArray) (cc w : Int) (h0 : p.size ≤ 34359738368) (h1 : t.size ≤ 34359738368) (pre : List S60) (b d : Nat) (hcl : clusL t = pre ++ ctl t b) (hpre : ∀ c ∈ pre,c.f1 ≤ (b : Int)) (hd : CNextS t (b : Int) (d : Int)) (hbd : b ≤ d) (hds : d ≤ t.size) (hlt : pre.length < (clusL t).length → b < d)
  (hpost : ∀ c ∈ ctl t b,(b : Int) < c.f1 ∧ (d : Int) ≤ c.f1)
  (hn : Ev (fun k => bodkinlaw20_LayoutRises.l0 k (placesL p t w) ((rowsL p t cc w).length : Int) (d : Int) ((pre.length + 1 : Nat) : Int) p t cc w) true) :
  Ev (fun k => bodkinlaw20_LayoutRises.l0 k (placesL p t w) ((rowsL p t cc w).length : Int) (b : Int) (pre.length : Int) p t cc w) true := by
 have hle : pre.length ≤ (clusL t).length := by rw [hcl,List.length_append];omega
 have hcn := clusL_length t
 have hpl := placesL_len p t w
 obtain ⟨v0,v1⟩ := gS_pl p t w pre.length hle
 have hg := gS_le p t w pre.length
 have hf := gS_fit p t w pre.length
 have hr := gS_rows p t cc w
 have hend : Ev (fun k => if wrap64 ((pre.length : Int) + 1) < ((placesL p t w).length : Int) then (if (d : Int) ≤ (b : Int) then some false else bodkinlaw20_LayoutRises.l0 k (placesL p t w) ((rowsL p t cc w).length : Int) (d : Int) (wrap64 ((pre.length : Int) + 1)) p t cc w) else bodkinlaw20_LayoutRises.l0 k (placesL p t w) ((rowsL p t cc w).length : Int) (d : Int) (wrap64 ((pre.length : Int) + 1)) p t cc w) true := by
  rw [wn pre.length (by omega)]
  by_cases hc : ((pre.length + 1 : Nat) : Int) < ((placesL p t w).length : Int)
  ·exact ev_pos hc (ev_neg (by have := hlt (by omega);omega) hn)
  ·exact ev_neg hc hn
 have hj4 : ∀ x : Bool,x = false → Ev (fun k => bodkinlaw20_LayoutRises.j4 k (placesL p t w) ((rowsL p t cc w).length : Int) (b : Int) (pre.length : Int) (d : Int) x p t cc w) true := by
  rintro x rfl
  exact Ev.step (fun k => bodkinlaw20_LayoutRises.j4.eq_2 ..) (ev_neg (by simp) hend)
 have hj3 : ∀ x : Bool,x = false → Ev (fun k => bodkinlaw20_LayoutRises.j3 k (placesL p t w) ((rowsL p t cc w).length : Int) (b : Int) (pre.length : Int) (d : Int) x p t cc w) true := by
  rintro x rfl
  refine Ev.step (fun k => bodkinlaw20_LayoutRises.j3.eq_2 ..) (ev_neg (by simp) ?_)
  rw [w64 (x := (d : Int) - (b : Int)) (by omega) (by omega),w64 (x := (d : Int) - 1) (by omega) (by omega)]
  by_cases hc : (d : Int) - (b : Int) > 1
  ·have hv := end_pl p t w ((d : Int) - 1) pre _ hcl (fun c h => by have := hpre c h;omega) (fun c h => by have := (hpost c h).2;omega)
   refine ev_pos hc (ev_some (lay_f p t ((d : Int) - 1) w h0 h1) (ev_pos (by omega) (ev_pos (by omega) (hj4 _ ?_))))
   rw [hv]
   simp
  ·exact ev_neg hc (hj4 false rfl)
 have hj2 : ∀ x : Bool,x = false → Ev (fun k => bodkinlaw20_LayoutRises.j2 k (placesL p t w) ((rowsL p t cc w).length : Int) (b : Int) (pre.length : Int) x p t cc w) true := by
  rintro x rfl
  refine Ev.step (fun k => bodkinlaw20_LayoutRises.j2.eq_2 ..) (ev_neg (by simp) (Ev.bind (cnext_ev (by omega) hd) ?_))
  by_cases h40 : (pre.length : Int) < 40
  ·have hv := end_pl p t w (b : Int) pre _ hcl hpre (fun c h => (hpost c h).1)
   refine ev_pos h40 (ev_some (lay_f p t (b : Int) w h0 h1) (ev_pos (by omega) (ev_pos (by omega) (ev_neg (by rw [hv];simp) (ev_some (show bodkinlaw20_width.f w = some (cntW w) from rfl) (ev_pos rfl (hj3 _ ?_)))))))
   show (((rowsL p t (b : Int) w).length : Int) != ((rowsL p t cc w).length : Int)) = false
   rw [rowsL_len,rowsL_len]
   simp
  ·exact ev_neg h40 hend
 refine Ev.step (fun k => bodkinlaw20_LayoutRises.l0.eq_2 ..) (ev_pos (by omega) (ev_pos (by omega) (ev_neg (by omega) (ev_neg (by omega) (ev_neg (by omega) (ev_some (show bodkinlaw20_width.f w = some (cntW w) from rfl) ?_))))))
 refine Ev.step (fun k => bodkinlaw20_LayoutRises.j1.eq_2 ..) (ev_neg (by simp;omega) ?_)
 rcases Nat.eq_zero_or_pos pre.length with hz | hz
 ·exact ev_neg (by omega) (hj2 false rfl)
 have hlt2 := gS_lt p t w (pre.length - 1) (by omega)
 rw [show pre.length - 1 + 1 = pre.length by omega] at hlt2
 obtain ⟨u0,u1⟩ := gS_pl p t w (pre.length - 1) (by omega)
 unfold LyLt at hlt2
 rw [wp pre.length hz (by omega)]
 refine ev_pos (by omega) (ev_pos (by omega) (ev_pos (by omega) (ev_pos (by omega) (ev_pos (by omega) (ev_neg (by omega) ?_)))))
 by_cases hq : (rd_T27 (placesL p t w) (pre.length : Int)).f0 = (rd_T27 (placesL p t w) ((pre.length - 1 : Nat) : Int)).f0
 ·exact ev_pos hq (hj2 _ (by simp;omega))
 ·exact ev_neg hq (hj2 false rfl)
theorem rise_tail (p t : ByteArray) (cc w : Int) (h0 : p.size ≤ 34359738368) (h1 : t.size ≤ 34359738368) (a : Int) : Ev (fun k => bodkinlaw20_LayoutRises.l0 k (placesL p t w) ((rowsL p t cc w).length : Int) a (((clusL t).length + 1 : Nat) : Int) p t cc w) true := by
 have hcn := clusL_length t
 have hpl := placesL_len p t w
 have hr := gS_rows p t cc w
 have hfl := fin_len p t w
 have hrl := rowsL_len p t cc w
 obtain ⟨v0,v1⟩ := gS_pl p t w (clusL t).length (Nat.le_refl _)
 have c1 := end_pl p t w (-5) [] (clusL t) rfl (by simp) (fun c h => by have := cf1_pos t c h;omega)
 have c2 := end_pl p t w ((t.size : Int) + 7) (clusL t) [] (by simp) (fun c h => by have := clus_f1 t c h;omega) (by simp)
 refine Ev.step (fun k => bodkinlaw20_LayoutRises.l0.eq_2 ..) (ev_neg (by omega) (ev_some (show cluster_Count.f t = some ((clusL t).length : Int) by unfold cluster_Count.f;rw [if_pos (by omega)]) ?_))
 rw [wn (clusL t).length (by omega),wp (placesL p t w).length (by omega) (by omega),w64 (x := ((rowsL p t cc w).length : Int) - 1) (by omega) (by omega),show (placesL p t w).length - 1 = (clusL t).length by omega]
 refine ev_pos (by omega) (ev_pos (by omega) (ev_pos (by omega) ?_))
 have hx : ((rd_T27 (placesL p t w) ((clusL t).length : Int)).f0 != ((rowsL p t cc w).length : Int) - 1) = false := by
  rw [v0,hr]
  simp
 rw [hx]
 refine Ev.step (fun k => bodkinlaw20_LayoutRises.j5.eq_2 ..) (ev_neg (by simp) (ev_some (lay_f p t (-5) w h0 h1) (ev_pos (by omega) (ev_pos (by rw [c1];simp) ?_))))
 rw [w64 (x := (t.size : Int) + 7) (by omega) (by omega),wp (placesL p t w).length (by omega) (by omega),show (placesL p t w).length - 1 = (clusL t).length by omega]
 refine ev_some (lay_f p t _ w h0 h1) (ev_pos (by omega) (ev_pos (by omega) (ev_now ?_)))
 rw [c2]
 simp
theorem rise_loop (p t : ByteArray) (cc w : Int) (h0 : p.size ≤ 34359738368) (h1 : t.size ≤ 34359738368) : ∀ (m : Nat) (pre : List S60) (b : Nat),t.size - b ≤ m → CB t b → b ≤ t.size → clusL t = pre ++ ctl t b → (∀ c ∈ pre,c.f1 ≤ (b : Int)) →
  Ev (fun k => bodkinlaw20_LayoutRises.l0 k (placesL p t w) ((rowsL p t cc w).length : Int) (b : Int) (pre.length : Int) p t cc w) true := by
 have hlast : ∀ (pre : List S60) (b : Nat),t.size = b → CB t b → clusL t = pre ++ ctl t b → (∀ c ∈ pre,c.f1 ≤ (b : Int)) →
   Ev (fun k => bodkinlaw20_LayoutRises.l0 k (placesL p t w) ((rowsL p t cc w).length : Int) (b : Int) (pre.length : Int) p t cc w) true := by
  intro pre b hb hc hcl hpre
  have he : clusL t = pre := by rw [hcl,ctl_end t b (by omega),List.append_nil]
  have hd : CNextS t (b : Int) (b : Int) := ⟨⟨by omega,by rw [Int.toNat_natCast];exact hc⟩,.inr (by rw [hb]),fun e he hlt => by omega⟩
  refine rise_round p t cc w h0 h1 pre b b hcl hpre hd (Nat.le_refl _) (by omega) (fun h => by rw [he] at h;omega) (fun c h => by rw [ctl_end t b (by omega)] at h;cases h) ?_
  rw [← he]
  exact rise_tail p t cc w h0 h1 _
 intro m
 induction m with
 | zero =>
  intro pre b hm hc hb hcl hpre
  exact hlast pre b (by omega) hc hcl hpre
 | succ m ih =>
  intro pre b hm hc hb hcl hpre
  rcases Nat.lt_or_ge b t.size with hlt | hge
  ·have g1 := nxt_pos t b hlt
   have g2 := nxt_le t b hc.1 hlt
   have hcb := nxt_cb t b hc.1 hlt
   have hcl2 : clusL t = (pre ++ [clAt t b]) ++ ctl t (nxt t b) := by rw [List.append_assoc,List.singleton_append,← ctl_go t b hlt];exact hcl
   refine rise_round p t cc w h0 h1 pre b (nxt t b) hcl hpre (nxtS t b hc.1 hlt (b : Int) (by omega) (by omega)) (by omega) g2 (fun _ => g1) (fun c h => ⟨ctl_after t _ b (Nat.le_refl _) hc hb c h,ctl_next t b hc hlt c h⟩) ?_
   have hn := ih (pre ++ [clAt t b]) (nxt t b) (by omega) hcb g2 hcl2 (fun c h => by
    rcases List.mem_append.1 h with h | h
    ·have := hpre c h;omega
    ·obtain rfl := List.mem_singleton.1 h
     exact Int.le_refl _)
   rw [List.length_append,List.length_singleton] at hn
   exact hn
  ·exact hlast pre b (by omega) hc hcl hpre
theorem LayoutRises (a0_0 a0_1 : ByteArray) (a0_2 a0_3 : Int) (u0_0 : a0_0.size ≤ 1048576) (u0_1 : a0_1.size ≤ 1048576) : ∃ k,bodkinlaw20_LayoutRises.f k a0_0 a0_1 a0_2 a0_3 = some true := by
 apply Ev.rounds
 unfold bodkinlaw20_LayoutRises.f
 have h0 : a0_0.size ≤ 34359738368 := by omega
 have h1 : a0_1.size ≤ 34359738368 := by omega
 refine Ev.bind awake20 (ev_pos rfl (ev_some (pl_f a0_0 a0_1 a0_3 h0 h1) (ev_some (rows_f a0_0 a0_1 a0_2 a0_3 h0 h1) ?_)))
 exact rise_loop a0_0 a0_1 a0_2 a0_3 h0 h1 a0_1.size [] 0 (by omega) (cb_zero _) (Nat.zero_le _) rfl (by simp)
end Go.Proofs.YtnpjaaldppemlaaDoor.Pure
end
section
namespace Go.Proofs.YtnpjaaldppemlaaDoor.Lf
open Go.Lib Go.Proofs
theorem own : ownKnob Tryd.prog.godebug = none := by kernel_rfl
theorem laidOut : laidOutB Tryd.prog = true := by kernel_rfl
theorem extra : U8Extra Tryd.prog Tryd.lays260_ren := {
 n3 := by kernel_rfl
 n4 := by kernel_rfl
 y3 := by kernel_rfl
 y4 := by kernel_rfl
 c5 := by kernel_rfl
 c119 := by kernel_rfl
 c138 := by kernel_rfl }
theorem first_eq : Rows.laid_unicode_utf8_first = Lib.firstData := by kernel_rfl
theorem accept_eq : (Rows.laid_unicode_utf8_acceptRanges : DataW Unit) = Lib.acceptData := by kernel_rfl
abbrev laid : List (String × DataW Unit) := [("unicode/utf8.acceptRanges", Rows.laid_unicode_utf8_acceptRanges), ("unicode/utf8.first", Rows.laid_unicode_utf8_first)]
/-- The two tables lie as the contracts ask. -/
theorem tabs {W : World} (h : laidMetH Tryd.prog laid W) : Lib.Utf8Tabs 0 1 W := by
  rw [MakeChecks.laidMetH_plain _ _ _ (by kernel_rfl)] at h
  have h3 := laidMet.reads h (n := "unicode/utf8.first") (d := Rows.laid_unicode_utf8_first) (List.mem_cons_of_mem _ List.mem_cons_self)
  have h4 := laidMet.reads h (n := "unicode/utf8.acceptRanges") (d := Rows.laid_unicode_utf8_acceptRanges) List.mem_cons_self
  rw [first_eq] at h3
  rw [accept_eq] at h4
  exact utf8Tabs_of_reads Tryd.lays260 extra h3 h4
/-- The world of the witness: the settled one,the tables laid. -/
noncomputable abbrev wit (os : Os) : World := World.laidAll Tryd.prog os laid
theorem wit_laid (os : Os) (args : Array Value) : laidMetH Tryd.prog laid ((wit os).forCall (fun _ _ => 0) ⟨#[],args,[]⟩).memory := by
 rw [MakeChecks.laidMetH_plain _ _ _ (by kernel_rfl)]
 exact laidMet_laidAll _ (by kernel_rfl) (by kernel_rfl)
theorem wit_shaped (os : Os) (args : Array Value) : ((wit os).forCall (fun _ _ => 0) ⟨#[],args,[]⟩).Shaped Tryd.prog :=
 World.shaped_of_ZipB (by kernel_rfl) (by kernel_rfl)
end Go.Proofs.YtnpjaaldppemlaaDoor.Lf
end
section
namespace Go.Proofs.YtnpjaaldppemlaaDoor.Lf
open Go Go.RowKit Go.ChangeShapes Go.WideShapes Go.Proofs.YtnpjaaldppemlaaDoor.U Go.Proofs.YtnpjaaldppemlaaDoorW.PrintWords Go.Proofs.YtnpjaaldppemlaaDoorW.PrintLast Go.Proofs.YtnpjaaldppemlaaDoorW.PrintMore
set_option linter.unusedVariables false
set_option linter.unusedSimpArgs false
theorem ly_gen {H : Type} {enc : TypeId × Value → H} {P : Program} {w : World} {base : Nat} {sp : Nat → Bool} {held : Bool} {t : TypeId} {p0 p1 p2 p3 : Field} (ht : P.underlying t = some (.struct #[p0,p1,p2,p3])) (ce : P.cellsOf t = 4)
  (o0 : p0.offset = 0) (c0 : P.cellsOf p0.type = 1) (u0 : P.underlying p0.type = some .string) (o1 : p1.offset = 1) (c1 : P.cellsOf p1.type = 1) (u1 : P.underlying p1.type = some .string) (o2 : p2.offset = 2) (c2 : P.cellsOf p2.type = 1) (u2 : P.underlying p2.type = some (.int .i64)) (o3 : p3.offset = 3) (c3 : P.cellsOf p3.type = 1) (u3 : P.underlying p3.type = some (.int .i64))
  {fuel : Nat} {cs : List Value} {x : DataW H × List MemPlace} (h : DataW.trod enc P w base sp held fuel t cs = some x) : ∃ (x0 : ByteArray) (x1 : ByteArray) (x2 : Int) (x3 : Int),cs = [.string x0,.string x1,.int .i64 x2,.int .i64 x3] ∧ x0.size + 1 ≤ Rows.uptoBulk x.1 ∧ x1.size + 1 ≤ Rows.uptoBulk x.1 := by
 obtain ⟨xs,n,_,rfl,hl,hlen,hf⟩ := DataW.trod_struct ht h
 rw [ce] at hl
 match xs,hlen,cs,hl with
 | [y0,y1,y2,y3],_,[v0,v1,v2,v3],_ =>
  have g0 := hf 0 p0 rfl
  have g1 := hf 1 p1 rfl
  have g2 := hf 2 p2 rfl
  have g3 := hf 3 p3 rfl
  simp [o0,c0,o1,c1,o2,c2,o3,c3] at g0 g1 g2 g3
  obtain ⟨x0,e0,f0,_⟩ := DataW.trod_string u0 g0
  injection e0 with e0
  subst e0
  obtain ⟨x1,e1,f1,_⟩ := DataW.trod_string u1 g1
  injection e1 with e1
  subst e1
  obtain ⟨x2,e2,f2,_⟩ := DataW.trod_int u2 g2
  injection e2 with e2
  subst e2
  obtain ⟨x3,e3,f3,_⟩ := DataW.trod_int u3 g3
  injection e3 with e3
  subst e3
  refine ⟨x0,x1,x2,x3,rfl,?_⟩
  simp only [List.map_cons,List.map_nil,Rows.uptoBulk,Rows.uptoBulkAll]
  rw [congrArg Prod.fst f0]
  rw [congrArg Prod.fst f1]
  simp only [show ∀ b : List UInt8,Rows.uptoBulk (DataW.lit (H := H) (.string b)) = b.length + 1 from fun b => by simp [Rows.uptoBulk]]
  have z0 : x0.data.toList.length = x0.size := rfl
  have z1 : x1.data.toList.length = x1.size := rfl
  refine ⟨by omega,by omega⟩
theorem ly_open_gen {W : World} {r : Reach} {b0 : Nat} {H : Type} {enc : TypeId × Value → H} {P : Program} {w : World} {base : Nat} {sp : Nat → Bool} {held : Bool} {t : TypeId} {p0 p1 p2 p3 : Field} (ht : P.underlying t = some (.struct #[p0,p1,p2,p3])) (ce : P.cellsOf t = 4)
  (o0 : p0.offset = 0) (c0 : P.cellsOf p0.type = 1) (u0 : P.underlying p0.type = some .string) (o1 : p1.offset = 1) (c1 : P.cellsOf p1.type = 1) (u1 : P.underlying p1.type = some .string) (o2 : p2.offset = 2) (c2 : P.cellsOf p2.type = 1) (u2 : P.underlying p2.type = some (.int .i64)) (o3 : p3.offset = 3) (c3 : P.cellsOf p3.type = 1) (u3 : P.underlying p3.type = some (.int .i64))
  {v : Value} {d : DataW H} {ps : List MemPlace} (hval : Value.okWide P W r b0 t v) (hd : DataW.Trod enc P w base sp held t v d ps) : ∃ (x0 : ByteArray) (x1 : ByteArray) (x2 : Int) (x3 : Int),v = .agg #[.string x0,.string x1,.int .i64 x2,.int .i64 x3] ∧ x0.size + 1 ≤ Rows.uptoBulk d ∧ x1.size + 1 ≤ Rows.uptoBulk d := by
 obtain ⟨cs,rfl,_⟩ := okWide_struct ht hval
 obtain ⟨fuel,hf⟩ := hd
 obtain ⟨x0,x1,x2,x3,e,hb⟩ := ly_gen ht ce o0 c0 u0 o1 c1 u1 o2 c2 u2 o3 c3 u3 hf
 refine ⟨x0,x1,x2,x3,?_,hb⟩
 have e2 : cs.toList = [.string x0,.string x1,.int .i64 x2,.int .i64 x3] := e
 rw [← Array.toArray_toList (xs := cs),e2]
set_option maxRecDepth 100000 in
theorem ly_open {W : World} {r : Reach} {b0 : Nat} {H : Type} {enc : TypeId × Value → H} {w : World} {base : Nat} {sp : Nat → Bool} {held : Bool} {v : Value} {d : DataW H} {ps : List MemPlace} (hval : Value.okWide Tryd.prog W r b0 23 v) (hd : DataW.Trod enc Tryd.prog w base sp held 23 v d ps) : ∃ (x0 : ByteArray) (x1 : ByteArray) (x2 : Int) (x3 : Int),v = .agg #[.string x0,.string x1,.int .i64 x2,.int .i64 x3] ∧ x0.size + 1 ≤ Rows.uptoBulk d ∧ x1.size + 1 ≤ Rows.uptoBulk d :=
 ly_open_gen Tryd.underlying23 (by kernel_rfl) rfl (by kernel_rfl) Tryd.underlying9 rfl (by kernel_rfl) Tryd.underlying9 rfl (by kernel_rfl) Tryd.underlying3 rfl (by kernel_rfl) Tryd.underlying3 hval hd
end Go.Proofs.YtnpjaaldppemlaaDoor.Lf
end
