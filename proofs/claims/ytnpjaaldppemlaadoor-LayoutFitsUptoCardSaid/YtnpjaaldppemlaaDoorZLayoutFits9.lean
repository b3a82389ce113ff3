/- What the law LayoutFits reaches of this seat's own texts, merged; what nothing uses is left out. -/
import Derived.Test.YtnpjaaldppemlaaDoorZLayoutFits0
import Derived.Test.YtnpjaaldppemlaaDoorZLayoutFits1
import Derived.Test.YtnpjaaldppemlaaDoorZLayoutFits4
import Derived.Test.YtnpjaaldppemlaaDoorZLayoutFits6
import Derived.Test.YtnpjaaldppemlaaDoorZLayoutFits7
import Derived.Test.YtnpjaaldppemlaaDoorZLayoutFits8
section
namespace Go.Proofs.YtnpjaaldppemlaaDoor.Pu
open Go Go.RowKit Go.Proofs.YtnpjaaldppemlaaDoor.Mu Go.Proofs.YtnpjaaldppemlaaDoor.U Go.Proofs.YtnpjaaldppemlaaDoorW.PrintWords Go.Proofs.YtnpjaaldppemlaaDoorW.PrintLast Go.Proofs.YtnpjaaldppemlaaDoorW.PrintMore
set_option linter.unusedVariables false
abbrev Cz := S35
/-- No row is too long. -/
def Rb (A : List (List Cz)) : Prop := A.length ≤ 1099511627776 ∧ ∀ i : Int,(rd_L3 A i).length ≤ 1099511627776
end Go.Proofs.YtnpjaaldppemlaaDoor.Pu
end
section
namespace Go.Proofs.YtnpjaaldppemlaaDoor.Pu
open Go Go.RowKit Go.Proofs.YtnpjaaldppemlaaDoor.Mu Go.Proofs.YtnpjaaldppemlaaDoor.U Go.Proofs.YtnpjaaldppemlaaDoorW.PrintWords Go.Proofs.YtnpjaaldppemlaaDoorW.PrintLast Go.Proofs.YtnpjaaldppemlaaDoorW.PrintMore
set_option linter.unusedVariables false
theorem awake20 : Ev (fun k => bodkinlaw20_awake.f k) true := Ev.of (fun k => bodkinlaw20_awake.mono k) (k := 200) (by kernel_rfl)
theorem cntW_in (w : Int) : 1 ≤ cntW w ∧ cntW w ≤ 65535 := held_in (held_w w)
theorem cf1_pos (t : ByteArray) (c : S60) (h : c ∈ clusL t) : 1 ≤ c.f1 := by
 obtain ⟨i,hci,hi,rfl⟩ := clus_mem t t.size 0 (cb_zero t) c h
 have := nxt_pos t i hi
 show (1 : Int) ≤ (nxt t i : Int)
 omega
theorem atL_cur (wd : Int) (t : ByteArray) (cur : Int) : ∀ (cs : List S60) (s : Ly × (Int × Int)),(∀ c ∈ cs,1 ≤ c.f1) → atL wd t (if cur < 0 then 0 else cur) s cs = atL wd t cur s cs
 | [],_,_ => rfl
 | c :: cs,s,h => by
  have h1 := h c (by simp)
  have e : atF wd t (if cur < 0 then 0 else cur) s c = atF wd t cur s c := by
   unfold atF
   by_cases hn : cur < 0
   ·rw [if_pos hn,if_neg (by omega),if_neg (by omega)]
   ·rw [if_neg hn]
  show atL wd t _ (atF wd t _ s c) cs = atL wd t cur (atF wd t cur s c) cs
  rw [e]
  exact atL_cur wd t cur cs _ (fun c hc => h c (List.mem_cons_of_mem _ hc))
theorem endL_cur (p t : ByteArray) (cur w : Int) : endL p t (if cur < 0 then 0 else cur) w = endL p t cur w := atL_cur _ t cur _ _ (fun c hc => cf1_pos t c hc)
theorem rowsL_cur (p t : ByteArray) (cur w : Int) : rowsL p t (if cur < 0 then 0 else cur) w = rowsL p t cur w := by unfold rowsL;rw [endL_cur]
/-- The rows do not hang on the cursor. -/
theorem rowsL_eq (p t : ByteArray) (cur w : Int) : rowsL p t cur w = (((layL (cntW w) t (st0L p w) (clusL t)).1 ++ [(layL (cntW w) t (st0L p w) (clusL t)).2])).map trimR := by
 unfold rowsL
 have : (endL p t cur w).1 = layL (cntW w) t (st0L p w) (clusL t) := atL_fst _ _ _ _ _
 rw [this]
theorem lay_f (p t : ByteArray) (cur w : Int) (hp : p.size ≤ 34359738368) (ht : t.size ≤ 34359738368) : layout_Lay.f p t cur w = some (cntW w,rowsL p t cur w,(endL p t cur w).2.1,(endL p t cur w).2.2) := by
 unfold layout_Lay.f
 rw [if_pos ⟨hp,ht⟩,rowsL_cur,endL_cur]
theorem st0_in (p : ByteArray) (w : Int) : (st0L p w).In (cntW w) := layL_in _ _ _ _ (ly_new (cntW_in w).1 (cntW_in w).2)
theorem fin_in (p t : ByteArray) (w : Int) : (layL (cntW w) t (st0L p w) (clusL t)).In (cntW w) := layL_in _ _ _ _ (st0_in p w)
theorem st0_len (p : ByteArray) (w : Int) : (st0L p w).1.length ≤ 3 * p.size := by
 have h1 := layL_len (cntW w) p (clusL p) ([],[])
 have h2 := clusL_length p
 simp at h1
 unfold st0L
 omega
theorem fin_len (p t : ByteArray) (w : Int) : (layL (cntW w) t (st0L p w) (clusL t)).1.length ≤ 3 * p.size + 3 * t.size := by
 have h1 := layL_len (cntW w) t (clusL t) (st0L p w)
 have h2 := clusL_length t
 have h3 := st0_len p w
 omega
theorem rowsL_len (p t : ByteArray) (cur w : Int) : (rowsL p t cur w).length = (layL (cntW w) t (st0L p w) (clusL t)).1.length + 1 := by rw [rowsL_eq];simp
theorem trimR_len (L : List Cl) : (trimR L).length ≤ L.length := by unfold trimR;rw [List.length_take];omega
theorem rowsL_row (p t : ByteArray) (cur w : Int) (i : Int) : ((rd_L3 (rowsL p t cur w) i).length : Int) ≤ cntW w := by
 rw [rowsL_eq]
 unfold rd_L3
 rw [List.getD_eq_getElem?_getD,List.getElem?_map]
 have h := (fin_in p t w).rows i.toNat
 rw [List.getD_eq_getElem?_getD] at h
 cases hx : ((layL (cntW w) t (st0L p w) (clusL t)).1 ++ [(layL (cntW w) t (st0L p w) (clusL t)).2])[i.toNat]? with
 | none => have := (cntW_in w).1;simp;omega
 | some L =>
  rw [hx] at h
  have := trimR_len L
  simp only [Option.map_some,Option.getD_some] at h ⊢
  omega
theorem rowsL_rb (p t : ByteArray) (cur w : Int) (hp : p.size ≤ 34359738368) (ht : t.size ≤ 34359738368) : Rb (rowsL p t cur w) := by
 refine ⟨?_,fun i => ?_⟩
 ·rw [rowsL_len]
  have := fin_len p t w
  omega
 ·have h1 := rowsL_row p t cur w i
  have h2 := (cntW_in w).2
  omega
end Go.Proofs.YtnpjaaldppemlaaDoor.Pu
end
section
namespace Go.Proofs.YtnpjaaldppemlaaDoor.Pu
open Go Go.RowKit Go.Proofs.YtnpjaaldppemlaaDoor.Mu Go.Proofs.YtnpjaaldppemlaaDoor.U Go.Proofs.YtnpjaaldppemlaaDoorW.PrintWords Go.Proofs.YtnpjaaldppemlaaDoorW.PrintLast Go.Proofs.YtnpjaaldppemlaaDoorW.PrintMore
set_option linter.unusedVariables false
/-- A row: things of one cell,and of two with an empty half behind. -/
inductive RowOk : List Cl → Prop
 | nil : RowOk []
 | one {r : List Cl} {d : ByteArray} : RowOk r → OneC d 1 ∧ d.size ≤ 1099511627776 → RowOk (r ++ [⟨d,1⟩])
 | two {r : List Cl} {d : ByteArray} : RowOk r → OneC d 2 ∧ d.size ≤ 1099511627776 → RowOk (r ++ [⟨d,2⟩,⟨⟨#[]⟩,0⟩])
/-- One cell of a row. -/
def CellAt (row : List Cl) (k : Nat) : Prop :=
 ((rd_T35 row (k : Int)).f1 = 0 ∧ (rd_T35 row (k : Int)).f0 = ⟨#[]⟩ ∧ 0 < k ∧ (rd_T35 row ((k - 1 : Nat) : Int)).f1 = 2) ∨
 ((rd_T35 row (k : Int)).f1 = 1 ∧ (OneC (rd_T35 row (k : Int)).f0 1 ∧ (rd_T35 row (k : Int)).f0.size ≤ 1099511627776)) ∨
 ((rd_T35 row (k : Int)).f1 = 2 ∧ (OneC (rd_T35 row (k : Int)).f0 2 ∧ (rd_T35 row (k : Int)).f0.size ≤ 1099511627776) ∧ k + 1 < row.length ∧ (rd_T35 row ((k + 1 : Nat) : Int)).f1 = 0)
theorem rd_cell (row : List Cl) (k : Nat) : rd_T35 row (k : Int) = (row[k]?).getD z35 := by
 unfold rd_T35
 rw [Int.toNat_natCast,List.getD_eq_getElem?_getD]
theorem cellAt_app (row more : List Cl) (k : Nat) (hk : k < row.length) (h : CellAt row k) : CellAt (row ++ more) k := by
 unfold CellAt at h ⊢
 have e : ∀ j,j < row.length → rd_T35 (row ++ more) (j : Int) = rd_T35 row (j : Int) := fun j hj => by
  rw [rd_cell,rd_cell,List.getElem?_append_left hj]
 rw [e k hk]
 rcases h with ⟨h1,h2,h3,h4⟩ | h | ⟨h1,h2,h3,h4⟩
 ·exact .inl ⟨h1,h2,h3,by rw [e (k - 1) (by omega)];exact h4⟩
 ·exact .inr (.inl h)
 ·exact .inr (.inr ⟨h1,h2,by rw [List.length_append];omega,by rw [e (k + 1) h3];exact h4⟩)
theorem RowOk.cells {row : List Cl} (h : RowOk row) : ∀ k,k < row.length → CellAt row k := by
 induction h with
 | nil => intro k hk;exact absurd hk (Nat.not_lt_zero _)
 | @one r d hr hd ih =>
  intro k hk
  rw [List.length_append,List.length_singleton] at hk
  rcases Nat.lt_or_ge k r.length with h1 | h1
  ·exact cellAt_app r _ k h1 (ih k h1)
  ·obtain rfl : k = r.length := by omega
   have e : rd_T35 (r ++ [(⟨d,1⟩ : Cl)]) (r.length : Int) = ⟨d,1⟩ := by rw [rd_cell,List.getElem?_append_right (Nat.le_refl _),Nat.sub_self];rfl
   unfold CellAt
   rw [e]
   exact .inr (.inl ⟨rfl,hd⟩)
 | @two r d hr hd ih =>
  intro k hk
  have hl : (r ++ [(⟨d,2⟩ : Cl),⟨⟨#[]⟩,0⟩]).length = r.length + 2 := by rw [List.length_append];rfl
  rw [hl] at hk
  have e0 : rd_T35 (r ++ [(⟨d,2⟩ : Cl),⟨⟨#[]⟩,0⟩]) (r.length : Int) = ⟨d,2⟩ := by rw [rd_cell,List.getElem?_append_right (Nat.le_refl _),Nat.sub_self];rfl
  have e1 : rd_T35 (r ++ [(⟨d,2⟩ : Cl),⟨⟨#[]⟩,0⟩]) ((r.length + 1 : Nat) : Int) = ⟨⟨#[]⟩,0⟩ := by rw [rd_cell,List.getElem?_append_right (by omega),show r.length + 1 - r.length = 1 by omega];rfl
  rcases Nat.lt_or_ge k r.length with h1 | h1
  ·exact cellAt_app r _ k h1 (ih k h1)
  ·unfold CellAt
   rcases Nat.eq_or_lt_of_le h1 with rfl | h2
   ·rw [e0,e1]
    exact .inr (.inr ⟨rfl,hd,by omega,rfl⟩)
   ·obtain rfl : k = r.length + 1 := by omega
    rw [show r.length + 1 - 1 = r.length by omega,e0,e1]
    exact .inl ⟨rfl,rfl,by omega,rfl⟩
theorem isBl_zero : isBl ⟨⟨#[]⟩,0⟩ = false := by
 unfold isBl
 rw [show ((0 : Int) == 1) = false from rfl,Bool.and_false]
/-- Without blanks at the end. -/
theorem RowOk.trim {row : List Cl} (h : RowOk row) : RowOk (trimR row) := by
 have key : ∀ n,n ≤ row.length → RowOk (row.take n) → RowOk (row.take (trimN row n)) := by
  intro n
  induction n with
  | zero => intro _ _;unfold trimN;rw [List.take_zero];exact .nil
  | succ n ih =>
   intro hn hr
   unfold trimN
   split
   ·rename_i hb
    refine ih (by omega) ?_
    have hg : rd_T35 row (n : Int) = row[n] := by rw [rd_cell,List.getElem?_eq_getElem (by omega)];rfl
    rw [hg] at hb
    have e : row.take (n + 1) = row.take n ++ [row[n]] := by rw [List.take_add_one,List.getElem?_eq_getElem (by omega)];rfl
    rw [e] at hr
    generalize hA : row.take n ++ [row[n]] = A at hr
    cases hr with
    | nil => exact absurd (congrArg List.length hA) (by rw [List.length_append,List.length_singleton];exact Nat.succ_ne_zero _)
    | @one r d hr hd =>
     have := List.append_inj_left' hA rfl
     rw [this]
     exact hr
    | @two r d hr hd =>
     exfalso
     have h2 : r ++ [(⟨d,2⟩ : Cl),⟨⟨#[]⟩,0⟩] = (r ++ [⟨d,2⟩]) ++ [⟨⟨#[]⟩,0⟩] := by rw [List.append_assoc];rfl
     rw [h2] at hA
     have h3 := List.append_inj_right' hA rfl
     have h4 : row[n] = ⟨⟨#[]⟩,0⟩ := by simpa using h3
     rw [h4,isBl_zero] at hb
     cases hb
   ·exact hr
 exact key row.length (Nat.le_refl _) (by rw [List.take_length];exact h)
theorem trim_last (row : List Cl) (h : 0 < (trimR row).length) : isBl (rd_T35 (trimR row) (((trimR row).length - 1 : Nat) : Int)) = false := by
 have key : ∀ n,n ≤ row.length → 0 < trimN row n → isBl (rd_T35 row ((trimN row n - 1 : Nat) : Int)) = false := by
  intro n
  induction n with
  | zero => intro _ h;unfold trimN at h;omega
  | succ n ih =>
   intro hn h
   unfold trimN at h ⊢
   split at h
   ·rename_i hb
    rw [if_pos hb]
    exact ih (by omega) h
   ·rename_i hb
    rw [if_neg hb]
    simpa using hb
 have hle := trimN_le row row.length
 have hl : (trimR row).length = trimN row row.length := by unfold trimR;rw [List.length_take];omega
 rw [hl] at h ⊢
 have := key row.length (Nat.le_refl _) h
 unfold trimR
 rw [rd_cell,List.getElem?_take_of_lt (by omega),← rd_cell]
 exact this
/-- All rows are so. -/
def LyOk (s : Ly) : Prop := (∀ r ∈ s.1,RowOk r) ∧ RowOk s.2
theorem LyOk.down {s : Ly} (h : LyOk s) : LyOk s.down := ⟨fun r hr => by
 rcases List.mem_append.1 hr with hr | hr
 ·exact h.1 r hr
 ·obtain rfl := List.mem_singleton.1 hr;exact h.2,.nil⟩
theorem LyOk.one {s : Ly} (h : LyOk s) (wd : Int) {d : ByteArray} (hd : OneC d 1 ∧ d.size ≤ 1099511627776) : LyOk (s.cell wd ⟨d,1⟩) := by
 unfold Ly.cell
 split
 ·refine ⟨fun r hr => ?_,.nil⟩
  rcases List.mem_append.1 hr with hr | hr
  ·exact h.1 r hr
  ·obtain rfl := List.mem_singleton.1 hr;exact .one h.2 hd
 ·exact ⟨h.1,.one h.2 hd⟩
theorem LyOk.two {s : Ly} (h : LyOk s) (wd : Int) {d : ByteArray} (hd : OneC d 2 ∧ d.size ≤ 1099511627776) (hf : (s.2.length : Int) + 1 < wd) : LyOk ((s.cell wd ⟨d,2⟩).cell wd ⟨⟨#[]⟩,0⟩) := by
 have e : s.cell wd ⟨d,2⟩ = (s.1,s.2 ++ [⟨d,2⟩]) := by unfold Ly.cell;rw [if_neg (by omega)]
 rw [e]
 have e2 : s.2 ++ [(⟨d,2⟩ : Cl)] ++ [⟨⟨#[]⟩,0⟩] = s.2 ++ [(⟨d,2⟩ : Cl),⟨⟨#[]⟩,0⟩] := by rw [List.append_assoc];rfl
 unfold Ly.cell
 dsimp only
 split
 ·refine ⟨fun r hr => ?_,.nil⟩
  rcases List.mem_append.1 hr with hr | hr
  ·exact h.1 r hr
  ·obtain rfl := List.mem_singleton.1 hr;rw [e2];exact .two h.2 hd
 ·exact ⟨h.1,by rw [e2];exact .two h.2 hd⟩
theorem caret_dec : ((List.range 94).all fun k => (Lib.decodeGo ((⟨#[94]⟩ : ByteArray) ++ ⟨#[UInt8.ofNat (k + 33)]⟩)).2 == 1) = true := by kernel_rfl
theorem caret_n (b : UInt8) (h1 : 33 ≤ b.toNat) (h2 : b.toNat < 127) : (Lib.decodeGo ((⟨#[94]⟩ : ByteArray) ++ ⟨#[b]⟩)).2 = 1 := by
 have h := List.all_eq_true.1 caret_dec (b.toNat - 33) (List.mem_range.2 (by omega))
 rw [show b.toNat - 33 + 33 = b.toNat by omega,UInt8.ofNat_toNat] at h
 simpa using h
theorem one_bad : OneC badB 1 ∧ badB.size ≤ 1099511627776 := by
 refine ⟨?_,by show 3 ≤ _;omega⟩
 have := one_fffd ⟨#[]⟩ valid_nil (fun j _ h => absurd h (Nat.not_lt_zero _))
 have e : (⟨#[239,191,189]⟩ : ByteArray) ++ ⟨#[]⟩ = badB := rfl
 rwa [e] at this
theorem kind_ok {wd : Int} {s : Ly} (hf : s.Fit wd) (h : LyOk s) {c k : Int} {d : ByteArray} (hk : Kind c k d) (hz : d.size ≤ 1099511627776) : LyOk (s.lay wd c k d (Lib.decodeGo d).2) := by
 obtain ⟨f1,f2,f3⟩ := hf
 have hm : LyOk (if (s.2.length : Int) = wd - 1 then s.down else s) := by
  split
  ·exact h.down
  ·exact h
 have hm2 : 2 ≤ wd → ((if (s.2.length : Int) = wd - 1 then s.down else s).2.length : Int) + 1 < wd := fun h2 => by
  split
  ·show (0 : Int) + 1 < wd;omega
  ·omega
 unfold Ly.lay
 rcases hk with ⟨rfl,rfl⟩ | ⟨rfl,hd⟩ | ⟨rfl,rfl,hd⟩ | ⟨rfl,hc,b,hb1,hb2,rfl⟩
 ·rw [if_pos rfl];exact h.down
 ·rw [if_neg (by decide),if_pos rfl];exact h.one wd ⟨hd,hz⟩
 ·rw [if_neg (by decide),if_neg (by decide)]
  split
  ·exact h.one wd one_bad
  ·rw [if_pos rfl];exact hm.two wd ⟨hd,hz⟩ (hm2 (by omega))
 ·rw [if_neg (by decide),if_neg (by decide)]
  split
  ·exact h.one wd one_bad
  ·rw [caret_n b hb1 hb2]
   have g1 : ((⟨#[94]⟩ : ByteArray) ++ ⟨#[b]⟩).extract 0 1 = ⟨#[94]⟩ := rfl
   have g2 : ((⟨#[94]⟩ : ByteArray) ++ ⟨#[b]⟩).extract 1 ((⟨#[94]⟩ : ByteArray) ++ ⟨#[b]⟩).size = ⟨#[b]⟩ := rfl
   rw [g1,g2]
   exact (hm.one wd ⟨one_ascii 94 (by decide) (by decide),by show 1 ≤ _;omega⟩).one wd ⟨one_ascii b (by omega) hb2,by show 1 ≤ _;omega⟩
theorem layL_ok (wd : Int) (t : ByteArray) (ht : t.size ≤ 34359738368) (cs : List S60) : ∀ (st : Ly),(∀ c ∈ cs,c ∈ clusL t) → st.Fit wd → LyOk st → LyOk (layL wd t st cs) := by
 induction cs with
 | nil =>
  intro st _ _ h
  have e : layL wd t st [] = st := by unfold layL;rw [List.foldl_nil]
  rw [e]
  exact h
 | cons c cs ih =>
  intro st hc hf h
  have e : layL wd t st (c :: cs) = layL wd t (layC wd t st c) cs := by unfold layL;rw [List.foldl_cons]
  rw [e]
  have hk : Kind c.f2 c.f3 (drawnS (t.extract c.f0.toNat c.f1.toNat)) ∧ (drawnS (t.extract c.f0.toNat c.f1.toNat)).size ≤ 1099511627776 := by
   obtain ⟨i,hci,hi,rfl⟩ := clus_mem t t.size 0 (cb_zero t) c (hc c (by simp))
   have e0 : (clAt t i).f0.toNat = i := Int.toNat_natCast i
   have e1 : (clAt t i).f1.toNat = nxt t i := Int.toNat_natCast _
   rw [e0,e1,(piece_one t i hci hi).2.2]
   refine ⟨drawn_kind t i hci hi,?_⟩
   have h3 := draw_size t [clAt t i] i hci (by omega) ⟨ctl t (nxt t i),by rw [ctl_go t i hi];rfl⟩
   rw [drawU_cons,drawU_nil,List.append_nil,← Lib.size_eq] at h3
   omega
  refine ih _ (fun c h => hc c (List.mem_cons_of_mem _ h)) ?_ ?_
  ·unfold layC;exact hf.lay _ _ _ _
  ·unfold layC;exact kind_ok hf h hk.1 hk.2
theorem fits_ok (p t : ByteArray) (w : Int) (hp : p.size ≤ 34359738368) (ht : t.size ≤ 34359738368) : LyOk (layL (cntW w) t (st0L p w) (clusL t)) := by
 refine layL_ok _ _ ht _ _ (fun _ h => h) (st0_in p w).1 ?_
 unfold st0L
 exact layL_ok _ _ hp _ _ (fun _ h => h) (ly_new (cntW_in w).1 (cntW_in w).2).1 ⟨fun r hr => (by cases hr),.nil⟩
/-- Each row of what is laid: its cells,its length,its last. -/
theorem fits_row (p t : ByteArray) (cur w : Int) (hp : p.size ≤ 34359738368) (ht : t.size ≤ 34359738368) (i : Nat) (hi : i < (rowsL p t cur w).length) : RowOk (rd_L3 (rowsL p t cur w) (i : Int)) ∧ (0 < (rd_L3 (rowsL p t cur w) (i : Int)).length → isBl (rd_T35 (rd_L3 (rowsL p t cur w) (i : Int)) (((rd_L3 (rowsL p t cur w) (i : Int)).length - 1 : Nat) : Int)) = false) := by
 have hok := fits_ok p t w hp ht
 have hm : rd_L3 (rowsL p t cur w) (i : Int) ∈ rowsL p t cur w := by
  unfold rd_L3
  rw [Int.toNat_natCast,List.getD_eq_getElem?_getD,List.getElem?_eq_getElem hi]
  exact List.getElem_mem hi
 generalize rd_L3 (rowsL p t cur w) (i : Int) = row at hm
 rw [rowsL_eq] at hm
 obtain ⟨r,hr,rfl⟩ := List.mem_map.1 hm
 refine ⟨RowOk.trim ?_,trim_last r⟩
 rcases List.mem_append.1 hr with hr | hr
 ·exact hok.1 r hr
 ·obtain rfl := List.mem_singleton.1 hr;exact hok.2
end Go.Proofs.YtnpjaaldppemlaaDoor.Pu
end
section
namespace Go.Proofs.YtnpjaaldppemlaaDoor.Pure
open Go Go.RowKit Go.Proofs.YtnpjaaldppemlaaDoor.Mu Go.Proofs.YtnpjaaldppemlaaDoor.Pu Go.Proofs.YtnpjaaldppemlaaDoor.U Go.Proofs.YtnpjaaldppemlaaDoorW.PrintWords Go.Proofs.YtnpjaaldppemlaaDoorW.PrintLast Go.Proofs.YtnpjaaldppemlaaDoorW.PrintMore
set_option linter.unusedVariables false
theorem wn2 (i : Nat) (h : i ≤ 1099511627776) : wrap64 ((i : Int) + 1) = ((i + 1 : Nat) : Int) := by rw [w64 (by omega) (by omega)];rfl
theorem wp2 (i : Nat) (h0 : 0 < i) (h : i ≤ 1099511627776) : wrap64 ((i : Int) - 1) = ((i - 1 : Nat) : Int) := by rw [w64 (by omega) (by omega)];omega
theorem one_fs {d : ByteArray} {k : Int} (h : OneC d k) (hz : d.size ≤ 1099511627776) : cluster_Count.f d = some 1 ∧ cluster_Cells.f d = some k ∧ cluster_Drawn.f d = some d := by
 have hg := h.good
 refine ⟨?_,?_,?_⟩
 ·unfold cluster_Count.f
  rw [if_pos hz,h.clus]
  rfl
 ·unfold cluster_Cells.f
  rw [if_pos hz,hg.sum]
 ·unfold cluster_Drawn.f
  have e : drawnS d = d := by
   apply ByteArray.ext
   exact Array.toList_inj.1 hg.draw
  rw [if_pos hz,e]
theorem fits_cells (p t : ByteArray) (c w wd r cc : Int) (R : List (List Cz)) (i : Nat) (row : List Cz) (hrow : RowOk row) (hl : row.length ≤ 1099511627776) (hn : Ev (fun k => bodkinlaw20_LayoutFits.l0 k (wrap64 ((i : Int) + 1)) p t c w wd R r cc) true) : ∀ n j : Nat,j + n = row.length →
  Ev (fun k => bodkinlaw20_LayoutFits.l1 k (i : Int) row (row.length : Int) (j : Int) p t c w wd R r cc) true := by
 intro n
 induction n with
 | zero =>
  intro j hj
  exact Ev.step (fun k => bodkinlaw20_LayoutFits.l1.eq_2 ..) (ev_neg (by omega) hn)
 | succ n ih =>
  intro j hj
  have hnext := ih (j + 1) (by omega)
  rw [← wn2 j (by omega)] at hnext
  refine Ev.step (fun k => bodkinlaw20_LayoutFits.l1.eq_2 ..) (ev_pos (by omega) (ev_pos (by omega) (ev_pos (by omega) ?_)))
  rcases hrow.cells j (by omega) with ⟨h1,h2,h3,h4⟩ | ⟨h1,h2,h3⟩ | ⟨h1,⟨h2,h3⟩,h4,h5⟩
  ·refine ev_pos h1 (ev_pos ?_ (ev_neg (by omega) ?_))
   ·rw [h2,toList_bytes]
   ·rw [wp2 j h3 (by omega)]
    exact ev_pos (by omega) (ev_pos (by omega) (ev_pos h4 hnext))
  ·obtain ⟨f1,f2,f3⟩ := one_fs h2 h3
   refine ev_neg (by rw [h1];decide) (ev_pos h1 ?_)
   refine Ev.step (fun k => bodkinlaw20_LayoutFits.j3.eq_2 ..) (ev_pos (by rw [h1];rfl) (ev_some f1 (ev_pos rfl (ev_some f2 (ev_pos h1.symm (ev_some f3 (ev_pos rfl (ev_neg (by rw [h1];decide) hnext))))))))
  ·obtain ⟨f1,f2,f3⟩ := one_fs h2 h3
   refine ev_neg (by rw [h1];decide) (ev_neg (by rw [h1];decide) ?_)
   refine Ev.step (fun k => bodkinlaw20_LayoutFits.j3.eq_2 ..) (ev_pos (by rw [h1];rfl) (ev_some f1 (ev_pos rfl (ev_some f2 (ev_pos h1.symm (ev_some f3 (ev_pos rfl (ev_pos h1 ?_))))))))
   rw [wn2 j (by omega)]
   refine ev_neg (by omega) (ev_pos (by omega) (ev_pos (by omega) (ev_pos h5 ?_)))
   rw [← wn2 j (by omega)]
   exact hnext
theorem fits_rows (p t : ByteArray) (c w wd r cc : Int) (R : List (List Cz)) (hR : R.length ≤ 1099511627776) (hall : ∀ i : Nat,i < R.length → RowOk (rd_L3 R (i : Int)) ∧ ((rd_L3 R (i : Int)).length : Int) ≤ cntW w ∧ (0 < (rd_L3 R (i : Int)).length → isBl (rd_T35 (rd_L3 R (i : Int)) (((rd_L3 R (i : Int)).length - 1 : Nat) : Int)) = false)) : ∀ n i : Nat,i + n = R.length →
  Ev (fun k => bodkinlaw20_LayoutFits.l0 k (i : Int) p t c w wd R r cc) true := by
 intro n
 induction n with
 | zero =>
  intro i hi
  exact Ev.step (fun k => bodkinlaw20_LayoutFits.l0.eq_2 ..) (ev_neg (by omega) (Ev.now _))
 | succ n ih =>
  intro i hi
  obtain ⟨h1,h2,h3⟩ := hall i (by omega)
  have hw := (cntW_in w).2
  have hnext := ih (i + 1) (by omega)
  rw [← wn2 i (by omega)] at hnext
  have hj : ∀ b : Bool,b = false → Ev (fun k => bodkinlaw20_LayoutFits.j1 k (i : Int) ((rd_L3 R (i : Int)).length : Int) b p t c w wd R r cc) true := by
   rintro b rfl
   exact Ev.step (fun k => bodkinlaw20_LayoutFits.j1.eq_2 ..) (ev_neg (by simp) (fits_cells p t c w wd r cc R i _ h1 (by omega) hnext (rd_L3 R (i : Int)).length 0 (by omega)))
  refine Ev.step (fun k => bodkinlaw20_LayoutFits.l0.eq_2 ..) (ev_pos (by omega) (ev_pos (by omega) (ev_some (show bodkinlaw20_width.f w = some (cntW w) from rfl) (ev_neg (by omega) ?_))))
  by_cases hz : ((rd_L3 R (i : Int)).length : Int) > 0
  ·refine ev_pos hz ?_
   rw [wp2 (rd_L3 R (i : Int)).length (by omega) (by omega)]
   exact ev_pos (by omega) (ev_pos (by omega) (hj _ (h3 (by omega))))
  ·exact ev_neg hz (hj false rfl)
theorem LayoutFits (a0_0 a0_1 : ByteArray) (a0_2 a0_3 : Int) (u0_0 : a0_0.size ≤ 1048576) (u0_1 : a0_1.size ≤ 1048576) : ∃ k,bodkinlaw20_LayoutFits.f k a0_0 a0_1 a0_2 a0_3 = some true := by
 apply Ev.rounds
 unfold bodkinlaw20_LayoutFits.f
 have h0 : a0_0.size ≤ 34359738368 := by omega
 have h1 : a0_1.size ≤ 34359738368 := by omega
 refine Ev.bind awake20 (ev_pos rfl (ev_some (lay_f a0_0 a0_1 a0_2 a0_3 h0 h1) ?_))
 refine fits_rows a0_0 a0_1 a0_2 a0_3 _ _ _ (rowsL a0_0 a0_1 a0_2 a0_3) (rowsL_rb a0_0 a0_1 a0_2 a0_3 h0 h1).1 (fun i hi => ?_) (rowsL a0_0 a0_1 a0_2 a0_3).length 0 (by omega)
 obtain ⟨g1,g2⟩ := fits_row a0_0 a0_1 a0_2 a0_3 h0 h1 i hi
 exact ⟨g1,rowsL_row a0_0 a0_1 a0_2 a0_3 (i : Int),g2⟩
end Go.Proofs.YtnpjaaldppemlaaDoor.Pure
end
section
namespace Go.Proofs.YtnpjaaldppemlaaDoor.Lf
open Go.Lib Go.Proofs
theorem own : ownKnob Tryd.prog.godebug = none := by kernel_rfl
theorem laidOut : laidOutB Tryd.prog = true := by kernel_rfl
theorem extra : U8Extra Tryd.prog Tryd.lays260_ren := {
 n3 := by kernel_rfl
 n4 := by kernel_rfl
 y3 := by kernel_rfl
 y4 := by kernel_rfl
 c5 := by kernel_rfl
 c119 := by kernel_rfl
 c138 := by kernel_rfl }
theorem first_eq : Rows.laid_unicode_utf8_first = Lib.firstData := by kernel_rfl
theorem accept_eq : (Rows.laid_unicode_utf8_acceptRanges : DataW Unit) = Lib.acceptData := by kernel_rfl
abbrev laid : List (String × DataW Unit) := [("unicode/utf8.acceptRanges", Rows.laid_unicode_utf8_acceptRanges), ("unicode/utf8.first", Rows.laid_unicode_utf8_first)]
/-- The two tables lie as the contracts ask. -/
theorem tabs {W : World} (h : laidMetH Tryd.prog laid W) : Lib.Utf8Tabs 0 1 W := by
  rw [MakeChecks.laidMetH_plain _ _ _ (by kernel_rfl)] at h
  have h3 := laidMet.reads h (n := "unicode/utf8.first") (d := Rows.laid_unicode_utf8_first) (List.mem_cons_of_mem _ List.mem_cons_self)
  have h4 := laidMet.reads h (n := "unicode/utf8.acceptRanges") (d := Rows.laid_unicode_utf8_acceptRanges) List.mem_cons_self
  rw [first_eq] at h3
  rw [accept_eq] at h4
  exact utf8Tabs_of_reads Tryd.lays260 extra h3 h4
/-- The world of the witness: the settled one,the tables laid. -/
noncomputable abbrev wit (os : Os) : World := World.laidAll Tryd.prog os laid
theorem wit_laid (os : Os) (args : Array Value) : laidMetH Tryd.prog laid ((wit os).forCall (fun _ _ => 0) ⟨#[],args,[]⟩).memory := by
 rw [MakeChecks.laidMetH_plain _ _ _ (by kernel_rfl)]
 exact laidMet_laidAll _ (by kernel_rfl) (by kernel_rfl)
theorem wit_shaped (os : Os) (args : Array Value) : ((wit os).forCall (fun _ _ => 0) ⟨#[],args,[]⟩).Shaped Tryd.prog :=
 World.shaped_of_ZipB (by kernel_rfl) (by kernel_rfl)
end Go.Proofs.YtnpjaaldppemlaaDoor.Lf
end
section
namespace Go.Proofs.YtnpjaaldppemlaaDoor.Lf
open Go Go.RowKit Go.ChangeShapes Go.WideShapes Go.Proofs.YtnpjaaldppemlaaDoor.U Go.Proofs.YtnpjaaldppemlaaDoorW.PrintWords Go.Proofs.YtnpjaaldppemlaaDoorW.PrintLast Go.Proofs.YtnpjaaldppemlaaDoorW.PrintMore
set_option linter.unusedVariables false
set_option linter.unusedSimpArgs false
theorem ly_gen {H : Type} {enc : TypeId × Value → H} {P : Program} {w : World} {base : Nat} {sp : Nat → Bool} {held : Bool} {t : TypeId} {p0 p1 p2 p3 : Field} (ht : P.underlying t = some (.struct #[p0,p1,p2,p3])) (ce : P.cellsOf t = 4)
  (o0 : p0.offset = 0) (c0 : P.cellsOf p0.type = 1) (u0 : P.underlying p0.type = some .string) (o1 : p1.offset = 1) (c1 : P.cellsOf p1.type = 1) (u1 : P.underlying p1.type = some .string) (o2 : p2.offset = 2) (c2 : P.cellsOf p2.type = 1) (u2 : P.underlying p2.type = some (.int .i64)) (o3 : p3.offset = 3) (c3 : P.cellsOf p3.type = 1) (u3 : P.underlying p3.type = some (.int .i64))
  {fuel : Nat} {cs : List Value} {x : DataW H × List MemPlace} (h : DataW.trod enc P w base sp held fuel t cs = some x) : ∃ (x0 : ByteArray) (x1 : ByteArray) (x2 : Int) (x3 : Int),cs = [.string x0,.string x1,.int .i64 x2,.int .i64 x3] ∧ x0.size + 1 ≤ Rows.uptoBulk x.1 ∧ x1.size + 1 ≤ Rows.uptoBulk x.1 := by
 obtain ⟨xs,n,_,rfl,hl,hlen,hf⟩ := DataW.trod_struct ht h
 rw [ce] at hl
 match xs,hlen,cs,hl with
 | [y0,y1,y2,y3],_,[v0,v1,v2,v3],_ =>
  have g0 := hf 0 p0 rfl
  have g1 := hf 1 p1 rfl
  have g2 := hf 2 p2 rfl
  have g3 := hf 3 p3 rfl
  simp [o0,c0,o1,c1,o2,c2,o3,c3] at g0 g1 g2 g3
  obtain ⟨x0,e0,f0,_⟩ := DataW.trod_string u0 g0
  injection e0 with e0
  subst e0
  obtain ⟨x1,e1,f1,_⟩ := DataW.trod_string u1 g1
  injection e1 with e1
  subst e1
  obtain ⟨x2,e2,f2,_⟩ := DataW.trod_int u2 g2
  injection e2 with e2
  subst e2
  obtain ⟨x3,e3,f3,_⟩ := DataW.trod_int u3 g3
  injection e3 with e3
  subst e3
  refine ⟨x0,x1,x2,x3,rfl,?_⟩
  simp only [List.map_cons,List.map_nil,Rows.uptoBulk,Rows.uptoBulkAll]
  rw [congrArg Prod.fst f0]
  rw [congrArg Prod.fst f1]
  simp only [show ∀ b : List UInt8,Rows.uptoBulk (DataW.lit (H := H) (.string b)) = b.length + 1 from fun b => by simp [Rows.uptoBulk]]
  have z0 : x0.data.toList.length = x0.size := rfl
  have z1 : x1.data.toList.length = x1.size := rfl
  refine ⟨by omega,by omega⟩
theorem ly_open_gen {W : World} {r : Reach} {b0 : Nat} {H : Type} {enc : TypeId × Value → H} {P : Program} {w : World} {base : Nat} {sp : Nat → Bool} {held : Bool} {t : TypeId} {p0 p1 p2 p3 : Field} (ht : P.underlying t = some (.struct #[p0,p1,p2,p3])) (ce : P.cellsOf t = 4)
  (o0 : p0.offset = 0) (c0 : P.cellsOf p0.type = 1) (u0 : P.underlying p0.type = some .string) (o1 : p1.offset = 1) (c1 : P.cellsOf p1.type = 1) (u1 : P.underlying p1.type = some .string) (o2 : p2.offset = 2) (c2 : P.cellsOf p2.type = 1) (u2 : P.underlying p2.type = some (.int .i64)) (o3 : p3.offset = 3) (c3 : P.cellsOf p3.type = 1) (u3 : P.underlying p3.type = some (.int .i64))
  {v : Value} {d : DataW H} {ps : List MemPlace} (hval : Value.okWide P W r b0 t v) (hd : DataW.Trod enc P w base sp held t v d ps) : ∃ (x0 : ByteArray) (x1 : ByteArray) (x2 : Int) (x3 : Int),v = .agg #[.string x0,.string x1,.int .i64 x2,.int .i64 x3] ∧ x0.size + 1 ≤ Rows.uptoBulk d ∧ x1.size + 1 ≤ Rows.uptoBulk d := by
 obtain ⟨cs,rfl,_⟩ := okWide_struct ht hval
 obtain ⟨fuel,hf⟩ := hd
 obtain ⟨x0,x1,x2,x3,e,hb⟩ := ly_gen ht ce o0 c0 u0 o1 c1 u1 o2 c2 u2 o3 c3 u3 hf
 refine ⟨x0,x1,x2,x3,?_,hb⟩
 have e2 : cs.toList = [.string x0,.string x1,.int .i64 x2,.int .i64 x3] := e
 rw [← Array.toArray_toList (xs := cs),e2]
set_option maxRecDepth 100000 in
theorem ly_open {W : World} {r : Reach} {b0 : Nat} {H : Type} {enc : TypeId × Value → H} {w : World} {base : Nat} {sp : Nat → Bool} {held : Bool} {v : Value} {d : DataW H} {ps : List MemPlace} (hval : Value.okWide Tryd.prog W r b0 23 v) (hd : DataW.Trod enc Tryd.prog w base sp held 23 v d ps) : ∃ (x0 : ByteArray) (x1 : ByteArray) (x2 : Int) (x3 : Int),v = .agg #[.string x0,.string x1,.int .i64 x2,.int .i64 x3] ∧ x0.size + 1 ≤ Rows.uptoBulk d ∧ x1.size + 1 ≤ Rows.uptoBulk d :=
 ly_open_gen Tryd.underlying23 (by kernel_rfl) rfl (by kernel_rfl) Tryd.underlying9 rfl (by kernel_rfl) Tryd.underlying9 rfl (by kernel_rfl) Tryd.underlying3 rfl (by kernel_rfl) Tryd.underlying3 hval hd
end Go.Proofs.YtnpjaaldppemlaaDoor.Lf
end
