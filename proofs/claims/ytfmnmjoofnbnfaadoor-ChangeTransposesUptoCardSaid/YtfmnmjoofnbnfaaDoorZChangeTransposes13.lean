/- What the law ChangeTransposes reaches of this seat's own texts, merged; what nothing uses is left out. -/
import Derived.Test.YtfmnmjoofnbnfaaDoorZChangeTransposes0
import Derived.Test.YtfmnmjoofnbnfaaDoorZChangeTransposes1
import Derived.Test.YtfmnmjoofnbnfaaDoorZChangeTransposes4
import Derived.Test.YtfmnmjoofnbnfaaDoorZChangeTransposes9
import Derived.Test.YtfmnmjoofnbnfaaDoorZChangeTransposes12
section
namespace Go.Proofs.YtfmnmjoofnbnfaaDoor.Pu
open Go Go.RowKit Go.Proofs.YtfmnmjoofnbnfaaDoor.Mu Go.Proofs.YtfmnmjoofnbnfaaDoor.U Go.Proofs.YtfmnmjoofnbnfaaDoorW.PrintWords Go.Proofs.YtfmnmjoofnbnfaaDoorW.PrintLast Go.Proofs.YtfmnmjoofnbnfaaDoorW.PrintMore
set_option linter.unusedVariables false
set_option linter.unusedSimpArgs false
theorem bt_byt' (t : ByteArray) (i : Nat) (h : i < t.size) : bt t i = (byt t i : Int) := by
 unfold bt byt
 rw [dif_pos (by omega),get!_eq,List.getD_eq_getElem?_getD]
 have hl : i < t.data.toList.length := by rw [← Lib.size_eq];exact h
 rw [List.getElem?_eq_getElem hl]
 rfl
theorem index_spec (c : UInt8) : ∀ l : List UInt8,(Lib.indexByte l c = -1 ∧ ∀ j : Nat,l[j]? ≠ some c) ∨ ∃ i : Nat,Lib.indexByte l c = i ∧ l[i]? = some c ∧ ∀ j : Nat,j < i → l[j]? ≠ some c
 | [] => .inl ⟨rfl,fun j => by simp⟩
 | b :: l => by
  unfold Lib.indexByte
  by_cases hb : b = c
  ·rw [if_pos (by simp [hb])]
   exact .inr ⟨0,rfl,by simp [hb],fun j hj => by omega⟩
  ·rw [if_neg (by simp [hb])]
   rcases index_spec c l with ⟨h1,h2⟩ | ⟨i,h1,h2,h3⟩
   ·rw [if_pos (by simp [h1])]
    refine .inl ⟨rfl,fun j => ?_⟩
    cases j with
    | zero => simpa using hb
    | succ j => simpa using h2 j
   ·rw [if_neg (by rw [h1,beq_iff_eq];omega)]
    refine .inr ⟨i + 1,by omega,by simpa using h2,fun j hj => ?_⟩
    cases j with
    | zero => simpa using hb
    | succ j => simpa using h3 j (by omega)
theorem tail_at (s : ByteArray) (x j : Nat) (hj : x + j < s.size) : (s.extract x s.size).data.toList[j]? = some (s.get! (x + j)) := by
 rw [Lib.extract_data,List.getElem?_take,if_pos (by omega),List.getElem?_drop,get!_eq,List.getD_eq_getElem?_getD]
 rw [List.getElem?_eq_getElem (by rw [← Lib.size_eq];exact hj)]
 rfl
theorem ten_byt (s : ByteArray) (i : Nat) : s.get! i = 10 ↔ byt s i = 10 := by
 unfold byt
 exact ⟨fun h => by rw [h];rfl,fun h => UInt8.toNat_inj.1 (by rw [h];rfl)⟩
/-- The next newline. -/
theorem nl_spec (s : ByteArray) (x : Nat) (hx : x ≤ s.size) : (nlZ s x = -1 ∧ ∀ j,x ≤ j → j < s.size → byt s j ≠ 10) ∨ ∃ n : Nat,nlZ s x = n ∧ x + n < s.size ∧ byt s (x + n) = 10 ∧ ∀ j,x ≤ j → j < x + n → byt s j ≠ 10 := by
 have hl : (s.extract x s.size).data.toList.length = s.size - x := by
  rw [Array.length_toList]
  exact size_extract _ _ _ (Nat.le_refl _)
 unfold nlZ
 rw [Int.toNat_natCast]
 rcases index_spec 10 (s.extract x s.size).data.toList with ⟨h1,h2⟩ | ⟨n,h1,h2,h3⟩
 ·refine .inl ⟨h1,fun j hj hj2 h => h2 (j - x) ?_⟩
  rw [tail_at s x (j - x) (by omega),show x + (j - x) = j by omega,(ten_byt s j).2 h]
 ·have hn : n < s.size - x := by
   rw [← hl]
   exact (List.getElem?_eq_some_iff.1 h2).1
  rw [tail_at s x n (by omega)] at h2
  refine .inr ⟨n,h1,by omega,(ten_byt s _).1 (Option.some.inj h2),fun j hj hj2 h => h3 (j - x) (by omega) ?_⟩
  rw [tail_at s x (j - x) (by omega),show x + (j - x) = j by omega,(ten_byt s j).2 h]
/-- The line's beginning. -/
theorem lst_spec (s : ByteArray) (x : Nat) (hx : x ≤ s.size) : ∃ l : Nat,lstZ s x = l ∧ l ≤ x ∧ (l = 0 ∨ byt s (l - 1) = 10) ∧ ∀ j,l ≤ j → j < x → byt s j ≠ 10 := by
 have h2 : (s.extract 0 x).size = x := by rw [size_extract _ _ _ hx];omega
 have hb : ∀ j,j < x → (((s.extract 0 x).data[j]!).toNat : Int) = (byt s j : Int) := by
  intro j hj
  have e := byt_extract s 0 x j (by omega) hx
  rw [Nat.zero_add] at e
  rw [← e]
  rfl
 unfold lstZ
 rw [Int.toNat_natCast]
 rcases Lib.lastIndexByte_spec (s.extract 0 x) 10 with ⟨h,hn⟩ | ⟨i,hi,h,hv,hn⟩
 ·refine ⟨0,by omega,Nat.zero_le _,.inl rfl,fun j _ hj h => ?_⟩
  have := hn j (by omega)
  rw [hb j hj] at this
  omega
 ·rw [hb i (by omega)] at hv
  refine ⟨i + 1,by omega,by omega,.inr (by rw [Nat.add_sub_cancel];omega),fun j hj hj2 h => ?_⟩
  have := hn j (by omega) (by omega)
  rw [hb j hj2] at this
  omega
theorem bd_low (s : ByteArray) (x : Nat) (hx : x < s.size) (h : byt s x < 128) : Bd s x :=
 ⟨by omega,fun j hj => by
  by_cases h2 : x < j + uN s j
  ·have := inner_cont s j x hj h2;omega
  ·omega⟩
theorem cb_nl (s : ByteArray) (x : Nat) (hx : x < s.size) (h : byt s x = 10) (hc : ∀ y,y + 1 = x → byt s y ≠ 13) : CB s x := by
 refine ⟨bd_low s x hx (by omega),fun y hy he hlt => ?_⟩
 rw [(uC_low s x 10 (by omega)).2 h]
 cases hg : glueB (uC s y) 10 with
 | false => rfl
 | true =>
  have hu := (glue_nl _).1 hg
  have h1 := uN_low s y 13 (by omega) hu
  exact absurd ((uC_low s y 13 (by omega)).1 hu) (hc y (by omega))
theorem cb_cr (s : ByteArray) (x : Nat) (hx : x < s.size) (h : byt s x = 13) : CB s x := by
 refine ⟨bd_low s x hx (by omega),fun y hy he hlt => ?_⟩
 rw [(uC_low s x 13 (by omega)).2 h]
 exact glue_cr _
theorem cb_after (s : ByteArray) (x : Nat) (hx : x < s.size) (h : byt s x = 10) : CB s (x + 1) := by
 have hu := (uC_low s x 10 (by omega)).2 h
 have h1 := uN_low s x 10 (by omega) hu
 have hb := bd_low s x hx (by omega)
 have hb1 := bd_next s x hb hx
 rw [h1] at hb1
 refine ⟨hb1,fun y hy he hlt => ?_⟩
 obtain rfl := bd_prev_one s (x + 1) y x hy hb he.symm (by omega)
 rw [hu]
 exact glue_of_nl _
theorem lst_cb (s : ByteArray) (x : Int) (h : CBI s x) : CBI s (lstZ s x) := by
 have hr := cbi_range h
 obtain ⟨l,h1,h2,h3,_⟩ := lst_spec s x.toNat (by omega)
 rw [Int.toNat_of_nonneg hr.1] at h1
 rw [h1,cbI_nat]
 rcases h3 with rfl | h3
 ·exact cb_zero s
 ·rcases Nat.eq_zero_or_pos l with rfl | hl
  ·exact cb_zero s
  ·have := cb_after s (l - 1) (by omega) h3
   rwa [show l - 1 + 1 = l by omega] at this
theorem lend_cb (s : ByteArray) (x : Int) (h : CBI s x) : CBI s (lendZ s x).1 ∧ CBI s (lendZ s x).2 := by
 have hr := cbi_range h
 obtain ⟨y,rfl⟩ : ∃ y : Nat,x = y := ⟨x.toNat,by omega⟩
 unfold lendZ
 rcases nl_spec s y (by omega) with ⟨h1,_⟩ | ⟨n,h1,h2,h3,_⟩
 ·rw [h1,if_pos (by omega)]
  exact ⟨cbI_size s,cbI_size s⟩
 ·rw [h1,if_neg (by omega)]
  have ha : CBI s ((y : Int) + n + 1) := by
   have := cb_after s (y + n) h2 h3
   rw [show (y : Int) + n + 1 = ((y + n + 1 : Nat) : Int) by omega,cbI_nat]
   exact this
  by_cases hc : (n : Int) > 0 ∧ bt s ((y : Int) + n - 1) = 13
  ·rw [if_pos hc]
   have hb := hc.2
   rw [show (y : Int) + n - 1 = ((y + n - 1 : Nat) : Int) by omega,bt_byt' s _ (by omega)] at hb
   refine ⟨?_,ha⟩
   rw [show (y : Int) + n - 1 = ((y + n - 1 : Nat) : Int) by omega,cbI_nat]
   exact cb_cr s _ (by omega) (by omega)
  ·rw [if_neg hc]
   refine ⟨?_,ha⟩
   rcases Nat.eq_zero_or_pos n with rfl | hn
   ·rw [show (y : Int) + ((0 : Nat) : Int) = y by omega];exact h
   ·rw [show (y : Int) + n = ((y + n : Nat) : Int) by omega,cbI_nat]
    refine cb_nl s _ h2 h3 (fun z hz hz2 => hc ⟨by omega,?_⟩)
    rw [show (y : Int) + n - 1 = (z : Int) by omega,bt_byt' s _ (by omega),hz2]
    rfl
end Go.Proofs.YtfmnmjoofnbnfaaDoor.Pu
end
section
namespace Go.Proofs.YtfmnmjoofnbnfaaDoor.Pu
open Go Go.RowKit Go.Proofs.YtfmnmjoofnbnfaaDoor.Mu Go.Proofs.YtfmnmjoofnbnfaaDoor.U Go.Proofs.YtfmnmjoofnbnfaaDoorW.PrintWords Go.Proofs.YtfmnmjoofnbnfaaDoorW.PrintLast Go.Proofs.YtfmnmjoofnbnfaaDoorW.PrintMore
set_option linter.unusedVariables false
set_option linter.unusedSimpArgs false
theorem nx_cb (s : ByteArray) (hs : s.size ≤ 1099511627776) (x : Int) (_ : CBI s x) : CBI s (nxZ s x) := (nxZ_spec s hs x).1
theorem pv_cb (s : ByteArray) (hs : s.size ≤ 1099511627776) (x : Int) (_ : CBI s x) : CBI s (pvZ s x) := (pvZ_spec s hs x).1
section
variable {s : ByteArray} {F : Int → Int → Int}
end
/-- Places from which a command works. -/
structure WkOk (q : Wk) : Prop where
 size : q.text.size ≤ 549755813888
 at0 : CBI q.text q.at0
 reg : q.region = -1 ∨ CBI q.text q.region
theorem wkOf_ok (text : ByteArray) (hs : text.size ≤ 549755813888) (count at_ region : Int) : WkOk (wkOf text count at_ region) := by
 refine ⟨hs,snZ_cb text (by omega) at_,?_⟩
 unfold wkOf
 dsimp only
 split
 ·exact .inr (snZ_cb text (by omega) region)
 ·exact .inl rfl
/-- What rule number i answers. -/
structure RuleOk (t : ByteArray) (i : Nat) (Z : Res) : Prop where
 bad : Z.2.2.2.2.2.2 ≠ 0 → Z = (0,0,⟨#[]⟩,0,⟨#[]⟩,false,Z.2.2.2.2.2.2) ∧ Z.2.2.2.2.2.2 ≠ 13 ∧ (i ≠ 6 → i ≠ 7 → Z.2.2.2.2.2.2 = 8)
 good : Z.2.2.2.2.2.2 = 0 → CBI t Z.1 ∧ CBI t (Z.1 + Z.2.1) ∧ 0 ≤ Z.2.1 ∧ 0 ≤ Z.2.2.2.1 ∧ Z.2.2.2.1 ≤ t.size - Z.2.1 + Z.2.2.1.size ∧
  (i = 7 → Z.1 = 0 ∧ Z.2.1 = 0 ∧ Z.2.2.1 = ⟨#[]⟩ ∧ 0 < Z.2.2.2.2.1.size ∧ Z.2.2.2.2.2.1 = false) ∧
  (i ≠ 7 → 2 ≤ i → i ≤ 6 → Z.2.2.1 = ⟨#[]⟩ ∧ 0 < Z.2.2.2.2.1.size ∧ Z.2.2.2.2.1 = t.extract Z.1.toNat (Z.1 + Z.2.1).toNat) ∧
  (i < 2 ∨ 8 ≤ i → Z.2.2.2.2.1 = ⟨#[]⟩)
theorem edge_ok (t : ByteArray) (i : Nat) : RuleOk t i edgeR := ⟨fun _ => ⟨rfl,by decide,fun _ _ => rfl⟩,fun h => absurd h (by decide)⟩
theorem swap_size (t : ByteArray) (a b c d : Int) (h0 : 0 ≤ a) (h1 : a ≤ b) (h2 : b ≤ c) (h3 : c ≤ d) (h4 : d ≤ t.size) : ((swapZ t a b c d).2.2.1.size : Int) = d - a := by
 show (((t.extract c.toNat d.toNat ++ t.extract b.toNat c.toNat) ++ t.extract a.toNat b.toNat).size : Int) = _
 rw [ByteArray.size_append,ByteArray.size_append,size_extract _ _ _ (by omega),size_extract _ _ _ (by omega),size_extract _ _ _ (by omega)]
 omega
theorem swap_ok (t : ByteArray) (i : Nat) (a b c d : Int) (hi : i = 8 ∨ i = 9) (h1 : a ≤ b) (h2 : b ≤ c) (h3 : c ≤ d) (ha : CBI t a) (hd : CBI t d) : RuleOk t i (swapZ t a b c d) := by
 have r1 := cbi_range ha
 have r2 := cbi_range hd
 have hz := swap_size t a b c d r1.1 h1 h2 h3 r2.2
 refine ⟨fun h => absurd rfl h,fun _ => ⟨ha,?_,?_,?_,?_,fun h => by omega,fun _ h3 h4 => by omega,fun h => rfl⟩⟩
 ·show CBI t (a + (d - a));rw [show a + (d - a) = d by omega];exact hd
 ·show 0 ≤ d - a;omega
 ·show 0 ≤ d;omega
 ·show d ≤ (t.size : Int) - (d - a) + ((swapZ t a b c d).2.2.1.size : Int);rw [hz];omega
theorem trc_ok (q : Wk) (h : WkOk q) : RuleOk q.text 8 (trcZ q) := by
 have hs : q.text.size ≤ 1099511627776 := by have := h.size;omega
 unfold trcZ trcM
 generalize hm : (if q.at0 = (lendZ q.text q.at0).1 then pvZ q.text (lendZ q.text q.at0).1 else q.at0) = mid
 have hc : CBI q.text mid := by
  rw [← hm];split
  ·exact (pvZ_spec q.text hs _).1
  ·exact h.at0
 have hr := cbi_range hc
 have hp := pvZ_range q.text hs mid hr.1 hr.2
 have hn := nxZ_range q.text hs mid hr.1 hr.2
 split
 ·exact edge_ok _ _
 ·split
  ·exact edge_ok _ _
  ·exact swap_ok _ _ _ _ _ _ (.inl rfl) hp.2 (Int.le_refl _) hn.1 (pv_cb _ hs _ hc) (nx_cb _ hs _ hc)
theorem trw_word (q : Wk) (h : ¬ ((spansL q.text).length : Int) < 2) : ∃ w : Nat,w + 1 < (spansL q.text).length ∧
  trwZ q = swapZ q.text (rd_T63 (spansL q.text) (w : Int)).f0 (rd_T63 (spansL q.text) (w : Int)).f1 (rd_T63 (spansL q.text) ((w + 1 : Nat) : Int)).f0 (rd_T63 (spansL q.text) ((w + 1 : Nat) : Int)).f1 := by
 have hk : ∀ (i k : Nat) (L : List S63),k < L.length → i ≤ L.length → trwK L q.at0 k i < L.length := by
  intro i
  induction i with
  | zero => intro k L hk _;exact hk
  | succ i ih =>
   intro k L hk hi
   rw [trwK]
   split
   ·exact ih i L (by omega) (by omega)
   ·exact hk
 have hlt := hk (spansL q.text).length ((spansL q.text).length - 1) (spansL q.text) (by omega) (Nat.le_refl _)
 unfold trwZ
 rw [if_neg h]
 generalize trwK (spansL q.text) q.at0 ((spansL q.text).length - 1) (spansL q.text).length = k at hlt
 obtain ⟨w,hw,hc⟩ := mx_one k
 refine ⟨w,by omega,?_⟩
 unfold trwW
 rw [hw,show ((w + 1 : Nat) : Int) - 1 = (w : Int) by omega]
theorem rd_span_mem (L : List S63) (i : Nat) (h : i < L.length) : rd_T63 L (i : Int) = L[i] := by
 unfold rd_T63;rw [Int.toNat_natCast,List.getD_eq_getElem?_getD,List.getElem?_eq_getElem h];rfl
theorem trw_ok (q : Wk) : RuleOk q.text 9 (trwZ q) := by
 by_cases h : ((spansL q.text).length : Int) < 2
 ·unfold trwZ;rw [if_pos h];exact edge_ok _ _
 ·obtain ⟨w,hw,e⟩ := trw_word q h
  have ho := two_ord (spans_ord q.text) w hw
  have c1 := (spans_ord q.text).one _ (List.getElem_mem (show w < (spansL q.text).length by omega))
  have c2 := (spans_ord q.text).one _ (List.getElem_mem hw)
  rw [← rd_span_mem _ w (by omega)] at c1
  rw [← rd_span_mem _ (w + 1) hw] at c2
  rw [e]
  exact swap_ok _ _ _ _ _ _ (.inr rfl) ho.2.1 ho.2.2.1 ho.2.2.2.1 c1.2.2.1 c2.2.2.2
end Go.Proofs.YtfmnmjoofnbnfaaDoor.Pu
end
section
namespace Go.Proofs.YtfmnmjoofnbnfaaDoor.Pu
open Go Go.RowKit Go.Proofs.YtfmnmjoofnbnfaaDoor.Mu Go.Proofs.YtfmnmjoofnbnfaaDoor.U Go.Proofs.YtfmnmjoofnbnfaaDoorW.PrintWords Go.Proofs.YtfmnmjoofnbnfaaDoorW.PrintLast Go.Proofs.YtfmnmjoofnbnfaaDoorW.PrintMore
set_option linter.unusedVariables false
theorem right_uC (a b : ByteArray) (y : Nat) : uC (a ++ b) (a.size + y) = uC b y := by unfold uC;rw [right_dec]
theorem right_bd (a b : ByteArray) (z : Nat) (h : Bd (a ++ b) (a.size + z)) : Bd b z := by
 have hs := size_two a b
 refine ⟨by have := h.1;omega,fun j hj => ?_⟩
 have := h.2 (a.size + j) (by omega)
 rw [right_uN] at this
 omega
theorem bd_left (a b : ByteArray) (i : Nat) (h : Bd (a ++ b) i) (hi : i ≤ a.size) : Bd a i := by
 have hs := size_two a b
 refine ⟨hi,fun j hj => ?_⟩
 by_cases h2 : 2 ≤ uN a j
 ·have hle := uN_le a j (by omega)
  have e := dec_prefix a (a ++ b) j j h2 (fun k hk => byt_append_left a b (j + k) (by omega)) (by omega)
  have : uN (a ++ b) j = uN a j := by unfold uN;rw [e]
  have := h.2 j hj
  omega
 ·have := uN_pos a j;omega
theorem right_nxt (a b : ByteArray) : ∀ n y : Nat,b.size - y ≤ n → y < b.size → nxt (a ++ b) (a.size + y) = a.size + nxt b y := by
 have hs := size_two a b
 intro n
 induction n with
 | zero => intro y hn hy;omega
 | succ n ih =>
  intro y hn hy
  have hp := uN_pos b y
  rw [nxt_eq (a ++ b) (a.size + y) (by omega),nxt_eq b y hy,right_uN,Nat.add_assoc,right_uC,right_uC]
  by_cases h : y + uN b y < b.size ∧ glueB (uC b y) (uC b (y + uN b y)) = true
  ·rw [if_pos ⟨by omega,h.2⟩,if_pos h];exact ih _ (by omega) h.1
  ·rw [if_neg (fun h' => h ⟨by omega,h'.2⟩),if_neg h]
def shiftC (d : Int) (c : S74) : S74 := ⟨d + c.f0,d + c.f1,c.f2,c.f3⟩
theorem right_clAt (a b : ByteArray) (y : Nat) (hy : y < b.size) : clAt (a ++ b) (a.size + y) = shiftC a.size (clAt b y) := by
 have hs := size_two a b
 have hq : crlf (a ++ b) (a.size + y) ↔ crlf b y := by
  unfold crlf;rw [right_uN,right_uC,Nat.add_assoc,right_uC]
  constructor
  ·rintro ⟨h1,h2,h3⟩;exact ⟨h1,by omega,h3⟩
  ·rintro ⟨h1,h2,h3⟩;exact ⟨h1,by omega,h3⟩
 unfold clAt shiftC clsAt celAt
 rw [right_nxt a b _ y (Nat.le_refl _) hy,right_uC]
 simp only [hq,Int.natCast_add]
theorem right_ctl (a b : ByteArray) : ∀ n y : Nat,b.size - y ≤ n → ctl (a ++ b) (a.size + y) = (ctl b y).map (shiftC a.size) := by
 have hs := size_two a b
 intro n
 induction n with
 | zero => intro y hn;rw [ctl_end _ _ (by omega),ctl_end _ _ (by omega)];rfl
 | succ n ih =>
  intro y hn
  by_cases hy : y < b.size
  ·have := nxt_pos b y hy
   rw [ctl_go _ _ (by omega),ctl_go b y hy,right_nxt a b _ y (Nat.le_refl _) hy,ih _ (by omega),List.map_cons,right_clAt a b y hy]
  ·rw [ctl_end _ _ (by omega),ctl_end _ _ (by omega)];rfl
section
variable (a b : ByteArray) (hC : CB (a ++ b) a.size)
theorem left_nxt (hC : CB (a ++ b) a.size) : ∀ n i : Nat,a.size - i ≤ n → i < a.size → Bd (a ++ b) i → nxt a i = nxt (a ++ b) i := by
 have hs := size_two a b
 intro n
 induction n with
 | zero => intro i hn hi _;omega
 | succ n ih =>
  intro i hn hi hb
  have hu := hC.1.2 i hi
  obtain ⟨h1,h2⟩ := left_unit a b i hi hu
  have hp := uN_pos a i
  rw [← h2] at hu
  have hbn := bd_next (a ++ b) i hb (by omega)
  rw [← h2] at hbn
  rw [nxt_eq a i hi,nxt_eq (a ++ b) i (by omega),← h2,← h1]
  by_cases hy : i + uN a i < a.size
  ·have h3 := left_unit a b (i + uN a i) hy (hC.1.2 _ hy)
   rw [← h3.1]
   by_cases hg : glueB (uC a i) (uC a (i + uN a i)) = true
   ·rw [if_pos ⟨hy,hg⟩,if_pos ⟨by omega,hg⟩];exact ih _ (by omega) hy hbn
   ·rw [if_neg (fun h => hg h.2),if_neg (fun h => hg h.2)]
  ·have hya : i + uN a i = a.size := by omega
   rw [if_neg (fun h => hy h.1),if_neg]
   rintro ⟨h4,h5⟩
   rw [hya] at h4 h5
   rw [h1,(cb_iff (a ++ b) a.size i hb (by omega) h4).1 hC] at h5
   cases h5
theorem left_clAt (hC : CB (a ++ b) a.size) (i : Nat) (hi : i < a.size) (hb : Bd (a ++ b) i) : clAt (a ++ b) i = clAt a i := by
 have hs := size_two a b
 have hu := hC.1.2 i hi
 obtain ⟨h1,h2⟩ := left_unit a b i hi hu
 have hq : crlf (a ++ b) i ↔ crlf a i := by
  unfold crlf
  rw [← h1,← h2]
  rw [← h2] at hu
  constructor
  ·rintro ⟨h3,h4,h5⟩
   by_cases hy : i + uN a i < a.size
   ·exact ⟨h3,hy,by rw [(left_unit a b _ hy (hC.1.2 _ hy)).1];exact h5⟩
   ·exfalso
    have hya : i + uN a i = a.size := by omega
    rw [hya] at h4 h5
    have := (cb_iff (a ++ b) a.size i hb (by omega) h4).1 hC
    rw [← h1,h3,h5] at this
    have h6 := (glue_nl 13).2 rfl
    rw [h6] at this;cases this
  ·rintro ⟨h3,h4,h5⟩
   exact ⟨h3,by omega,by rw [← (left_unit a b _ h4 (hC.1.2 _ h4)).1];exact h5⟩
 unfold clAt clsAt celAt
 rw [left_nxt a b hC _ i (Nat.le_refl _) hi hb,h1]
 simp only [hq]
theorem left_ctl (hC : CB (a ++ b) a.size) : ∀ n i : Nat,a.size - i ≤ n → i ≤ a.size → CB (a ++ b) i → ctl (a ++ b) i = ctl a i ++ ctl (a ++ b) a.size := by
 have hs := size_two a b
 intro n
 induction n with
 | zero =>
  intro i hn hi hc
  obtain rfl : i = a.size := by omega
  rw [ctl_end a _ (Nat.le_refl _)];rfl
 | succ n ih =>
  intro i hn hi hc
  by_cases hlt : i < a.size
  ·have hba := bd_left a b i hc.1 hi
   have e := left_nxt a b hC _ i (Nat.le_refl _) hlt hc.1
   have h1 := nxt_pos a i hlt
   have h2 := nxt_le a i hba hlt
   have hcn := nxt_cb (a ++ b) i hc.1 (by omega)
   rw [ctl_go (a ++ b) i (by omega),ctl_go a i hlt,left_clAt a b hC i hlt hc.1,← e,List.cons_append,ih (nxt a i) (by omega) h2 (by rw [e];exact hcn)]
  ·obtain rfl : i = a.size := by omega
   rw [ctl_end a _ (Nat.le_refl _)];rfl
end
theorem data_app (a b : ByteArray) : (a ++ b).data.toList = a.data.toList ++ b.data.toList := by simp
theorem cb_right (a b : ByteArray) (z : Nat) (h : CB (a ++ b) (a.size + z)) (hz : 0 < z) (hno : ∀ p,p < a.size → p + uN (a ++ b) p ≠ a.size + z) : CB b z := by
 have hs := size_two a b
 have hb := right_bd a b z h.1
 by_cases he : z < b.size
 ·obtain ⟨p,hp,hpe⟩ := bd_prev (a ++ b) (a.size + z) h.1 (by omega)
  have hge : a.size ≤ p := by
   rcases Nat.lt_or_ge p a.size with h1 | h1
   ·exact absurd hpe (hno p h1)
   ·exact h1
  obtain ⟨q,rfl⟩ : ∃ q,p = a.size + q := ⟨p - a.size,by omega⟩
  have hq := right_bd a b q hp
  have hg := (cb_iff (a ++ b) (a.size + z) (a.size + q) hp hpe (by omega)).1 h
  rw [right_uN] at hpe
  rw [cb_iff b z q hq (by omega) he]
  rw [right_uC,right_uC] at hg
  exact hg
 ·have := hb.1
  obtain rfl : z = b.size := by omega
  exact cb_size b
end Go.Proofs.YtfmnmjoofnbnfaaDoor.Pu
end
section
namespace Go.Proofs.YtfmnmjoofnbnfaaDoor.Pu
open Go Go.RowKit Go.Proofs.YtfmnmjoofnbnfaaDoor.Mu Go.Proofs.YtfmnmjoofnbnfaaDoor.U Go.Proofs.YtfmnmjoofnbnfaaDoorW.PrintWords Go.Proofs.YtfmnmjoofnbnfaaDoorW.PrintLast Go.Proofs.YtfmnmjoofnbnfaaDoorW.PrintMore
set_option linter.unusedVariables false
set_option linter.unusedSimpArgs false
def shiftS (d : Int) (p : S63) : S63 := ⟨d + p.f0,d + p.f1⟩
theorem wAt_right (a b : ByteArray) (y : Nat) : wAt (a ++ b) (a.size + y) = wAt b y := by unfold wAt;rw [right_uC]
theorem sp_shift (a b : ByteArray) : ∀ (cs : List S74),(∀ c ∈ cs,0 ≤ c.f0) → ∀ o : Option (Int × Int),spR (a ++ b) (o.map fun q => ((a.size : Int) + q.1,(a.size : Int) + q.2)) (cs.map (shiftC a.size)) = (spR b o cs).map (shiftS a.size)
 | [],_,none => rfl
 | [],_,some (x,y) => rfl
 | c :: cs,h,o => by
  have hw : wC (a ++ b) (shiftC a.size c) = wC b c := by
   unfold wC
   have := h c (by simp)
   rw [show (shiftC a.size c).f0 = (a.size : Int) + c.f0 from rfl,show ((a.size : Int) + c.f0).toNat = a.size + c.f0.toNat by omega,wAt_right]
  have ih := sp_shift a b cs (fun c hc => h c (List.mem_cons_of_mem _ hc))
  rw [List.map_cons]
  rcases o with _ | ⟨x,y⟩
  ·rw [Option.map_none,spR,spR,hw]
   by_cases hw2 : wC b c = true
   ·rw [if_pos hw2,if_pos hw2,← ih (some (c.f0,c.f1))];rfl
   ·rw [if_neg hw2,if_neg hw2,← ih none];rfl
  ·rw [Option.map_some,spR,spR,hw]
   by_cases hw2 : wC b c = true
   ·rw [if_pos hw2,if_pos hw2,← ih (some (x,c.f1))];rfl
   ·rw [if_neg hw2,if_neg hw2,List.map_cons,← ih none];rfl
/-- Clusters that stand in no word,behind. -/
theorem sp_behind (s : ByteArray) (ds : List S74) : ∀ (cs : List S74) (o : Option (Int × Int)),(∀ d ds',ds = d :: ds' → wC s d = false) → spR s o (cs ++ ds) = spR s o cs ++ spR s none ds
 | [],none,_ => by rw [List.nil_append,spR,List.nil_append]
 | [],some (x,y),h => by
  rw [List.nil_append,spR]
  cases ds with
  | nil => rfl
  | cons d ds' => rw [spR,spR,h d ds' rfl,if_neg (by simp),if_neg (by simp)];rfl
 | c :: cs,none,h => by
  rw [List.cons_append,spR,spR]
  by_cases hw : wC s c = true
  ·rw [if_pos hw,if_pos hw];exact sp_behind s ds cs _ h
  ·rw [if_neg hw,if_neg hw];exact sp_behind s ds cs _ h
 | c :: cs,some (x,y),h => by
  rw [List.cons_append,spR,spR]
  by_cases hw : wC s c = true
  ·rw [if_pos hw,if_pos hw];exact sp_behind s ds cs _ h
  ·rw [if_neg hw,if_neg hw,List.cons_append,sp_behind s ds cs _ h]
theorem sp_left (a b : ByteArray) (hC : CB (a ++ b) a.size) : ∀ (cs : List S74),(∀ c ∈ cs,∃ i,CB a i ∧ i < a.size ∧ c = clAt a i) → ∀ o,spR (a ++ b) o cs = spR a o cs
 | [],_,none => rfl
 | [],_,some (x,y) => rfl
 | c :: cs,h,o => by
  have ih := sp_left a b hC cs (fun c hc => h c (List.mem_cons_of_mem _ hc))
  have hw : wC (a ++ b) c = wC a c := by
   obtain ⟨i,hci,hi,rfl⟩ := h c (by simp)
   rw [wC_at]
   show wAt (a ++ b) ((i : Int)).toNat = _
   rw [Int.toNat_natCast]
   unfold wAt
   rw [(left_unit a b i hi (hC.1.2 i hi)).1]
  rcases o with _ | ⟨x,y⟩
  ·rw [spR,spR,hw,ih,ih]
  ·rw [spR,spR,hw,ih,ih]
theorem three_cut (s : ByteArray) (a d : Nat) (h : a ≤ d) (hd : d ≤ s.size) : s.extract 0 a ++ (s.extract a d ++ s.extract d s.size) = s := by
 apply ByteArray.ext
 apply Array.toList_inj.1
 rw [data_app,data_app,Lib.extract_data,Lib.extract_data,Lib.extract_data,List.drop_zero,Nat.sub_zero]
 have e1 : (s.data.toList.drop d).take (s.size - d) = s.data.toList.drop d := List.take_of_length_le (by rw [List.length_drop,← Lib.size_eq];omega)
 rw [e1]
 have e2 : s.data.toList.drop d = (s.data.toList.drop a).drop (d - a) := by rw [List.drop_drop];congr 1;omega
 rw [e2,List.take_append_drop,List.take_append_drop]
section
variable (A P R : ByteArray)
theorem piece_cb (ha : Bd (A ++ (P ++ R)) A.size) (hd : CB (A ++ (P ++ R)) (A.size + P.size)) (hp : 0 < P.size) : CB (P ++ R) P.size := by
 refine cb_right A (P ++ R) P.size hd hp (fun p hp2 he => ?_)
 have := ha.2 p hp2
 omega
theorem piece_gen (ha : Bd (A ++ (P ++ R)) A.size) (hd : CB (A ++ (P ++ R)) (A.size + P.size)) : ctl (A ++ (P ++ R)) A.size = (clusL P).map (shiftC A.size) ++ ctl (A ++ (P ++ R)) (A.size + P.size) := by
 rcases Nat.eq_zero_or_pos P.size with h0 | hp
 ·rw [h0,Nat.add_zero,clusL_ctl,ctl_end P 0 (by omega)];rfl
 ·have hC := piece_cb A P R ha hd hp
  have r0 := right_ctl A (P ++ R) _ 0 (Nat.le_refl _)
  have r1 := right_ctl A (P ++ R) _ P.size (Nat.le_refl _)
  have l0 := left_ctl P R hC _ 0 (Nat.le_refl _) (Nat.zero_le _) (cb_zero _)
  rw [Nat.add_zero] at r0
  rw [r0,l0,List.map_append,r1,clusL_ctl]
theorem piece_spans (ha : Bd (A ++ (P ++ R)) A.size) (hd : CB (A ++ (P ++ R)) (A.size + P.size)) : spR (A ++ (P ++ R)) none ((clusL P).map (shiftC A.size)) = (spansL P).map (shiftS A.size) := by
 have hm := clus_mem' P P.size 0 (cb_zero P)
 have h1 := sp_shift A (P ++ R) (clusL P) (fun c hc => by obtain ⟨i,_,_,rfl⟩ := hm c hc;exact Int.natCast_nonneg i) none
 rw [Option.map_none] at h1
 rw [h1]
 rcases Nat.eq_zero_or_pos P.size with h0 | hp
 ·have e : clusL P = [] := by rw [clusL_ctl,ctl_end P 0 (by omega)]
  rw [spans_runs,e];rfl
 ·rw [sp_left P R (piece_cb A P R ha hd hp) (clusL P) hm none,spans_runs]
end
/-- The clusters of a piece,and its words. -/
theorem piece_of (s : ByteArray) (a d : Nat) (ha : CB s a) (hd : CB s d) (h : a ≤ d) :
  ctl s a = (clusL (s.extract a d)).map (shiftC a) ++ ctl s d ∧ spR s none ((clusL (s.extract a d)).map (shiftC a)) = (spansL (s.extract a d)).map (shiftS a) := by
 have hds := hd.1.1
 have e := three_cut s a d h hds
 have e1 : (s.extract 0 a).size = a := by rw [size_extract _ _ _ (by omega)];omega
 have e2 : (s.extract a d).size = d - a := size_extract _ _ _ hds
 have hb : Bd (s.extract 0 a ++ (s.extract a d ++ s.extract d s.size)) (s.extract 0 a).size := by rw [e,e1];exact ha.1
 have hc : CB (s.extract 0 a ++ (s.extract a d ++ s.extract d s.size)) ((s.extract 0 a).size + (s.extract a d).size) := by rw [e,e1,e2,show a + (d - a) = d by omega];exact hd
 have g1 := piece_gen _ _ _ hb hc
 have g2 := piece_spans _ _ _ hb hc
 rw [e1,e2,e,show a + (d - a) = d by omega] at g1
 rw [e1,e] at g2
 exact ⟨g1,g2⟩
theorem run_head (s : ByteArray) (a b : Int) : ∀ (cs : List S74) (b : Int) (p : S63) (rest : List S63),spR s (some (a,b)) cs = p :: rest → p.f0 = a
 | [],b,p,rest,h => by rw [spR] at h;injection h with h1 _;rw [← h1]
 | c :: cs,b,p,rest,h => by
  rw [spR] at h
  split at h
  ·exact run_head s a b cs _ p rest h
  ·injection h with h1 _;rw [← h1]
/-- Where the first run ends. -/
theorem run_cut (s : ByteArray) : ∀ n x : Nat,s.size - x ≤ n → CB s x → ∀ (o : Option (Int × Int)) (p : S63) (rest : List S63),(∀ q,o = some q → q.2 = (x : Int)) → spR s o (ctl s x) = p :: rest →
  ∃ (y : Nat) (front : List S74),CB s y ∧ x ≤ y ∧ p.f1 = (y : Int) ∧ ctl s x = front ++ ctl s y ∧ spR s o front = [p] ∧ (y < s.size → wAt s y = false) ∧ spR s none (ctl s y) = rest := by
 intro n
 induction n with
 | zero =>
  intro x hn hc o p rest ho h
  rw [ctl_end s x (by omega)] at h
  rcases o with _ | ⟨a,b⟩
  ·rw [spR] at h;cases h
  ·rw [spR] at h
   injection h with h1 h2
   have hb := ho _ rfl
   refine ⟨x,[],hc,Nat.le_refl _,by rw [← h1];exact hb,rfl,by rw [spR,h1],fun h => by omega,?_⟩
   rw [ctl_end s x (by omega),spR,h2]
 | succ n ih =>
  intro x hn hc o p rest ho h
  by_cases hx : x < s.size
  ·have hpos := nxt_pos s x hx
   have hcn := nxt_cb s x hc.1 hx
   rw [ctl_go s x hx] at h
   have hwx := wC_at s x
   rcases o with _ | ⟨a,b⟩
   ·rw [spR] at h
    by_cases hw : wC s (clAt s x) = true
    ·rw [if_pos hw] at h
     obtain ⟨y,fr,h1,h2,h3,h4,h5,h6⟩ := ih (nxt s x) (by omega) hcn _ p rest (fun q hq => by injection hq with hq;rw [← hq];exact clAt_f1 s x) h
     exact ⟨y,clAt s x :: fr,h1,by omega,h3,by rw [ctl_go s x hx,h4];rfl,by rw [spR,if_pos hw];exact h5,h6⟩
    ·rw [if_neg hw] at h
     obtain ⟨y,fr,h1,h2,h3,h4,h5,h6⟩ := ih (nxt s x) (by omega) hcn none p rest (fun q hq => by cases hq) h
     exact ⟨y,clAt s x :: fr,h1,by omega,h3,by rw [ctl_go s x hx,h4];rfl,by rw [spR,if_neg hw];exact h5,h6⟩
   ·rw [spR] at h
    by_cases hw : wC s (clAt s x) = true
    ·rw [if_pos hw] at h
     obtain ⟨y,fr,h1,h2,h3,h4,h5,h6⟩ := ih (nxt s x) (by omega) hcn _ p rest (fun q hq => by injection hq with hq;rw [← hq];exact clAt_f1 s x) h
     exact ⟨y,clAt s x :: fr,h1,by omega,h3,by rw [ctl_go s x hx,h4];rfl,by rw [spR,if_pos hw];exact h5,h6⟩
    ·rw [if_neg hw] at h
     injection h with h1 h2
     have hb := ho _ rfl
     refine ⟨x,[],hc,Nat.le_refl _,by rw [← h1];exact hb,rfl,by rw [spR,h1],fun _ => ?_,?_⟩
     ·rw [hwx] at hw;simpa using hw
     ·rw [ctl_go s x hx,spR,if_neg hw,h2]
  ·exact ih x (by omega) hc o p rest ho h
theorem run_begin (s : ByteArray) : ∀ n x : Nat,s.size - x ≤ n → CB s x → ∀ (p : S63) (rest : List S63),spR s none (ctl s x) = p :: rest → ∃ y : Nat,CB s y ∧ p.f0 = (y : Int) ∧ spR s none (ctl s y) = p :: rest := by
 intro n
 induction n with
 | zero => intro x hn hc p rest h;rw [ctl_end s x (by omega),spR] at h;cases h
 | succ n ih =>
  intro x hn hc p rest h
  by_cases hx : x < s.size
  ·have hpos := nxt_pos s x hx
   have h' := h
   rw [ctl_go s x hx,spR] at h'
   by_cases hw : wC s (clAt s x) = true
   ·rw [if_pos hw] at h'
    exact ⟨x,hc,run_head s _ 0 _ _ p rest h',h⟩
   ·rw [if_neg hw] at h'
    exact ih (nxt s x) (by omega) (nxt_cb s x hc.1 hx) p rest h'
  ·exact ih x (by omega) hc p rest h
theorem nth_begin (s : ByteArray) (p : S63) (rest : List S63) : ∀ w x : Nat,CB s x → (spR s none (ctl s x)).drop w = p :: rest → ∃ y : Nat,CB s y ∧ p.f0 = (y : Int) ∧ spR s none (ctl s y) = p :: rest
 | 0,x,hc,h => run_begin s _ x (Nat.le_refl _) hc p rest h
 | w + 1,x,hc,h => by
  rcases hL : spR s none (ctl s x) with _ | ⟨q,r⟩
  ·rw [hL] at h;cases h
  ·obtain ⟨y,_,h1,_,_,_,_,_,h2⟩ := run_cut s _ x (Nat.le_refl _) hc none q r (fun q hq => by cases hq) hL
   rw [hL,List.drop_succ_cons] at h
   exact nth_begin s p rest w y h1 (by rw [h2];exact h)
/-- A piece from a word's beginning to the next word's end has two words. -/
theorem two_words (s : ByteArray) (w : Nat) (p q : S63) (rest : List S63) (h : (spansL s).drop w = p :: q :: rest) : (spansL (s.extract p.f0.toNat q.f1.toNat)).length = 2 := by
 rw [spans_runs,clusL_ctl] at h
 obtain ⟨x,hx,hpx,hL⟩ := nth_begin s p (q :: rest) w 0 (cb_zero s) h
 obtain ⟨y,f1,hy,hxy,hpy,e1,r1,n1,hL2⟩ := run_cut s _ x (Nat.le_refl _) hx none p (q :: rest) (fun q hq => by cases hq) hL
 obtain ⟨z,f2,hz,hyz,hqz,e2,r2,n2,_⟩ := run_cut s _ y (Nat.le_refl _) hy none q rest (fun q hq => by cases hq) hL2
 rw [hpx,hqz,Int.toNat_natCast,Int.toNat_natCast]
 obtain ⟨g1,g2⟩ := piece_of s x z hx hz (by omega)
 have hc : (clusL (s.extract x z)).map (shiftC x) = f1 ++ f2 := by
  apply List.append_cancel_right (bs := ctl s z)
  rw [← g1,e1,e2,List.append_assoc]
 have hs : spR s none (f1 ++ f2) = [p] ++ [q] := by
  rw [sp_behind s f2 f1 none,r1,r2]
  intro d ds' hd
  subst hd
  have hlt : y < s.size := by
   by_cases hlt : y < s.size
   ·exact hlt
   ·rw [ctl_end s y (by omega)] at e2;cases e2
  rw [ctl_go s y hlt,List.cons_append] at e2
  injection e2 with h1 _
  rw [← h1,wC_at]
  exact n1 hlt
 rw [hc,hs] at g2
 have := congrArg List.length g2
 rw [List.length_map] at this
 exact this.symm
/-- A piece of two clusters. -/
theorem two_clusters (s : ByteArray) (a : Nat) (ha : CB s a) (h1 : a < s.size) (h2 : nxt s a < s.size) : (clusL (s.extract a (nxt s (nxt s a)))).length = 2 := by
 have hc := nxt_cb s a ha.1 h1
 have hd := nxt_cb s (nxt s a) hc.1 h2
 have p1 := nxt_pos s a h1
 have p2 := nxt_pos s (nxt s a) h2
 obtain ⟨g1,_⟩ := piece_of s a (nxt s (nxt s a)) ha hd (by omega)
 rw [ctl_go s a h1,ctl_go s (nxt s a) h2] at g1
 have := congrArg List.length g1
 rw [List.length_append,List.length_map,List.length_cons,List.length_cons] at this
 omega
end Go.Proofs.YtfmnmjoofnbnfaaDoor.Pu
end
section
namespace Go.Proofs.YtfmnmjoofnbnfaaDoor.Pure
open Go Go.RowKit Go.Proofs.YtfmnmjoofnbnfaaDoor.Mu Go.Proofs.YtfmnmjoofnbnfaaDoor.Pu Go.Proofs.YtfmnmjoofnbnfaaDoor.U Go.Proofs.YtfmnmjoofnbnfaaDoorW.PrintWords Go.Proofs.YtfmnmjoofnbnfaaDoorW.PrintLast Go.Proofs.YtfmnmjoofnbnfaaDoorW.PrintMore
set_option linter.unusedVariables false
set_option linter.unusedSimpArgs false
def cntN (b : Int) (l : List UInt8) : Nat := l.countP (fun u => decide ((u.toNat : Int) = b))
theorem cnt_app (b : Int) (l m : List UInt8) : cntN b (l ++ m) = cntN b l + cntN b m := List.countP_append
theorem bt_head (s : ByteArray) (i : Nat) (u : UInt8) (us : List UInt8) (h : s.data.toList.drop i = u :: us) : i < s.size ∧ bt s (i : Int) = (u.toNat : Int) ∧ byt s i = u.toNat ∧ s.data.toList.drop (i + 1) = us := by
 obtain ⟨hi,hg,hd⟩ := drop_cons' (d := (0 : UInt8)) h
 have hs : i < s.size := by rw [Lib.size_eq];exact hi
 have e : byt s i = u.toNat := by unfold byt;rw [get!_eq,hg]
 exact ⟨hs,by rw [bt_byt' s i hs,e],e,hd⟩
theorem count_loop (s : ByteArray) (hs : s.size ≤ 1099511627776) (b : Int) : ∀ (l : List UInt8) (i acc : Nat),s.data.toList.drop i = l → acc ≤ i → Ev (fun k => bodkinlaw17_count.l0 k s b (acc : Int) (i : Int)) ((acc + cntN b l : Nat) : Int) := by
 intro l
 induction l with
 | nil =>
  intro i acc h ha
  have := List.drop_eq_nil_iff.1 h
  rw [← Lib.size_eq] at this
  exact Ev.step (fun k => bodkinlaw17_count.l0.eq_2 ..) (ev_neg (by omega) (Ev.now _))
 | cons u us ih =>
  intro i acc h ha
  obtain ⟨h1,h2,_,h3⟩ := bt_head s i u us h
  refine Ev.step (fun k => bodkinlaw17_count.l0.eq_2 ..) (ev_pos (by omega) (ev_pos (by omega) ?_))
  have e2 : wrap64 ((i : Int) + 1) = ((i + 1 : Nat) : Int) := by rw [w64 (by omega) (by omega)];omega
  have e1 : wrap64 ((acc : Int) + 1) = ((acc + 1 : Nat) : Int) := by rw [w64 (by omega) (by omega)];omega
  rw [h2,e1,e2]
  by_cases hb : (u.toNat : Int) = b
  ·have := ih (i + 1) (acc + 1) h3 (by omega)
   have e : cntN b (u :: us) = cntN b us + 1 := List.countP_cons_of_pos (by simpa using hb)
   rw [show acc + 1 + cntN b us = acc + cntN b (u :: us) by omega] at this
   exact ev_pos hb this
  ·have := ih (i + 1) acc h3 (by omega)
   have e : cntN b (u :: us) = cntN b us := List.countP_cons_of_neg (by simpa using hb)
   rw [← e] at this
   exact ev_neg hb this
theorem count_ev (s : ByteArray) (hs : s.size ≤ 1099511627776) (b : Int) : Ev (fun k => bodkinlaw17_count.f k s b) (cntN b s.data.toList : Int) := by
 have := count_loop s hs b s.data.toList 0 0 rfl (Nat.le_refl _)
 rw [Nat.zero_add] at this
 exact this
theorem ext_data (s : ByteArray) (a b c : Nat) (h1 : a ≤ b) (h2 : b ≤ c) : (s.extract a c).data.toList = (s.extract a b).data.toList ++ (s.extract b c).data.toList := by
 rw [Lib.extract_data,Lib.extract_data,Lib.extract_data]
 have e : s.data.toList.drop b = (s.data.toList.drop a).drop (b - a) := by rw [List.drop_drop];congr 1;omega
 rw [e,show c - a = (b - a) + (c - b) by omega,List.take_add]
theorem swap_count (t : ByteArray) (x : Int) (a b c d : Int) (h0 : 0 ≤ a) (h1 : a ≤ b) (h2 : b ≤ c) (h3 : c ≤ d) : cntN x (t.extract a.toNat d.toNat).data.toList = cntN x (swapZ t a b c d).2.2.1.data.toList := by
 show _ = cntN x ((t.extract c.toNat d.toNat ++ t.extract b.toNat c.toNat) ++ t.extract a.toNat b.toNat).data.toList
 rw [ext_data t a.toNat b.toNat d.toNat (by omega) (by omega),ext_data t b.toNat c.toNat d.toNat (by omega) (by omega),data_app,data_app,cnt_app,cnt_app,cnt_app,cnt_app]
 omega
/-- What a transposition that can be done is. -/
structure Swapped (t : ByteArray) (Z : Res) : Prop where
 ok : Z.2.2.2.2.2.2 = 0
 a0 : 0 ≤ Z.1
 c0 : 0 ≤ Z.2.1
 le : Z.1 + Z.2.1 ≤ t.size
 cur : Z.2.2.2.1 = Z.1 + Z.2.1
 len : (Z.2.2.1.size : Int) = Z.2.1
 cnt : ∀ x,cntN x (t.extract Z.1.toNat (Z.1 + Z.2.1).toNat).data.toList = cntN x Z.2.2.1.data.toList
theorem swapped_of (t : ByteArray) (a b c d : Int) (h0 : 0 ≤ a) (h1 : a ≤ b) (h2 : b ≤ c) (h3 : c ≤ d) (h4 : d ≤ t.size) : Swapped t (swapZ t a b c d) := by
 have e : a + (d - a) = d := by omega
 refine ⟨rfl,h0,?_,?_,?_,swap_size t a b c d h0 h1 h2 h3 h4,fun x => ?_⟩
 ·show 0 ≤ d - a;omega
 ·show a + (d - a) ≤ _;omega
 ·show d = a + (d - a);omega
 ·show cntN x (t.extract a.toNat (a + (d - a)).toNat).data.toList = _
  rw [e];exact swap_count t x a b c d h0 h1 h2 h3
theorem cnt_zero (s : ByteArray) (a d : Nat) (h : a ≤ d) (hd : d ≤ s.size) (hn : ∀ j,a ≤ j → j < d → byt s j ≠ 10) : cntN 10 (s.extract a d).data.toList = 0 := by
 unfold cntN
 rw [List.countP_eq_zero]
 intro u hu
 obtain ⟨i,hi,rfl⟩ := List.getElem_of_mem hu
 rw [Array.length_toList] at hi
 have hi : i < d - a := by rw [← size_extract s a d hd];exact hi
 have hb := byt_extract s a d i (by omega) hd
 have hne := hn (a + i) (by omega) (by omega)
 rw [← hb] at hne
 unfold byt at hne
 rw [get!_eq,List.getD_eq_getElem?_getD,List.getElem?_eq_getElem (by rw [Array.length_toList];rw [show (s.extract a d).data.size = (s.extract a d).size from rfl,size_extract s a d hd];exact hi)] at hne
 simp only [decide_eq_true_eq]
 intro h
 exact hne (by simpa using Int.ofNat_inj.1 h)
theorem prev_nxt (s : ByteArray) (hs : s.size ≤ 1099511627776) (m : Nat) (hm : CB s m) (h0 : 0 < m) : ∃ a : Nat,pvZ s (m : Int) = (a : Int) ∧ CB s a ∧ a < m ∧ nxt s a = m := by
 obtain ⟨h1,h2,h3⟩ := pvZ_spec s hs m
 have hr := cbi_range h1
 obtain ⟨a,ha⟩ : ∃ a : Nat,pvZ s (m : Int) = (a : Int) := ⟨(pvZ s (m : Int)).toNat,by omega⟩
 rw [ha] at h1 h2 h3
 rw [cbI_nat] at h1
 have hlt : a < m := by omega
 have hms := hm.1.1
 have hn := nxt_cb s a h1.1 (by omega)
 have hg := nxt_gt s a h1.1 (by omega)
 have hp := uN_pos s a
 have hl := nxt_least s a h1.1 (by omega) m hm hlt
 refine ⟨a,ha,h1,hlt,?_⟩
 by_cases he : nxt s a = m
 ·exact he
 ·have := h3 (nxt s a : Int) ((cbI_nat _ _).2 hn) (by omega);omega
theorem next_nxt (s : ByteArray) (hs : s.size ≤ 1099511627776) (m : Nat) (hm : CB s m) (h : m < s.size) : nxZ s (m : Int) = (nxt s m : Int) :=
 (nxZ_spec s hs m).one (nxtS s m hm.1 h m (Int.le_refl _) (by have := nxt_pos s m h;omega))
theorem trc_what (q : Wk) (h : WkOk q) (hok : (trcZ q).2.2.2.2.2.2 = 0) : Swapped q.text (trcZ q) ∧ (clusL (q.text.extract (trcZ q).1.toNat ((trcZ q).1 + (trcZ q).2.1).toNat)).length = 2 ∧ cntN 10 (q.text.extract (trcZ q).1.toNat ((trcZ q).1 + (trcZ q).2.1).toNat).data.toList = 0 := by
 have hs : q.text.size ≤ 1099511627776 := by have := h.size;omega
 have r0 := cbi_range h.at0
 have hst := lst_cb q.text q.at0 h.at0
 have hen := (lend_cb q.text q.at0 h.at0).1
 obtain ⟨x,hx⟩ : ∃ x : Nat,q.at0 = x := ⟨q.at0.toNat,by omega⟩
 unfold trcZ trcM at hok ⊢
 have hrl := lend_range q.text q.at0 r0.1 r0.2
 have hnl := nl_spec q.text x (by omega)
 obtain ⟨l,hl1,hl2,_,hl4⟩ := lst_spec q.text x (by omega)
 rw [← hx] at hl1
 have hline : ∀ j : Nat,l ≤ j → (j : Int) < (lendZ q.text q.at0).1 → byt q.text j ≠ 10 := by
  intro j h1 h2
  rcases Nat.lt_or_ge j x with h3 | h3
  ·exact hl4 j h1 h3
  ·rcases hnl with ⟨e,hn⟩ | ⟨n,e,hn1,hn2,hn3⟩
   ·exact hn j h3 (by omega)
   ·refine hn3 j h3 ?_
    unfold lendZ at h2
    rw [hx,e,if_neg (by omega)] at h2
    split at h2 <;> (dsimp only at h2;omega)
 generalize hm : (if q.at0 = (lendZ q.text q.at0).1 then pvZ q.text (lendZ q.text q.at0).1 else q.at0) = mid at hok ⊢
 have hc : CBI q.text mid := by
  rw [← hm];split
  ·exact (pvZ_spec q.text hs _).1
  ·exact h.at0
 by_cases h1 : mid ≤ lstZ q.text q.at0
 ·rw [if_pos h1] at hok;cases hok
 ·rw [if_neg h1] at hok ⊢
  by_cases h2 : mid ≥ (lendZ q.text q.at0).1
  ·rw [if_pos h2] at hok;cases hok
  ·rw [if_neg h2]
   have hr := cbi_range hc
   obtain ⟨m,rfl⟩ : ∃ m : Nat,mid = m := ⟨mid.toNat,by omega⟩
   rw [cbI_nat] at hc
   obtain ⟨a,ha,hca,ham,hna⟩ := prev_nxt q.text hs m hc (by omega)
   have hms : m < q.text.size := by omega
   have hd := next_nxt q.text hs m hc hms
   have hpos := nxt_pos q.text m hms
   have hle := nxt_le q.text m hc.1 hms
   have hal : l ≤ a := by
    have := (pvZ_spec q.text hs m).2.2 (lstZ q.text q.at0) hst (by omega)
    rw [ha] at this;omega
   have hde : (nxt q.text m : Int) ≤ (lendZ q.text q.at0).1 := by
    have := (nxZ_spec q.text hs m).2.2 (lendZ q.text q.at0).1 hen (by omega)
    rw [hd] at this;exact this
   have hsw := swapped_of q.text (a : Int) m m (nxt q.text m) (by omega) (by omega) (Int.le_refl _) (by omega) (by omega)
   have ez : (swapZ q.text (a : Int) m m (nxt q.text m)).1.toNat = a ∧ ((swapZ q.text (a : Int) m m (nxt q.text m)).1 + (swapZ q.text (a : Int) m m (nxt q.text m)).2.1).toNat = nxt q.text m := by
    show ((a : Int)).toNat = a ∧ ((a : Int) + ((nxt q.text m : Int) - (a : Int))).toNat = nxt q.text m
    omega
   rw [ha,hd,ez.1,ez.2]
   refine ⟨hsw,?_,cnt_zero q.text a (nxt q.text m) (by omega) hle (fun j h3 h4 => hline j (by omega) (by omega))⟩
   have := two_clusters q.text a hca (by omega) (by omega)
   rw [hna] at this
   exact this
theorem trw_what (q : Wk) (hok : (trwZ q).2.2.2.2.2.2 = 0) : Swapped q.text (trwZ q) ∧ (spansL (q.text.extract (trwZ q).1.toNat ((trwZ q).1 + (trwZ q).2.1).toNat)).length = 2 := by
 by_cases h : ((spansL q.text).length : Int) < 2
 ·unfold trwZ at hok;rw [if_pos h] at hok;cases hok
 ·obtain ⟨w,hw,e⟩ := trw_word q h
  have ho := two_ord (spans_ord q.text) w hw
  rw [e]
  have e1 := rd_span_mem (spansL q.text) w (by omega)
  have e2 := rd_span_mem (spansL q.text) (w + 1) hw
  have hdrop : (spansL q.text).drop w = (spansL q.text)[w] :: (spansL q.text)[w + 1] :: (spansL q.text).drop (w + 2) := by
   rw [List.drop_eq_getElem_cons (by omega),List.drop_eq_getElem_cons hw]
  rw [← e1,← e2] at hdrop
  have h2 := two_words q.text w _ _ _ hdrop
  generalize rd_T63 (spansL q.text) (w : Int) = p at *
  generalize rd_T63 (spansL q.text) ((w + 1 : Nat) : Int) = r at *
  refine ⟨swapped_of q.text p.f0 p.f1 r.f0 r.f1 ho.1 ho.2.1 ho.2.2.1 ho.2.2.2.1 ho.2.2.2.2,?_⟩
  have ez : (swapZ q.text p.f0 p.f1 r.f0 r.f1).1.toNat = p.f0.toNat ∧ ((swapZ q.text p.f0 p.f1 r.f0 r.f1).1 + (swapZ q.text p.f0 p.f1 r.f0 r.f1).2.1).toNat = r.f1.toNat := by
   show p.f0.toNat = p.f0.toNat ∧ (p.f0 + (r.f1 - p.f0)).toNat = r.f1.toNat
   omega
  rw [ez.1,ez.2]
  exact h2
theorem bytes_loop (t : ByteArray) (x1 : Int) (L : List Int) (i : Int) (cut put : ByteArray) (hc : cut.size ≤ 1099511627776) (hp : put.size ≤ 1099511627776) (hcnt : ∀ x,cntN x cut.data.toList = cntN x put.data.toList) (a c cur : Int) (kill : ByteArray) (ah : Bool) (r : Bool) :
  ∀ (n : Nat) (b : Nat),b + n = 256 → Ev (fun k => bodkinlaw17_ChangeTransposes.l1 k t x1 L i cut 256 a c put cur kill ah) r → Ev (fun k => bodkinlaw17_ChangeTransposes.l1 k t x1 L i cut (b : Int) a c put cur kill ah) r := by
 intro n
 induction n with
 | zero =>
  intro b hb h
  obtain rfl : b = 256 := by omega
  exact h
 | succ n ih =>
  intro b hb h
  have e : wrap64 ((b : Int) + 1) = ((b + 1 : Nat) : Int) := by rw [w64 (by omega) (by omega)];omega
  refine Ev.step (fun k => bodkinlaw17_ChangeTransposes.l1.eq_2 ..) (ev_pos (by omega) (Ev.bind (count_ev cut hc _) (Ev.bind (count_ev put hp _) (ev_pos (by rw [hcnt]) ?_))))
  rw [e]
  exact ih (b + 1) (by omega) h
theorem ctrans_loop (t : ByteArray) (hs : t.size ≤ 1048576) (a : Int) : ∀ (n i : Nat),i + n = 2 → Ev (fun k => bodkinlaw17_ChangeTransposes.l0 k t a [24,25] (i : Int)) true := by
 have hs' : t.size ≤ 549755813888 := by omega
 intro n
 induction n with
 | zero =>
  intro i hi
  obtain rfl : i = 2 := by omega
  exact Ev.step (fun k => bodkinlaw17_ChangeTransposes.l0.eq_2 ..) (ev_neg (by decide) (Ev.now _))
 | succ n ih =>
  intro i hi
  have hgo := ih (i + 1) (by omega)
  have e : wrap64 ((i : Int) + 1) = ((i + 1 : Nat) : Int) := by rw [w64 (by omega) (by omega)];omega
  have hlen : ((i : Nat) : Int) < (([24,25] : List Int).length : Int) := by show ((i : Nat) : Int) < ((2 : Nat) : Int);omega
  have hkind : rd [24,25] (i : Int) = if i = 0 then 24 else 25 := by
   rcases (show i = 0 ∨ i = 1 by omega) with rfl | rfl <;> rfl
  have hwk := wkOf_ok t hs' 7 a (-1)
  -- behind the counts of bytes
  have tail : ∀ Z : Res,Swapped t Z → (i = 0 → (clusL (t.extract Z.1.toNat (Z.1 + Z.2.1).toNat)).length = 2 ∧ cntN 10 (t.extract Z.1.toNat (Z.1 + Z.2.1).toNat).data.toList = 0) → (i ≠ 0 → (spansL (t.extract Z.1.toNat (Z.1 + Z.2.1).toNat)).length = 2) →
    Ev (fun k => bodkinlaw17_ChangeTransposes.j1 k t a [24,25] (i : Int) (t.extract Z.1.toNat (Z.1 + Z.2.1).toNat) false Z.1 Z.2.1 Z.2.2.1 Z.2.2.2.1 Z.2.2.2.2.1 Z.2.2.2.2.2.1) true := by
   intro Z hZ hch hwd
   have hx : (t.extract Z.1.toNat (Z.1 + Z.2.1).toNat).size ≤ 1048576 := by have := hZ.le;rw [size_extract _ _ _ (by omega)];omega
   have hput : Z.2.2.1.size ≤ 1099511627776 := by have := hZ.len;have := hZ.le;have := hZ.a0;omega
   generalize hcut : t.extract Z.1.toNat (Z.1 + Z.2.1).toNat = cut at hch hwd hx ⊢
   have hcnt : ∀ x,cntN x cut.data.toList = cntN x Z.2.2.1.data.toList := fun x => by rw [← hcut];exact hZ.cnt x
   refine Ev.step (fun k => bodkinlaw17_ChangeTransposes.j1.eq_2 ..) (ev_neg (by decide) ?_)
   refine bytes_loop t a [24,25] i cut Z.2.2.1 (by omega) hput hcnt Z.1 Z.2.1 Z.2.2.2.1 Z.2.2.2.2.1 Z.2.2.2.2.2.1 true 256 0 rfl ?_
   refine Ev.step (fun k => bodkinlaw17_ChangeTransposes.l1.eq_2 ..) (ev_neg (by decide) (ev_pos (by omega) (ev_pos hlen ?_)))
   have j3 : Ev (fun k => bodkinlaw17_ChangeTransposes.j3 k t a [24,25] (i : Int) cut false) true := by
    refine Ev.step (fun k => bodkinlaw17_ChangeTransposes.j3.eq_2 ..) (ev_neg (by decide) (ev_pos (by omega) (ev_pos hlen ?_)))
    rw [e]
    by_cases h0 : i = 0
    ·exact ev_neg (by rw [hkind,if_pos h0];decide) hgo
    ·refine ev_pos (by rw [hkind,if_neg h0]) (ev_some (spans_ev cut (by omega)) (ev_pos (by rw [hwd h0];rfl) hgo))
   by_cases h0 : i = 0
   ·refine ev_pos (by rw [hkind,if_pos h0]) (ev_some (show cluster_Count.f cut = some ((clusL cut).length : Int) by unfold cluster_Count.f;rw [if_pos (by omega)]) (ev_pos (by rw [(hch h0).1];rfl) (Ev.bind (count_ev cut (by omega) 10) ?_)))
    rw [(hch h0).2]
    exact j3
   ·exact ev_neg (by rw [hkind,if_neg h0];decide) j3
  have step : ∀ Z : Res,ofB (rd [24,25] (i : Int)) (ruleZ (wkOf t 7 a (-1))) 13 0 = Z → (Z.2.2.2.2.2.2 = 0 → Swapped t Z ∧ (i = 0 → (clusL (t.extract Z.1.toNat (Z.1 + Z.2.1).toNat)).length = 2 ∧ cntN 10 (t.extract Z.1.toNat (Z.1 + Z.2.1).toNat).data.toList = 0) ∧ (i ≠ 0 → (spansL (t.extract Z.1.toNat (Z.1 + Z.2.1).toNat)).length = 2)) →
    (Z.2.2.2.2.2.2 ≠ 0 → Z.2.2.2.2.2.2 = 8 ∧ (i ≠ 0 → (spansL t).length < 2)) → Ev (fun k => bodkinlaw17_ChangeTransposes.l0 k t a [24,25] (i : Int)) true := by
   intro Z hO hgood hbad
   refine Ev.step (fun k => bodkinlaw17_ChangeTransposes.l0.eq_2 ..) (ev_pos hlen (ev_pos (by omega) (ev_some ((of_eq hs' _ _ _ _ _ _).trans (congrArg some hO)) ?_)))
   by_cases hz : Z.2.2.2.2.2.2 = 0
   ·obtain ⟨hZ,hch,hwd⟩ := hgood hz
    have ha0 := hZ.a0
    have hc0 := hZ.c0
    have hle := hZ.le
    have hin : bodkinlaw17_inside.f t Z.1 Z.2.1 Z.2.2.1 = some true := by
     unfold bodkinlaw17_inside.f
     rw [if_pos (by omega),if_pos (by omega),if_pos (by omega),w64 (by omega) (by omega)]
     congr 1
     rw [decide_eq_true_eq];omega
    have hw : wrap64 (Z.1 + Z.2.1) = Z.1 + Z.2.1 := w64 (by omega) (by omega)
    refine ev_pos hz (ev_some hin (ev_pos rfl (ev_pos ha0 ?_)))
    rw [hw]
    have hbe : (Z.2.2.2.1 != Z.1 + Z.2.1) = false := by rw [hZ.cur];simp
    rw [hbe]
    refine ev_pos (by omega) (ev_pos hle (ev_pos ?_ (tail Z hZ hch hwd)))
    rw [size_extract _ _ _ (by omega),hZ.len];omega
   ·obtain ⟨h8,hsp⟩ := hbad hz
    refine ev_neg hz (ev_pos h8 ?_)
    rw [e]
    by_cases h0 : i = 0
    ·exact ev_neg (by rw [hkind,if_pos h0];decide) hgo
    ·refine ev_pos (by rw [hkind,if_neg h0]) (ev_some (spans_ev t (by omega)) (ev_neg (by have := hsp h0;omega) hgo))
  rcases (show i = 0 ∨ i = 1 by omega) with rfl | rfl
  ·refine step (trcZ (wkOf t 7 a (-1))) rfl (fun hz => ?_) (fun hz => ?_)
   ·obtain ⟨h1,h2,h3⟩ := trc_what (wkOf t 7 a (-1)) hwk hz
    exact ⟨h1,fun _ => ⟨h2,h3⟩,fun h => absurd rfl h⟩
   ·exact ⟨((trc_ok (wkOf t 7 a (-1)) hwk).bad hz).2.2 (by decide) (by decide),fun h => absurd rfl h⟩
  ·refine step (trwZ (wkOf t 7 a (-1))) rfl (fun hz => ?_) (fun hz => ?_)
   ·obtain ⟨h1,h2⟩ := trw_what (wkOf t 7 a (-1)) hz
    exact ⟨h1,fun h => absurd h (by decide),fun _ => h2⟩
   ·refine ⟨((trw_ok (wkOf t 7 a (-1))).bad hz).2.2 (by decide) (by decide),fun _ => ?_⟩
    by_cases h : ((spansL t).length : Int) < 2
    ·omega
    ·obtain ⟨w,hw,ew⟩ := trw_word (wkOf t 7 a (-1)) h
     rw [ew] at hz
     exact absurd rfl hz
theorem ChangeTransposes (a0 : ByteArray) (a1 : Int) (u0 : a0.size ≤ 1048576) (w1 : (Lit.int .i64 a1).wf = true) : ∃ k,bodkinlaw17_ChangeTransposes.f k a0 a1 = some true := by
 apply Ev.rounds
 unfold bodkinlaw17_ChangeTransposes.f
 exact Ev.bind awake17_ans (ev_pos rfl (ctrans_loop a0 u0 a1 2 0 rfl))
end Go.Proofs.YtfmnmjoofnbnfaaDoor.Pure
end
section
namespace Go.Proofs.YtfmnmjoofnbnfaaDoor.Lf
open Go.Lib Go.Proofs
theorem own : ownKnob Tryd.prog.godebug = none := by kernel_rfl
theorem extra : U8Extra Tryd.prog Tryd.lays260_ren := {
 n3 := by kernel_rfl
 n4 := by kernel_rfl
 y3 := by kernel_rfl
 y4 := by kernel_rfl
 c5 := by kernel_rfl
 c119 := by kernel_rfl
 c138 := by kernel_rfl }
theorem first_eq : Rows.laid_unicode_utf8_first = Lib.firstData := by kernel_rfl
theorem accept_eq : (Rows.laid_unicode_utf8_acceptRanges : DataW Unit) = Lib.acceptData := by kernel_rfl
abbrev laid : List (String × DataW Unit) := [("unicode/utf8.acceptRanges", Rows.laid_unicode_utf8_acceptRanges), ("unicode/utf8.first", Rows.laid_unicode_utf8_first)]
/-- The two tables lie as the contracts ask. -/
theorem tabs {W : World} (h : laidMetH Tryd.prog laid W) : Lib.Utf8Tabs 1 2 W := by
  rw [MakeChecks.laidMetH_plain _ _ _ (by kernel_rfl)] at h
  have h3 := laidMet.reads h (n := "unicode/utf8.first") (d := Rows.laid_unicode_utf8_first) (List.mem_cons_of_mem _ List.mem_cons_self)
  have h4 := laidMet.reads h (n := "unicode/utf8.acceptRanges") (d := Rows.laid_unicode_utf8_acceptRanges) List.mem_cons_self
  rw [first_eq] at h3
  rw [accept_eq] at h4
  exact utf8Tabs_of_reads Tryd.lays260 extra h3 h4
/-- The world of the witness: the settled one,the tables laid. -/
noncomputable abbrev wit (os : Os) : World := World.laidAll Tryd.prog os laid
theorem wit_laid (os : Os) (args : Array Value) : laidMetH Tryd.prog laid ((wit os).forCall (fun _ _ => 0) ⟨#[],args,[]⟩).memory := by
 rw [MakeChecks.laidMetH_plain _ _ _ (by kernel_rfl)]
 exact laidMet_laidAll _ (by kernel_rfl) (by kernel_rfl)
theorem wit_shaped (os : Os) (args : Array Value) : ((wit os).forCall (fun _ _ => 0) ⟨#[],args,[]⟩).Shaped Tryd.prog :=
 World.shaped_of_ZipB (by kernel_rfl) (by kernel_rfl)
end Go.Proofs.YtfmnmjoofnbnfaaDoor.Lf
end
