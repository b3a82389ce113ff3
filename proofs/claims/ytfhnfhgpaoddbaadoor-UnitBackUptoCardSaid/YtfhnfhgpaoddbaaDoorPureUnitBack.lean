/- UnitBack, plainly. -/
import Derived.Test.YtfhnfhgpaoddbaaDoorU14
import Derived.Test.YtfhnfhgpaoddbaaDoorU6
import Derived.Test.YtfhnfhgpaoddbaaDoorPt
import Derived.Test.YtfhnfhgpaoddbaaDoorHd
namespace Go.Proofs.YtfhnfhgpaoddbaaDoor.Pure
open Go Go.RowKit Go.Proofs.YtfhnfhgpaoddbaaDoor.Mu Go.Proofs.YtfhnfhgpaoddbaaDoor.Pu Go.Proofs.YtfhnfhgpaoddbaaDoor.U Go.Proofs.YtfhnfhgpaoddbaaDoorW.PrintWords Go.Proofs.YtfhnfhgpaoddbaaDoorW.PrintLast Go.Proofs.YtfhnfhgpaoddbaaDoorW.PrintMore

theorem lead1 : ∀ b : Fin 128, Lib.firstT b.val % 8 = 0 := by decide
theorem lead2 : ∀ b : Fin 30, Lib.firstT (b.val + 194) % 8 = 2 := by decide
theorem lead3 : ∀ b : Fin 16, Lib.firstT (b.val + 224) % 8 = 3 ∧ Lib.accLo (Lib.firstT (b.val + 224) / 16) ≤ (if b.val = 0 then 160 else 128) ∧ (if b.val = 13 then 159 else 191) ≤ Lib.accHi (Lib.firstT (b.val + 224) / 16) := by decide
theorem lead4 : ∀ b : Fin 5, Lib.firstT (b.val + 240) % 8 = 4 ∧ Lib.accLo (Lib.firstT (b.val + 240) / 16) ≤ (if b.val = 0 then 144 else 128) ∧ (if b.val = 4 then 143 else 191) ≤ Lib.accHi (Lib.firstT (b.val + 240) / 16) := by decide

/-- Numbers that are the first bytes of an encoding of several: too few are no full rune. -/
theorem full_part (c : Int) (hc : okC c) (n b0 b1 b2 : Nat) (h1 : 1 ≤ n) (hn : n < (encI c).length) (h0 : (b0 : Int) = (encI c).getD 0 0) (hb1 : 1 < n → (b1 : Int) = (encI c).getD 1 0) (hb2 : 2 < n → (b2 : Int) = (encI c).getD 2 0) : fullN n b0 b1 b2 = false := by
  unfold okC at hc
  unfold encI at hn h0 hb1 hb2
  by_cases g1 : c < 128
  · rw [if_pos g1] at hn; simp only [List.length_cons, List.length_nil] at hn; omega
  rw [if_neg g1] at hn h0 hb1 hb2
  by_cases g2 : c < 2048
  · rw [if_pos g2] at hn h0 hb1 hb2
    simp only [List.length_cons, List.length_nil] at hn
    have e0 : (b0 : Int) = 192 + c / 64 := h0
    have hl := lead2 ⟨b0 - 194, by omega⟩
    simp only [show b0 - 194 + 194 = b0 by omega] at hl
    unfold fullN
    rw [if_neg (by omega), if_neg (by omega), if_neg (by omega), if_neg (by omega)]
  rw [if_neg g2] at hn h0 hb1 hb2
  by_cases g3 : c < 65536
  · rw [if_pos g3] at hn h0 hb1 hb2
    simp only [List.length_cons, List.length_nil] at hn
    have e0 : (b0 : Int) = 224 + c / 4096 := h0
    have hl := lead3 ⟨b0 - 224, by omega⟩
    simp only [show b0 - 224 + 224 = b0 by omega] at hl
    obtain ⟨l1, l2, l3⟩ := hl
    unfold fullN
    rw [if_neg (by omega), if_neg (by omega), if_neg, if_neg (by omega)]
    rintro ⟨m1, m2⟩
    have e1 : (b1 : Int) = 128 + c / 64 % 64 := hb1 m1
    split at l2 <;> split at l3 <;> omega
  rw [if_neg g3] at hn h0 hb1 hb2
  simp only [List.length_cons, List.length_nil] at hn
  have e0 : (b0 : Int) = 240 + c / 262144 := h0
  have hl := lead4 ⟨b0 - 240, by omega⟩
  simp only [show b0 - 240 + 240 = b0 by omega] at hl
  obtain ⟨l1, l2, l3⟩ := hl
  unfold fullN
  rw [if_neg (by omega), if_neg (by omega), if_neg, if_neg]
  · rintro ⟨m1, m2⟩
    have e2 : (b2 : Int) = 128 + c / 64 % 64 := hb2 m1
    omega
  · rintro ⟨m1, m2⟩
    have e1 : (b1 : Int) = 128 + c / 4096 % 64 := hb1 m1
    split at l2 <;> split at l3 <;> omega
theorem full_all (c : Int) (hc : okC c) (b0 b1 b2 : Nat) (h0 : (b0 : Int) = (encI c).getD 0 0) : fullN (encI c).length b0 b1 b2 = true := by
  unfold okC at hc
  unfold encI at h0 ⊢
  by_cases g1 : c < 128
  · rw [if_pos g1] at h0 ⊢
    have e0 : (b0 : Int) = c := h0
    have hl := lead1 ⟨b0, by omega⟩
    simp only at hl
    unfold fullN
    rw [if_neg (by simp), if_pos (by rw [hl]; omega)]
  rw [if_neg g1] at h0 ⊢
  by_cases g2 : c < 2048
  · rw [if_pos g2] at h0 ⊢
    have e0 : (b0 : Int) = 192 + c / 64 := h0
    have hl := lead2 ⟨b0 - 194, by omega⟩
    simp only [show b0 - 194 + 194 = b0 by omega] at hl
    unfold fullN
    rw [if_neg (by simp), if_pos (by rw [hl]; simp)]
  rw [if_neg g2] at h0 ⊢
  by_cases g3 : c < 65536
  · rw [if_pos g3] at h0 ⊢
    have e0 : (b0 : Int) = 224 + c / 4096 := h0
    have hl := lead3 ⟨b0 - 224, by omega⟩
    simp only [show b0 - 224 + 224 = b0 by omega] at hl
    unfold fullN
    rw [if_neg (by simp), if_pos (by rw [hl.1]; simp)]
  rw [if_neg g3] at h0 ⊢
  have e0 : (b0 : Int) = 240 + c / 262144 := h0
  have hl := lead4 ⟨b0 - 240, by omega⟩
  simp only [show b0 - 240 + 240 = b0 by omega] at hl
  unfold fullN
  rw [if_neg (by simp), if_pos (by rw [hl.1]; simp)]

theorem begun_ans (s : ByteArray) (h : s.size ≠ 0) : unit_Begun.f s = some (!fullN s.size (byt s 0) (byt s 1) (byt s 2)) := by
  unfold unit_Begun.f
  rw [if_neg]
  · rfl
  · intro h2
    rw [Lib.toList_data] at h2
    exact h (by rw [Lib.size_eq, h2]; rfl)
theorem encI_pos (c : Int) : 1 ≤ (encI c).length := by unfold encI; split <;> (try split) <;> (try split) <;> simp
theorem enc_size (c : Int) : (strOfNums (encI c)).size = (encI c).length := strOfNums_size _
theorem enc_byt (c : Int) (hc : okC c) (i : Nat) (h : i < (encI c).length) : (byt (strOfNums (encI c)) i : Int) = (encI c).getD i 0 := byt_str _ i h (encI_byte c hc)
theorem begun_full (c : Int) (hc : okC c) : unit_Begun.f (strOfNums (encI c)) = some false := by
  have hp := encI_pos c
  rw [begun_ans _ (by rw [enc_size]; omega), enc_size, full_all c hc _ _ _ (enc_byt c hc 0 (by omega))]
  rfl
theorem begun_part (c : Int) (hc : okC c) (k : Nat) (h1 : 1 ≤ k) (hk : k < (encI c).length) : unit_Begun.f ((strOfNums (encI c)).extract 0 k) = some true := by
  have hsz := size_extract (strOfNums (encI c)) 0 k (by rw [enc_size]; omega)
  have hb : ∀ i, i < k → (byt ((strOfNums (encI c)).extract 0 k) i : Int) = (encI c).getD i 0 := by
    intro i hi
    rw [byt_extract _ _ _ _ (by omega) (by rw [enc_size]; omega), Nat.zero_add]
    exact enc_byt c hc i (by omega)
  rw [begun_ans _ (by omega), hsz, Nat.sub_zero, full_part c hc k _ _ _ h1 hk (hb 0 (by omega)) (fun h => hb 1 h) (fun h => hb 2 h)]
  rfl
theorem count_ones (s : ByteArray) (h : ∀ x, x < s.size → uN s x = 1) : ∀ f x, x ≤ s.size → s.size - x ≤ f → Lib.runeCountFrom s f x = s.size - x := by
  intro f
  induction f with
  | zero => intro x hx hf; show 0 = _; omega
  | succ f ih =>
    intro x hx hf
    rw [count_eq]
    split
    · rename_i hlt
      rw [h x hlt, ih (x + 1) (by omega) (by omega)]; omega
    · omega
attribute [local irreducible] uC uN
theorem enc_tail (c : Int) (i : Nat) (h0 : 0 < i) (h : i < (encI c).length) : 128 ≤ (encI c).getD i 0 ∧ (encI c).getD i 0 < 192 := by
  unfold encI at h ⊢
  by_cases g1 : c < 128
  · rw [if_pos g1] at h ⊢; simp only [List.length_cons, List.length_nil] at h; omega
  rw [if_neg g1] at h ⊢
  by_cases g2 : c < 2048
  · rw [if_pos g2] at h ⊢; simp only [List.length_cons, List.length_nil] at h
    obtain rfl : i = 1 := by omega
    show 128 ≤ 128 + c % 64 ∧ 128 + c % 64 < 192
    omega
  rw [if_neg g2] at h ⊢
  by_cases g3 : c < 65536
  · rw [if_pos g3] at h ⊢; simp only [List.length_cons, List.length_nil] at h
    rcases (by omega : i = 1 ∨ i = 2) with rfl | rfl
    · show 128 ≤ 128 + c / 64 % 64 ∧ 128 + c / 64 % 64 < 192
      omega
    · show 128 ≤ 128 + c % 64 ∧ 128 + c % 64 < 192
      omega
  rw [if_neg g3] at h ⊢; simp only [List.length_cons, List.length_nil] at h
  rcases (by omega : i = 1 ∨ i = 2 ∨ i = 3) with rfl | rfl | rfl
  · show 128 ≤ 128 + c / 4096 % 64 ∧ 128 + c / 4096 % 64 < 192
    omega
  · show 128 ≤ 128 + c / 64 % 64 ∧ 128 + c / 64 % 64 < 192
    omega
  · show 128 ≤ 128 + c % 64 ∧ 128 + c % 64 < 192
    omega
theorem enc_lead (c : Int) (hc : okC c) : ((encI c).length = 1 ∧ (encI c).getD 0 0 < 128) ∨ ((encI c).length = 2 ∧ 192 ≤ (encI c).getD 0 0 ∧ (encI c).getD 0 0 < 224) ∨ ((encI c).length = 3 ∧ 224 ≤ (encI c).getD 0 0 ∧ (encI c).getD 0 0 < 240) ∨ ((encI c).length = 4 ∧ 240 ≤ (encI c).getD 0 0) := by
  unfold okC at hc
  unfold encI
  by_cases g1 : c < 128
  · rw [if_pos g1]; exact .inl ⟨rfl, g1⟩
  rw [if_neg g1]
  by_cases g2 : c < 2048
  · rw [if_pos g2]; refine .inr (.inl ⟨rfl, ?_⟩)
    show 192 ≤ 192 + c / 64 ∧ 192 + c / 64 < 224
    omega
  rw [if_neg g2]
  by_cases g3 : c < 65536
  · rw [if_pos g3]; refine .inr (.inr (.inl ⟨rfl, ?_⟩))
    show 224 ≤ 224 + c / 4096 ∧ 224 + c / 4096 < 240
    omega
  rw [if_neg g3]; refine .inr (.inr (.inr ⟨rfl, ?_⟩))
  show 240 ≤ 240 + c / 262144
  omega
theorem count_part (c : Int) (hc : okC c) (k : Nat) (h1 : 1 ≤ k) (hk : k < (encI c).length) : unit_Count.f ((strOfNums (encI c)).extract 0 k) = some (k : Int) := by
  have h4 := encI_len c
  have hsz := size_extract (strOfNums (encI c)) 0 k (by rw [enc_size]; omega)
  rw [Nat.sub_zero] at hsz
  have hb : ∀ i, i < k → (byt ((strOfNums (encI c)).extract 0 k) i : Int) = (encI c).getD i 0 := by
    intro i hi
    rw [byt_extract _ _ _ _ (by omega) (by rw [enc_size]; omega), Nat.zero_add]
    exact enc_byt c hc i (by omega)
  generalize (strOfNums (encI c)).extract 0 k = p at hsz hb ⊢
  rw [count_ans p (by omega)]
  unfold Lib.runeCount
  rw [count_ones p ?_ p.size 0 (by omega) (by omega), Nat.sub_zero, hsz]
  intro x hx
  by_cases h0 : x = 0
  · subst h0
    have hl := enc_lead c hc
    have := hb 0 (by omega)
    rw [← this] at hl
    rcases uC_cases p 0 with h | h | h | h | h <;> omega
  · have ht := enc_tail c x (by omega) (by omega)
    rw [← hb x (by omega)] at ht
    exact (cont_one p x (by omega)).1

/-! ### what is written is read again -/
def unitE (c : Int) : S30 := ⟨c, ((encI c).length : Int)⟩
def goods (l : List Int) : List Int := l.filter (fun c => decide (okC c))
theorem read_back (s : ByteArray) : ∀ (l : List Int) (x n : Nat), s.size - x ≤ n → s.size = x + (l.flatMap encO).length → bytsAt s x (l.flatMap encO).length = l.flatMap encO → (walkL s n x).map (·.2) = (goods l).map unitE := by
  intro l
  induction l with
  | nil =>
    intro x n hn hs hb
    have : ¬ x < s.size := by simp at hs; omega
    cases n with
    | zero => rfl
    | succ n => rw [walkL, if_neg this]; rfl
  | cons c l ih =>
    intro x n hn hs hb
    rw [List.flatMap_cons] at hs hb
    by_cases hc : okC c
    · have hp := encI_pos c
      rw [show encO c = encI c by unfold encO; rw [if_pos hc], List.length_append] at hs hb
      have hsplit : bytsAt s x ((encI c).length + (l.flatMap encO).length) = bytsAt s x (encI c).length ++ bytsAt s (x + (encI c).length) (l.flatMap encO).length := by
        unfold bytsAt
        rw [List.range_add, List.map_append, List.map_map]
        congr 1
        apply List.map_congr_left
        intro i _
        show (byt s (x + ((encI c).length + i)) : Int) = _
        rw [Nat.add_assoc]
      rw [hsplit] at hb
      obtain ⟨hb1, hb2⟩ := List.append_inj hb (by rw [bytsAt_len])
      obtain ⟨m, rfl⟩ : ∃ m, n = m + 1 := ⟨n - 1, by omega⟩
      obtain ⟨hu, hn1⟩ := unit_enc s x c hc (by omega) hb1
      rw [walkL, if_pos (by omega), List.map_cons, hn1]
      rw [show goods (c :: l) = c :: goods l by unfold goods; rw [List.filter_cons, if_pos (by simpa using hc)], List.map_cons]
      rw [ih (x + (encI c).length) m (by omega) (by omega) hb2]
      unfold uAt unitE
      rw [hu, hn1]
    · rw [show encO c = [] by unfold encO; rw [if_neg hc], List.nil_append] at hs hb
      rw [show goods (c :: l) = goods l by unfold goods; rw [List.filter_cons, if_neg (by simpa using hc)]]
      exact ih x n hn hs hb
theorem flat_byte (l : List Int) : ∀ x ∈ l.flatMap encO, 0 ≤ x ∧ x < 256 := by
  intro x hx
  obtain ⟨c, _, h⟩ := List.mem_flatMap.1 hx
  unfold encO at h
  split at h
  · rename_i hc; exact encI_byte c hc x h
  · simp at h
theorem units_back (l : List Int) : unitsL (strOfNums (l.flatMap encO)) = (goods l).map unitE := by
  have hsz := strOfNums_size (l.flatMap encO)
  refine read_back _ l 0 _ (by omega) (by omega) ?_
  apply List.ext_getElem
  · rw [bytsAt_len]
  · intro i h1 h2
    have := byt_str (l.flatMap encO) i h2 (flat_byte l)
    rw [List.getD_eq_getElem?_getD, List.getElem?_eq_getElem h2] at this
    unfold bytsAt
    simp only [List.getElem_map, List.getElem_range, Nat.zero_add]
    exact this

theorem back_inner (U : List S30) (n : Int) (L : List Int) (N j : Int) (c : Int) (hc : okC c) (h : Ev (fun k => bodkinlaw01_UnitBack.l0 k U n L N (wrap64 (j + 1))) true) : ∀ m k : Nat, k + m = (encI c).length → 1 ≤ k → Ev (fun f => bodkinlaw01_UnitBack.l1 f U n (strOfNums (encI c)) k L N j) true := by
  have hsz := enc_size c
  have h4 := encI_len c
  intro m
  induction m with
  | zero => intro k hk h1; exact Ev.step (fun k => bodkinlaw01_UnitBack.l1.eq_2 ..) (ev_neg (by omega) h)
  | succ m ih =>
    intro k hk h1
    refine Ev.step (fun k => bodkinlaw01_UnitBack.l1.eq_2 ..) (ev_pos (by omega) (ev_pos (by omega) (ev_pos (by omega) (ev_some (a := true) (by rw [Int.toNat_natCast]; exact begun_part c hc k h1 (by omega)) (ev_pos rfl (ev_some (a := (k : Int)) (by rw [Int.toNat_natCast]; exact count_part c hc k h1 (by omega)) (ev_pos rfl ?_)))))))
    rw [w64 (by omega) (by omega)]
    exact ih (k + 1) (by omega) (by omega)
theorem law_scalar_ans (c : Int) : bodkinlaw01_scalar.f c = some (decide (0 ≤ c ∧ c ≤ 1114111 ∧ (c < 55296 ∨ 57343 < c))) := scalar_ans c
theorem goods_len (l : List Int) : (goods l).length ≤ l.length := List.length_filter_le _ _
theorem rd_unit (U : List S30) (i : Nat) : rd_T30 U i = U.getD i z30 := by unfold rd_T30; rw [Int.toNat_natCast]
theorem back_loop (L : List Int) (hL : L.length ≤ 1048576) (U : List S30) (hU : U.length ≤ L.length) : ∀ (l : List Int) (n j : Nat), L.drop j = l → n ≤ U.length → U.drop n = (goods l).map unitE → Ev (fun k => bodkinlaw01_UnitBack.l0 k U n L (L.length : Int) j) true := by
  intro l
  induction l with
  | nil =>
    intro n j hd hn hg
    have := drop_nil_le hd
    have := drop_nil_le hg
    exact Ev.step (fun k => bodkinlaw01_UnitBack.l0.eq_2 ..) (ev_neg (by omega) (ev_now (by rw [beq_iff_eq]; omega)))
  | cons c l ih =>
    intro n j hd hn hg
    obtain ⟨hi, hgc, hd'⟩ := drop_cons (d := 0) hd
    refine Ev.step (fun k => bodkinlaw01_UnitBack.l0.eq_2 ..) (ev_pos (by omega) (ev_pos (by omega) (ev_pos (by omega) ?_)))
    rw [rd_nat, hgc]
    have he := encode_ans [c] (by simp)
    have ee : ([c] : List Int).flatMap encO = encO c := by rw [List.flatMap_cons, List.flatMap_nil, List.append_nil]
    rw [ee] at he
    refine Ev.bind he (ev_some (law_scalar_ans c) ?_)
    by_cases hc : okC c
    · have e1 : encO c = encI c := by unfold encO; rw [if_pos hc]
      rw [show goods (c :: l) = c :: goods l by unfold goods; rw [List.filter_cons, if_pos (by simpa using hc)], List.map_cons] at hg
      obtain ⟨hn2, hgu, hg'⟩ := drop_cons (d := z30) hg
      rw [e1]
      refine ev_pos (by rw [decide_eq_true_eq]; exact hc) (ev_neg (by omega) (ev_pos (by omega) (ev_pos (by omega) (ev_pos ?_ (ev_pos ?_ (ev_some (begun_full c hc) (Ev.step (fun k => bodkinlaw01_UnitBack.j1.eq_2 ..) (ev_neg (by simp) ?_))))))))
      · rw [rd_unit, hgu]; rfl
      · rw [rd_unit, hgu, enc_size]; rfl
      · rw [w64 (x := (n : Int) + 1) (by omega) (by omega)]
        have hp := encI_pos c
        refine back_inner U _ L _ _ c hc ?_ ((encI c).length - 1) 1 (by omega) (by omega)
        rw [w64 (by omega) (by omega)]
        exact ih (n + 1) (j + 1) hd' (by omega) hg'
    · have e1 : encO c = [] := by unfold encO; rw [if_neg hc]
      rw [show goods (c :: l) = goods l by unfold goods; rw [List.filter_cons, if_neg (by simpa using hc)]] at hg
      rw [e1]
      refine ev_neg (by rw [decide_eq_true_eq]; exact hc) (ev_pos (by rw [Lib.strOfNums_toList]; rfl) ?_)
      rw [w64 (by omega) (by omega)]
      exact ih n (j + 1) hd' hn hg

theorem UnitBack (l0 : List Int) (u : l0.length ≤ 1048576) (_hw : ∀ x ∈ l0, (Lit.int .i32 x).wf = true) : ∃ k, bodkinlaw01_UnitBack.f k l0 = some true := by
  apply Ev.rounds
  unfold bodkinlaw01_UnitBack.f
  have hf := flat_len l0
  have hu : unit_Units.f (strOfNums (l0.flatMap encO)) = some ((goods l0).map unitE) := by unfold unit_Units.f; rw [strOfNums_size, if_pos (by omega), units_back]
  refine ev_some rfl (ev_pos rfl (Ev.bind (encode_ans l0 (by omega)) (ev_some hu ?_)))
  exact back_loop l0 u _ (by rw [List.length_map]; exact goods_len l0) l0 0 0 rfl (by omega) rfl
end Go.Proofs.YtfhnfhgpaoddbaaDoor.Pure
