/- Units of a text, plainly: what the decoder answers at each offset; no two encodings overlap; boundaries are seen nearby. No program in sight. -/
import Derived.Lib.DecodeN
import Derived.Lib.MapLaws
import Derived.Laws.DeepStrings4
import Derived.Shelf.Unicode.DecodeLastEight
namespace Go.Proofs.YtfhnfhgpaoddbaaDoor.Mu
open Go Go.Lib

/-! ### bytes -/
def byt (s : ByteArray) (i : Nat) : Nat := (s.get! i).toNat
theorem byt_lt (s : ByteArray) (i : Nat) : byt s i < 256 := (s.get! i).toNat_lt

/-! ### one decoding -/
theorem dec_ascii (n b0 b1 b2 b3 : Nat) (h : b0 < 128) : decodeN n b0 b1 b2 b3 = (b0, 1) := by unfold decodeN; rw [if_pos h]
theorem dec_two (n b0 b1 b2 b3 : Nat) (h0 : 192 ≤ b0) (h1 : b0 < 224) (hn : 1 < n) (h2 : b1 / 64 = 2) (hc : 128 ≤ b0 % 32 * 64 + b1 % 64) : decodeN n b0 b1 b2 b3 = (b0 % 32 * 64 + b1 % 64, 2) := by
  unfold decodeN; rw [if_neg (by omega), if_pos ⟨by omega, hn, h2⟩, if_pos hc]
theorem dec_three (n b0 b1 b2 b3 : Nat) (h0 : 224 ≤ b0) (h1 : b0 < 240) (hn : 2 < n) (h2 : b1 / 64 = 2) (h3 : b2 / 64 = 2) (hc : 2048 ≤ b0 % 16 * 4096 + b1 % 64 * 64 + b2 % 64)
    (hs : b0 % 16 * 4096 + b1 % 64 * 64 + b2 % 64 < 55296 ∨ 57344 ≤ b0 % 16 * 4096 + b1 % 64 * 64 + b2 % 64) : decodeN n b0 b1 b2 b3 = (b0 % 16 * 4096 + b1 % 64 * 64 + b2 % 64, 3) := by
  unfold decodeN; rw [if_neg (by omega), if_neg (by omega), if_pos ⟨by omega, ⟨by omega, h2⟩, hn, h3⟩, if_pos ⟨hc, by omega⟩]
theorem dec_four (n b0 b1 b2 b3 : Nat) (h0 : 240 ≤ b0) (h1 : b0 < 248) (hn : 3 < n) (h2 : b1 / 64 = 2) (h3 : b2 / 64 = 2) (h4 : b3 / 64 = 2) (hc : 65536 ≤ b0 % 8 * 262144 + b1 % 64 * 4096 + b2 % 64 * 64 + b3 % 64)
    (hs : b0 % 8 * 262144 + b1 % 64 * 4096 + b2 % 64 * 64 + b3 % 64 ≤ 1114111) : decodeN n b0 b1 b2 b3 = (b0 % 8 * 262144 + b1 % 64 * 4096 + b2 % 64 * 64 + b3 % 64, 4) := by
  unfold decodeN; rw [if_neg (by omega), if_neg (by omega), if_neg (by omega), if_pos ⟨by omega, ⟨by omega, h2⟩, ⟨by omega, h3⟩, hn, h4⟩, if_pos ⟨hc, by omega⟩]

/-- What a decoding can be. -/
theorem dec_cases (n b0 b1 b2 b3 : Nat) (hb : b0 < 256) :
    (b0 < 128 ∧ decodeN n b0 b1 b2 b3 = (b0, 1)) ∨
    (128 ≤ b0 ∧ decodeN n b0 b1 b2 b3 = (65533, 1)) ∨
    (192 ≤ b0 ∧ b0 < 224 ∧ 1 < n ∧ b1 / 64 = 2 ∧ 128 ≤ b0 % 32 * 64 + b1 % 64 ∧ decodeN n b0 b1 b2 b3 = (b0 % 32 * 64 + b1 % 64, 2)) ∨
    (224 ≤ b0 ∧ b0 < 240 ∧ 2 < n ∧ b1 / 64 = 2 ∧ b2 / 64 = 2 ∧ 2048 ≤ b0 % 16 * 4096 + b1 % 64 * 64 + b2 % 64 ∧ (b0 % 16 * 4096 + b1 % 64 * 64 + b2 % 64 < 55296 ∨ 57344 ≤ b0 % 16 * 4096 + b1 % 64 * 64 + b2 % 64) ∧
      decodeN n b0 b1 b2 b3 = (b0 % 16 * 4096 + b1 % 64 * 64 + b2 % 64, 3)) ∨
    (240 ≤ b0 ∧ b0 < 248 ∧ 3 < n ∧ b1 / 64 = 2 ∧ b2 / 64 = 2 ∧ b3 / 64 = 2 ∧ 65536 ≤ b0 % 8 * 262144 + b1 % 64 * 4096 + b2 % 64 * 64 + b3 % 64 ∧ b0 % 8 * 262144 + b1 % 64 * 4096 + b2 % 64 * 64 + b3 % 64 ≤ 1114111 ∧
      decodeN n b0 b1 b2 b3 = (b0 % 8 * 262144 + b1 % 64 * 4096 + b2 % 64 * 64 + b3 % 64, 4)) := by
  by_cases h1 : b0 < 128
  · exact .inl ⟨h1, dec_ascii _ _ _ _ _ h1⟩
  · refine .inr ?_
    by_cases h2 : b0 / 32 = 6 ∧ (1 < n ∧ b1 / 64 = 2)
    · by_cases hc : 128 ≤ b0 % 32 * 64 + b1 % 64
      · exact .inr (.inl ⟨by omega, by omega, h2.2.1, h2.2.2, hc, dec_two _ _ _ _ _ (by omega) (by omega) h2.2.1 h2.2.2 hc⟩)
      · exact .inl ⟨by omega, by unfold decodeN; rw [if_neg h1, if_pos h2, if_neg hc]⟩
    · by_cases h3 : b0 / 16 = 14 ∧ (1 < n ∧ b1 / 64 = 2) ∧ (2 < n ∧ b2 / 64 = 2)
      · by_cases hc : b0 % 16 * 4096 + b1 % 64 * 64 + b2 % 64 ≥ 2048 ∧ (b0 % 16 * 4096 + b1 % 64 * 64 + b2 % 64 < 55296 ∨ (57344 ≤ b0 % 16 * 4096 + b1 % 64 * 64 + b2 % 64 ∧ b0 % 16 * 4096 + b1 % 64 * 64 + b2 % 64 ≤ 1114111))
        · exact .inr (.inr (.inl ⟨by omega, by omega, h3.2.2.1, h3.2.1.2, h3.2.2.2, hc.1, by omega, dec_three _ _ _ _ _ (by omega) (by omega) h3.2.2.1 h3.2.1.2 h3.2.2.2 hc.1 (by omega)⟩))
        · exact .inl ⟨by omega, by unfold decodeN; rw [if_neg h1, if_neg h2, if_pos h3, if_neg hc]⟩
      · by_cases h4 : b0 / 8 = 30 ∧ (1 < n ∧ b1 / 64 = 2) ∧ (2 < n ∧ b2 / 64 = 2) ∧ (3 < n ∧ b3 / 64 = 2)
        · by_cases hc : b0 % 8 * 262144 + b1 % 64 * 4096 + b2 % 64 * 64 + b3 % 64 ≥ 65536 ∧ (b0 % 8 * 262144 + b1 % 64 * 4096 + b2 % 64 * 64 + b3 % 64 < 55296 ∨ (57344 ≤ b0 % 8 * 262144 + b1 % 64 * 4096 + b2 % 64 * 64 + b3 % 64 ∧ b0 % 8 * 262144 + b1 % 64 * 4096 + b2 % 64 * 64 + b3 % 64 ≤ 1114111))
          · exact .inr (.inr (.inr ⟨by omega, by omega, h4.2.2.2.1, h4.2.1.2, h4.2.2.1.2, h4.2.2.2.2, hc.1, by omega, dec_four _ _ _ _ _ (by omega) (by omega) h4.2.2.2.1 h4.2.1.2 h4.2.2.1.2 h4.2.2.2.2 hc.1 (by omega)⟩))
          · exact .inl ⟨by omega, by unfold decodeN; rw [if_neg h1, if_neg h2, if_neg h3, if_pos h4, if_neg hc]⟩
        · exact .inl ⟨by omega, by unfold decodeN; rw [if_neg h1, if_neg h2, if_neg h3, if_neg h4]⟩

theorem dec_cont (n b0 b1 b2 b3 : Nat) (h : b0 / 64 = 2) : decodeN n b0 b1 b2 b3 = (65533, 1) := by
  rcases dec_cases n b0 b1 b2 b3 (by omega) with h1 | h1 | h1 | h1 | h1
  · omega
  · exact h1.2
  all_goals omega

/-! ### the unit at an offset -/
/-- Its bytes. -/
def uN (s : ByteArray) (i : Nat) : Nat := (Utf8.decode s i).2
/-- Its character, -1 of a bad one. -/
def uC (s : ByteArray) (i : Nat) : Int := if (Utf8.decode s i).1 = 65533 ∧ (Utf8.decode s i).2 = 1 then -1 else ((Utf8.decode s i).1 : Int)

theorem dec_eq (s : ByteArray) (i : Nat) : Utf8.decode s i = decodeN (s.size - i) (byt s i) (byt s (i + 1)) (byt s (i + 2)) (byt s (i + 3)) := decode_at s i
theorem uN_pos (s : ByteArray) (i : Nat) : 1 ≤ uN s i := by unfold uN; rw [dec_eq]; exact decodeN_ge1 _ _ _ _ _
theorem uN_le4 (s : ByteArray) (i : Nat) : uN s i ≤ 4 := by unfold uN; rw [dec_eq]; exact decodeN_le4 _ _ _ _ _
theorem uN_le (s : ByteArray) (i : Nat) (h : i < s.size) : i + uN s i ≤ s.size := by
  have := decodeN_le_n (s.size - i) (byt s i) (byt s (i + 1)) (byt s (i + 2)) (byt s (i + 3)) (by omega)
  rw [← dec_eq] at this
  unfold uN
  omega

/-- Behind the first byte of a unit of several, each byte goes on an encoding. -/
theorem inner_cont (s : ByteArray) (j i : Nat) (h1 : j < i) (h2 : i < j + uN s j) : byt s i / 64 = 2 := by
  have hc := dec_cases (s.size - j) (byt s j) (byt s (j + 1)) (byt s (j + 2)) (byt s (j + 3)) (byt_lt s j)
  unfold uN at h2
  rw [dec_eq] at h2
  rcases hc with h | h | h | h | h
  · rw [h.2] at h2; simp only at h2; omega
  · rw [h.2] at h2; simp only at h2; omega
  · rw [h.2.2.2.2.2] at h2; simp only at h2
    obtain rfl : i = j + 1 := by omega
    exact h.2.2.2.1
  · rw [h.2.2.2.2.2.2.2] at h2; simp only at h2
    rcases (by omega : i = j + 1 ∨ i = j + 2) with rfl | rfl
    · exact h.2.2.2.1
    · exact h.2.2.2.2.1
  · rw [h.2.2.2.2.2.2.2.2] at h2; simp only at h2
    rcases (by omega : i = j + 1 ∨ i = j + 2 ∨ i = j + 3) with rfl | rfl | rfl
    · exact h.2.2.2.1
    · exact h.2.2.2.2.1
    · exact h.2.2.2.2.2.1
theorem cont_one (s : ByteArray) (i : Nat) (h : byt s i / 64 = 2) : uN s i = 1 ∧ uC s i = -1 := by
  have e : Utf8.decode s i = (65533, 1) := by rw [dec_eq]; exact dec_cont _ _ _ _ _ h
  unfold uN uC
  rw [e]
  simp
/-- No two encodings overlap. -/
theorem inner_one (s : ByteArray) (j i : Nat) (h1 : j < i) (h2 : i < j + uN s j) : uN s i = 1 := (cont_one s i (inner_cont s j i h1 h2)).1

/-! ### boundaries -/
def Bd (s : ByteArray) (i : Nat) : Prop := i ≤ s.size ∧ ∀ j, j < i → j + uN s j ≤ i
theorem bd_zero (s : ByteArray) : Bd s 0 := ⟨Nat.zero_le _, fun j h => by omega⟩
theorem bd_size (s : ByteArray) : Bd s s.size := ⟨Nat.le_refl _, fun j h => uN_le s j h⟩
theorem bd_next (s : ByteArray) (i : Nat) (h : Bd s i) (hi : i < s.size) : Bd s (i + uN s i) := by
  refine ⟨uN_le s i hi, fun j hj => ?_⟩
  rcases Nat.lt_trichotomy j i with h1 | h1 | h1
  · have := h.2 j h1; omega
  · subst h1; omega
  · have := inner_one s i j h1 hj; omega
theorem not_bd_inner (s : ByteArray) (i k : Nat) (h1 : i < k) (h2 : k < i + uN s i) : ¬ Bd s k := fun h => by have := h.2 i h1; omega
/-- What begins a unit of several bytes is a boundary. -/
theorem bd_long (s : ByteArray) (i : Nat) (hi : i < s.size) (h : 2 ≤ uN s i) : Bd s i := by
  refine ⟨by omega, fun j hj => ?_⟩
  by_cases h2 : i < j + uN s j
  · have := inner_one s j i hj h2; omega
  · omega
/-- What is no boundary lies within just one unit. -/
theorem within (s : ByteArray) (i : Nat) (hi : i ≤ s.size) (h : ¬ Bd s i) : ∃ j, j < i ∧ i < j + uN s j ∧ Bd s j ∧ i ≤ j + 3 := by
  have : ¬ ∀ j, j < i → j + uN s j ≤ i := fun h2 => h ⟨hi, h2⟩
  simp only [Classical.not_forall] at this
  obtain ⟨j, hj, hj2⟩ := this
  have h4 := uN_le4 s j
  exact ⟨j, hj, by omega, bd_long s j (by omega) (by omega), by omega⟩
theorem within_unique (s : ByteArray) (i j j' : Nat) (h1 : j < i) (h2 : i < j + uN s j) (h1' : j' < i) (h2' : i < j' + uN s j') : j = j' := by
  rcases Nat.lt_trichotomy j j' with h | h | h
  · have := inner_one s j j' h (by omega); omega
  · exact h
  · have := inner_one s j' j h (by omega); omega

/-- A unit's bytes decide it: in another text that has the same bytes, it is the same. -/
theorem dec_prefix (s t : ByteArray) (i j : Nat) (h2 : 2 ≤ uN s i) (hs : ∀ k, k < uN s i → byt t (j + k) = byt s (i + k)) (hsz : j + uN s i ≤ t.size) : Utf8.decode t j = Utf8.decode s i := by
  have hc := dec_cases (s.size - i) (byt s i) (byt s (i + 1)) (byt s (i + 2)) (byt s (i + 3)) (byt_lt s i)
  unfold uN at h2 hs hsz
  rw [dec_eq] at h2 hs hsz
  rw [dec_eq s i, dec_eq t j]
  rcases hc with h | h | h | h | h
  · rw [h.2] at h2; simp only at h2; omega
  · rw [h.2] at h2; simp only at h2; omega
  · obtain ⟨h0, h1, _, h3, h4, e⟩ := h
    rw [e] at hs hsz ⊢
    simp only at hs hsz
    have e0 := hs 0 (by omega); have e1 := hs 1 (by omega)
    rw [Nat.add_zero, Nat.add_zero] at e0
    rw [← e0, ← e1] at h4 ⊢
    rw [← e0] at h0 h1
    rw [← e1] at h3
    exact dec_two _ _ _ _ _ h0 h1 (by omega) h3 h4
  · obtain ⟨h0, h1, _, h3, h5, h4, h6, e⟩ := h
    rw [e] at hs hsz ⊢
    simp only at hs hsz
    have e0 := hs 0 (by omega); have e1 := hs 1 (by omega); have e2 := hs 2 (by omega)
    rw [Nat.add_zero, Nat.add_zero] at e0
    rw [← e0, ← e1, ← e2] at h4 h6 ⊢
    rw [← e0] at h0 h1
    rw [← e1] at h3
    rw [← e2] at h5
    exact dec_three _ _ _ _ _ h0 h1 (by omega) h3 h5 h4 h6
  · obtain ⟨h0, h1, _, h3, h5, h7, h4, h6, e⟩ := h
    rw [e] at hs hsz ⊢
    simp only at hs hsz
    have e0 := hs 0 (by omega); have e1 := hs 1 (by omega); have e2 := hs 2 (by omega); have e3 := hs 3 (by omega)
    rw [Nat.add_zero, Nat.add_zero] at e0
    rw [← e0, ← e1, ← e2, ← e3] at h4 h6 ⊢
    rw [← e0] at h0 h1
    rw [← e1] at h3
    rw [← e2] at h5
    rw [← e3] at h7
    exact dec_four _ _ _ _ _ h0 h1 (by omega) h3 h5 h7 h4 h6

/-! ### pieces of a text -/
theorem decodeGo_extract (s : ByteArray) (pos : Nat) (h : pos < s.size) : decodeGo (s.extract pos s.size) = Utf8.decode s pos := by
  have hx : (s.extract pos s.size).data.toList = s.data.toList.drop pos := by
    rw [extract_data, List.take_of_length_le (by rw [List.length_drop, ← size_eq]; omega)]
  have hsz : (s.extract pos s.size).size ≠ 0 := by rw [size_eq, hx, List.length_drop, ← size_eq]; omega
  unfold decodeGo
  rw [if_neg hsz, ← decodeL_drop s pos, ← hx]
  rfl
theorem get!_eq (s : ByteArray) (i : Nat) : s.get! i = s.data.toList.getD i 0 := by
  show s.data[i]! = _
  simp [Array.getElem!_eq_getD]
  rfl
theorem byt_extract (s : ByteArray) (a b i : Nat) (h : a + i < b) (_hb : b ≤ s.size) : byt (s.extract a b) i = byt s (a + i) := by
  unfold byt
  rw [get!_eq, get!_eq, extract_data, List.getD_eq_getElem?_getD, List.getD_eq_getElem?_getD, List.getElem?_take, if_pos (by omega), List.getElem?_drop]
theorem byt_append_left (s t : ByteArray) (i : Nat) (h : i < s.size) : byt (s ++ t) i = byt s i := by
  unfold byt
  rw [get!_eq, get!_eq, List.getD_eq_getElem?_getD, List.getD_eq_getElem?_getD]
  have e : (s ++ t).data.toList = s.data.toList ++ t.data.toList := by simp
  rw [e, List.getElem?_append_left (by rw [← size_eq]; exact h)]
theorem byt_append_right (s t : ByteArray) (i : Nat) : byt (s ++ t) (s.size + i) = byt t i := by
  unfold byt
  rw [get!_eq, get!_eq, List.getD_eq_getElem?_getD, List.getD_eq_getElem?_getD]
  have e : (s ++ t).data.toList = s.data.toList ++ t.data.toList := by simp
  rw [e, List.getElem?_append_right (by rw [← size_eq]; omega), ← size_eq, show s.size + i - s.size = i by omega]
theorem size_extract (s : ByteArray) (a b : Nat) (hb : b ≤ s.size) : (s.extract a b).size = b - a := by simp; omega

/-- Whether an offset is a boundary is seen by the three bytes at each side of it. -/
theorem bd_local (s : ByteArray) (i a b : Nat) (ha : a ≤ i) (ha3 : a = 0 ∨ a + 3 ≤ i) (hib : i ≤ b) (hb : b ≤ s.size) (hb3 : b = s.size ∨ i + 3 ≤ b) : Bd (s.extract a b) (i - a) ↔ Bd s i := by
  have hsz := size_extract s a b hb
  constructor
  · rintro ⟨_, h⟩
    refine ⟨by omega, fun j hj => ?_⟩
    by_cases h2 : i < j + uN s j
    · exfalso
      have h4 := uN_le4 s j
      have hle := uN_le s j (by omega)
      have e := dec_prefix s (s.extract a b) j (j - a) (by omega) (fun k hk => by rw [byt_extract _ _ _ _ (by omega) hb]; congr 1; omega) (by omega)
      have := h (j - a) (by omega)
      have e2 : uN (s.extract a b) (j - a) = uN s j := by unfold uN; rw [e]
      omega
    · omega
  · rintro ⟨_, h⟩
    refine ⟨by omega, fun j hj => ?_⟩
    by_cases h2 : i - a < j + uN (s.extract a b) j
    · exfalso
      have hle := uN_le (s.extract a b) j (by omega)
      have e := dec_prefix (s.extract a b) s j (a + j) (by omega) (fun k hk => by rw [byt_extract _ _ _ _ (by omega) hb]; congr 1; omega) (by omega)
      have := h (a + j) (by omega)
      have e2 : uN s (a + j) = uN (s.extract a b) j := by unfold uN; rw [e]
      omega
    · omega
end Go.Proofs.YtfhnfhgpaoddbaaDoor.Mu
