/- What a unit can be, plainly. -/
import Derived.Test.YtfhnfhgpaoddbaaDoorMu
namespace Go.Proofs.YtfhnfhgpaoddbaaDoor.Pu
open Go Go.RowKit Go.Proofs.YtfhnfhgpaoddbaaDoor.Mu

theorem uC_extract (s : ByteArray) (i : Nat) (h : i < s.size) : uC (s.extract i s.size) 0 = uC s i := by
  have hsz : (s.extract i s.size).size = s.size - i := size_extract _ _ _ (Nat.le_refl _)
  have hx : ∀ x : ByteArray, x.extract 0 x.size = x := fun x => by simp
  have h1 := decodeGo_extract (s.extract i s.size) 0 (by omega)
  rw [hx] at h1
  have e : Utf8.decode (s.extract i s.size) 0 = Utf8.decode s i := h1.symm.trans (decodeGo_extract s i h)
  unfold uC; rw [e]
theorem uC_of (s : ByteArray) (i c n : Nat) (h : Utf8.decode s i = (c, n)) (hg : c = 65533 → n ≠ 1) : uC s i = c ∧ uN s i = n := by
  unfold uC uN; rw [h]
  exact ⟨if_neg (fun h => hg h.1 h.2), rfl⟩
/-- What a unit can be. -/
theorem uC_cases (s : ByteArray) (i : Nat) :
    (byt s i < 128 ∧ uC s i = byt s i ∧ uN s i = 1) ∨ (128 ≤ byt s i ∧ uC s i = -1 ∧ uN s i = 1) ∨
    (192 ≤ byt s i ∧ byt s i < 224 ∧ 1 < s.size - i ∧ byt s (i + 1) / 64 = 2 ∧ 128 ≤ byt s i % 32 * 64 + byt s (i + 1) % 64 ∧ uC s i = (byt s i % 32 * 64 + byt s (i + 1) % 64 : Nat) ∧ uN s i = 2) ∨
    (224 ≤ byt s i ∧ byt s i < 240 ∧ 2 < s.size - i ∧ byt s (i + 1) / 64 = 2 ∧ byt s (i + 2) / 64 = 2 ∧ 2048 ≤ byt s i % 16 * 4096 + byt s (i + 1) % 64 * 64 + byt s (i + 2) % 64 ∧
      (byt s i % 16 * 4096 + byt s (i + 1) % 64 * 64 + byt s (i + 2) % 64 < 55296 ∨ 57344 ≤ byt s i % 16 * 4096 + byt s (i + 1) % 64 * 64 + byt s (i + 2) % 64) ∧
      uC s i = (byt s i % 16 * 4096 + byt s (i + 1) % 64 * 64 + byt s (i + 2) % 64 : Nat) ∧ uN s i = 3) ∨
    (240 ≤ byt s i ∧ byt s i < 248 ∧ 3 < s.size - i ∧ byt s (i + 1) / 64 = 2 ∧ byt s (i + 2) / 64 = 2 ∧ byt s (i + 3) / 64 = 2 ∧ 65536 ≤ byt s i % 8 * 262144 + byt s (i + 1) % 64 * 4096 + byt s (i + 2) % 64 * 64 + byt s (i + 3) % 64 ∧
      byt s i % 8 * 262144 + byt s (i + 1) % 64 * 4096 + byt s (i + 2) % 64 * 64 + byt s (i + 3) % 64 ≤ 1114111 ∧ uC s i = (byt s i % 8 * 262144 + byt s (i + 1) % 64 * 4096 + byt s (i + 2) % 64 * 64 + byt s (i + 3) % 64 : Nat) ∧ uN s i = 4) := by
  have hd := dec_eq s i
  rcases dec_cases (s.size - i) (byt s i) (byt s (i + 1)) (byt s (i + 2)) (byt s (i + 3)) (byt_lt s i) with h | h | h | h | h
  · have := uC_of s i _ _ (hd.trans h.2) (by omega)
    exact .inl ⟨h.1, this⟩
  · refine .inr (.inl ⟨h.1, ?_, ?_⟩)
    · unfold uC; rw [hd, h.2]; simp
    · unfold uN; rw [hd, h.2]
  · obtain ⟨h0, h1, h2, h3, h4, e⟩ := h
    have := uC_of s i _ _ (hd.trans e) (by omega)
    exact .inr (.inr (.inl ⟨h0, h1, h2, h3, h4, this⟩))
  · obtain ⟨h0, h1, h2, h3, h4, h5, h6, e⟩ := h
    have := uC_of s i _ _ (hd.trans e) (by omega)
    exact .inr (.inr (.inr (.inl ⟨h0, h1, h2, h3, h4, h5, h6, this⟩)))
  · obtain ⟨h0, h1, h2, h3, h4, h5, h6, h7, e⟩ := h
    have := uC_of s i _ _ (hd.trans e) (by omega)
    exact .inr (.inr (.inr (.inr ⟨h0, h1, h2, h3, h4, h5, h6, h7, this⟩)))
theorem uC_range (s : ByteArray) (i : Nat) : uC s i = -1 ∧ uN s i = 1 ∨ 0 ≤ uC s i ∧ uC s i ≤ 1114111 := by
  have := byt_lt s i
  rcases uC_cases s i with h | h | h | h | h <;> omega

end Go.Proofs.YtfhnfhgpaoddbaaDoor.Pu
