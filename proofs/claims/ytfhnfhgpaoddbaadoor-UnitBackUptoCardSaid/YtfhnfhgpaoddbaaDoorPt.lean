/- Encodings that lie in a text. -/
import Derived.Test.YtfhnfhgpaoddbaaDoorPe
namespace Go.Proofs.YtfhnfhgpaoddbaaDoor.Pu
open Go Go.RowKit Go.Proofs.YtfhnfhgpaoddbaaDoor.Mu Go.Proofs.YtfhnfhgpaoddbaaDoor.U Go.Proofs.YtfhnfhgpaoddbaaDoorW.PrintWords Go.Proofs.YtfhnfhgpaoddbaaDoorW.PrintLast Go.Proofs.YtfhnfhgpaoddbaaDoorW.PrintMore

/-- The bytes of a text from x on. -/
def bytsAt (s : ByteArray) (x n : Nat) : List Int := (List.range n).map fun i => (byt s (x + i) : Int)
/-- A good unit's bytes are its character's encoding. -/
theorem enc_unit (s : ByteArray) (x : Nat) (h : 0 ≤ uC s x) : okC (uC s x) ∧ encI (uC s x) = bytsAt s x (uN s x) := by
  have := byt_lt s x; have := byt_lt s (x + 1); have := byt_lt s (x + 2); have := byt_lt s (x + 3)
  unfold okC encI bytsAt
  rcases uC_cases s x with h1 | h1 | h1 | h1 | h1
  · refine ⟨by omega, ?_⟩
    rw [if_pos (by omega), h1.2.2, h1.2.1]; rfl
  · omega
  · obtain ⟨a, b, c, d, e, f, g⟩ := h1
    refine ⟨by omega, ?_⟩
    rw [if_neg (by omega), if_pos (by omega), g]
    show _ = [(byt s x : Int), (byt s (x + 1) : Int)]
    rw [show 192 + uC s x / 64 = (byt s x : Int) by omega, show 128 + uC s x % 64 = (byt s (x + 1) : Int) by omega]
  · obtain ⟨a, b, c, d, d2, e, e2, f, g⟩ := h1
    refine ⟨by omega, ?_⟩
    rw [if_neg (by omega), if_neg (by omega), if_pos (by omega), g]
    show _ = [(byt s x : Int), (byt s (x + 1) : Int), (byt s (x + 2) : Int)]
    rw [show 224 + uC s x / 4096 = (byt s x : Int) by omega, show 128 + uC s x / 64 % 64 = (byt s (x + 1) : Int) by omega, show 128 + uC s x % 64 = (byt s (x + 2) : Int) by omega]
  · obtain ⟨a, b, c, d, d2, d3, e, e2, f, g⟩ := h1
    refine ⟨by omega, ?_⟩
    rw [if_neg (by omega), if_neg (by omega), if_neg (by omega), g]
    show _ = [(byt s x : Int), (byt s (x + 1) : Int), (byt s (x + 2) : Int), (byt s (x + 3) : Int)]
    rw [show 240 + uC s x / 262144 = (byt s x : Int) by omega, show 128 + uC s x / 4096 % 64 = (byt s (x + 1) : Int) by omega, show 128 + uC s x / 64 % 64 = (byt s (x + 2) : Int) by omega, show 128 + uC s x % 64 = (byt s (x + 3) : Int) by omega]
/-- Where a character's encoding lies, the unit is that character. -/
theorem unit_enc (s : ByteArray) (x : Nat) (c : Int) (h : okC c) (hx : x + (encI c).length ≤ s.size) (hb : bytsAt s x (encI c).length = encI c) : uC s x = c ∧ uN s x = (encI c).length := by
  unfold okC at h
  have hd := dec_eq s x
  unfold encI at hx hb ⊢
  by_cases h1 : c < 128
  · rw [if_pos h1] at hx hb ⊢
    have e0 : (byt s x : Int) = c := by injection hb
    rw [dec_ascii _ _ _ _ _ (by omega)] at hd
    have := uC_of s x _ _ hd (by omega)
    exact ⟨by omega, this.2⟩
  rw [if_neg h1] at hx hb ⊢
  by_cases h2 : c < 2048
  · rw [if_pos h2] at hx hb ⊢
    have hb : [(byt s x : Int), (byt s (x + 1) : Int)] = [192 + c / 64, 128 + c % 64] := hb
    injection hb with e0 hb; injection hb with e1 hb
    simp only [List.length_cons, List.length_nil] at hx
    rw [dec_two _ _ _ _ _ (by omega) (by omega) (by omega) (by omega) (by omega)] at hd
    have := uC_of s x _ _ hd (by omega)
    exact ⟨by omega, this.2⟩
  rw [if_neg h2] at hx hb ⊢
  by_cases h3 : c < 65536
  · rw [if_pos h3] at hx hb ⊢
    have hb : [(byt s x : Int), (byt s (x + 1) : Int), (byt s (x + 2) : Int)] = [224 + c / 4096, 128 + c / 64 % 64, 128 + c % 64] := hb
    injection hb with e0 hb; injection hb with e1 hb; injection hb with e2 hb
    simp only [List.length_cons, List.length_nil] at hx
    rw [dec_three _ _ _ _ _ (by omega) (by omega) (by omega) (by omega) (by omega) (by omega) (by omega)] at hd
    have := uC_of s x _ _ hd (by omega)
    exact ⟨by omega, this.2⟩
  rw [if_neg h3] at hx hb ⊢
  have hb : [(byt s x : Int), (byt s (x + 1) : Int), (byt s (x + 2) : Int), (byt s (x + 3) : Int)] = [240 + c / 262144, 128 + c / 4096 % 64, 128 + c / 64 % 64, 128 + c % 64] := hb
  injection hb with e0 hb; injection hb with e1 hb; injection hb with e2 hb; injection hb with e3 hb
  simp only [List.length_cons, List.length_nil] at hx
  rw [dec_four _ _ _ _ _ (by omega) (by omega) (by omega) (by omega) (by omega) (by omega) (by omega) (by omega)] at hd
  have := uC_of s x _ _ hd (by omega)
  exact ⟨by omega, this.2⟩

theorem bytsAt_len (s : ByteArray) (x n : Nat) : (bytsAt s x n).length = n := by simp [bytsAt]
theorem ext_list {s t : ByteArray} (hs : s.size = t.size) (h : ∀ i, i < s.size → byt s i = byt t i) : s.toList = t.toList := by
  rw [Lib.toList_data, Lib.toList_data]
  apply List.ext_getElem
  · rw [← Lib.size_eq, ← Lib.size_eq]; exact hs
  · intro i h1 h2
    have := h i (by rw [Lib.size_eq]; exact h1)
    unfold byt at this
    rw [get!_eq, get!_eq, List.getD_eq_getElem?_getD, List.getD_eq_getElem?_getD, List.getElem?_eq_getElem h1, List.getElem?_eq_getElem h2] at this
    exact UInt8.toNat_inj.1 this
theorem byt_str (l : List Int) (i : Nat) (h : i < l.length) (hl : ∀ x ∈ l, 0 ≤ x ∧ x < 256) : (byt (strOfNums l) i : Int) = l.getD i 0 := by
  unfold byt
  rw [get!_eq, strOfNums_data, List.getD_eq_getElem?_getD, List.getD_eq_getElem?_getD, List.getElem?_map, List.getElem?_eq_getElem h]
  have := hl _ (List.getElem_mem h)
  show (((UInt8.ofNat (l[i]).toNat).toNat : Nat) : Int) = l[i]
  rw [UInt8.toNat_ofNat']
  omega
theorem getD_bytsAt (s : ByteArray) (x n i : Nat) (h : i < n) : (bytsAt s x n).getD i 0 = (byt s (x + i) : Int) := by
  unfold bytsAt
  rw [List.getD_eq_getElem?_getD, List.getElem?_map, List.getElem?_eq_getElem (by simpa using h)]
  simp
theorem piece_enc (s : ByteArray) (x : Nat) (h : 0 ≤ uC s x) (hx : x < s.size) : (strOfNums (encI (uC s x))).toList = (s.extract x (x + uN s x)).toList := by
  obtain ⟨h1, h2⟩ := enc_unit s x h
  have h3 := uN_le s x hx
  have hb := encI_byte _ h1
  rw [h2] at hb ⊢
  apply ext_list
  · rw [strOfNums_size, bytsAt_len, size_extract _ _ _ h3]; omega
  · intro i hi
    rw [strOfNums_size, bytsAt_len] at hi
    have := byt_str _ i (by rw [bytsAt_len]; exact hi) hb
    rw [getD_bytsAt _ _ _ _ hi] at this
    rw [byt_extract _ _ _ _ (by omega) h3]
    omega
/-- A bad byte begins no encoding. -/
theorem bad_piece (s : ByteArray) (x n : Nat) (h : uC s x < 0) (h1 : 1 ≤ n) (hx : x + n ≤ s.size) : uC (s.extract x (x + n)) 0 < 0 := by
  have hsz := size_extract s x (x + n) hx
  rcases uC_range (s.extract x (x + n)) 0 with h2 | h2
  · omega
  exfalso
  by_cases h3 : 2 ≤ uN (s.extract x (x + n)) 0
  · have hle := uN_le (s.extract x (x + n)) 0 (by omega)
    have e := dec_prefix (s.extract x (x + n)) s 0 x h3 (fun k hk => by rw [byt_extract _ _ _ _ (by omega) hx, Nat.zero_add]) (by omega)
    have : uC (s.extract x (x + n)) 0 = uC s x := by unfold uC; rw [e]
    omega
  · have hp := uN_pos (s.extract x (x + n)) 0
    have e0 : byt (s.extract x (x + n)) 0 = byt s x := by rw [byt_extract _ _ _ _ (by omega) hx]; rfl
    rcases uC_cases (s.extract x (x + n)) 0 with h4 | h4 | h4 | h4 | h4
    · rcases uC_cases s x with h5 | h5 | h5 | h5 | h5 <;> omega
    all_goals omega
end Go.Proofs.YtfhnfhgpaoddbaaDoor.Pu
