/- What the law ScreenTypes reaches of this seat's own texts, merged; what nothing uses is left out. -/
import Derived.Test.YtgdpnmikcopkmaaDoorZScreenTypes0
section
namespace Go.Proofs.YtgdpnmikcopkmaaDoor.Mu
open Go Go.Lib
def byt (s : ByteArray) (i : Nat) : Nat := (s.get! i).toNat
theorem byt_lt (s : ByteArray) (i : Nat) : byt s i < 256 := (s.get! i).toNat_lt
theorem dec_ascii (n b0 b1 b2 b3 : Nat) (h : b0 < 128) : decodeN n b0 b1 b2 b3 = (b0,1) := by unfold decodeN;rw [if_pos h]
theorem dec_two (n b0 b1 b2 b3 : Nat) (h0 : 192 ≤ b0) (h1 : b0 < 224) (hn : 1 < n) (h2 : b1 / 64 = 2) (hc : 128 ≤ b0 % 32 * 64 + b1 % 64) : decodeN n b0 b1 b2 b3 = (b0 % 32 * 64 + b1 % 64,2) := by
 unfold decodeN;rw [if_neg (by omega),if_pos ⟨by omega,hn,h2⟩,if_pos hc]
theorem dec_three (n b0 b1 b2 b3 : Nat) (h0 : 224 ≤ b0) (h1 : b0 < 240) (hn : 2 < n) (h2 : b1 / 64 = 2) (h3 : b2 / 64 = 2) (hc : 2048 ≤ b0 % 16 * 4096 + b1 % 64 * 64 + b2 % 64)
  (hs : b0 % 16 * 4096 + b1 % 64 * 64 + b2 % 64 < 55296 ∨ 57344 ≤ b0 % 16 * 4096 + b1 % 64 * 64 + b2 % 64) : decodeN n b0 b1 b2 b3 = (b0 % 16 * 4096 + b1 % 64 * 64 + b2 % 64,3) := by
 unfold decodeN;rw [if_neg (by omega),if_neg (by omega),if_pos ⟨by omega,⟨by omega,h2⟩,hn,h3⟩,if_pos ⟨hc,by omega⟩]
theorem dec_four (n b0 b1 b2 b3 : Nat) (h0 : 240 ≤ b0) (h1 : b0 < 248) (hn : 3 < n) (h2 : b1 / 64 = 2) (h3 : b2 / 64 = 2) (h4 : b3 / 64 = 2) (hc : 65536 ≤ b0 % 8 * 262144 + b1 % 64 * 4096 + b2 % 64 * 64 + b3 % 64)
  (hs : b0 % 8 * 262144 + b1 % 64 * 4096 + b2 % 64 * 64 + b3 % 64 ≤ 1114111) : decodeN n b0 b1 b2 b3 = (b0 % 8 * 262144 + b1 % 64 * 4096 + b2 % 64 * 64 + b3 % 64,4) := by
 unfold decodeN;rw [if_neg (by omega),if_neg (by omega),if_neg (by omega),if_pos ⟨by omega,⟨by omega,h2⟩,⟨by omega,h3⟩,hn,h4⟩,if_pos ⟨hc,by omega⟩]
/-- What a decoding can be. -/
theorem dec_cases (n b0 b1 b2 b3 : Nat) (hb : b0 < 256) :
  (b0 < 128 ∧ decodeN n b0 b1 b2 b3 = (b0,1)) ∨
  (128 ≤ b0 ∧ decodeN n b0 b1 b2 b3 = (65533,1)) ∨
  (192 ≤ b0 ∧ b0 < 224 ∧ 1 < n ∧ b1 / 64 = 2 ∧ 128 ≤ b0 % 32 * 64 + b1 % 64 ∧ decodeN n b0 b1 b2 b3 = (b0 % 32 * 64 + b1 % 64,2)) ∨
  (224 ≤ b0 ∧ b0 < 240 ∧ 2 < n ∧ b1 / 64 = 2 ∧ b2 / 64 = 2 ∧ 2048 ≤ b0 % 16 * 4096 + b1 % 64 * 64 + b2 % 64 ∧ (b0 % 16 * 4096 + b1 % 64 * 64 + b2 % 64 < 55296 ∨ 57344 ≤ b0 % 16 * 4096 + b1 % 64 * 64 + b2 % 64) ∧
   decodeN n b0 b1 b2 b3 = (b0 % 16 * 4096 + b1 % 64 * 64 + b2 % 64,3)) ∨
  (240 ≤ b0 ∧ b0 < 248 ∧ 3 < n ∧ b1 / 64 = 2 ∧ b2 / 64 = 2 ∧ b3 / 64 = 2 ∧ 65536 ≤ b0 % 8 * 262144 + b1 % 64 * 4096 + b2 % 64 * 64 + b3 % 64 ∧ b0 % 8 * 262144 + b1 % 64 * 4096 + b2 % 64 * 64 + b3 % 64 ≤ 1114111 ∧
   decodeN n b0 b1 b2 b3 = (b0 % 8 * 262144 + b1 % 64 * 4096 + b2 % 64 * 64 + b3 % 64,4)) := by
 by_cases h1 : b0 < 128
 ·exact .inl ⟨h1,dec_ascii _ _ _ _ _ h1⟩
 ·refine .inr ?_
  by_cases h2 : b0 / 32 = 6 ∧ (1 < n ∧ b1 / 64 = 2)
  ·by_cases hc : 128 ≤ b0 % 32 * 64 + b1 % 64
   ·exact .inr (.inl ⟨by omega,by omega,h2.2.1,h2.2.2,hc,dec_two _ _ _ _ _ (by omega) (by omega) h2.2.1 h2.2.2 hc⟩)
   ·exact .inl ⟨by omega,by unfold decodeN;rw [if_neg h1,if_pos h2,if_neg hc]⟩
  ·by_cases h3 : b0 / 16 = 14 ∧ (1 < n ∧ b1 / 64 = 2) ∧ (2 < n ∧ b2 / 64 = 2)
   ·by_cases hc : b0 % 16 * 4096 + b1 % 64 * 64 + b2 % 64 ≥ 2048 ∧ (b0 % 16 * 4096 + b1 % 64 * 64 + b2 % 64 < 55296 ∨ (57344 ≤ b0 % 16 * 4096 + b1 % 64 * 64 + b2 % 64 ∧ b0 % 16 * 4096 + b1 % 64 * 64 + b2 % 64 ≤ 1114111))
    ·exact .inr (.inr (.inl ⟨by omega,by omega,h3.2.2.1,h3.2.1.2,h3.2.2.2,hc.1,by omega,dec_three _ _ _ _ _ (by omega) (by omega) h3.2.2.1 h3.2.1.2 h3.2.2.2 hc.1 (by omega)⟩))
    ·exact .inl ⟨by omega,by unfold decodeN;rw [if_neg h1,if_neg h2,if_pos h3,if_neg hc]⟩
   ·by_cases h4 : b0 / 8 = 30 ∧ (1 < n ∧ b1 / 64 = 2) ∧ (2 < n ∧ b2 / 64 = 2) ∧ (3 < n ∧ b3 / 64 = 2)
    ·by_cases hc : b0 % 8 * 262144 + b1 % 64 * 4096 + b2 % 64 * 64 + b3 % 64 ≥ 65536 ∧ (b0 % 8 * 262144 + b1 % 64 * 4096 + b2 % 64 * 64 + b3 % 64 < 55296 ∨ (57344 ≤ b0 % 8 * 262144 + b1 % 64 * 4096 + b2 % 64 * 64 + b3 % 64 ∧ b0 % 8 * 262144 + b1 % 64 * 4096 + b2 % 64 * 64 + b3 % 64 ≤ 1114111))
     ·exact .inr (.inr (.inr ⟨by omega,by omega,h4.2.2.2.1,h4.2.1.2,h4.2.2.1.2,h4.2.2.2.2,hc.1,by omega,dec_four _ _ _ _ _ (by omega) (by omega) h4.2.2.2.1 h4.2.1.2 h4.2.2.1.2 h4.2.2.2.2 hc.1 (by omega)⟩))
     ·exact .inl ⟨by omega,by unfold decodeN;rw [if_neg h1,if_neg h2,if_neg h3,if_pos h4,if_neg hc]⟩
    ·exact .inl ⟨by omega,by unfold decodeN;rw [if_neg h1,if_neg h2,if_neg h3,if_neg h4]⟩
theorem dec_cont (n b0 b1 b2 b3 : Nat) (h : b0 / 64 = 2) : decodeN n b0 b1 b2 b3 = (65533,1) := by
 rcases dec_cases n b0 b1 b2 b3 (by omega) with h1 | h1 | h1 | h1 | h1
 ·omega
 ·exact h1.2
 all_goals omega
/-- Its bytes. -/
def uN (s : ByteArray) (i : Nat) : Nat := (Utf8.decode s i).2
/-- Its character,-1 of a bad one. -/
def uC (s : ByteArray) (i : Nat) : Int := if (Utf8.decode s i).1 = 65533 ∧ (Utf8.decode s i).2 = 1 then -1 else ((Utf8.decode s i).1 : Int)
theorem dec_eq (s : ByteArray) (i : Nat) : Utf8.decode s i = decodeN (s.size - i) (byt s i) (byt s (i + 1)) (byt s (i + 2)) (byt s (i + 3)) := decode_at s i
theorem uN_pos (s : ByteArray) (i : Nat) : 1 ≤ uN s i := by unfold uN;rw [dec_eq];exact decodeN_ge1 _ _ _ _ _
theorem uN_le4 (s : ByteArray) (i : Nat) : uN s i ≤ 4 := by unfold uN;rw [dec_eq];exact decodeN_le4 _ _ _ _ _
theorem uN_le (s : ByteArray) (i : Nat) (h : i < s.size) : i + uN s i ≤ s.size := by
 have := decodeN_le_n (s.size - i) (byt s i) (byt s (i + 1)) (byt s (i + 2)) (byt s (i + 3)) (by omega)
 rw [← dec_eq] at this
 unfold uN
 omega
/-- Behind the first byte of a unit of several,each byte goes on an encoding. -/
theorem inner_cont (s : ByteArray) (j i : Nat) (h1 : j < i) (h2 : i < j + uN s j) : byt s i / 64 = 2 := by
 have hc := dec_cases (s.size - j) (byt s j) (byt s (j + 1)) (byt s (j + 2)) (byt s (j + 3)) (byt_lt s j)
 unfold uN at h2
 rw [dec_eq] at h2
 rcases hc with h | h | h | h | h
 ·rw [h.2] at h2;simp only at h2;omega
 ·rw [h.2] at h2;simp only at h2;omega
 ·rw [h.2.2.2.2.2] at h2;simp only at h2
  obtain rfl : i = j + 1 := by omega
  exact h.2.2.2.1
 ·rw [h.2.2.2.2.2.2.2] at h2;simp only at h2
  rcases (by omega : i = j + 1 ∨ i = j + 2) with rfl | rfl
  ·exact h.2.2.2.1
  ·exact h.2.2.2.2.1
 ·rw [h.2.2.2.2.2.2.2.2] at h2;simp only at h2
  rcases (by omega : i = j + 1 ∨ i = j + 2 ∨ i = j + 3) with rfl | rfl | rfl
  ·exact h.2.2.2.1
  ·exact h.2.2.2.2.1
  ·exact h.2.2.2.2.2.1
theorem cont_one (s : ByteArray) (i : Nat) (h : byt s i / 64 = 2) : uN s i = 1 ∧ uC s i = -1 := by
 have e : Utf8.decode s i = (65533,1) := by rw [dec_eq];exact dec_cont _ _ _ _ _ h
 unfold uN uC
 rw [e]
 simp
/-- No two encodings overlap. -/
theorem inner_one (s : ByteArray) (j i : Nat) (h1 : j < i) (h2 : i < j + uN s j) : uN s i = 1 := (cont_one s i (inner_cont s j i h1 h2)).1
def Bd (s : ByteArray) (i : Nat) : Prop := i ≤ s.size ∧ ∀ j,j < i → j + uN s j ≤ i
theorem bd_zero (s : ByteArray) : Bd s 0 := ⟨Nat.zero_le _,fun j h => by omega⟩
theorem bd_size (s : ByteArray) : Bd s s.size := ⟨Nat.le_refl _,fun j h => uN_le s j h⟩
theorem bd_next (s : ByteArray) (i : Nat) (h : Bd s i) (hi : i < s.size) : Bd s (i + uN s i) := by
 refine ⟨uN_le s i hi,fun j hj => ?_⟩
 rcases Nat.lt_trichotomy j i with h1 | h1 | h1
 ·have := h.2 j h1;omega
 ·subst h1;omega
 ·have := inner_one s i j h1 hj;omega
theorem not_bd_inner (s : ByteArray) (i k : Nat) (h1 : i < k) (h2 : k < i + uN s i) : ¬ Bd s k := fun h => by have := h.2 i h1;omega
/-- What begins a unit of several bytes is a boundary. -/
theorem bd_long (s : ByteArray) (i : Nat) (hi : i < s.size) (h : 2 ≤ uN s i) : Bd s i := by
 refine ⟨by omega,fun j hj => ?_⟩
 by_cases h2 : i < j + uN s j
 ·have := inner_one s j i hj h2;omega
 ·omega
/-- What is no boundary lies within just one unit. -/
theorem within (s : ByteArray) (i : Nat) (hi : i ≤ s.size) (h : ¬ Bd s i) : ∃ j,j < i ∧ i < j + uN s j ∧ Bd s j ∧ i ≤ j + 3 := by
 have : ¬ ∀ j,j < i → j + uN s j ≤ i := fun h2 => h ⟨hi,h2⟩
 simp only [Classical.not_forall] at this
 obtain ⟨j,hj,hj2⟩ := this
 have h4 := uN_le4 s j
 exact ⟨j,hj,by omega,bd_long s j (by omega) (by omega),by omega⟩
/-- A unit's bytes decide it: in another text that has the same bytes,it is the same. -/
theorem dec_prefix (s t : ByteArray) (i j : Nat) (h2 : 2 ≤ uN s i) (hs : ∀ k,k < uN s i → byt t (j + k) = byt s (i + k)) (hsz : j + uN s i ≤ t.size) : Utf8.decode t j = Utf8.decode s i := by
 have hc := dec_cases (s.size - i) (byt s i) (byt s (i + 1)) (byt s (i + 2)) (byt s (i + 3)) (byt_lt s i)
 unfold uN at h2 hs hsz
 rw [dec_eq] at h2 hs hsz
 rw [dec_eq s i,dec_eq t j]
 rcases hc with h | h | h | h | h
 ·rw [h.2] at h2;simp only at h2;omega
 ·rw [h.2] at h2;simp only at h2;omega
 ·obtain ⟨h0,h1,_,h3,h4,e⟩ := h
  rw [e] at hs hsz ⊢
  simp only at hs hsz
  have e0 := hs 0 (by omega);have e1 := hs 1 (by omega)
  rw [Nat.add_zero,Nat.add_zero] at e0
  rw [← e0,← e1] at h4 ⊢
  rw [← e0] at h0 h1
  rw [← e1] at h3
  exact dec_two _ _ _ _ _ h0 h1 (by omega) h3 h4
 ·obtain ⟨h0,h1,_,h3,h5,h4,h6,e⟩ := h
  rw [e] at hs hsz ⊢
  simp only at hs hsz
  have e0 := hs 0 (by omega);have e1 := hs 1 (by omega);have e2 := hs 2 (by omega)
  rw [Nat.add_zero,Nat.add_zero] at e0
  rw [← e0,← e1,← e2] at h4 h6 ⊢
  rw [← e0] at h0 h1
  rw [← e1] at h3
  rw [← e2] at h5
  exact dec_three _ _ _ _ _ h0 h1 (by omega) h3 h5 h4 h6
 ·obtain ⟨h0,h1,_,h3,h5,h7,h4,h6,e⟩ := h
  rw [e] at hs hsz ⊢
  simp only at hs hsz
  have e0 := hs 0 (by omega);have e1 := hs 1 (by omega);have e2 := hs 2 (by omega);have e3 := hs 3 (by omega)
  rw [Nat.add_zero,Nat.add_zero] at e0
  rw [← e0,← e1,← e2,← e3] at h4 h6 ⊢
  rw [← e0] at h0 h1
  rw [← e1] at h3
  rw [← e2] at h5
  rw [← e3] at h7
  exact dec_four _ _ _ _ _ h0 h1 (by omega) h3 h5 h7 h4 h6
theorem decodeGo_extract (s : ByteArray) (pos : Nat) (h : pos < s.size) : decodeGo (s.extract pos s.size) = Utf8.decode s pos := by
 have hx : (s.extract pos s.size).data.toList = s.data.toList.drop pos := by
  rw [extract_data,List.take_of_length_le (by rw [List.length_drop,← size_eq];omega)]
 have hsz : (s.extract pos s.size).size ≠ 0 := by rw [size_eq,hx,List.length_drop,← size_eq];omega
 unfold decodeGo
 rw [if_neg hsz,← decodeL_drop s pos,← hx]
 rfl
theorem get!_eq (s : ByteArray) (i : Nat) : s.get! i = s.data.toList.getD i 0 := by
 show s.data[i]! = _
 simp [Array.getElem!_eq_getD]
 rfl
theorem byt_extract (s : ByteArray) (a b i : Nat) (h : a + i < b) (_hb : b ≤ s.size) : byt (s.extract a b) i = byt s (a + i) := by
 unfold byt
 rw [get!_eq,get!_eq,extract_data,List.getD_eq_getElem?_getD,List.getD_eq_getElem?_getD,List.getElem?_take,if_pos (by omega),List.getElem?_drop]
theorem byt_append_left (s t : ByteArray) (i : Nat) (h : i < s.size) : byt (s ++ t) i = byt s i := by
 unfold byt
 rw [get!_eq,get!_eq,List.getD_eq_getElem?_getD,List.getD_eq_getElem?_getD]
 have e : (s ++ t).data.toList = s.data.toList ++ t.data.toList := by simp
 rw [e,List.getElem?_append_left (by rw [← size_eq];exact h)]
theorem size_extract (s : ByteArray) (a b : Nat) (hb : b ≤ s.size) : (s.extract a b).size = b - a := by simp;omega
end Go.Proofs.YtgdpnmikcopkmaaDoor.Mu
end
section
namespace Go.Proofs.YtgdpnmikcopkmaaDoor.U
open Go.RowKit Go.Shelf Go.Proofs.YtgdpnmikcopkmaaDoor.Mu Go.Proofs.YtgdpnmikcopkmaaDoor.Rf Go.Proofs.YtgdpnmikcopkmaaDoorW.PrintWords Go.Proofs.YtgdpnmikcopkmaaDoorW.PrintLast Go.Proofs.YtgdpnmikcopkmaaDoorW.PrintMore
attribute [local go_sem] Oper.semAt_some
set_option linter.unusedVariables false
set_option linter.unusedSimpArgs false
def uAt (s : ByteArray) (i : Nat) : S83 := ⟨uC s i,(uN s i : Int)⟩
def walkL (s : ByteArray) : Nat → Nat → List (Int × S83)
 | 0,_ => []
 | k + 1,i => if i < s.size then ((i : Int),uAt s i) :: walkL s k (i + uN s i) else []
theorem walkL_length (s : ByteArray) : ∀ k i,(walkL s k i).length ≤ k
 | 0,_ => by simp [walkL]
 | k + 1,i => by
  unfold walkL
  split
  ·have := walkL_length s k (i + uN s i);simp;omega
  ·simp
theorem first_at (s : ByteArray) (i : Nat) (h : i < s.size) : unit_first.f (s.extract i s.size) = some (uC s i,(uN s i : Int)) := by
 unfold unit_first.f utf8_DecodeRuneInString.f
 rw [decodeGo_extract s i h]
 unfold uC uN
 simp only [Option.bind_some]
 generalize Utf8.decode s i = d
 obtain ⟨c,m⟩ := d
 by_cases hc : c = 65533
 ·by_cases hm : m = 1
  ·subst hc;subst hm;simp
  ·have : ¬ ((m : Int) = 1) := by omega
   simp [hc,hm,this]
 ·have : ¬ ((c : Int) = 65533) := by omega
  simp [hc,this]
/-- An append to a row that a variable holds turns no cells of the iterator's. -/
theorem appended_keepB {W w1 : World} {B outB : Nat} {v v' : Value} {tmp : Obj} {Pr : Nat → Prop} (hgrow : (W.alloc tmp).grownBy w1 v.ownBlock) (hout : outB < B) (hPr : ∀ k, Pr k → k ≠ outB ∧ some k ≠ v.ownBlock)
    (hv : ∀ g, v.ownBlock = some g → g < B) : ∀ (k : Nat) (o : Obj), (Pr k ∨ B ≤ k) → W.heap[k]? = some o → o.isCells = true → (w1.setCell ⟨outB, 0, none⟩ v').heap[k]? = some o := by
  intro k o hk ho _
  have h1 : k ≠ outB := by rcases hk with hk | hk
                           · exact (hPr k hk).1
                           · omega
  have h2 : some k ≠ v.ownBlock := by
    rcases hk with hk | hk
    · exact (hPr k hk).2
    · intro e; have := hv k e.symm; omega
  have hlt := (Array.getElem?_eq_some_iff.1 ho).1
  exact (Below.heap_setCell w1 ⟨outB, 0, none⟩ v' k h1).trans ((hgrow.block k (by simp; omega) h2).trans ((Below.heap_alloc W tmp k hlt).trans ho))
end Go.Proofs.YtgdpnmikcopkmaaDoor.U
end
section
namespace Go.Proofs.YtgdpnmikcopkmaaDoor.U
open Go.RowKit Go.Shelf Go.Proofs.YtgdpnmikcopkmaaDoorW.PrintWords Go.Proofs.YtgdpnmikcopkmaaDoorW.PrintLast Go.Proofs.YtgdpnmikcopkmaaDoorW.PrintMore
set_option linter.unusedVariables false
set_option linter.unusedSimpArgs false
theorem reads_int_of_C {k : IntKind} {w : World} {A : Option Addr} {n : Nat} {l : List Int} (h : (Kd.int k).C w A n l) : ReadsInt w k A n l :=
 Kd.reads_of_C (enc := Value.int k) (d := (0 : Int)) (h1 := fun _ => rfl) h
set_option maxRecDepth 100000 in
set_option maxHeartbeats 2000000 in
theorem within1_calls (l : List Int) (c : Int) (A : Option Addr) (cp b0 b1 : Nat) (W : World) (i : Nat) (hi : 2 * i + 1 < l.length) (hl : l.length ≤ 100000) (h0 : W.cell? ⟨b0,0,none⟩ = some (.slice A l.length cp)) (h1 : W.cell? ⟨b1,0,none⟩ = some (.int .i32 c)) (hr : ReadsInt W .i32 A l.length l) :
  Calls Tryd.prog 105 #[.int .i64 i,.pointer (some ⟨b0,0,none⟩),.pointer (some ⟨b1,0,none⟩)] W fun e w' => e = .returned (.bool (decide (rd l (2 * i + 1) ≥ c))) ∧ ∃ q,w' = W.drewN q := by
 obtain ⟨ad,rfl,hc⟩ := hr.at_ (2 * i + 1) (by omega) (by omega)
 have e1 : (2 : Int) * (i : Int) + 1 < (l.length : Int) := by omega
 have e2 : (0 : Int) ≤ 2 * (i : Int) + 1 := by omega
 rw [show ((2 : Int) * i + 1).toNat = 2 * i + 1 by omega] at hc
 rw [show ad.add (2 * i + 1) = ⟨ad.block,ad.off + (2 * i + 1),none⟩ by simp [Addr.add]] at hc
 have hw1 : IntKind.i64.wrap (2 * (i : Int)) = 2 * (i : Int) := (i64_w _).trans (by unfold wrap64;omega)
 have hw2 : IntKind.i64.wrap (2 * (i : Int) + 1) = 2 * (i : Int) + 1 := (i64_w _).trans (by unfold wrap64;omega)
 have ht : (2 * (i : Int) + 1).toNat = 2 * i + 1 := by omega
 go_enter Tryd.func105,Tryd.ntmps105
 go_wp2_with (fail)
 go_quiet (fail)
 go_wp2
 go_ret
 exact ⟨rfl,nq,rfl⟩
set_option maxRecDepth 100000 in
set_option maxHeartbeats 4000000 in
theorem search_calls (g : Nat) (cb : Array Value) (n : Nat) (p : Nat → Bool) (w : World) (eg : ∀ args w,(callFunc g args).run Tryd.prog w = .ok (.enter g args) w) (hn : n < 1000000)
  (hf : ∀ (m i : Nat),i < n → Calls Tryd.prog g (#[.int .i64 i] ++ cb) (w.drewN m) fun e w' => e = .returned (.bool (p i)) ∧ ∃ q,w' = w.drewN q)
  (hmono : ∀ a b,a ≤ b → b < n → p a = true → p b = true) :
  Calls Tryd.prog 104 #[.int .i64 n,.func (.func g) #[] cb] w fun e w' => ∃ i : Nat,e = .returned (.int .i64 i) ∧ i ≤ n ∧ (∀ t,t < i → p t = false) ∧ (∀ t,i ≤ t → t < n → p t = true) ∧ ∃ q,w' = w.drewN q := by
 go_enter Tryd.func104,Tryd.ntmps104
 go_wp2
 go_loopw [5,6] (fun v5 v6 wr => ∃ lo hi q : Nat,v5 = .int .i64 lo ∧ v6 = .int .i64 hi ∧ lo ≤ hi ∧ hi ≤ n ∧ wr = w.drewN q ∧ Hid ((∀ t,t < lo → p t = false) ∧ (∀ t,hi ≤ t → t < n → p t = true)))
  (fun v5 v6 _ => (intOf v6).toNat - (intOf v5).toNat)
 case atStart => exact ⟨0,n,0,rfl,rfl,Nat.zero_le _,Nat.le_refl _,rfl,Lib.hid ⟨fun t h => absurd h (Nat.not_lt_zero _),fun t h1 h2 => by omega⟩⟩
 case round =>
  obtain ⟨lo,hi,q,rfl,rfl,hlh,hhn,rfl,hI⟩ := hrel
  by_cases hlt : lo < hi
  ·have hlt' : (lo : Int) < (hi : Int) := by omega
   go_wp2_with (fail)
   obtain ⟨m,hm⟩ : ∃ m : Nat,((lo : Int) + (hi : Int)) / 2 = m := ⟨(lo + hi) / 2,by omega⟩
   rw [hm]
   refine (hf q m (by omega)).mono ?_
   rintro e w1 ⟨rfl,q1,rfl⟩
   have hm64 : IntKind.i64.wrap ((m : Int) + 1) = (m : Int) + 1 := (i64_w _).trans (by unfold wrap64;omega)
   cases hp : p m
   ·have hlow : ∀ t,t < m + 1 → p t = false := by
     intro t ht
     by_cases h : t < lo
     ·exact hI.out.1 t h
     ·cases hpt : p t with
      | false => rfl
      | true => have h5 := hmono t m (by omega) (by omega) hpt;rw [hp] at h5;cases h5
    have hup := hI.out.2
    go_wp2
    go_roundw
    case rel => exact ⟨m + 1,hi,q1,by simp,rfl,by omega,hhn,rfl,Lib.hid ⟨hlow,hup⟩⟩
    case measure => simp [intOf];omega
   ·go_wp2
    go_roundw
    case rel => exact ⟨lo,m,q1,rfl,rfl,by omega,by omega,rfl,Lib.hid ⟨hI.out.1,fun t h1 h2 => hmono m t h1 h2 hp⟩⟩
    case measure => simp [intOf];omega
  ·have hge : ¬ ((lo : Int) < (hi : Int)) := by omega
   go_wp2_with (fail)
   go_ret
   obtain rfl : lo = hi := by omega
   exact ⟨lo,rfl,hhn,hI.out.1,hI.out.2,q,rfl⟩
theorem boxed_below' {X Y : World} {B : Nat} {t : TypeId} {v : Value} (h : Boxed X B t v) (hb : Below X.heap.size X Y) : Boxed Y B t v := (hb.block B h.lt).trans h
def okTab (l : List Int) : Bool := (List.range l.length).all fun b => (List.range b).all fun a => decide (rd l (a : Int) ≤ rd l (b : Int)) && (decide (a % 2 = 0) || decide (rd l (a : Int) < rd l (b : Int)))
theorem okTab_le {l : List Int} (h : okTab l = true) {a b : Nat} (hab : a < b) (hb : b < l.length) : rd l (a : Int) ≤ rd l (b : Int) ∧ (a % 2 = 1 → rd l (a : Int) < rd l (b : Int)) := by
 unfold okTab at h
 rw [List.all_eq_true] at h
 have h1 := h b (List.mem_range.2 hb)
 rw [List.all_eq_true] at h1
 have h2 := h1 a (List.mem_range.2 hab)
 simp only [Bool.and_eq_true,Bool.or_eq_true,decide_eq_true_eq] at h2
 exact ⟨h2.1,fun ho => by rcases h2.2 with h3 | h3;omega;exact h3⟩
def withinB (l : List Int) (c : Int) : Bool := (List.range (l.length / 2)).any fun k => decide (rd l (2 * (k : Int)) ≤ c) && decide (c ≤ rd l (2 * (k : Int) + 1))
theorem withinB_of {l : List Int} (h : okTab l = true) (c : Int) (i : Nat) (h2 : l.length % 2 = 0) (hi : i ≤ l.length / 2) (hlo : ∀ t,t < i → decide (rd l (2 * (t : Int) + 1) ≥ c) = false) (hup : ∀ t,i ≤ t → t < l.length / 2 → decide (rd l (2 * (t : Int) + 1) ≥ c) = true) :
  withinB l c = (decide (i < l.length / 2) && decide (rd l (2 * (i : Int)) ≤ c)) := by
 rw [Bool.eq_iff_iff]
 unfold withinB
 simp only [List.any_eq_true,List.mem_range,Bool.and_eq_true,decide_eq_true_eq]
 constructor
 ·rintro ⟨k,hk,h3,h4⟩
  have hik : i ≤ k := by
   rcases Nat.lt_or_ge k i with h5 | h5
   ·have := of_decide_eq_false (hlo k h5);omega
   ·exact h5
  rcases Nat.lt_or_ge i k with h5 | h5
  ·exfalso
   have h6 := of_decide_eq_true (hup i (Nat.le_refl _) (by omega))
   have h7 := (okTab_le h (a := 2 * i + 1) (b := 2 * k) (by omega) (by omega)).2 (by omega)
   have e1 : ((2 * i + 1 : Nat) : Int) = 2 * (i : Int) + 1 := by omega
   have e2 : ((2 * k : Nat) : Int) = 2 * (k : Int) := by omega
   rw [e1,e2] at h7
   omega
  ·obtain rfl : i = k := by omega
   exact ⟨hk,h3⟩
 ·rintro ⟨h3,h4⟩
  exact ⟨i,h3,h4,of_decide_eq_true (hup i (Nat.le_refl _) h3)⟩
set_option maxRecDepth 100000 in
set_option maxHeartbeats 4000000 in
theorem within_any (l : List Int) (c : Int) (A : Option Addr) (cp : Nat) (w : World) (hl : l.length ≤ 100000) (h2 : l.length % 2 = 0) (hok : okTab l = true) (hr : ReadsInt w .i32 A l.length l) (hcp : l.length ≤ cp) :
  Calls Tryd.prog 83 #[.slice A l.length cp,.int .i32 c] w fun e w' => e = .returned (.bool (withinB l c)) ∧ Below w.heap.size w w' := by
 have hq : Int.tdiv (l.length : Int) 2 = ((l.length / 2 : Nat) : Int) := by rw [Int.tdiv_eq_ediv_of_nonneg (by omega)];omega
 go_enter Tryd.func83,Tryd.ntmps83
 go_wp2_with (fail)
 obtain ⟨n,hn,hn2⟩ : ∃ n : Nat,((l.length : Int) / 2) = n ∧ n = l.length / 2 := ⟨l.length / 2,by omega,rfl⟩
 rw [hn]
 have b0 := (Boxed.new w 100 (.slice A l.length cp)).alloc (.cells #[.int .i32 c] 21)
 have b1 := Boxed.new (w.alloc (.cells #[.slice A l.length cp] 100)) 21 (.int .i32 c)
 rw [World.size_alloc] at b1
 have hB : Below w.heap.size w ((w.alloc (.cells #[.slice A l.length cp] 100)).alloc (.cells #[.int .i32 c] 21)) := ((Below.refl _ w).alloc (Nat.le_refl _) _).alloc (by simp) _
 generalize (w.alloc (.cells #[.slice A l.length cp] 100)).alloc (.cells #[.int .i32 c] 21) = W2 at b0 b1 hB ⊢
 have hr2 : ReadsInt W2 .i32 A l.length l := hr.below hB
 refine (search_calls 105 #[.pointer (some ⟨w.heap.size,0,none⟩),.pointer (some ⟨w.heap.size + 1,0,none⟩)] n (fun k => decide (rd l (2 * (k : Int) + 1) ≥ c)) W2 (enters_of Tryd.func105 (by kernel_rfl) rfl) (by omega)
  (fun m i hi => ?_) (fun a b hab hb hp => ?_)).mono ?_
 ·have hd : Below W2.heap.size W2 (W2.drewN m) := pw_below_drewN (Below.refl _ _) m
  refine (within1_calls l c A cp w.heap.size (w.heap.size + 1) (W2.drewN m) i (by omega) hl (boxed_below' b0 hd).cell (boxed_below' b1 hd).cell (hr2.below hd)).mono ?_
  rintro e w' ⟨rfl,q,rfl⟩
  exact ⟨rfl,m + q,by rw [World.drewN_drewN]⟩
 ·rcases Nat.lt_or_ge a b with h | h
  ·have h3 := (okTab_le hok (a := 2 * a + 1) (b := 2 * b + 1) (by omega) (by omega)).1
   have e1 : ((2 * a + 1 : Nat) : Int) = 2 * (a : Int) + 1 := by omega
   have e2 : ((2 * b + 1 : Nat) : Int) = 2 * (b : Int) + 1 := by omega
   rw [e1,e2] at h3
   have := of_decide_eq_true hp
   exact decide_eq_true (by omega)
  ·obtain rfl : a = b := by omega
   exact hp
 rintro e w' ⟨i,rfl,hin,hlo,hup,q,rfl⟩
 dsimp only
 have hw : Hid (withinB l c = (decide (i < n) && decide (rd l (2 * (i : Int)) ≤ c))) := Lib.hid (by rw [hn2];exact withinB_of hok c i h2 (by omega) hlo (fun t h3 h4 => hup t h3 (by omega)))
 have hd : Below W2.heap.size W2 (W2.drewN q) := pw_below_drewN (Below.refl _ _) q
 have b0' := boxed_below' b0 hd
 have b1' := boxed_below' b1 hd
 have hr3 := hr2.below hd
 have hB3 := hB.trans (hd.mono hB.size)
 generalize W2.drewN q = W3 at b0' b1' hr3 hB3 ⊢
 have c0 := b0'.cell
 have c1 := b1'.cell
 by_cases hi : i < n
 ·have hi' : decide ((i : Int) < (n : Int)) = true := decide_eq_true (by omega)
  obtain ⟨ad,rfl,hc⟩ := hr3.at_ (2 * i) (by omega) (by omega)
  rw [show ((2 : Int) * i).toNat = 2 * i by omega] at hc
  have hw1 : IntKind.i64.wrap (2 * (i : Int)) = 2 * (i : Int) := (i64_w _).trans (by unfold wrap64;omega)
  clear hn2 hq hin hlo hup
  go_wp2_with (fail)
  go_quiet (fail)
  go_wp2
  have hwv : withinB l c = decide (rd l (2 * (i : Int)) ≤ c) := by rw [hw.out,decide_eq_true hi,Bool.true_and]
  go_ret
  rw [hwv]
  exact ⟨rfl,pw_below_drewN hB3 nq⟩
 ·have hi' : decide ((i : Int) < (n : Int)) = false := decide_eq_false (by omega)
  clear hn2 hq hin hlo hup
  go_wp2_with (fail)
  go_quiet (fail)
  go_wp2
  have hwv : withinB l c = false := by rw [hw.out,decide_eq_false hi,Bool.false_and]
  go_ret
  rw [hwv]
  exact ⟨rfl,pw_below_drewN hB3 nq⟩
def width_within_rune.f (l0 : List Int) (a1 : Int) : Option (Bool) := if l0.length ≤ 100000 ∧ l0.length % 2 = 0 ∧ okTab l0 = true then some (withinB l0 a1) else none
theorem width_within_rune.calls (A0 : Option Addr) (c0 : Nat) (l0 : List Int) (a1 : Int) (r : Bool) (w : World) (hr0 : Kd.C (Kd.int .i32) w A0 l0.length l0) (hc0 : l0.length ≤ c0) (h : width_within_rune.f l0 a1 = some r) :
  Calls Tryd.prog 83 #[.slice A0 l0.length c0,.int .i32 a1] w fun e w' => e = .returned (.bool r) ∧ Below w.heap.size w w' := by
 unfold width_within_rune.f at h
 split at h
 ·rename_i hs
  obtain rfl := Option.some.inj h
  exact within_any l0 a1 A0 c0 w hs.1 hs.2.1 hs.2.2 (reads_int_of_C hr0) hc0
 ·cases h
end Go.Proofs.YtgdpnmikcopkmaaDoor.U
end
section
namespace Go.Proofs.YtgdpnmikcopkmaaDoor.U
open Go.RowKit Go.Proofs.YtgdpnmikcopkmaaDoorW.PrintWords Go.Proofs.YtgdpnmikcopkmaaDoorW.PrintLast Go.Proofs.YtgdpnmikcopkmaaDoorW.PrintMore
attribute [local go_sem] max2_int min2_int max_two min_two max_three min_three max_four min_four   -- for this text's walks alone
set_option linter.unusedVariables false
set_option linter.unusedSimpArgs false
mutual
def width_Class.j0 : Nat → Int → Bool → Option (Int)
 | 0,_,_ => none
 | k + 1,x0,x3 => if x3 = true then (some 5) else (if x0 = 10 then (some 1) else (if x0 < 32 then (width_Class.j1 k x0 true) else (if x0 ≥ 127 then (width_Class.j1 k x0 (decide (x0 ≤ 159))) else (width_Class.j1 k x0 false))))
def width_Class.j1 : Nat → Int → Bool → Option (Int)
 | 0,_,_ => none
 | k + 1,x0,x21 => if x21 = true then (some 2) else ((width_marks.f).bind fun t144 => ((width_within_rune.f t144 x0).bind fun t147 => (if t147 = true then (some 3) else ((width_wides.f).bind fun t148 => ((width_within_rune.f t148 x0).bind fun t151 => (if t151 = true then (some 4) else (some 0)))))))
end
def width_Class.f (k : Nat) (a0 : Int) : Option (Int) := if a0 < 0 then (width_Class.j0 k a0 true) else (if a0 > 1114111 then (width_Class.j0 k a0 true) else (if a0 ≥ 55296 then (width_Class.j0 k a0 (decide (a0 ≤ 57343))) else (width_Class.j0 k a0 false)))
set_option maxHeartbeats 8000000 in
set_option maxRecDepth 100000 in
theorem width_Class.calls (k : Nat) (a0 : Int) (r : Int) (w : World) (h : width_Class.f k a0 = some r) :
  Calls Tryd.prog 66 #[.int .i32 a0] w fun e w' => e = .returned (.int .i64 r) ∧ Below w.heap.size w w' := by
 have HB := Aside0.mk (Below.refl w.heap.size w)
 have H : (if a0 < 0 then (width_Class.j0 k a0 true) else (if a0 > 1114111 then (width_Class.j0 k a0 true) else (if a0 ≥ 55296 then (width_Class.j0 k a0 (decide (a0 ≤ 57343))) else (width_Class.j0 k a0 false)))) = some r := h
 clear h
 have HC2 := Aside0.mk H
 clear H
 go_enter Tryd.func66,Tryd.ntmps66
 go_upto_region 1 with (fail)
 go_cut [3] (fun v3 wc => ∃ (kq : Nat) (x3_1 : Bool),v3 = .bool x3_1 ∧ Aside0 (width_Class.j0 kq a0 x3_1 = some r) ∧ Aside0 (kq ≤ k) ∧ Aside0 (Below w.heap.size w wc))
 case first =>
  have H := HC2.out
  clear HC2
  by_cases c3 : a0 < 0
  ·rw [if_pos c3] at H
   have c3b0 : decide (a0 < 0) = true := decide_eq_true c3
   clear c3
   (first | rw [c3b0] | (simp only [i64_w,i32_w];rw [c3b0]) | skip)
   have H' := Aside0.mk H
   clear H
   go_wp2
   go_meet
   case rel => exact ⟨_,(true),au7,H',⟨by first | omega | exact Nat.le_refl _⟩,⟨au0⟩⟩
  ·rw [if_neg c3] at H
   have c3b0 : decide (a0 < 0) = false := decide_eq_false c3
   clear c3
   (first | rw [c3b0] | (simp only [i64_w,i32_w];rw [c3b0]) | skip)
   by_cases c4 : a0 > 1114111
   ·rw [if_pos c4] at H
    have c4b0 : decide (1114111 < a0) = true := decide_eq_true c4
    clear c4
    have H' := Aside0.mk H
    clear H
    go_wp2
    go_meet
    case rel => exact ⟨_,(true),au7,H',⟨by first | omega | exact Nat.le_refl _⟩,⟨au0⟩⟩
   ·rw [if_neg c4] at H
    have c4b0 : decide (1114111 < a0) = false := decide_eq_false c4
    clear c4
    by_cases c5 : a0 ≥ 55296
    ·rw [if_pos c5] at H
     have c5b0 : decide (55296 ≤ a0) = true := decide_eq_true c5
     clear c5
     have H' := Aside0.mk H
     clear H
     go_wp2
     go_meet
     case rel => exact ⟨_,(decide (a0 ≤ 57343)),au7,H',⟨by first | omega | exact Nat.le_refl _⟩,⟨au0⟩⟩
    ·rw [if_neg c5] at H
     have c5b0 : decide (55296 ≤ a0) = false := decide_eq_false c5
     clear c5
     have H' := Aside0.mk H
     clear H
     go_wp2
     go_meet
     case rel => exact ⟨_,(false),au7,H',⟨by first | omega | exact Nat.le_refl _⟩,⟨au0⟩⟩
 case rest =>
  clear HC2
  try clear p2
  try clear c3
  try clear c3b0
  try clear c4
  try clear c4b0
  try clear c5
  try clear c5b0
  obtain ⟨kq,x3_1,rfl,HA,HJ1,HB⟩ := hcut
  cases kq with
  | zero => exact absurd HA.out (by simp [width_Class.j0])
  | succ kj1 =>
   have H := HA.out
   clear HA
   simp only [width_Class.j0] at H
   by_cases c6 : x3_1 = true
   ·subst c6
    have H1 : (some 5) = some r := by rw [if_pos rfl] at H;exact H
    clear H
    have H := H1
    clear H1
    obtain rfl := Option.some.inj H
    go_wp2
    go_ret
    exact ⟨au2,au0⟩
   ·replace c6 := Bool.eq_false_iff.mpr c6
    subst c6
    have H1 : (if a0 = 10 then (some 1) else (if a0 < 32 then (width_Class.j1 kj1 a0 true) else (if a0 ≥ 127 then (width_Class.j1 kj1 a0 (decide (a0 ≤ 159))) else (width_Class.j1 kj1 a0 false)))) = some r := by rw [if_neg (show ¬ (false = true) by decide)] at H;exact H
    clear H
    have H := H1
    clear H1
    by_cases c7 : a0 = 10
    ·rw [if_pos c7] at H
     have c7b0 : (a0 == 10) = true := beq_iff_eq.mpr c7
     have c7b1 : (a0 != 10) = false := bne_eq_false_iff_eq.mpr c7
     clear c7
     obtain rfl := Option.some.inj H
     go_wp2
     go_ret
     exact ⟨au2,au0⟩
    ·rw [if_neg c7] at H
     have c7b0 : (a0 == 10) = false := beq_eq_false_iff_ne.mpr c7
     have c7b1 : (a0 != 10) = true := bne_iff_ne.mpr c7
     have HC8 := Aside0.mk H
     clear H
     go_upto_region 5 with (fail)
     go_cut [21] (fun v21 wc => ∃ (kq : Nat) (x21_7 : Bool),v21 = .bool x21_7 ∧ Aside0 (width_Class.j1 kq a0 x21_7 = some r) ∧ Aside0 (kq ≤ kj1) ∧ Aside0 (Below w.heap.size w wc))
     case first =>
      have H := HC8.out
      clear HC8
      by_cases c9 : a0 < 32
      ·rw [if_pos c9] at H
       have c9b0 : decide (a0 < 32) = true := decide_eq_true c9
       clear c9
       (first | rw [c9b0] | (simp only [i64_w,i32_w];rw [c9b0]) | skip)
       have H' := Aside0.mk H
       clear H
       go_wp2
       go_meet
       case rel => exact ⟨_,(true),au7,H',⟨by have := HJ1.out;first | omega | exact Nat.le_refl _⟩,⟨au0⟩⟩
      ·rw [if_neg c9] at H
       have c9b0 : decide (a0 < 32) = false := decide_eq_false c9
       clear c9
       (first | rw [c9b0] | (simp only [i64_w,i32_w];rw [c9b0]) | skip)
       by_cases c10 : a0 ≥ 127
       ·rw [if_pos c10] at H
        have c10b0 : decide (127 ≤ a0) = true := decide_eq_true c10
        clear c10
        have H' := Aside0.mk H
        clear H
        go_wp2
        go_meet
        case rel => exact ⟨_,(decide (a0 ≤ 159)),au7,H',⟨by have := HJ1.out;first | omega | exact Nat.le_refl _⟩,⟨au0⟩⟩
       ·rw [if_neg c10] at H
        have c10b0 : decide (127 ≤ a0) = false := decide_eq_false c10
        clear c10
        have H' := Aside0.mk H
        clear H
        go_wp2
        go_meet
        case rel => exact ⟨_,(false),au7,H',⟨by have := HJ1.out;first | omega | exact Nat.le_refl _⟩,⟨au0⟩⟩
     case rest =>
      clear HC8
      try clear c1
      try clear p2
      try clear c3
      try clear c3b0
      try clear c4
      try clear c4b0
      try clear c5
      try clear c5b0
      try clear c6
      try clear c7
      try clear c7b0
      try clear c7b1
      try clear c9
      try clear c9b0
      try clear c10
      try clear c10b0
      try clear p2
      obtain ⟨kq,x21_7,rfl,HA,HJ7,HB⟩ := hcut
      cases kq with
      | zero => exact absurd HA.out (by simp [width_Class.j1])
      | succ kj7 =>
       have H := HA.out
       clear HA
       simp only [width_Class.j1] at H
       by_cases c11 : x21_7 = true
       ·subst c11
        have H1 : (some 2) = some r := by rw [if_pos rfl] at H;exact H
        clear H
        have H := H1
        clear H1
        obtain rfl := Option.some.inj H
        go_wp2
        go_ret
        exact ⟨au2,au0⟩
       ·replace c11 := Bool.eq_false_iff.mpr c11
        subst c11
        have H1 : ((width_marks.f).bind fun t144 => ((width_within_rune.f t144 a0).bind fun t147 => (if t147 = true then (some 3) else ((width_wides.f).bind fun t148 => ((width_within_rune.f t148 a0).bind fun t151 => (if t151 = true then (some 4) else (some 0))))))) = some r := by rw [if_neg (show ¬ (false = true) by decide)] at H;exact H
        clear H
        have H := H1
        clear H1
        replace H := Option.bind_eq_some_iff.mp H
        obtain ⟨t144,A120,H⟩ := H
        replace H : ((width_within_rune.f t144 a0).bind fun t147 => (if t147 = true then (some 3) else ((width_wides.f).bind fun t148 => ((width_within_rune.f t148 a0).bind fun t151 => (if t151 = true then (some 4) else (some 0)))))) = some r := H
        have A12 := Aside0.mk A120
        clear A120
        replace H := Option.bind_eq_some_iff.mp H
        obtain ⟨t147,A130,H⟩ := H
        replace H : (if t147 = true then (some 3) else ((width_wides.f).bind fun t148 => ((width_within_rune.f t148 a0).bind fun t151 => (if t151 = true then (some 4) else (some 0))))) = some r := H
        have A13 := Aside0.mk A130
        clear A130
        by_cases c14 : t147 = true
        ·subst c14
         have H1 : (some 3) = some r := by rw [if_pos rfl] at H;exact H
         clear H
         have H := H1
         clear H1
         obtain rfl := Option.some.inj H
         go_wp2_with (first | ((with_reducible refine gate_callee (f := 84) rfl ?_);refine goesL_ (some 33) rfl rfl Tryd.func84 (by kernel_rfl) rfl #[] rfl au1 ?_;(with_reducible refine (width_marks.calls  t144 _ A12.out).mono ?_);rintro e w15 ⟨v145,rfl,ho0,hb⟩;refine ⟨_,rfl,?_⟩;have n0_ := Aside0.mk (Kd.R_lower ho0 (below_size au0));have n1_ := Aside0.mk (below_step au0 hb);clear HB;have HO146 := n0_;have HB := n1_;clear n0_ n1_;(try clear hb);(try clear hb2);(try clear hk);(try clear hi);(try clear ho0);obtain ⟨Ao16,co16,eo16⟩ := Kd.R_slice HO146.out;subst eo16) | ((with_reducible refine gate_callee (f := 83) rfl ?_);refine goesL_ (some 35) rfl rfl Tryd.func83 (by kernel_rfl) rfl #[.slice Ao16 t144.length co16,.int .i32 a0] rfl au1 ?_;(with_reducible refine (width_within_rune.calls _ _ t144 a0 true _ ?side1 ?side2 A13.out).mono ?_);(case side1 => repeat (first | exact (Kd.R_reads' HO146.out).2.2 | (with_reducible refine Kd.C_alloc ?_ _) | (with_reducible refine Kd.C_drewN ?_ _) | (with_reducible refine Kd.C_drew ?_)));(case side2 => exact (Kd.R_reads' HO146.out).2.1);rintro e w17 ⟨rfl,hb⟩;refine ⟨_,rfl,?_⟩;have n0_ := Aside0.mk (Kd.R_below au11 hb);have n1_ := Aside0.mk (below_step au0 hb);clear HO146;clear HB;have HO146 := n0_;have HB := n1_;clear n0_ n1_;(try clear hb);(try clear hb2);(try clear hk);(try clear hi)))
         go_ret
         exact ⟨au2,au0⟩
        ·replace c14 := Bool.eq_false_iff.mpr c14
         subst c14
         have H1 : ((width_wides.f).bind fun t148 => ((width_within_rune.f t148 a0).bind fun t151 => (if t151 = true then (some 4) else (some 0)))) = some r := by rw [if_neg (show ¬ (false = true) by decide)] at H;exact H
         clear H
         have H := H1
         clear H1
         replace H := Option.bind_eq_some_iff.mp H
         obtain ⟨t148,A180,H⟩ := H
         replace H : ((width_within_rune.f t148 a0).bind fun t151 => (if t151 = true then (some 4) else (some 0))) = some r := H
         have A18 := Aside0.mk A180
         clear A180
         replace H := Option.bind_eq_some_iff.mp H
         obtain ⟨t151,A190,H⟩ := H
         replace H : (if t151 = true then (some 4) else (some 0)) = some r := H
         have A19 := Aside0.mk A190
         clear A190
         by_cases c20 : t151 = true
         ·subst c20
          have H1 : (some 4) = some r := by rw [if_pos rfl] at H;exact H
          clear H
          have H := H1
          clear H1
          obtain rfl := Option.some.inj H
          go_wp2_with (first | ((with_reducible refine gate_callee (f := 84) rfl ?_);refine goesL_ (some 33) rfl rfl Tryd.func84 (by kernel_rfl) rfl #[] rfl au1 ?_;(with_reducible refine (width_marks.calls  t144 _ A12.out).mono ?_);rintro e w21 ⟨v145,rfl,ho0,hb⟩;refine ⟨_,rfl,?_⟩;have n0_ := Aside0.mk (Kd.R_lower ho0 (below_size au0));have n1_ := Aside0.mk (below_step au0 hb);clear HB;have HO146 := n0_;have HB := n1_;clear n0_ n1_;(try clear hb);(try clear hb2);(try clear hk);(try clear hi);(try clear ho0);obtain ⟨Ao22,co22,eo22⟩ := Kd.R_slice HO146.out;subst eo22) | ((with_reducible refine gate_callee (f := 83) rfl ?_);refine goesL_ (some 35) rfl rfl Tryd.func83 (by kernel_rfl) rfl #[.slice Ao22 t144.length co22,.int .i32 a0] rfl au1 ?_;(with_reducible refine (width_within_rune.calls _ _ t144 a0 false _ ?side1 ?side2 A13.out).mono ?_);(case side1 => repeat (first | exact (Kd.R_reads' HO146.out).2.2 | (with_reducible refine Kd.C_alloc ?_ _) | (with_reducible refine Kd.C_drewN ?_ _) | (with_reducible refine Kd.C_drew ?_)));(case side2 => exact (Kd.R_reads' HO146.out).2.1);rintro e w23 ⟨rfl,hb⟩;refine ⟨_,rfl,?_⟩;have n0_ := Aside0.mk (Kd.R_below au11 hb);have n1_ := Aside0.mk (below_step au0 hb);clear HO146;clear HB;have HO146 := n0_;have HB := n1_;clear n0_ n1_;(try clear hb);(try clear hb2);(try clear hk);(try clear hi)) | ((with_reducible refine gate_callee (f := 85) rfl ?_);refine goesL_ (some 37) rfl rfl Tryd.func85 (by kernel_rfl) rfl #[] rfl au1 ?_;(with_reducible refine (width_wides.calls  t148 _ A18.out).mono ?_);rintro e w24 ⟨v149,rfl,ho0,hb⟩;refine ⟨_,rfl,?_⟩;have n0_ := Aside0.mk (Kd.R_elder' au11 (Kd.R_base ho0) hb);have n1_ := Aside0.mk (Kd.R_lower (Kd.R_new' ho0 (Kd.R_lt au11)) (below_size au0));have n2_ := Aside0.mk (below_step au0 hb);clear HO146;clear HB;have HO146 := n0_;have HO150 := n1_;have HB := n2_;clear n0_ n1_ n2_;(try clear hb);(try clear hb2);(try clear hk);(try clear hi);(try clear ho0);obtain ⟨Ao25,co25,eo25⟩ := Kd.R_slice HO150.out;subst eo25) | ((with_reducible refine gate_callee (f := 83) rfl ?_);refine goesL_ (some 39) rfl rfl Tryd.func83 (by kernel_rfl) rfl #[.slice Ao25 t148.length co25,.int .i32 a0] rfl au1 ?_;(with_reducible refine (width_within_rune.calls _ _ t148 a0 true _ ?side1 ?side2 A19.out).mono ?_);(case side1 => repeat (first | exact (Kd.R_reads' HO150.out).2.2 | (with_reducible refine Kd.C_alloc ?_ _) | (with_reducible refine Kd.C_drewN ?_ _) | (with_reducible refine Kd.C_drew ?_)));(case side2 => exact (Kd.R_reads' HO150.out).2.1);rintro e w26 ⟨rfl,hb⟩;refine ⟨_,rfl,?_⟩;have n0_ := Aside0.mk (Kd.R_below au11 hb);have n1_ := Aside0.mk (Kd.R_below (by (with_reducible repeat (first | apply Kd.R_alloc | apply Kd.R_drewN | apply Kd.R_drew));exact HO150.out) hb);have n2_ := Aside0.mk (below_step au0 hb);clear HO146;clear HO150;clear HB;have HO146 := n0_;have HO150 := n1_;have HB := n2_;clear n0_ n1_ n2_;(try clear hb);(try clear hb2);(try clear hk);(try clear hi)))
          go_ret
          exact ⟨au2,au0⟩
         ·replace c20 := Bool.eq_false_iff.mpr c20
          subst c20
          have H1 : (some 0) = some r := by rw [if_neg (show ¬ (false = true) by decide)] at H;exact H
          clear H
          have H := H1
          clear H1
          obtain rfl := Option.some.inj H
          go_wp2_with (first | ((with_reducible refine gate_callee (f := 84) rfl ?_);refine goesL_ (some 33) rfl rfl Tryd.func84 (by kernel_rfl) rfl #[] rfl au1 ?_;(with_reducible refine (width_marks.calls  t144 _ A12.out).mono ?_);rintro e w27 ⟨v145,rfl,ho0,hb⟩;refine ⟨_,rfl,?_⟩;have n0_ := Aside0.mk (Kd.R_lower ho0 (below_size au0));have n1_ := Aside0.mk (below_step au0 hb);clear HB;have HO146 := n0_;have HB := n1_;clear n0_ n1_;(try clear hb);(try clear hb2);(try clear hk);(try clear hi);(try clear ho0);obtain ⟨Ao28,co28,eo28⟩ := Kd.R_slice HO146.out;subst eo28) | ((with_reducible refine gate_callee (f := 83) rfl ?_);refine goesL_ (some 35) rfl rfl Tryd.func83 (by kernel_rfl) rfl #[.slice Ao28 t144.length co28,.int .i32 a0] rfl au1 ?_;(with_reducible refine (width_within_rune.calls _ _ t144 a0 false _ ?side1 ?side2 A13.out).mono ?_);(case side1 => repeat (first | exact (Kd.R_reads' HO146.out).2.2 | (with_reducible refine Kd.C_alloc ?_ _) | (with_reducible refine Kd.C_drewN ?_ _) | (with_reducible refine Kd.C_drew ?_)));(case side2 => exact (Kd.R_reads' HO146.out).2.1);rintro e w29 ⟨rfl,hb⟩;refine ⟨_,rfl,?_⟩;have n0_ := Aside0.mk (Kd.R_below au11 hb);have n1_ := Aside0.mk (below_step au0 hb);clear HO146;clear HB;have HO146 := n0_;have HB := n1_;clear n0_ n1_;(try clear hb);(try clear hb2);(try clear hk);(try clear hi)) | ((with_reducible refine gate_callee (f := 85) rfl ?_);refine goesL_ (some 37) rfl rfl Tryd.func85 (by kernel_rfl) rfl #[] rfl au1 ?_;(with_reducible refine (width_wides.calls  t148 _ A18.out).mono ?_);rintro e w30 ⟨v149,rfl,ho0,hb⟩;refine ⟨_,rfl,?_⟩;have n0_ := Aside0.mk (Kd.R_elder' au11 (Kd.R_base ho0) hb);have n1_ := Aside0.mk (Kd.R_lower (Kd.R_new' ho0 (Kd.R_lt au11)) (below_size au0));have n2_ := Aside0.mk (below_step au0 hb);clear HO146;clear HB;have HO146 := n0_;have HO150 := n1_;have HB := n2_;clear n0_ n1_ n2_;(try clear hb);(try clear hb2);(try clear hk);(try clear hi);(try clear ho0);obtain ⟨Ao31,co31,eo31⟩ := Kd.R_slice HO150.out;subst eo31) | ((with_reducible refine gate_callee (f := 83) rfl ?_);refine goesL_ (some 39) rfl rfl Tryd.func83 (by kernel_rfl) rfl #[.slice Ao31 t148.length co31,.int .i32 a0] rfl au1 ?_;(with_reducible refine (width_within_rune.calls _ _ t148 a0 false _ ?side1 ?side2 A19.out).mono ?_);(case side1 => repeat (first | exact (Kd.R_reads' HO150.out).2.2 | (with_reducible refine Kd.C_alloc ?_ _) | (with_reducible refine Kd.C_drewN ?_ _) | (with_reducible refine Kd.C_drew ?_)));(case side2 => exact (Kd.R_reads' HO150.out).2.1);rintro e w32 ⟨rfl,hb⟩;refine ⟨_,rfl,?_⟩;have n0_ := Aside0.mk (Kd.R_below au11 hb);have n1_ := Aside0.mk (Kd.R_below (by (with_reducible repeat (first | apply Kd.R_alloc | apply Kd.R_drewN | apply Kd.R_drew));exact HO150.out) hb);have n2_ := Aside0.mk (below_step au0 hb);clear HO146;clear HO150;clear HB;have HO146 := n0_;have HO150 := n1_;have HB := n2_;clear n0_ n1_ n2_;(try clear hb);(try clear hb2);(try clear hk);(try clear hi)))
          go_ret
          exact ⟨au2,au0⟩
end Go.Proofs.YtgdpnmikcopkmaaDoor.U
end
section
namespace Go.Proofs.YtgdpnmikcopkmaaDoor.U
open Go.RowKit Go.Proofs.YtgdpnmikcopkmaaDoorW.PrintWords Go.Proofs.YtgdpnmikcopkmaaDoorW.PrintLast Go.Proofs.YtgdpnmikcopkmaaDoorW.PrintMore
attribute [local go_sem] max2_int min2_int max_two min_two max_three min_three max_four min_four   -- for this text's walks alone
set_option linter.unusedVariables false
set_option linter.unusedSimpArgs false
/-- A state of type 74 at block g of W;what its slices lead to came in by w0. -/
def IsS74 (w0 W : World) (g : Nat) (f0 : Int) (f1 : Int) (f2 : List (List (S38))) (f3 : Int) (f4 : Int) (f5 : Bool) (f6 : ByteArray) (f7 : Bool) (f8 : Int) (f9 : Int) : Prop := ∃ A2 c2,W.heap[g]? = some (.cells #[.int .i64 f0,.int .i64 f1,.slice A2 f2.length c2,.int .i64 f3,.int .i64 f4,.bool f5,.string f6,.bool f7,.int .i64 f8,.int .i64 f9] 74 (0,0)) ∧ w0.heap.size ≤ g ∧ Kd.C (Kd.slice 38 k38) w0 A2 f2.length f2
theorem IsS74.grown {w0 W : World} {g : Nat} {f0 : Int} {f1 : Int} {f2 : List (List (S38))} {f3 : Int} {f4 : Int} {f5 : Bool} {f6 : ByteArray} {f7 : Bool} {f8 : Int} {f9 : Int} {W1 : World} {row : Option Nat} (h : IsS74 w0 W g f0 f1 f2 f3 f4 f5 f6 f7 f8 f9) (hw : W.grownBy W1 row) (hne : some g ≠ row) : IsS74 w0 W1 g f0 f1 f2 f3 f4 f5 f6 f7 f8 f9 := by
 obtain ⟨A2,c2,hb,hg,hr2⟩ := h
 exact ⟨A2,c2,blk_grown hb hw hne,hg,hr2⟩
theorem IsS74.fresh {w0 W : World} {g : Nat} {f0 : Int} {f1 : Int} {f2 : List (List (S38))} {f3 : Int} {f4 : Int} {f5 : Bool} {f6 : ByteArray} {f7 : Bool} {f8 : Int} {f9 : Int} (h : IsS74 w0 W g f0 f1 f2 f3 f4 f5 f6 f7 f8 f9) : ∀ k,W.heap.size ≤ k → k ≠ g := by
 obtain ⟨A2,c2,hb,hg,hr2⟩ := h
 exact Kd.freshB hb
theorem IsS74.kept {w0 W : World} {g : Nat} {f0 : Int} {f1 : Int} {f2 : List (List (S38))} {f3 : Int} {f4 : Int} {f5 : Bool} {f6 : ByteArray} {f7 : Bool} {f8 : Int} {f9 : Int} {W1 : World} {S : Nat → Prop} (h : IsS74 w0 W g f0 f1 f2 f3 f4 f5 f6 f7 f8 f9) (hk : Kept W W1 S) (hne : ¬ S g) : IsS74 w0 W1 g f0 f1 f2 f3 f4 f5 f6 f7 f8 f9 := by
 obtain ⟨A2,c2,hb,hg,hr2⟩ := h
 exact ⟨A2,c2,blk_kept hb hk hne,hg,hr2⟩
theorem IsS74.below {w0 W : World} {g : Nat} {f0 : Int} {f1 : Int} {f2 : List (List (S38))} {f3 : Int} {f4 : Int} {f5 : Bool} {f6 : ByteArray} {f7 : Bool} {f8 : Int} {f9 : Int} {W1 : World} (h : IsS74 w0 W g f0 f1 f2 f3 f4 f5 f6 f7 f8 f9) (hw : Below W.heap.size W W1) : IsS74 w0 W1 g f0 f1 f2 f3 f4 f5 f6 f7 f8 f9 := h.grown (grown_of_below hw none) (by simp)
theorem IsS74.alloc {w0 W : World} {g : Nat} {f0 : Int} {f1 : Int} {f2 : List (List (S38))} {f3 : Int} {f4 : Int} {f5 : Bool} {f6 : ByteArray} {f7 : Bool} {f8 : Int} {f9 : Int} (h : IsS74 w0 W g f0 f1 f2 f3 f4 f5 f6 f7 f8 f9) (o : Obj) : IsS74 w0 (W.alloc o) g f0 f1 f2 f3 f4 f5 f6 f7 f8 f9 := h.below (below_alloc (Below.refl _ _) o)
theorem IsS74.drewN {w0 W : World} {g : Nat} {f0 : Int} {f1 : Int} {f2 : List (List (S38))} {f3 : Int} {f4 : Int} {f5 : Bool} {f6 : ByteArray} {f7 : Bool} {f8 : Int} {f9 : Int} (h : IsS74 w0 W g f0 f1 f2 f3 f4 f5 f6 f7 f8 f9) (m : Nat) : IsS74 w0 (W.drewN m) g f0 f1 f2 f3 f4 f5 f6 f7 f8 f9 := h
theorem IsS74.drew {w0 W : World} {g : Nat} {f0 : Int} {f1 : Int} {f2 : List (List (S38))} {f3 : Int} {f4 : Int} {f5 : Bool} {f6 : ByteArray} {f7 : Bool} {f8 : Int} {f9 : Int} (h : IsS74 w0 W g f0 f1 f2 f3 f4 f5 f6 f7 f8 f9) : IsS74 w0 W.drew g f0 f1 f2 f3 f4 f5 f6 f7 f8 f9 := h
theorem IsS74.at_ {w0 W : World} {g : Nat} {f0 : Int} {f1 : Int} {f2 : List (List (S38))} {f3 : Int} {f4 : Int} {f5 : Bool} {f6 : ByteArray} {f7 : Bool} {f8 : Int} {f9 : Int} {w' : World} {m : Nat} (hq : W.drewN m = w') (h : IsS74 w0 W g f0 f1 f2 f3 f4 f5 f6 f7 f8 f9) : IsS74 w0 w' g f0 f1 f2 f3 f4 f5 f6 f7 f8 f9 := by subst hq;exact IsS74.drewN h m
theorem IsS74.apart {w0 W : World} {g : Nat} {f0 : Int} {f1 : Int} {f2 : List (List (S38))} {f3 : Int} {f4 : Int} {f5 : Bool} {f6 : ByteArray} {f7 : Bool} {f8 : Int} {f9 : Int} {α : Type} {d : Kd α} {e : Nat} {base : Nat} {ok : Nat → Prop} {v : Value} {xs : List α} (h : IsS74 w0 W g f0 f1 f2 f3 f4 f5 f6 f7 f8 f9) (ho : d.R e W base ok v xs) (ht : ∀ q,q ∈ e :: d.E → q ≠ 74) : d.R e W base (fun k => ok k ∧ k ≠ g) v xs := by
 obtain ⟨A2,c2,hb,hg,hr2⟩ := h
 exact Kd.R_types ho hb ht
theorem IsS74.own_ne {w0 W : World} {g : Nat} {f0 : Int} {f1 : Int} {f2 : List (List (S38))} {f3 : Int} {f4 : Int} {f5 : Bool} {f6 : ByteArray} {f7 : Bool} {f8 : Int} {f9 : Int} {α : Type} {d : Kd α} {e : Nat} {base : Nat} {ok : Nat → Prop} {v : Value} {xs : List α} (h : IsS74 w0 W g f0 f1 f2 f3 f4 f5 f6 f7 f8 f9) (ho : d.R e W base ok v xs) (ht : e ≠ 74) : some g ≠ v.ownBlock := by
 obtain ⟨A2,c2,hb,hg,hr2⟩ := h
 exact Kd.R_ne ho hb ht
theorem IsS74.lt {w0 W : World} {g : Nat} {f0 : Int} {f1 : Int} {f2 : List (List (S38))} {f3 : Int} {f4 : Int} {f5 : Bool} {f6 : ByteArray} {f7 : Bool} {f8 : Int} {f9 : Int} (h : IsS74 w0 W g f0 f1 f2 f3 f4 f5 f6 f7 f8 f9) : g < W.heap.size := by
 obtain ⟨A2,c2,hb,hg,hr2⟩ := h
 exact blk_lt hb
theorem IsS74.far {w0 W : World} {g : Nat} {f0 : Int} {f1 : Int} {f2 : List (List (S38))} {f3 : Int} {f4 : Int} {f5 : Bool} {f6 : ByteArray} {f7 : Bool} {f8 : Int} {f9 : Int} {p : Addr} (h : IsS74 w0 W g f0 f1 f2 f3 f4 f5 f6 f7 f8 f9) (hne : g ≠ p.block) (u : Value) : IsS74 w0 (W.setCell p u) g f0 f1 f2 f3 f4 f5 f6 f7 f8 f9 := by
 obtain ⟨A2,c2,hb,hg,hr2⟩ := h
 exact ⟨A2,c2,blk_far hb hne u,hg,hr2⟩
theorem IsS74.new (w0 W : World) (A2 : Option Addr) (c2 : Nat) (f0 : Int) (f1 : Int) (f2 : List (List (S38))) (f3 : Int) (f4 : Int) (f5 : Bool) (f6 : ByteArray) (f7 : Bool) (f8 : Int) (f9 : Int) (hB : Below w0.heap.size w0 W) (hr2 : Kd.C (Kd.slice 38 k38) w0 A2 f2.length f2) : IsS74 w0 (W.alloc (.cells #[.int .i64 f0,.int .i64 f1,.slice A2 f2.length c2,.int .i64 f3,.int .i64 f4,.bool f5,.string f6,.bool f7,.int .i64 f8,.int .i64 f9] 74)) W.heap.size f0 f1 f2 f3 f4 f5 f6 f7 f8 f9 := ⟨A2,c2,by simpa using heap_alloc_new W _,hB.size,hr2⟩
def stringslite_HasPrefix.f (a0 : ByteArray) (a1 : ByteArray) : Option (Bool) := if (a0.size : Int) ≥ (a1.size : Int) then (if 0 ≤ (a1.size : Int) then (if (a1.size : Int) ≤ (a0.size : Int) then (some ((a0.extract 0 ((a1.size : Int) : Int).toNat).toList == a1.toList)) else (none)) else (none)) else (some false)
set_option maxHeartbeats 8000000 in
set_option maxRecDepth 100000 in
theorem stringslite_HasPrefix.calls (a0 : ByteArray) (a1 : ByteArray) (r : Bool) (w : World) (h : stringslite_HasPrefix.f a0 a1 = some r) :
  Calls Tryd.prog 111 #[.string a0,.string a1] w fun e w' => e = .returned (.bool r) ∧ Drawn0 w w' := by
 have H : (if (a0.size : Int) ≥ (a1.size : Int) then (if 0 ≤ (a1.size : Int) then (if (a1.size : Int) ≤ (a0.size : Int) then (some ((a0.extract 0 ((a1.size : Int) : Int).toNat).toList == a1.toList)) else (none)) else (none)) else (some false)) = some r := h
 clear h
 by_cases c3 : (a0.size : Int) ≥ (a1.size : Int)
 ·rw [if_pos c3] at H
  have c3b0 : decide ((a1.size : Int) ≤ (a0.size : Int)) = true := decide_eq_true c3
  have c3b1 : decide (a1.size ≤ a0.size) = true := decide_eq_true (Int.ofNat_le.mp c3)
  clear c3
  by_cases c4 : 0 ≤ (a1.size : Int)
  ·rw [if_pos c4] at H
   have c4b0 := eq_true c4
   have c4b1 : decide (0 ≤ (a1.size : Int)) = true := decide_eq_true c4
   clear c4
   by_cases c5 : (a1.size : Int) ≤ (a0.size : Int)
   ·rw [if_pos c5] at H
    have c5b0 := eq_true c5
    have c5b1 : decide ((a1.size : Int) ≤ (a0.size : Int)) = true := decide_eq_true c5
    clear c5
    obtain rfl := Option.some.inj H
    go_enter Tryd.func111,Tryd.ntmps111
    go_wp2
    go_ret
    exact ⟨by first | rfl | (simp;done) | (simp [*];done),by repeat (first | exact Drawn0.refl _ | apply Drawn0.step)⟩
   ·rw [if_neg c5] at H
    exact absurd H (by simp)
  ·rw [if_neg c4] at H
   exact absurd H (by simp)
 ·rw [if_neg c3] at H
  have c3b0 : decide ((a1.size : Int) ≤ (a0.size : Int)) = false := decide_eq_false c3
  have c3b1 : decide (a1.size ≤ a0.size) = false := decide_eq_false (fun h => c3 (Int.ofNat_le.mpr h))
  clear c3
  obtain rfl := Option.some.inj H
  go_enter Tryd.func111,Tryd.ntmps111
  go_wp2
  go_ret
  exact ⟨by first | rfl | (simp;done) | (simp [*];done),by repeat (first | exact Drawn0.refl _ | apply Drawn0.step)⟩
def strings_HasPrefix.f (a0 : ByteArray) (a1 : ByteArray) : Option (Bool) := (stringslite_HasPrefix.f a0 a1).bind fun t321 => (some t321)
set_option maxHeartbeats 8000000 in
set_option maxRecDepth 100000 in
theorem strings_HasPrefix.calls (a0 : ByteArray) (a1 : ByteArray) (r : Bool) (w : World) (h : strings_HasPrefix.f a0 a1 = some r) :
  Calls Tryd.prog 99 #[.string a0,.string a1] w fun e w' => e = .returned (.bool r) ∧ Drawn0 w w' := by
 have H : ((stringslite_HasPrefix.f a0 a1).bind fun t321 => (some t321)) = some r := h
 clear h
 replace H := Option.bind_eq_some_iff.mp H
 obtain ⟨t321,A30,H⟩ := H
 replace H : (some t321) = some r := H
 have A3 := Aside0.mk A30
 clear A30
 obtain rfl := Option.some.inj H
 go_enter Tryd.func99,Tryd.ntmps99
 go_wp2_with (first | ((with_reducible refine gate_callee (f := 111) rfl ?_);refine goesL_ (some 7) rfl rfl Tryd.func111 (by kernel_rfl) rfl #[.string a0,.string a1] rfl au1 ?_;(with_reducible refine (stringslite_HasPrefix.calls a0 a1 t321 _ A3.out).mono ?_);rintro e w' ⟨rfl,⟨nd,rfl⟩⟩;refine ⟨_,rfl,?_⟩))
 go_ret
 exact ⟨by first | rfl | (simp;done) | (simp [*];done),by repeat (first | exact Drawn0.refl _ | apply Drawn0.step)⟩
end Go.Proofs.YtgdpnmikcopkmaaDoor.U
end
section
namespace Go.Proofs.YtgdpnmikcopkmaaDoor.U
open Go.RowKit Go.Proofs.YtgdpnmikcopkmaaDoorW.PrintWords Go.Proofs.YtgdpnmikcopkmaaDoorW.PrintLast Go.Proofs.YtgdpnmikcopkmaaDoorW.PrintMore
attribute [local go_sem] max2_int min2_int max_two min_two max_three min_three max_four min_four   -- for this text's walks alone
set_option linter.unusedVariables false
set_option linter.unusedSimpArgs false
def unit_Prev.f (k : Nat) (a0 : ByteArray) (a1 : Int) : Option (Int) := if a1 ≤ 0 then (some 0) else ((unit_Down.f k a0 (mn (wrap64 (a1 - 1)) (a0.size : Int))).bind fun t176 => (some t176))
set_option maxHeartbeats 8000000 in
set_option maxRecDepth 100000 in
theorem unit_Prev.calls (k : Nat) (a0 : ByteArray) (a1 : Int) (r : Int) (w : World) (hT : Lib.Utf8Tabs 0 1 w) (h : unit_Prev.f k a0 a1 = some r) :
  Calls Tryd.prog 59 #[.string a0,.int .i64 a1] w fun e w' => e = .returned (.int .i64 r) ∧ Below w.heap.size w w' := by
 have HT := Aside0.mk hT
 clear hT
 have HB := Aside0.mk (Below.refl w.heap.size w)
 have H : (if a1 ≤ 0 then (some 0) else ((unit_Down.f k a0 (mn (wrap64 (a1 - 1)) (a0.size : Int))).bind fun t176 => (some t176))) = some r := h
 clear h
 by_cases c3 : a1 ≤ 0
 ·rw [if_pos c3] at H
  have c3b0 : decide (a1 ≤ 0) = true := decide_eq_true c3
  clear c3
  obtain rfl := Option.some.inj H
  go_enter Tryd.func59,Tryd.ntmps59
  go_wp2
  go_ret
  exact ⟨au2,au0⟩
 ·rw [if_neg c3] at H
  have c3b0 : decide (a1 ≤ 0) = false := decide_eq_false c3
  clear c3
  obtain ⟨ji4,hji4⟩ : ∃ j_ : Int,(mn (wrap64 (a1 - 1)) (a0.size : Int)) = j_ := ⟨_,rfl⟩
  replace H : ((unit_Down.f k a0 (ji4)).bind fun t176 => (some t176)) = some r := by first | (rw [hji4] at H;exact H) | (simp only [hji4] at H ⊢;exact H)
  have hji4_ : (if (a0.size : Int) < (wrap64 (a1 - 1)) then (a0.size : Int) else (wrap64 (a1 - 1))) = ji4 := hji4
  replace H := Option.bind_eq_some_iff.mp H
  obtain ⟨t176,A50,H⟩ := H
  replace H : (some t176) = some r := H
  have A5 := Aside0.mk A50
  clear A50
  obtain rfl := Option.some.inj H
  go_enter Tryd.func59,Tryd.ntmps59
  go_wp2_with (first | ((with_reducible refine gate_callee (f := 79) rfl ?_);refine goesL_ (some 13) rfl rfl Tryd.func79 (by kernel_rfl) rfl #[.string a0,.int .i64 ji4] rfl (by (try simp only [List.map_toArray,List.map_cons,List.map_nil]);first | done | (simp only [hji4];rfl) | rfl | (simp only [List.length_drop,List.length_take];rfl)) ?_;(with_reducible refine (unit_Down.calls k a0 ji4 t176 _ ?side1 A5.out).mono ?_);(case side1 => exact tabs_below HT.out au0);rintro e w6 ⟨rfl,hb⟩;refine ⟨_,rfl,?_⟩;have n0_ := Aside0.mk (below_step au0 hb);clear HB;have HB := n0_;clear n0_;(try clear hb);(try clear hb2);(try clear hk);(try clear hi)))
  go_ret
  exact ⟨by first | rfl | (simp [errW_none,errW_some] <;> rfl) | (simp only [← hji4];first | rfl | (simp [errW_none,errW_some] <;> rfl)) | (simp [*,errW_none,errW_some] <;> rfl),au0⟩
end Go.Proofs.YtgdpnmikcopkmaaDoor.U
end
section
namespace Go.Proofs.YtgdpnmikcopkmaaDoor.U
open Go.RowKit Go.Proofs.YtgdpnmikcopkmaaDoorW.PrintWords Go.Proofs.YtgdpnmikcopkmaaDoorW.PrintLast Go.Proofs.YtgdpnmikcopkmaaDoorW.PrintMore
attribute [local go_sem] max2_int min2_int max_two min_two max_three min_three max_four min_four   -- for this text's walks alone
set_option linter.unusedVariables false
set_option linter.unusedSimpArgs false
def unit_At.f (k : Nat) (a0 : ByteArray) (a1 : Int) : Option (Int × Int × Bool) := if a1 < 0 then (some (0,0,false)) else (if a1 ≥ (a0.size : Int) then (some (0,0,false)) else ((unit_Boundary.f k a0 a1).bind fun t115 => (if t115 = true then (if 0 ≤ a1 then (if a1 ≤ (a0.size : Int) then ((unit_first.f (a0.extract (a1 : Int).toNat a0.size)).bind fun bt116 => (some (bt116.1,bt116.2,true))) else (none)) else (none)) else (some (0,0,false)))))
set_option maxHeartbeats 8000000 in
set_option maxRecDepth 100000 in
theorem unit_At.calls (k : Nat) (a0 : ByteArray) (a1 : Int) (r1 : Int) (r2 : Int) (r3 : Bool) (w : World) (hT : Lib.Utf8Tabs 0 1 w) (h : unit_At.f k a0 a1 = some (r1,r2,r3)) :
  Calls Tryd.prog 58 #[.string a0,.int .i64 a1] w fun e w' => e = .returned (.tuple #[.agg #[.int .i32 r1,.int .i64 r2],.bool r3]) ∧ Below w.heap.size w w' := by
 have hu83 := Tryd.underlying83
 have HT := Aside0.mk hT
 clear hT
 have HB := Aside0.mk (Below.refl w.heap.size w)
 have H : (if a1 < 0 then (some (0,0,false)) else (if a1 ≥ (a0.size : Int) then (some (0,0,false)) else ((unit_Boundary.f k a0 a1).bind fun t115 => (if t115 = true then (if 0 ≤ a1 then (if a1 ≤ (a0.size : Int) then ((unit_first.f (a0.extract (a1 : Int).toNat a0.size)).bind fun bt116 => (some (bt116.1,bt116.2,true))) else (none)) else (none)) else (some (0,0,false)))))) = some (r1,r2,r3) := h
 clear h
 by_cases c3 : a1 < 0
 ·rw [if_pos c3] at H
  have c3b0 : decide (a1 < 0) = true := decide_eq_true c3
  clear c3
  simp only [Option.some.injEq,Prod.mk.injEq] at H
  obtain ⟨rfl,rfl,rfl⟩ := H
  go_enter Tryd.func58,Tryd.ntmps58
  go_wp2_with (first | ((with_reducible refine gate_dst (N := 4) rfl ?_);(try (refine gate_guard (by rfl) ?_;dsimp only));refine box_event ?hg (N := 4) ?hd (cs := #[.int .i32 0,.int .i64 0]) (t := 83) ?hr ?_;(case hd => rfl);(case hg => rfl);(case hr => first | (go_simp;done) | (go_simp;rfl));intro gb114 hg w4 hbox hb;have n0_ := Aside0.mk (below_step au0 hb);have n1_ := Aside0.mk (hbox);have n2_ := Aside0.mk ((by rw [hg];exact (below_size au0) : w.heap.size ≤ gb114));have n3_ := Aside0.mk ((by rw [hg];exact (below_size au0) : w.heap.size ≤ gb114));clear HB;have HB := n0_;have BK114 := n1_;have GW114 := n2_;have GE114 := n3_;clear n0_ n1_ n2_ n3_;clear hb hbox hg;have hcz5_0 : w4.cell? ⟨gb114,0,none⟩ = some (.int .i32 0) := (blk_cell BK114.out 0).trans rfl;have hcz5_1 : w4.cell? ⟨gb114,1,none⟩ = some (.int .i64 0) := (blk_cell BK114.out 1).trans rfl;have hfz5_0 := blk_frozen BK114.out 0;have hfz5_1 := blk_frozen BK114.out 1))
  refine bodyPost_ret (results_ct rfl _ _ gb114 83 #[.int .i32 0,.int .i64 0] (0,0) _ rfl au9 Tryd.underlying83 rfl (by kernel_rfl)) rfl ?_
  exact ⟨au2,by repeat (first | (with_reducible first | exact HB.out | apply below_alloc | apply pw_below_drewN | apply below_drew1 | refine below_set ?_ GE114.out) | exact HB.out)⟩
 ·rw [if_neg c3] at H
  have c3b0 : decide (a1 < 0) = false := decide_eq_false c3
  clear c3
  by_cases c6 : a1 ≥ (a0.size : Int)
  ·rw [if_pos c6] at H
   have c6b0 : decide ((a0.size : Int) ≤ a1) = true := decide_eq_true c6
   clear c6
   simp only [Option.some.injEq,Prod.mk.injEq] at H
   obtain ⟨rfl,rfl,rfl⟩ := H
   go_enter Tryd.func58,Tryd.ntmps58
   go_wp2_with (first | ((with_reducible refine gate_dst (N := 4) rfl ?_);(try (refine gate_guard (by rfl) ?_;dsimp only));refine box_event ?hg (N := 4) ?hd (cs := #[.int .i32 0,.int .i64 0]) (t := 83) ?hr ?_;(case hd => rfl);(case hg => rfl);(case hr => first | (go_simp;done) | (go_simp;rfl));intro gb114 hg w7 hbox hb;have n0_ := Aside0.mk (below_step au0 hb);have n1_ := Aside0.mk (hbox);have n2_ := Aside0.mk ((by rw [hg];exact (below_size au0) : w.heap.size ≤ gb114));have n3_ := Aside0.mk ((by rw [hg];exact (below_size au0) : w.heap.size ≤ gb114));clear HB;have HB := n0_;have BK114 := n1_;have GW114 := n2_;have GE114 := n3_;clear n0_ n1_ n2_ n3_;clear hb hbox hg;have hcz8_0 : w7.cell? ⟨gb114,0,none⟩ = some (.int .i32 0) := (blk_cell BK114.out 0).trans rfl;have hcz8_1 : w7.cell? ⟨gb114,1,none⟩ = some (.int .i64 0) := (blk_cell BK114.out 1).trans rfl;have hfz8_0 := blk_frozen BK114.out 0;have hfz8_1 := blk_frozen BK114.out 1))
   refine bodyPost_ret (results_ct rfl _ _ gb114 83 #[.int .i32 0,.int .i64 0] (0,0) _ rfl au9 Tryd.underlying83 rfl (by kernel_rfl)) rfl ?_
   exact ⟨au2,by repeat (first | (with_reducible first | exact HB.out | apply below_alloc | apply pw_below_drewN | apply below_drew1 | refine below_set ?_ GE114.out) | exact HB.out)⟩
  ·rw [if_neg c6] at H
   have c6b0 : decide ((a0.size : Int) ≤ a1) = false := decide_eq_false c6
   clear c6
   replace H := Option.bind_eq_some_iff.mp H
   obtain ⟨t115,A90,H⟩ := H
   replace H : (if t115 = true then (if 0 ≤ a1 then (if a1 ≤ (a0.size : Int) then ((unit_first.f (a0.extract (a1 : Int).toNat a0.size)).bind fun bt116 => (some (bt116.1,bt116.2,true))) else (none)) else (none)) else (some (0,0,false))) = some (r1,r2,r3) := H
   have A9 := Aside0.mk A90
   clear A90
   by_cases c10 : t115 = true
   ·subst c10
    have H1 : (if 0 ≤ a1 then (if a1 ≤ (a0.size : Int) then ((unit_first.f (a0.extract (a1 : Int).toNat a0.size)).bind fun bt116 => (some (bt116.1,bt116.2,true))) else (none)) else (none)) = some (r1,r2,r3) := by rw [if_pos rfl] at H;exact H
    clear H
    have H := H1
    clear H1
    by_cases c11 : 0 ≤ a1
    ·rw [if_pos c11] at H
     have c11b0 := eq_true c11
     have c11b1 : decide (0 ≤ a1) = true := decide_eq_true c11
     clear c11
     by_cases c12 : a1 ≤ (a0.size : Int)
     ·rw [if_pos c12] at H
      have c12b0 := eq_true c12
      have c12b1 : decide (a1 ≤ (a0.size : Int)) = true := decide_eq_true c12
      clear c12
      replace H := Option.bind_eq_some_iff.mp H
      obtain ⟨⟨t116,t117⟩,A130,H⟩ := H
      replace H : (some (t116,t117,true)) = some (r1,r2,r3) := H
      have A13 := Aside0.mk A130
      clear A130
      simp only [Option.some.injEq,Prod.mk.injEq] at H
      obtain ⟨rfl,rfl,rfl⟩ := H
      go_enter Tryd.func58,Tryd.ntmps58
      go_wp2_with (first | ((with_reducible refine gate_dst (N := 4) rfl ?_);(try (refine gate_guard (by rfl) ?_;dsimp only));refine box_event ?hg (N := 4) ?hd (cs := #[.int .i32 0,.int .i64 0]) (t := 83) ?hr ?_;(case hd => rfl);(case hg => rfl);(case hr => first | (go_simp;done) | (go_simp;rfl));intro gb114 hg w14 hbox hb;have n0_ := Aside0.mk (below_step au0 hb);have n1_ := Aside0.mk (hbox);have n2_ := Aside0.mk ((by rw [hg];exact (below_size au0) : w.heap.size ≤ gb114));have n3_ := Aside0.mk ((by rw [hg];exact (below_size au0) : w.heap.size ≤ gb114));clear HB;have HB := n0_;have BK114 := n1_;have GW114 := n2_;have GE114 := n3_;clear n0_ n1_ n2_ n3_;clear hb hbox hg) | (go_at_call 57;(with_reducible refine (unit_Boundary.calls k a0 a1 true _ ?side1 A9.out).mono ?_);(case side1 => exact tabs_below HT.out au13);rintro e w15 ⟨rfl,hb⟩;have n0_ := Aside0.mk (blk_below (g := gb114) (o := .cells #[.int .i32 0,.int .i64 0] 83 (0,0)) (by (with_reducible repeat (first | refine blk_drewN ?_ _ | refine blk_drew ?_ | refine blk_alloc ?_ _));exact BK114.out) hb);have n1_ := Aside0.mk (below_step au13 hb);clear BK114;clear HB;have BK114 := n0_;have HB := n1_;clear n0_ n1_;(try clear hb);(try clear hb2);(try clear hk);(try clear hi)) | ((with_reducible refine gate_callee (f := 78) rfl ?_);refine goesL_ (some 24) rfl rfl Tryd.func78 (by kernel_rfl) rfl #[.string (a0.extract (a1 : Int).toNat a0.size)] rfl au1 ?_;(with_reducible refine (unit_first.calls (a0.extract (a1 : Int).toNat a0.size) t116 t117 _ ?side1 A13.out).mono ?_);(case side1 => exact tabs_below HT.out au13);rintro e w16 ⟨rfl,hb⟩;refine ⟨_,rfl,?_⟩;have n0_ := Aside0.mk (blk_below (g := gb114) (o := .cells #[.int .i32 0,.int .i64 0] 83 (0,0)) (by (with_reducible repeat (first | refine blk_drewN ?_ _ | refine blk_drew ?_ | refine blk_alloc ?_ _));exact BK114.out) hb);have n1_ := Aside0.mk (below_step au13 hb);clear BK114;clear HB;have BK114 := n0_;have HB := n1_;clear n0_ n1_;(try clear hb);(try clear hb2);(try clear hk);(try clear hi);have hcz17_0 : w16.cell? ⟨gb114,0,none⟩ = some (.int .i32 0) := (blk_cell BK114.out 0).trans rfl;have hcz17_1 : w16.cell? ⟨gb114,1,none⟩ = some (.int .i64 0) := (blk_cell BK114.out 1).trans rfl;have hfz17_0 := blk_frozen BK114.out 0;have hfz17_1 := blk_frozen BK114.out 1))
      refine bodyPost_ret (results_ct rfl _ _ gb114 83 #[.int .i32 t116,.int .i64 t117] (0,0) _ rfl (by (with_reducible repeat (first | refine blk_drewN ?_ _ | refine blk_drew ?_ | refine blk_alloc ?_ _));refine blk_put (cs := #[.int .i32 t116,.int .i64 0]) ?_ 1 _ rfl;(with_reducible repeat (first | refine blk_drewN ?_ _ | refine blk_drew ?_ | refine blk_alloc ?_ _));refine blk_put (cs := #[.int .i32 0,.int .i64 0]) ?_ 0 _ rfl;(with_reducible repeat (first | refine blk_drewN ?_ _ | refine blk_drew ?_ | refine blk_alloc ?_ _));exact BK114.out) Tryd.underlying83 rfl (by kernel_rfl)) rfl ?_
      exact ⟨au2,by repeat (first | (with_reducible first | exact HB.out | apply below_alloc | apply pw_below_drewN | apply below_drew1 | refine below_set ?_ GE114.out) | exact HB.out)⟩
     ·rw [if_neg c12] at H
      exact absurd H (by simp)
    ·rw [if_neg c11] at H
     exact absurd H (by simp)
   ·replace c10 := Bool.eq_false_iff.mpr c10
    subst c10
    have H1 : (some (0,0,false)) = some (r1,r2,r3) := by rw [if_neg (show ¬ (false = true) by decide)] at H;exact H
    clear H
    have H := H1
    clear H1
    simp only [Option.some.injEq,Prod.mk.injEq] at H
    obtain ⟨rfl,rfl,rfl⟩ := H
    go_enter Tryd.func58,Tryd.ntmps58
    go_wp2_with (first | ((with_reducible refine gate_dst (N := 4) rfl ?_);(try (refine gate_guard (by rfl) ?_;dsimp only));refine box_event ?hg (N := 4) ?hd (cs := #[.int .i32 0,.int .i64 0]) (t := 83) ?hr ?_;(case hd => rfl);(case hg => rfl);(case hr => first | (go_simp;done) | (go_simp;rfl));intro gb114 hg w18 hbox hb;have n0_ := Aside0.mk (below_step au0 hb);have n1_ := Aside0.mk (hbox);have n2_ := Aside0.mk ((by rw [hg];exact (below_size au0) : w.heap.size ≤ gb114));have n3_ := Aside0.mk ((by rw [hg];exact (below_size au0) : w.heap.size ≤ gb114));clear HB;have HB := n0_;have BK114 := n1_;have GW114 := n2_;have GE114 := n3_;clear n0_ n1_ n2_ n3_;clear hb hbox hg) | (go_at_call 57;(with_reducible refine (unit_Boundary.calls k a0 a1 false _ ?side1 A9.out).mono ?_);(case side1 => exact tabs_below HT.out au13);rintro e w19 ⟨rfl,hb⟩;have n0_ := Aside0.mk (blk_below (g := gb114) (o := .cells #[.int .i32 0,.int .i64 0] 83 (0,0)) (by (with_reducible repeat (first | refine blk_drewN ?_ _ | refine blk_drew ?_ | refine blk_alloc ?_ _));exact BK114.out) hb);have n1_ := Aside0.mk (below_step au13 hb);clear BK114;clear HB;have BK114 := n0_;have HB := n1_;clear n0_ n1_;(try clear hb);(try clear hb2);(try clear hk);(try clear hi);have hcz20_0 : w19.cell? ⟨gb114,0,none⟩ = some (.int .i32 0) := (blk_cell BK114.out 0).trans rfl;have hcz20_1 : w19.cell? ⟨gb114,1,none⟩ = some (.int .i64 0) := (blk_cell BK114.out 1).trans rfl;have hfz20_0 := blk_frozen BK114.out 0;have hfz20_1 := blk_frozen BK114.out 1))
    refine bodyPost_ret (results_ct rfl _ _ gb114 83 #[.int .i32 0,.int .i64 0] (0,0) _ rfl au9 Tryd.underlying83 rfl (by kernel_rfl)) rfl ?_
    exact ⟨au2,by repeat (first | (with_reducible first | exact HB.out | apply below_alloc | apply pw_below_drewN | apply below_drew1 | refine below_set ?_ GE114.out) | exact HB.out)⟩
end Go.Proofs.YtgdpnmikcopkmaaDoor.U
end
section
namespace Go.Proofs.YtgdpnmikcopkmaaDoor.Pu
open Go Go.RowKit Go.Proofs.YtgdpnmikcopkmaaDoor.Mu Go.Proofs.YtgdpnmikcopkmaaDoor.U Go.Proofs.YtgdpnmikcopkmaaDoorW.PrintWords Go.Proofs.YtgdpnmikcopkmaaDoorW.PrintLast Go.Proofs.YtgdpnmikcopkmaaDoorW.PrintMore
theorem w64 {x : Int} (h : -9223372036854775808 ≤ x) (h2 : x < 9223372036854775808) : wrap64 x = x := by unfold wrap64;omega
theorem w32 {x : Int} (h : -2147483648 ≤ x) (h2 : x < 2147483648) : wrap32 x = x := by unfold wrap32;omega
theorem ev_pos {α : Type} {c : Prop} [Decidable c] {a b : Nat → Option α} {v : α} (hc : c) (h : Ev a v) : Ev (fun k => if c then a k else b k) v := Ev.congr (fun _ => if_pos hc) h
theorem ev_neg {α : Type} {c : Prop} [Decidable c] {a b : Nat → Option α} {v : α} (hc : ¬ c) (h : Ev b v) : Ev (fun k => if c then a k else b k) v := Ev.congr (fun _ => if_neg hc) h
theorem ev_some {α β : Type} {o : Option α} {f : Nat → α → Option β} {a : α} {v : β} (ho : o = some a) (h : Ev (fun n => f n a) v) : Ev (fun k => o.bind (f k)) v := Ev.congr (fun k => by rw [ho];rfl) h
theorem ev_now {α : Type} {v v' : α} (h : v = v') : Ev (fun _ => some v) v' := ⟨0,fun _ _ => by rw [h]⟩
theorem around_go (s : ByteArray) (hs : s.size ≤ 1099511627776) (i : Nat) (hi : i ≤ s.size) (hb : Bd s i) : ∀ n x : Nat,x + n = i → Ev (fun k => unit_around.l0 k s i x) ((i : Int),((if i = s.size then i else i + uN s i : Nat) : Int)) := by
 intro n
 induction n with
 | zero =>
  intro x hx
  obtain rfl : x = i := by omega
  refine Ev.step (fun k => unit_around.l0.eq_2 ..) (ev_neg (by omega) ?_)
  by_cases h : x = s.size
  ·rw [if_pos h];exact ev_pos (by omega) (Ev.now _)
  ·have := uN_le4 s x
   refine ev_neg (by omega) (ev_pos (by omega) (ev_pos (by omega) (ev_some (first_at s x (by omega)) (ev_now ?_))))
   show ((x : Int),wrap64 ((x : Int) + (uN s x : Int))) = _
   rw [w64 (by omega) (by omega),if_neg h,Int.natCast_add]
 | succ n ih =>
  intro x hx
  have h2 := hb.2 x (by omega)
  refine Ev.step (fun k => unit_around.l0.eq_2 ..) (ev_pos (by omega) (ev_pos (by omega) (ev_pos (by omega) (ev_some (first_at s x (by omega)) (ev_neg ?_ ?_)))))
  ·show ¬ wrap64 ((x : Int) + (uN s x : Int)) > i
   rw [w64 (by omega) (by omega)];omega
  ·rw [w64 (by omega) (by omega)]
   exact ih (x + 1) (by omega)
theorem around_in (s : ByteArray) (hs : s.size ≤ 1099511627776) (i j : Nat) (hi : i ≤ s.size) (hj : j < i) (h : i < j + uN s j) : ∀ n x : Nat,x + n = j → Ev (fun k => unit_around.l0 k s i x) ((j : Int),((j + uN s j : Nat) : Int)) := by
 intro n
 induction n with
 | zero =>
  intro x hx
  obtain rfl : x = j := by omega
  have := uN_le s x (by omega)
  have e : wrap64 ((x : Int) + (uN s x : Int)) = (x : Int) + (uN s x : Int) := w64 (by omega) (by omega)
  refine Ev.step (fun k => unit_around.l0.eq_2 ..) (ev_pos (by omega) (ev_pos (by omega) (ev_pos (by omega) (ev_some (first_at s x (by omega)) (ev_pos ?_ (ev_now ?_))))))
  ·show wrap64 ((x : Int) + (uN s x : Int)) > i
   rw [e];omega
  ·show ((x : Int),wrap64 ((x : Int) + (uN s x : Int))) = _
   rw [e,Int.natCast_add]
 | succ n ih =>
  intro x hx
  have h2 : x + uN s x ≤ j := by
   by_cases h3 : j < x + uN s x
   ·have := inner_one s x j (by omega) h3;omega
   ·omega
  refine Ev.step (fun k => unit_around.l0.eq_2 ..) (ev_pos (by omega) (ev_pos (by omega) (ev_pos (by omega) (ev_some (first_at s x (by omega)) (ev_neg ?_ ?_)))))
  ·show ¬ wrap64 ((x : Int) + (uN s x : Int)) > i
   rw [w64 (by omega) (by omega)];omega
  ·rw [w64 (by omega) (by omega)]
   exact ih (x + 1) (by omega)
/-- What around answers. -/
theorem around_ans (s : ByteArray) (hs : s.size ≤ 1099511627776) (i : Nat) (hi : i ≤ s.size) : ∃ lo hi : Nat,Ev (fun k => unit_around.f k s i) ((lo : Int),(hi : Int)) ∧ Bd s lo ∧ Bd s hi ∧ lo ≤ i ∧ i ≤ hi ∧ (lo = i ↔ Bd s i) ∧ (i < s.size → i < hi) ∧
  (∀ e,Bd s e → e ≤ i → e ≤ lo) ∧ (∀ e,Bd s e → i < e → hi ≤ e) ∧ (hi = i → i = s.size) := by
 have hm : ∃ x : Nat,mx 0 (wrap64 ((i : Int) - 3)) = x ∧ x = i - 3 := by
  rw [w64 (by omega) (by omega)]
  unfold mx
  split
  ·exact ⟨i - 3,by omega,rfl⟩
  ·exact ⟨0,rfl,by omega⟩
 obtain ⟨x,hx,hx2⟩ := hm
 have hf : ∀ k,unit_around.f k s i = unit_around.l0 k s i x := fun k => by unfold unit_around.f;rw [hx]
 by_cases hb : Bd s i
 ·refine ⟨i,if i = s.size then i else i + uN s i,Ev.congr hf (around_go s hs i hi hb (i - x) x (by omega)),hb,?_,Nat.le_refl _,?_,by simp [hb],?_,fun e _ h => h,?_,?_⟩
  ·split
   ·exact hb
   ·exact bd_next s i hb (by omega)
  ·split <;> omega
  ·intro h;rw [if_neg (by omega)];have := uN_pos s i;omega
  ·intro e he hie
   have h1 := he.1
   rw [if_neg (by omega)]
   exact he.2 i hie
  ·intro h;have := uN_pos s i;split at h <;> omega
 ·obtain ⟨j,hj,hj2,hjb,hj3⟩ := within s i hi hb
  refine ⟨j,j + uN s j,Ev.congr hf (around_in s hs i j hi hj hj2 (j - x) x (by omega)),hjb,bd_next s j hjb (by omega),by omega,by omega,?_,by omega,?_,?_,by omega⟩
  ·exact ⟨fun h => by omega,fun h => absurd h hb⟩
  ·intro e he hei
   rcases Nat.lt_trichotomy e i with h | h | h
   ·by_cases h5 : j < e
    ·exact absurd he (not_bd_inner s j e h5 (by omega))
    ·omega
   ·subst h;exact absurd he hb
   ·omega
  ·intro e he hie
   by_cases h5 : e < j + uN s j
   ·exact absurd he (not_bd_inner s j e (by omega) h5)
   ·omega
def BdI (s : ByteArray) (a : Int) : Prop := 0 ≤ a ∧ Bd s a.toNat
noncomputable def bdB (s : ByteArray) (a : Int) : Bool := @decide (BdI s a) (Classical.propDecidable _)
theorem bdB_iff (s : ByteArray) (a : Int) : bdB s a = true ↔ BdI s a := by unfold bdB;simp
theorem bdI_nat (s : ByteArray) (i : Nat) : BdI s i ↔ Bd s i := by unfold BdI;simp
theorem bdI_le {s : ByteArray} {a : Int} (h : BdI s a) : 0 ≤ a ∧ a ≤ s.size := ⟨h.1,by have := h.2.1;have := h.1;omega⟩
def DownS (s : ByteArray) (a d : Int) : Prop := BdI s d ∧ (d ≤ a ∨ d = 0) ∧ ∀ e,BdI s e → e ≤ a → e ≤ d
def UpS (s : ByteArray) (a d : Int) : Prop := BdI s d ∧ (a ≤ d ∨ d = s.size) ∧ ∀ e,BdI s e → a ≤ e → d ≤ e
def NextS (s : ByteArray) (a d : Int) : Prop := BdI s d ∧ (a < d ∨ d = s.size) ∧ ∀ e,BdI s e → a < e → d ≤ e
def PrevS (s : ByteArray) (a d : Int) : Prop := BdI s d ∧ (d < a ∨ d = 0) ∧ ∀ e,BdI s e → e < a → e ≤ d
theorem DownS.one {s : ByteArray} {a d d' : Int} (h : DownS s a d) (h' : DownS s a d') : d = d' := by
 have := bdI_le h.1;have := bdI_le h'.1
 rcases h.2.1 with h1 | h1 <;> rcases h'.2.1 with h2 | h2
 ·have := h.2.2 d' h'.1 h2;have := h'.2.2 d h.1 h1;omega
 ·have := h'.2.2 d h.1 h1;omega
 ·have := h.2.2 d' h'.1 h2;omega
 ·omega
theorem PrevS.one {s : ByteArray} {a d d' : Int} (h : PrevS s a d) (h' : PrevS s a d') : d = d' := by
 have := bdI_le h.1;have := bdI_le h'.1
 rcases h.2.1 with h1 | h1 <;> rcases h'.2.1 with h2 | h2
 ·have := h.2.2 d' h'.1 h2;have := h'.2.2 d h.1 h1;omega
 ·have := h'.2.2 d h.1 h1;omega
 ·have := h.2.2 d' h'.1 h2;omega
 ·omega
theorem UpS.one {s : ByteArray} {a d d' : Int} (h : UpS s a d) (h' : UpS s a d') : d = d' := by
 have := bdI_le h.1;have := bdI_le h'.1
 rcases h.2.1 with h1 | h1 <;> rcases h'.2.1 with h2 | h2
 ·have := h.2.2 d' h'.1 h2;have := h'.2.2 d h.1 h1;omega
 ·have := h'.2.2 d h.1 h1;omega
 ·have := h.2.2 d' h'.1 h2;omega
 ·omega
theorem NextS.one {s : ByteArray} {a d d' : Int} (h : NextS s a d) (h' : NextS s a d') : d = d' := by
 have := bdI_le h.1;have := bdI_le h'.1
 rcases h.2.1 with h1 | h1 <;> rcases h'.2.1 with h2 | h2
 ·have := h.2.2 d' h'.1 h2;have := h'.2.2 d h.1 h1;omega
 ·have := h'.2.2 d h.1 h1;omega
 ·have := h.2.2 d' h'.1 h2;omega
 ·omega
theorem boundary_ans (s : ByteArray) (hs : s.size ≤ 1099511627776) (a : Int) : Ev (fun k => unit_Boundary.f k s a) (bdB s a) := by
 have hd := bdB_iff s a
 unfold unit_Boundary.f
 by_cases h0 : a < 0
 ·simp only [h0,if_true]
  have : bdB s a = false := by by_cases h : bdB s a = true;(have := bdI_le (hd.1 h);omega);simpa using h
  rw [this];exact Ev.now _
 ·by_cases h1 : a > (s.size : Int)
  ·simp only [h0,h1,if_true,if_false]
   have : bdB s a = false := by by_cases h : bdB s a = true;(have := bdI_le (hd.1 h);omega);simpa using h
   rw [this];exact Ev.now _
  ·simp only [h0,h1,if_false]
   obtain ⟨i,rfl⟩ : ∃ i : Nat,a = i := ⟨a.toNat,by omega⟩
   obtain ⟨lo,hi,hE,_,_,_,_,hiff,_⟩ := around_ans s hs i (by omega)
   refine Ev.bind hE ?_
   have : bdB s i = ((lo : Int) == (i : Int)) := by
    rw [Bool.eq_iff_iff,hd,bdI_nat,← hiff,beq_iff_eq];omega
   rw [this];exact Ev.now _
theorem clamp (s : ByteArray) (a : Int) : ∃ c : Nat,mn (mx a 0) (s.size : Int) = c ∧ c ≤ s.size ∧ ((c : Int) = a ∨ (a < 0 ∧ c = 0) ∨ (a > s.size ∧ c = s.size)) := by
 unfold mn mx
 split <;> split
 ·exact ⟨s.size,by omega,by omega,by omega⟩
 ·exact ⟨0,by omega,by omega,by omega⟩
 ·exact ⟨s.size,by omega,by omega,by omega⟩
 ·exact ⟨a.toNat,by omega,by omega,by omega⟩
theorem down_ans (s : ByteArray) (hs : s.size ≤ 1099511627776) (a : Int) : ∃ d,Ev (fun k => unit_Down.f k s a) d ∧ DownS s a d := by
 obtain ⟨c,hc,hcs,hca⟩ := clamp s a
 obtain ⟨lo,hi,hE,hlo,hhi,h1,h2,h3,h4,h5,h6,h7⟩ := around_ans s hs c hcs
 refine ⟨lo,?_,(bdI_nat _ _).2 hlo,?_,fun e he hea => ?_⟩
 ·unfold unit_Down.f;rw [hc];exact Ev.bind hE (Ev.now _)
 ·omega
 ·have h8 := bdI_le he
  have := h5 e.toNat he.2 (by omega)
  omega
theorem next_ans (s : ByteArray) (hs : s.size ≤ 1099511627776) (a : Int) : ∃ d,Ev (fun k => unit_Next.f k s a) d ∧ NextS s a d := by
 by_cases h0 : a < 0
 ·refine ⟨0,?_,(bdI_nat s 0).2 (bd_zero s),.inl h0,fun e he _ => (bdI_le he).1⟩
  unfold unit_Next.f;simp only [h0,if_true];exact Ev.now _
 ·have hm : ∃ c : Nat,mn a (s.size : Int) = c ∧ c ≤ s.size ∧ ((c : Int) = a ∨ (a > s.size ∧ c = s.size)) := by
   unfold mn
   split
   ·exact ⟨s.size,rfl,by omega,by omega⟩
   ·exact ⟨a.toNat,by omega,by omega,by omega⟩
  obtain ⟨c,hc,hcs,hca⟩ := hm
  obtain ⟨lo,hi,hE,hlo,hhi,h1,h2,h3,h4,h5,h6,h7⟩ := around_ans s hs c hcs
  refine ⟨hi,?_,(bdI_nat _ _).2 hhi,?_,fun e he hea => ?_⟩
  ·unfold unit_Next.f;simp only [h0,if_false,hc];exact Ev.bind hE (Ev.now _)
  ·have := hhi.1;omega
  ·have h8 := bdI_le he
   have := h6 e.toNat he.2 (by omega)
   omega
theorem prev_ans (s : ByteArray) (hs : s.size ≤ 1099511627776) (a : Int) (ha : a ≤ 9223372036854775807) : ∃ d,Ev (fun k => unit_Prev.f k s a) d ∧ PrevS s a d := by
 by_cases h0 : a ≤ 0
 ·refine ⟨0,?_,(bdI_nat s 0).2 (bd_zero s),.inr rfl,fun e he h => by have := bdI_le he;omega⟩
  unfold unit_Prev.f;simp only [h0,if_true];exact Ev.now _
 ·obtain ⟨c,hc,hcs⟩ : ∃ c : Int,mn (wrap64 (a - 1)) (s.size : Int) = c ∧ (c = a - 1 ∨ (a - 1 > s.size ∧ c = s.size)) := by
   rw [w64 (by omega) (by omega)]
   unfold mn
   split
   ·exact ⟨s.size,rfl,by omega⟩
   ·exact ⟨a - 1,by omega,by omega⟩
  obtain ⟨d,hE,h1,h2,h3⟩ := down_ans s hs c
  refine ⟨d,?_,h1,?_,fun e he hea => ?_⟩
  ·unfold unit_Prev.f;simp only [h0,if_false,hc];exact Ev.bind hE (Ev.now _)
  ·omega
  ·have h8 := bdI_le he
   exact h3 e he (by omega)
noncomputable def atA (s : ByteArray) (a : Int) : Int × Int × Bool := if bdB s a = true ∧ a < s.size then (uC s a.toNat,(uN s a.toNat : Int),true) else (0,0,false)
theorem at_ans (s : ByteArray) (hs : s.size ≤ 1099511627776) (a : Int) : Ev (fun k => unit_At.f k s a) (atA s a) := by
 have hd := bdB_iff s a
 unfold unit_At.f atA
 by_cases h0 : a < 0
 ·simp only [h0,if_true]
  rw [if_neg (by rw [hd];intro h;have := bdI_le h.1;omega)];exact Ev.now _
 ·by_cases h1 : a ≥ (s.size : Int)
  ·simp only [h0,h1,if_true,if_false]
   rw [if_neg (by omega)];exact Ev.now _
  ·simp only [h0,h1,if_false]
   refine Ev.bind (boundary_ans s hs a) ?_
   by_cases hb : bdB s a = true
   ·simp only [hb,if_true,show 0 ≤ a by omega,show a ≤ (s.size : Int) by omega,first_at s a.toNat (by omega),Option.bind_some]
    rw [if_pos ⟨trivial,by omega⟩];exact Ev.now _
   ·simp only [hb]
    simpa using Ev.now _
end Go.Proofs.YtgdpnmikcopkmaaDoor.Pu
end
section
namespace Go.Proofs.YtgdpnmikcopkmaaDoor.Pu
open Go Go.RowKit Go.Proofs.YtgdpnmikcopkmaaDoor.U Go.Proofs.YtgdpnmikcopkmaaDoorW.PrintWords Go.Proofs.YtgdpnmikcopkmaaDoorW.PrintLast Go.Proofs.YtgdpnmikcopkmaaDoorW.PrintMore
set_option linter.unusedVariables false
def marksL : List Int := (width_marks.f).getD []
def widesL : List Int := (width_wides.f).getD []
theorem marks_eq : width_marks.f = some marksL := rfl
theorem wides_eq : width_wides.f = some widesL := rfl
theorem marks_ok : okTab marksL = true := by kernel_rfl
theorem wides_ok : okTab widesL = true := by kernel_rfl
theorem within_marks (c : Int) : width_within_rune.f marksL c = some (withinB marksL c) := by
 unfold width_within_rune.f;rw [if_pos ⟨by decide,by decide,marks_ok⟩]
theorem within_wides (c : Int) : width_within_rune.f widesL c = some (withinB widesL c) := by
 unfold width_within_rune.f;rw [if_pos ⟨by decide,by decide,wides_ok⟩]
attribute [local irreducible] marksL widesL
def cls (c : Int) : Int := if c < 0 ∨ c > 1114111 ∨ (55296 ≤ c ∧ c ≤ 57343) then 5 else if c = 10 then 1 else if c < 32 ∨ (127 ≤ c ∧ c ≤ 159) then 2 else if withinB marksL c = true then 3 else if withinB widesL c = true then 4 else 0
theorem ev_val {α : Type} {c : Prop} [Decidable c] {g : Nat → Option α} {v v' : α} (h : c → Ev g v) (h' : ¬ c → Ev g v') : Ev g (if c then v else v') := by
 split
 ·rename_i hc;exact h hc
 ·rename_i hc;exact h' hc
theorem class_j1 (c : Int) (b : Bool) : Ev (fun k => width_Class.j1 k c b) (if b = true then 2 else if withinB marksL c = true then 3 else if withinB widesL c = true then 4 else 0) :=
 Ev.step (fun k => width_Class.j1.eq_2 ..) (ev_val (fun hb => ev_pos hb (Ev.now _)) (fun hb => ev_neg hb (ev_some (a := marksL) marks_eq (ev_some (a := withinB marksL c) (within_marks c) (ev_val (fun h => ev_pos h (Ev.now _)) (fun h => ev_neg h
  (ev_some (a := widesL) wides_eq (ev_some (a := withinB widesL c) (within_wides c) (ev_val (fun h2 => ev_pos h2 (Ev.now _)) (fun h2 => ev_neg h2 (Ev.now _)))))))))))
theorem class_j0 (c : Int) (b : Bool) : Ev (fun k => width_Class.j0 k c b) (if b = true then 5 else if c = 10 then 1 else if c < 32 ∨ (127 ≤ c ∧ c ≤ 159) then 2 else if withinB marksL c = true then 3 else if withinB widesL c = true then 4 else 0) := by
 have hy : ∀ d : Bool,d = true → Ev (fun k => width_Class.j1 k c d) 2 := fun d hd => by have := class_j1 c d;rwa [if_pos hd] at this
 have hn : ∀ d : Bool,¬ d = true → Ev (fun k => width_Class.j1 k c d) (if withinB marksL c = true then 3 else if withinB widesL c = true then 4 else 0) := fun d hd => by have := class_j1 c d;rwa [if_neg hd] at this
 refine Ev.step (fun k => width_Class.j0.eq_2 ..) (ev_val (fun hb => ev_pos hb (Ev.now _)) (fun hb => ev_neg hb (ev_val (fun h => ev_pos h (Ev.now _)) (fun h => ev_neg h (ev_val (fun h2 => ?_) (fun h2 => ?_))))))
 ·by_cases h3 : c < 32
  ·exact ev_pos h3 (hy _ rfl)
  ·exact ev_neg h3 (ev_pos (by omega) (hy _ (by rw [decide_eq_true_eq];omega)))
 ·refine ev_neg (by omega) ?_
  by_cases h3 : c ≥ 127
  ·exact ev_pos h3 (hn _ (by rw [decide_eq_true_eq];omega))
  ·exact ev_neg h3 (hn _ (by simp))
theorem class_ans (c : Int) : Ev (fun k => width_Class.f k c) (cls c) := by
 have hy : ∀ d : Bool,d = true → Ev (fun k => width_Class.j0 k c d) 5 := fun d hd => by have := class_j0 c d;rwa [if_pos hd] at this
 have hn : ∀ d : Bool,¬ d = true → Ev (fun k => width_Class.j0 k c d) (if c = 10 then 1 else if c < 32 ∨ (127 ≤ c ∧ c ≤ 159) then 2 else if withinB marksL c = true then 3 else if withinB widesL c = true then 4 else 0) := fun d hd => by have := class_j0 c d;rwa [if_neg hd] at this
 unfold width_Class.f cls
 refine ev_val (fun h => ?_) (fun h => ?_)
 ·by_cases h1 : c < 0
  ·exact ev_pos h1 (hy _ rfl)
  ·refine ev_neg h1 ?_
   by_cases h2 : c > 1114111
   ·exact ev_pos h2 (hy _ rfl)
   ·exact ev_neg h2 (ev_pos (by omega) (hy _ (by rw [decide_eq_true_eq];omega)))
 ·refine ev_neg (by omega) (ev_neg (by omega) ?_)
  by_cases h3 : c ≥ 55296
  ·exact ev_pos h3 (hn _ (by rw [decide_eq_true_eq];omega))
  ·exact ev_neg h3 (hn _ (by simp))
end Go.Proofs.YtgdpnmikcopkmaaDoor.Pu
end
section
namespace Go.Proofs.YtgdpnmikcopkmaaDoor.Pu
open Go Go.RowKit Go.Proofs.YtgdpnmikcopkmaaDoor.Mu Go.Proofs.YtgdpnmikcopkmaaDoor.U
set_option linter.unusedVariables false
def fffdS : ByteArray := ⟨#[239,191,189]⟩
/-- The numbers of a sequence's inside. -/
def numsGo : List UInt8 → List Int → Option (List Int)
 | [],acc => some acc
 | c :: r,acc =>
  if 48 ≤ c.toNat ∧ c.toNat ≤ 57 then numsGo r (acc.set (acc.length - 1) (min (acc.getD (acc.length - 1) 0 * 10 + ((c.toNat : Int) - 48)) 65535))
  else if c.toNat = 59 ∧ acc.length = 1 then numsGo r (acc ++ [0]) else none
def numsL (s : ByteArray) : List Int := (numsGo s.data.toList [0]).getD []
def numsB (s : ByteArray) : Bool := (numsGo s.data.toList [0]).isSome
/-- Where a sequence's inside ends. -/
def escJ (s : ByteArray) : Nat → Nat → Nat
 | 0,j => j
 | k + 1,j => if j < s.size ∧ 32 ≤ byt s j ∧ byt s j ≤ 63 then escJ s k (j + 1) else j
def escE (s : ByteArray) : Nat := escJ s s.size 2
def Sc.escape (s : Sc) (all : ByteArray) : Sc × Nat :=
 if all.size = 1 then (s,0) else if byt all 1 = 27 then ({ s with marks := false },1) else if byt all 1 ≠ 91 then ({ s with marks := false },2)
 else if escE all = all.size then (s,0)
 else if byt all (escE all) < 64 ∨ 126 < byt all (escE all) then ({ s with marks := false },escE all)
 else (({ s with marks := false } : Sc).carry (byt all (escE all)) (numsL (all.extract 2 (escE all))) (numsB (all.extract 2 (escE all))),escE all + 1)
def Sc.unit (s : Sc) (cl : Int) (t : ByteArray) : Sc :=
 if cl = 3 then s.mark t else if cl = 0 then s.write t 1 else if cl = 5 then s.write fffdS 1
 else if cl = 4 then (if s.w = 1 then s.write fffdS 1 else s.write t 2) else { s with full := false,marks := false }
def Sc.step (s : Sc) (all : ByteArray) : Sc × Nat :=
 if byt all 0 = 27 then s.escape all
 else if byt all 0 < 32 ∨ byt all 0 = 127 then (s.control (byt all 0),1)
 else if fullB all = false then (s,0)
 else (s.unit (cls (uC all 0)) (all.extract 0 (uN all 0)),uN all 0)
def Sc.feedN : Nat → Sc → ByteArray → Sc × ByteArray
 | 0,s,all => (s,all)
 | k + 1,s,all => if all.size = 0 then (s,all) else if (s.step all).2 = 0 then ((s.step all).1,all) else feedN k (s.step all).1 (all.extract (s.step all).2 all.size)
/-- A screen and what it holds back: bytes come. -/
def feedS (p : Sc × ByteArray) (b : ByteArray) : Sc × ByteArray := Sc.feedN (p.2 ++ b).size p.1 (p.2 ++ b)
theorem escJ_bd (s : ByteArray) : ∀ k j,j ≤ escJ s k j ∧ (j ≤ s.size → escJ s k j ≤ s.size)
 | 0,j => ⟨Nat.le_refl _,fun h => h⟩
 | k + 1,j => by
  unfold escJ
  split
  ·rename_i h
   have := escJ_bd s k (j + 1)
   exact ⟨by omega,fun _ => this.2 (by omega)⟩
  ·exact ⟨Nat.le_refl _,fun h => h⟩
theorem numsGo_ok : ∀ (l : List UInt8) (acc r : List Int),numsGo l acc = some r → (∀ x ∈ acc,0 ≤ x ∧ x ≤ 65535) → 1 ≤ acc.length → acc.length ≤ 2 → (∀ x ∈ r,0 ≤ x ∧ x ≤ 65535) ∧ 1 ≤ r.length ∧ r.length ≤ 2
 | [],acc,r,h,ha,h1,h2 => by
  unfold numsGo at h
  injection h with h
  subst h
  exact ⟨ha,h1,h2⟩
 | c :: l,acc,r,h,ha,h1,h2 => by
  unfold numsGo at h
  split at h
  ·refine numsGo_ok l _ r h ?_ (by rw [List.length_set];exact h1) (by rw [List.length_set];exact h2)
   intro x hx
   rcases List.mem_or_eq_of_mem_set hx with hx | rfl
   ·exact ha x hx
   ·have : 0 ≤ acc.getD (acc.length - 1) 0 := by
     rw [List.getD_eq_getElem?_getD,List.getElem?_eq_getElem (by omega)]
     exact (ha _ (List.getElem_mem _)).1
    omega
  ·split at h
   ·rename_i hc
    refine numsGo_ok l _ r h ?_ (by simp) (by simp;omega)
    intro x hx
    rcases List.mem_append.1 hx with hx | hx
    ·exact ha x hx
    ·obtain rfl := List.mem_singleton.1 hx;omega
   ·cases h
/-- What a step keeps. -/
theorem Sc.Ok.mark {s : Sc} (h : s.Ok) (t : ByteArray) : (s.mark t).Ok := by
 unfold Sc.mark
 split
 ·rename_i hm
  obtain ⟨hm1,hm2⟩ := h.ma hm
  refine { h with rl := ?_,cl := ?_,ma := fun _ => ⟨?_,?_⟩ }
  ·show (s.rows.set s.lr _).length ≤ s.h
   rw [List.length_set];exact h.rl
  ·intro row hr
   rcases List.mem_or_eq_of_mem_set hr with hr | rfl
   ·exact h.cl row hr
   ·show ((s.rows.getD s.lr []).set s.lc _).length ≤ s.w
    rw [List.length_set]
    refine h.cl _ ?_
    rw [List.getD_eq_getElem?_getD,List.getElem?_eq_getElem hm1]
    exact List.getElem_mem _
  ·show s.lr < (s.rows.set s.lr _).length
   rw [List.length_set];exact hm1
  ·show s.lc < ((s.rows.set s.lr _).getD s.lr []).length
   rw [List.getD_eq_getElem?_getD,List.getElem?_set_self hm1,Option.getD_some,List.length_set]
   exact hm2
 ·exact h
theorem Sc.Ok.unit {s : Sc} (h : s.Ok) (cl : Int) (t : ByteArray) : (s.unit cl t).Ok := by
 have := h.w1
 unfold Sc.unit
 split
 ·exact h.mark t
 split
 ·exact h.write t 1 (by omega) (by omega) (by omega)
 split
 ·exact h.write _ 1 (by omega) (by omega) (by omega)
 split
 ·split
  ·exact h.write _ 1 (by omega) (by omega) (by omega)
  ·exact h.write t 2 (by omega) (by omega) (by omega)
 ·exact h.unfull.unmark
theorem Sc.Ok.escape {s : Sc} (h : s.Ok) (all : ByteArray) : (s.escape all).1.Ok := by
 unfold Sc.escape
 split
 ·exact h
 split
 ·exact h.unmark
 split
 ·exact h.unmark
 split
 ·exact h
 split
 ·exact h.unmark
 ·exact h.unmark.carry rfl _ _ _
theorem Sc.Ok.step {s : Sc} (h : s.Ok) (all : ByteArray) : (s.step all).1.Ok := by
 unfold Sc.step
 split
 ·exact h.escape all
 split
 ·exact h.control _
 split
 ·exact h
 ·exact h.unit _ _
theorem Sc.Ok.feedN : ∀ (k : Nat) {s : Sc} (h : s.Ok) (all : ByteArray),(Sc.feedN k s all).1.Ok
 | 0,s,h,all => h
 | k + 1,s,h,all => by
  unfold Sc.feedN
  split
  ·exact h
  split
  ·exact h.step all
  ·exact Sc.Ok.feedN k (h.step all) _
theorem feedS_ok {p : Sc × ByteArray} (h : p.1.Ok) (b : ByteArray) : (feedS p b).1.Ok := Sc.Ok.feedN _ h _
theorem step_zero {s : Sc} {all : ByteArray} (h0 : 0 < all.size) (h : (s.step all).2 = 0) : (s.step all).1 = s := by
 have := uN_pos all 0
 unfold Sc.step at h ⊢
 split at h
 ·rename_i h1
  rw [if_pos h1]
  unfold Sc.escape at h ⊢
  have he := (escJ_bd all all.size 2).1
  split at h
  ·rename_i h2;rw [if_pos h2]
  ·rename_i h2;rw [if_neg h2]
   split at h
   ·cases h
   ·rename_i h3;rw [if_neg h3]
    split at h
    ·cases h
    ·rename_i h4;rw [if_neg h4]
     split at h
     ·rename_i h5;rw [if_pos h5]
     ·split at h
      ·have h : escE all = 0 := h
       unfold escE at h
       omega
      ·cases h
 ·rename_i h1;rw [if_neg h1]
  split at h
  ·cases h
  ·rename_i h2;rw [if_neg h2]
   split at h
   ·rename_i h3;rw [if_pos h3]
   ·have h : uN all 0 = 0 := h
    omega
theorem step_le (s : Sc) (all : ByteArray) (h0 : 0 < all.size) : (s.step all).2 ≤ all.size := by
 have hn := uN_le all 0 h0
 unfold Sc.step
 split
 ·unfold Sc.escape
  have he := (escJ_bd all all.size 2)
  split
  ·exact Nat.zero_le _
  split
  ·exact h0
  split
  ·show 2 ≤ all.size;omega
  split
  ·exact Nat.zero_le _
  have h2 := he.2 (by omega)
  rename_i h5
  unfold escE at h5 ⊢
  split
  ·exact h2
  ·show escJ all all.size 2 + 1 ≤ all.size;omega
 split
 ·exact h0
 split
 ·exact Nat.zero_le _
 ·show uN all 0 ≤ all.size;omega
/-- What is held back is no longer than what came. -/
theorem feedN_rest : ∀ (k : Nat) (s : Sc) (all : ByteArray),(Sc.feedN k s all).2.size ≤ all.size
 | 0,s,all => Nat.le_refl _
 | k + 1,s,all => by
  unfold Sc.feedN
  split
  ·exact Nat.le_refl _
  split
  ·exact Nat.le_refl _
  ·have := feedN_rest k (s.step all).1 (all.extract (s.step all).2 all.size)
   rw [size_extract _ _ _ (Nat.le_refl _)] at this
   omega
end Go.Proofs.YtgdpnmikcopkmaaDoor.Pu
end
section
namespace Go.Proofs.YtgdpnmikcopkmaaDoor.U
open Go.RowKit Go.Proofs.YtgdpnmikcopkmaaDoorW.PrintWords Go.Proofs.YtgdpnmikcopkmaaDoorW.PrintLast Go.Proofs.YtgdpnmikcopkmaaDoorW.PrintMore
attribute [local go_sem] max2_int min2_int max_two min_two max_three min_three max_four min_four   -- for this text's walks alone
set_option linter.unusedVariables false
set_option linter.unusedSimpArgs false
def screen_counted.f (a0 : Int) : Option (Int) := some (mn (mx a0 1) 65535)
set_option maxHeartbeats 8000000 in
set_option maxRecDepth 100000 in
theorem screen_counted.calls (a0 : Int) (r : Int) (w : World) (h : screen_counted.f a0 = some r) :
  Calls Tryd.prog 40 #[.int .i64 a0] w fun e w' => e = .returned (.int .i64 r) ∧ Below w.heap.size w w' := by
 have HB := Aside0.mk (Below.refl w.heap.size w)
 have H : (some (mn (mx a0 1) 65535)) = some r := h
 clear h
 obtain ⟨ji2,hji2⟩ : ∃ j_ : Int,(mx a0 1) = j_ := ⟨_,rfl⟩
 replace H : (some (mn (ji2) 65535)) = some r := by first | (rw [hji2] at H;exact H) | (simp only [hji2] at H ⊢;exact H)
 (try (have hji2l : 1 ≤ ji2 := by (rw [← hji2];unfold mx;(repeat' split) <;> omega)))
 (try (have hji2m : 0 ≤ ji2 := by omega))
 have hji2_ : (if a0 < 1 then 1 else a0) = ji2 := hji2
 obtain ⟨ji3,hji3⟩ : ∃ j_ : Int,(mn (ji2) 65535) = j_ := ⟨_,rfl⟩
 replace H : (some ji3) = some r := by first | (rw [hji3] at H;exact H) | (simp only [hji3] at H ⊢;exact H)
 have hji3_ : (if 65535 < (ji2) then 65535 else (ji2)) = ji3 := hji3
 obtain rfl := Option.some.inj H
 go_enter Tryd.func40,Tryd.ntmps40
 go_wp2
 go_ret
 exact ⟨by first | rfl | (simp [errW_none,errW_some] <;> rfl) | (simp only [← hji2,← hji3];first | rfl | (simp [errW_none,errW_some] <;> rfl)) | (simp [*,errW_none,errW_some] <;> rfl),au0⟩
end Go.Proofs.YtgdpnmikcopkmaaDoor.U
end
section
namespace Go.Proofs.YtgdpnmikcopkmaaDoor.U
open Go.RowKit Go.Proofs.YtgdpnmikcopkmaaDoor.Pu Go.Proofs.YtgdpnmikcopkmaaDoorW.PrintWords Go.Proofs.YtgdpnmikcopkmaaDoorW.PrintLast Go.Proofs.YtgdpnmikcopkmaaDoorW.PrintMore
set_option linter.unusedVariables false
set_option linter.unusedSimpArgs false
abbrev kRow : Kd (List Cl) := Kd.slice 38 k38
theorem info36 : (Tryd.prog.info? 36).map (fun i => (i.zero,i.size,i.bytes)) = some (some (.slice none 0 0),1,24) := by kernel_rfl
/-- The cells of a screen whose rows' value is rv. -/
abbrev scC (s : Sc) (rv : Value) (hd : ByteArray) : Array Value := #[.int .i64 s.w,.int .i64 s.h,rv,.int .i64 s.r,.int .i64 s.c,.bool s.full,.int .i64 s.lr,.int .i64 s.lc,.bool s.marks,.string hd]
/-- A screen at block p;its rows' blocks are in ok. -/
structure ScrAt (base p : Nat) (ok : Nat → Prop) (W : World) (s : Sc) (hd : ByteArray) : Prop where
 at_ : ∃ rv,W.heap[p]? = some (.cells (scC s rv hd) 69 (0,0)) ∧ Kd.S kRow 36 W base ok rv s.rows
 low : base ≤ p
 ne : ¬ ok p
theorem _root_.Go.Proofs.YtgdpnmikcopkmaaDoorW.PrintWords.Kd.S.own_ok {α : Type} {d : Kd α} {e : Nat} {w : World} {base : Nat} {ok : Nat → Prop} {v : Value} {xs : List α} (h : Kd.S d e w base ok v xs) (k : Nat) (hk : v.ownBlock = some k) : ok k := (Kd.S_R h).1 k hk
/-- What a call has made of the screen,and what it has kept. -/
structure Stp (base p : Nat) (ok : Nat → Prop) (W w : World) (s : Sc) (hd : ByteArray) : Prop where
 at_ : ScrAt base p ok w s hd
 below : Below base W w
 kept : Kept W w (fun k => ok k ∨ k = p)
section
variable {base p : Nat} {ok : Nat → Prop} {W w w1 : World} {s s' : Sc} {hd : ByteArray}
theorem Stp.start (h : ScrAt base p ok W s hd) : Stp base p ok W W s hd := ⟨h,Below.refl _ _,Kept.refl _ _⟩
theorem ScrAt.below (h : ScrAt base p ok W s hd) (hb : Below W.heap.size W w) : ScrAt base p ok w s hd := by
 obtain ⟨⟨rv,h1,h2⟩,h3,h4⟩ := h
 exact ⟨⟨rv,(hb.block p (blk_lt h1)).trans h1,Kd.S_below h2 hb⟩,h3,h4⟩
theorem Stp.more (h : Stp base p ok W w s hd) (hb : Below w.heap.size w w1) (hbs : base ≤ W.heap.size) : Stp base p ok W w1 s hd :=
 ⟨h.at_.below hb,h.below.trans (hb.mono (Nat.le_trans hbs h.kept.1)),h.kept.below hb⟩
theorem Stp.then_ (h : Stp base p ok W w s hd) {hd' : ByteArray} (h2 : Stp base p ok w w1 s' hd') : Stp base p ok W w1 s' hd' :=
 ⟨h2.at_,h.below.trans h2.below,h.kept.then_ h2.kept (fun k hk => .inl hk)⟩
theorem Stp.size (h : Stp base p ok W w s hd) : W.heap.size ≤ w.heap.size := h.kept.1
theorem Stp.fresh (h : Stp base p ok W w s hd) (hf : ∀ k,W.heap.size ≤ k → ok k) : ∀ k,w.heap.size ≤ k → ok k := fun k hk => hf k (Nat.le_trans h.size hk)
theorem Stp.bs (h : Stp base p ok W w s hd) (hb : base ≤ W.heap.size) : base ≤ w.heap.size := Nat.le_trans hb h.size
/-- A field is written. -/
theorem ScrAt.put (h : ScrAt base p ok W s hd) (j : Nat) (v : Value) {hd' : ByteArray} (hr : s'.rows = s.rows) (he : ∀ rv,(scC s rv hd).setIfInBounds j v = scC s' rv hd') : ScrAt base p ok (W.setCell ⟨p,j,none⟩ v) s' hd' := by
 obtain ⟨⟨rv,h1,h2⟩,h3,h4⟩ := h
 refine ⟨⟨rv,?_,?_⟩,h3,h4⟩
 ·exact blk_put h1 j _ (he rv)
 ·rw [hr];exact Kd.S_far (p := ⟨p,j,none⟩) h2 (fun k hk (he : k = p) => h4 (he ▸ hk)) v
theorem Stp.put (h : Stp base p ok W w s hd) (j : Nat) (v : Value) {hd' : ByteArray} (hr : s'.rows = s.rows) (he : ∀ rv,(scC s rv hd).setIfInBounds j v = scC s' rv hd') : Stp base p ok W (w.setCell ⟨p,j,none⟩ v) s' hd' :=
 ⟨h.at_.put j v hr he,h.below.setCell (p := ⟨p,j,none⟩) h.at_.low v,h.kept.setCell (p := ⟨p,j,none⟩) (.inl (.inr rfl)) v⟩
/-- The rows are written: they are others now. -/
theorem Stp.rows (h : Stp base p ok W w s hd) (v : Value) (rows : List (List Cl)) (hS : Kd.S kRow 36 w base ok v rows) : Stp base p ok W (w.setCell ⟨p,2,none⟩ v) { s with rows := rows } hd := by
 obtain ⟨⟨⟨rv,h1,h2⟩,h3,h4⟩,h5,h6⟩ := h
 exact ⟨⟨⟨v,blk_put h1 2 _ rfl,Kd.S_far (p := ⟨p,2,none⟩) hS (fun k hk (he : k = p) => h4 (he ▸ hk)) v⟩,h3,h4⟩,h5.setCell (p := ⟨p,2,none⟩) h3 v,h6.setCell (p := ⟨p,2,none⟩) (.inl (.inr rfl)) v⟩
/-- What is read at the pointer. -/
theorem sc_cells {rv : Value} (h : w.heap[p]? = some (.cells (scC s rv hd) 69 (0,0))) : w.cell? ⟨p,0,none⟩ = some (.int .i64 s.w) ∧ w.cell? ⟨p,1,none⟩ = some (.int .i64 s.h) ∧ w.cell? ⟨p,2,none⟩ = some rv ∧ w.cell? ⟨p,3,none⟩ = some (.int .i64 s.r) ∧ w.cell? ⟨p,4,none⟩ = some (.int .i64 s.c) ∧ w.cell? ⟨p,5,none⟩ = some (.bool s.full) ∧ w.cell? ⟨p,6,none⟩ = some (.int .i64 s.lr) ∧ w.cell? ⟨p,7,none⟩ = some (.int .i64 s.lc) ∧ w.cell? ⟨p,8,none⟩ = some (.bool s.marks) ∧ w.cell? ⟨p,9,none⟩ = some (.string hd) :=
 ⟨blk_cell h 0,blk_cell h 1,blk_cell h 2,blk_cell h 3,blk_cell h 4,blk_cell h 5,blk_cell h 6,blk_cell h 7,blk_cell h 8,blk_cell h 9⟩
theorem ScrAt.cells (h : ScrAt base p ok w s hd) : ∃ rv,(w.cell? ⟨p,0,none⟩ = some (.int .i64 s.w) ∧ w.cell? ⟨p,1,none⟩ = some (.int .i64 s.h) ∧ w.cell? ⟨p,2,none⟩ = some rv ∧ w.cell? ⟨p,3,none⟩ = some (.int .i64 s.r) ∧ w.cell? ⟨p,4,none⟩ = some (.int .i64 s.c) ∧ w.cell? ⟨p,5,none⟩ = some (.bool s.full) ∧ w.cell? ⟨p,6,none⟩ = some (.int .i64 s.lr) ∧ w.cell? ⟨p,7,none⟩ = some (.int .i64 s.lc) ∧ w.cell? ⟨p,8,none⟩ = some (.bool s.marks) ∧ w.cell? ⟨p,9,none⟩ = some (.string hd)) ∧ Kd.S kRow 36 w base ok rv s.rows := by
 obtain ⟨⟨rv,h1,h2⟩,_,_⟩ := h
 exact ⟨rv,sc_cells h1,h2⟩
theorem ScrAt.blk (h : ScrAt base p ok w s hd) : ∃ cs,w.heap[p]? = some (.cells cs 69 (0,0)) := by
 obtain ⟨⟨rv,h1,h2⟩,_,_⟩ := h
 exact ⟨_,h1⟩
theorem ScrAt.frozen (h : ScrAt base p ok w s hd) (j : Nat) : w.frozen? ⟨p,j,none⟩ = false := by
 obtain ⟨cs,h1⟩ := h.blk
 exact blk_frozen h1 j
theorem ScrAt.lt (h : ScrAt base p ok w s hd) : p < w.heap.size := by
 obtain ⟨cs,h1⟩ := h.blk
 exact blk_lt h1
end
theorem cell_below {w w' : World} {a : Addr} {v : Value} (h : w.cell? a = some v) (hb : Below w.heap.size w w') : w'.cell? a = some v := by
 have := hb.block a.block (World.block_lt_of_cell? w a h)
 simpa [World.cell?,this] using h
theorem run_eql_ptr_nil {tp te : TypeId} {j : TypeInfo} (w : World) (a : Option Addr) (hp : Tryd.prog.underlying tp = some (.pointer te)) (hte : Tryd.prog.info? te = some j) : (binOp .eql tp (.pointer a) (.pointer none)).run Tryd.prog w = .ok (.bool a.isNone) w := by
 have h : ∀ d : Nat,(Op.equalIn (d + 1) tp (.pointer a) (.pointer none)).run Tryd.prog w = .ok a.isNone w := fun d => by
  cases a <;> simp [Op.equalIn,run_underlying hp,sizeOf,typeInfo,hte]
 simp only [binOp]
 simp [Op.equal,Op.maxDepth,h 9999]
end Go.Proofs.YtgdpnmikcopkmaaDoor.U
end
