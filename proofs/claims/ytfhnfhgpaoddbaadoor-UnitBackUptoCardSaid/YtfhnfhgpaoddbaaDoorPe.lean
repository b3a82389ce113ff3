/- Encode and its reference, plainly. -/
import Derived.Test.YtfhnfhgpaoddbaaDoorU3
import Derived.Test.YtfhnfhgpaoddbaaDoorU7
import Derived.Test.YtfhnfhgpaoddbaaDoorPr
import Derived.Lib.Bytes
namespace Go.Proofs.YtfhnfhgpaoddbaaDoor.Pu
open Go Go.RowKit Go.Proofs.YtfhnfhgpaoddbaaDoor.Mu Go.Proofs.YtfhnfhgpaoddbaaDoor.U Go.Proofs.YtfhnfhgpaoddbaaDoorW.PrintWords Go.Proofs.YtfhnfhgpaoddbaaDoorW.PrintLast Go.Proofs.YtfhnfhgpaoddbaaDoorW.PrintMore

theorem bits192 : ∀ m : Fin 32, Go.bits .or .u8 192 ((m.val : Nat) : Int) = 192 + (m.val : Int) := by decide
theorem bits224 : ∀ m : Fin 16, Go.bits .or .u8 224 ((m.val : Nat) : Int) = 224 + (m.val : Int) := by decide
theorem bits240 : ∀ m : Fin 8, Go.bits .or .u8 240 ((m.val : Nat) : Int) = 240 + (m.val : Int) := by decide
theorem or192 {x : Int} (h : 0 ≤ x) (h2 : x < 32) : Go.bits .or .u8 192 x = 192 + x := by
  have := bits192 ⟨x.toNat, by omega⟩
  rwa [show ((x.toNat : Nat) : Int) = x by omega] at this
theorem or224 {x : Int} (h : 0 ≤ x) (h2 : x < 16) : Go.bits .or .u8 224 x = 224 + x := by
  have := bits224 ⟨x.toNat, by omega⟩
  rwa [show ((x.toNat : Nat) : Int) = x by omega] at this
theorem or240 {x : Int} (h : 0 ≤ x) (h2 : x < 8) : Go.bits .or .u8 240 x = 240 + x := by
  have := bits240 ⟨x.toNat, by omega⟩
  rwa [show ((x.toNat : Nat) : Int) = x by omega] at this

def okC (c : Int) : Prop := 0 ≤ c ∧ c ≤ 1114111 ∧ (c < 55296 ∨ 57343 < c)
instance (c : Int) : Decidable (okC c) := by unfold okC; infer_instance
/-- The bytes of a character. -/
def encI (c : Int) : List Int :=
  if c < 128 then [c] else if c < 2048 then [192 + c / 64, 128 + c % 64] else if c < 65536 then [224 + c / 4096, 128 + c / 64 % 64, 128 + c % 64]
  else [240 + c / 262144, 128 + c / 4096 % 64, 128 + c / 64 % 64, 128 + c % 64]
def encO (c : Int) : List Int := if okC c then encI c else []
theorem encI_len (c : Int) : (encI c).length ≤ 4 := by unfold encI; split <;> (try split) <;> (try split) <;> simp
theorem encO_len (c : Int) : (encO c).length ≤ 4 := by unfold encO; split; exact encI_len c; simp
theorem encI_byte (c : Int) (h : okC c) : ∀ x ∈ encI c, 0 ≤ x ∧ x < 256 := by
  unfold okC at h
  intro x hx
  unfold encI at hx
  split at hx
  · simp at hx; omega
  · split at hx
    · simp at hx; omega
    · split at hx
      · simp at hx; omega
      · simp at hx; omega

theorem valid_ans (c : Int) : Ev (fun k => utf8_ValidRune.f k c) (decide (okC c)) := by
  unfold utf8_ValidRune.f
  by_cases h0 : 0 ≤ c
  · refine ev_pos h0 (Ev.step (fun k => utf8_ValidRune.j0.eq_2 ..) ?_)
    by_cases h1 : c < 55296
    · exact ev_pos (by simpa using h1) (ev_now (by rw [decide_eq_true (show okC c by unfold okC; omega)]))
    · refine ev_neg (by simpa using h1) ?_
      by_cases h2 : 57343 < c
      · refine ev_pos h2 ?_
        by_cases h3 : c ≤ 1114111
        · exact ev_pos h3 (ev_now (by rw [decide_eq_true (show okC c by unfold okC; omega)]))
        · exact ev_neg h3 (ev_now (by rw [decide_eq_false (show ¬ okC c by unfold okC; omega)]))
      · exact ev_neg h2 (ev_now (by rw [decide_eq_false (show ¬ okC c by unfold okC; omega)]))
  · exact ev_neg h0 (Ev.step (fun k => utf8_ValidRune.j0.eq_2 ..) (ev_neg (by simp) (ev_neg (by omega) (ev_now (by rw [decide_eq_false (show ¬ okC c by unfold okC; omega)])))))

theorem append_ans (l : List Int) (hl : l.length ≤ 17592186044416) (c : Int) (h : okC c) : Ev (fun k => utf8_AppendRune.f k l c) (l ++ encI c) := by
  unfold okC at h
  have e : c % 4294967296 = c := by omega
  unfold utf8_AppendRune.f
  by_cases h1 : c < 128
  · refine ev_pos (by omega) (ev_pos (by omega) (ev_now ?_))
    unfold encI; rw [if_pos h1, show c % 256 = c by omega]
  refine ev_neg (by omega) (Ev.bind (f := fun _ t => some t) (a := l ++ encI c) ?_ (Ev.now _))
  unfold utf8_appendRuneNonASCII.f
  rw [e]
  by_cases h2 : c < 2048
  · refine ev_pos (by omega) (ev_some rfl (ev_pos (by simp; omega) (ev_now ?_)))
    unfold encI; rw [if_neg h1, if_pos h2, or192 (by omega) (by omega), show c / 64 % 256 = c / 64 by omega]
  refine ev_neg (by omega) ?_
  have hj3 : c < 65536 → ∀ b, b = true → Ev (fun k => utf8_appendRuneNonASCII.j0 k l c c b) (l ++ encI c) := by
    intro h3 b hb
    refine Ev.step (fun k => utf8_appendRuneNonASCII.j0.eq_2 ..) (ev_pos hb (ev_some rfl (ev_pos (by simp; omega) (ev_now ?_))))
    unfold encI; rw [if_neg h1, if_neg h2, if_pos h3, or224 (by omega) (by omega), show c / 4096 % 256 = c / 4096 by omega]
  by_cases h3 : c < 55296
  · exact ev_pos h3 (hj3 (by omega) _ (by simpa using h3))
  refine ev_neg h3 (ev_pos (by omega) ?_)
  by_cases h4 : c < 65536
  · exact hj3 h4 _ (by rw [decide_eq_true_eq]; omega)
  · refine Ev.step (fun k => utf8_appendRuneNonASCII.j0.eq_2 ..) (ev_neg (by rw [decide_eq_true_eq]; omega) (ev_pos (by omega) (ev_pos (by omega) (ev_some rfl (ev_pos (by simp; omega) (ev_now ?_))))))
    unfold encI; rw [if_neg h1, if_neg h2, if_neg h4, or240 (by omega) (by omega), show c / 262144 % 256 = c / 262144 by omega]

theorem flat_len (l : List Int) : (l.flatMap encO).length ≤ 4 * l.length := by
  induction l with
  | nil => simp
  | cons c l ih => rw [List.flatMap_cons, List.length_append, List.length_cons]; have := encO_len c; omega
theorem encode_loop (L : List Int) (hL : L.length ≤ 1099511627776) : ∀ (l : List Int) (i : Nat) (o : List Int), L.drop i = l → o.length + 4 * l.length ≤ 8796093022208 → Ev (fun k => unit_Encode.l0 k o L (L.length : Int) i) (strOfNums (o ++ l.flatMap encO)) := by
  intro l
  induction l with
  | nil => intro i o h _; have := drop_nil_le h; exact Ev.step (fun k => unit_Encode.l0.eq_2 ..) (ev_neg (by omega) (ev_now (by simp)))
  | cons c l ih =>
    intro i o h ho
    rw [List.length_cons] at ho
    obtain ⟨hi, hg, hd⟩ := drop_cons (d := 0) h
    have hv := valid_ans c
    have := encO_len c
    have hgo := ih (i + 1) (o ++ encO c) hd (by rw [List.length_append]; omega)
    rw [List.append_assoc] at hgo
    rw [List.flatMap_cons]
    refine Ev.step (fun k => unit_Encode.l0.eq_2 ..) (ev_pos (by omega) (ev_pos (by omega) (ev_pos (by omega) ?_)))
    rw [rd_nat, hg, w64 (by omega) (by omega)]
    refine Ev.bind hv ?_
    by_cases hc : okC c
    · refine ev_pos (by simpa using hc) (Ev.bind (append_ans o (by omega) c hc) ?_)
      rw [show encO c = encI c by unfold encO; rw [if_pos hc]] at hgo ⊢
      exact hgo
    · refine ev_neg (by simpa using hc) ?_
      rw [show encO c = [] by unfold encO; rw [if_neg hc]] at hgo ⊢
      rw [List.nil_append] at hgo ⊢
      rw [List.append_nil] at hgo
      exact hgo
theorem encode_ans (l : List Int) (hl : l.length ≤ 1099511627776) : Ev (fun k => unit_Encode.f k l) (strOfNums (l.flatMap encO)) := encode_loop l hl l 0 [] rfl (by simp; omega)

/-! ### the reference's -/
theorem bytesOf_str (l : List Int) (h : ∀ x ∈ l, 0 ≤ x ∧ x < 256) : bytesOf (strOfNums l) = l := by
  unfold bytesOf
  rw [strOfNums_data, List.map_map]
  conv => rhs; rw [← List.map_id l]
  apply List.map_congr_left
  intro x hx
  obtain ⟨h0, h1⟩ := h x hx
  show (((UInt8.ofNat x.toNat).toNat : Nat) : Int) = x
  rw [UInt8.toNat_ofNat']
  omega
theorem encoding_ans (c : Int) (h : okC c) : Ev (fun k => bodkinref01_encoding.f k c) (strOfNums (encI c)) := by
  unfold okC at h
  unfold bodkinref01_encoding.f
  refine ev_some (size_ans c) ?_
  by_cases h1 : c < 128
  · rw [if_pos h1]
    refine ev_pos rfl (ev_now ?_)
    unfold encI; rw [if_pos h1, show c % 256 = c by omega]
  rw [if_neg h1]
  have hw : ∀ m : Int, 0 ≤ m → m ≤ 1114111 → wrap32 (128 + Int.tmod m 64) % 256 = 128 + m % 64 := by
    intro m h0 h2
    rw [Int.tmod_eq_emod_of_nonneg h0, w32 (by omega) (by omega)]; omega
  have hq : ∀ m : Int, 0 ≤ m → m ≤ 1114111 → wrap32 (Int.tdiv m 64) = m / 64 := by
    intro m h0 h2
    rw [Int.tdiv_eq_ediv_of_nonneg h0, w32 (by omega) (by omega)]
  by_cases h2 : c < 2048
  · rw [if_pos h2]
    refine ev_neg (by omega) (ev_pos (by omega) (ev_pos (by simp) ?_))
    rw [show wrap64 ((2 : Int) - 1) = 1 from (w64 (by omega) (by omega)).trans (by omega)]
    refine Ev.step (fun k => bodkinref01_encoding.l0.eq_2 ..) (ev_pos (by omega) (ev_pos (by omega) (ev_pos (by simp) ?_)))
    rw [hw c (by omega) (by omega), hq c (by omega) (by omega), show wrap64 ((1 : Int) - 1) = 0 from (w64 (by omega) (by omega)).trans (by omega)]
    refine Ev.step (fun k => bodkinref01_encoding.l0.eq_2 ..) (ev_neg (by omega) (ev_some rfl (ev_pos (by omega) (ev_pos (by decide) (ev_pos (by simp) (ev_now ?_))))))
    unfold encI; rw [if_neg h1, if_pos h2]
    have : wrap64 (rd [0, 0, 192, 224, 240] 2 + wrap64 (c / 64)) % 256 = 192 + c / 64 := by
      rw [w64 (x := c / 64) (by omega) (by omega)]
      show wrap64 (192 + c / 64) % 256 = _
      rw [w64 (by omega) (by omega)]; omega
    rw [this]; rfl
  rw [if_neg h2]
  by_cases h3 : c < 65536
  · rw [if_pos h3]
    refine ev_neg (by omega) (ev_pos (by omega) (ev_pos (by simp) ?_))
    rw [show wrap64 ((3 : Int) - 1) = 2 from (w64 (by omega) (by omega)).trans (by omega)]
    refine Ev.step (fun k => bodkinref01_encoding.l0.eq_2 ..) (ev_pos (by omega) (ev_pos (by omega) (ev_pos (by simp) ?_)))
    rw [hw c (by omega) (by omega), hq c (by omega) (by omega), show wrap64 ((2 : Int) - 1) = 1 from (w64 (by omega) (by omega)).trans (by omega)]
    refine Ev.step (fun k => bodkinref01_encoding.l0.eq_2 ..) (ev_pos (by omega) (ev_pos (by omega) (ev_pos (by simp) ?_)))
    rw [hw (c / 64) (by omega) (by omega), hq (c / 64) (by omega) (by omega), show wrap64 ((1 : Int) - 1) = 0 from (w64 (by omega) (by omega)).trans (by omega)]
    refine Ev.step (fun k => bodkinref01_encoding.l0.eq_2 ..) (ev_neg (by omega) (ev_some rfl (ev_pos (by omega) (ev_pos (by decide) (ev_pos (by simp) (ev_now ?_))))))
    unfold encI; rw [if_neg h1, if_neg h2, if_pos h3]
    have : wrap64 (rd [0, 0, 192, 224, 240] 3 + wrap64 (c / 64 / 64)) % 256 = 224 + c / 4096 := by
      rw [w64 (x := c / 64 / 64) (by omega) (by omega)]
      show wrap64 (224 + c / 64 / 64) % 256 = _
      rw [w64 (by omega) (by omega)]; omega
    rw [this]; rfl
  rw [if_neg h3]
  refine ev_neg (by omega) (ev_pos (by omega) (ev_pos (by simp) ?_))
  rw [show wrap64 ((4 : Int) - 1) = 3 from (w64 (by omega) (by omega)).trans (by omega)]
  refine Ev.step (fun k => bodkinref01_encoding.l0.eq_2 ..) (ev_pos (by omega) (ev_pos (by omega) (ev_pos (by simp) ?_)))
  rw [hw c (by omega) (by omega), hq c (by omega) (by omega), show wrap64 ((3 : Int) - 1) = 2 from (w64 (by omega) (by omega)).trans (by omega)]
  refine Ev.step (fun k => bodkinref01_encoding.l0.eq_2 ..) (ev_pos (by omega) (ev_pos (by omega) (ev_pos (by simp) ?_)))
  rw [hw (c / 64) (by omega) (by omega), hq (c / 64) (by omega) (by omega), show wrap64 ((2 : Int) - 1) = 1 from (w64 (by omega) (by omega)).trans (by omega)]
  refine Ev.step (fun k => bodkinref01_encoding.l0.eq_2 ..) (ev_pos (by omega) (ev_pos (by omega) (ev_pos (by simp) ?_)))
  rw [hw (c / 64 / 64) (by omega) (by omega), hq (c / 64 / 64) (by omega) (by omega), show wrap64 ((1 : Int) - 1) = 0 from (w64 (by omega) (by omega)).trans (by omega)]
  refine Ev.step (fun k => bodkinref01_encoding.l0.eq_2 ..) (ev_neg (by omega) (ev_some rfl (ev_pos (by omega) (ev_pos (by decide) (ev_pos (by simp) (ev_now ?_))))))
  unfold encI; rw [if_neg h1, if_neg h2, if_neg h3]
  have : wrap64 (rd [0, 0, 192, 224, 240] 4 + wrap64 (c / 64 / 64 / 64)) % 256 = 240 + c / 262144 := by
    rw [w64 (x := c / 64 / 64 / 64) (by omega) (by omega)]
    show wrap64 (240 + c / 64 / 64 / 64) % 256 = _
    rw [w64 (by omega) (by omega)]; omega
  rw [this, show c / 64 / 64 % 64 = c / 4096 % 64 by omega]; rfl
theorem ref_encode_loop (L : List Int) (hL : L.length ≤ 1099511627776) : ∀ (l : List Int) (i : Nat) (o : List Int), L.drop i = l → o.length + 4 * l.length ≤ 8796093022208 → Ev (fun k => bodkinref01_Encode.l0 k L o i) (strOfNums (o ++ l.flatMap encO)) := by
  intro l
  induction l with
  | nil => intro i o h _; have := drop_nil_le h; exact Ev.step (fun k => bodkinref01_Encode.l0.eq_2 ..) (ev_neg (by omega) (ev_now (by simp)))
  | cons c l ih =>
    intro i o h ho
    rw [List.length_cons] at ho
    obtain ⟨hi, hg, hd⟩ := drop_cons (d := 0) h
    have := encO_len c
    have hgo := ih (i + 1) (o ++ encO c) hd (by rw [List.length_append]; omega)
    rw [List.append_assoc] at hgo
    rw [List.flatMap_cons]
    refine Ev.step (fun k => bodkinref01_Encode.l0.eq_2 ..) (ev_pos (by omega) (ev_pos (by omega) ?_))
    rw [rd_nat, hg, w64 (by omega) (by omega)]
    refine ev_some (scalar_ans c) ?_
    by_cases hc : okC c
    · have h4 := encI_len c
      refine ev_pos (by rw [decide_eq_true_eq]; exact hc) (Ev.bind (encoding_ans c hc) (ev_pos (by rw [strOfNums_size]; omega) ?_))
      rw [bytesOf_str _ (encI_byte c hc)]
      rw [show encO c = encI c by unfold encO; rw [if_pos hc]] at hgo ⊢
      exact hgo
    · refine ev_neg (by rw [decide_eq_true_eq]; exact hc) ?_
      rw [show encO c = [] by unfold encO; rw [if_neg hc]] at hgo ⊢
      rw [List.nil_append] at hgo ⊢
      rw [List.append_nil] at hgo
      exact hgo
theorem ref_encode_ans (l : List Int) (hl : l.length ≤ 1099511627776) : Ev (fun k => bodkinref01_Encode.f k l) (strOfNums (l.flatMap encO)) := ref_encode_loop l hl l 0 [] rfl (by simp; omega)
end Go.Proofs.YtfhnfhgpaoddbaaDoor.Pu
