/- What unit's functions answer, plainly. -/
import Derived.Test.YtfhnfhgpaoddbaaDoorU4
import Derived.Test.YtfhnfhgpaoddbaaDoorU4
import Derived.Test.YtfhnfhgpaoddbaaDoorHu
namespace Go.Proofs.YtfhnfhgpaoddbaaDoor.Pu
open Go Go.RowKit Go.Proofs.YtfhnfhgpaoddbaaDoor.Mu Go.Proofs.YtfhnfhgpaoddbaaDoor.U Go.Proofs.YtfhnfhgpaoddbaaDoorW.PrintWords Go.Proofs.YtfhnfhgpaoddbaaDoorW.PrintLast Go.Proofs.YtfhnfhgpaoddbaaDoorW.PrintMore

theorem w64 {x : Int} (h : -9223372036854775808 ≤ x) (h2 : x < 9223372036854775808) : wrap64 x = x := by unfold wrap64; omega
theorem w32 {x : Int} (h : -2147483648 ≤ x) (h2 : x < 2147483648) : wrap32 x = x := by unfold wrap32; omega
theorem rd_at (xs : List Int) (j : Nat) (h : j < xs.length) : rd xs j ∈ xs := by
  unfold rd
  rw [Int.toNat_natCast, List.getD_eq_getElem?_getD, List.getElem?_eq_getElem h]
  exact List.getElem_mem h
theorem mx_lt {a b : Int} (h : a < b) : mx a b = b := by unfold mx; rw [if_pos h]
theorem mx_ge {a b : Int} (h : b ≤ a) : mx a b = a := by unfold mx; rw [if_neg (by omega)]
theorem mn_gt {a b : Int} (h : b < a) : mn a b = b := by unfold mn; rw [if_pos h]
theorem mn_le {a b : Int} (h : a ≤ b) : mn a b = a := by unfold mn; rw [if_neg (by omega)]


theorem ev_pos {α : Type} {c : Prop} [Decidable c] {a b : Nat → Option α} {v : α} (hc : c) (h : Ev a v) : Ev (fun k => if c then a k else b k) v := Ev.congr (fun _ => if_pos hc) h
theorem ev_neg {α : Type} {c : Prop} [Decidable c] {a b : Nat → Option α} {v : α} (hc : ¬ c) (h : Ev b v) : Ev (fun k => if c then a k else b k) v := Ev.congr (fun _ => if_neg hc) h
theorem ev_some {α β : Type} {o : Option α} {f : Nat → α → Option β} {a : α} {v : β} (ho : o = some a) (h : Ev (fun n => f n a) v) : Ev (fun k => o.bind (f k)) v := Ev.congr (fun k => by rw [ho]; rfl) h
theorem ev_now {α : Type} {v v' : α} (h : v = v') : Ev (fun _ => some v) v' := ⟨0, fun _ _ => by rw [h]⟩

theorem around_go (s : ByteArray) (hs : s.size ≤ 1099511627776) (i : Nat) (hi : i ≤ s.size) (hb : Bd s i) : ∀ n x : Nat, x + n = i → Ev (fun k => unit_around.l0 k s i x) ((i : Int), ((if i = s.size then i else i + uN s i : Nat) : Int)) := by
  intro n
  induction n with
  | zero =>
    intro x hx
    obtain rfl : x = i := by omega
    refine Ev.step (fun k => unit_around.l0.eq_2 ..) (ev_neg (by omega) ?_)
    by_cases h : x = s.size
    · rw [if_pos h]; exact ev_pos (by omega) (Ev.now _)
    · have := uN_le4 s x
      refine ev_neg (by omega) (ev_pos (by omega) (ev_pos (by omega) (ev_some (first_at s x (by omega)) (ev_now ?_))))
      show ((x : Int), wrap64 ((x : Int) + (uN s x : Int))) = _
      rw [w64 (by omega) (by omega), if_neg h, Int.natCast_add]
  | succ n ih =>
    intro x hx
    have h2 := hb.2 x (by omega)
    refine Ev.step (fun k => unit_around.l0.eq_2 ..) (ev_pos (by omega) (ev_pos (by omega) (ev_pos (by omega) (ev_some (first_at s x (by omega)) (ev_neg ?_ ?_)))))
    · show ¬ wrap64 ((x : Int) + (uN s x : Int)) > i
      rw [w64 (by omega) (by omega)]; omega
    · rw [w64 (by omega) (by omega)]
      exact ih (x + 1) (by omega)
theorem around_in (s : ByteArray) (hs : s.size ≤ 1099511627776) (i j : Nat) (hi : i ≤ s.size) (hj : j < i) (h : i < j + uN s j) : ∀ n x : Nat, x + n = j → Ev (fun k => unit_around.l0 k s i x) ((j : Int), ((j + uN s j : Nat) : Int)) := by
  intro n
  induction n with
  | zero =>
    intro x hx
    obtain rfl : x = j := by omega
    have := uN_le s x (by omega)
    have e : wrap64 ((x : Int) + (uN s x : Int)) = (x : Int) + (uN s x : Int) := w64 (by omega) (by omega)
    refine Ev.step (fun k => unit_around.l0.eq_2 ..) (ev_pos (by omega) (ev_pos (by omega) (ev_pos (by omega) (ev_some (first_at s x (by omega)) (ev_pos ?_ (ev_now ?_))))))
    · show wrap64 ((x : Int) + (uN s x : Int)) > i
      rw [e]; omega
    · show ((x : Int), wrap64 ((x : Int) + (uN s x : Int))) = _
      rw [e, Int.natCast_add]
  | succ n ih =>
    intro x hx
    have h2 : x + uN s x ≤ j := by
      by_cases h3 : j < x + uN s x
      · have := inner_one s x j (by omega) h3; omega
      · omega
    refine Ev.step (fun k => unit_around.l0.eq_2 ..) (ev_pos (by omega) (ev_pos (by omega) (ev_pos (by omega) (ev_some (first_at s x (by omega)) (ev_neg ?_ ?_)))))
    · show ¬ wrap64 ((x : Int) + (uN s x : Int)) > i
      rw [w64 (by omega) (by omega)]; omega
    · rw [w64 (by omega) (by omega)]
      exact ih (x + 1) (by omega)

/-- What around answers. -/
theorem around_ans (s : ByteArray) (hs : s.size ≤ 1099511627776) (i : Nat) (hi : i ≤ s.size) : ∃ lo hi : Nat, Ev (fun k => unit_around.f k s i) ((lo : Int), (hi : Int)) ∧ Bd s lo ∧ Bd s hi ∧ lo ≤ i ∧ i ≤ hi ∧ (lo = i ↔ Bd s i) ∧ (i < s.size → i < hi) ∧
    (∀ e, Bd s e → e ≤ i → e ≤ lo) ∧ (∀ e, Bd s e → i < e → hi ≤ e) ∧ (hi = i → i = s.size) := by
  have hm : ∃ x : Nat, mx 0 (wrap64 ((i : Int) - 3)) = x ∧ x = i - 3 := by
    rw [w64 (by omega) (by omega)]
    unfold mx
    split
    · exact ⟨i - 3, by omega, rfl⟩
    · exact ⟨0, rfl, by omega⟩
  obtain ⟨x, hx, hx2⟩ := hm
  have hf : ∀ k, unit_around.f k s i = unit_around.l0 k s i x := fun k => by unfold unit_around.f; rw [hx]
  by_cases hb : Bd s i
  · refine ⟨i, if i = s.size then i else i + uN s i, Ev.congr hf (around_go s hs i hi hb (i - x) x (by omega)), hb, ?_, Nat.le_refl _, ?_, by simp [hb], ?_, fun e _ h => h, ?_, ?_⟩
    · split
      · exact hb
      · exact bd_next s i hb (by omega)
    · split <;> omega
    · intro h; rw [if_neg (by omega)]; have := uN_pos s i; omega
    · intro e he hie
      have h1 := he.1
      rw [if_neg (by omega)]
      exact he.2 i hie
    · intro h; have := uN_pos s i; split at h <;> omega
  · obtain ⟨j, hj, hj2, hjb, hj3⟩ := within s i hi hb
    refine ⟨j, j + uN s j, Ev.congr hf (around_in s hs i j hi hj hj2 (j - x) x (by omega)), hjb, bd_next s j hjb (by omega), by omega, by omega, ?_, by omega, ?_, ?_, by omega⟩
    · exact ⟨fun h => by omega, fun h => absurd h hb⟩
    · intro e he hei
      rcases Nat.lt_trichotomy e i with h | h | h
      · by_cases h5 : j < e
        · exact absurd he (not_bd_inner s j e h5 (by omega))
        · omega
      · subst h; exact absurd he hb
      · omega
    · intro e he hie
      by_cases h5 : e < j + uN s j
      · exact absurd he (not_bd_inner s j e (by omega) h5)
      · omega

def BdI (s : ByteArray) (a : Int) : Prop := 0 ≤ a ∧ Bd s a.toNat
noncomputable def bdB (s : ByteArray) (a : Int) : Bool := @decide (BdI s a) (Classical.propDecidable _)
theorem bdB_iff (s : ByteArray) (a : Int) : bdB s a = true ↔ BdI s a := by unfold bdB; simp
theorem bdI_nat (s : ByteArray) (i : Nat) : BdI s i ↔ Bd s i := by unfold BdI; simp
theorem bdI_le {s : ByteArray} {a : Int} (h : BdI s a) : 0 ≤ a ∧ a ≤ s.size := ⟨h.1, by have := h.2.1; have := h.1; omega⟩

def DownS (s : ByteArray) (a d : Int) : Prop := BdI s d ∧ (d ≤ a ∨ d = 0) ∧ ∀ e, BdI s e → e ≤ a → e ≤ d
def UpS (s : ByteArray) (a d : Int) : Prop := BdI s d ∧ (a ≤ d ∨ d = s.size) ∧ ∀ e, BdI s e → a ≤ e → d ≤ e
def NextS (s : ByteArray) (a d : Int) : Prop := BdI s d ∧ (a < d ∨ d = s.size) ∧ ∀ e, BdI s e → a < e → d ≤ e
def PrevS (s : ByteArray) (a d : Int) : Prop := BdI s d ∧ (d < a ∨ d = 0) ∧ ∀ e, BdI s e → e < a → e ≤ d
theorem DownS.one {s : ByteArray} {a d d' : Int} (h : DownS s a d) (h' : DownS s a d') : d = d' := by
  have := bdI_le h.1; have := bdI_le h'.1
  rcases h.2.1 with h1 | h1 <;> rcases h'.2.1 with h2 | h2
  · have := h.2.2 d' h'.1 h2; have := h'.2.2 d h.1 h1; omega
  · have := h'.2.2 d h.1 h1; omega
  · have := h.2.2 d' h'.1 h2; omega
  · omega
theorem PrevS.one {s : ByteArray} {a d d' : Int} (h : PrevS s a d) (h' : PrevS s a d') : d = d' := by
  have := bdI_le h.1; have := bdI_le h'.1
  rcases h.2.1 with h1 | h1 <;> rcases h'.2.1 with h2 | h2
  · have := h.2.2 d' h'.1 h2; have := h'.2.2 d h.1 h1; omega
  · have := h'.2.2 d h.1 h1; omega
  · have := h.2.2 d' h'.1 h2; omega
  · omega
theorem UpS.one {s : ByteArray} {a d d' : Int} (h : UpS s a d) (h' : UpS s a d') : d = d' := by
  have := bdI_le h.1; have := bdI_le h'.1
  rcases h.2.1 with h1 | h1 <;> rcases h'.2.1 with h2 | h2
  · have := h.2.2 d' h'.1 h2; have := h'.2.2 d h.1 h1; omega
  · have := h'.2.2 d h.1 h1; omega
  · have := h.2.2 d' h'.1 h2; omega
  · omega
theorem NextS.one {s : ByteArray} {a d d' : Int} (h : NextS s a d) (h' : NextS s a d') : d = d' := by
  have := bdI_le h.1; have := bdI_le h'.1
  rcases h.2.1 with h1 | h1 <;> rcases h'.2.1 with h2 | h2
  · have := h.2.2 d' h'.1 h2; have := h'.2.2 d h.1 h1; omega
  · have := h'.2.2 d h.1 h1; omega
  · have := h.2.2 d' h'.1 h2; omega
  · omega

theorem boundary_ans (s : ByteArray) (hs : s.size ≤ 1099511627776) (a : Int) : Ev (fun k => unit_Boundary.f k s a) (bdB s a) := by
  have hd := bdB_iff s a
  unfold unit_Boundary.f
  by_cases h0 : a < 0
  · simp only [h0, if_true]
    have : bdB s a = false := by by_cases h : bdB s a = true; (have := bdI_le (hd.1 h); omega); simpa using h
    rw [this]; exact Ev.now _
  · by_cases h1 : a > (s.size : Int)
    · simp only [h0, h1, if_true, if_false]
      have : bdB s a = false := by by_cases h : bdB s a = true; (have := bdI_le (hd.1 h); omega); simpa using h
      rw [this]; exact Ev.now _
    · simp only [h0, h1, if_false]
      obtain ⟨i, rfl⟩ : ∃ i : Nat, a = i := ⟨a.toNat, by omega⟩
      obtain ⟨lo, hi, hE, _, _, _, _, hiff, _⟩ := around_ans s hs i (by omega)
      refine Ev.bind hE ?_
      have : bdB s i = ((lo : Int) == (i : Int)) := by
        rw [Bool.eq_iff_iff, hd, bdI_nat, ← hiff, beq_iff_eq]; omega
      rw [this]; exact Ev.now _

theorem clamp (s : ByteArray) (a : Int) : ∃ c : Nat, mn (mx a 0) (s.size : Int) = c ∧ c ≤ s.size ∧ ((c : Int) = a ∨ (a < 0 ∧ c = 0) ∨ (a > s.size ∧ c = s.size)) := by
  unfold mn mx
  split <;> split
  · exact ⟨s.size, by omega, by omega, by omega⟩
  · exact ⟨0, by omega, by omega, by omega⟩
  · exact ⟨s.size, by omega, by omega, by omega⟩
  · exact ⟨a.toNat, by omega, by omega, by omega⟩

theorem down_ans (s : ByteArray) (hs : s.size ≤ 1099511627776) (a : Int) : ∃ d, Ev (fun k => unit_Down.f k s a) d ∧ DownS s a d := by
  obtain ⟨c, hc, hcs, hca⟩ := clamp s a
  obtain ⟨lo, hi, hE, hlo, hhi, h1, h2, h3, h4, h5, h6, h7⟩ := around_ans s hs c hcs
  refine ⟨lo, ?_, (bdI_nat _ _).2 hlo, ?_, fun e he hea => ?_⟩
  · unfold unit_Down.f; rw [hc]; exact Ev.bind hE (Ev.now _)
  · omega
  · have h8 := bdI_le he
    have := h5 e.toNat he.2 (by omega)
    omega
theorem up_ans (s : ByteArray) (hs : s.size ≤ 1099511627776) (a : Int) : ∃ d, Ev (fun k => unit_Up.f k s a) d ∧ UpS s a d := by
  obtain ⟨c, hc, hcs, hca⟩ := clamp s a
  obtain ⟨lo, hi, hE, hlo, hhi, h1, h2, h3, h4, h5, h6, h7⟩ := around_ans s hs c hcs
  by_cases hb : lo = c
  · refine ⟨c, ?_, (bdI_nat _ _).2 (h3.1 hb), ?_, fun e he hea => ?_⟩
    · unfold unit_Up.f; rw [hc]; refine Ev.bind hE ?_
      simp only [hb, if_true]; exact Ev.now _
    · omega
    · have h8 := bdI_le he; omega
  · refine ⟨hi, ?_, (bdI_nat _ _).2 hhi, ?_, fun e he hea => ?_⟩
    · unfold unit_Up.f; rw [hc]; refine Ev.bind hE ?_
      have : ¬ ((lo : Int) = c) := by omega
      simp only [this, if_false]; exact Ev.now _
    · have := hhi.1; omega
    · have h8 := bdI_le he
      have : c ≠ e.toNat := fun h => hb (h3.2 (h ▸ he.2))
      have := h6 e.toNat he.2 (by omega)
      omega
theorem next_ans (s : ByteArray) (hs : s.size ≤ 1099511627776) (a : Int) : ∃ d, Ev (fun k => unit_Next.f k s a) d ∧ NextS s a d := by
  by_cases h0 : a < 0
  · refine ⟨0, ?_, (bdI_nat s 0).2 (bd_zero s), .inl h0, fun e he _ => (bdI_le he).1⟩
    unfold unit_Next.f; simp only [h0, if_true]; exact Ev.now _
  · have hm : ∃ c : Nat, mn a (s.size : Int) = c ∧ c ≤ s.size ∧ ((c : Int) = a ∨ (a > s.size ∧ c = s.size)) := by
      unfold mn
      split
      · exact ⟨s.size, rfl, by omega, by omega⟩
      · exact ⟨a.toNat, by omega, by omega, by omega⟩
    obtain ⟨c, hc, hcs, hca⟩ := hm
    obtain ⟨lo, hi, hE, hlo, hhi, h1, h2, h3, h4, h5, h6, h7⟩ := around_ans s hs c hcs
    refine ⟨hi, ?_, (bdI_nat _ _).2 hhi, ?_, fun e he hea => ?_⟩
    · unfold unit_Next.f; simp only [h0, if_false, hc]; exact Ev.bind hE (Ev.now _)
    · have := hhi.1; omega
    · have h8 := bdI_le he
      have := h6 e.toNat he.2 (by omega)
      omega
theorem prev_ans (s : ByteArray) (hs : s.size ≤ 1099511627776) (a : Int) (ha : a ≤ 9223372036854775807) : ∃ d, Ev (fun k => unit_Prev.f k s a) d ∧ PrevS s a d := by
  by_cases h0 : a ≤ 0
  · refine ⟨0, ?_, (bdI_nat s 0).2 (bd_zero s), .inr rfl, fun e he h => by have := bdI_le he; omega⟩
    unfold unit_Prev.f; simp only [h0, if_true]; exact Ev.now _
  · obtain ⟨c, hc, hcs⟩ : ∃ c : Int, mn (wrap64 (a - 1)) (s.size : Int) = c ∧ (c = a - 1 ∨ (a - 1 > s.size ∧ c = s.size)) := by
      rw [w64 (by omega) (by omega)]
      unfold mn
      split
      · exact ⟨s.size, rfl, by omega⟩
      · exact ⟨a - 1, by omega, by omega⟩
    obtain ⟨d, hE, h1, h2, h3⟩ := down_ans s hs c
    refine ⟨d, ?_, h1, ?_, fun e he hea => ?_⟩
    · unfold unit_Prev.f; simp only [h0, if_false, hc]; exact Ev.bind hE (Ev.now _)
    · omega
    · have h8 := bdI_le he
      exact h3 e he (by omega)
noncomputable def atA (s : ByteArray) (a : Int) : Int × Int × Bool := if bdB s a = true ∧ a < s.size then (uC s a.toNat, (uN s a.toNat : Int), true) else (0, 0, false)
theorem at_ans (s : ByteArray) (hs : s.size ≤ 1099511627776) (a : Int) : Ev (fun k => unit_At.f k s a) (atA s a) := by
  have hd := bdB_iff s a
  unfold unit_At.f atA
  by_cases h0 : a < 0
  · simp only [h0, if_true]
    rw [if_neg (by rw [hd]; intro h; have := bdI_le h.1; omega)]; exact Ev.now _
  · by_cases h1 : a ≥ (s.size : Int)
    · simp only [h0, h1, if_true, if_false]
      rw [if_neg (by omega)]; exact Ev.now _
    · simp only [h0, h1, if_false]
      refine Ev.bind (boundary_ans s hs a) ?_
      by_cases hb : bdB s a = true
      · simp only [hb, if_true, show 0 ≤ a by omega, show a ≤ (s.size : Int) by omega, first_at s a.toNat (by omega), Option.bind_some]
        rw [if_pos ⟨trivial, by omega⟩]; exact Ev.now _
      · simp only [hb]
        simpa using Ev.now _

end Go.Proofs.YtfhnfhgpaoddbaaDoor.Pu
