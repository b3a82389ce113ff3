/- The units from a place on, as a list; lists alike. -/
import Derived.Test.YtfhnfhgpaoddbaaDoorU2
import Derived.Test.YtfhnfhgpaoddbaaDoorPv
import Derived.Test.YtfhnfhgpaoddbaaDoorPc
namespace Go.Proofs.YtfhnfhgpaoddbaaDoor.Pu
open Go Go.RowKit Go.Proofs.YtfhnfhgpaoddbaaDoor.Mu Go.Proofs.YtfhnfhgpaoddbaaDoor.U Go.Proofs.YtfhnfhgpaoddbaaDoorW.PrintWords Go.Proofs.YtfhnfhgpaoddbaaDoorW.PrintLast Go.Proofs.YtfhnfhgpaoddbaaDoorW.PrintMore

theorem rd_unit_at (us : List S30) (i : Nat) : rd_T30 us i = us.getD i z30 := by unfold rd_T30; rw [Int.toNat_natCast]
theorem alike_loop (l : List S30) (hl : l.length ≤ 1099511627776) : ∀ n i : Nat, i + n = l.length → Ev (fun k => bodkinlaw01_alike.l0 k l l (l.length : Int) i) true := by
  intro n
  induction n with
  | zero => intro i hi; exact Ev.step (fun k => bodkinlaw01_alike.l0.eq_2 ..) (ev_neg (by omega) (Ev.now _))
  | succ n ih =>
    intro i hi
    refine Ev.step (fun k => bodkinlaw01_alike.l0.eq_2 ..) (ev_pos (by omega) (ev_pos (by omega) (ev_pos (by omega) (ev_pos (by omega) (ev_neg ?_ ?_)))))
    · simp
    · rw [w64 (by omega) (by omega)]
      exact ih (i + 1) (by omega)
theorem alike_same (l : List S30) (hl : l.length ≤ 1099511627776) : Ev (fun k => bodkinlaw01_alike.f k l l) true := by
  unfold bodkinlaw01_alike.f
  exact ev_pos rfl (alike_loop l hl l.length 0 (by omega))

theorem walk_fuel (s : ByteArray) : ∀ f g x : Nat, s.size - x ≤ f → s.size - x ≤ g → walkL s f x = walkL s g x
  | 0, 0, _, _, _ => rfl
  | 0, g + 1, x, h, _ => by rw [walkL, walkL, if_neg (by omega)]
  | f + 1, 0, x, _, h => by rw [walkL, walkL, if_neg (by omega)]
  | f + 1, g + 1, x, h, h' => by
    have := uN_pos s x
    rw [walkL, walkL]
    split
    · rw [walk_fuel s f g (x + uN s x) (by omega) (by omega)]
    · rfl
/-- The units from x on. -/
def tl (s : ByteArray) (x : Nat) : List S30 := (walkL s s.size x).map (·.2)
theorem unitsL_tl (s : ByteArray) : unitsL s = tl s 0 := rfl
theorem tl_end (s : ByteArray) (x : Nat) (h : s.size ≤ x) : tl s x = [] := by
  unfold tl; rw [walk_fuel s s.size 0 x (by omega) (by omega)]; rfl
theorem tl_go (s : ByteArray) (x : Nat) (h : x < s.size) : tl s x = uAt s x :: tl s (x + uN s x) := by
  have := uN_pos s x
  unfold tl
  obtain ⟨n, hn⟩ : ∃ n, s.size = n + 1 := ⟨s.size - 1, by omega⟩
  rw [walk_fuel s s.size (n + 1) x (by omega) (by omega), walkL, if_pos h, walk_fuel s n s.size (x + uN s x) (by omega) (by omega)]
  rfl
theorem tl_len (s : ByteArray) (x : Nat) : (tl s x).length ≤ s.size := by unfold tl; rw [List.length_map]; exact walkL_length _ _ _
/-- Where each unit is one byte. -/
theorem tl_skip (s : ByteArray) (z : Nat) (hz : z ≤ s.size) : ∀ n x : Nat, x + n = z → (∀ y, x ≤ y → y < z → uN s y = 1) → ∃ Q, Q.length = n ∧ tl s x = Q ++ tl s z := by
  intro n
  induction n with
  | zero => intro x hx _; exact ⟨[], rfl, by rw [show x = z by omega]; rfl⟩
  | succ n ih =>
    intro x hx h1
    obtain ⟨Q, hQ, hQ2⟩ := ih (x + 1) (by omega) (fun y hy hy2 => h1 y (by omega) hy2)
    refine ⟨uAt s x :: Q, by rw [List.length_cons, hQ], ?_⟩
    rw [tl_go s x (by omega), h1 x (by omega) (by omega), hQ2, List.cons_append]
theorem tl_ones (s : ByteArray) : ∀ n x : Nat, x + n = s.size → (∀ y, x ≤ y → y < s.size → uN s y = 1) → (tl s x).length = n := by
  intro n
  induction n with
  | zero => intro x hx _; rw [tl_end s x (by omega)]; rfl
  | succ n ih =>
    intro x hx h1
    rw [tl_go s x (by omega), h1 x (by omega) (by omega), List.length_cons, ih (x + 1) (by omega) (fun y hy hy2 => h1 y (by omega) hy2)]

/-! ### two texts, one behind the other -/
section
variable (a b : ByteArray)
theorem size_two : (a ++ b).size = a.size + b.size := ByteArray.size_append
theorem right_dec (y : Nat) : Utf8.decode (a ++ b) (a.size + y) = Utf8.decode b y := by
  rw [dec_eq, dec_eq, size_two, show a.size + b.size - (a.size + y) = b.size - y by omega, byt_append_right, show a.size + y + 1 = a.size + (y + 1) by omega, show a.size + y + 2 = a.size + (y + 2) by omega, show a.size + y + 3 = a.size + (y + 3) by omega, byt_append_right, byt_append_right, byt_append_right]
theorem right_uN (y : Nat) : uN (a ++ b) (a.size + y) = uN b y := by unfold uN; rw [right_dec]
theorem right_uAt (y : Nat) : uAt (a ++ b) (a.size + y) = uAt b y := by unfold uAt uC uN; rw [right_dec]
theorem tl_right : ∀ n y : Nat, b.size - y ≤ n → tl (a ++ b) (a.size + y) = tl b y := by
  have hs := size_two a b
  intro n
  induction n with
  | zero => intro y hn; rw [tl_end _ _ (by omega), tl_end _ _ (by omega)]
  | succ n ih =>
    intro y hn
    by_cases hy : y < b.size
    · have := uN_pos b y
      rw [tl_go _ _ (by omega), tl_go _ _ hy, right_uAt, right_uN, Nat.add_assoc, ih _ (by omega)]
    · rw [tl_end _ _ (by omega), tl_end _ _ (by omega)]
theorem bad_or (s : ByteArray) (x : Nat) : (2 ≤ uN s x ∧ 0 ≤ uC s x ∧ 192 ≤ byt s x) ∨ (uN s x = 1 ∧ uC s x = byt s x ∧ byt s x < 128) ∨ (uN s x = 1 ∧ uC s x = -1 ∧ 128 ≤ byt s x) := by
  rcases uC_cases s x with h | h | h | h | h <;> omega
theorem left_unit (x : Nat) (hx : x < a.size) (h : x + uN (a ++ b) x ≤ a.size) : uC a x = uC (a ++ b) x ∧ uN a x = uN (a ++ b) x := by
  have hs := size_two a b
  have hb : ∀ i, i < a.size → byt (a ++ b) i = byt a i := fun i hi => byt_append_left a b i hi
  by_cases h2 : 2 ≤ uN (a ++ b) x
  · have e := dec_prefix (a ++ b) a x x h2 (fun k hk => (hb (x + k) (by omega)).symm) (by omega)
    unfold uC uN; rw [e]; exact ⟨rfl, rfl⟩
  · by_cases h3 : 2 ≤ uN a x
    · have hle := uN_le a x hx
      have e := dec_prefix a (a ++ b) x x h3 (fun k hk => hb (x + k) (by omega)) (by omega)
      unfold uC uN; rw [e]; exact ⟨rfl, rfl⟩
    · have e0 := hb x hx
      have h4 := bad_or a x
      have h5 := bad_or (a ++ b) x
      rw [e0] at h5
      generalize uN a x = p at *
      generalize uC a x = q at *
      generalize uN (a ++ b) x = p' at *
      generalize uC (a ++ b) x = q' at *
      omega
theorem left_over (x : Nat) (hx : x < a.size) (h : a.size < x + uN (a ++ b) x) : uN a x = 1 := by
  have hs := size_two a b
  rcases bad_or a x with h1 | h1 | h1
  · exfalso
    have hle := uN_le a x hx
    have e := dec_prefix a (a ++ b) x x h1.1 (fun k hk => byt_append_left a b (x + k) (by omega)) (by omega)
    have : uN (a ++ b) x = uN a x := by unfold uN; rw [e]
    omega
  · exact h1.1
  · exact h1.1
theorem left_uAt (x : Nat) (hx : x < a.size) (h : x + uN (a ++ b) x ≤ a.size) : uAt a x = uAt (a ++ b) x := by
  obtain ⟨h1, h2⟩ := left_unit a b x hx h
  unfold uAt; rw [h1, h2]
theorem tl_left (j : Nat) (hj : j ≤ a.size) (hb : Bd (a ++ b) j) : ∀ n x : Nat, x ≤ j → j - x ≤ n → ∃ P, tl (a ++ b) x = P ++ tl (a ++ b) j ∧ tl a x = P ++ tl a j := by
  have hs := size_two a b
  intro n
  induction n with
  | zero => intro x hx hn; exact ⟨[], by rw [show x = j by omega]; rfl, by rw [show x = j by omega]; rfl⟩
  | succ n ih =>
    intro x hx hn
    by_cases h : x = j
    · exact ⟨[], by rw [h]; rfl, by rw [h]; rfl⟩
    · have h1 := hb.2 x (by omega)
      have := uN_pos (a ++ b) x
      obtain ⟨P, e1, e2⟩ := ih (x + uN (a ++ b) x) h1 (by omega)
      have h3 := left_unit a b x (by omega) (by omega)
      refine ⟨uAt (a ++ b) x :: P, ?_, ?_⟩
      · rw [tl_go _ _ (by omega), e1, List.cons_append]
      · rw [tl_go _ _ (by omega), left_uAt a b x (by omega) (by omega), h3.2, e2, List.cons_append]
end
end Go.Proofs.YtfhnfhgpaoddbaaDoor.Pu
