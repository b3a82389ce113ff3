/- What the reference's functions answer, plainly. -/
import Derived.Test.YtfhnfhgpaoddbaaDoorU6
import Derived.Test.YtfhnfhgpaoddbaaDoorU5
import Derived.Test.YtfhnfhgpaoddbaaDoorU5
import Derived.Test.YtfhnfhgpaoddbaaDoorPv
import Derived.Test.YtfhnfhgpaoddbaaDoorPc
namespace Go.Proofs.YtfhnfhgpaoddbaaDoor.Pu
open Go Go.RowKit Go.Proofs.YtfhnfhgpaoddbaaDoor.Mu Go.Proofs.YtfhnfhgpaoddbaaDoor.U Go.Proofs.YtfhnfhgpaoddbaaDoorW.PrintWords Go.Proofs.YtfhnfhgpaoddbaaDoorW.PrintLast Go.Proofs.YtfhnfhgpaoddbaaDoorW.PrintMore

theorem bt_byt (t : ByteArray) (i : Nat) (h : i < t.size) : bt t i = (byt t i : Int) := by
  unfold bt byt
  rw [dif_pos (by simpa using h)]
  simp only [Int.toNat_natCast]
  rw [get!_eq, List.getD_eq_getElem?_getD, List.getElem?_eq_getElem (by rw [← Lib.size_eq]; exact h)]
  rfl
/-! ### lead, begins -/
theorem lead_ans (b : Nat) : Ev (fun k => bodkinref01_lead.f k (b : Int)) (if b < 128 then ((b : Int), 0) else if b < 192 then (0, -1) else if b < 224 then ((b : Int) - 192, 1) else if b < 240 then ((b : Int) - 224, 2) else if b < 248 then ((b : Int) - 240, 3) else (0, -1)) := by
  unfold bodkinref01_lead.f
  by_cases h1 : b < 128
  · rw [if_pos h1]; exact ev_pos (by omega) (ev_now (by rw [w32 (by omega) (by omega)]))
  rw [if_neg h1]
  refine ev_neg (by omega) ?_
  have hj1 : ∀ c, Ev (fun k => bodkinref01_lead.j0 k (b : Int) c) (if c = true then (wrap32 (wrap32 (b : Int) - 192), 1) else if 224 ≤ b then (if b < 240 then (wrap32 (wrap32 (b : Int) - 224), 2) else if b < 248 then (wrap32 (wrap32 (b : Int) - 240), 3) else (0, -1)) else (0, -1)) := by
    intro c
    refine Ev.step (fun k => bodkinref01_lead.j0.eq_2 ..) ?_
    cases c
    · refine ev_neg (by simp) ?_
      rw [if_neg (by simp)]
      by_cases h3 : 224 ≤ b
      · rw [if_pos h3]
        refine ev_pos (by omega) (Ev.step (fun k => bodkinref01_lead.j1.eq_2 ..) ?_)
        by_cases h4 : b < 240
        · rw [if_pos h4]; exact ev_pos (by rw [decide_eq_true_eq]; omega) (Ev.now _)
        · rw [if_neg h4]; refine ev_neg (by rw [decide_eq_true_eq]; omega) (ev_pos (by omega) ?_)
          by_cases h5 : b < 248
          · rw [if_pos h5]; exact ev_pos (by omega) (Ev.now _)
          · rw [if_neg h5]; exact ev_neg (by omega) (Ev.now _)
      · rw [if_neg h3]
        exact ev_neg (by omega) (Ev.step (fun k => bodkinref01_lead.j1.eq_2 ..) (ev_neg (by simp) (ev_neg (by omega) (Ev.now _))))
    · exact ev_pos rfl (Ev.now _)
  by_cases h2 : b < 192
  · rw [if_pos h2]
    refine ev_neg (by omega) ?_
    have := hj1 false
    rwa [if_neg (by simp), if_neg (by omega)] at this
  · rw [if_neg h2]
    refine ev_pos (by omega) ?_
    have := hj1 (decide ((b : Int) < 224))
    by_cases h3 : b < 224
    · rw [if_pos (by simp; omega), w32 (x := (b : Int)) (by omega) (by omega), w32 (by omega) (by omega)] at this
      rwa [if_pos h3]
    · rw [if_neg (by simp; omega), if_pos (by omega)] at this
      rw [if_neg h3]
      by_cases h4 : b < 240
      · rw [if_pos h4, w32 (x := (b : Int)) (by omega) (by omega), w32 (by omega) (by omega)] at this; rwa [if_pos h4]
      · rw [if_neg h4] at this; rw [if_neg h4]
        by_cases h5 : b < 248
        · rw [if_pos h5, w32 (x := (b : Int)) (by omega) (by omega), w32 (by omega) (by omega)] at this; rwa [if_pos h5]
        · rw [if_neg h5] at this; rwa [if_neg h5]

section
variable (t : ByteArray) (ht : t.size ≤ 1099511627776)
include ht
theorem begins_go (c : Nat) (n i : Nat) (hi : i ≤ n) (hs : i < t.size) (hb : 128 ≤ byt t i) (hb2 : byt t i ≤ 191) (hc : c < 100000) {v : Int} (h : Ev (fun k => bodkinref01_begins.l0 k t ((c * 64 + byt t i % 64 : Nat) : Int) n ((i + 1 : Nat) : Int)) v) : Ev (fun k => bodkinref01_begins.l0 k t c n i) v := by
  refine Ev.step (fun k => bodkinref01_begins.l0.eq_2 ..) (ev_pos (by omega) (ev_pos (by omega) (ev_pos (by omega) (ev_neg ?_ (ev_neg ?_ ?_)))))
  · rw [bt_byt t i hs]; omega
  · rw [bt_byt t i hs]; omega
  · rw [bt_byt t i hs, w64 (by omega) (by omega)]
    have e : wrap32 (wrap32 (wrap32 ((c : Int) * 64) + wrap32 (byt t i : Int)) - 128) = ((c * 64 + byt t i % 64 : Nat) : Int) := by
      rw [w32 (x := (c : Int) * 64) (by omega) (by omega), w32 (x := (byt t i : Int)) (by omega) (by omega), w32 (x := (c : Int) * 64 + (byt t i : Int)) (by omega) (by omega), w32 (by omega) (by omega)]
      omega
    rw [e]; exact h
omit ht in
theorem begins_bad (c : Int) (n i : Nat) (hi : i ≤ n) (hs : i < t.size) (hb : byt t i < 128 ∨ 191 < byt t i) : Ev (fun k => bodkinref01_begins.l0 k t c n i) (-1) := by
  refine Ev.step (fun k => bodkinref01_begins.l0.eq_2 ..) (ev_pos (by omega) (ev_pos (by omega) (ev_pos (by omega) ?_)))
  rw [bt_byt t i hs]
  by_cases h : byt t i < 128
  · exact ev_pos (by omega) (Ev.now _)
  · exact ev_neg (by omega) (ev_pos (by omega) (Ev.now _))
omit ht
theorem scalar_ans (c : Int) : bodkinref01_scalar.f c = some (decide (0 ≤ c ∧ c ≤ 1114111 ∧ (c < 55296 ∨ 57343 < c))) := by
  unfold bodkinref01_scalar.f
  split
  · split
    · split
      · rw [decide_eq_true (by omega)]
      · congr 1; rw [decide_eq_decide]; omega
    · rw [decide_eq_false (by omega)]
  · rw [decide_eq_false (by omega)]
theorem size_ans (c : Int) : bodkinref01_size.f c = some (if c < 128 then 1 else if c < 2048 then 2 else if c < 65536 then 3 else 4) := by
  unfold bodkinref01_size.f; split
  · rfl
  · split
    · rfl
    · split <;> rfl
theorem begins_end (c : Int) (n : Nat) (hn : n ≤ 3) : Ev (fun k => bodkinref01_begins.l0 k t c n ((n + 1 : Nat) : Int)) (if (0 ≤ c ∧ c ≤ 1114111 ∧ (c < 55296 ∨ 57343 < c)) ∧ (if c < 128 then (1 : Int) else if c < 2048 then 2 else if c < 65536 then 3 else 4) = n + 1 then c else -1) := by
  refine Ev.step (fun k => bodkinref01_begins.l0.eq_2 ..) (ev_neg (by omega) (ev_some (scalar_ans c) ?_))
  by_cases hsc : 0 ≤ c ∧ c ≤ 1114111 ∧ (c < 55296 ∨ 57343 < c)
  · refine ev_pos (by rw [decide_eq_true_eq]; exact hsc) (ev_some (size_ans c) ?_)
    rw [w64 (by omega) (by omega)]
    by_cases hz : (if c < 128 then (1 : Int) else if c < 2048 then 2 else if c < 65536 then 3 else 4) = n + 1
    · exact ev_pos hz (ev_now (if_pos ⟨hsc, hz⟩).symm)
    · exact ev_neg hz (ev_now (if_neg (fun h => hz h.2)).symm)
  · exact ev_neg (by rw [decide_eq_true_eq]; exact hsc) (ev_now (if_neg (fun h => hsc h.1)).symm)
theorem begins_end_good (c n : Nat) (hn : n ≤ 3) (h : c ≤ 1114111 ∧ (c < 55296 ∨ 57343 < c)) (hz : n = 0 ∧ c < 128 ∨ n = 1 ∧ 128 ≤ c ∧ c < 2048 ∨ n = 2 ∧ 2048 ≤ c ∧ c < 65536 ∨ n = 3 ∧ 65536 ≤ c) : Ev (fun k => bodkinref01_begins.l0 k t c n ((n + 1 : Nat) : Int)) (c : Int) := by
  have := begins_end t c n hn
  rwa [if_pos] at this
  refine ⟨by omega, ?_⟩
  split
  · omega
  · split
    · omega
    · split <;> omega
theorem begins_end_bad (c n : Nat) (hn : n ≤ 3) (h : ¬ (c ≤ 1114111 ∧ (c < 55296 ∨ 57343 < c) ∧ (n = 0 ∧ c < 128 ∨ n = 1 ∧ 128 ≤ c ∧ c < 2048 ∨ n = 2 ∧ 2048 ≤ c ∧ c < 65536 ∨ n = 3 ∧ 65536 ≤ c))) : Ev (fun k => bodkinref01_begins.l0 k t c n ((n + 1 : Nat) : Int)) (-1) := by
  have := begins_end t c n hn
  rwa [if_neg] at this
  rintro ⟨h1, h2⟩
  apply h
  refine ⟨by omega, by omega, ?_⟩
  split at h2
  · omega
  · split at h2
    · omega
    · split at h2 <;> omega

include ht
theorem begins_ans (h0 : 0 < t.size) : Ev (fun k => bodkinref01_begins.f k t) (uC t 0) := by
  have hlt := byt_lt t 0
  have hl := lead_ans (byt t 0)
  have hcs := uC_cases t 0
  simp only [Nat.zero_add, Nat.sub_zero] at hcs
  unfold bodkinref01_begins.f
  refine ev_pos (by omega) ?_
  have hb0 : bt t 0 = (byt t 0 : Int) := bt_byt t 0 h0
  rw [hb0]
  refine Ev.bind hl ?_
  by_cases h1 : byt t 0 < 128
  · rw [if_pos h1]
    refine ev_neg (by simp) (Ev.step (fun k => bodkinref01_begins.j0.eq_2 ..) (ev_neg (by simp only [decide_eq_true_eq]; omega) ?_))
    have hu : uC t 0 = (byt t 0 : Int) := by rcases hcs with h | h | h | h | h <;> omega
    rw [hu]
    exact begins_end_good t (byt t 0) 0 (by omega) (by omega) (by omega)
  rw [if_neg h1]
  have hneg : (¬ (192 ≤ byt t 0 ∧ byt t 0 < 224 ∧ 1 < t.size ∧ byt t 1 / 64 = 2 ∧ 128 ≤ byt t 0 % 32 * 64 + byt t 1 % 64)) →
    (¬ (224 ≤ byt t 0 ∧ byt t 0 < 240 ∧ 2 < t.size ∧ byt t 1 / 64 = 2 ∧ byt t 2 / 64 = 2 ∧ 2048 ≤ byt t 0 % 16 * 4096 + byt t 1 % 64 * 64 + byt t 2 % 64 ∧ (byt t 0 % 16 * 4096 + byt t 1 % 64 * 64 + byt t 2 % 64 < 55296 ∨ 57344 ≤ byt t 0 % 16 * 4096 + byt t 1 % 64 * 64 + byt t 2 % 64))) →
    (¬ (240 ≤ byt t 0 ∧ byt t 0 < 248 ∧ 3 < t.size ∧ byt t 1 / 64 = 2 ∧ byt t 2 / 64 = 2 ∧ byt t 3 / 64 = 2 ∧ 65536 ≤ byt t 0 % 8 * 262144 + byt t 1 % 64 * 4096 + byt t 2 % 64 * 64 + byt t 3 % 64 ∧ byt t 0 % 8 * 262144 + byt t 1 % 64 * 4096 + byt t 2 % 64 * 64 + byt t 3 % 64 ≤ 1114111)) → uC t 0 = -1 := by
    intro g2 g3 g4
    rcases hcs with h | h | h | h | h
    · omega
    · exact h.2.1
    · exact absurd ⟨h.1, h.2.1, h.2.2.1, h.2.2.2.1, h.2.2.2.2.1⟩ g2
    · exact absurd ⟨h.1, h.2.1, h.2.2.1, h.2.2.2.1, h.2.2.2.2.1, h.2.2.2.2.2.1, h.2.2.2.2.2.2.1⟩ g3
    · exact absurd ⟨h.1, h.2.1, h.2.2.1, h.2.2.2.1, h.2.2.2.2.1, h.2.2.2.2.2.1, h.2.2.2.2.2.2.1, h.2.2.2.2.2.2.2.1⟩ g4
  by_cases h2 : byt t 0 < 192
  · rw [if_pos h2, hneg (by omega) (by omega) (by omega)]
    exact ev_pos (by simp) (Ev.step (fun k => bodkinref01_begins.j0.eq_2 ..) (ev_pos rfl (Ev.now _)))
  rw [if_neg h2]
  by_cases h3 : byt t 0 < 224
  · rw [if_pos h3]
    refine ev_neg (by simp) (Ev.step (fun k => bodkinref01_begins.j0.eq_2 ..) ?_)
    by_cases hs : t.size ≤ 1
    · rw [hneg (by omega) (by omega) (by omega)]; exact ev_pos (by simp; omega) (Ev.now _)
    refine ev_neg (by simp; omega) ?_
    rw [show (byt t 0 : Int) - 192 = ((byt t 0 - 192 : Nat) : Int) by omega]
    have k1 := byt_lt t 1
    by_cases hb : byt t 1 < 128 ∨ 191 < byt t 1
    · rw [hneg (by omega) (by omega) (by omega)]; exact begins_bad t _ 1 1 (by omega) (by omega) hb
    refine begins_go t ht _ 1 1 (by omega) (by omega) (by omega) (by omega) (by omega) ?_
    by_cases hg : 128 ≤ byt t 0 % 32 * 64 + byt t 1 % 64
    · have hu : uC t 0 = (((byt t 0 - 192) * 64 + byt t 1 % 64 : Nat) : Int) := by
        have hd := dec_eq t 0
        rw [dec_two _ _ _ _ _ (by omega) (by omega) (by omega) (show byt t (0 + 1) / 64 = 2 by rw [Nat.zero_add]; omega) (by rw [Nat.zero_add]; omega)] at hd
        have := (uC_of t 0 _ _ hd (by omega)).1
        rw [this, Nat.zero_add]; omega
      rw [hu]
      exact begins_end_good t _ 1 (by omega) (by omega) (by omega)
    · rw [hneg (by omega) (by omega) (by omega)]
      exact begins_end_bad t _ 1 (by omega) (by omega)
  rw [if_neg h3]
  by_cases h4 : byt t 0 < 240
  · rw [if_pos h4]
    refine ev_neg (by simp) (Ev.step (fun k => bodkinref01_begins.j0.eq_2 ..) ?_)
    by_cases hs : t.size ≤ 2
    · rw [hneg (by omega) (by omega) (by omega)]; exact ev_pos (by simp; omega) (Ev.now _)
    refine ev_neg (by simp; omega) ?_
    rw [show (byt t 0 : Int) - 224 = ((byt t 0 - 224 : Nat) : Int) by omega]
    have k1 := byt_lt t 1
    have k2 := byt_lt t 2
    by_cases hb : byt t 1 < 128 ∨ 191 < byt t 1
    · rw [hneg (by omega) (by omega) (by omega)]; exact begins_bad t _ 2 1 (by omega) (by omega) hb
    refine begins_go t ht _ 2 1 (by omega) (by omega) (by omega) (by omega) (by omega) ?_
    by_cases hb' : byt t 2 < 128 ∨ 191 < byt t 2
    · rw [hneg (by omega) (by omega) (by omega)]; exact begins_bad t _ 2 2 (by omega) (by omega) hb'
    refine begins_go t ht _ 2 2 (by omega) (by omega) (by omega) (by omega) (by omega) ?_
    by_cases hg : 2048 ≤ byt t 0 % 16 * 4096 + byt t 1 % 64 * 64 + byt t 2 % 64 ∧ (byt t 0 % 16 * 4096 + byt t 1 % 64 * 64 + byt t 2 % 64 < 55296 ∨ 57344 ≤ byt t 0 % 16 * 4096 + byt t 1 % 64 * 64 + byt t 2 % 64)
    · have hu : uC t 0 = ((((byt t 0 - 224) * 64 + byt t 1 % 64) * 64 + byt t 2 % 64 : Nat) : Int) := by
        have hd := dec_eq t 0
        simp only [Nat.zero_add] at hd
        rw [dec_three _ _ _ _ _ (by omega) (by omega) (by omega) (by omega) (by omega) (by omega) (by omega)] at hd
        have := (uC_of t 0 _ _ hd (by omega)).1
        rw [this]; omega
      rw [hu]
      exact begins_end_good t _ 2 (by omega) (by omega) (by omega)
    · rw [hneg (by omega) (by omega) (by omega)]
      exact begins_end_bad t _ 2 (by omega) (by omega)
  rw [if_neg h4]
  by_cases h5 : byt t 0 < 248
  · rw [if_pos h5]
    refine ev_neg (by simp) (Ev.step (fun k => bodkinref01_begins.j0.eq_2 ..) ?_)
    by_cases hs : t.size ≤ 3
    · rw [hneg (by omega) (by omega) (by omega)]; exact ev_pos (by simp; omega) (Ev.now _)
    refine ev_neg (by simp; omega) ?_
    rw [show (byt t 0 : Int) - 240 = ((byt t 0 - 240 : Nat) : Int) by omega]
    have k1 := byt_lt t 1
    have k2 := byt_lt t 2
    have k3 := byt_lt t 3
    by_cases hb : byt t 1 < 128 ∨ 191 < byt t 1
    · rw [hneg (by omega) (by omega) (by omega)]; exact begins_bad t _ 3 1 (by omega) (by omega) hb
    refine begins_go t ht _ 3 1 (by omega) (by omega) (by omega) (by omega) (by omega) ?_
    by_cases hb' : byt t 2 < 128 ∨ 191 < byt t 2
    · rw [hneg (by omega) (by omega) (by omega)]; exact begins_bad t _ 3 2 (by omega) (by omega) hb'
    refine begins_go t ht _ 3 2 (by omega) (by omega) (by omega) (by omega) (by omega) ?_
    by_cases hb'' : byt t 3 < 128 ∨ 191 < byt t 3
    · rw [hneg (by omega) (by omega) (by omega)]; exact begins_bad t _ 3 3 (by omega) (by omega) hb''
    refine begins_go t ht _ 3 3 (by omega) (by omega) (by omega) (by omega) (by omega) ?_
    by_cases hg : 65536 ≤ byt t 0 % 8 * 262144 + byt t 1 % 64 * 4096 + byt t 2 % 64 * 64 + byt t 3 % 64 ∧ byt t 0 % 8 * 262144 + byt t 1 % 64 * 4096 + byt t 2 % 64 * 64 + byt t 3 % 64 ≤ 1114111
    · have hu : uC t 0 = (((((byt t 0 - 240) * 64 + byt t 1 % 64) * 64 + byt t 2 % 64) * 64 + byt t 3 % 64 : Nat) : Int) := by
        have hd := dec_eq t 0
        simp only [Nat.zero_add] at hd
        rw [dec_four _ _ _ _ _ (by omega) (by omega) (by omega) (by omega) (by omega) (by omega) (by omega) (by omega)] at hd
        have := (uC_of t 0 _ _ hd (by omega)).1
        rw [this]; omega
      rw [hu]
      exact begins_end_good t _ 3 (by omega) (by omega) (by omega)
    · rw [hneg (by omega) (by omega) (by omega)]
      exact begins_end_bad t _ 3 (by omega) (by omega)
  · rw [if_neg h5, hneg (by omega) (by omega) (by omega)]
    exact ev_pos (by simp) (Ev.step (fun k => bodkinref01_begins.j0.eq_2 ..) (ev_pos rfl (Ev.now _)))
end

/-! ### the reference's units -/
theorem size_unit (s : ByteArray) (i : Nat) (h : 0 ≤ uC s i) : bodkinref01_size.f (uC s i) = some (uN s i : Int) := by
  rw [size_ans]
  have := byt_lt s i; have := byt_lt s (i + 1); have := byt_lt s (i + 2); have := byt_lt s (i + 3)
  rcases uC_cases s i with h1 | h1 | h1 | h1 | h1
  · rw [if_pos (by omega)]; simp [h1.2.2]
  · omega
  · rw [if_neg (by omega), if_pos (by omega)]; simp [h1.2.2.2.2.2.2]
  · rw [if_neg (by omega), if_neg (by omega), if_pos (by omega)]; simp [h1.2.2.2.2.2.2.2.2]
  · rw [if_neg (by omega), if_neg (by omega), if_neg (by omega)]; simp [h1.2.2.2.2.2.2.2.2.2]
theorem ref_units_loop (s : ByteArray) (hs : s.size ≤ 1099511627776) : ∀ n x : Nat, ∀ us : List S30, s.size - x ≤ n → us.length + n ≤ 2199023255552 → Ev (fun k => bodkinref01_Units.l0 k s us x) (us ++ (walkL s n x).map (·.2)) := by
  intro n
  induction n with
  | zero => intro x us hn hl; exact Ev.step (fun k => bodkinref01_Units.l0.eq_2 ..) (ev_neg (by omega) (ev_now (by simp [walkL])))
  | succ n ih =>
    intro x us hn hl
    by_cases hx : x < s.size
    · have h1 := uN_pos s x
      have h4 := uN_le4 s x
      have hb := begins_ans (s.extract x s.size) (by rw [size_extract _ _ _ (Nat.le_refl _)]; omega) (by rw [size_extract _ _ _ (Nat.le_refl _)]; omega)
      rw [uC_extract s x hx] at hb
      have hgo := ih (x + uN s x) (us ++ [uAt s x]) (by omega) (by simp; omega)
      have e : us ++ (walkL s (n + 1) x).map (·.2) = (us ++ [uAt s x]) ++ (walkL s n (x + uN s x)).map (·.2) := by
        rw [walkL, if_pos hx]; simp
      rw [e]
      refine Ev.step (fun k => bodkinref01_Units.l0.eq_2 ..) (ev_pos (by omega) (ev_pos (by omega) (ev_pos (by omega) (Ev.bind hb ?_))))
      by_cases hc : 0 ≤ uC s x
      · refine ev_pos hc (ev_some (size_unit s x hc) (ev_pos (by omega) ?_))
        rw [w64 (by omega) (by omega)]; exact hgo
      · have hr : uC s x = -1 ∧ uN s x = 1 := by have := uC_range s x; omega
        refine ev_neg hc (ev_pos (by omega) ?_)
        rw [w64 (by omega) (by omega)]
        have e3 : uAt s x = ⟨uC s x, 1⟩ := by unfold uAt; rw [hr.2]; rfl
        rw [hr.2, e3] at hgo
        rw [hr.2, e3]
        exact hgo
    · refine Ev.step (fun k => bodkinref01_Units.l0.eq_2 ..) (ev_neg (by omega) (ev_now ?_))
      rw [walkL, if_neg hx]; simp
theorem ref_units_ans (s : ByteArray) (hs : s.size ≤ 1099511627776) : Ev (fun k => bodkinref01_Units.f k s) (unitsL s) := by
  have := ref_units_loop s hs s.size 0 [] (by omega) (by simp; omega)
  exact this

/-! ### the list of the boundaries -/
def endsL (s : ByteArray) (n x : Nat) : List Int := (walkL s n x).map (fun p => p.1 + p.2.f1)
def bndL (s : ByteArray) : List Int := 0 :: endsL s s.size 0
theorem endsL_mem (s : ByteArray) : ∀ n x, s.size - x ≤ n → Bd s x → ∀ e, e ∈ endsL s n x ↔ BdI s e ∧ (x : Int) < e := by
  intro n
  induction n with
  | zero =>
    intro x hn hb e
    have h1 := hb.1
    simp only [endsL, walkL, List.map_nil, List.not_mem_nil, false_iff]
    rintro ⟨h2, h3⟩
    have := bdI_le h2; omega
  | succ n ih =>
    intro x hn hb e
    by_cases hx : x < s.size
    · have h1 := uN_pos s x
      have hnb := bd_next s x hb hx
      have h2 := ih (x + uN s x) (by omega) hnb e
      have e1 : endsL s (n + 1) x = ((x : Int) + (uN s x : Int)) :: endsL s n (x + uN s x) := by unfold endsL; rw [walkL, if_pos hx]; rfl
      rw [e1, List.mem_cons, h2]
      constructor
      · rintro (h | h)
        · subst h; exact ⟨(bdI_nat s (x + uN s x)).2 hnb, by omega⟩
        · exact ⟨h.1, by omega⟩
      · rintro ⟨h3, h4⟩
        have := apart (x := x) h3
        by_cases h5 : e = (x : Int) + (uN s x : Int)
        · exact .inl h5
        · exact .inr ⟨h3, by omega⟩
    · have h1 := hb.1
      have e1 : endsL s (n + 1) x = [] := by unfold endsL; rw [walkL, if_neg hx]; rfl
      rw [e1]
      simp only [List.not_mem_nil, false_iff]
      rintro ⟨h2, h3⟩
      have := bdI_le h2; omega
theorem endsL_sorted (s : ByteArray) : ∀ n x, s.size - x ≤ n → Bd s x → List.Pairwise (fun a b => a < b) (endsL s n x) := by
  intro n
  induction n with
  | zero => intro x hn hb; simp [endsL, walkL]
  | succ n ih =>
    intro x hn hb
    by_cases hx : x < s.size
    · have h1 := uN_pos s x
      have hnb := bd_next s x hb hx
      have e1 : endsL s (n + 1) x = ((x : Int) + (uN s x : Int)) :: endsL s n (x + uN s x) := by unfold endsL; rw [walkL, if_pos hx]; rfl
      rw [e1, List.pairwise_cons]
      refine ⟨fun e he => ?_, ih _ (by omega) hnb⟩
      have := ((endsL_mem s n (x + uN s x) (by omega) hnb e).1 he).2
      omega
    · have e1 : endsL s (n + 1) x = [] := by unfold endsL; rw [walkL, if_neg hx]; rfl
      rw [e1]; exact List.Pairwise.nil
theorem bndL_mem (s : ByteArray) (e : Int) : e ∈ bndL s ↔ BdI s e := by
  unfold bndL
  rw [List.mem_cons, endsL_mem s s.size 0 (by omega) (bd_zero s)]
  constructor
  · rintro (h | h)
    · subst h; exact bdI_zero s
    · exact h.1
  · intro h
    have := bdI_le h
    by_cases h0 : e = 0
    · exact .inl h0
    · exact .inr ⟨h, by omega⟩
theorem bndL_sorted (s : ByteArray) : List.Pairwise (fun a b => a < b) (bndL s) := by
  unfold bndL
  rw [List.pairwise_cons]
  exact ⟨fun e he => by have := ((endsL_mem s s.size 0 (by omega) (bd_zero s) e).1 he).2; omega, endsL_sorted s s.size 0 (by omega) (bd_zero s)⟩
theorem bndL_length (s : ByteArray) : (bndL s).length ≤ s.size + 1 := by
  unfold bndL endsL
  have := walkL_length s s.size 0
  simp; omega

theorem drop_cons {α : Type} {l t : List α} {b d : α} {i : Nat} (h : l.drop i = b :: t) : i < l.length ∧ l.getD i d = b ∧ l.drop (i + 1) = t := by
  have h1 : i < l.length := by
    rcases Nat.lt_or_ge i l.length with h2 | h2
    · exact h2
    · rw [List.drop_eq_nil_of_le h2] at h; cases h
  rw [List.drop_eq_getElem_cons h1] at h
  injection h with h2 h3
  exact ⟨h1, by rw [List.getD_eq_getElem?_getD, List.getElem?_eq_getElem h1]; exact h2, h3⟩
theorem drop_nil_le {α : Type} {l : List α} {i : Nat} (h : l.drop i = []) : l.length ≤ i := List.drop_eq_nil_iff.1 h

theorem ref_bounds_loop (s : ByteArray) (hs : s.size ≤ 1099511627776) : ∀ (n x i : Nat) (B : List Int), s.size - x ≤ n → (unitsL s).drop i = (walkL s n x).map (·.2) → (unitsL s).length ≤ 1099511627776 → B.length + n ≤ 2199023255552 → Ev (fun k => bodkinref01_Bounds.l0 k (unitsL s) B x i) (B ++ endsL s n x) := by
  intro n
  induction n with
  | zero =>
    intro x i B hn hd hl hB
    have := drop_nil_le (hd.trans (by simp [walkL]))
    exact Ev.step (fun k => bodkinref01_Bounds.l0.eq_2 ..) (ev_neg (by omega) (ev_now (by simp [endsL, walkL])))
  | succ n ih =>
    intro x i B hn hd hl hB
    by_cases hx : x < s.size
    · have h1 := uN_pos s x
      have h4 := uN_le4 s x
      rw [walkL, if_pos hx] at hd
      obtain ⟨hi, hg, hd'⟩ := drop_cons (d := z30) hd
      have e : rd_T30 (unitsL s) i = uAt s x := by unfold rd_T30; rw [Int.toNat_natCast]; exact hg
      have hgo := ih (x + uN s x) (i + 1) (B ++ [(x : Int) + (uN s x : Int)]) (by omega) hd' hl (by simp; omega)
      have e1 : endsL s (n + 1) x = ((x : Int) + (uN s x : Int)) :: endsL s n (x + uN s x) := by unfold endsL; rw [walkL, if_pos hx]; rfl
      rw [e1, show B ++ ((x : Int) + (uN s x : Int)) :: endsL s n (x + uN s x) = (B ++ [(x : Int) + (uN s x : Int)]) ++ endsL s n (x + uN s x) by simp]
      refine Ev.step (fun k => bodkinref01_Bounds.l0.eq_2 ..) (ev_pos (by omega) (ev_pos (by omega) (ev_pos (by omega) ?_)))
      rw [e]
      have e2 : wrap64 ((x : Int) + (uAt s x).f1) = (x : Int) + (uN s x : Int) := w64 (by show _ ≤ (x : Int) + (uN s x : Int); omega) (by show (x : Int) + (uN s x : Int) < _; omega)
      rw [e2, w64 (by omega) (by omega)]
      exact hgo
    · rw [walkL, if_neg hx] at hd
      have := drop_nil_le hd
      refine Ev.step (fun k => bodkinref01_Bounds.l0.eq_2 ..) (ev_neg (by omega) (ev_now ?_))
      unfold endsL; rw [walkL, if_neg hx]; simp
theorem ref_bounds_ans (s : ByteArray) (hs : s.size ≤ 1099511627776) : Ev (fun k => bodkinref01_Bounds.f k s) (bndL s) := by
  have hl := unitsL_length s
  exact Ev.bind (ref_units_ans s hs) (ref_bounds_loop s hs s.size 0 0 [0] (by omega) rfl (by omega) (by simp; omega))

theorem ref_at_loop (s : ByteArray) (hs : s.size ≤ 1099511627776) (a : Int) : ∀ (n x i : Nat), s.size - x ≤ n → Bd s x → (unitsL s).drop i = (walkL s n x).map (·.2) → (unitsL s).length ≤ 1099511627776 → Ev (fun k => bodkinref01_At.l0 k a (unitsL s) x i) (if (x : Int) ≤ a then atA s a else (0, 0, false)) := by
  have hfar : ∀ {x : Nat}, s.size ≤ x → (if (x : Int) ≤ a then atA s a else (0, 0, false)) = (0, 0, false) := by
    intro x hx
    split
    · unfold atA; rw [if_neg (fun h => by omega)]
    · rfl
  intro n
  induction n with
  | zero =>
    intro x i hn hb hd hl
    have := drop_nil_le (hd.trans (by simp [walkL]))
    exact Ev.step (fun k => bodkinref01_At.l0.eq_2 ..) (ev_neg (by omega) (ev_now (hfar (by omega)).symm))
  | succ n ih =>
    intro x i hn hb hd hl
    by_cases hx : x < s.size
    · have h1 := uN_pos s x
      have h4 := uN_le4 s x
      have hnb := bd_next s x hb hx
      rw [walkL, if_pos hx] at hd
      obtain ⟨hi, hg, hd'⟩ := drop_cons (d := z30) hd
      have e : rd_T30 (unitsL s) i = uAt s x := by unfold rd_T30; rw [Int.toNat_natCast]; exact hg
      have hgo := ih (x + uN s x) (i + 1) (by omega) hnb hd' hl
      refine Ev.step (fun k => bodkinref01_At.l0.eq_2 ..) (ev_pos (by omega) ?_)
      rw [e]
      by_cases hxa : (x : Int) = a
      · refine ev_pos hxa (ev_pos (by omega) (ev_now ?_))
        rw [if_pos (by omega)]
        unfold atA
        have hbI : bdB s a = true := (bdB_iff s a).2 (hxa ▸ (bdI_nat s x).2 hb)
        rw [if_pos ⟨hbI, by omega⟩, ← hxa, Int.toNat_natCast]
        rfl
      · refine ev_neg hxa (ev_pos (by omega) ?_)
        have e2 : wrap64 ((x : Int) + (uAt s x).f1) = (x : Int) + (uN s x : Int) := w64 (by show _ ≤ (x : Int) + (uN s x : Int); omega) (by show (x : Int) + (uN s x : Int) < _; omega)
        rw [e2, w64 (by omega) (by omega)]
        have e3 : (if (x : Int) ≤ a then atA s a else (0, 0, false)) = (if ((x + uN s x : Nat) : Int) ≤ a then atA s a else (0, 0, false)) := by
          by_cases h5 : (x : Int) ≤ a
          · rw [if_pos h5]
            split
            · rfl
            · unfold atA; rw [if_neg]
              rintro ⟨h6, _⟩
              exact not_in (x := x) (by omega) (by omega) ((bdB_iff s a).1 h6)
          · rw [if_neg h5, if_neg (by omega)]
        rw [e3]; exact hgo
    · rw [walkL, if_neg hx] at hd
      have := drop_nil_le hd
      exact Ev.step (fun k => bodkinref01_At.l0.eq_2 ..) (ev_neg (by omega) (ev_now (hfar (by omega)).symm))
theorem ref_at_ans (s : ByteArray) (hs : s.size ≤ 1099511627776) (a : Int) : Ev (fun k => bodkinref01_At.f k s a) (atA s a) := by
  have hl := unitsL_length s
  have := Ev.bind (f := fun k t => bodkinref01_At.l0 k a t 0 0) (ref_units_ans s hs) (ref_at_loop s hs a s.size 0 0 (by omega) (bd_zero s) rfl (by omega))
  have e : (if ((0 : Nat) : Int) ≤ a then atA s a else (0, 0, false)) = atA s a := by
    split
    · rfl
    · unfold atA; rw [if_neg]
      rintro ⟨h6, _⟩
      have := bdI_le ((bdB_iff s a).1 h6); omega
  rw [e] at this
  exact this

/-! ### the reference's searches -/
theorem rd_nat (B : List Int) (i : Nat) : rd B i = B.getD i 0 := by unfold rd; rw [Int.toNat_natCast]
theorem ref_boundary_loop (a : Int) (B : List Int) (hB : B.length ≤ 2199023255552) : ∀ (l : List Int) (i : Nat), B.drop i = l → Ev (fun k => bodkinref01_Boundary.l0 k a B i) (decide (a ∈ l)) := by
  intro l
  induction l with
  | nil => intro i h; have := drop_nil_le h; exact Ev.step (fun k => bodkinref01_Boundary.l0.eq_2 ..) (ev_neg (by omega) (ev_now (by simp)))
  | cons b l ih =>
    intro i h
    obtain ⟨hi, hg, hd⟩ := drop_cons (d := 0) h
    refine Ev.step (fun k => bodkinref01_Boundary.l0.eq_2 ..) (ev_pos (by omega) (ev_pos (by omega) ?_))
    rw [rd_nat, hg, w64 (by omega) (by omega)]
    by_cases hb : b = a
    · exact ev_pos hb (ev_now (by simp [hb]))
    · refine ev_neg hb ?_
      have := ih (i + 1) hd
      rw [show decide (a ∈ b :: l) = decide (a ∈ l) by rw [decide_eq_decide, List.mem_cons]; exact ⟨fun h => h.resolve_left (fun h => hb h.symm), .inr⟩]
      exact this
theorem ref_boundary_ans (s : ByteArray) (hs : s.size ≤ 1099511627776) (a : Int) : Ev (fun k => bodkinref01_Boundary.f k s a) (bdB s a) := by
  have hl := bndL_length s
  have := Ev.bind (f := fun k t => bodkinref01_Boundary.l0 k a t 0) (ref_bounds_ans s hs) (ref_boundary_loop a (bndL s) (by omega) (bndL s) 0 rfl)
  rw [show bdB s a = decide (a ∈ bndL s) by rw [Bool.eq_iff_iff, bdB_iff, decide_eq_true_eq, bndL_mem]]
  exact this
/-- The last that p says yes of, d if there's none. -/
def lastOf (p : Int → Bool) : List Int → Int → Int
  | [], d => d
  | b :: l, d => lastOf p l (if p b then b else d)
/-- The first that p says yes of, d if there's none. -/
def firstOf (p : Int → Bool) : List Int → Int → Int
  | [], d => d
  | b :: l, d => if p b then b else firstOf p l d
theorem lastOf_mem (p : Int → Bool) : ∀ (l : List Int) (d : Int), (lastOf p l d = d ∨ (lastOf p l d ∈ l ∧ p (lastOf p l d) = true))
  | [], d => .inl rfl
  | b :: l, d => by
    rw [lastOf]
    rcases lastOf_mem p l (if p b then b else d) with h | h
    · rw [h]; split
      · rename_i hp; exact .inr ⟨by simp, hp⟩
      · exact .inl rfl
    · exact .inr ⟨List.mem_cons_of_mem _ h.1, h.2⟩
theorem lastOf_ge (p : Int → Bool) : ∀ (l : List Int) (d : Int), List.Pairwise (fun a b => a < b) (d :: l) → d ≤ lastOf p l d ∧ ∀ e ∈ l, p e = true → e ≤ lastOf p l d
  | [], d, _ => ⟨Int.le_refl _, fun e he => by cases he⟩
  | b :: l, d, h => by
    rw [List.pairwise_cons, List.pairwise_cons] at h
    obtain ⟨h1, h2, h3⟩ := h
    have hdb := h1 b (by simp)
    rw [lastOf]
    by_cases hp : p b = true
    · rw [if_pos hp]
      obtain ⟨g1, g2⟩ := lastOf_ge p l b (List.pairwise_cons.2 ⟨h2, h3⟩)
      refine ⟨by omega, fun e he hpe => ?_⟩
      rcases List.mem_cons.1 he with rfl | he
      · exact g1
      · exact g2 e he hpe
    · rw [if_neg hp]
      obtain ⟨g1, g2⟩ := lastOf_ge p l d (List.pairwise_cons.2 ⟨fun e he => h1 e (List.mem_cons_of_mem _ he), h3⟩)
      refine ⟨g1, fun e he hpe => ?_⟩
      rcases List.mem_cons.1 he with rfl | he
      · exact absurd hpe hp
      · exact g2 e he hpe
theorem firstOf_mem (p : Int → Bool) : ∀ (l : List Int) (d : Int), (firstOf p l d = d ∨ (firstOf p l d ∈ l ∧ p (firstOf p l d) = true))
  | [], d => .inl rfl
  | b :: l, d => by
    rw [firstOf]; split
    · rename_i hp; exact .inr ⟨by simp, hp⟩
    · rcases firstOf_mem p l d with h | h
      · exact .inl h
      · exact .inr ⟨List.mem_cons_of_mem _ h.1, h.2⟩
theorem firstOf_le (p : Int → Bool) : ∀ (l : List Int) (d : Int), List.Pairwise (fun a b => a < b) l → ∀ e ∈ l, p e = true → firstOf p l d ≤ e
  | [], d, _ => fun e he => by cases he
  | b :: l, d, h => by
    rw [List.pairwise_cons] at h
    intro e he hpe
    rw [firstOf]
    rcases List.mem_cons.1 he with rfl | he
    · rw [if_pos hpe]; exact Int.le_refl _
    · split
      · have := h.1 e he; omega
      · exact firstOf_le p l d h.2 e he hpe

theorem ref_down_loop (a : Int) (B : List Int) (hB : B.length ≤ 2199023255552) : ∀ (l : List Int) (i : Nat) (d : Int), B.drop i = l → Ev (fun k => bodkinref01_Down.l0 k a B d i) (lastOf (fun b => decide (b ≤ a)) l d) := by
  intro l
  induction l with
  | nil => intro i d h; have := drop_nil_le h; exact Ev.step (fun k => bodkinref01_Down.l0.eq_2 ..) (ev_neg (by omega) (ev_now (by simp [lastOf])))
  | cons b l ih =>
    intro i d h
    obtain ⟨hi, hg, hd⟩ := drop_cons (d := 0) h
    refine Ev.step (fun k => bodkinref01_Down.l0.eq_2 ..) (ev_pos (by omega) (ev_pos (by omega) ?_))
    rw [rd_nat, hg, w64 (by omega) (by omega), lastOf]
    by_cases hb : b ≤ a
    · refine ev_pos hb ?_; rw [if_pos (by simpa using hb)]; exact ih (i + 1) b hd
    · refine ev_neg hb ?_; rw [if_neg (by simpa using hb)]; exact ih (i + 1) d hd
theorem ref_prev_loop (a : Int) (B : List Int) (hB : B.length ≤ 2199023255552) : ∀ (l : List Int) (i : Nat) (d : Int), B.drop i = l → Ev (fun k => bodkinref01_Prev.l0 k a B d i) (lastOf (fun b => decide (b < a)) l d) := by
  intro l
  induction l with
  | nil => intro i d h; have := drop_nil_le h; exact Ev.step (fun k => bodkinref01_Prev.l0.eq_2 ..) (ev_neg (by omega) (ev_now (by simp [lastOf])))
  | cons b l ih =>
    intro i d h
    obtain ⟨hi, hg, hd⟩ := drop_cons (d := 0) h
    refine Ev.step (fun k => bodkinref01_Prev.l0.eq_2 ..) (ev_pos (by omega) (ev_pos (by omega) ?_))
    rw [rd_nat, hg, w64 (by omega) (by omega), lastOf]
    by_cases hb : b < a
    · refine ev_pos hb ?_; rw [if_pos (by simpa using hb)]; exact ih (i + 1) b hd
    · refine ev_neg hb ?_; rw [if_neg (by simpa using hb)]; exact ih (i + 1) d hd
theorem ref_up_loop (s : ByteArray) (a : Int) (B : List Int) (hB : B.length ≤ 2199023255552) : ∀ (l : List Int) (i : Nat), B.drop i = l → Ev (fun k => bodkinref01_Up.l0 k s a B i) (firstOf (fun b => decide (a ≤ b)) l s.size) := by
  intro l
  induction l with
  | nil => intro i h; have := drop_nil_le h; exact Ev.step (fun k => bodkinref01_Up.l0.eq_2 ..) (ev_neg (by omega) (ev_now (by simp [firstOf])))
  | cons b l ih =>
    intro i h
    obtain ⟨hi, hg, hd⟩ := drop_cons (d := 0) h
    refine Ev.step (fun k => bodkinref01_Up.l0.eq_2 ..) (ev_pos (by omega) (ev_pos (by omega) ?_))
    rw [rd_nat, hg, w64 (by omega) (by omega), firstOf]
    by_cases hb : a ≤ b
    · refine ev_pos hb ?_; rw [if_pos (by simpa using hb)]; exact Ev.now _
    · refine ev_neg hb ?_; rw [if_neg (by simpa using hb)]; exact ih (i + 1) hd
theorem ref_next_loop (s : ByteArray) (a : Int) (B : List Int) (hB : B.length ≤ 2199023255552) : ∀ (l : List Int) (i : Nat), B.drop i = l → Ev (fun k => bodkinref01_Next.l0 k s a B i) (firstOf (fun b => decide (a < b)) l s.size) := by
  intro l
  induction l with
  | nil => intro i h; have := drop_nil_le h; exact Ev.step (fun k => bodkinref01_Next.l0.eq_2 ..) (ev_neg (by omega) (ev_now (by simp [firstOf])))
  | cons b l ih =>
    intro i h
    obtain ⟨hi, hg, hd⟩ := drop_cons (d := 0) h
    refine Ev.step (fun k => bodkinref01_Next.l0.eq_2 ..) (ev_pos (by omega) (ev_pos (by omega) ?_))
    rw [rd_nat, hg, w64 (by omega) (by omega), firstOf]
    by_cases hb : a < b
    · refine ev_pos hb ?_; rw [if_pos (by simpa using hb)]; exact Ev.now _
    · refine ev_neg hb ?_; rw [if_neg (by simpa using hb)]; exact ih (i + 1) hd
theorem ref_down_ans (s : ByteArray) (hs : s.size ≤ 1099511627776) (a : Int) : ∃ d, Ev (fun k => bodkinref01_Down.f k s a) d ∧ DownS s a d := by
  have hl := bndL_length s
  refine ⟨_, Ev.bind (f := fun k t => bodkinref01_Down.l0 k a t 0 0) (ref_bounds_ans s hs) (ref_down_loop a (bndL s) (by omega) (bndL s) 0 0 rfl), ?_⟩
  have hm := lastOf_mem (fun b => decide (b ≤ a)) (bndL s) 0
  have hge : ∀ e ∈ bndL s, e ≤ a → e ≤ lastOf (fun b => decide (b ≤ a)) (bndL s) 0 := by
    intro e he hea
    have hs2 := bndL_sorted s
    unfold bndL at he hs2 ⊢
    rw [lastOf]
    have hg := lastOf_ge (fun b => decide (b ≤ a)) (endsL s s.size 0) 0 hs2
    have : (if (fun b => decide (b ≤ a)) 0 = true then (0 : Int) else 0) = 0 := by split <;> rfl
    rw [this]
    rcases List.mem_cons.1 he with rfl | he
    · exact hg.1
    · exact hg.2 e he (by simpa using hea)
  refine ⟨?_, ?_, fun e he hea => hge e ((bndL_mem s e).2 he) hea⟩
  · rcases hm with h | h
    · rw [h]; exact bdI_zero s
    · exact (bndL_mem s _).1 h.1
  · rcases hm with h | h
    · exact .inr h
    · exact .inl (by simpa using h.2)
theorem ref_prev_ans (s : ByteArray) (hs : s.size ≤ 1099511627776) (a : Int) : ∃ d, Ev (fun k => bodkinref01_Prev.f k s a) d ∧ PrevS s a d := by
  have hl := bndL_length s
  refine ⟨_, Ev.bind (f := fun k t => bodkinref01_Prev.l0 k a t 0 0) (ref_bounds_ans s hs) (ref_prev_loop a (bndL s) (by omega) (bndL s) 0 0 rfl), ?_⟩
  have hm := lastOf_mem (fun b => decide (b < a)) (bndL s) 0
  have hge : ∀ e ∈ bndL s, e < a → e ≤ lastOf (fun b => decide (b < a)) (bndL s) 0 := by
    intro e he hea
    have hs2 := bndL_sorted s
    unfold bndL at he hs2 ⊢
    rw [lastOf]
    have hg := lastOf_ge (fun b => decide (b < a)) (endsL s s.size 0) 0 hs2
    have : (if (fun b => decide (b < a)) 0 = true then (0 : Int) else 0) = 0 := by split <;> rfl
    rw [this]
    rcases List.mem_cons.1 he with rfl | he
    · exact hg.1
    · exact hg.2 e he (by simpa using hea)
  refine ⟨?_, ?_, fun e he hea => hge e ((bndL_mem s e).2 he) hea⟩
  · rcases hm with h | h
    · rw [h]; exact bdI_zero s
    · exact (bndL_mem s _).1 h.1
  · rcases hm with h | h
    · exact .inr h
    · exact .inl (by simpa using h.2)
theorem ref_up_ans (s : ByteArray) (hs : s.size ≤ 1099511627776) (a : Int) : ∃ d, Ev (fun k => bodkinref01_Up.f k s a) d ∧ UpS s a d := by
  have hl := bndL_length s
  refine ⟨_, Ev.bind (f := fun k t => bodkinref01_Up.l0 k s a t 0) (ref_bounds_ans s hs) (ref_up_loop s a (bndL s) (by omega) (bndL s) 0 rfl), ?_⟩
  have hm := firstOf_mem (fun b => decide (a ≤ b)) (bndL s) s.size
  refine ⟨?_, ?_, fun e he hea => firstOf_le _ _ _ (bndL_sorted s) e ((bndL_mem s e).2 he) (by simpa using hea)⟩
  · rcases hm with h | h
    · rw [h]; exact bdI_size s
    · exact (bndL_mem s _).1 h.1
  · rcases hm with h | h
    · exact .inr h
    · exact .inl (by simpa using h.2)
theorem ref_next_ans (s : ByteArray) (hs : s.size ≤ 1099511627776) (a : Int) : ∃ d, Ev (fun k => bodkinref01_Next.f k s a) d ∧ NextS s a d := by
  have hl := bndL_length s
  refine ⟨_, Ev.bind (f := fun k t => bodkinref01_Next.l0 k s a t 0) (ref_bounds_ans s hs) (ref_next_loop s a (bndL s) (by omega) (bndL s) 0 rfl), ?_⟩
  have hm := firstOf_mem (fun b => decide (a < b)) (bndL s) s.size
  refine ⟨?_, ?_, fun e he hea => firstOf_le _ _ _ (bndL_sorted s) e ((bndL_mem s e).2 he) (by simpa using hea)⟩
  · rcases hm with h | h
    · rw [h]; exact bdI_size s
    · exact (bndL_mem s _).1 h.1
  · rcases hm with h | h
    · exact .inr h
    · exact .inl (by simpa using h.2)
end Go.Proofs.YtfhnfhgpaoddbaaDoor.Pu
