/- unit's functions at and within a unit. -/
import Derived.Test.YtfhnfhgpaoddbaaDoorPu
namespace Go.Proofs.YtfhnfhgpaoddbaaDoor.Pu
open Go Go.RowKit Go.Proofs.YtfhnfhgpaoddbaaDoor.Mu Go.Proofs.YtfhnfhgpaoddbaaDoor.U Go.Proofs.YtfhnfhgpaoddbaaDoorW.PrintWords Go.Proofs.YtfhnfhgpaoddbaaDoorW.PrintLast Go.Proofs.YtfhnfhgpaoddbaaDoorW.PrintMore

theorem next_ev {s : ByteArray} (hs : s.size ≤ 1099511627776) {a d : Int} (h : NextS s a d) : Ev (fun k => unit_Next.f k s a) d := by
  obtain ⟨d', hE, h'⟩ := next_ans s hs a; exact h.one h' ▸ hE
theorem prev_ev {s : ByteArray} (hs : s.size ≤ 1099511627776) {a d : Int} (ha : a ≤ 9223372036854775807) (h : PrevS s a d) : Ev (fun k => unit_Prev.f k s a) d := by
  obtain ⟨d', hE, h'⟩ := prev_ans s hs a ha; exact h.one h' ▸ hE
theorem down_ev {s : ByteArray} (hs : s.size ≤ 1099511627776) {a d : Int} (h : DownS s a d) : Ev (fun k => unit_Down.f k s a) d := by
  obtain ⟨d', hE, h'⟩ := down_ans s hs a; exact h.one h' ▸ hE
theorem up_ev {s : ByteArray} (hs : s.size ≤ 1099511627776) {a d : Int} (h : UpS s a d) : Ev (fun k => unit_Up.f k s a) d := by
  obtain ⟨d', hE, h'⟩ := up_ans s hs a; exact h.one h' ▸ hE
theorem boundary_yes {s : ByteArray} (hs : s.size ≤ 1099511627776) {a : Int} (h : BdI s a) : Ev (fun k => unit_Boundary.f k s a) true := (bdB_iff s a).2 h ▸ boundary_ans s hs a
theorem boundary_no {s : ByteArray} (hs : s.size ≤ 1099511627776) {a : Int} (h : ¬ BdI s a) : Ev (fun k => unit_Boundary.f k s a) false := by
  have : bdB s a = false := by cases e : bdB s a; rfl; exact absurd ((bdB_iff s a).1 e) h
  exact this ▸ boundary_ans s hs a

/-- A boundary lies at or before a unit, or behind it. -/
theorem apart {s : ByteArray} {x : Nat} {e : Int} (he : BdI s e) : e ≤ x ∨ (x : Int) + uN s x ≤ e := by
  have := bdI_le he
  by_cases h : (x : Int) < e
  · have := he.2.2 x (by omega); omega
  · omega
theorem nextS_in {s : ByteArray} {x : Nat} (hb : Bd s x) (hx : x < s.size) {k : Int} (h : x ≤ k) (h2 : k < x + uN s x) : NextS s k ((x : Int) + uN s x) :=
  ⟨by rw [← Int.natCast_add, bdI_nat]; exact bd_next s x hb hx, .inl h2, fun e he hk => by have := apart (x := x) he; omega⟩
theorem upS_in {s : ByteArray} {x : Nat} (hb : Bd s x) (hx : x < s.size) {k : Int} (h : x < k) (h2 : k ≤ x + uN s x) : UpS s k ((x : Int) + uN s x) :=
  ⟨by rw [← Int.natCast_add, bdI_nat]; exact bd_next s x hb hx, .inl h2, fun e he hk => by have := apart (x := x) he; omega⟩
theorem prevS_in {s : ByteArray} {x : Nat} (hb : Bd s x) {k : Int} (h : x < k) (h2 : k ≤ x + uN s x) : PrevS s k x :=
  ⟨by rw [bdI_nat]; exact hb, .inl h, fun e he hk => by have := apart (x := x) he; omega⟩
theorem downS_in {s : ByteArray} {x : Nat} (hb : Bd s x) {k : Int} (h : x ≤ k) (h2 : k < x + uN s x) : DownS s k x :=
  ⟨by rw [bdI_nat]; exact hb, .inl h, fun e he hk => by have := apart (x := x) he; omega⟩
theorem not_in {s : ByteArray} {x : Nat} {k : Int} (h : x < k) (h2 : k < x + uN s x) : ¬ BdI s k := fun he => by have := apart (x := x) he; omega
theorem bdI_zero (s : ByteArray) : BdI s 0 := (bdI_nat s 0).2 (bd_zero s)
theorem bdI_size (s : ByteArray) : BdI s s.size := (bdI_nat s s.size).2 (bd_size s)
theorem nextS_end {s : ByteArray} {a : Int} (h : (s.size : Int) ≤ a) : NextS s a s.size := ⟨bdI_size s, .inr rfl, fun e he hk => by have := bdI_le he; omega⟩
theorem prevS_end {s : ByteArray} {a : Int} (h : a ≤ 0) : PrevS s a 0 := ⟨bdI_zero s, .inr rfl, fun e he hk => by have := bdI_le he; omega⟩
theorem downS_neg {s : ByteArray} {a : Int} (h : a ≤ 0) : DownS s a 0 := ⟨bdI_zero s, .inr rfl, fun e he hk => by have := bdI_le he; omega⟩
theorem upS_neg {s : ByteArray} {a : Int} (h : a ≤ 0) : UpS s a 0 := ⟨bdI_zero s, .inl h, fun e he hk => by have := bdI_le he; omega⟩
theorem downS_far {s : ByteArray} {a : Int} (h : (s.size : Int) ≤ a) : DownS s a s.size := ⟨bdI_size s, .inl h, fun e he hk => by have := bdI_le he; omega⟩
theorem upS_far {s : ByteArray} {a : Int} (h : (s.size : Int) ≤ a) : UpS s a s.size := ⟨bdI_size s, .inr rfl, fun e he hk => by have := bdI_le he; omega⟩
theorem downS_at {s : ByteArray} {a : Int} (h : BdI s a) : DownS s a a := ⟨h, .inl (by omega), fun e he hk => hk⟩
theorem upS_at {s : ByteArray} {a : Int} (h : BdI s a) : UpS s a a := ⟨h, .inl (by omega), fun e he hk => hk⟩

end Go.Proofs.YtfhnfhgpaoddbaaDoor.Pu
