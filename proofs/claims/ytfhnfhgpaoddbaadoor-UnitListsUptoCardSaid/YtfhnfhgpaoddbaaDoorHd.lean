/- Contracts by hand of the decoder of unicode/utf8, in the form of the printed ones. -/
import Derived.Test.YtfhnfhgpaoddbaaDoorU0
import Derived.Test.YtfhnfhgpaoddbaaDoorSh
import Derived.Lib.LaidU8
import Derived.Deep.QuietTactic
import Derived.BigQuiet
namespace Go.Proofs.YtfhnfhgpaoddbaaDoor.U
open Go.RowKit Go.Proofs.YtfhnfhgpaoddbaaDoorW.PrintWords Go.Proofs.YtfhnfhgpaoddbaaDoorW.PrintLast Go.Proofs.YtfhnfhgpaoddbaaDoorW.PrintMore
set_option linter.unusedVariables false
set_option linter.unusedSimpArgs false

theorem block_of_cell {w : World} {p : Addr} {v : Value} (h : w.cell? p = some v) : p.block < w.heap.size := by
  unfold World.cell? at h
  cases hb : w.heap[p.block]? with
  | none => simp [hb] at h
  | some o => exact (Array.getElem?_eq_some_iff.1 hb).1

/-- The tables lie where nothing is turned. -/
theorem tabs_below {w0 w : World} (h : Lib.Utf8Tabs 0 1 w0) (hb : Below w0.heap.size w0 w) : Lib.Utf8Tabs 0 1 w :=
  ⟨fun c hc => (hb.cell (p := ⟨0, c, none⟩) (block_of_cell (h.1 c hc))).trans (h.1 c hc),
   fun i hi => ⟨(hb.cell (p := ⟨1, 2 * i, none⟩) (block_of_cell (h.2 i hi).1)).trans (h.2 i hi).1,
     (hb.cell (p := ⟨1, 2 * i + 1, none⟩) (block_of_cell (h.2 i hi).2)).trans (h.2 i hi).2⟩⟩

def utf8_DecodeRuneInString.f (a0 : ByteArray) : Option (Int × Int) := some (((Lib.decodeGo a0).1 : Int), ((Lib.decodeGo a0).2 : Int))
theorem utf8_DecodeRuneInString.calls (a0 : ByteArray) (r1 : Int) (r2 : Int) (w : World) (hT : Lib.Utf8Tabs 0 1 w) (h : utf8_DecodeRuneInString.f a0 = some (r1, r2)) :
    Calls Tryd.prog 91 #[.string a0] w fun e w' => e = .returned (.tuple #[.int .i32 r1, .int .i64 r2]) ∧ Below w.heap.size w w' := by
  unfold utf8_DecodeRuneInString.f at h
  simp only [Option.some.injEq, Prod.mk.injEq] at h
  obtain ⟨rfl, rfl⟩ := h
  exact Tryd.utf8_DecodeRuneInString a0 w hT

def utf8_RuneCountInString.f (a0 : ByteArray) : Option (Int) := if a0.size < 9223372036854775807 then some ((Lib.runeCount a0 : Nat) : Int) else none
theorem utf8_RuneCountInString.calls (a0 : ByteArray) (r : Int) (w : World) (h : utf8_RuneCountInString.f a0 = some r) :
    Calls Tryd.prog 64 #[.string a0] w fun e w' => e = .returned (.int .i64 r) ∧ Below w.heap.size w w' := by
  unfold utf8_RuneCountInString.f at h
  split at h
  · rename_i hs
    simp only [Option.some.injEq] at h
    subst h
    refine (Tryd.utf8_RuneCountInString a0 w hs).mono ?_
    rintro e w' ⟨rfl, pos, rfl⟩
    exact ⟨rfl, (Below.refl _ _).alloc (Nat.le_refl _) _⟩
  · cases h

/-! ### size, told as one that may make memory (a call behind a store) -/
def bodkinref01_size.f (a0 : Int) : Option (Int) := if a0 < 128 then (some 1) else (if a0 < 2048 then (some 2) else (if a0 < 65536 then (some 3) else (some 4)))
theorem bodkinref01_size.calls (a0 : Int) (r : Int) (w : World) (h : bodkinref01_size.f a0 = some r) :
    Calls Tryd.prog 63 #[.int .i32 a0] w fun e w' => e = .returned (.int .i64 r) ∧ Below w.heap.size w w' := by
  unfold bodkinref01_size.f at h
  by_cases c1 : a0 < 128
  · rw [if_pos c1] at h
    obtain rfl := Option.some.inj h
    clear h
    go_enter Tryd.func63, Tryd.ntmps63
    go_wp2
    go_ret
    exact ⟨rfl, Below.refl _ _⟩
  · rw [if_neg c1] at h
    by_cases c2 : a0 < 2048
    · rw [if_pos c2] at h
      obtain rfl := Option.some.inj h
      clear h
      go_enter Tryd.func63, Tryd.ntmps63
      go_wp2
      go_ret
      exact ⟨rfl, Below.refl _ _⟩
    · rw [if_neg c2] at h
      by_cases c3 : a0 < 65536
      · rw [if_pos c3] at h
        obtain rfl := Option.some.inj h
        clear h
        go_enter Tryd.func63, Tryd.ntmps63
        go_wp2
        go_ret
        exact ⟨rfl, Below.refl _ _⟩
      · rw [if_neg c3] at h
        obtain rfl := Option.some.inj h
        clear h
        go_enter Tryd.func63, Tryd.ntmps63
        go_wp2
        go_ret
        exact ⟨rfl, Below.refl _ _⟩

/-! ### FullRuneInString -/
def fullN (n b0 b1 b2 : Nat) : Bool :=
  if n = 0 then false
  else if Lib.firstT b0 % 8 ≤ n then true
  else if 1 < n ∧ (b1 < Lib.accLo (Lib.firstT b0 / 16) ∨ Lib.accHi (Lib.firstT b0 / 16) < b1) then true
  else if 2 < n ∧ (b2 < 128 ∨ 191 < b2) then true
  else false
def fullB (s : ByteArray) : Bool := fullN s.size (s.get! 0).toNat (s.get! 1).toNat (s.get! 2).toNat
def utf8_FullRuneInString.f (a0 : ByteArray) : Option (Bool) := some (fullB a0)

set_option maxHeartbeats 2000000 in
set_option maxRecDepth 100000 in
/-- enough bytes -/
theorem full_enough (s : ByteArray) (w : World) (x0 : UInt8) (X : Nat) (hz0 : (0 : Int) < (s.size : Int)) (hzb : (((s.size : Nat) : Int) == 0) = false) (h0 : 0 < s.size) (hs0 : s[0]'h0 = x0)
    (hX : X = 240 ∨ X = 241 ∨ X = 2 ∨ X = 19 ∨ X = 3 ∨ X = 35 ∨ X = 52 ∨ X = 4 ∨ X = 68) (hc0 : w.cell? ⟨0, x0.toNat, none⟩ = some (.int .u8 X)) (hn : X % 8 ≤ s.size) :
    Calls Tryd.prog 72 #[.string s] w fun e w' => e = .returned (.bool true) ∧ Below w.heap.size w w' := by
  have l0 := x0.toNat_lt
  rcases hX with rfl | rfl | rfl | rfl | rfl | rfl | rfl | rfl | rfl
  all_goals
    simp only [Nat.reduceMod] at hn
    have hd : ∀ k : Nat, k ≤ s.size → decide ((k : Int) ≤ (s.size : Int)) = true := fun k hk => decide_eq_true (by omega)
    have hd' := hd _ hn
    clear hd
    go_enter Tryd.func72, Tryd.ntmps72
    go_wp2
    go_ret
    exact ⟨rfl, Below.refl _ _⟩


set_option maxHeartbeats 4000000 in
set_option maxRecDepth 100000 in
theorem full_short (s : ByteArray) (w : World) (x0 x1 x2 : UInt8) (X i lo hi : Nat) (hX : (X = 2 ∧ i = 0 ∧ lo = 128 ∧ hi = 191) ∨ (X = 19 ∧ i = 1 ∧ lo = 160 ∧ hi = 191) ∨ (X = 3 ∧ i = 0 ∧ lo = 128 ∧ hi = 191) ∨ (X = 35 ∧ i = 2 ∧ lo = 128 ∧ hi = 159) ∨ (X = 52 ∧ i = 3 ∧ lo = 144 ∧ hi = 191) ∨ (X = 4 ∧ i = 0 ∧ lo = 128 ∧ hi = 191) ∨ (X = 68 ∧ i = 4 ∧ lo = 128 ∧ hi = 143))
    (hz0 : (0 : Int) < (s.size : Int)) (hzb : (((s.size : Nat) : Int) == 0) = false) (h0 : 0 < s.size) (hs0 : s[0]'h0 = x0) (h1 : (hh : 1 < s.size) → s[1]'hh = x1) (h2 : (hh : 2 < s.size) → s[2]'hh = x2)
    (hc0 : w.cell? ⟨0, x0.toNat, none⟩ = some (.int .u8 X)) (ha0 : w.cell? ⟨1, 2 * i, none⟩ = some (.int .u8 lo)) (ha1 : w.cell? ⟨1, 2 * i + 1, none⟩ = some (.int .u8 hi)) (hn : s.size < X % 8) :
    Calls Tryd.prog 72 #[.string s] w fun e w' => e = .returned (.bool (decide (1 < s.size ∧ (x1.toNat < lo ∨ hi < x1.toNat)) || decide (2 < s.size ∧ (x2.toNat < 128 ∨ 191 < x2.toNat)))) ∧ Below w.heap.size w w' := by
  have l0 := x0.toNat_lt; have l1 := x1.toNat_lt; have l2 := x2.toNat_lt
  have u95 := run_underlying Tryd.underlying95
  have hdd : ∀ k : Nat, s.size < k → decide ((k : Int) ≤ (s.size : Int)) = false := fun k hk => decide_eq_false (by omega)
  have fin : ∀ b : Bool, (decide (1 < s.size ∧ (x1.toNat < lo ∨ hi < x1.toNat)) || decide (2 < s.size ∧ (x2.toNat < 128 ∨ 191 < x2.toNat))) = b →
      Calls Tryd.prog 72 #[.string s] w (fun e w' => e = .returned (.bool b) ∧ Below w.heap.size w w') := by
    intro b hb
    by_cases c1 : 1 < s.size
    · have g1 : decide ((1 : Int) < (s.size : Int)) = true := decide_eq_true (by omega)
      have i1 : (1 : Int) < (s.size : Int) := by omega
      have e1 := h1 c1
      by_cases a1 : x1.toNat < lo
      · have d1 : decide ((x1.toNat : Int) < (lo : Int)) = true := decide_eq_true (by omega)
        obtain rfl : true = b := by rw [← hb]; simp [c1, a1]
        clear a1
        clear h1 h2 hb
        rcases hX with ⟨rfl, rfl, rfl, rfl⟩ | ⟨rfl, rfl, rfl, rfl⟩ | ⟨rfl, rfl, rfl, rfl⟩ | ⟨rfl, rfl, rfl, rfl⟩ | ⟨rfl, rfl, rfl, rfl⟩ | ⟨rfl, rfl, rfl, rfl⟩ | ⟨rfl, rfl, rfl, rfl⟩
        all_goals
          simp only [Nat.reduceMul, Nat.reduceAdd] at ha0 ha1
          simp only [Int.cast_ofNat_Int] at hc0 ha0 ha1
          try simp only [Int.cast_ofNat_Int] at d1
          try simp only [Int.cast_ofNat_Int] at d2
          simp only [Nat.reduceMod] at hn
          try have q2 : decide ((2 : Int) ≤ (s.size : Int)) = false := decide_eq_false (by omega)
          try have q3 : decide ((3 : Int) ≤ (s.size : Int)) = false := decide_eq_false (by omega)
          try have q4 : decide ((4 : Int) ≤ (s.size : Int)) = false := decide_eq_false (by omega)
          clear hn hdd
          go_enter Tryd.func72, Tryd.ntmps72
          go_wp2
          go_quiet (fail)
          go_wp2
          go_ret
          exact ⟨rfl, by repeat (first | exact Below.refl _ _ | apply below_alloc | apply pw_below_drewN | apply below_drew1)⟩
      · have d1 : decide ((x1.toNat : Int) < (lo : Int)) = false := decide_eq_false (by omega)
        by_cases a2 : hi < x1.toNat
        · have d2 : decide ((hi : Int) < (x1.toNat : Int)) = true := decide_eq_true (by omega)
          obtain rfl : true = b := by rw [← hb]; simp [c1, a1, a2]
          clear a1 a2
          clear h1 h2 hb
          rcases hX with ⟨rfl, rfl, rfl, rfl⟩ | ⟨rfl, rfl, rfl, rfl⟩ | ⟨rfl, rfl, rfl, rfl⟩ | ⟨rfl, rfl, rfl, rfl⟩ | ⟨rfl, rfl, rfl, rfl⟩ | ⟨rfl, rfl, rfl, rfl⟩ | ⟨rfl, rfl, rfl, rfl⟩
          all_goals
            simp only [Nat.reduceMul, Nat.reduceAdd] at ha0 ha1
            simp only [Int.cast_ofNat_Int] at hc0 ha0 ha1
            try simp only [Int.cast_ofNat_Int] at d1
            try simp only [Int.cast_ofNat_Int] at d2
            simp only [Nat.reduceMod] at hn
            try have q2 : decide ((2 : Int) ≤ (s.size : Int)) = false := decide_eq_false (by omega)
            try have q3 : decide ((3 : Int) ≤ (s.size : Int)) = false := decide_eq_false (by omega)
            try have q4 : decide ((4 : Int) ≤ (s.size : Int)) = false := decide_eq_false (by omega)
            clear hn hdd
            go_enter Tryd.func72, Tryd.ntmps72
            go_wp2
            go_quiet (fail)
            go_wp2
            go_ret
            exact ⟨rfl, by repeat (first | exact Below.refl _ _ | apply below_alloc | apply pw_below_drewN | apply below_drew1)⟩
        · have d2 : decide ((hi : Int) < (x1.toNat : Int)) = false := decide_eq_false (by omega)
          by_cases c2 : 2 < s.size
          · have g2 : decide ((2 : Int) < (s.size : Int)) = true := decide_eq_true (by omega)
            have i2 : (2 : Int) < (s.size : Int) := by omega
            have e2 := h2 c2
            by_cases a3 : x2.toNat < 128
            · have d3 : decide ((x2.toNat : Int) < 128) = true := decide_eq_true (by omega)
              obtain rfl : true = b := by rw [← hb]; simp [c2, a3]
              clear a1 a2 a3
              clear h1 h2 hb
              rcases hX with ⟨rfl, rfl, rfl, rfl⟩ | ⟨rfl, rfl, rfl, rfl⟩ | ⟨rfl, rfl, rfl, rfl⟩ | ⟨rfl, rfl, rfl, rfl⟩ | ⟨rfl, rfl, rfl, rfl⟩ | ⟨rfl, rfl, rfl, rfl⟩ | ⟨rfl, rfl, rfl, rfl⟩
              all_goals
                simp only [Nat.reduceMul, Nat.reduceAdd] at ha0 ha1
                simp only [Int.cast_ofNat_Int] at hc0 ha0 ha1
                try simp only [Int.cast_ofNat_Int] at d1
                try simp only [Int.cast_ofNat_Int] at d2
                simp only [Nat.reduceMod] at hn
                try have q2 : decide ((2 : Int) ≤ (s.size : Int)) = false := decide_eq_false (by omega)
                try have q3 : decide ((3 : Int) ≤ (s.size : Int)) = false := decide_eq_false (by omega)
                try have q4 : decide ((4 : Int) ≤ (s.size : Int)) = false := decide_eq_false (by omega)
                clear hn hdd
                go_enter Tryd.func72, Tryd.ntmps72
                go_wp2
                go_quiet (fail)
                go_wp2
                go_ret
                exact ⟨rfl, by repeat (first | exact Below.refl _ _ | apply below_alloc | apply pw_below_drewN | apply below_drew1)⟩
            · have d3 : decide ((x2.toNat : Int) < 128) = false := decide_eq_false (by omega)
              by_cases a4 : 191 < x2.toNat
              · have d4 : decide (191 < (x2.toNat : Int)) = true := decide_eq_true (by omega)
                obtain rfl : true = b := by rw [← hb]; simp [c2, a4]
                clear a1 a2 a3 a4
                clear h1 h2 hb
                rcases hX with ⟨rfl, rfl, rfl, rfl⟩ | ⟨rfl, rfl, rfl, rfl⟩ | ⟨rfl, rfl, rfl, rfl⟩ | ⟨rfl, rfl, rfl, rfl⟩ | ⟨rfl, rfl, rfl, rfl⟩ | ⟨rfl, rfl, rfl, rfl⟩ | ⟨rfl, rfl, rfl, rfl⟩
                all_goals
                  simp only [Nat.reduceMul, Nat.reduceAdd] at ha0 ha1
                  simp only [Int.cast_ofNat_Int] at hc0 ha0 ha1
                  try simp only [Int.cast_ofNat_Int] at d1
                  try simp only [Int.cast_ofNat_Int] at d2
                  simp only [Nat.reduceMod] at hn
                  try have q2 : decide ((2 : Int) ≤ (s.size : Int)) = false := decide_eq_false (by omega)
                  try have q3 : decide ((3 : Int) ≤ (s.size : Int)) = false := decide_eq_false (by omega)
                  try have q4 : decide ((4 : Int) ≤ (s.size : Int)) = false := decide_eq_false (by omega)
                  clear hn hdd
                  go_enter Tryd.func72, Tryd.ntmps72
                  go_wp2
                  go_quiet (fail)
                  go_wp2
                  go_ret
                  exact ⟨rfl, by repeat (first | exact Below.refl _ _ | apply below_alloc | apply pw_below_drewN | apply below_drew1)⟩
              · have d4 : decide (191 < (x2.toNat : Int)) = false := decide_eq_false (by omega)
                obtain rfl : false = b := by rw [← hb]; simp [c1, a1, a2, a3, a4]
                clear a1 a2 a3 a4
                clear h1 h2 hb
                rcases hX with ⟨rfl, rfl, rfl, rfl⟩ | ⟨rfl, rfl, rfl, rfl⟩ | ⟨rfl, rfl, rfl, rfl⟩ | ⟨rfl, rfl, rfl, rfl⟩ | ⟨rfl, rfl, rfl, rfl⟩ | ⟨rfl, rfl, rfl, rfl⟩ | ⟨rfl, rfl, rfl, rfl⟩
                all_goals
                  simp only [Nat.reduceMul, Nat.reduceAdd] at ha0 ha1
                  simp only [Int.cast_ofNat_Int] at hc0 ha0 ha1
                  try simp only [Int.cast_ofNat_Int] at d1
                  try simp only [Int.cast_ofNat_Int] at d2
                  simp only [Nat.reduceMod] at hn
                  try have q2 : decide ((2 : Int) ≤ (s.size : Int)) = false := decide_eq_false (by omega)
                  try have q3 : decide ((3 : Int) ≤ (s.size : Int)) = false := decide_eq_false (by omega)
                  try have q4 : decide ((4 : Int) ≤ (s.size : Int)) = false := decide_eq_false (by omega)
                  clear hn hdd
                  go_enter Tryd.func72, Tryd.ntmps72
                  go_wp2
                  go_quiet (fail)
                  go_wp2
                  go_ret
                  exact ⟨rfl, by repeat (first | exact Below.refl _ _ | apply below_alloc | apply pw_below_drewN | apply below_drew1)⟩
          · have g2 : decide ((2 : Int) < (s.size : Int)) = false := decide_eq_false (by omega)
            obtain rfl : false = b := by rw [← hb]; simp [a1, a2, c2]
            clear a1 a2 c2
            clear h1 h2 hb
            rcases hX with ⟨rfl, rfl, rfl, rfl⟩ | ⟨rfl, rfl, rfl, rfl⟩ | ⟨rfl, rfl, rfl, rfl⟩ | ⟨rfl, rfl, rfl, rfl⟩ | ⟨rfl, rfl, rfl, rfl⟩ | ⟨rfl, rfl, rfl, rfl⟩ | ⟨rfl, rfl, rfl, rfl⟩
            all_goals
              simp only [Nat.reduceMul, Nat.reduceAdd] at ha0 ha1
              simp only [Int.cast_ofNat_Int] at hc0 ha0 ha1
              try simp only [Int.cast_ofNat_Int] at d1
              try simp only [Int.cast_ofNat_Int] at d2
              simp only [Nat.reduceMod] at hn
              try have q2 : decide ((2 : Int) ≤ (s.size : Int)) = false := decide_eq_false (by omega)
              try have q3 : decide ((3 : Int) ≤ (s.size : Int)) = false := decide_eq_false (by omega)
              try have q4 : decide ((4 : Int) ≤ (s.size : Int)) = false := decide_eq_false (by omega)
              clear hn hdd
              go_enter Tryd.func72, Tryd.ntmps72
              go_wp2
              go_quiet (fail)
              go_wp2
              go_ret
              exact ⟨rfl, by repeat (first | exact Below.refl _ _ | apply below_alloc | apply pw_below_drewN | apply below_drew1)⟩
    · have g1 : decide ((1 : Int) < (s.size : Int)) = false := decide_eq_false (by omega)
      have g2 : decide ((2 : Int) < (s.size : Int)) = false := decide_eq_false (by omega)
      obtain rfl : false = b := by rw [← hb]; simp [c1]; omega
      clear c1
      clear h1 h2 hb
      rcases hX with ⟨rfl, rfl, rfl, rfl⟩ | ⟨rfl, rfl, rfl, rfl⟩ | ⟨rfl, rfl, rfl, rfl⟩ | ⟨rfl, rfl, rfl, rfl⟩ | ⟨rfl, rfl, rfl, rfl⟩ | ⟨rfl, rfl, rfl, rfl⟩ | ⟨rfl, rfl, rfl, rfl⟩
      all_goals
        simp only [Nat.reduceMul, Nat.reduceAdd] at ha0 ha1
        simp only [Int.cast_ofNat_Int] at hc0 ha0 ha1
        try simp only [Int.cast_ofNat_Int] at d1
        try simp only [Int.cast_ofNat_Int] at d2
        simp only [Nat.reduceMod] at hn
        try have q2 : decide ((2 : Int) ≤ (s.size : Int)) = false := decide_eq_false (by omega)
        try have q3 : decide ((3 : Int) ≤ (s.size : Int)) = false := decide_eq_false (by omega)
        try have q4 : decide ((4 : Int) ≤ (s.size : Int)) = false := decide_eq_false (by omega)
        clear hn hdd
        go_enter Tryd.func72, Tryd.ntmps72
        go_wp2
        go_quiet (fail)
        go_wp2
        go_ret
        exact ⟨rfl, by repeat (first | exact Below.refl _ _ | apply below_alloc | apply pw_below_drewN | apply below_drew1)⟩
  exact fin _ rfl
theorem full_any (s : ByteArray) (w : World) (hT : Lib.Utf8Tabs 0 1 w) :
    Calls Tryd.prog 72 #[.string s] w fun e w' => e = .returned (.bool (fullB s)) ∧ Below w.heap.size w w' := by
  unfold fullB
  by_cases h0 : s.size = 0
  · have hz : (((s.size : Nat) : Int) == 0) = true := by rw [beq_iff_eq]; omega
    simp only [fullN, h0, if_true]
    go_enter Tryd.func72, Tryd.ntmps72
    go_wp2
    go_ret
    exact ⟨rfl, Below.refl _ _⟩
  · have hz0 : (0 : Int) < (s.size : Int) := by omega
    have hzb : (((s.size : Nat) : Int) == 0) = false := by rw [beq_eq_false_iff_ne]; omega
    obtain ⟨x0, hx0⟩ : ∃ x0, s.get! 0 = x0 := ⟨_, rfl⟩
    obtain ⟨x1, hx1⟩ : ∃ x1, s.get! 1 = x1 := ⟨_, rfl⟩
    obtain ⟨x2, hx2⟩ : ∃ x2, s.get! 2 = x2 := ⟨_, rfl⟩
    rw [hx0, hx1, hx2]
    have hp : 0 < s.size := by omega
    have hs0 : s[0]'hp = x0 := by rw [← hx0]; exact (Utf8W.get!_of_lt s 0 (by omega)).symm
    have hs1 : (hh : 1 < s.size) → s[1]'hh = x1 := fun hh => by rw [← hx1]; exact (Utf8W.get!_of_lt s 1 hh).symm
    have hs2 : (hh : 2 < s.size) → s[2]'hh = x2 := fun hh => by rw [← hx2]; exact (Utf8W.get!_of_lt s 2 hh).symm
    have l0 := x0.toNat_lt
    have hc0 := hT.1 x0.toNat (by omega)
    have hX := Lib.firstT_cases x0.toNat
    by_cases hn : Lib.firstT x0.toNat % 8 ≤ s.size
    · have e : fullN s.size x0.toNat x1.toNat x2.toNat = true := by simp only [fullN, h0, if_false, hn, if_true]
      rw [e]
      exact full_enough s w x0 _ hz0 hzb hp hs0 hX hc0 hn
    · have e : fullN s.size x0.toNat x1.toNat x2.toNat = (decide (1 < s.size ∧ (x1.toNat < Lib.accLo (Lib.firstT x0.toNat / 16) ∨ Lib.accHi (Lib.firstT x0.toNat / 16) < x1.toNat)) || decide (2 < s.size ∧ (x2.toNat < 128 ∨ 191 < x2.toNat))) := by
        simp only [fullN, h0, if_false, hn]
        by_cases a : 1 < s.size ∧ (x1.toNat < Lib.accLo (Lib.firstT x0.toNat / 16) ∨ Lib.accHi (Lib.firstT x0.toNat / 16) < x1.toNat)
        · simp [a]
        · simp [a]
      rw [e]
      refine full_short s w x0 x1 x2 _ (Lib.firstT x0.toNat / 16) _ _ ?_ hz0 hzb hp hs0 hs1 hs2 hc0 (hT.2 _ ?_).1 (hT.2 _ ?_).2 (by omega)
      · rcases hX with hX | hX | hX | hX | hX | hX | hX | hX | hX <;> rw [hX] at hn ⊢ <;> simp [Lib.accLo, Lib.accHi] <;> omega
      · rcases hX with hX | hX | hX | hX | hX | hX | hX | hX | hX <;> rw [hX] <;> omega
      · rcases hX with hX | hX | hX | hX | hX | hX | hX | hX | hX <;> rw [hX] <;> omega
theorem utf8_FullRuneInString.calls (a0 : ByteArray) (r : Bool) (w : World) (hT : Lib.Utf8Tabs 0 1 w) (h : utf8_FullRuneInString.f a0 = some r) :
    Calls Tryd.prog 72 #[.string a0] w fun e w' => e = .returned (.bool r) ∧ Below w.heap.size w w' := by
  obtain rfl := Option.some.inj h
  exact full_any a0 w hT
end Go.Proofs.YtfhnfhgpaoddbaaDoor.U
