/- What the law WordCases reaches of this seat's own texts, merged; what nothing uses is left out. -/
import Derived.Test.YtkficbgnjpekaaaDoorZWordCases0
import Derived.Test.YtkficbgnjpekaaaDoorZWordCases2
import Derived.Test.YtkficbgnjpekaaaDoorZWordCases3
import Derived.Test.YtkficbgnjpekaaaDoorZWordCases5
import Derived.Test.YtkficbgnjpekaaaDoorZWordCases6
import Derived.Test.YtkficbgnjpekaaaDoorZWordCases7
import Derived.Test.YtkficbgnjpekaaaDoorZWordCases8
import Derived.Test.YtkficbgnjpekaaaDoorZWordCases9
import Derived.Test.YtkficbgnjpekaaaDoorZWordCases10
section
namespace Go.Proofs.YtkficbgnjpekaaaDoor.U
open Go.RowKit Go.Shelf Go.Proofs.YtkficbgnjpekaaaDoor.Mu Go.Proofs.YtkficbgnjpekaaaDoor.Pu Go.Proofs.YtkficbgnjpekaaaDoor.Rg Go.Proofs.YtkficbgnjpekaaaDoorW.PrintWords Go.Proofs.YtkficbgnjpekaaaDoorW.PrintLast Go.Proofs.YtkficbgnjpekaaaDoorW.PrintMore
set_option linter.unusedVariables false
set_option linter.unusedSimpArgs false
/-- What a unit becomes. -/
def eachU (s : ByteArray) (F : Int → Int → Int) (i : Nat) : List Int := if uC s i < 0 then bytesOf (s.extract i (i + uN s i)) else encO (F i (uC s i))
def eachL (s : ByteArray) (F : Int → Int → Int) : Nat → Nat → List Int
 | 0,_ => []
 | k + 1,i => if i < s.size then eachU s F i ++ eachL s F k (i + uN s i) else []
theorem encO_byte (c : Int) : ∀ x ∈ encO c,0 ≤ x ∧ x < 256 := by
 unfold encO
 split
 ·rename_i h;exact encI_byte c h
 ·intro x hx;cases hx
theorem uC_neg_one (s : ByteArray) (i : Nat) (h : uC s i < 0) : uN s i = 1 := by
 unfold uC at h
 unfold uN
 split at h
 ·rename_i h2;exact h2.2
 ·omega
theorem eachU_len (s : ByteArray) (F : Int → Int → Int) (i : Nat) (hi : i < s.size) : (eachU s F i).length ≤ 4 * uN s i := by
 have h1 := uN_pos s i
 unfold eachU
 split
 ·rw [bytesOf_length,size_extract _ _ _ (uN_le s i hi)];omega
 ·have := encO_len (F i (uC s i));omega
theorem units_kept {W w9 : World} {b n : Nat} {ok : Nat → Prop} {v5 vu : Value} {xs : List Value} {us : List S42} (hown : W.ownsRow b 5 1 v5 n xs) (hR : Kd.R k42 42 W b ok vu us) (hg : W.grownBy w9 v5.ownBlock) : Kd.R k42 42 w9 b ok vu us := by
 obtain ⟨inner,ho⟩ := Kd.R_own hR
 refine Kd.R_grown2 hR rfl hg (fun k e => ?_)
 rcases own_type_ne hown ho (by decide) with h | h
 ·rw [h] at e;cases e
 ·rw [← e];exact h
theorem unit_box_kept {W w9 : World} {b n B : Nat} {v5 : Value} {xs : List Value} {c m : Int} (hown : W.ownsRow b 5 1 v5 n xs) (hB : W.heap[B]? = some (.cells #[.int .i32 c,.int .i64 m] 42 (0,0))) (hg : W.grownBy w9 v5.ownBlock) : w9.cell? ⟨B,1,none⟩ = some (.int .i64 m) := by
 have hne := own_ne hown hB (by decide)
 have h2 := (hg.block B (Array.getElem?_eq_some_iff.1 hB).1 hne).trans hB
 simp [World.cell?,h2]
theorem lit_one (W : World) (x : Int) : Kd.C (Kd.int .i32) (W.alloc (.cells #[.int .i32 x] 21)) (some ⟨W.heap.size,0,none⟩) [x].length [x] := by
 have ho : (W.alloc (.cells #[.int .i32 x] 21)).ownsRow W.heap.size 21 1 (.slice (some ⟨W.heap.size,0,none⟩) 1 1) [x].length (nums .i32 [x]) := World.ownsRow_lit W #[.int .i32 x] 1 (Nat.le_refl _) (by decide) rfl
 have hR : Kd.R (Kd.int .i32) 21 (W.alloc (.cells #[.int .i32 x] 21)) W.heap.size (fun _ => True) (.slice (some ⟨W.heap.size,0,none⟩) 1 1) [x] := Kd.R_of_own ho (fun _ _ => trivial)
 exact (Kd.R_reads' hR).2.2
theorem eachL_end (s : ByteArray) (F : Int → Int → Int) (k i : Nat) (h : ¬ i < s.size) : eachL s F k i = [] := by
 cases k with
 | zero => rfl
 | succ k => rw [eachL,if_neg h]
/-- One round more: the unit that stands there. -/
theorem each_round {eachT' : List Int} (s : ByteArray) (F : Int → Int → Int) (k i j : Nat) (acc : List Int) (hk : s.size ≤ i + k) (hlt : j < (unitsL s).length) (hU : (unitsL s).drop j = (walkL s k i).map (·.2)) (hI : eachT' = acc ++ eachL s F k i) :
  ∃ k',k = k' + 1 ∧ i < s.size ∧ rd_T42 (unitsL s) (j : Int) = uAt s i ∧ Hid ((unitsL s).drop (j + 1) = (walkL s k' (i + uN s i)).map (·.2)) ∧ Hid (eachT' = (acc ++ eachU s F i) ++ eachL s F k' (i + uN s i)) := by
 cases k with
 | zero => rw [walkL] at hU;have h2 := congrArg List.length hU;rw [List.length_drop] at h2;simp at h2;omega
 | succ k =>
  rw [walkL] at hU
  by_cases hi : i < s.size
  ·rw [if_pos hi,List.map_cons] at hU
   rw [eachL,if_pos hi,← List.append_assoc] at hI
   refine ⟨k,rfl,hi,?_,Lib.hid ?_,Lib.hid hI⟩
   ·unfold rd_T42
    rw [Int.toNat_natCast,List.getD_eq_getElem?_getD,← List.head?_drop,hU]
    rfl
   ·rw [List.drop_add_one_eq_tail_drop,hU];rfl
  ·rw [if_neg hi] at hU;have h2 := congrArg List.length hU;rw [List.length_drop] at h2;simp at h2;omega
/-- The bytes of the changed text. -/
def eachT (s : ByteArray) (F : Int → Int → Int) : List Int := eachL s F s.size 0
set_option maxRecDepth 100000 in
set_option maxHeartbeats 4000000 in
theorem each_any (s : ByteArray) (g : Nat) (lb : Array Value) (F : Int → Int → Int) (w : World) (hs : s.size ≤ 1099511627776) (hT : Lib.Utf8Tabs 0 1 w)
  (eg : ∀ args w,(callFunc g args).run Tryd.prog w = .ok (.enter g args) w)
  (hone : ∀ (W : World) (at_ : Nat) (c : Int),at_ < s.size → Below w.heap.size w W → Calls Tryd.prog g (#[.int .i64 (at_ : Int),.int .i32 c] ++ lb) W fun e w' => e = .returned (.int .i32 (F (at_ : Int) c)) ∧ Below W.heap.size W w') :
  Calls Tryd.prog 54 #[.string s,.func (.func g) #[] lb] w fun e w' => e = .returned (.string (strOfNums (eachT s F))) ∧ Below w.heap.size w w' := by
 have hu : unit_Units.f s = some (unitsL s) := by unfold unit_Units.f;rw [if_pos (by omega)]
 obtain ⟨i5,hi5,hz0,hz1,hz2⟩ := info_parts info5
 obtain ⟨w1,hmk,hown0,hg0⟩ := run_make_own (P := Tryd.prog) w w.heap.size 66 5 i5 (.int .u8 0) 1 Tryd.underlying66 hi5 hz0 hz1 .i64 .i64 s.size (by rw [hz2];omega) (by unfold maxLen;omega) (Nat.le_refl _)
 have hb1 : Below w.heap.size w w1 := (Below.refl _ w).grown hg0 (Nat.le_refl _) (fun k e => by cases e)
 have hT1 := tabs_below hT hb1
 go_enter Tryd.func54,Tryd.ntmps54
 go_wp2_with (go_at_call 74;refine (unit_Units.calls s (unitsL s) w1 hT1 hu).mono ?_;rintro e w2 ⟨v0,rfl,hR,hb2⟩;obtain ⟨A,c,rfl,hcl,hC⟩ := Kd.R_reads hR)
 have hbw2 : Below w.heap.size w w2 := hb1.trans (hb2.mono hb1.size)
 have hn : (unitsL s).length ≤ s.size := by rw [unitsL_len];exact walkL_length s s.size 0
 have hown2 : w2.ownsRow w.heap.size 5 1 (.slice (some ⟨w.heap.size,0,none⟩) 0 s.size) ([] : List Int).length (nums .u8 []) := pw_own_below hown0 hb2
 have hR2 := Kd.R_lower hR hb1.size
 clear hR hown0 hmk hg0 hb1 hb2 hT1 hC hu hi5 hz0 hz1 hz2
 have hI0 : Hid (eachT s F = [] ++ eachL s F s.size 0) := Lib.hid rfl
 have hU0 : Hid ((unitsL s).drop 0 = (walkL s s.size 0).map (·.2)) := Lib.hid rfl
 go_loopw [5,6,15] (fun v5 v6 v15 wr => ∃ (k i j : Nat) (acc : List Int),v6 = .int .i64 i ∧ v15 = .int .i64 j ∧ i ≤ s.size ∧ s.size ≤ i + k ∧ j ≤ (unitsL s).length ∧ Hid ((unitsL s).drop j = (walkL s k i).map (·.2)) ∧ Hid (eachT s F = acc ++ eachL s F k i) ∧ acc.length ≤ 4 * i ∧
   wr.ownsRow w.heap.size 5 1 v5 acc.length (nums .u8 acc) ∧ Kd.R k42 42 wr w.heap.size (fun _ => True) (.slice A (unitsL s).length c) (unitsL s) ∧ Below w.heap.size w wr)
  (fun _ _ v _ => (unitsL s).length - (intOf v).toNat)
 case atStart => exact ⟨s.size,0,0,[],rfl,rfl,Nat.zero_le _,by omega,Nat.zero_le _,hU0,hI0,Nat.zero_le _,hown2,hR2,hbw2⟩
 case round =>
  obtain ⟨k,i,j,acc,rfl,rfl,hi,hk,hj,hU,hI,hacc,hown,hR,hb⟩ := hrel
  clear hI0 hU0 hown2 hR2 hbw2
  by_cases hlt : j < (unitsL s).length
  ·obtain ⟨k,rfl,hiS,hrd,hU2,hI2⟩ := each_round s F k i j acc hk hlt hU.out hI.out
   obtain ⟨A',c',e',_,hC⟩ := Kd.R_reads hR
   obtain ⟨rfl,_,rfl⟩ : A = A' ∧ (unitsL s).length = (unitsL s).length ∧ c = c' := by injection e' with e1 e2 e3;exact ⟨e1,e2,e3⟩
   obtain ⟨ad,rfl,ca0,ca1⟩ := at_T42 hC (j : Int) (by omega) (by omega)
   rw [hrd] at ca0 ca1
   obtain ⟨ch,hch⟩ : ∃ x,uC s i = x := ⟨_,rfl⟩
   obtain ⟨m,hm⟩ : ∃ x,uN s i = x := ⟨_,rfl⟩
   have hm1 : 1 ≤ m := hm ▸ uN_pos s i
   have hm2 : i + m ≤ s.size := hm ▸ uN_le s i hiS
   have hlen := eachU_len s F i hiS
   have e1 : (uAt s i).f0 = ch := hch
   have e2 : (uAt s i).f1 = (m : Int) := by rw [← hm];rfl
   rw [e1] at ca0
   rw [e2] at ca1
   rw [hm] at hU2 hI2 hlen
   simp only [Int.toNat_natCast] at ca0 ca1
   clear hU hI hrd e1 e2
   have hjlt : (j : Int) < ((unitsL s).length : Int) := by omega
   have hu42 := Tryd.underlying42
   have hw1 : IntKind.i64.wrap ((i : Int) + (m : Int)) = ((i + m : Nat) : Int) := (i64_w _).trans (by unfold wrap64;omega)
   have hw2 : IntKind.i64.wrap ((j : Int) + 1) = ((j + 1 : Nat) : Int) := (i64_w _).trans (by unfold wrap64;omega)
   obtain ⟨U,hUe⟩ : ∃ U,eachU s F i = U := ⟨_,rfl⟩
   have hB0 : Below w.heap.size w (wr.alloc (.cells #[.int .i32 ch,.int .i64 m] 42)) := hb.alloc hb.size _
   have hbx : (wr.alloc (.cells #[.int .i32 ch,.int .i64 m] 42)).heap[wr.heap.size]? = some (.cells #[.int .i32 ch,.int .i64 m] 42 (0,0)) := World.alloc_heap_new _ _
   have hownA := own_alloc hown (.cells #[.int .i32 ch,.int .i64 m] 42)
   have hRA := Kd.R_alloc hR (.cells #[.int .i32 ch,.int .i64 m] 42)
   by_cases hneg : ch < 0
   ·have hUb : Hid (bytesOf (s.extract i (i + m)) = U) := Lib.hid (by rw [← hUe];unfold eachU;rw [hch,if_pos hneg,hm])
    rw [hUe] at hI2 hlen
    have hsz : (s.extract i (i + m)).size = m := by rw [size_extract _ _ _ hm2];omega
    clear hUe hch hm
    go_wp2_with (at_builtin;refine print_append_str (w0 := w) w.heap.size rfl (.tmp 22) _ 66 9 5 rfl Tryd.underlying66 Tryd.underlying9 info5 u5 acc (s.extract i (i + m)) rfl rfl hownA hB0 hB0.size (by rw [hsz];omega) ?_;rw [hUb.out];intro v9 w9 ho9 hb9 hg9;have hR9 := units_kept hownA hRA hg9;have hc9 := unit_box_kept hownA hbx hg9)
    go_roundw
    case rel => exact ⟨k,i + m,j + 1,acc ++ U,by go_num,by go_num,hm2,by omega,by omega,hU2,hI2,by rw [List.length_append];omega,ho9,hR9,hb9⟩
    case measure => (try clear hw1);(try clear hw2);simp [intOf];omega
   ·have hUb : Hid (encO (F i ch) = U) := Lib.hid (by rw [← hUe];unfold eachU;rw [hch,if_neg hneg])
    rw [hUe] at hI2 hlen
    clear hUe hch hm
    have hone1 := hone _ i ch hiS hB0
    obtain ⟨fc,hfc⟩ : ∃ x,F i ch = x := ⟨_,rfl⟩
    rw [hfc] at hUb hone1
    clear hfc
    have hkE : Hid (∃ k,unit_Encode.f k [fc] = some (strOfNums U)) := Lib.hid (by
     have := Ev.rounds (encode_ans [fc] (by simp))
     rw [List.flatMap_cons,List.flatMap_nil,List.append_nil,hUb.out] at this
     exact this)
    obtain ⟨kE,hkE⟩ := hkE.out
    have hkE := Lib.hid hkE
    have hUs : Hid (bytesOf (strOfNums U) = U) := Lib.hid (by rw [← hUb.out];exact bytesOf_str _ (encO_byte fc))
    have hsz : (strOfNums U).size = U.length := by rw [← bytesOf_length,hUs.out]
    have hneg' : ¬ (ch < 0) := hneg
    go_wp2_with (fail)
    refine hone1.mono ?_
    rintro e w3 ⟨rfl,hb3⟩
    have hB3 : Below w.heap.size w w3 := hB0.trans (hb3.mono hB0.size)
    have hown3 := pw_own_below hownA hb3
    have hR3 := Kd.R_below hRA hb3
    have hbx3 : w3.heap[wr.heap.size]? = some (.cells #[.int .i32 ch,.int .i64 m] 42 (0,0)) := (hb3.block _ (Array.getElem?_eq_some_iff.1 hbx).1).trans hbx
    have hC3 := lit_one w3 fc
    clear hone1 hownA hRA hbx
    go_wp2_with (first | (go_at_call 29;refine (unit_Encode.calls kE (some ⟨w3.heap.size,0,none⟩) 1 [fc] (strOfNums U) _ hC3 (Nat.le_refl _) hkE.out).mono ?_;rintro e w4 ⟨rfl,hb4⟩;have hb34 : Below w3.heap.size w3 w4 := ((Below.refl _ w3).alloc (Nat.le_refl _) _).trans (hb4.mono (by simp));have hB4 : Below w.heap.size w w4 := hB3.trans (hb34.mono hB3.size);have hown4 := pw_own_below hown3 hb34;have hR4 := Kd.R_below hR3 hb34;have hbx4 : w4.heap[wr.heap.size]? = some (.cells #[.int .i32 ch,.int .i64 m] 42 (0,0)) := (hb34.block _ (Array.getElem?_eq_some_iff.1 hbx3).1).trans hbx3) | (at_builtin;refine print_append_str (w0 := w) w.heap.size rfl (.tmp 31) _ 66 9 5 rfl Tryd.underlying66 Tryd.underlying9 info5 u5 acc (strOfNums U) rfl rfl hown4 hB4 hB4.size (by rw [hsz];omega) ?_;rw [hUs.out];intro v9 w9 ho9 hb9 hg9;have hR9 := units_kept hown4 hR4 hg9;have hc9 := unit_box_kept hown4 hbx4 hg9))
    go_roundw
    case rel => exact ⟨k,i + m,j + 1,acc ++ U,by go_num,by go_num,hm2,by omega,by omega,hU2,hI2,by rw [List.length_append];omega,ho9,hR9,hb9⟩
    case measure => (try clear hw1);(try clear hw2);simp [intOf];omega
  ·have hge : ¬ ((j : Int) < ((unitsL s).length : Int)) := by omega
   have hend : eachT s F = acc := by
    have h1 := hI.out
    have h2 := hU.out
    rw [List.drop_eq_nil_of_le (by omega)] at h2
    have h3 : ¬ i < s.size := fun h => by
     cases k with
     | zero => omega
     | succ k => rw [walkL,if_pos h] at h2;cases h2
    rw [h1,eachL_end s F k i h3,List.append_nil]
   clear hI hU
   have hend := Lib.hid hend
   have hcv := own_string (P := Tryd.prog) Tryd.underlying66 Tryd.underlying5 Tryd.underlying9 hown
   go_wp2
   go_ret
   exact ⟨by first | rfl | (rw [hend.out];rfl),hb⟩
def upF (_ c : Int) : Int := upC c
def lowF (_ c : Int) : Int := lowC c
set_option maxRecDepth 100000 in
set_option maxHeartbeats 4000000 in
theorem upper1_calls (W : World) (at_ c : Int) : Calls Tryd.prog 55 (#[.int .i64 at_,.int .i32 c] ++ #[]) W fun e w' => e = .returned (.int .i32 (upF at_ c)) ∧ Below W.heap.size W w' := by
 show Calls Tryd.prog 55 #[.int .i64 at_,.int .i32 c] W _
 unfold upF
 go_enter Tryd.func55,Tryd.ntmps55
 go_wp2_with (go_at_call 15;refine (word_UpperOf.calls 7 c (upC c) _ (upper7 c)).mono ?_;rintro e w1 ⟨rfl,q,rfl⟩)
 go_ret
 exact ⟨rfl,pw_below_drewN (Below.refl _ _) _⟩
set_option maxRecDepth 100000 in
set_option maxHeartbeats 4000000 in
theorem lower1_calls (W : World) (at_ c : Int) : Calls Tryd.prog 57 (#[.int .i64 at_,.int .i32 c] ++ #[]) W fun e w' => e = .returned (.int .i32 (lowF at_ c)) ∧ Below W.heap.size W w' := by
 show Calls Tryd.prog 57 #[.int .i64 at_,.int .i32 c] W _
 unfold lowF
 go_enter Tryd.func57,Tryd.ntmps57
 go_wp2_with (go_at_call 17;refine (word_LowerOf.calls c (lowC c) _ rfl).mono ?_;rintro e w1 ⟨rfl,hb1⟩)
 go_ret
 exact ⟨rfl,hb1⟩
def word_Upper.f (a0 : ByteArray) : Option ByteArray := if a0.size ≤ 1099511627776 then some (strOfNums (eachT a0 upF)) else none
def word_Lower.f (a0 : ByteArray) : Option ByteArray := if a0.size ≤ 1099511627776 then some (strOfNums (eachT a0 lowF)) else none
set_option maxRecDepth 100000 in
set_option maxHeartbeats 4000000 in
theorem word_Upper.calls (a0 : ByteArray) (r : ByteArray) (w : World) (hT : Lib.Utf8Tabs 0 1 w) (h : word_Upper.f a0 = some r) :
  Calls Tryd.prog 30 #[.string a0] w fun e w' => e = .returned (.string r) ∧ Below w.heap.size w w' := by
 unfold word_Upper.f at h
 split at h
 ·obtain rfl := Option.some.inj h
  rename_i hs
  have he := each_any a0 55 #[] upF w hs hT (enters_of Tryd.func55 (by kernel_rfl) rfl) (fun W at_ c _ _ => upper1_calls W at_ c)
  go_enter Tryd.func30,Tryd.ntmps30
  go_wp2_with (go_at_call 54;refine he.mono ?_;rintro e w1 ⟨rfl,hb1⟩)
  go_ret
  exact ⟨rfl,hb1⟩
 ·cases h
set_option maxRecDepth 100000 in
set_option maxHeartbeats 4000000 in
theorem word_Lower.calls (a0 : ByteArray) (r : ByteArray) (w : World) (hT : Lib.Utf8Tabs 0 1 w) (h : word_Lower.f a0 = some r) :
  Calls Tryd.prog 32 #[.string a0] w fun e w' => e = .returned (.string r) ∧ Below w.heap.size w w' := by
 unfold word_Lower.f at h
 split at h
 ·obtain rfl := Option.some.inj h
  rename_i hs
  have he := each_any a0 57 #[] lowF w hs hT (enters_of Tryd.func57 (by kernel_rfl) rfl) (fun W at_ c _ _ => lower1_calls W at_ c)
  go_enter Tryd.func32,Tryd.ntmps32
  go_wp2_with (go_at_call 54;refine he.mono ?_;rintro e w1 ⟨rfl,hb1⟩)
  go_ret
  exact ⟨rfl,hb1⟩
 ·cases h
end Go.Proofs.YtkficbgnjpekaaaDoor.U
end
section
namespace Go.Proofs.YtkficbgnjpekaaaDoor.U
open Go.RowKit Go.Shelf Go.Maps Go.Proofs.YtkficbgnjpekaaaDoor.Mu Go.Proofs.YtkficbgnjpekaaaDoor.Pu Go.Proofs.YtkficbgnjpekaaaDoor.Rg Go.Proofs.YtkficbgnjpekaaaDoorW.PrintWords Go.Proofs.YtkficbgnjpekaaaDoorW.PrintLast Go.Proofs.YtkficbgnjpekaaaDoorW.PrintMore
set_option linter.unusedVariables false
set_option linter.unusedSimpArgs false
theorem spF_range (s : ByteArray) (B : Int) : ∀ (n : Nat) (cs : List S61),cs.length = n → (∀ c ∈ cs,0 ≤ c.f0 ∧ c.f0 ≤ B) → ∀ sp ∈ (spF s cs).2,0 ≤ sp.f0 ∧ sp.f0 ≤ B
 | 0,cs,hn,_,sp,hsp => by
  obtain rfl := List.length_eq_zero_iff.1 hn
  cases hsp
 | n + 1,cs,hn,hc,sp,hsp => by
  rcases List.eq_nil_or_concat cs with rfl | ⟨l,c,rfl⟩
  ·cases hn
  rw [List.concat_eq_append] at hn hsp hc
  rw [spF_snoc] at hsp
  have ih := spF_range s B n l (by simpa using hn) (fun c hm => hc c (by simp [hm]))
  obtain ⟨_,h2⟩ := spF_shape s l
  have hcc := hc c (by simp)
  obtain ⟨⟨i,L⟩,hL⟩ : ∃ st,spF s l = st := ⟨_,rfl⟩
  rw [hL] at hsp ih h2
  cases hw : wAt s c.f0.toNat with
  | false => rw [spStep_off s i L c hw] at hsp;exact ih sp hsp
  | true =>
   cases i with
   | false =>
    rw [spStep_new s L c hw] at hsp
    rcases List.mem_append.1 hsp with h | h
    ·exact ih sp h
    ·rw [List.mem_singleton] at h;subst h;exact hcc
   | true =>
    obtain ⟨p,a,b,rfl⟩ := h2 rfl
    rw [spStep_on s p a b c hw] at hsp
    rcases List.mem_append.1 hsp with h | h
    ·exact ih sp (List.mem_append.2 (.inl h))
    ·rw [List.mem_singleton] at h;subst h;exact ih ⟨a,b⟩ (by simp)
theorem spans_range (s : ByteArray) : ∀ sp ∈ spansL s,0 ≤ sp.f0 ∧ sp.f0 ≤ s.size :=
 spF_range s s.size _ (clusL s) rfl (fun c hc => by
  obtain ⟨i,_,hi,rfl⟩ := clus_mem' s s.size 0 (cb_zero s) c hc
  exact ⟨Int.natCast_nonneg i,Int.ofNat_le.2 (by omega)⟩)
theorem spans_len (s : ByteArray) : (spansL s).length ≤ s.size := Nat.le_trans (spF_shape s (clusL s)).1 (clusL_length s)
/-- What the map says of the words so far. -/
structure MapI (D : DataW Unit) (l : List S32) : Prop where
 map : IsMap D
 at_ : ∀ k : Int,∃ c : Int,D.atKey (.int .i64 k) (.lit (.int .i64 0)) = .lit (.int .i64 c) ∧ (0 < c ↔ ∃ sp ∈ l,sp.f0 = k)
theorem MapI.nil : MapI (.map []) [] := ⟨isMap_empty,fun k => ⟨0,rfl,by simp⟩⟩
theorem MapI.step {D : DataW Unit} {l : List S32} (h : MapI D l) (sp : S32) (j : Int) (hj : 0 < j) : MapI (D.put (.int .i64 sp.f0) (.lit (.int .i64 j))) (l ++ [sp]) := by
 refine ⟨h.map.put _ _,fun k => ?_⟩
 by_cases e : k = sp.f0
 ·subst e
  exact ⟨j,atKey_put_same h.map (by trivial) _ _,⟨fun _ => ⟨sp,by simp,rfl⟩,fun _ => hj⟩⟩
 ·obtain ⟨c,h1,h2⟩ := h.at_ k
  refine ⟨c,(atKey_put_other (fun h => e (by injection h)) _ _).trans h1,h2.trans ⟨fun ⟨x,hx,hk⟩ => ⟨x,by simp [hx],hk⟩,fun ⟨x,hx,hk⟩ => ?_⟩⟩
  rcases List.mem_append.1 hx with h3 | h3
  ·exact ⟨x,h3,hk⟩
  ·rw [List.mem_singleton] at h3;subst h3;exact absurd hk.symm e
/-- What a character at an offset becomes. -/
def capF (s : ByteArray) (at_ c : Int) : Int := if (spansL s).any (fun sp => decide (sp.f0 = at_)) = true then upC c else lowC c
theorem zero_int (w : World) : (zeroValue 3).run Tryd.prog w = .ok (.int .i64 0) w := by kernel_rfl
set_option maxRecDepth 100000 in
set_option maxHeartbeats 4000000 in
theorem capital1_calls (s : ByteArray) (W : World) (bm Bb n : Nat) (D : DataW Unit) (hbox : Boxed W Bb 71 (.map (some bm))) (hown : W.ownsMap Tryd.prog 3 (plainElem Tryd.prog 3) bm n D) (hD : MapI D (spansL s)) (at_ : Nat) (c : Int) (hat : at_ < 1099511627776) :
  Calls Tryd.prog 58 (#[.int .i64 (at_ : Int),.int .i32 c] ++ #[.pointer (some ⟨Bb,0,none⟩)]) W fun e w' => e = .returned (.int .i32 (capF s at_ c)) ∧ Below W.heap.size W w' := by
 show Calls Tryd.prog 58 #[.int .i64 (at_ : Int),.int .i32 c,.pointer (some ⟨Bb,0,none⟩)] W _
 have hF : Hid (∀ cap : Int,D.atKey (.int .i64 (at_ : Int)) (.lit (.int .i64 0)) = .lit (.int .i64 cap) → capF s at_ c = if 0 < cap then upC c else lowC c) := Lib.hid (fun cap h => by
  obtain ⟨cap',h1,h2⟩ := hD.at_ at_
  have e : cap' = cap := by rw [h1] at h;injection h with h;injection h
  subst e
  unfold capF
  by_cases h3 : 0 < cap'
  ·rw [if_pos h3,if_pos]
   obtain ⟨sp,hm,he⟩ := h2.1 h3
   exact List.any_eq_true.2 ⟨sp,hm,decide_eq_true he⟩
  ·rw [if_neg h3,if_neg]
   intro h4
   obtain ⟨sp,hm,he⟩ := List.any_eq_true.1 h4
   exact h3 (h2.2 ⟨sp,hm,of_decide_eq_true he⟩))
 obtain ⟨G,hG⟩ : ∃ G,capF s at_ c = G := ⟨_,rfl⟩
 rw [hG] at hF
 rw [hG]
 clear hG hD
 have hc := hbox.cell
 go_enter Tryd.func58,Tryd.ntmps58
 go_wp2_with (first | (at_lookup;refine wpList_lookup_own_int _ rfl _ _ 71 rfl 3 3 .i64 (int_keyed Tryd.underlying3) Tryd.underlying71 Tryd.underlying3 (zero_int _) bm n _ rfl hown _ _ rfl (keyOf_int_mk Tryd.underlying3 (WalkArith.wf_i64 (by omega))) ?_;intro cap hcap hwc) | (go_at_call 15;refine (word_UpperOf.calls 7 c (upC c) _ (upper7 c)).mono ?_;rintro e w1 ⟨rfl,q,rfl⟩) | (go_at_call 17;refine (word_LowerOf.calls c (lowC c) _ rfl).mono ?_;rintro e w1 ⟨rfl,hb1⟩))
 all_goals (
  go_ret
  refine ⟨?_,by first | exact hb1 | exact pw_below_drewN (Below.refl _ _) _⟩
  rw [hF.out cap hcap]
  first
  | (rw [if_pos (by omega)];rfl)
  | (rw [if_neg (by omega)];rfl))
set_option maxRecDepth 100000 in
set_option maxHeartbeats 4000000 in
theorem capital_any (s : ByteArray) (w : World) (hs : s.size ≤ 1099511627775) (hT : Lib.Utf8Tabs 0 1 w) :
  Calls Tryd.prog 34 #[.string s] w fun e w' => e = .returned (.string (strOfNums (eachT s (capF s)))) ∧ Below w.heap.size w w' := by
 have hu : word_Spans.f s = some (spansL s) := by unfold word_Spans.f;rw [if_pos (by omega)]
 have hrg := spans_range s
 have hnl := spans_len s
 have hmm := @run_makeMap Tryd.prog
 have hM0 : (w.alloc (.map #[] 0)).ownsMap Tryd.prog 3 (plainElem (H := Unit) Tryd.prog 3) w.heap.size 0 (.map []) := World.ownsMap_made _ _ _ _
 have hM1 := hM0.alloc (.cells #[.map (some w.heap.size)] 71)
 have hB1 := Boxed.new (w.alloc (.map #[] 0)) 71 (.map (some w.heap.size))
 rw [World.size_alloc] at hB1
 have hb1 : Below w.heap.size w ((w.alloc (.map #[] 0)).alloc (.cells #[.map (some w.heap.size)] 71)) := ((Below.refl _ w).alloc (Nat.le_refl _) _).alloc (by simp) _
 have hsz1 : ((w.alloc (.map #[] 0)).alloc (.cells #[.map (some w.heap.size)] 71)).heap.size = w.heap.size + 2 := by simp
 have hT1 := tabs_below hT hb1
 go_enter Tryd.func34,Tryd.ntmps34
 go_wp2_with (go_at_call 20;refine (word_Spans.calls s (spansL s) _ hT1 hu).mono ?_;rintro e w2 ⟨v0,rfl,hR,hb2⟩;obtain ⟨A,c,rfl,hcl,hC⟩ := Kd.R_reads hR)
 rw [hsz1] at hR
 have hg2 : ((w.alloc (.map #[] 0)).alloc (.cells #[.map (some w.heap.size)] 71)).grownBy w2 none := ⟨hb2.os,hb2.tape,hb2.output,hb2.size,fun i hi _ => hb2.block i hi⟩
 have hM2 := hM1.kept hg2 (by simp)
 have hB2 := boxed_below hB1 hb2
 have hbw2 : Below w.heap.size w w2 := hb1.trans (hb2.mono hb1.size)
 clear hM0 hM1 hB1 hb1 hT1 hb2 hg2 hC hsz1
 go_loopw [10] (fun v wr => ∃ (j : Nat) (D : DataW Unit),v = .int .i64 j ∧ j ≤ (spansL s).length ∧ wr.ownsMap Tryd.prog 3 (plainElem (H := Unit) Tryd.prog 3) w.heap.size j D ∧ Hid (MapI D ((spansL s).take j)) ∧ Boxed wr (w.heap.size + 1) 71 (.map (some w.heap.size)) ∧
   Kd.R k32 32 wr (w.heap.size + 2) (fun _ => True) (.slice A (spansL s).length c) (spansL s) ∧ Below w.heap.size w wr)
  (fun v _ => (spansL s).length - (intOf v).toNat)
 case atStart => exact ⟨0,_,rfl,Nat.zero_le _,hM2,Lib.hid (by rw [List.take_zero];exact MapI.nil),hB2,hR,hbw2⟩
 case round =>
  obtain ⟨j,D,rfl,hj,hM,hI,hB,hR,hb⟩ := hrel
  clear hM2 hB2 hbw2
  by_cases hlt : j < (spansL s).length
  ·obtain ⟨A',c',e',_,hC⟩ := Kd.R_reads hR
   obtain ⟨rfl,_,rfl⟩ : A = A' ∧ (spansL s).length = (spansL s).length ∧ c = c' := by injection e' with e1 e2 e3;exact ⟨e1,e2,e3⟩
   obtain ⟨ad,rfl,ca0,ca1⟩ := at_T32 hC (j : Int) (by omega) (by omega)
   have hrd : rd_T32 (spansL s) (j : Int) = (spansL s)[j] := by unfold rd_T32;rw [Int.toNat_natCast,List.getD_eq_getElem?_getD,List.getElem?_eq_getElem hlt];rfl
   rw [hrd] at ca0 ca1
   have hin := hrg _ (List.getElem_mem hlt)
   have htk : (spansL s).take (j + 1) = (spansL s).take j ++ [(spansL s)[j]] := (List.take_append_getElem hlt).symm
   have hstep : Hid (∀ v : Int,0 < v → MapI (D.put (.int .i64 (spansL s)[j].f0) (.lit (.int .i64 v))) ((spansL s).take (j + 1))) := Lib.hid (fun v hv => by rw [htk];exact hI.out.step _ v hv)
   obtain ⟨⟨x0,x1⟩,hx⟩ : ∃ x,(spansL s)[j] = x := ⟨_,rfl⟩
   rw [hx] at ca0 ca1 hin hstep
   simp only [Int.toNat_natCast] at ca0 ca1
   clear hx hrd htk hI hC
   have hjlt : (j : Int) < ((spansL s).length : Int) := by omega
   have hu32 := Tryd.underlying32
   have hw2 : IntKind.i64.wrap ((j : Int) + 1) = ((j + 1 : Nat) : Int) := (i64_w _).trans (by unfold wrap64;omega)
   have hin' : 0 ≤ x0 ∧ x0 ≤ s.size := hin
   have hM' := hM.alloc (.cells #[.int .i64 x0,.int .i64 x1] 32)
   have hB' := hB.alloc (.cells #[.int .i64 x0,.int .i64 x1] 32)
   have hcB := hB'.cell
   have hR' := Kd.R_alloc hR (.cells #[.int .i64 x0,.int .i64 x1] 32)
   have hb' : Below w.heap.size w (wr.alloc (.cells #[.int .i64 x0,.int .i64 x1] 32)) := hb.alloc hb.size _
   have hwf0 : (Lit.int .i64 x0).wf = true := WalkArith.wf_i64 (by omega)
   have hwf1 : (Lit.int .i64 ((j + 1 : Nat) : Int)).wf = true := WalkArith.wf_i64 (by omega)
   go_wp2_with (at_mapUpdate;refine wpList_mapUpdate_own _ rfl _ _ _ 71 rfl 3 3 (int_keyed Tryd.underlying3) Tryd.underlying71 _ w.heap.size j _ rfl hM' (by unfold maxLen;omega) _ _ _ rfl rfl (keyOf_int_mk Tryd.underlying3 hwf0) _ [] (plainElem_int Tryd.underlying3 (a := ((j + 1 : Nat) : Int)) hwf1) ?_;intro w3 hown3 hg3)
   go_roundw
   case rel =>
    refine ⟨j + 1,_,by go_num,by omega,hown3,Lib.hid (hstep.out _ (by omega)),?_,?_,hb'.grown hg3 hb'.size (fun k e => by cases e;exact Nat.le_refl _)⟩
    ·exact hB'.kept hg3 (by simp)
    ·refine Kd.R_grown2 hR' rfl hg3 (fun k e => ?_)
     cases e
     obtain ⟨inner,ho⟩ := Kd.R_own hR'
     intro h
     have := own_base ho _ h.symm
     omega
   case measure => clear hw2;simp [intOf];omega
  ·have hge : ¬ ((j : Int) < ((spansL s).length : Int)) := by omega
   have hIa : MapI D (spansL s) := by have := hI.out;rwa [List.take_of_length_le (by omega)] at this
   have he := each_any s 58 #[.pointer (some ⟨w.heap.size + 1,0,none⟩)] (capF s) wr (by omega) (tabs_below hT hb) (enters_of Tryd.func58 (by kernel_rfl) rfl) (fun W at_ c hat hbW =>
    capital1_calls s W w.heap.size (w.heap.size + 1) j D (boxed_below hB hbW) (hM.kept (row := none) ⟨hbW.os,hbW.tape,hbW.output,hbW.size,fun i hi _ => hbW.block i hi⟩ (by simp)) hIa at_ c (by omega))
   clear hIa hI hrg
   go_wp2_with (go_at_call 54;refine he.mono ?_;rintro e w4 ⟨rfl,hb4⟩)
   go_ret
   exact ⟨rfl,hb.trans (hb4.mono hb.size)⟩
def word_Capital.f (a0 : ByteArray) : Option ByteArray := if a0.size ≤ 1099511627775 then some (strOfNums (eachT a0 (capF a0))) else none
theorem word_Capital.calls (a0 : ByteArray) (r : ByteArray) (w : World) (hT : Lib.Utf8Tabs 0 1 w) (h : word_Capital.f a0 = some r) :
  Calls Tryd.prog 34 #[.string a0] w fun e w' => e = .returned (.string r) ∧ Below w.heap.size w w' := by
 unfold word_Capital.f at h
 split at h
 ·obtain rfl := Option.some.inj h
  rename_i hs
  exact capital_any a0 w hs hT
 ·cases h
end Go.Proofs.YtkficbgnjpekaaaDoor.U
end
section
namespace Go.Proofs.YtkficbgnjpekaaaDoor.U
open Go.RowKit Go.Proofs.YtkficbgnjpekaaaDoorW.PrintWords Go.Proofs.YtkficbgnjpekaaaDoorW.PrintLast Go.Proofs.YtkficbgnjpekaaaDoorW.PrintMore
attribute [local go_sem] max2_int min2_int max_two min_two max_three min_three max_four min_four   -- for this text's walks alone
set_option linter.unusedVariables false
set_option linter.unusedSimpArgs false
attribute [local go_sem high] eqA32
def word_Ahead.l0 : Nat → ByteArray → Int → List (S32) → Int → Int → Option (Int)
 | 0,_,_,_,_,_ => none
 | k + 1,x0,x1,x13,x14,x15 => if x15 < x14 then (if 0 ≤ x15 then (if x15 < (x13.length : Int) then (if ((rd_T32 x13 x15).f1) > x1 then (some ((rd_T32 x13 x15).f1)) else (word_Ahead.l0 k x0 x1 x13 x14 (wrap64 (x15 + 1)))) else (none)) else (none)) else (some (x0.size : Int))
def word_Ahead.f (k : Nat) (a0 : ByteArray) (a1 : Int) : Option (Int) := (word_Spans.f a0).bind fun t101 => (word_Ahead.l0 k a0 (mn (mx a1 0) (a0.size : Int)) t101 (t101.length : Int) 0)
theorem word_Ahead.mono_l : ∀ k,(∀ y0 y1 y2 y3 y4,LeO (word_Ahead.l0 k y0 y1 y2 y3 y4) (word_Ahead.l0 (k + 1) y0 y1 y2 y3 y4))
 | 0 => fun _ _ _ _ _ r h => by simp [word_Ahead.l0] at h
 | k + 1 => by
  have ih0 := word_Ahead.mono_l k
  ·intro y0 y1 y2 y3 y4
   unfold word_Ahead.l0
   repeat' first
   | (with_reducible exact ih0 _ _ _ _ _)
   | (with_reducible exact LeO.refl _)
   | (with_reducible exact LeO.none _)
   | (with_reducible refine LeO.ite ?_ ?_)
   | (with_reducible refine LeO.bind ?_ (fun _ => ?_))
   | exact ih0 _ _ _ _ _
   | exact LeO.none _
   | refine LeO.ite ?_ ?_
   | refine LeO.bind ?_ (fun _ => ?_)
theorem word_Ahead.mono : ∀ a0 a1 k,LeO (word_Ahead.f k a0 a1) (word_Ahead.f (k + 1) a0 a1) := by
 intro a0 a1 k
 have ih0 := word_Ahead.mono_l k
 unfold word_Ahead.f
 repeat' first
   | (with_reducible exact ih0 _ _ _ _ _)
   | (with_reducible exact LeO.refl _)
   | (with_reducible exact LeO.none _)
   | (with_reducible refine LeO.ite ?_ ?_)
   | (with_reducible refine LeO.bind ?_ (fun _ => ?_))
   | exact ih0 _ _ _ _ _
   | exact LeO.none _
   | refine LeO.ite ?_ ?_
   | refine LeO.bind ?_ (fun _ => ?_)
set_option maxHeartbeats 8000000 in
set_option maxRecDepth 100000 in
theorem word_Ahead.calls (k : Nat) (a0 : ByteArray) (a1 : Int) (r : Int) (w : World) (hT : Lib.Utf8Tabs 0 1 w) (h : word_Ahead.f k a0 a1 = some r) :
  Calls Tryd.prog 22 #[.string a0,.int .i64 a1] w fun e w' => e = .returned (.int .i64 r) ∧ Below w.heap.size w w' := by
 have hu32 := Tryd.underlying32
 have HT := Aside0.mk hT
 clear hT
 have HB := Aside0.mk (Below.refl w.heap.size w)
 have H : ((word_Spans.f a0).bind fun t101 => (word_Ahead.l0 k a0 (mn (mx a1 0) (a0.size : Int)) t101 (t101.length : Int) 0)) = some r := h
 clear h
 obtain ⟨ji3,hji3⟩ : ∃ j_ : Int,(mx a1 0) = j_ := ⟨_,rfl⟩
 replace H : ((word_Spans.f a0).bind fun t101 => (word_Ahead.l0 k a0 (mn (ji3) (a0.size : Int)) t101 (t101.length : Int) 0)) = some r := by first | (rw [hji3] at H;exact H) | (simp only [hji3] at H ⊢;exact H)
 (try (have hji3l : 0 ≤ ji3 := by (rw [← hji3];unfold mx;(repeat' split) <;> omega)))
 (try (have hji3m : 0 ≤ ji3 := by omega))
 have hji3_ : (if a1 < 0 then 0 else a1) = ji3 := hji3
 obtain ⟨ji4,hji4⟩ : ∃ j_ : Int,(mn (ji3) (a0.size : Int)) = j_ := ⟨_,rfl⟩
 replace H : ((word_Spans.f a0).bind fun t101 => (word_Ahead.l0 k a0 ji4 t101 (t101.length : Int) 0)) = some r := by first | (rw [hji4] at H;exact H) | (simp only [hji4] at H ⊢;exact H)
 have hji4_ : (if (a0.size : Int) < (ji3) then (a0.size : Int) else (ji3)) = ji4 := hji4
 replace H := Option.bind_eq_some_iff.mp H
 obtain ⟨t101,A50,H⟩ := H
 replace H : (word_Ahead.l0 k a0 ji4 t101 (t101.length : Int) 0) = some r := H
 have A5 := Aside0.mk A50
 clear A50
 have H' := Aside0.mk H
 clear H
 go_enter Tryd.func22,Tryd.ntmps22
 go_wp2_with (first | ((with_reducible refine gate_callee (f := 20) rfl ?_);refine goesL_ (some 13) rfl rfl Tryd.func20 (by kernel_rfl) rfl #[.string a0] rfl au1 ?_;(with_reducible refine (word_Spans.calls a0 t101 _ ?side1 A5.out).mono ?_);(case side1 => exact tabs_below HT.out au0);rintro e w6 ⟨v102,rfl,ho0,hb⟩;refine ⟨_,rfl,?_⟩;have n0_ := Aside0.mk (Kd.R_lower ho0 (below_size au0));have n1_ := Aside0.mk (below_step au0 hb);clear HB;have HO103 := n0_;have HB := n1_;clear n0_ n1_;(try clear hb);(try clear hb2);(try clear hk);(try clear hi);(try clear ho0);obtain ⟨Ao7,co7,eo7⟩ := Kd.R_slice HO103.out;subst eo7))
 go_loopg [15] k (fun kq v15 w' => ∃ (x15_1 : Int),v15 = .int .i64 x15_1 ∧ Aside0 (word_Ahead.l0 kq a0 ji4 t101 (t101.length : Int) x15_1 = some r) ∧ Aside0 (kq ≤ k) ∧ Aside0 (Kd.R k32 32 w' w.heap.size (fun _ => True) (.slice Ao7 t101.length co7) t101) ∧ Aside0 (Below w.heap.size w w'))
 case atStart => exact ⟨(0),au3,H',⟨Nat.le_refl _⟩,⟨by (with_reducible repeat (first | apply Kd.R_alloc | apply Kd.R_drewN | apply Kd.R_drew));exact HO103.out⟩,⟨au0⟩⟩
 case round =>
  clear H'
  try clear c2
  try clear p2
  obtain ⟨x15_1,rfl,HA,HK1,HO_13,HB⟩ := hrel
  cases gk with
  | zero => exact absurd HA.out (by simp [word_Ahead.l0])
  | succ k1 =>
   have H := HA.out
   clear HA
   simp only [word_Ahead.l0] at H
   by_cases c8 : x15_1 < (t101.length : Int)
   ·rw [if_pos c8] at H
    have c8b0 : decide (x15_1 < (t101.length : Int)) = true := decide_eq_true c8
    clear c8
    by_cases c9 : 0 ≤ x15_1
    ·rw [if_pos c9] at H
     have c9b0 : decide (0 ≤ x15_1) = true := decide_eq_true c9
     clear c9
     by_cases c10 : x15_1 < (t101.length : Int)
     ·rw [if_pos c10] at H
      have c10b0 : decide (x15_1 < (t101.length : Int)) = true := decide_eq_true c10
      clear c10
      by_cases c11 : ((rd_T32 t101 x15_1).f1) > ji4
      ·rw [if_pos c11] at H
       have c11b0 : decide (ji4 < ((rd_T32 t101 x15_1).f1)) = true := decide_eq_true c11
       clear c11
       obtain rfl := Option.some.inj H
       have p104 : 0 ≤ (x15_1 : Int) := of_decide_eq_true au4
       have q104 : x15_1 < (t101.length : Int) := of_decide_eq_true au4
       obtain ⟨ad104,e104,hx104_0,hx104_1⟩ := at_T32 (Kd.R_reads' HO_13.out).2.2 x15_1 p104 q104
       cases e104
       replace p104 := eq_true p104
       replace q104 := eq_true q104
       go_wp2_with (first | ((with_reducible refine gate_dst (N := 6) rfl ?_);refine box_event ?hg (N := 6) ?hd (cs := #[.int .i64 0,.int .i64 0]) (t := 32) ?hr ?_;(case hd => rfl);(case hg => rfl);(case hr => first | (go_simp;done) | (go_simp;rfl));intro gb105 hg w12 hbox hb;have n0_ := Aside0.mk (Kd.R_below (Kd.R_elderB (by (with_reducible repeat (first | apply Kd.R_alloc | apply Kd.R_drewN | apply Kd.R_drew));exact HO_13.out) gb105 (Nat.le_of_eq hg.symm)) hb);have n1_ := Aside0.mk (below_step au0 hb);have n2_ := Aside0.mk (hbox);have n3_ := Aside0.mk ((by rw [hg];exact (below_size au0) : w.heap.size ≤ gb105));have n4_ := Aside0.mk ((by rw [hg];exact (below_size au0) : w.heap.size ≤ gb105));clear HO_13;clear HB;have HO_13 := n0_;have HB := n1_;have BK105 := n2_;have GW105 := n3_;have GE105 := n4_;clear n0_ n1_ n2_ n3_ n4_;clear hb hbox hg;have hcz13_0 : w12.cell? ⟨gb105,0,none⟩ = some (.int .i64 0) := (blk_cell BK105.out 0).trans rfl;have hcz13_1 : w12.cell? ⟨gb105,1,none⟩ = some (.int .i64 0) := (blk_cell BK105.out 1).trans rfl;have hfz13_0 := blk_frozen BK105.out 0;have hfz13_1 := blk_frozen BK105.out 1))
       go_ret
       exact ⟨by first | rfl | (simp [errW_none,errW_some] <;> rfl) | (simp only [← hji3,← hji4];first | rfl | (simp [errW_none,errW_some] <;> rfl)) | (simp [*,errW_none,errW_some] <;> rfl),by repeat (first | (with_reducible first | exact HB.out | apply below_alloc | apply pw_below_drewN | apply below_drew1 | refine below_set ?_ GE105.out) | exact HB.out)⟩
      ·rw [if_neg c11] at H
       have c11b0 : decide (ji4 < ((rd_T32 t101 x15_1).f1)) = false := decide_eq_false c11
       clear c11
       have H' := Aside0.mk H
       clear H
       have p104 : 0 ≤ (x15_1 : Int) := of_decide_eq_true au4
       have q104 : x15_1 < (t101.length : Int) := of_decide_eq_true au4
       obtain ⟨ad104,e104,hx104_0,hx104_1⟩ := at_T32 (Kd.R_reads' HO_13.out).2.2 x15_1 p104 q104
       cases e104
       replace p104 := eq_true p104
       replace q104 := eq_true q104
       go_wp2_with (first | ((with_reducible refine gate_dst (N := 6) rfl ?_);refine box_event ?hg (N := 6) ?hd (cs := #[.int .i64 0,.int .i64 0]) (t := 32) ?hr ?_;(case hd => rfl);(case hg => rfl);(case hr => first | (go_simp;done) | (go_simp;rfl));intro gb105 hg w14 hbox hb;have n0_ := Aside0.mk (Kd.R_below (Kd.R_elderB (by (with_reducible repeat (first | apply Kd.R_alloc | apply Kd.R_drewN | apply Kd.R_drew));exact HO_13.out) gb105 (Nat.le_of_eq hg.symm)) hb);have n1_ := Aside0.mk (below_step au0 hb);have n2_ := Aside0.mk (hbox);have n3_ := Aside0.mk ((by rw [hg];exact (below_size au0) : w.heap.size ≤ gb105));have n4_ := Aside0.mk ((by rw [hg];exact (below_size au0) : w.heap.size ≤ gb105));clear HO_13;clear HB;have HO_13 := n0_;have HB := n1_;have BK105 := n2_;have GW105 := n3_;have GE105 := n4_;clear n0_ n1_ n2_ n3_ n4_;clear hb hbox hg;have hcz15_0 : w14.cell? ⟨gb105,0,none⟩ = some (.int .i64 0) := (blk_cell BK105.out 0).trans rfl;have hcz15_1 : w14.cell? ⟨gb105,1,none⟩ = some (.int .i64 0) := (blk_cell BK105.out 1).trans rfl;have hfz15_0 := blk_frozen BK105.out 0;have hfz15_1 := blk_frozen BK105.out 1))
       go_roundg k1
       case measure => have := HK1.out;omega
       case rel => exact ⟨(wrap64 (x15_1 + 1)),au3,H',⟨by have := HK1.out;omega⟩,⟨by (with_reducible repeat (first | apply Kd.R_alloc | apply Kd.R_drewN | apply Kd.R_drew));exact Kd.R_mono (Kd.R_far (p := ⟨gb105,1,none⟩) (Kd.R_far (p := ⟨gb105,0,none⟩) (Kd.R_mono HO_13.out (fun k_ hk => (⟨hk,hk.2⟩ : _ ∧ k_ ≠ gb105))) (fun _ hk => hk.2) (.int .i64 ((rd_T32 t101 x15_1).f0))) (fun _ hk => hk.2) (.int .i64 ((rd_T32 t101 x15_1).f1))) (fun _ hk => trivial)⟩,⟨by repeat (first | (with_reducible first | exact HB.out | apply below_alloc | apply pw_below_drewN | apply below_drew1 | refine below_set ?_ GE105.out) | exact HB.out)⟩⟩
     ·rw [if_neg c10] at H
      exact absurd H (by simp)
    ·rw [if_neg c9] at H
     exact absurd H (by simp)
   ·rw [if_neg c8] at H
    have c8b0 : decide (x15_1 < (t101.length : Int)) = false := decide_eq_false c8
    clear c8
    obtain rfl := Option.some.inj H
    go_wp2
    go_ret
    exact ⟨by first | rfl | (simp [errW_none,errW_some] <;> rfl) | (simp only [← hji3,← hji4];first | rfl | (simp [errW_none,errW_some] <;> rfl)) | (simp [*,errW_none,errW_some] <;> rfl),au0⟩
def word_Behind.l0 : Nat → Int → Int → List (S32) → Int → Int → Option (Int)
 | 0,_,_,_,_,_ => none
 | k + 1,x1,x5,x14,x15,x16 => if x16 < x15 then (if 0 ≤ x16 then (if x16 < (x14.length : Int) then (if ((rd_T32 x14 x16).f0) < x1 then (word_Behind.l0 k x1 ((rd_T32 x14 x16).f0) x14 x15 (wrap64 (x16 + 1))) else (word_Behind.l0 k x1 x5 x14 x15 (wrap64 (x16 + 1)))) else (none)) else (none)) else (some x5)
def word_Behind.f (k : Nat) (a0 : ByteArray) (a1 : Int) : Option (Int) := (word_Spans.f a0).bind fun t106 => (word_Behind.l0 k (mn (mx a1 0) (a0.size : Int)) 0 t106 (t106.length : Int) 0)
theorem word_Behind.mono_l : ∀ k,(∀ y0 y1 y2 y3 y4,LeO (word_Behind.l0 k y0 y1 y2 y3 y4) (word_Behind.l0 (k + 1) y0 y1 y2 y3 y4))
 | 0 => fun _ _ _ _ _ r h => by simp [word_Behind.l0] at h
 | k + 1 => by
  have ih0 := word_Behind.mono_l k
  ·intro y0 y1 y2 y3 y4
   unfold word_Behind.l0
   repeat' first
   | (with_reducible exact ih0 _ _ _ _ _)
   | (with_reducible exact LeO.refl _)
   | (with_reducible exact LeO.none _)
   | (with_reducible refine LeO.ite ?_ ?_)
   | (with_reducible refine LeO.bind ?_ (fun _ => ?_))
   | exact ih0 _ _ _ _ _
   | exact LeO.none _
   | refine LeO.ite ?_ ?_
   | refine LeO.bind ?_ (fun _ => ?_)
theorem word_Behind.mono : ∀ a0 a1 k,LeO (word_Behind.f k a0 a1) (word_Behind.f (k + 1) a0 a1) := by
 intro a0 a1 k
 have ih0 := word_Behind.mono_l k
 unfold word_Behind.f
 repeat' first
   | (with_reducible exact ih0 _ _ _ _ _)
   | (with_reducible exact LeO.refl _)
   | (with_reducible exact LeO.none _)
   | (with_reducible refine LeO.ite ?_ ?_)
   | (with_reducible refine LeO.bind ?_ (fun _ => ?_))
   | exact ih0 _ _ _ _ _
   | exact LeO.none _
   | refine LeO.ite ?_ ?_
   | refine LeO.bind ?_ (fun _ => ?_)
set_option maxHeartbeats 8000000 in
set_option maxRecDepth 100000 in
theorem word_Behind.calls (k : Nat) (a0 : ByteArray) (a1 : Int) (r : Int) (w : World) (hT : Lib.Utf8Tabs 0 1 w) (h : word_Behind.f k a0 a1 = some r) :
  Calls Tryd.prog 24 #[.string a0,.int .i64 a1] w fun e w' => e = .returned (.int .i64 r) ∧ Below w.heap.size w w' := by
 have hu32 := Tryd.underlying32
 have HT := Aside0.mk hT
 clear hT
 have HB := Aside0.mk (Below.refl w.heap.size w)
 have H : ((word_Spans.f a0).bind fun t106 => (word_Behind.l0 k (mn (mx a1 0) (a0.size : Int)) 0 t106 (t106.length : Int) 0)) = some r := h
 clear h
 obtain ⟨ji3,hji3⟩ : ∃ j_ : Int,(mx a1 0) = j_ := ⟨_,rfl⟩
 replace H : ((word_Spans.f a0).bind fun t106 => (word_Behind.l0 k (mn (ji3) (a0.size : Int)) 0 t106 (t106.length : Int) 0)) = some r := by first | (rw [hji3] at H;exact H) | (simp only [hji3] at H ⊢;exact H)
 (try (have hji3l : 0 ≤ ji3 := by (rw [← hji3];unfold mx;(repeat' split) <;> omega)))
 (try (have hji3m : 0 ≤ ji3 := by omega))
 have hji3_ : (if a1 < 0 then 0 else a1) = ji3 := hji3
 obtain ⟨ji4,hji4⟩ : ∃ j_ : Int,(mn (ji3) (a0.size : Int)) = j_ := ⟨_,rfl⟩
 replace H : ((word_Spans.f a0).bind fun t106 => (word_Behind.l0 k ji4 0 t106 (t106.length : Int) 0)) = some r := by first | (rw [hji4] at H;exact H) | (simp only [hji4] at H ⊢;exact H)
 have hji4_ : (if (a0.size : Int) < (ji3) then (a0.size : Int) else (ji3)) = ji4 := hji4
 replace H := Option.bind_eq_some_iff.mp H
 obtain ⟨t106,A50,H⟩ := H
 replace H : (word_Behind.l0 k ji4 0 t106 (t106.length : Int) 0) = some r := H
 have A5 := Aside0.mk A50
 clear A50
 have H' := Aside0.mk H
 clear H
 go_enter Tryd.func24,Tryd.ntmps24
 go_wp2_with (first | ((with_reducible refine gate_callee (f := 20) rfl ?_);refine goesL_ (some 14) rfl rfl Tryd.func20 (by kernel_rfl) rfl #[.string a0] rfl au1 ?_;(with_reducible refine (word_Spans.calls a0 t106 _ ?side1 A5.out).mono ?_);(case side1 => exact tabs_below HT.out au0);rintro e w6 ⟨v107,rfl,ho0,hb⟩;refine ⟨_,rfl,?_⟩;have n0_ := Aside0.mk (Kd.R_lower ho0 (below_size au0));have n1_ := Aside0.mk (below_step au0 hb);clear HB;have HO108 := n0_;have HB := n1_;clear n0_ n1_;(try clear hb);(try clear hb2);(try clear hk);(try clear hi);(try clear ho0);obtain ⟨Ao7,co7,eo7⟩ := Kd.R_slice HO108.out;subst eo7))
 go_loopg [5,16] k (fun kq v5 v16 w' => ∃ (x5_1 : Int) (x16_1 : Int),v5 = .int .i64 x5_1 ∧ v16 = .int .i64 x16_1 ∧ Aside0 (word_Behind.l0 kq ji4 x5_1 t106 (t106.length : Int) x16_1 = some r) ∧ Aside0 (kq ≤ k) ∧ Aside0 (Kd.R k32 32 w' w.heap.size (fun _ => True) (.slice Ao7 t106.length co7) t106) ∧ Aside0 (Below w.heap.size w w'))
 case atStart => exact ⟨(0),(0),au3,au3,H',⟨Nat.le_refl _⟩,⟨by (with_reducible repeat (first | apply Kd.R_alloc | apply Kd.R_drewN | apply Kd.R_drew));exact HO108.out⟩,⟨au0⟩⟩
 case round =>
  clear H'
  try clear c2
  try clear p2
  obtain ⟨x5_1,x16_1,rfl,rfl,HA,HK1,HO_14,HB⟩ := hrel
  cases gk with
  | zero => exact absurd HA.out (by simp [word_Behind.l0])
  | succ k1 =>
   have H := HA.out
   clear HA
   simp only [word_Behind.l0] at H
   by_cases c8 : x16_1 < (t106.length : Int)
   ·rw [if_pos c8] at H
    have c8b0 : decide (x16_1 < (t106.length : Int)) = true := decide_eq_true c8
    clear c8
    by_cases c9 : 0 ≤ x16_1
    ·rw [if_pos c9] at H
     have c9b0 : decide (0 ≤ x16_1) = true := decide_eq_true c9
     clear c9
     by_cases c10 : x16_1 < (t106.length : Int)
     ·rw [if_pos c10] at H
      have c10b0 : decide (x16_1 < (t106.length : Int)) = true := decide_eq_true c10
      clear c10
      by_cases c11 : ((rd_T32 t106 x16_1).f0) < ji4
      ·rw [if_pos c11] at H
       have c11b0 : decide (((rd_T32 t106 x16_1).f0) < ji4) = true := decide_eq_true c11
       clear c11
       have H' := Aside0.mk H
       clear H
       have p109 : 0 ≤ (x16_1 : Int) := of_decide_eq_true au4
       have q109 : x16_1 < (t106.length : Int) := of_decide_eq_true au4
       obtain ⟨ad109,e109,hx109_0,hx109_1⟩ := at_T32 (Kd.R_reads' HO_14.out).2.2 x16_1 p109 q109
       cases e109
       replace p109 := eq_true p109
       replace q109 := eq_true q109
       go_wp2_with (first | ((with_reducible refine gate_dst (N := 7) rfl ?_);refine box_event ?hg (N := 7) ?hd (cs := #[.int .i64 0,.int .i64 0]) (t := 32) ?hr ?_;(case hd => rfl);(case hg => rfl);(case hr => first | (go_simp;done) | (go_simp;rfl));intro gb110 hg w12 hbox hb;have n0_ := Aside0.mk (Kd.R_below (Kd.R_elderB (by (with_reducible repeat (first | apply Kd.R_alloc | apply Kd.R_drewN | apply Kd.R_drew));exact HO_14.out) gb110 (Nat.le_of_eq hg.symm)) hb);have n1_ := Aside0.mk (below_step au0 hb);have n2_ := Aside0.mk (hbox);have n3_ := Aside0.mk ((by rw [hg];exact (below_size au0) : w.heap.size ≤ gb110));have n4_ := Aside0.mk ((by rw [hg];exact (below_size au0) : w.heap.size ≤ gb110));clear HO_14;clear HB;have HO_14 := n0_;have HB := n1_;have BK110 := n2_;have GW110 := n3_;have GE110 := n4_;clear n0_ n1_ n2_ n3_ n4_;clear hb hbox hg;have hcz13_0 : w12.cell? ⟨gb110,0,none⟩ = some (.int .i64 0) := (blk_cell BK110.out 0).trans rfl;have hcz13_1 : w12.cell? ⟨gb110,1,none⟩ = some (.int .i64 0) := (blk_cell BK110.out 1).trans rfl;have hfz13_0 := blk_frozen BK110.out 0;have hfz13_1 := blk_frozen BK110.out 1))
       go_roundg k1
       case measure => have := HK1.out;omega
       case rel => exact ⟨((rd_T32 t106 x16_1).f0),(wrap64 (x16_1 + 1)),au3,au3,H',⟨by have := HK1.out;omega⟩,⟨by (with_reducible repeat (first | apply Kd.R_alloc | apply Kd.R_drewN | apply Kd.R_drew));exact Kd.R_mono (Kd.R_far (p := ⟨gb110,1,none⟩) (Kd.R_far (p := ⟨gb110,0,none⟩) (Kd.R_mono HO_14.out (fun k_ hk => (⟨hk,hk.2⟩ : _ ∧ k_ ≠ gb110))) (fun _ hk => hk.2) (.int .i64 ((rd_T32 t106 x16_1).f0))) (fun _ hk => hk.2) (.int .i64 ((rd_T32 t106 x16_1).f1))) (fun _ hk => trivial)⟩,⟨by repeat (first | (with_reducible first | exact HB.out | apply below_alloc | apply pw_below_drewN | apply below_drew1 | refine below_set ?_ GE110.out) | exact HB.out)⟩⟩
      ·rw [if_neg c11] at H
       have c11b0 : decide (((rd_T32 t106 x16_1).f0) < ji4) = false := decide_eq_false c11
       clear c11
       have H' := Aside0.mk H
       clear H
       have p109 : 0 ≤ (x16_1 : Int) := of_decide_eq_true au4
       have q109 : x16_1 < (t106.length : Int) := of_decide_eq_true au4
       obtain ⟨ad109,e109,hx109_0,hx109_1⟩ := at_T32 (Kd.R_reads' HO_14.out).2.2 x16_1 p109 q109
       cases e109
       replace p109 := eq_true p109
       replace q109 := eq_true q109
       go_wp2_with (first | ((with_reducible refine gate_dst (N := 7) rfl ?_);refine box_event ?hg (N := 7) ?hd (cs := #[.int .i64 0,.int .i64 0]) (t := 32) ?hr ?_;(case hd => rfl);(case hg => rfl);(case hr => first | (go_simp;done) | (go_simp;rfl));intro gb110 hg w14 hbox hb;have n0_ := Aside0.mk (Kd.R_below (Kd.R_elderB (by (with_reducible repeat (first | apply Kd.R_alloc | apply Kd.R_drewN | apply Kd.R_drew));exact HO_14.out) gb110 (Nat.le_of_eq hg.symm)) hb);have n1_ := Aside0.mk (below_step au0 hb);have n2_ := Aside0.mk (hbox);have n3_ := Aside0.mk ((by rw [hg];exact (below_size au0) : w.heap.size ≤ gb110));have n4_ := Aside0.mk ((by rw [hg];exact (below_size au0) : w.heap.size ≤ gb110));clear HO_14;clear HB;have HO_14 := n0_;have HB := n1_;have BK110 := n2_;have GW110 := n3_;have GE110 := n4_;clear n0_ n1_ n2_ n3_ n4_;clear hb hbox hg;have hcz15_0 : w14.cell? ⟨gb110,0,none⟩ = some (.int .i64 0) := (blk_cell BK110.out 0).trans rfl;have hcz15_1 : w14.cell? ⟨gb110,1,none⟩ = some (.int .i64 0) := (blk_cell BK110.out 1).trans rfl;have hfz15_0 := blk_frozen BK110.out 0;have hfz15_1 := blk_frozen BK110.out 1))
       go_roundg k1
       case measure => have := HK1.out;omega
       case rel => exact ⟨(x5_1),(wrap64 (x16_1 + 1)),au3,au3,H',⟨by have := HK1.out;omega⟩,⟨by (with_reducible repeat (first | apply Kd.R_alloc | apply Kd.R_drewN | apply Kd.R_drew));exact Kd.R_mono (Kd.R_far (p := ⟨gb110,1,none⟩) (Kd.R_far (p := ⟨gb110,0,none⟩) (Kd.R_mono HO_14.out (fun k_ hk => (⟨hk,hk.2⟩ : _ ∧ k_ ≠ gb110))) (fun _ hk => hk.2) (.int .i64 ((rd_T32 t106 x16_1).f0))) (fun _ hk => hk.2) (.int .i64 ((rd_T32 t106 x16_1).f1))) (fun _ hk => trivial)⟩,⟨by repeat (first | (with_reducible first | exact HB.out | apply below_alloc | apply pw_below_drewN | apply below_drew1 | refine below_set ?_ GE110.out) | exact HB.out)⟩⟩
     ·rw [if_neg c10] at H
      exact absurd H (by simp)
    ·rw [if_neg c9] at H
     exact absurd H (by simp)
   ·rw [if_neg c8] at H
    have c8b0 : decide (x16_1 < (t106.length : Int)) = false := decide_eq_false c8
    clear c8
    obtain rfl := Option.some.inj H
    go_wp2
    go_ret
    exact ⟨by first | rfl | (simp [errW_none,errW_some] <;> rfl) | (simp only [← hji3,← hji4];first | rfl | (simp [errW_none,errW_some] <;> rfl)) | (simp [*,errW_none,errW_some] <;> rfl),au0⟩
def bodkinlaw05_awake.f (k : Nat)  : Option (Bool) := (cluster_Next.f k (⟨#[97]⟩ : ByteArray) 0).bind fun t159 => (if t159 = 1 then ((word_Spans.f (⟨#[97,98,44,32,99,95,49,32,32]⟩ : ByteArray)).bind fun t160 => (if (t160.length : Int) = 2 then (if 1 < (t160.length : Int) then (if (((rd_T32 t160 1).f0) == 4 && (((rd_T32 t160 1).f1) == 7)) = true then ((word_Ahead.f k (⟨#[97,98,32,99,100]⟩ : ByteArray) 2).bind fun t164 => (if t164 = 5 then ((word_Behind.f k (⟨#[97,98,32,99,100]⟩ : ByteArray) 4).bind fun t165 => (if t165 = 3 then ((word_Capital.f (⟨#[104,101,76,76,79,32,49,119,79,82,76,68,32,97,95,98]⟩ : ByteArray)).bind fun t166 => (some (t166.toList == ([72,101,108,108,111,32,49,119,111,114,108,100,32,65,95,98] : List UInt8)))) else (some false))) else (some false))) else (some false)) else (none)) else (some false))) else (some false))
theorem bodkinlaw05_awake.mono : ∀ k,LeO (bodkinlaw05_awake.f k ) (bodkinlaw05_awake.f (k + 1) ) := by
 intro  k
 unfold bodkinlaw05_awake.f
 repeat' first
   | (with_reducible exact cluster_Next.mono _ _ _)
   | (with_reducible exact word_Ahead.mono _ _ _)
   | (with_reducible exact word_Behind.mono _ _ _)
   | (with_reducible exact LeO.refl _)
   | (with_reducible exact LeO.none _)
   | (with_reducible refine LeO.ite ?_ ?_)
   | (with_reducible refine LeO.bind ?_ (fun _ => ?_))
   | exact cluster_Next.mono _ _ _
   | exact word_Ahead.mono _ _ _
   | exact word_Behind.mono _ _ _
   | exact LeO.none _
   | refine LeO.ite ?_ ?_
   | refine LeO.bind ?_ (fun _ => ?_)
set_option maxHeartbeats 8000000 in
set_option maxRecDepth 100000 in
theorem bodkinlaw05_awake.calls (k : Nat)  (r : Bool) (hr_ : r = true) (w : World) (hT : Lib.Utf8Tabs 0 1 w) (h : bodkinlaw05_awake.f k  = some r) :
  Calls Tryd.prog 12 #[] w fun e w' => e = .returned (.bool r) ∧ Below w.heap.size w w' := by
 have hu32 := Tryd.underlying32
 have HT := Aside0.mk hT
 clear hT
 have HB := Aside0.mk (Below.refl w.heap.size w)
 have H : ((cluster_Next.f k (⟨#[97]⟩ : ByteArray) 0).bind fun t159 => (if t159 = 1 then ((word_Spans.f (⟨#[97,98,44,32,99,95,49,32,32]⟩ : ByteArray)).bind fun t160 => (if (t160.length : Int) = 2 then (if 1 < (t160.length : Int) then (if (((rd_T32 t160 1).f0) == 4 && (((rd_T32 t160 1).f1) == 7)) = true then ((word_Ahead.f k (⟨#[97,98,32,99,100]⟩ : ByteArray) 2).bind fun t164 => (if t164 = 5 then ((word_Behind.f k (⟨#[97,98,32,99,100]⟩ : ByteArray) 4).bind fun t165 => (if t165 = 3 then ((word_Capital.f (⟨#[104,101,76,76,79,32,49,119,79,82,76,68,32,97,95,98]⟩ : ByteArray)).bind fun t166 => (some (t166.toList == ([72,101,108,108,111,32,49,119,111,114,108,100,32,65,95,98] : List UInt8)))) else (some false))) else (some false))) else (some false)) else (none)) else (some false))) else (some false))) = some r := h
 clear h
 replace H := Option.bind_eq_some_iff.mp H
 obtain ⟨t159,A10,H⟩ := H
 replace H : (if t159 = 1 then ((word_Spans.f (⟨#[97,98,44,32,99,95,49,32,32]⟩ : ByteArray)).bind fun t160 => (if (t160.length : Int) = 2 then (if 1 < (t160.length : Int) then (if (((rd_T32 t160 1).f0) == 4 && (((rd_T32 t160 1).f1) == 7)) = true then ((word_Ahead.f k (⟨#[97,98,32,99,100]⟩ : ByteArray) 2).bind fun t164 => (if t164 = 5 then ((word_Behind.f k (⟨#[97,98,32,99,100]⟩ : ByteArray) 4).bind fun t165 => (if t165 = 3 then ((word_Capital.f (⟨#[104,101,76,76,79,32,49,119,79,82,76,68,32,97,95,98]⟩ : ByteArray)).bind fun t166 => (some (t166.toList == ([72,101,108,108,111,32,49,119,111,114,108,100,32,65,95,98] : List UInt8)))) else (some false))) else (some false))) else (some false)) else (none)) else (some false))) else (some false)) = some r := H
 have A1 := Aside0.mk A10
 clear A10
 by_cases c2 : t159 = 1
 ·rw [if_pos c2] at H
  have c2b0 : (t159 == 1) = true := beq_iff_eq.mpr c2
  have c2b1 : (t159 != 1) = false := bne_eq_false_iff_eq.mpr c2
  clear c2
  replace H := Option.bind_eq_some_iff.mp H
  obtain ⟨t160,A30,H⟩ := H
  replace H : (if (t160.length : Int) = 2 then (if 1 < (t160.length : Int) then (if (((rd_T32 t160 1).f0) == 4 && (((rd_T32 t160 1).f1) == 7)) = true then ((word_Ahead.f k (⟨#[97,98,32,99,100]⟩ : ByteArray) 2).bind fun t164 => (if t164 = 5 then ((word_Behind.f k (⟨#[97,98,32,99,100]⟩ : ByteArray) 4).bind fun t165 => (if t165 = 3 then ((word_Capital.f (⟨#[104,101,76,76,79,32,49,119,79,82,76,68,32,97,95,98]⟩ : ByteArray)).bind fun t166 => (some (t166.toList == ([72,101,108,108,111,32,49,119,111,114,108,100,32,65,95,98] : List UInt8)))) else (some false))) else (some false))) else (some false)) else (none)) else (some false)) = some r := H
  have A3 := Aside0.mk A30
  clear A30
  by_cases c4 : (t160.length : Int) = 2
  ·rw [if_pos c4] at H
   have c4b0 : ((t160.length : Int) == 2) = true := beq_iff_eq.mpr c4
   have c4b1 : ((t160.length : Int) != 2) = false := bne_eq_false_iff_eq.mpr c4
   clear c4
   by_cases c5 : 1 < (t160.length : Int)
   ·rw [if_pos c5] at H
    have c5b0 : decide (1 < (t160.length : Int)) = true := decide_eq_true c5
    have c5b1 : decide (1 < t160.length) = true := decide_eq_true (by omega)
    clear c5
    by_cases c6 : (((rd_T32 t160 1).f0) == 4 && (((rd_T32 t160 1).f1) == 7)) = true
    ·rw [if_pos c6] at H
     have c6b0 : (((rd_T32 t160 1).f0) == 4 && (((rd_T32 t160 1).f1) == 7)) = true := c6
     (try (have c6b1 : decide (((rd_T32 t160 1).f0) = 4 && (((rd_T32 t160 1).f1) == 7)) = true := by simpa using c6))
     (try (have c6b2 : (((rd_T32 t160 1).f0) == 4 && (((rd_T32 t160 1).f1) == 7)) = true := by simpa using c6))
     clear c6
     replace H := Option.bind_eq_some_iff.mp H
     obtain ⟨t164,A70,H⟩ := H
     replace H : (if t164 = 5 then ((word_Behind.f k (⟨#[97,98,32,99,100]⟩ : ByteArray) 4).bind fun t165 => (if t165 = 3 then ((word_Capital.f (⟨#[104,101,76,76,79,32,49,119,79,82,76,68,32,97,95,98]⟩ : ByteArray)).bind fun t166 => (some (t166.toList == ([72,101,108,108,111,32,49,119,111,114,108,100,32,65,95,98] : List UInt8)))) else (some false))) else (some false)) = some r := H
     have A7 := Aside0.mk A70
     clear A70
     by_cases c8 : t164 = 5
     ·rw [if_pos c8] at H
      have c8b0 : (t164 == 5) = true := beq_iff_eq.mpr c8
      have c8b1 : (t164 != 5) = false := bne_eq_false_iff_eq.mpr c8
      clear c8
      replace H := Option.bind_eq_some_iff.mp H
      obtain ⟨t165,A90,H⟩ := H
      replace H : (if t165 = 3 then ((word_Capital.f (⟨#[104,101,76,76,79,32,49,119,79,82,76,68,32,97,95,98]⟩ : ByteArray)).bind fun t166 => (some (t166.toList == ([72,101,108,108,111,32,49,119,111,114,108,100,32,65,95,98] : List UInt8)))) else (some false)) = some r := H
      have A9 := Aside0.mk A90
      clear A90
      by_cases c10 : t165 = 3
      ·rw [if_pos c10] at H
       have c10b0 : (t165 == 3) = true := beq_iff_eq.mpr c10
       have c10b1 : (t165 != 3) = false := bne_eq_false_iff_eq.mpr c10
       clear c10
       replace H := Option.bind_eq_some_iff.mp H
       obtain ⟨t166,A110,H⟩ := H
       replace H : (some (t166.toList == ([72,101,108,108,111,32,49,119,111,114,108,100,32,65,95,98] : List UInt8))) = some r := H
       have A11 := Aside0.mk A110
       clear A110
       obtain rfl := Option.some.inj H
       go_enter Tryd.func12,Tryd.ntmps12
       go_wp2_with (first | ((with_reducible refine gate_callee (f := 27) rfl ?_);refine goesL_ (some 2) rfl rfl Tryd.func27 (by kernel_rfl) rfl #[.string (⟨#[97]⟩ : ByteArray),.int .i64 0] rfl au1 ?_;(with_reducible refine (cluster_Next.calls k (⟨#[97]⟩ : ByteArray) 0 t159 _ ?side1 A1.out).mono ?_);(case side1 => exact tabs_below HT.out au0);rintro e w12 ⟨rfl,hb⟩;refine ⟨_,rfl,?_⟩;have n0_ := Aside0.mk (below_step au0 hb);clear HB;have HB := n0_;clear n0_;(try clear hb);(try clear hb2);(try clear hk);(try clear hi)) | ((with_reducible refine gate_callee (f := 20) rfl ?_);refine goesL_ (some 4) rfl rfl Tryd.func20 (by kernel_rfl) rfl #[.string (⟨#[97,98,44,32,99,95,49,32,32]⟩ : ByteArray)] rfl au1 ?_;(with_reducible refine (word_Spans.calls (⟨#[97,98,44,32,99,95,49,32,32]⟩ : ByteArray) t160 _ ?side1 A3.out).mono ?_);(case side1 => exact tabs_below HT.out au0);rintro e w13 ⟨v161,rfl,ho0,hb⟩;refine ⟨_,rfl,?_⟩;have n0_ := Aside0.mk (Kd.R_lower ho0 (below_size au0));have n1_ := Aside0.mk (below_step au0 hb);clear HB;have HO162 := n0_;have HB := n1_;clear n0_ n1_;(try clear hb);(try clear hb2);(try clear hk);(try clear hi);(try clear ho0);obtain ⟨Ao14,co14,eo14⟩ := Kd.R_slice HO162.out;subst eo14;have p163 : 0 ≤ (1 : Int) := (by omega);have q163 : 1 < (t160.length : Int) := of_decide_eq_true au4;obtain ⟨ad163,e163,hx163_0,hx163_1⟩ := at_T32 (Kd.R_reads' HO162.out).2.2 1 p163 q163;cases e163;(try simp only [show (1 : Int).toNat = 1 from rfl,Nat.reduceMul,Nat.reduceEqDiff,Go.Addr.add,↓reduceIte] at hx163_0);(try simp only [show (1 : Int).toNat = 1 from rfl,Nat.reduceMul,Nat.reduceEqDiff,Go.Addr.add,↓reduceIte] at hx163_1);have qi163 : (1 < t160.length) = True := eq_true (by omega);(try rw [show ((1 : Int)).toNat = 1 from rfl] at hx163_0);(try rw [show 1 * 2 = 2 from rfl] at hx163_0);(try rw [show ((1 : Int)).toNat = 1 from rfl] at hx163_1);(try rw [show 1 * 2 = 2 from rfl] at hx163_1);replace p163 := eq_true p163;replace q163 := eq_true q163) | (go_at_call 22;(with_reducible refine (word_Ahead.calls k (⟨#[97,98,32,99,100]⟩ : ByteArray) 2 t164 _ ?side1 A7.out).mono ?_);(case side1 => exact tabs_below HT.out au0);rintro e w15 ⟨rfl,hb⟩;have n0_ := Aside0.mk (Kd.R_below (by (with_reducible repeat (first | apply Kd.R_alloc | apply Kd.R_drewN | apply Kd.R_drew));exact HO162.out) hb);have n1_ := Aside0.mk (below_step au0 hb);clear HO162;clear HB;have HO162 := n0_;have HB := n1_;clear n0_ n1_;(try clear hb);(try clear hb2);(try clear hk);(try clear hi)) | (go_at_call 24;(with_reducible refine (word_Behind.calls k (⟨#[97,98,32,99,100]⟩ : ByteArray) 4 t165 _ ?side1 A9.out).mono ?_);(case side1 => exact tabs_below HT.out au0);rintro e w16 ⟨rfl,hb⟩;have n0_ := Aside0.mk (Kd.R_below (by (with_reducible repeat (first | apply Kd.R_alloc | apply Kd.R_drewN | apply Kd.R_drew));exact HO162.out) hb);have n1_ := Aside0.mk (below_step au0 hb);clear HO162;clear HB;have HO162 := n0_;have HB := n1_;clear n0_ n1_;(try clear hb);(try clear hb2);(try clear hk);(try clear hi)) | (go_at_call 34;(with_reducible refine (word_Capital.calls (⟨#[104,101,76,76,79,32,49,119,79,82,76,68,32,97,95,98]⟩ : ByteArray) t166 _ ?side1 A11.out).mono ?_);(case side1 => exact tabs_below HT.out au0);rintro e w17 ⟨rfl,hb⟩;have n0_ := Aside0.mk (Kd.R_below (by (with_reducible repeat (first | apply Kd.R_alloc | apply Kd.R_drewN | apply Kd.R_drew));exact HO162.out) hb);have n1_ := Aside0.mk (below_step au0 hb);clear HO162;clear HB;have HO162 := n0_;have HB := n1_;clear n0_ n1_;(try clear hb);(try clear hb2);(try clear hk);(try clear hi)))
       go_ret
       exact ⟨au2,au0⟩
      ·rw [if_neg c10] at H
       have c10b0 : (t165 == 3) = false := beq_eq_false_iff_ne.mpr c10
       have c10b1 : (t165 != 3) = true := bne_iff_ne.mpr c10
       obtain rfl := Option.some.inj H
       cases hr_
     ·rw [if_neg c8] at H
      have c8b0 : (t164 == 5) = false := beq_eq_false_iff_ne.mpr c8
      have c8b1 : (t164 != 5) = true := bne_iff_ne.mpr c8
      obtain rfl := Option.some.inj H
      cases hr_
    ·rw [if_neg c6] at H
     have c6b0 : (((rd_T32 t160 1).f0) == 4 && (((rd_T32 t160 1).f1) == 7)) = false := by simpa using c6
     (try (have c6b1 : decide (((rd_T32 t160 1).f0) = 4 && (((rd_T32 t160 1).f1) == 7)) = false := by simpa using c6))
     (try (have c6b2 : (((rd_T32 t160 1).f0) == 4 && (((rd_T32 t160 1).f1) == 7)) = false := by simpa using c6))
     (try (have c6b3 : ¬ (((rd_T32 t160 1).f0) = 4 && (((rd_T32 t160 1).f1) == 7)) := by simpa using c6))
     clear c6
     obtain rfl := Option.some.inj H
     cases hr_
   ·rw [if_neg c5] at H
    exact absurd H (by simp)
  ·rw [if_neg c4] at H
   have c4b0 : ((t160.length : Int) == 2) = false := beq_eq_false_iff_ne.mpr c4
   have c4b1 : ((t160.length : Int) != 2) = true := bne_iff_ne.mpr c4
   obtain rfl := Option.some.inj H
   cases hr_
 ·rw [if_neg c2] at H
  have c2b0 : (t159 == 1) = false := beq_eq_false_iff_ne.mpr c2
  have c2b1 : (t159 != 1) = true := bne_iff_ne.mpr c2
  obtain rfl := Option.some.inj H
  cases hr_
end Go.Proofs.YtkficbgnjpekaaaDoor.U
end
section
namespace Go.Proofs.YtkficbgnjpekaaaDoor.U
open Go.RowKit Go.Proofs.YtkficbgnjpekaaaDoorW.PrintWords Go.Proofs.YtkficbgnjpekaaaDoorW.PrintLast Go.Proofs.YtkficbgnjpekaaaDoorW.PrintMore
attribute [local go_sem] max2_int min2_int max_two min_two max_three min_three max_four min_four   -- for this text's walks alone
set_option linter.unusedVariables false
set_option linter.unusedSimpArgs false
def bodkinlaw05_WordCases.l0 : Nat → List ByteArray → Int → Option (Bool)
 | 0,_,_ => none
 | k + 1,x0,x3 => if x3 < (x0.length : Int) then (if 0 ≤ x3 then ((word_Upper.f (rdOf ByteArray.empty x0 x3)).bind fun t533 => ((bodkinref05_Upper.f k (rdOf ByteArray.empty x0 x3)).bind fun t534 => (if t533.toList = t534.toList then ((word_Lower.f (rdOf ByteArray.empty x0 x3)).bind fun t535 => ((bodkinref05_Lower.f k (rdOf ByteArray.empty x0 x3)).bind fun t536 => (if t535.toList = t536.toList then ((word_Capital.f (rdOf ByteArray.empty x0 x3)).bind fun t537 => ((bodkinref05_Capital.f k (rdOf ByteArray.empty x0 x3)).bind fun t538 => (if t537.toList = t538.toList then (bodkinlaw05_WordCases.l0 k x0 (wrap64 (x3 + 1))) else (some false)))) else (some false)))) else (some false)))) else (none)) else (some true)
def bodkinlaw05_WordCases.f (k : Nat) (l0 : List ByteArray) : Option (Bool) := (bodkinlaw05_awake.f k).bind fun t531 => (if t531 = true then (bodkinlaw05_WordCases.l0 k l0 0) else (some false))
set_option maxHeartbeats 8000000 in
set_option maxRecDepth 100000 in
theorem bodkinlaw05_WordCases.calls (k : Nat) (A0 : Option Addr) (c0 : Nat) (l0 : List ByteArray) (r : Bool) (hr_ : r = true) (w : World) (hr0 : Kd.C Kd.string w A0 l0.length l0) (hc0 : l0.length ≤ c0) (hT : Lib.Utf8Tabs 0 1 w) (h : bodkinlaw05_WordCases.f k l0 = some r) :
  Calls Tryd.prog 9 #[.slice A0 l0.length c0] w fun e w' => e = .returned (.bool r) ∧ Below w.heap.size w w' := by
 have HT := Aside0.mk hT
 clear hT
 have HR0 := Aside0.mk hr0
 have HC0 := Aside0.mk hc0
 clear hr0 hc0
 have HB := Aside0.mk (Below.refl w.heap.size w)
 have H : ((bodkinlaw05_awake.f k).bind fun t531 => (if t531 = true then (bodkinlaw05_WordCases.l0 k l0 0) else (some false))) = some r := h
 clear h
 replace H := Option.bind_eq_some_iff.mp H
 obtain ⟨t531,A20,H⟩ := H
 replace H : (if t531 = true then (bodkinlaw05_WordCases.l0 k l0 0) else (some false)) = some r := H
 have A2 := Aside0.mk A20
 clear A20
 by_cases c3 : t531 = true
 ·subst c3
  have H1 : (bodkinlaw05_WordCases.l0 k l0 0) = some r := by rw [if_pos rfl] at H;exact H
  clear H
  have H := H1
  clear H1
  have H' := Aside0.mk H
  clear H
  go_enter Tryd.func9,Tryd.ntmps9
  go_wp2_with (first | ((with_reducible refine gate_callee (f := 12) rfl ?_);refine goesL_ (some 5) rfl rfl Tryd.func12 (by kernel_rfl) rfl #[] rfl au1 ?_;(with_reducible refine (bodkinlaw05_awake.calls k true rfl _ ?side1 A2.out).mono ?_);(case side1 => exact tabs_below HT.out au0);rintro e w4 ⟨rfl,hb⟩;refine ⟨_,rfl,?_⟩;have n0_ := Aside0.mk (below_step au0 hb);clear HB;have HB := n0_;clear n0_;(try clear hb);(try clear hb2);(try clear hk);(try clear hi)))
  go_loopg [3] k (fun kq v3 w' => ∃ (x3_1 : Int),v3 = .int .i64 x3_1 ∧ Aside0 (bodkinlaw05_WordCases.l0 kq l0 x3_1 = some r) ∧ Aside0 (kq ≤ k) ∧ Aside0 (Below w.heap.size w w'))
  case atStart => exact ⟨(0),au3,H',⟨Nat.le_refl _⟩,⟨au0⟩⟩
  case round =>
   clear H'
   try clear c1
   try clear p2
   try clear c3
   obtain ⟨x3_1,rfl,HA,HK1,HB⟩ := hrel
   cases gk with
   | zero => exact absurd HA.out (by simp [bodkinlaw05_WordCases.l0])
   | succ k1 =>
    have H := HA.out
    clear HA
    simp only [bodkinlaw05_WordCases.l0] at H
    by_cases c5 : x3_1 < (l0.length : Int)
    ·rw [if_pos c5] at H
     have c5b0 : decide (x3_1 < (l0.length : Int)) = true := decide_eq_true c5
     clear c5
     by_cases c6 : 0 ≤ x3_1
     ·rw [if_pos c6] at H
      have c6b0 : decide (0 ≤ x3_1) = true := decide_eq_true c6
      clear c6
      replace H := Option.bind_eq_some_iff.mp H
      obtain ⟨t533,A70,H⟩ := H
      replace H : ((bodkinref05_Upper.f k1 (rdOf ByteArray.empty l0 x3_1)).bind fun t534 => (if t533.toList = t534.toList then ((word_Lower.f (rdOf ByteArray.empty l0 x3_1)).bind fun t535 => ((bodkinref05_Lower.f k1 (rdOf ByteArray.empty l0 x3_1)).bind fun t536 => (if t535.toList = t536.toList then ((word_Capital.f (rdOf ByteArray.empty l0 x3_1)).bind fun t537 => ((bodkinref05_Capital.f k1 (rdOf ByteArray.empty l0 x3_1)).bind fun t538 => (if t537.toList = t538.toList then (bodkinlaw05_WordCases.l0 k1 l0 (wrap64 (x3_1 + 1))) else (some false)))) else (some false)))) else (some false))) = some r := H
      have A7 := Aside0.mk A70
      clear A70
      replace H := Option.bind_eq_some_iff.mp H
      obtain ⟨t534,A80,H⟩ := H
      replace H : (if t533.toList = t534.toList then ((word_Lower.f (rdOf ByteArray.empty l0 x3_1)).bind fun t535 => ((bodkinref05_Lower.f k1 (rdOf ByteArray.empty l0 x3_1)).bind fun t536 => (if t535.toList = t536.toList then ((word_Capital.f (rdOf ByteArray.empty l0 x3_1)).bind fun t537 => ((bodkinref05_Capital.f k1 (rdOf ByteArray.empty l0 x3_1)).bind fun t538 => (if t537.toList = t538.toList then (bodkinlaw05_WordCases.l0 k1 l0 (wrap64 (x3_1 + 1))) else (some false)))) else (some false)))) else (some false)) = some r := H
      have A8 := Aside0.mk A80
      clear A80
      by_cases c9 : t533.toList = t534.toList
      ·rw [if_pos c9] at H
       have c9b0 : (t533.toList == t534.toList) = true := beq_iff_eq.mpr c9
       have c9b1 : (t533.toList != t534.toList) = false := bne_eq_false_iff_eq.mpr c9
       clear c9
       replace H := Option.bind_eq_some_iff.mp H
       obtain ⟨t535,A100,H⟩ := H
       replace H : ((bodkinref05_Lower.f k1 (rdOf ByteArray.empty l0 x3_1)).bind fun t536 => (if t535.toList = t536.toList then ((word_Capital.f (rdOf ByteArray.empty l0 x3_1)).bind fun t537 => ((bodkinref05_Capital.f k1 (rdOf ByteArray.empty l0 x3_1)).bind fun t538 => (if t537.toList = t538.toList then (bodkinlaw05_WordCases.l0 k1 l0 (wrap64 (x3_1 + 1))) else (some false)))) else (some false))) = some r := H
       have A10 := Aside0.mk A100
       clear A100
       replace H := Option.bind_eq_some_iff.mp H
       obtain ⟨t536,A110,H⟩ := H
       replace H : (if t535.toList = t536.toList then ((word_Capital.f (rdOf ByteArray.empty l0 x3_1)).bind fun t537 => ((bodkinref05_Capital.f k1 (rdOf ByteArray.empty l0 x3_1)).bind fun t538 => (if t537.toList = t538.toList then (bodkinlaw05_WordCases.l0 k1 l0 (wrap64 (x3_1 + 1))) else (some false)))) else (some false)) = some r := H
       have A11 := Aside0.mk A110
       clear A110
       by_cases c12 : t535.toList = t536.toList
       ·rw [if_pos c12] at H
        have c12b0 : (t535.toList == t536.toList) = true := beq_iff_eq.mpr c12
        have c12b1 : (t535.toList != t536.toList) = false := bne_eq_false_iff_eq.mpr c12
        clear c12
        replace H := Option.bind_eq_some_iff.mp H
        obtain ⟨t537,A130,H⟩ := H
        replace H : ((bodkinref05_Capital.f k1 (rdOf ByteArray.empty l0 x3_1)).bind fun t538 => (if t537.toList = t538.toList then (bodkinlaw05_WordCases.l0 k1 l0 (wrap64 (x3_1 + 1))) else (some false))) = some r := H
        have A13 := Aside0.mk A130
        clear A130
        replace H := Option.bind_eq_some_iff.mp H
        obtain ⟨t538,A140,H⟩ := H
        replace H : (if t537.toList = t538.toList then (bodkinlaw05_WordCases.l0 k1 l0 (wrap64 (x3_1 + 1))) else (some false)) = some r := H
        have A14 := Aside0.mk A140
        clear A140
        by_cases c15 : t537.toList = t538.toList
        ·rw [if_pos c15] at H
         have c15b0 : (t537.toList == t538.toList) = true := beq_iff_eq.mpr c15
         have c15b1 : (t537.toList != t538.toList) = false := bne_eq_false_iff_eq.mpr c15
         clear c15
         have H' := Aside0.mk H
         clear H
         have p532 : 0 ≤ (x3_1 : Int) := of_decide_eq_true au4
         have q532 : x3_1 < (l0.length : Int) := of_decide_eq_true au4
         obtain ⟨ad532,e532,hx532_0⟩ := Kd.at_string HR0.out x3_1 p532 q532
         cases e532
         replace hx532_0 := (HB.out.cell (World.block_lt_of_cell? w _ hx532_0)).trans hx532_0
         replace p532 := eq_true p532
         replace q532 := eq_true q532
         go_wp2_with (first | ((with_reducible refine gate_callee (f := 30) rfl ?_);refine goesL_ (some 18) rfl rfl Tryd.func30 (by kernel_rfl) rfl #[.string (rdOf ByteArray.empty l0 x3_1)] rfl au1 ?_;(with_reducible refine (word_Upper.calls (rdOf ByteArray.empty l0 x3_1) t533 _ ?side1 A7.out).mono ?_);(case side1 => exact tabs_below HT.out au0);rintro e w16 ⟨rfl,hb⟩;refine ⟨_,rfl,?_⟩;have n0_ := Aside0.mk (below_step au0 hb);clear HB;have HB := n0_;clear n0_;(try clear hb);(try clear hb2);(try clear hk);(try clear hi)) | ((with_reducible refine gate_callee (f := 31) rfl ?_);refine goesL_ (some 20) rfl rfl Tryd.func31 (by kernel_rfl) rfl #[.string (rdOf ByteArray.empty l0 x3_1)] rfl au1 ?_;(with_reducible refine (bodkinref05_Upper.calls k1 (rdOf ByteArray.empty l0 x3_1) t534 _ A8.out).mono ?_);rintro e w17 ⟨rfl,hb⟩;refine ⟨_,rfl,?_⟩;have n0_ := Aside0.mk (below_step au0 hb);clear HB;have HB := n0_;clear n0_;(try clear hb);(try clear hb2);(try clear hk);(try clear hi)) | (go_at_call 32;(with_reducible refine (word_Lower.calls (rdOf ByteArray.empty l0 x3_1) t535 _ ?side1 A10.out).mono ?_);(case side1 => exact tabs_below HT.out au0);rintro e w18 ⟨rfl,hb⟩;have n0_ := Aside0.mk (below_step au0 hb);clear HB;have HB := n0_;clear n0_;(try clear hb);(try clear hb2);(try clear hk);(try clear hi)) | (go_at_call 33;(with_reducible refine (bodkinref05_Lower.calls k1 (rdOf ByteArray.empty l0 x3_1) t536 _ A11.out).mono ?_);rintro e w19 ⟨rfl,hb⟩;have n0_ := Aside0.mk (below_step au0 hb);clear HB;have HB := n0_;clear n0_;(try clear hb);(try clear hb2);(try clear hk);(try clear hi)) | (go_at_call 34;(with_reducible refine (word_Capital.calls (rdOf ByteArray.empty l0 x3_1) t537 _ ?side1 A13.out).mono ?_);(case side1 => exact tabs_below HT.out au0);rintro e w20 ⟨rfl,hb⟩;have n0_ := Aside0.mk (below_step au0 hb);clear HB;have HB := n0_;clear n0_;(try clear hb);(try clear hb2);(try clear hk);(try clear hi)) | (go_at_call 35;(with_reducible refine (bodkinref05_Capital.calls k1 (rdOf ByteArray.empty l0 x3_1) t538 _ A14.out).mono ?_);rintro e w21 ⟨rfl,hb⟩;have n0_ := Aside0.mk (below_step au0 hb);clear HB;have HB := n0_;clear n0_;(try clear hb);(try clear hb2);(try clear hk);(try clear hi)))
         go_roundg k1
         case measure => have := HK1.out;omega
         case rel => exact ⟨(wrap64 (x3_1 + 1)),au3,H',⟨by have := HK1.out;omega⟩,⟨au0⟩⟩
        ·rw [if_neg c15] at H
         have c15b0 : (t537.toList == t538.toList) = false := beq_eq_false_iff_ne.mpr c15
         have c15b1 : (t537.toList != t538.toList) = true := bne_iff_ne.mpr c15
         obtain rfl := Option.some.inj H
         cases hr_
       ·rw [if_neg c12] at H
        have c12b0 : (t535.toList == t536.toList) = false := beq_eq_false_iff_ne.mpr c12
        have c12b1 : (t535.toList != t536.toList) = true := bne_iff_ne.mpr c12
        obtain rfl := Option.some.inj H
        cases hr_
      ·rw [if_neg c9] at H
       have c9b0 : (t533.toList == t534.toList) = false := beq_eq_false_iff_ne.mpr c9
       have c9b1 : (t533.toList != t534.toList) = true := bne_iff_ne.mpr c9
       obtain rfl := Option.some.inj H
       cases hr_
     ·rw [if_neg c6] at H
      exact absurd H (by simp)
    ·rw [if_neg c5] at H
     have c5b0 : decide (x3_1 < (l0.length : Int)) = false := decide_eq_false c5
     clear c5
     obtain rfl := Option.some.inj H
     go_wp2
     go_ret
     exact ⟨au2,au0⟩
 ·replace c3 := Bool.eq_false_iff.mpr c3
  subst c3
  have H1 : (some false) = some r := by rw [if_neg (show ¬ (false = true) by decide)] at H;exact H
  clear H
  have H := H1
  clear H1
  obtain rfl := Option.some.inj H
  cases hr_
end Go.Proofs.YtkficbgnjpekaaaDoor.U
end
section
namespace Go.Proofs.YtkficbgnjpekaaaDoor.Pu
open Go Go.RowKit Go.Proofs.YtkficbgnjpekaaaDoor.Mu Go.Proofs.YtkficbgnjpekaaaDoor.U Go.Proofs.YtkficbgnjpekaaaDoorW.PrintWords Go.Proofs.YtkficbgnjpekaaaDoorW.PrintLast Go.Proofs.YtkficbgnjpekaaaDoorW.PrintMore
theorem awake_ans : Ev (fun k => bodkinlaw05_awake.f k) true := Ev.of (fun k => bodkinlaw05_awake.mono k) (k := 200) (by kernel_rfl)
end Go.Proofs.YtkficbgnjpekaaaDoor.Pu
end
section
namespace Go.Proofs.YtkficbgnjpekaaaDoor.Pu
open Go Go.RowKit Go.Proofs.YtkficbgnjpekaaaDoor.Mu Go.Proofs.YtkficbgnjpekaaaDoor.U Go.Proofs.YtkficbgnjpekaaaDoorW.PrintWords Go.Proofs.YtkficbgnjpekaaaDoorW.PrintLast Go.Proofs.YtkficbgnjpekaaaDoorW.PrintMore
/-- The bytes of a text from x on. -/
def bytsAt (s : ByteArray) (x n : Nat) : List Int := (List.range n).map fun i => (byt s (x + i) : Int)
/-- A good unit's bytes are its character's encoding. -/
theorem enc_unit (s : ByteArray) (x : Nat) (h : 0 ≤ uC s x) : okC (uC s x) ∧ encI (uC s x) = bytsAt s x (uN s x) := by
 have := byt_lt s x;have := byt_lt s (x + 1);have := byt_lt s (x + 2);have := byt_lt s (x + 3)
 unfold okC encI bytsAt
 rcases uC_cases s x with h1 | h1 | h1 | h1 | h1
 ·refine ⟨by omega,?_⟩
  rw [if_pos (by omega),h1.2.2,h1.2.1];rfl
 ·omega
 ·obtain ⟨a,b,c,d,e,f,g⟩ := h1
  refine ⟨by omega,?_⟩
  rw [if_neg (by omega),if_pos (by omega),g]
  show _ = [(byt s x : Int),(byt s (x + 1) : Int)]
  rw [show 192 + uC s x / 64 = (byt s x : Int) by omega,show 128 + uC s x % 64 = (byt s (x + 1) : Int) by omega]
 ·obtain ⟨a,b,c,d,d2,e,e2,f,g⟩ := h1
  refine ⟨by omega,?_⟩
  rw [if_neg (by omega),if_neg (by omega),if_pos (by omega),g]
  show _ = [(byt s x : Int),(byt s (x + 1) : Int),(byt s (x + 2) : Int)]
  rw [show 224 + uC s x / 4096 = (byt s x : Int) by omega,show 128 + uC s x / 64 % 64 = (byt s (x + 1) : Int) by omega,show 128 + uC s x % 64 = (byt s (x + 2) : Int) by omega]
 ·obtain ⟨a,b,c,d,d2,d3,e,e2,f,g⟩ := h1
  refine ⟨by omega,?_⟩
  rw [if_neg (by omega),if_neg (by omega),if_neg (by omega),g]
  show _ = [(byt s x : Int),(byt s (x + 1) : Int),(byt s (x + 2) : Int),(byt s (x + 3) : Int)]
  rw [show 240 + uC s x / 262144 = (byt s x : Int) by omega,show 128 + uC s x / 4096 % 64 = (byt s (x + 1) : Int) by omega,show 128 + uC s x / 64 % 64 = (byt s (x + 2) : Int) by omega,show 128 + uC s x % 64 = (byt s (x + 3) : Int) by omega]
theorem bytsAt_len (s : ByteArray) (x n : Nat) : (bytsAt s x n).length = n := by simp [bytsAt]
theorem ext_list {s t : ByteArray} (hs : s.size = t.size) (h : ∀ i,i < s.size → byt s i = byt t i) : s.toList = t.toList := by
 rw [Lib.toList_data,Lib.toList_data]
 apply List.ext_getElem
 ·rw [← Lib.size_eq,← Lib.size_eq];exact hs
 ·intro i h1 h2
  have := h i (by rw [Lib.size_eq];exact h1)
  unfold byt at this
  rw [get!_eq,get!_eq,List.getD_eq_getElem?_getD,List.getD_eq_getElem?_getD,List.getElem?_eq_getElem h1,List.getElem?_eq_getElem h2] at this
  exact UInt8.toNat_inj.1 this
theorem byt_str (l : List Int) (i : Nat) (h : i < l.length) (hl : ∀ x ∈ l,0 ≤ x ∧ x < 256) : (byt (strOfNums l) i : Int) = l.getD i 0 := by
 unfold byt
 rw [get!_eq,strOfNums_data,List.getD_eq_getElem?_getD,List.getD_eq_getElem?_getD,List.getElem?_map,List.getElem?_eq_getElem h]
 have := hl _ (List.getElem_mem h)
 show (((UInt8.ofNat (l[i]).toNat).toNat : Nat) : Int) = l[i]
 rw [UInt8.toNat_ofNat']
 omega
end Go.Proofs.YtkficbgnjpekaaaDoor.Pu
end
section
namespace Go.Proofs.YtkficbgnjpekaaaDoor.Pu
open Go Go.RowKit Go.Proofs.YtkficbgnjpekaaaDoor.Mu Go.Proofs.YtkficbgnjpekaaaDoor.U Go.Proofs.YtkficbgnjpekaaaDoorW.PrintWords Go.Proofs.YtkficbgnjpekaaaDoorW.PrintLast Go.Proofs.YtkficbgnjpekaaaDoorW.PrintMore
set_option linter.unusedVariables false
set_option linter.unusedSimpArgs false
theorem out_any (c : Int) : (pairsL outTab).any (fun p => decide (p.f0 ≤ c) && decide (c ≤ p.f1)) = outB c := by kernel_rfl
theorem but_len : (pairsL outTab).length ≤ 1000000 := of_decide_eq_true (by kernel_rfl)
theorem rw_j0 (c : Int) (b : Bool) : Ev (fun k => bodkinref05_IsWord.j0 k c b) (b || wHigh c) := by
 refine Ev.step (fun k => bodkinref05_IsWord.j0.eq_2 ..) ?_
 by_cases hb : b = true
 ·rw [hb,Bool.true_or];exact ev_pos rfl (Ev.now _)
 rw [eq_false_of_ne_true hb,Bool.false_or]
 refine ev_neg (by simp) ?_
 unfold wHigh
 by_cases h : c < 170
 ·rw [decide_eq_false (by omega),Bool.false_and];exact ev_pos h (Ev.now _)
 rw [decide_eq_true (by omega),Bool.true_and]
 refine ev_neg h (Ev.bind (a := pairsL outTab) (Ev.of (fun k => bodkinref02_Table.mono _ k) (k := 1000) (by kernel_rfl)) (Ev.bind (ref_within _ but_len c _ 0 rfl) ?_))
 rw [List.drop_zero,out_any]
 by_cases ho : outB c = true
 ·rw [ho,Bool.not_true,Bool.and_false];exact ev_pos rfl (Ev.now _)
 rw [eq_false_of_ne_true ho,Bool.not_false,Bool.and_true]
 refine ev_neg (by simp) (Ev.bind (ref_class_ans c) ?_)
 by_cases h3 : cls c = 3
 ·rw [decide_eq_true (.inl h3)];exact ev_pos h3 (Ev.now _)
 refine ev_neg h3 ?_
 by_cases h4 : cls c = 4
 ·rw [decide_eq_true (.inr (.inl h4))];exact ev_pos h4 (Ev.now _)
 refine ev_neg h4 (ev_now ?_)
 rw [Bool.eq_iff_iff,beq_iff_eq,decide_eq_true_iff];omega
theorem rw_at (c : Int) (b : Bool) (h : b = true ↔ ((48 ≤ c ∧ c ≤ 57) ∨ (65 ≤ c ∧ c ≤ 90) ∨ (97 ≤ c ∧ c ≤ 122) ∨ c = 95)) : Ev (fun k => bodkinref05_IsWord.j0 k c b) (wordB c) := by
 have e : b = wLow c := by rw [Bool.eq_iff_iff,h];unfold wLow;rw [decide_eq_true_iff]
 unfold wordB;rw [← e];exact rw_j0 c b
theorem ref_isword_ans (c : Int) : Ev (fun k => bodkinref05_IsWord.f k c) (wordB c) := by
 unfold bodkinref05_IsWord.f
 have e3 : ∀ g : Nat → Option Bool,¬ (48 ≤ c ∧ c ≤ 57) → ¬ (65 ≤ c ∧ c ≤ 90) → (∀ k,g k = if c ≥ 97 then (if c ≤ 122 then bodkinref05_IsWord.j0 k c true else bodkinref05_IsWord.j0 k c (c == 95)) else bodkinref05_IsWord.j0 k c (c == 95)) → Ev g (wordB c) := by
  intro g h1 h2 hg
  refine Ev.congr hg ?_
  by_cases h : c ≥ 97
  ·refine ev_pos h ?_
   by_cases h' : c ≤ 122
   ·exact ev_pos h' (rw_at c _ (by simp;omega))
   ·exact ev_neg h' (rw_at c _ (by simp;omega))
  ·exact ev_neg h (rw_at c _ (by simp;omega))
 have e2 : ∀ g : Nat → Option Bool,¬ (48 ≤ c ∧ c ≤ 57) → (∀ k,g k = if c ≥ 65 then (if c ≤ 90 then bodkinref05_IsWord.j0 k c true else (if c ≥ 97 then (if c ≤ 122 then bodkinref05_IsWord.j0 k c true else bodkinref05_IsWord.j0 k c (c == 95)) else bodkinref05_IsWord.j0 k c (c == 95))) else (if c ≥ 97 then (if c ≤ 122 then bodkinref05_IsWord.j0 k c true else bodkinref05_IsWord.j0 k c (c == 95)) else bodkinref05_IsWord.j0 k c (c == 95))) → Ev g (wordB c) := by
  intro g h1 hg
  refine Ev.congr hg ?_
  by_cases h : c ≥ 65
  ·refine ev_pos h ?_
   by_cases h' : c ≤ 90
   ·exact ev_pos h' (rw_at c _ (by simp;omega))
   ·exact ev_neg h' (e3 _ h1 (by omega) (fun _ => rfl))
  ·exact ev_neg h (e3 _ h1 (by omega) (fun _ => rfl))
 by_cases h : c ≥ 48
 ·refine ev_pos h ?_
  by_cases h' : c ≤ 57
  ·exact ev_pos h' (rw_at c _ (by simp;omega))
  ·exact ev_neg h' (e2 _ (by omega) (fun _ => rfl))
 ·exact ev_neg h (e2 _ (by omega) (fun _ => rfl))
def casL : List S55 := match bodkinref05_Pairs.f 200 with | some l => l | none => []
theorem pairs_ans : Ev (fun k => bodkinref05_Pairs.f k) casL := Ev.of (fun k => bodkinref05_Pairs.mono k) (k := 200) (by kernel_rfl)
def casesOk : Bool := casL.all fun p => decide (upC p.f0 = p.f1) && decide (lowC p.f1 = p.f0)
def restOk : Bool := (List.range 1300).all fun n => (decide (upC (n : Int) = n) || casL.any (fun p => decide (p.f0 = n))) && (decide (lowC (n : Int) = n) || casL.any (fun p => decide (p.f1 = n)))
theorem cases_ok : casesOk = true := by kernel_rfl
theorem rest_ok : restOk = true := by kernel_rfl
theorem cas_len : casL.length ≤ 1000000 := of_decide_eq_true (by kernel_rfl)
theorem upC_far (c : Int) (h : c < 0 ∨ 1300 ≤ c) : upC c = c := by
 have e3 : runB c = false := by unfold runB;rw [decide_eq_false_iff_not];omega
 have o1 : oddB c 257 311 = false := by unfold oddB;rw [decide_eq_false_iff_not];omega
 have o2 : oddB c 331 375 = false := by unfold oddB;rw [decide_eq_false_iff_not];omega
 have o3 : oddB c 1121 1153 = false := by unfold oddB;rw [decide_eq_false_iff_not];omega
 unfold upC low3
 rw [e3,if_neg (by simp)]
 unfold low2
 rw [if_neg (by rw [decide_eq_true_iff];omega),if_neg (by omega)]
 unfold low1
 rw [o1,Bool.and_false,if_neg (by simp),o2,if_neg (by simp),o3,if_neg (by simp)]
theorem lowC_far (c : Int) (h : c < 0 ∨ 1300 ≤ c) : lowC c = c := by
 have hn : ∀ f r,lowTry c f r = r := fun f r => by unfold lowTry;rw [if_neg (by omega)]
 unfold lowC
 rw [if_neg (by omega),hn,hn,hn]
theorem up_of (p : S55) (h : p ∈ casL) : upC p.f0 = p.f1 ∧ lowC p.f1 = p.f0 := by
 have := List.all_eq_true.1 cases_ok p h
 simp only [Bool.and_eq_true,decide_eq_true_eq] at this
 exact this
theorem rest_of (c : Int) : (upC c = c ∨ ∃ p ∈ casL,p.f0 = c) ∧ (lowC c = c ∨ ∃ p ∈ casL,p.f1 = c) := by
 by_cases h : c < 0 ∨ 1300 ≤ c
 ·exact ⟨.inl (upC_far c h),.inl (lowC_far c h)⟩
 ·have := List.all_eq_true.1 rest_ok c.toNat (List.mem_range.2 (by omega))
  have e : ((c.toNat : Nat) : Int) = c := by omega
  rw [e] at this
  simp only [Bool.and_eq_true,Bool.or_eq_true,decide_eq_true_eq,List.any_eq_true] at this
  exact this
theorem rup_loop (c : Int) (hx : ∀ p ∈ casL,p.f0 = c → p.f1 = upC c) (L : List S55) (hL : L.length ≤ 1000000) : ∀ (l : List S55) (i : Nat),L.drop i = l → (∀ p ∈ l,p ∈ casL) → ((∃ p ∈ l,p.f0 = c) ∨ upC c = c) → Ev (fun k => bodkinref05_UpperOf.l0 k c L i) (upC c) := by
 intro l
 induction l with
 | nil =>
  intro i h _ hc
  have := List.drop_eq_nil_iff.1 h
  refine Ev.step (fun k => bodkinref05_UpperOf.l0.eq_2 ..) (ev_neg (by omega) (ev_now ?_))
  rcases hc with ⟨p,hp,_⟩ | h1
  ·cases hp
  ·exact h1.symm
 | cons p l ih =>
  intro i h hm hc
  obtain ⟨hi,hg,hd⟩ := drop_cons' (d := z55) h
  have hr : rd_T55 L i = p := by unfold rd_T55;rw [Int.toNat_natCast];exact hg
  refine Ev.step (fun k => bodkinref05_UpperOf.l0.eq_2 ..) (ev_pos (by omega) (ev_pos (by omega) ?_))
  rw [hr,w64 (by omega) (by omega)]
  by_cases h1 : p.f0 = c
  ·exact ev_pos h1 (ev_now (hx p (hm p (by simp)) h1))
  ·refine ev_neg h1 (ih (i + 1) hd (fun q hq => hm q (List.mem_cons_of_mem _ hq)) ?_)
   rcases hc with ⟨q,hq,he⟩ | h2
   ·rcases List.mem_cons.1 hq with rfl | hq
    ·exact absurd he h1
    ·exact .inl ⟨q,hq,he⟩
   ·exact .inr h2
theorem rlow_loop (c : Int) (hx : ∀ p ∈ casL,p.f1 = c → p.f0 = lowC c) (L : List S55) (hL : L.length ≤ 1000000) : ∀ (l : List S55) (i : Nat),L.drop i = l → (∀ p ∈ l,p ∈ casL) → ((∃ p ∈ l,p.f1 = c) ∨ lowC c = c) → Ev (fun k => bodkinref05_LowerOf.l0 k c L i) (lowC c) := by
 intro l
 induction l with
 | nil =>
  intro i h _ hc
  have := List.drop_eq_nil_iff.1 h
  refine Ev.step (fun k => bodkinref05_LowerOf.l0.eq_2 ..) (ev_neg (by omega) (ev_now ?_))
  rcases hc with ⟨p,hp,_⟩ | h1
  ·cases hp
  ·exact h1.symm
 | cons p l ih =>
  intro i h hm hc
  obtain ⟨hi,hg,hd⟩ := drop_cons' (d := z55) h
  have hr : rd_T55 L i = p := by unfold rd_T55;rw [Int.toNat_natCast];exact hg
  refine Ev.step (fun k => bodkinref05_LowerOf.l0.eq_2 ..) (ev_pos (by omega) (ev_pos (by omega) ?_))
  rw [hr,w64 (by omega) (by omega)]
  by_cases h1 : p.f1 = c
  ·exact ev_pos h1 (ev_now (hx p (hm p (by simp)) h1))
  ·refine ev_neg h1 (ih (i + 1) hd (fun q hq => hm q (List.mem_cons_of_mem _ hq)) ?_)
   rcases hc with ⟨q,hq,he⟩ | h2
   ·rcases List.mem_cons.1 hq with rfl | hq
    ·exact absurd he h1
    ·exact .inl ⟨q,hq,he⟩
   ·exact .inr h2
/-- What the reference's UpperOf and LowerOf answer. -/
theorem ref_upper_ans (c : Int) : Ev (fun k => bodkinref05_UpperOf.f k c) (upC c) :=
 Ev.bind pairs_ans (rup_loop c (fun p hp h => by rw [← h];exact (up_of p hp).1.symm) casL cas_len casL 0 rfl (fun _ h => h) ((rest_of c).1.symm))
theorem ref_lower_ans (c : Int) : Ev (fun k => bodkinref05_LowerOf.f k c) (lowC c) :=
 Ev.bind pairs_ans (rlow_loop c (fun p hp h => by rw [← h];exact (up_of p hp).2.symm) casL cas_len casL 0 rfl (fun _ h => h) ((rest_of c).2.symm))
end Go.Proofs.YtkficbgnjpekaaaDoor.Pu
end
section
namespace Go.Proofs.YtkficbgnjpekaaaDoor.Pu
open Go Go.RowKit Go.Proofs.YtkficbgnjpekaaaDoor.Mu Go.Proofs.YtkficbgnjpekaaaDoor.U Go.Proofs.YtkficbgnjpekaaaDoorW.PrintWords Go.Proofs.YtkficbgnjpekaaaDoorW.PrintLast Go.Proofs.YtkficbgnjpekaaaDoorW.PrintMore
set_option linter.unusedVariables false
theorem joined_j0 (u v x y : Int) (b : Bool) : Ev (fun k => bodkinref03_joined.j0 k b u x v y) (if b = true then true else (decide (cls v = 3) && (!decide (cls u = 1) && !decide (cls u = 2)))) := by
 refine Ev.step (fun k => bodkinref03_joined.j0.eq_2 ..) (ev_val (fun hb => ev_pos hb (Ev.now _)) (fun hb => ev_neg hb ?_))
 refine Ev.bind (ref_class_ans u) (Ev.bind (ref_class_ans v) ?_)
 by_cases h3 : cls v = 3
 ·refine ev_pos h3 ?_
  by_cases h1 : cls u = 1
  ·exact ev_pos h1 (ev_now (by simp [h1]))
  ·exact ev_neg h1 (ev_now (by by_cases h2 : cls u = 2 <;> simp [h1,h2,h3]))
 ·exact ev_neg h3 (ev_now (by simp [h3]))
theorem joined_ans (u v x y : Int) : Ev (fun k => bodkinref03_joined.f k u x v y) (glueB u v) := by
 unfold bodkinref03_joined.f
 by_cases h : u = 13
 ·refine ev_pos h ?_
  have e : glueB u v = (if (v == 10) = true then true else (decide (cls v = 3) && (!decide (cls u = 1) && !decide (cls u = 2)))) := by
   unfold glueB
   by_cases hv : v = 10 <;> simp [h,hv]
  rw [e];exact joined_j0 u v x y (v == 10)
 ·refine ev_neg h ?_
  have e : glueB u v = (if false = true then true else (decide (cls v = 3) && (!decide (cls u = 1) && !decide (cls u = 2)))) := by
   unfold glueB
   simp [h]
  rw [e];exact joined_j0 u v x y false
theorem ref_cells_ans (c : Int) : Ev (fun k => bodkinref02_Cells.f k c) (celB c) := by
 have hC : celB c = if cls c = 1 then 0 else if cls c = 4 ∨ (cls c = 2 ∧ c ≤ 127) then 2 else 1 := rfl
 unfold bodkinref02_Cells.f
 refine Ev.bind (ref_class_ans c) ?_
 by_cases h1 : cls c = 1
 ·exact ev_pos h1 (ev_now (by rw [hC,if_pos h1]))
 ·refine ev_neg h1 ?_
  by_cases h4 : cls c = 4
  ·exact ev_pos h4 (ev_now (by rw [hC,if_neg h1,if_pos (.inl h4)]))
  ·refine ev_neg h4 ?_
   by_cases h2 : cls c = 2
   ·refine ev_pos h2 ?_
    by_cases h5 : c ≤ 127
    ·exact ev_pos h5 (ev_now (by rw [hC,if_neg h1,if_pos (.inr ⟨h2,h5⟩)]))
    ·exact ev_neg h5 (ev_now (by rw [hC,if_neg h1,if_neg (by omega)]))
   ·exact ev_neg h2 (ev_now (by rw [hC,if_neg h1,if_neg (by omega)]))
theorem rd_last (L : List S61) (c : S61) : rd_T61 (L ++ [c]) (L.length : Int) = c := by
 unfold rd_T61;rw [Int.toNat_natCast,List.getD_eq_getElem?_getD];simp
theorem set_last (L : List S61) (c c' : S61) : (L ++ [c]).set L.length c' = L ++ [c'] := by simp
attribute [local irreducible] uC uN unitsL clusL tl ctl nxt cls celB
theorem el_len (L : List S61) (c : S61) (h : L.length ≤ 1099511627776) : wrap64 ((((L ++ [c]).length : Nat) : Int) - 1) = (L.length : Int) := by
 have hl : (((L ++ [c]).length : Nat) : Int) = (L.length : Int) + 1 := by simp
 rw [hl,w64 (by omega) (by omega)];omega
theorem ref_list_loop (s : ByteArray) (hs : s.size ≤ 1099511627776) : ∀ (n x i p : Nat) (L : List S61) (cur : S61),s.size - x ≤ n → Bd s x → (unitsL s).drop i = tl s x → 0 < i → (rd_T42 (unitsL s) ((i - 1 : Nat) : Int)).f0 = uC s p → L.length + 1 ≤ i →
  Ev (fun k => bodkinref03_List.l0 k (L ++ [cur]) (unitsL s) x i) (L ++ passL s n (uC s p) cur x) := by
 have hul := unitsL_length s
 intro n
 induction n with
 | zero =>
  intro x i p L cur hn hb hd hi hp hL
  have hx : s.size ≤ x := by omega
  rw [tl_end s x hx] at hd
  have := drop_nil_le hd
  exact Ev.step (fun k => bodkinref03_List.l0.eq_2 ..) (ev_neg (by omega) (ev_now rfl))
 | succ n ih =>
  intro x i p L cur hn hb hd hi hp hL
  by_cases hx : x < s.size
  ·have h1 := uN_pos s x
   have h4 := uN_le4 s x
   have hnb := bd_next s x hb hx
   rw [tl_go s x hx] at hd
   obtain ⟨hil,hg,hd'⟩ := drop_cons (d := z42) hd
   have eg : rd_T42 (unitsL s) (i : Int) = uAt s x := by unfold rd_T42;rw [Int.toNat_natCast];exact hg
   have ei : Hid (wrap64 ((i : Int) - 1) = ((i - 1 : Nat) : Int)) := Lib.hid (by rw [w64 (by omega) (by omega)];omega)
   have ei2 : Hid (wrap64 ((i : Int) + 1) = ((i + 1 : Nat) : Int)) := Lib.hid (by rw [w64 (by omega) (by omega)];omega)
   have ex : Hid (wrap64 ((x : Int) + (uN s x : Int)) = ((x + uN s x : Nat) : Int)) := Lib.hid (by rw [w64 (by omega) (by omega)];omega)
   have hL2 : L.length ≤ 1099511627776 := by omega
   have el := Lib.hid (el_len L cur hL2)
   have hl : Hid ((((L ++ [cur]).length : Nat) : Int) = (L.length : Int) + 1) := Lib.hid (by simp)
   have hp' : (rd_T42 (unitsL s) (((i + 1) - 1 : Nat) : Int)).f0 = uC s x := by rw [show i + 1 - 1 = i by omega,eg];rfl
   refine Ev.step (fun k => bodkinref03_List.l0.eq_2 ..) (ev_pos (by omega) (ev_pos (by omega) ?_))
   rw [ei.out]
   refine ev_pos (by omega) (ev_pos (by omega) (ev_pos (by omega) ?_))
   rw [hp,eg]
   refine Ev.bind (joined_ans (uC s p) (uC s x) _ _) ?_
   rw [passL,if_pos hx]
   by_cases hgl : glueB (uC s p) (uC s x) = true
   ·rw [if_pos hgl]
    refine Ev.step (fun k => bodkinref03_List.j1.eq_2 ..) (ev_pos hgl ?_)
    rw [el.out,eg]
    refine ev_pos (by omega) (ev_pos (by rw [hl.out];omega) (ev_pos (by omega) (ev_pos (by omega) ?_)))
    rw [Int.toNat_natCast,rd_last,set_last,set_last,ei2.out]
    show Ev (fun k => if uC s x = 10 then bodkinref03_List.l0 k (L ++ [⟨cur.f0,wrap64 ((x : Int) + (uN s x : Int)),1,0⟩]) (unitsL s) (wrap64 ((x : Int) + (uN s x : Int))) ((i + 1 : Nat) : Int) else bodkinref03_List.l0 k (L ++ [⟨cur.f0,wrap64 ((x : Int) + (uN s x : Int)),cur.f2,cur.f3⟩]) (unitsL s) (wrap64 ((x : Int) + (uN s x : Int))) ((i + 1 : Nat) : Int)) _
    rw [ex.out]
    by_cases h10 : uC s x = 10
    ·rw [if_pos h10,if_pos h10]
     exact ev_pos h10 (ih (x + uN s x) (i + 1) x L _ (by omega) hnb hd' (by omega) hp' (by omega))
    ·rw [if_neg h10,if_neg h10]
     exact ev_neg h10 (ih (x + uN s x) (i + 1) x L _ (by omega) hnb hd' (by omega) hp' (by omega))
   ·rw [if_neg hgl]
    refine Ev.step (fun k => bodkinref03_List.j1.eq_2 ..) (ev_neg hgl (ev_pos (by omega) (ev_pos (by omega) ?_)))
    rw [eg]
    refine Ev.bind (ref_class_ans (uC s x)) (Ev.bind (ref_cells_ans (uC s x)) (ev_pos (by simp;omega) ?_))
    rw [ei2.out]
    show Ev (fun k => bodkinref03_List.l0 k ((L ++ [cur]) ++ [⟨(x : Int),wrap64 ((x : Int) + (uN s x : Int)),cls (uC s x),celB (uC s x)⟩]) (unitsL s) (wrap64 ((x : Int) + (uN s x : Int))) ((i + 1 : Nat) : Int)) _
    rw [ex.out]
    have := ih (x + uN s x) (i + 1) x (L ++ [cur]) ⟨(x : Int),((x + uN s x : Nat) : Int),cls (uC s x),celB (uC s x)⟩ (by omega) hnb hd' (by omega) hp' (by simp;omega)
    have e9 : L ++ cur :: passL s n (uC s x) ⟨(x : Int),((x + uN s x : Nat) : Int),cls (uC s x),celB (uC s x)⟩ (x + uN s x) = (L ++ [cur]) ++ passL s n (uC s x) ⟨(x : Int),((x + uN s x : Nat) : Int),cls (uC s x),celB (uC s x)⟩ (x + uN s x) := by simp
    rw [e9]
    exact this
  ·rw [tl_end s x (by omega)] at hd
   have := drop_nil_le hd
   rw [passL,if_neg hx]
   exact Ev.step (fun k => bodkinref03_List.l0.eq_2 ..) (ev_neg (by omega) (Ev.now _))
theorem ref_list_ans (s : ByteArray) (hs : s.size ≤ 1099511627776) : Ev (fun k => bodkinref03_List.f k s) (clusL s) := by
 have hul := unitsL_length s
 refine Ev.bind (ref_units_ans s hs) ?_
 by_cases h0 : 0 < s.size
 ·have h1 := uN_pos s 0
  have h4 := uN_le4 s 0
  have hle := uN_le s 0 h0
  have hd : (unitsL s).drop 0 = uAt s 0 :: tl s (uN s 0) := by rw [List.drop_zero,unitsL_tl,tl_go s 0 h0,Nat.zero_add]
  obtain ⟨hil,hg,hd'⟩ := drop_cons (d := z42) hd
  have eg : rd_T42 (unitsL s) (0 : Int) = uAt s 0 := by unfold rd_T42;exact hg
  have e1 : Hid (wrap64 ((0 : Int) + 1) = ((1 : Nat) : Int)) := Lib.hid (by rw [w64 (by omega) (by omega)];rfl)
  have ex : Hid (wrap64 ((0 : Int) + (uN s 0 : Int)) = ((uN s 0 : Nat) : Int)) := Lib.hid (by rw [w64 (by omega) (by omega)];omega)
  refine Ev.step (fun k => bodkinref03_List.l0.eq_2 ..) (ev_pos (by omega) (ev_neg (by omega) ?_))
  refine Ev.step (fun k => bodkinref03_List.j1.eq_2 ..) (ev_neg (by simp) (ev_pos (by omega) (ev_pos (by omega) ?_)))
  rw [eg]
  refine Ev.bind (ref_class_ans (uC s 0)) (Ev.bind (ref_cells_ans (uC s 0)) (ev_pos (by simp) ?_))
  rw [e1.out]
  show Ev (fun k => bodkinref03_List.l0 k ([] ++ [⟨0,wrap64 ((0 : Int) + (uN s 0 : Int)),cls (uC s 0),celB (uC s 0)⟩]) (unitsL s) (wrap64 ((0 : Int) + (uN s 0 : Int))) ((1 : Nat) : Int)) _
  rw [ex.out]
  have := ref_list_loop s hs s.size (uN s 0) 1 0 [] ⟨0,((uN s 0 : Nat) : Int),cls (uC s 0),celB (uC s 0)⟩ (by omega) (by have := bd_next s 0 (bd_zero s) h0;rwa [Nat.zero_add] at this) hd' (by omega) (by show (rd_T42 (unitsL s) (0 : Int)).f0 = _;rw [eg];rfl) (by simp)
  rw [List.nil_append,pass_all s h0 s.size (by omega)] at this
  exact this
 ·have : unitsL s = [] := by rw [unitsL_tl,tl_end s 0 (by omega)]
  rw [this,clusL_ctl,ctl_end s 0 (by omega)]
  exact Ev.step (fun k => bodkinref03_List.l0.eq_2 ..) (ev_neg (by simp) (Ev.now _))
end Go.Proofs.YtkficbgnjpekaaaDoor.Pu
end
section
namespace Go.Proofs.YtkficbgnjpekaaaDoor.Pu
open Go Go.RowKit Go.Proofs.YtkficbgnjpekaaaDoor.Mu Go.Proofs.YtkficbgnjpekaaaDoor.U Go.Proofs.YtkficbgnjpekaaaDoorW.PrintWords Go.Proofs.YtkficbgnjpekaaaDoorW.PrintLast Go.Proofs.YtkficbgnjpekaaaDoorW.PrintMore
set_option linter.unusedVariables false
theorem unit_eq (s t : ByteArray) (i j : Nat) (h1 : ∀ k,k < uN s i → byt t (j + k) = byt s (i + k)) (h2 : j + uN s i ≤ t.size) (h3 : ∀ k,k < uN t j → byt s (i + k) = byt t (j + k)) (h4 : i + uN t j ≤ s.size) : uC t j = uC s i ∧ uN t j = uN s i := by
 by_cases hs : 2 ≤ uN s i
 ·have e := dec_prefix s t i j hs h1 h2
  unfold uC uN;rw [e];exact ⟨rfl,rfl⟩
 ·by_cases ht : 2 ≤ uN t j
  ·have e := dec_prefix t s j i ht h3 h4
   unfold uC uN;rw [e];exact ⟨rfl,rfl⟩
  ·have e0 := h1 0 (by have := uN_pos s i;omega)
   rw [Nat.add_zero,Nat.add_zero] at e0
   have h5 := bad_or s i
   have h6 := bad_or t j
   rw [e0] at h6
   have := uN_pos s i;have := uN_pos t j
   generalize uN s i = p at *
   generalize uC s i = q at *
   generalize uN t j = p' at *
   generalize uC t j = q' at *
   omega
end Go.Proofs.YtkficbgnjpekaaaDoor.Pu
end
section
namespace Go.Proofs.YtkficbgnjpekaaaDoor.Pu
open Go Go.RowKit Go.Proofs.YtkficbgnjpekaaaDoor.Mu Go.Proofs.YtkficbgnjpekaaaDoor.U Go.Proofs.YtkficbgnjpekaaaDoorW.PrintWords Go.Proofs.YtkficbgnjpekaaaDoorW.PrintLast Go.Proofs.YtkficbgnjpekaaaDoorW.PrintMore
set_option linter.unusedVariables false
set_option linter.unusedSimpArgs false
/-- Does a cluster stand in a word? -/
def wC (s : ByteArray) (c : S61) : Bool := wAt s c.f0.toNat
def spR (s : ByteArray) : Option (Int × Int) → List S61 → List S32
 | none,[] => []
 | some (a,b),[] => [⟨a,b⟩]
 | none,c :: cs => if wC s c = true then spR s (some (c.f0,c.f1)) cs else spR s none cs
 | some (a,b),c :: cs => if wC s c = true then spR s (some (a,c.f1)) cs else ⟨a,b⟩ :: spR s none cs
theorem sp_fold (s : ByteArray) : ∀ (cs : List S61) (L : List S32),(cs.foldl (spStep s) (false,L)).2 = L ++ spR s none cs ∧ ∀ a b,(cs.foldl (spStep s) (true,L ++ [⟨a,b⟩])).2 = L ++ spR s (some (a,b)) cs
 | [],L => ⟨by simp [spR],fun a b => by simp [spR]⟩
 | c :: cs,L => by
  refine ⟨?_,fun a b => ?_⟩
  ·rw [List.foldl_cons,spR]
   cases hw : wC s c with
   | true => rw [spStep_new s L c hw,(sp_fold s cs L).2,if_pos rfl]
   | false => rw [spStep_off s false L c hw,(sp_fold s cs L).1,if_neg (by simp)]
  ·rw [List.foldl_cons,spR]
   cases hw : wC s c with
   | true => rw [spStep_on s L a b c hw,(sp_fold s cs L).2,if_pos rfl]
   | false => rw [spStep_off s true (L ++ [(⟨a,b⟩ : S32)]) c hw,(sp_fold s cs (L ++ [(⟨a,b⟩ : S32)])).1,if_neg (by simp),List.append_assoc];rfl
theorem spans_runs (s : ByteArray) : spansL s = spR s none (clusL s) := by
 have := (sp_fold s (clusL s) []).1
 rw [List.nil_append] at this
 exact this
/-- Where the run that has come to b ends. -/
def endR (s : ByteArray) : Int → List S61 → Int
 | b,[] => b
 | b,c :: cs => if wC s c = true then endR s c.f1 cs else b
def refR (s : ByteArray) : Bool → List S61 → List S32
 | _,[] => []
 | p,c :: cs => if wC s c = true ∧ p = false then ⟨c.f0,endR s c.f1 cs⟩ :: refR s (wC s c) cs else refR s (wC s c) cs
theorem runs_ref (s : ByteArray) : ∀ cs : List S61,spR s none cs = refR s false cs ∧ ∀ a b,spR s (some (a,b)) cs = ⟨a,endR s b cs⟩ :: refR s true cs
 | [] => ⟨rfl,fun _ _ => rfl⟩
 | c :: cs => by
  obtain ⟨h1,h2⟩ := runs_ref s cs
  refine ⟨?_,fun a b => ?_⟩
  ·rw [spR,refR]
   cases hw : wC s c with
   | true => rw [if_pos rfl,if_pos ⟨rfl,rfl⟩,h2]
   | false => rw [if_neg (by simp),if_neg (by simp),h1]
  ·rw [spR,refR,endR]
   cases hw : wC s c with
   | true => rw [if_pos rfl,if_pos rfl,if_neg (by simp),h2]
   | false => rw [if_neg (by simp),if_neg (by simp),if_neg (by simp),h1]
theorem mid_unit0 (s : ByteArray) (i t : Nat) (ht : Bd s t) (h2 : i < t) : uC (s.extract i t) 0 = uC s i ∧ uN (s.extract i t) 0 = uN s i := by
 have hts := ht.1
 have hsz := size_extract s i t ht.1
 have hle := uN_le (s.extract i t) 0 (by omega)
 have hle2 := ht.2 i h2
 refine unit_eq s (s.extract i t) i 0 (fun k hk => ?_) (by omega) (fun k hk => ?_) (by omega)
 ·rw [byt_extract _ _ _ _ (by omega) ht.1,Nat.zero_add]
 ·rw [byt_extract _ _ _ _ (by omega) ht.1,Nat.zero_add]
theorem atA_zero (s : ByteArray) (h : 0 < s.size) : atA s 0 = (uC s 0,(uN s 0 : Int),true) := by
 unfold atA
 rw [if_pos ⟨(bdB_iff s 0).2 ((bdI_nat s 0).2 (bd_zero s)),by omega⟩];rfl
theorem ref_wordly_ans (s : ByteArray) (hs : s.size ≤ 1099511627776) (c : S61) (hc : c ∈ clusL s) : Ev (fun k => bodkinref05_wordly.f k s c.f0 c.f1 c.f2 c.f3) (wC s c) := by
 obtain ⟨i,hci,hi,rfl⟩ := clus_mem' s s.size 0 (cb_zero s) c hc
 have h1 := nxt_pos s i hi
 have hn := nxt_cb s i hci.1 hi
 have hle := nxt_le s i hci.1 hi
 have hsz := size_extract s i (nxt s i) hle
 have e0 : (clAt s i).f0 = (i : Int) := rfl
 have e1 : (clAt s i).f1 = (nxt s i : Int) := rfl
 unfold wC wAt bodkinref05_wordly.f
 rw [e0,e1,Int.toNat_natCast,Int.toNat_natCast]
 refine ev_pos (by omega) (ev_pos (by omega) (ev_pos (by omega) ?_))
 have hA := ref_at_ans (s.extract i (nxt s i)) (by omega) 0
 rw [atA_zero _ (by omega),(mid_unit0 s i (nxt s i) hn.1 (by omega)).1] at hA
 exact Ev.bind hA (ev_pos rfl (Ev.bind (ref_isword_ans (uC s i)) (Ev.now _)))
theorem rd_clus (L : List S61) (i : Nat) (c : S61) (cs : List S61) (h : L.drop i = c :: cs) : i < L.length ∧ rd_T61 L i = c ∧ L.drop (i + 1) = cs ∧ c ∈ L := by
 obtain ⟨hi,hg,hd⟩ := drop_cons' (d := z61) h
 have hr : rd_T61 L i = c := by unfold rd_T61;rw [Int.toNat_natCast];exact hg
 refine ⟨hi,hr,hd,?_⟩
 rw [← hg,List.getD_eq_getElem?_getD,List.getElem?_eq_getElem hi]
 exact List.getElem_mem hi
section
variable (s : ByteArray) (hs : s.size ≤ 1099511627776)
theorem rspans_inner (hs : s.size ≤ 1099511627776) (r : List S32) (acc : List S32) (hacc : acc.length ≤ 1099511627776) (i : Nat) (ci : S61) (hi : i < (clusL s).length) (hci : rd_T61 (clusL s) i = ci) :
  ∀ (cs : List S61) (j : Nat) (cj : S61),(clusL s).drop j = cj :: cs → Ev (fun k => bodkinref05_Spans.l0 k s (clusL s) (acc ++ [⟨ci.f0,endR s cj.f1 cs⟩]) ((i + 1 : Nat) : Int)) r → Ev (fun k => bodkinref05_Spans.l1 k s (clusL s) acc i j) r := by
 have hlen := clusL_length s
 intro cs
 induction cs with
 | nil =>
  intro j cj hj hr
  obtain ⟨hjl,hrj,hd,_⟩ := rd_clus _ j cj [] hj
  have hle := List.drop_eq_nil_iff.1 hd
  refine Ev.step (fun k => bodkinref05_Spans.l1.eq_2 ..) ?_
  rw [w64 (by omega) (by omega)]
  refine ev_neg (by omega) (ev_pos (by omega) (ev_pos (by omega) (ev_pos (by omega) (ev_pos (by omega) (ev_pos (by omega) ?_)))))
  rw [hrj,hci,w64 (by omega) (by omega)]
  exact hr
 | cons c cs ih =>
  intro j cj hj hr
  obtain ⟨hjl,hrj,hd,_⟩ := rd_clus _ j cj (c :: cs) hj
  obtain ⟨hjl2,hrj2,hd2,hm2⟩ := rd_clus _ (j + 1) c cs hd
  refine Ev.step (fun k => bodkinref05_Spans.l1.eq_2 ..) ?_
  rw [w64 (by omega) (by omega)]
  refine ev_pos (by omega) (ev_pos (by omega) ?_)
  have e : ((j : Int) + 1) = ((j + 1 : Nat) : Int) := by omega
  rw [e,hrj2]
  refine Ev.bind (ref_wordly_ans s hs c hm2) ?_
  rw [endR] at hr
  by_cases hw : wC s c = true
  ·rw [if_pos hw] at hr
   exact ev_pos hw (ih (j + 1) c hd hr)
  ·rw [if_neg hw] at hr
   refine ev_neg hw (ev_pos (by omega) (ev_pos (by omega) (ev_pos (by omega) (ev_pos (by omega) (ev_pos (by omega) ?_)))))
   rw [hrj,hci,w64 (by omega) (by omega)]
   exact hr
theorem rspans_loop (hs : s.size ≤ 1099511627776) : ∀ (cs : List S61) (i : Nat) (p : Bool) (acc : List S32),(clusL s).drop i = cs → acc.length ≤ i → (i = 0 → p = false) → (∀ q,i = q + 1 → wC s (rd_T61 (clusL s) q) = p) →
  Ev (fun k => bodkinref05_Spans.l0 k s (clusL s) acc i) (acc ++ refR s p cs) := by
 have hlen := clusL_length s
 intro cs
 induction cs with
 | nil =>
  intro i p acc hd _ _ _
  have := List.drop_eq_nil_iff.1 hd
  exact Ev.step (fun k => bodkinref05_Spans.l0.eq_2 ..) (ev_neg (by omega) (ev_now (by rw [refR,List.append_nil])))
 | cons c cs ih =>
  intro i p acc hd hacc h0 hp
  obtain ⟨hil,hri,hd2,hm⟩ := rd_clus _ i c cs hd
  have e1 : ((i : Int) + 1) = ((i + 1 : Nat) : Int) := by omega
  have hnext : ∀ acc' : List S32,acc'.length ≤ i + 1 → Ev (fun k => bodkinref05_Spans.l0 k s (clusL s) acc' ((i + 1 : Nat) : Int)) (acc' ++ refR s (wC s c) cs) := fun acc' ha =>
   ih (i + 1) (wC s c) acc' hd2 ha (fun h => by omega) (fun q hq => by rw [show q = i by omega,hri])
  refine Ev.step (fun k => bodkinref05_Spans.l0.eq_2 ..) (ev_pos (by omega) (ev_pos (by omega) ?_))
  rw [hri]
  refine Ev.bind (ref_wordly_ans s hs c hm) ?_
  rw [refR]
  have hskip : ¬ (wC s c = true ∧ p = false) → ∀ b : Bool,b = true → Ev (fun k => bodkinref05_Spans.j1 k s (clusL s) acc i b) (acc ++ (if wC s c = true ∧ p = false then ⟨c.f0,endR s c.f1 cs⟩ :: refR s (wC s c) cs else refR s (wC s c) cs)) := fun hn b hb => by
   rw [if_neg hn]
   refine Ev.step (fun k => bodkinref05_Spans.j1.eq_2 ..) (ev_pos hb ?_)
   rw [w64 (by omega) (by omega),e1]
   exact hnext acc (by omega)
  have hrun : (wC s c = true ∧ p = false) → ∀ b : Bool,b = false → Ev (fun k => bodkinref05_Spans.j1 k s (clusL s) acc i b) (acc ++ (if wC s c = true ∧ p = false then ⟨c.f0,endR s c.f1 cs⟩ :: refR s (wC s c) cs else refR s (wC s c) cs)) := fun hy b hb => by
   rw [if_pos hy]
   refine Ev.step (fun k => bodkinref05_Spans.j1.eq_2 ..) (ev_neg (by rw [hb];simp) ?_)
   refine rspans_inner s hs _ acc (by omega) i c hil hri cs i c hd ?_
   have := hnext (acc ++ [⟨c.f0,endR s c.f1 cs⟩]) (by simp;omega)
   rwa [List.append_assoc] at this
  by_cases hw : wC s c = true
  ·refine ev_pos hw ?_
   by_cases hi0 : 0 < i
   ·obtain ⟨q,rfl⟩ : ∃ q,i = q + 1 := ⟨i - 1,by omega⟩
    have hq : q < (clusL s).length := by omega
    have e2 : ((q + 1 : Nat) : Int) - 1 = (q : Int) := by omega
    have hmq : rd_T61 (clusL s) q ∈ clusL s := by
     unfold rd_T61;rw [Int.toNat_natCast,List.getD_eq_getElem?_getD,List.getElem?_eq_getElem hq];exact List.getElem_mem hq
    refine ev_pos (by omega) ?_
    rw [w64 (by omega) (by omega),e2]
    refine ev_pos (by omega) (ev_pos (by omega) (Ev.bind (ref_wordly_ans s hs _ hmq) ?_))
    rw [hp q rfl]
    cases p with
    | true => exact hskip (by simp) true rfl
    | false => exact hrun ⟨hw,rfl⟩ false rfl
   ·have hpf := h0 (by omega)
    exact ev_neg (by omega) (hrun ⟨hw,hpf⟩ false rfl)
  ·exact ev_neg hw (hskip (fun h => hw h.1) true rfl)
theorem ref_spans_ans (hs : s.size ≤ 1099511627776) : Ev (fun k => bodkinref05_Spans.f k s) (spansL s) := by
 have h := rspans_loop s hs (clusL s) 0 false [] rfl (Nat.le_refl _) (fun _ => rfl) (fun q hq => by omega)
 rw [List.nil_append,← (runs_ref s (clusL s)).1,← spans_runs] at h
 exact Ev.bind (ref_list_ans s hs) h
end
end Go.Proofs.YtkficbgnjpekaaaDoor.Pu
end
section
namespace Go.Proofs.YtkficbgnjpekaaaDoor.Pu
open Go Go.RowKit Go.Proofs.YtkficbgnjpekaaaDoor.Mu Go.Proofs.YtkficbgnjpekaaaDoor.U Go.Proofs.YtkficbgnjpekaaaDoorW.PrintWords Go.Proofs.YtkficbgnjpekaaaDoorW.PrintLast Go.Proofs.YtkficbgnjpekaaaDoorW.PrintMore
set_option linter.unusedVariables false
set_option linter.unusedSimpArgs false
theorem clAt_f0 (s : ByteArray) (x : Nat) : (clAt s x).f0 = (x : Int) := rfl
theorem clAt_f1 (s : ByteArray) (x : Nat) : (clAt s x).f1 = (nxt s x : Int) := rfl
/-- Spans in order,from x on. -/
structure InOrd (s : ByteArray) (x : Int) (l : List S32) : Prop where
 one : ∀ p ∈ l,x ≤ p.f0 ∧ p.f0 < p.f1 ∧ CBI s p.f0 ∧ CBI s p.f1
 ord : l.Pairwise (fun p q => p.f1 < q.f0)
theorem InOrd.nil (s : ByteArray) (x : Int) : InOrd s x [] := ⟨(fun _ h => by cases h),List.Pairwise.nil⟩
theorem InOrd.mono {s : ByteArray} {x y : Int} {l : List S32} (h : InOrd s y l) (hxy : x ≤ y) : InOrd s x l := ⟨fun p hp => ⟨by have := (h.one p hp).1;omega,(h.one p hp).2⟩,h.ord⟩
theorem InOrd.cons {s : ByteArray} {a b x : Int} {l : List S32} (h : InOrd s x l) (hx : b < x) (hab : a < b) (ha : CBI s a) (hb : CBI s b) : InOrd s a (⟨a,b⟩ :: l) :=
 ⟨(fun p hp => by
  rcases List.mem_cons.1 hp with rfl | hp
  ·exact ⟨Int.le_refl _,hab,ha,hb⟩
  ·have := h.one p hp;exact ⟨by omega,this.2⟩),List.pairwise_cons.2 ⟨(fun q hq => by have := (h.one q hq).1;show b < q.f0;omega),h.ord⟩⟩
theorem sp_ord (s : ByteArray) : ∀ n x : Nat,s.size - x ≤ n → CB s x → InOrd s x (spR s none (ctl s x)) ∧ ∀ a : Int,CBI s a → a < x → InOrd s a (spR s (some (a,(x : Int))) (ctl s x)) := by
 intro n
 induction n with
 | zero =>
  intro x hn hc
  rw [ctl_end s x (by omega)]
  exact ⟨InOrd.nil _ _,fun a ha hx => (InOrd.nil s (x + 1)).cons (by omega) hx ha ((cbI_nat _ _).2 hc)⟩
 | succ n ih =>
  intro x hn hc
  by_cases hx : x < s.size
  ·have h1 := nxt_pos s x hx
   have hcn := nxt_cb s x hc.1 hx
   obtain ⟨i1,i2⟩ := ih (nxt s x) (by omega) hcn
   rw [ctl_go s x hx]
   have hcx : CBI s (x : Int) := (cbI_nat _ _).2 hc
   refine ⟨?_,fun a ha hax => ?_⟩
   ·rw [spR]
    by_cases hw : wC s (clAt s x) = true
    ·rw [if_pos hw,clAt_f0,clAt_f1];exact i2 x hcx (by omega)
    ·rw [if_neg hw];exact i1.mono (by omega)
   ·rw [spR]
    by_cases hw : wC s (clAt s x) = true
    ·rw [if_pos hw,clAt_f1];exact i2 a ha (by omega)
    ·rw [if_neg hw];exact i1.cons (by omega) hax ha hcx
  ·rw [ctl_end s x (by omega)]
   exact ⟨InOrd.nil _ _,fun a ha hx => (InOrd.nil s (x + 1)).cons (by omega) hx ha ((cbI_nat _ _).2 hc)⟩
theorem spans_ord (s : ByteArray) : InOrd s 0 (spansL s) := by
 rw [spans_runs,clusL_ctl]
 exact (sp_ord s s.size 0 (by omega) (cb_zero s)).1
end Go.Proofs.YtkficbgnjpekaaaDoor.Pu
end
