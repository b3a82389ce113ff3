/- What the law ChangeCases reaches of this seat's own texts, merged; what nothing uses is left out. -/
import Derived.Test.YtfmnmjoofnbnfaaDoorZChangeCases0
import Derived.Test.YtfmnmjoofnbnfaaDoorZChangeCases1
import Derived.Test.YtfmnmjoofnbnfaaDoorZChangeCases2
import Derived.Test.YtfmnmjoofnbnfaaDoorZChangeCases3
import Derived.Test.YtfmnmjoofnbnfaaDoorZChangeCases4
import Derived.Test.YtfmnmjoofnbnfaaDoorZChangeCases5
import Derived.Test.YtfmnmjoofnbnfaaDoorZChangeCases7
import Derived.Test.YtfmnmjoofnbnfaaDoorZChangeCases8
section
namespace Go.Proofs.YtfmnmjoofnbnfaaDoor.Pu
open Go Go.RowKit Go.Proofs.YtfmnmjoofnbnfaaDoor.Mu Go.Proofs.YtfmnmjoofnbnfaaDoor.U Go.Proofs.YtfmnmjoofnbnfaaDoorW.PrintWords Go.Proofs.YtfmnmjoofnbnfaaDoorW.PrintLast Go.Proofs.YtfmnmjoofnbnfaaDoorW.PrintMore
theorem bits192 : ∀ m : Fin 32,Go.bits .or .u8 192 ((m.val : Nat) : Int) = 192 + (m.val : Int) := by decide
theorem bits224 : ∀ m : Fin 16,Go.bits .or .u8 224 ((m.val : Nat) : Int) = 224 + (m.val : Int) := by decide
theorem bits240 : ∀ m : Fin 8,Go.bits .or .u8 240 ((m.val : Nat) : Int) = 240 + (m.val : Int) := by decide
theorem or192 {x : Int} (h : 0 ≤ x) (h2 : x < 32) : Go.bits .or .u8 192 x = 192 + x := by
 have := bits192 ⟨x.toNat,by omega⟩
 rwa [show ((x.toNat : Nat) : Int) = x by omega] at this
theorem or224 {x : Int} (h : 0 ≤ x) (h2 : x < 16) : Go.bits .or .u8 224 x = 224 + x := by
 have := bits224 ⟨x.toNat,by omega⟩
 rwa [show ((x.toNat : Nat) : Int) = x by omega] at this
theorem or240 {x : Int} (h : 0 ≤ x) (h2 : x < 8) : Go.bits .or .u8 240 x = 240 + x := by
 have := bits240 ⟨x.toNat,by omega⟩
 rwa [show ((x.toNat : Nat) : Int) = x by omega] at this
def okC (c : Int) : Prop := 0 ≤ c ∧ c ≤ 1114111 ∧ (c < 55296 ∨ 57343 < c)
instance (c : Int) : Decidable (okC c) := by unfold okC;infer_instance
/-- The bytes of a character. -/
def encI (c : Int) : List Int :=
 if c < 128 then [c] else if c < 2048 then [192 + c / 64,128 + c % 64] else if c < 65536 then [224 + c / 4096,128 + c / 64 % 64,128 + c % 64]
 else [240 + c / 262144,128 + c / 4096 % 64,128 + c / 64 % 64,128 + c % 64]
def encO (c : Int) : List Int := if okC c then encI c else []
theorem encI_len (c : Int) : (encI c).length ≤ 4 := by unfold encI;split <;> (try split) <;> (try split) <;> simp
theorem encO_len (c : Int) : (encO c).length ≤ 4 := by unfold encO;split;exact encI_len c;simp
theorem encI_byte (c : Int) (h : okC c) : ∀ x ∈ encI c,0 ≤ x ∧ x < 256 := by
 unfold okC at h
 intro x hx
 unfold encI at hx
 split at hx
 ·simp at hx;omega
 ·split at hx
  ·simp at hx;omega
  ·split at hx
   ·simp at hx;omega
   ·simp at hx;omega
theorem valid_ans (c : Int) : Ev (fun k => utf8_ValidRune.f k c) (decide (okC c)) := by
 unfold utf8_ValidRune.f
 by_cases h0 : 0 ≤ c
 ·refine ev_pos h0 (Ev.step (fun k => utf8_ValidRune.j0.eq_2 ..) ?_)
  by_cases h1 : c < 55296
  ·exact ev_pos (by simpa using h1) (ev_now (by rw [decide_eq_true (show okC c by unfold okC;omega)]))
  ·refine ev_neg (by simpa using h1) ?_
   by_cases h2 : 57343 < c
   ·refine ev_pos h2 ?_
    by_cases h3 : c ≤ 1114111
    ·exact ev_pos h3 (ev_now (by rw [decide_eq_true (show okC c by unfold okC;omega)]))
    ·exact ev_neg h3 (ev_now (by rw [decide_eq_false (show ¬ okC c by unfold okC;omega)]))
   ·exact ev_neg h2 (ev_now (by rw [decide_eq_false (show ¬ okC c by unfold okC;omega)]))
 ·exact ev_neg h0 (Ev.step (fun k => utf8_ValidRune.j0.eq_2 ..) (ev_neg (by simp) (ev_neg (by omega) (ev_now (by rw [decide_eq_false (show ¬ okC c by unfold okC;omega)])))))
theorem append_ans (l : List Int) (hl : l.length ≤ 17592186044416) (c : Int) (h : okC c) : Ev (fun k => utf8_AppendRune.f k l c) (l ++ encI c) := by
 unfold okC at h
 have e : c % 4294967296 = c := by omega
 unfold utf8_AppendRune.f
 by_cases h1 : c < 128
 ·refine ev_pos (by omega) (ev_pos (by omega) (ev_now ?_))
  unfold encI;rw [if_pos h1,show c % 256 = c by omega]
 refine ev_neg (by omega) (Ev.bind (f := fun _ t => some t) (a := l ++ encI c) ?_ (Ev.now _))
 unfold utf8_appendRuneNonASCII.f
 rw [e]
 by_cases h2 : c < 2048
 ·refine ev_pos (by omega) (ev_some rfl (ev_pos (by simp;omega) (ev_now ?_)))
  unfold encI;rw [if_neg h1,if_pos h2,or192 (by omega) (by omega),show c / 64 % 256 = c / 64 by omega]
 refine ev_neg (by omega) ?_
 have hj3 : c < 65536 → ∀ b,b = true → Ev (fun k => utf8_appendRuneNonASCII.j0 k l c c b) (l ++ encI c) := by
  intro h3 b hb
  refine Ev.step (fun k => utf8_appendRuneNonASCII.j0.eq_2 ..) (ev_pos hb (ev_some rfl (ev_pos (by simp;omega) (ev_now ?_))))
  unfold encI;rw [if_neg h1,if_neg h2,if_pos h3,or224 (by omega) (by omega),show c / 4096 % 256 = c / 4096 by omega]
 by_cases h3 : c < 55296
 ·exact ev_pos h3 (hj3 (by omega) _ (by simpa using h3))
 refine ev_neg h3 (ev_pos (by omega) ?_)
 by_cases h4 : c < 65536
 ·exact hj3 h4 _ (by rw [decide_eq_true_eq];omega)
 ·refine Ev.step (fun k => utf8_appendRuneNonASCII.j0.eq_2 ..) (ev_neg (by rw [decide_eq_true_eq];omega) (ev_pos (by omega) (ev_pos (by omega) (ev_some rfl (ev_pos (by simp;omega) (ev_now ?_))))))
  unfold encI;rw [if_neg h1,if_neg h2,if_neg h4,or240 (by omega) (by omega),show c / 262144 % 256 = c / 262144 by omega]
theorem encode_loop (L : List Int) (hL : L.length ≤ 1099511627776) : ∀ (l : List Int) (i : Nat) (o : List Int),L.drop i = l → o.length + 4 * l.length ≤ 8796093022208 → Ev (fun k => unit_Encode.l0 k o L (L.length : Int) i) (strOfNums (o ++ l.flatMap encO)) := by
 intro l
 induction l with
 | nil => intro i o h _;have := drop_nil_le h;exact Ev.step (fun k => unit_Encode.l0.eq_2 ..) (ev_neg (by omega) (ev_now (by simp)))
 | cons c l ih =>
  intro i o h ho
  rw [List.length_cons] at ho
  obtain ⟨hi,hg,hd⟩ := drop_cons (d := 0) h
  have hv := valid_ans c
  have := encO_len c
  have hgo := ih (i + 1) (o ++ encO c) hd (by rw [List.length_append];omega)
  rw [List.append_assoc] at hgo
  rw [List.flatMap_cons]
  refine Ev.step (fun k => unit_Encode.l0.eq_2 ..) (ev_pos (by omega) (ev_pos (by omega) (ev_pos (by omega) ?_)))
  rw [rd_nat,hg,w64 (by omega) (by omega)]
  refine Ev.bind hv ?_
  by_cases hc : okC c
  ·refine ev_pos (by simpa using hc) (Ev.bind (append_ans o (by omega) c hc) ?_)
   rw [show encO c = encI c by unfold encO;rw [if_pos hc]] at hgo ⊢
   exact hgo
  ·refine ev_neg (by simpa using hc) ?_
   rw [show encO c = [] by unfold encO;rw [if_neg hc]] at hgo ⊢
   rw [List.nil_append] at hgo ⊢
   rw [List.append_nil] at hgo
   exact hgo
theorem encode_ans (l : List Int) (hl : l.length ≤ 1099511627776) : Ev (fun k => unit_Encode.f k l) (strOfNums (l.flatMap encO)) := encode_loop l hl l 0 [] rfl (by simp;omega)
theorem bytesOf_str (l : List Int) (h : ∀ x ∈ l,0 ≤ x ∧ x < 256) : bytesOf (strOfNums l) = l := by
 unfold bytesOf
 rw [strOfNums_data,List.map_map]
 conv => rhs;rw [← List.map_id l]
 apply List.map_congr_left
 intro x hx
 obtain ⟨h0,h1⟩ := h x hx
 show (((UInt8.ofNat x.toNat).toNat : Nat) : Int) = x
 rw [UInt8.toNat_ofNat']
 omega
end Go.Proofs.YtfmnmjoofnbnfaaDoor.Pu
end
section
namespace Go.Proofs.YtfmnmjoofnbnfaaDoor.U
open Go.RowKit Go.Shelf Go.Proofs.YtfmnmjoofnbnfaaDoor.Mu Go.Proofs.YtfmnmjoofnbnfaaDoor.Pu Go.Proofs.YtfmnmjoofnbnfaaDoor.Rg Go.Proofs.YtfmnmjoofnbnfaaDoorW.PrintWords Go.Proofs.YtfmnmjoofnbnfaaDoorW.PrintLast Go.Proofs.YtfmnmjoofnbnfaaDoorW.PrintMore
set_option linter.unusedVariables false
set_option linter.unusedSimpArgs false
/-- What a unit becomes. -/
def eachU (s : ByteArray) (F : Int → Int → Int) (i : Nat) : List Int := if uC s i < 0 then bytesOf (s.extract i (i + uN s i)) else encO (F i (uC s i))
def eachL (s : ByteArray) (F : Int → Int → Int) : Nat → Nat → List Int
 | 0,_ => []
 | k + 1,i => if i < s.size then eachU s F i ++ eachL s F k (i + uN s i) else []
theorem encO_byte (c : Int) : ∀ x ∈ encO c,0 ≤ x ∧ x < 256 := by
 unfold encO
 split
 ·rename_i h;exact encI_byte c h
 ·intro x hx;cases hx
theorem eachU_len (s : ByteArray) (F : Int → Int → Int) (i : Nat) (hi : i < s.size) : (eachU s F i).length ≤ 4 * uN s i := by
 have h1 := uN_pos s i
 unfold eachU
 split
 ·rw [bytesOf_length,size_extract _ _ _ (uN_le s i hi)];omega
 ·have := encO_len (F i (uC s i));omega
theorem units_kept {W w9 : World} {b n : Nat} {ok : Nat → Prop} {v5 vu : Value} {xs : List Value} {us : List S65} (hown : W.ownsRow b 5 1 v5 n xs) (hR : Kd.R k65 65 W b ok vu us) (hg : W.grownBy w9 v5.ownBlock) : Kd.R k65 65 w9 b ok vu us := by
 obtain ⟨inner,ho⟩ := Kd.R_own hR
 refine Kd.R_grown2 hR rfl hg (fun k e => ?_)
 rcases own_type_ne hown ho (by decide) with h | h
 ·rw [h] at e;cases e
 ·rw [← e];exact h
theorem unit_box_kept {W w9 : World} {b n B : Nat} {v5 : Value} {xs : List Value} {c m : Int} (hown : W.ownsRow b 5 1 v5 n xs) (hB : W.heap[B]? = some (.cells #[.int .i32 c,.int .i64 m] 65 (0,0))) (hg : W.grownBy w9 v5.ownBlock) : w9.cell? ⟨B,1,none⟩ = some (.int .i64 m) := by
 have hne := own_ne hown hB (by decide)
 have h2 := (hg.block B (Array.getElem?_eq_some_iff.1 hB).1 hne).trans hB
 simp [World.cell?,h2]
theorem lit_one (W : World) (x : Int) : Kd.C (Kd.int .i32) (W.alloc (.cells #[.int .i32 x] 21)) (some ⟨W.heap.size,0,none⟩) [x].length [x] := by
 have ho : (W.alloc (.cells #[.int .i32 x] 21)).ownsRow W.heap.size 21 1 (.slice (some ⟨W.heap.size,0,none⟩) 1 1) [x].length (nums .i32 [x]) := World.ownsRow_lit W #[.int .i32 x] 1 (Nat.le_refl _) (by decide) rfl
 have hR : Kd.R (Kd.int .i32) 21 (W.alloc (.cells #[.int .i32 x] 21)) W.heap.size (fun _ => True) (.slice (some ⟨W.heap.size,0,none⟩) 1 1) [x] := Kd.R_of_own ho (fun _ _ => trivial)
 exact (Kd.R_reads' hR).2.2
theorem eachL_end (s : ByteArray) (F : Int → Int → Int) (k i : Nat) (h : ¬ i < s.size) : eachL s F k i = [] := by
 cases k with
 | zero => rfl
 | succ k => rw [eachL,if_neg h]
/-- One round more: the unit that stands there. -/
theorem each_round {eachT' : List Int} (s : ByteArray) (F : Int → Int → Int) (k i j : Nat) (acc : List Int) (hk : s.size ≤ i + k) (hlt : j < (unitsL s).length) (hU : (unitsL s).drop j = (walkL s k i).map (·.2)) (hI : eachT' = acc ++ eachL s F k i) :
  ∃ k',k = k' + 1 ∧ i < s.size ∧ rd_T65 (unitsL s) (j : Int) = uAt s i ∧ Hid ((unitsL s).drop (j + 1) = (walkL s k' (i + uN s i)).map (·.2)) ∧ Hid (eachT' = (acc ++ eachU s F i) ++ eachL s F k' (i + uN s i)) := by
 cases k with
 | zero => rw [walkL] at hU;have h2 := congrArg List.length hU;rw [List.length_drop] at h2;simp at h2;omega
 | succ k =>
  rw [walkL] at hU
  by_cases hi : i < s.size
  ·rw [if_pos hi,List.map_cons] at hU
   rw [eachL,if_pos hi,← List.append_assoc] at hI
   refine ⟨k,rfl,hi,?_,Lib.hid ?_,Lib.hid hI⟩
   ·unfold rd_T65
    rw [Int.toNat_natCast,List.getD_eq_getElem?_getD,← List.head?_drop,hU]
    rfl
   ·rw [List.drop_add_one_eq_tail_drop,hU];rfl
  ·rw [if_neg hi] at hU;have h2 := congrArg List.length hU;rw [List.length_drop] at h2;simp at h2;omega
/-- The bytes of the changed text. -/
def eachT (s : ByteArray) (F : Int → Int → Int) : List Int := eachL s F s.size 0
set_option maxRecDepth 100000 in
set_option maxHeartbeats 4000000 in
theorem each_any (s : ByteArray) (g : Nat) (lb : Array Value) (F : Int → Int → Int) (w : World) (hs : s.size ≤ 1099511627776) (hT : Lib.Utf8Tabs 1 2 w)
  (eg : ∀ args w,(callFunc g args).run Tryd.prog w = .ok (.enter g args) w)
  (hone : ∀ (W : World) (at_ : Nat) (c : Int),at_ < s.size → Below w.heap.size w W → Calls Tryd.prog g (#[.int .i64 (at_ : Int),.int .i32 c] ++ lb) W fun e w' => e = .returned (.int .i32 (F (at_ : Int) c)) ∧ Below W.heap.size W w') :
  Calls Tryd.prog 25 #[.string s,.func (.func g) #[] lb] w fun e w' => e = .returned (.string (strOfNums (eachT s F))) ∧ Below w.heap.size w w' := by
 have hu : unit_Units.f s = some (unitsL s) := by unfold unit_Units.f;rw [if_pos (by omega)]
 obtain ⟨i5,hi5,hz0,hz1,hz2⟩ := info_parts info5
 obtain ⟨w1,hmk,hown0,hg0⟩ := run_make_own (P := Tryd.prog) w w.heap.size 81 5 i5 (.int .u8 0) 1 Tryd.underlying81 hi5 hz0 hz1 .i64 .i64 s.size (by rw [hz2];omega) (by unfold maxLen;omega) (Nat.le_refl _)
 have hb1 : Below w.heap.size w w1 := (Below.refl _ w).grown hg0 (Nat.le_refl _) (fun k e => by cases e)
 have hT1 := tabs_below hT hb1
 go_enter Tryd.func25,Tryd.ntmps25
 go_wp2_with (go_at_call 59;refine (unit_Units.calls s (unitsL s) w1 hT1 hu).mono ?_;rintro e w2 ⟨v0,rfl,hR,hb2⟩;obtain ⟨A,c,rfl,hcl,hC⟩ := Kd.R_reads hR)
 have hbw2 : Below w.heap.size w w2 := hb1.trans (hb2.mono hb1.size)
 have hn : (unitsL s).length ≤ s.size := by rw [unitsL_len];exact walkL_length s s.size 0
 have hown2 : w2.ownsRow w.heap.size 5 1 (.slice (some ⟨w.heap.size,0,none⟩) 0 s.size) ([] : List Int).length (nums .u8 []) := pw_own_below hown0 hb2
 have hR2 := Kd.R_lower hR hb1.size
 clear hR hown0 hmk hg0 hb1 hb2 hT1 hC hu hi5 hz0 hz1 hz2
 have hI0 : Hid (eachT s F = [] ++ eachL s F s.size 0) := Lib.hid rfl
 have hU0 : Hid ((unitsL s).drop 0 = (walkL s s.size 0).map (·.2)) := Lib.hid rfl
 go_loopw [5,6,15] (fun v5 v6 v15 wr => ∃ (k i j : Nat) (acc : List Int),v6 = .int .i64 i ∧ v15 = .int .i64 j ∧ i ≤ s.size ∧ s.size ≤ i + k ∧ j ≤ (unitsL s).length ∧ Hid ((unitsL s).drop j = (walkL s k i).map (·.2)) ∧ Hid (eachT s F = acc ++ eachL s F k i) ∧ acc.length ≤ 4 * i ∧
   wr.ownsRow w.heap.size 5 1 v5 acc.length (nums .u8 acc) ∧ Kd.R k65 65 wr w.heap.size (fun _ => True) (.slice A (unitsL s).length c) (unitsL s) ∧ Below w.heap.size w wr)
  (fun _ _ v _ => (unitsL s).length - (intOf v).toNat)
 case atStart => exact ⟨s.size,0,0,[],rfl,rfl,Nat.zero_le _,by omega,Nat.zero_le _,hU0,hI0,Nat.zero_le _,hown2,hR2,hbw2⟩
 case round =>
  obtain ⟨k,i,j,acc,rfl,rfl,hi,hk,hj,hU,hI,hacc,hown,hR,hb⟩ := hrel
  clear hI0 hU0 hown2 hR2 hbw2
  by_cases hlt : j < (unitsL s).length
  ·obtain ⟨k,rfl,hiS,hrd,hU2,hI2⟩ := each_round s F k i j acc hk hlt hU.out hI.out
   obtain ⟨A',c',e',_,hC⟩ := Kd.R_reads hR
   obtain ⟨rfl,_,rfl⟩ : A = A' ∧ (unitsL s).length = (unitsL s).length ∧ c = c' := by injection e' with e1 e2 e3;exact ⟨e1,e2,e3⟩
   obtain ⟨ad,rfl,ca0,ca1⟩ := at_T65 hC (j : Int) (by omega) (by omega)
   rw [hrd] at ca0 ca1
   obtain ⟨ch,hch⟩ : ∃ x,uC s i = x := ⟨_,rfl⟩
   obtain ⟨m,hm⟩ : ∃ x,uN s i = x := ⟨_,rfl⟩
   have hm1 : 1 ≤ m := hm ▸ uN_pos s i
   have hm2 : i + m ≤ s.size := hm ▸ uN_le s i hiS
   have hlen := eachU_len s F i hiS
   have e1 : (uAt s i).f0 = ch := hch
   have e2 : (uAt s i).f1 = (m : Int) := by rw [← hm];rfl
   rw [e1] at ca0
   rw [e2] at ca1
   rw [hm] at hU2 hI2 hlen
   simp only [Int.toNat_natCast] at ca0 ca1
   clear hU hI hrd e1 e2
   have hjlt : (j : Int) < ((unitsL s).length : Int) := by omega
   have hu42 := Tryd.underlying65
   have hw1 : IntKind.i64.wrap ((i : Int) + (m : Int)) = ((i + m : Nat) : Int) := (i64_w _).trans (by unfold wrap64;omega)
   have hw2 : IntKind.i64.wrap ((j : Int) + 1) = ((j + 1 : Nat) : Int) := (i64_w _).trans (by unfold wrap64;omega)
   obtain ⟨U,hUe⟩ : ∃ U,eachU s F i = U := ⟨_,rfl⟩
   have hB0 : Below w.heap.size w (wr.alloc (.cells #[.int .i32 ch,.int .i64 m] 65)) := hb.alloc hb.size _
   have hbx : (wr.alloc (.cells #[.int .i32 ch,.int .i64 m] 65)).heap[wr.heap.size]? = some (.cells #[.int .i32 ch,.int .i64 m] 65 (0,0)) := World.alloc_heap_new _ _
   have hownA := own_alloc hown (.cells #[.int .i32 ch,.int .i64 m] 65)
   have hRA := Kd.R_alloc hR (.cells #[.int .i32 ch,.int .i64 m] 65)
   by_cases hneg : ch < 0
   ·have hUb : Hid (bytesOf (s.extract i (i + m)) = U) := Lib.hid (by rw [← hUe];unfold eachU;rw [hch,if_pos hneg,hm])
    rw [hUe] at hI2 hlen
    have hsz : (s.extract i (i + m)).size = m := by rw [size_extract _ _ _ hm2];omega
    clear hUe hch hm
    go_wp2_with (at_builtin;refine print_append_str (w0 := w) w.heap.size rfl (.tmp 22) _ 81 9 5 rfl Tryd.underlying81 Tryd.underlying9 info5 u5 acc (s.extract i (i + m)) rfl rfl hownA hB0 hB0.size (by rw [hsz];omega) ?_;rw [hUb.out];intro v9 w9 ho9 hb9 hg9;have hR9 := units_kept hownA hRA hg9;have hc9 := unit_box_kept hownA hbx hg9)
    go_roundw
    case rel => exact ⟨k,i + m,j + 1,acc ++ U,by go_num,by go_num,hm2,by omega,by omega,hU2,hI2,by rw [List.length_append];omega,ho9,hR9,hb9⟩
    case measure => (try clear hw1);(try clear hw2);simp [intOf];omega
   ·have hUb : Hid (encO (F i ch) = U) := Lib.hid (by rw [← hUe];unfold eachU;rw [hch,if_neg hneg])
    rw [hUe] at hI2 hlen
    clear hUe hch hm
    have hone1 := hone _ i ch hiS hB0
    obtain ⟨fc,hfc⟩ : ∃ x,F i ch = x := ⟨_,rfl⟩
    rw [hfc] at hUb hone1
    clear hfc
    have hkE : Hid (∃ k,unit_Encode.f k [fc] = some (strOfNums U)) := Lib.hid (by
     have := Ev.rounds (encode_ans [fc] (by simp))
     rw [List.flatMap_cons,List.flatMap_nil,List.append_nil,hUb.out] at this
     exact this)
    obtain ⟨kE,hkE⟩ := hkE.out
    have hkE := Lib.hid hkE
    have hUs : Hid (bytesOf (strOfNums U) = U) := Lib.hid (by rw [← hUb.out];exact bytesOf_str _ (encO_byte fc))
    have hsz : (strOfNums U).size = U.length := by rw [← bytesOf_length,hUs.out]
    have hneg' : ¬ (ch < 0) := hneg
    go_wp2_with (fail)
    refine hone1.mono ?_
    rintro e w3 ⟨rfl,hb3⟩
    have hB3 : Below w.heap.size w w3 := hB0.trans (hb3.mono hB0.size)
    have hown3 := pw_own_below hownA hb3
    have hR3 := Kd.R_below hRA hb3
    have hbx3 : w3.heap[wr.heap.size]? = some (.cells #[.int .i32 ch,.int .i64 m] 65 (0,0)) := (hb3.block _ (Array.getElem?_eq_some_iff.1 hbx).1).trans hbx
    have hC3 := lit_one w3 fc
    clear hone1 hownA hRA hbx
    go_wp2_with (first | (go_at_call 60;refine (unit_Encode.calls kE (some ⟨w3.heap.size,0,none⟩) 1 [fc] (strOfNums U) _ hC3 (Nat.le_refl _) hkE.out).mono ?_;rintro e w4 ⟨rfl,hb4⟩;have hb34 : Below w3.heap.size w3 w4 := ((Below.refl _ w3).alloc (Nat.le_refl _) _).trans (hb4.mono (by simp));have hB4 : Below w.heap.size w w4 := hB3.trans (hb34.mono hB3.size);have hown4 := pw_own_below hown3 hb34;have hR4 := Kd.R_below hR3 hb34;have hbx4 : w4.heap[wr.heap.size]? = some (.cells #[.int .i32 ch,.int .i64 m] 65 (0,0)) := (hb34.block _ (Array.getElem?_eq_some_iff.1 hbx3).1).trans hbx3) | (at_builtin;refine print_append_str (w0 := w) w.heap.size rfl (.tmp 31) _ 81 9 5 rfl Tryd.underlying81 Tryd.underlying9 info5 u5 acc (strOfNums U) rfl rfl hown4 hB4 hB4.size (by rw [hsz];omega) ?_;rw [hUs.out];intro v9 w9 ho9 hb9 hg9;have hR9 := units_kept hown4 hR4 hg9;have hc9 := unit_box_kept hown4 hbx4 hg9))
    go_roundw
    case rel => exact ⟨k,i + m,j + 1,acc ++ U,by go_num,by go_num,hm2,by omega,by omega,hU2,hI2,by rw [List.length_append];omega,ho9,hR9,hb9⟩
    case measure => (try clear hw1);(try clear hw2);simp [intOf];omega
  ·have hge : ¬ ((j : Int) < ((unitsL s).length : Int)) := by omega
   have hend : eachT s F = acc := by
    have h1 := hI.out
    have h2 := hU.out
    rw [List.drop_eq_nil_of_le (by omega)] at h2
    have h3 : ¬ i < s.size := fun h => by
     cases k with
     | zero => omega
     | succ k => rw [walkL,if_pos h] at h2;cases h2
    rw [h1,eachL_end s F k i h3,List.append_nil]
   clear hI hU
   have hend := Lib.hid hend
   have hcv := own_string (P := Tryd.prog) Tryd.underlying81 Tryd.underlying5 Tryd.underlying9 hown
   go_wp2
   go_ret
   exact ⟨by first | rfl | (rw [hend.out];rfl),hb⟩
def upF (_ c : Int) : Int := upC c
def lowF (_ c : Int) : Int := lowC c
set_option maxRecDepth 100000 in
set_option maxHeartbeats 4000000 in
theorem upper1_calls (W : World) (at_ c : Int) : Calls Tryd.prog 26 (#[.int .i64 at_,.int .i32 c] ++ #[]) W fun e w' => e = .returned (.int .i32 (upF at_ c)) ∧ Below W.heap.size W w' := by
 show Calls Tryd.prog 26 #[.int .i64 at_,.int .i32 c] W _
 unfold upF
 go_enter Tryd.func26,Tryd.ntmps26
 go_wp2_with (go_at_call 27;refine (word_UpperOf.calls 7 c (upC c) _ (upper7 c)).mono ?_;rintro e w1 ⟨rfl,q,rfl⟩)
 go_ret
 exact ⟨rfl,pw_below_drewN (Below.refl _ _) _⟩
set_option maxRecDepth 100000 in
set_option maxHeartbeats 4000000 in
theorem lower1_calls (W : World) (at_ c : Int) : Calls Tryd.prog 28 (#[.int .i64 at_,.int .i32 c] ++ #[]) W fun e w' => e = .returned (.int .i32 (lowF at_ c)) ∧ Below W.heap.size W w' := by
 show Calls Tryd.prog 28 #[.int .i64 at_,.int .i32 c] W _
 unfold lowF
 go_enter Tryd.func28,Tryd.ntmps28
 go_wp2_with (go_at_call 29;refine (word_LowerOf.calls c (lowC c) _ rfl).mono ?_;rintro e w1 ⟨rfl,hb1⟩)
 go_ret
 exact ⟨rfl,hb1⟩
def word_Upper.f (a0 : ByteArray) : Option ByteArray := if a0.size ≤ 1099511627776 then some (strOfNums (eachT a0 upF)) else none
def word_Lower.f (a0 : ByteArray) : Option ByteArray := if a0.size ≤ 1099511627776 then some (strOfNums (eachT a0 lowF)) else none
set_option maxRecDepth 100000 in
set_option maxHeartbeats 4000000 in
theorem word_Upper.calls (a0 : ByteArray) (r : ByteArray) (w : World) (hT : Lib.Utf8Tabs 1 2 w) (h : word_Upper.f a0 = some r) :
  Calls Tryd.prog 10 #[.string a0] w fun e w' => e = .returned (.string r) ∧ Below w.heap.size w w' := by
 unfold word_Upper.f at h
 split at h
 ·obtain rfl := Option.some.inj h
  rename_i hs
  have he := each_any a0 26 #[] upF w hs hT (enters_of Tryd.func26 (by kernel_rfl) rfl) (fun W at_ c _ _ => upper1_calls W at_ c)
  go_enter Tryd.func10,Tryd.ntmps10
  go_wp2_with (go_at_call 25;refine he.mono ?_;rintro e w1 ⟨rfl,hb1⟩)
  go_ret
  exact ⟨rfl,hb1⟩
 ·cases h
set_option maxRecDepth 100000 in
set_option maxHeartbeats 4000000 in
theorem word_Lower.calls (a0 : ByteArray) (r : ByteArray) (w : World) (hT : Lib.Utf8Tabs 1 2 w) (h : word_Lower.f a0 = some r) :
  Calls Tryd.prog 11 #[.string a0] w fun e w' => e = .returned (.string r) ∧ Below w.heap.size w w' := by
 unfold word_Lower.f at h
 split at h
 ·obtain rfl := Option.some.inj h
  rename_i hs
  have he := each_any a0 28 #[] lowF w hs hT (enters_of Tryd.func28 (by kernel_rfl) rfl) (fun W at_ c _ _ => lower1_calls W at_ c)
  go_enter Tryd.func11,Tryd.ntmps11
  go_wp2_with (go_at_call 25;refine he.mono ?_;rintro e w1 ⟨rfl,hb1⟩)
  go_ret
  exact ⟨rfl,hb1⟩
 ·cases h
end Go.Proofs.YtfmnmjoofnbnfaaDoor.U
end
section
namespace Go.Proofs.YtfmnmjoofnbnfaaDoor.U
open Go.RowKit Go.Shelf Go.Proofs.YtfmnmjoofnbnfaaDoor.Mu Go.Proofs.YtfmnmjoofnbnfaaDoor.Pu Go.Proofs.YtfmnmjoofnbnfaaDoor.Rg Go.Proofs.YtfmnmjoofnbnfaaDoorW.PrintWords Go.Proofs.YtfmnmjoofnbnfaaDoorW.PrintLast Go.Proofs.YtfmnmjoofnbnfaaDoorW.PrintMore
set_option linter.unusedVariables false
set_option linter.unusedSimpArgs false
/-- So many steps;no more,where one leads nowhere else. -/
def againN (F : Int → Int) : Nat → Int → Int
 | 0,x => x
 | n + 1,x => if F x = x then x else againN F n (F x)
theorem work_cells {W : World} {b : Nat} {text : ByteArray} {at0 region count : Int} (h : W.heap[b]? = some (.cells #[.string text,.int .i64 at0,.int .i64 region,.int .i64 count] 52 (0,0))) :
  W.cell? ⟨b,0,none⟩ = some (.string text) ∧ W.cell? ⟨b,1,none⟩ = some (.int .i64 at0) ∧ W.cell? ⟨b,2,none⟩ = some (.int .i64 region) ∧ W.cell? ⟨b,3,none⟩ = some (.int .i64 count) := by
 refine ⟨?_,?_,?_,?_⟩ <;> simp [World.cell?,h]
theorem work_kept {W w' : World} {b : Nat} {o : Obj} (h : W.heap[b]? = some o) (hb : Below W.heap.size W w') : w'.heap[b]? = some o := (hb.block _ (Array.getElem?_eq_some_iff.1 h).1).trans h
set_option maxRecDepth 100000 in
set_option maxHeartbeats 4000000 in
theorem again_any (text : ByteArray) (at0 region : Int) (n : Nat) (hn : n ≤ 1000) (g : Nat) (F : Int → Int) (I : Int → Prop) (x0 : Int) (w : World) (h0 : I x0) (hI : ∀ x,I x → I (F x))
  (eg : ∀ args w,(callFunc g args).run Tryd.prog w = .ok (.enter g args) w)
  (hstep : ∀ (W : World) (x : Int),I x → Below w.heap.size w W → Calls Tryd.prog g #[.string text,.int .i64 x] W fun e w' => e = .returned (.int .i64 (F x)) ∧ Below W.heap.size W w') :
  Calls Tryd.prog 39 #[.agg #[.string text,.int .i64 at0,.int .i64 region,.int .i64 n],.int .i64 x0,.func (.func g) #[] #[]] w fun e w' => e = .returned (.int .i64 (againN F n x0)) ∧ Below w.heap.size w w' := by
 have hu := Tryd.underlying52
 have hb1 : Below w.heap.size w (w.alloc (.cells #[.string text,.int .i64 at0,.int .i64 region,.int .i64 n] 52)) := (Below.refl _ w).alloc (Nat.le_refl _) _
 have hbx : (w.alloc (.cells #[.string text,.int .i64 at0,.int .i64 region,.int .i64 n] 52)).heap[w.heap.size]? = some (.cells #[.string text,.int .i64 at0,.int .i64 region,.int .i64 n] 52 (0,0)) := World.alloc_heap_new _ _
 have hc3 := (work_cells hbx).2.2.2
 have hA0 : Hid (againN F n x0 = againN F (n - 0) x0) := Lib.hid rfl
 go_enter Tryd.func39,Tryd.ntmps39
 go_wp2
 go_loopw [1,7,10] (fun v1 v7 v10 wr => ∃ (x : Int) (i : Nat),v1 = .int .i64 x ∧ v10 = .int .i64 i ∧ i ≤ n ∧ I x ∧ Hid (againN F n x0 = againN F (n - i) x) ∧
   wr.heap[w.heap.size]? = some (.cells #[.string text,.int .i64 at0,.int .i64 region,.int .i64 n] 52 (0,0)) ∧ Below w.heap.size w wr)
  (fun _ _ v _ => n - (intOf v).toNat)
 case atStart => exact ⟨x0,0,rfl,rfl,Nat.zero_le _,h0,hA0,hbx,hb1⟩
 case round =>
  obtain ⟨x,i,rfl,rfl,hi,hx,hA,hB,hb⟩ := hrel
  clear hA0 hbx hb1 hc3
  by_cases hlt : i < n
  ·have hlt' : (i : Int) < (n : Int) := by omega
   have hA := Lib.hid (hA.out.trans (by rw [show n - i = (n - (i + 1)) + 1 by omega,againN]))
   have hc0 := (work_cells hB).1
   have hs1 := hstep _ x hx hb
   have hFx := hI x hx
   have hw2 : IntKind.i64.wrap ((i : Int) + 1) = ((i + 1 : Nat) : Int) := (i64_w _).trans (by unfold wrap64;omega)
   by_cases he : F x = x
   ·have hA := Lib.hid (hA.out.trans (if_pos he))
    obtain ⟨y,hy⟩ : ∃ y,F x = y := ⟨_,rfl⟩
    rw [hy] at he hs1
    subst he
    clear hy hFx
    go_wp2_with (fail)
    refine hs1.mono ?_
    rintro e w3 ⟨rfl,hb3⟩
    clear hs1
    have hb' := hb.trans (hb3.mono hb.size)
    go_wp2
    go_ret
    exact ⟨by rw [hA.out];rfl,hb'⟩
   ·have hA := Lib.hid (hA.out.trans (if_neg he))
    obtain ⟨y,hy⟩ : ∃ y,F x = y := ⟨_,rfl⟩
    rw [hy] at he hs1 hA hFx
    clear hy
    have he' : (y == x) = false := beq_eq_false_iff_ne.mpr he
    go_wp2_with (fail)
    refine hs1.mono ?_
    rintro e w3 ⟨rfl,hb3⟩
    clear hs1
    have hb' := hb.trans (hb3.mono hb.size)
    have hB' := work_kept hB hb3
    go_wp2
    go_roundw
    case rel => exact ⟨y,i + 1,by go_num,by go_num,by omega,hFx,hA,hB',hb'⟩
    case measure => (try clear hw2);simp [intOf];omega
  ·have hge : ¬ ((i : Int) < (n : Int)) := by omega
   have hA := Lib.hid (hA.out.trans (by rw [show n - i = 0 by omega,againN]))
   go_wp2
   go_ret
   exact ⟨by rw [hA.out];rfl,hb⟩
def fnV (g : Nat) : Value := .func (.func g) #[] #[]
def ptV (b : Nat) : Value := .pointer (some ⟨b,0,none⟩)
theorem al_kept {W : World} {b : Nat} {x : Obj} (h : W.heap[b]? = some x) (o : Obj) : (W.alloc o).heap[b]? = some x := work_kept h ((Below.refl _ W).alloc (Nat.le_refl _) _)
theorem al_next (W : World) (o x : Obj) : ((W.alloc o).alloc x).heap[W.heap.size + 1]? = some x := by
 have h := World.alloc_heap_new (W.alloc o) x
 rwa [World.size_alloc] at h
theorem al_four (W : World) (o0 o1 o2 o3 : Obj) :
  ((((W.alloc o0).alloc o1).alloc o2).alloc o3).heap[W.heap.size]? = some o0 ∧ ((((W.alloc o0).alloc o1).alloc o2).alloc o3).heap[W.heap.size + 1]? = some o1 ∧ ((((W.alloc o0).alloc o1).alloc o2).alloc o3).heap[W.heap.size + 2]? = some o2 ∧
   ((((W.alloc o0).alloc o1).alloc o2).alloc o3).heap[W.heap.size + 3]? = some o3 ∧ Below W.heap.size W ((((W.alloc o0).alloc o1).alloc o2).alloc o3) := by
 have h2 := al_next (W.alloc o0) o1 o2
 have h3 := al_next ((W.alloc o0).alloc o1) o2 o3
 rw [World.size_alloc] at h2 h3
 rw [World.size_alloc] at h3
 exact ⟨al_kept (al_kept (al_kept (World.alloc_heap_new W o0) _) _) _,al_kept (al_kept (al_next W o0 o1) _) _,al_kept h2 _,h3,
  ((((Below.refl _ W).alloc (Nat.le_refl _) _).alloc (by rw [World.size_alloc];omega) _).alloc (by rw [World.size_alloc,World.size_alloc];omega) _).alloc (by rw [World.size_alloc,World.size_alloc,World.size_alloc];omega) _⟩
set_option maxRecDepth 100000 in
theorem cutmk_calls (g0 g1 : Nat) (k f : Bool) (W : World) :
  Calls Tryd.prog 45 #[.func (.func g0) #[] #[],.func (.func g1) #[] #[],.bool k,.bool f] W fun e w' => e = .returned (.func (.func 46) #[] #[ptV W.heap.size,ptV (W.heap.size + 1),ptV (W.heap.size + 2),ptV (W.heap.size + 3)]) ∧
   w'.heap[W.heap.size]? = some (.cells #[fnV g0] 77 (0,0)) ∧ w'.heap[W.heap.size + 1]? = some (.cells #[fnV g1] 77 (0,0)) ∧ w'.heap[W.heap.size + 2]? = some (.cells #[.bool k] 4 (0,0)) ∧ w'.heap[W.heap.size + 3]? = some (.cells #[.bool f] 4 (0,0)) ∧ Below W.heap.size W w' := by
 go_enter Tryd.func45,Tryd.ntmps45
 go_wp2
 go_ret
 exact ⟨rfl,al_four W _ _ _ _⟩
set_option maxRecDepth 100000 in
theorem casemk_calls (g ba : Nat) (W : World) :
  Calls Tryd.prog 43 #[.func (.func g) #[] #[],.pointer (some ⟨ba,0,none⟩)] W fun e w' => e = .returned (.func (.func 44) #[] #[ptV ba,ptV W.heap.size]) ∧
   w'.heap[W.heap.size]? = some (.cells #[fnV g] 37 (0,0)) ∧ Below W.heap.size W w' := by
 go_enter Tryd.func43,Tryd.ntmps43
 go_wp2
 go_ret
 exact ⟨rfl,World.alloc_heap_new _ _,(Below.refl _ W).alloc (Nat.le_refl _) _⟩
end Go.Proofs.YtfmnmjoofnbnfaaDoor.U
end
section
namespace Go.Proofs.YtfmnmjoofnbnfaaDoor.U
open Go.RowKit Go.Proofs.YtfmnmjoofnbnfaaDoorW.PrintWords Go.Proofs.YtfmnmjoofnbnfaaDoorW.PrintLast Go.Proofs.YtfmnmjoofnbnfaaDoorW.PrintMore
attribute [local go_sem] max2_int min2_int max_two min_two max_three min_three max_four min_four   -- for this text's walks alone
set_option linter.unusedVariables false
set_option linter.unusedSimpArgs false
def word_Ahead.l0 : Nat → ByteArray → Int → List (S63) → Int → Int → Option (Int)
 | 0,_,_,_,_,_ => none
 | k + 1,x0,x1,x13,x14,x15 => if x15 < x14 then (if 0 ≤ x15 then (if x15 < (x13.length : Int) then (if ((rd_T63 x13 x15).f1) > x1 then (some ((rd_T63 x13 x15).f1)) else (word_Ahead.l0 k x0 x1 x13 x14 (wrap64 (x15 + 1)))) else (none)) else (none)) else (some (x0.size : Int))
def word_Ahead.f (k : Nat) (a0 : ByteArray) (a1 : Int) : Option (Int) := (word_Spans.f a0).bind fun t389 => (word_Ahead.l0 k a0 (mn (mx a1 0) (a0.size : Int)) t389 (t389.length : Int) 0)
set_option maxHeartbeats 8000000 in
set_option maxRecDepth 100000 in
theorem word_Ahead.calls (k : Nat) (a0 : ByteArray) (a1 : Int) (r : Int) (w : World) (hT : Lib.Utf8Tabs 1 2 w) (h : word_Ahead.f k a0 a1 = some r) :
  Calls Tryd.prog 40 #[.string a0,.int .i64 a1] w fun e w' => e = .returned (.int .i64 r) ∧ Below w.heap.size w w' := by
 have hu63 := Tryd.underlying63
 have HT := Aside0.mk hT
 clear hT
 have HB := Aside0.mk (Below.refl w.heap.size w)
 have H : ((word_Spans.f a0).bind fun t389 => (word_Ahead.l0 k a0 (mn (mx a1 0) (a0.size : Int)) t389 (t389.length : Int) 0)) = some r := h
 clear h
 obtain ⟨ji3,hji3⟩ : ∃ j_ : Int,(mx a1 0) = j_ := ⟨_,rfl⟩
 replace H : ((word_Spans.f a0).bind fun t389 => (word_Ahead.l0 k a0 (mn (ji3) (a0.size : Int)) t389 (t389.length : Int) 0)) = some r := by first | (rw [hji3] at H;exact H) | (simp only [hji3] at H ⊢;exact H)
 (try (have hji3l : 0 ≤ ji3 := by (rw [← hji3];unfold mx;(repeat' split) <;> omega)))
 (try (have hji3m : 0 ≤ ji3 := by omega))
 have hji3_ : (if a1 < 0 then 0 else a1) = ji3 := hji3
 obtain ⟨ji4,hji4⟩ : ∃ j_ : Int,(mn (ji3) (a0.size : Int)) = j_ := ⟨_,rfl⟩
 replace H : ((word_Spans.f a0).bind fun t389 => (word_Ahead.l0 k a0 ji4 t389 (t389.length : Int) 0)) = some r := by first | (rw [hji4] at H;exact H) | (simp only [hji4] at H ⊢;exact H)
 have hji4_ : (if (a0.size : Int) < (ji3) then (a0.size : Int) else (ji3)) = ji4 := hji4
 replace H := Option.bind_eq_some_iff.mp H
 obtain ⟨t389,A50,H⟩ := H
 replace H : (word_Ahead.l0 k a0 ji4 t389 (t389.length : Int) 0) = some r := H
 have A5 := Aside0.mk A50
 clear A50
 have H' := Aside0.mk H
 clear H
 go_enter Tryd.func40,Tryd.ntmps40
 go_wp2_with (first | ((with_reducible refine gate_callee (f := 19) rfl ?_);refine goesL_ (some 13) rfl rfl Tryd.func19 (by kernel_rfl) rfl #[.string a0] rfl au1 ?_;(with_reducible refine (word_Spans.calls a0 t389 _ ?side1 A5.out).mono ?_);(case side1 => exact tabs_below HT.out au0);rintro e w6 ⟨v390,rfl,ho0,hb⟩;refine ⟨_,rfl,?_⟩;have n0_ := Aside0.mk (Kd.R_lower ho0 (below_size au0));have n1_ := Aside0.mk (below_step au0 hb);clear HB;have HO391 := n0_;have HB := n1_;clear n0_ n1_;(try clear hb);(try clear hb2);(try clear hk);(try clear hi);(try clear ho0);obtain ⟨Ao7,co7,eo7⟩ := Kd.R_slice HO391.out;subst eo7))
 go_loopg [15] k (fun kq v15 w' => ∃ (x15_1 : Int),v15 = .int .i64 x15_1 ∧ Aside0 (word_Ahead.l0 kq a0 ji4 t389 (t389.length : Int) x15_1 = some r) ∧ Aside0 (kq ≤ k) ∧ Aside0 (Kd.R k63 63 w' w.heap.size (fun _ => True) (.slice Ao7 t389.length co7) t389) ∧ Aside0 (Below w.heap.size w w'))
 case atStart => exact ⟨(0),au8,H',⟨Nat.le_refl _⟩,⟨by (with_reducible repeat (first | apply Kd.R_alloc | apply Kd.R_drewN | apply Kd.R_drew));exact HO391.out⟩,⟨au0⟩⟩
 case round =>
  clear H'
  try clear c1
  try clear p2
  try clear c4
  obtain ⟨x15_1,rfl,HA,HK1,HO_13,HB⟩ := hrel
  cases gk with
  | zero => exact absurd HA.out (by simp [word_Ahead.l0])
  | succ k1 =>
   have H := HA.out
   clear HA
   simp only [word_Ahead.l0] at H
   by_cases c8 : x15_1 < (t389.length : Int)
   ·rw [if_pos c8] at H
    have c8b0 : decide (x15_1 < (t389.length : Int)) = true := decide_eq_true c8
    clear c8
    by_cases c9 : 0 ≤ x15_1
    ·rw [if_pos c9] at H
     have c9b0 : decide (0 ≤ x15_1) = true := decide_eq_true c9
     clear c9
     by_cases c10 : x15_1 < (t389.length : Int)
     ·rw [if_pos c10] at H
      have c10b0 : decide (x15_1 < (t389.length : Int)) = true := decide_eq_true c10
      clear c10
      by_cases c11 : ((rd_T63 t389 x15_1).f1) > ji4
      ·rw [if_pos c11] at H
       have c11b0 : decide (ji4 < ((rd_T63 t389 x15_1).f1)) = true := decide_eq_true c11
       clear c11
       obtain rfl := Option.some.inj H
       have p392 : 0 ≤ (x15_1 : Int) := of_decide_eq_true au18
       have q392 : x15_1 < (t389.length : Int) := of_decide_eq_true au18
       obtain ⟨ad392,e392,hx392_0,hx392_1⟩ := at_T63 (Kd.R_reads' HO_13.out).2.2 x15_1 p392 q392
       cases e392
       replace p392 := eq_true p392
       replace q392 := eq_true q392
       go_wp2_with (first | ((with_reducible refine gate_dst (N := 6) rfl ?_);refine box_event ?hg (N := 6) ?hd (cs := #[.int .i64 0,.int .i64 0]) (t := 63) ?hr ?_;(case hd => rfl);(case hg => rfl);(case hr => first | (go_simp;done) | (go_simp;rfl));intro gb393 hg w12 hbox hb;have n0_ := Aside0.mk (Kd.R_below (Kd.R_elderB (by (with_reducible repeat (first | apply Kd.R_alloc | apply Kd.R_drewN | apply Kd.R_drew));exact HO_13.out) gb393 (Nat.le_of_eq hg.symm)) hb);have n1_ := Aside0.mk (below_step au0 hb);have n2_ := Aside0.mk (hbox);have n3_ := Aside0.mk ((by rw [hg];exact (below_size au0) : w.heap.size ≤ gb393));have n4_ := Aside0.mk ((by rw [hg];exact (below_size au0) : w.heap.size ≤ gb393));clear HO_13;clear HB;have HO_13 := n0_;have HB := n1_;have BK393 := n2_;have GW393 := n3_;have GE393 := n4_;clear n0_ n1_ n2_ n3_ n4_;clear hb hbox hg;have hcz13_0 : w12.cell? ⟨gb393,0,none⟩ = some (.int .i64 0) := (blk_cell BK393.out 0).trans rfl;have hcz13_1 : w12.cell? ⟨gb393,1,none⟩ = some (.int .i64 0) := (blk_cell BK393.out 1).trans rfl;have hfz13_0 := blk_frozen BK393.out 0;have hfz13_1 := blk_frozen BK393.out 1))
       go_ret
       exact ⟨by first | rfl | (simp [errW_none,errW_some] <;> rfl) | (simp only [← hji3,← hji4];first | rfl | (simp [errW_none,errW_some] <;> rfl)) | (simp [*,errW_none,errW_some] <;> rfl),by repeat (first | (with_reducible first | exact HB.out | apply below_alloc | apply pw_below_drewN | apply below_drew1 | refine below_set ?_ GE393.out) | exact HB.out)⟩
      ·rw [if_neg c11] at H
       have c11b0 : decide (ji4 < ((rd_T63 t389 x15_1).f1)) = false := decide_eq_false c11
       clear c11
       have H' := Aside0.mk H
       clear H
       have p392 : 0 ≤ (x15_1 : Int) := of_decide_eq_true au18
       have q392 : x15_1 < (t389.length : Int) := of_decide_eq_true au18
       obtain ⟨ad392,e392,hx392_0,hx392_1⟩ := at_T63 (Kd.R_reads' HO_13.out).2.2 x15_1 p392 q392
       cases e392
       replace p392 := eq_true p392
       replace q392 := eq_true q392
       go_wp2_with (first | ((with_reducible refine gate_dst (N := 6) rfl ?_);refine box_event ?hg (N := 6) ?hd (cs := #[.int .i64 0,.int .i64 0]) (t := 63) ?hr ?_;(case hd => rfl);(case hg => rfl);(case hr => first | (go_simp;done) | (go_simp;rfl));intro gb393 hg w14 hbox hb;have n0_ := Aside0.mk (Kd.R_below (Kd.R_elderB (by (with_reducible repeat (first | apply Kd.R_alloc | apply Kd.R_drewN | apply Kd.R_drew));exact HO_13.out) gb393 (Nat.le_of_eq hg.symm)) hb);have n1_ := Aside0.mk (below_step au0 hb);have n2_ := Aside0.mk (hbox);have n3_ := Aside0.mk ((by rw [hg];exact (below_size au0) : w.heap.size ≤ gb393));have n4_ := Aside0.mk ((by rw [hg];exact (below_size au0) : w.heap.size ≤ gb393));clear HO_13;clear HB;have HO_13 := n0_;have HB := n1_;have BK393 := n2_;have GW393 := n3_;have GE393 := n4_;clear n0_ n1_ n2_ n3_ n4_;clear hb hbox hg;have hcz15_0 : w14.cell? ⟨gb393,0,none⟩ = some (.int .i64 0) := (blk_cell BK393.out 0).trans rfl;have hcz15_1 : w14.cell? ⟨gb393,1,none⟩ = some (.int .i64 0) := (blk_cell BK393.out 1).trans rfl;have hfz15_0 := blk_frozen BK393.out 0;have hfz15_1 := blk_frozen BK393.out 1))
       go_roundg k1
       case measure => have := HK1.out;omega
       case rel => exact ⟨(wrap64 (x15_1 + 1)),au8,H',⟨by have := HK1.out;omega⟩,⟨by (with_reducible repeat (first | apply Kd.R_alloc | apply Kd.R_drewN | apply Kd.R_drew));exact Kd.R_mono (Kd.R_far (p := ⟨gb393,1,none⟩) (Kd.R_far (p := ⟨gb393,0,none⟩) (Kd.R_mono HO_13.out (fun k_ hk => (⟨hk,hk.2⟩ : _ ∧ k_ ≠ gb393))) (fun _ hk => hk.2) (.int .i64 ((rd_T63 t389 x15_1).f0))) (fun _ hk => hk.2) (.int .i64 ((rd_T63 t389 x15_1).f1))) (fun _ hk => trivial)⟩,⟨by repeat (first | (with_reducible first | exact HB.out | apply below_alloc | apply pw_below_drewN | apply below_drew1 | refine below_set ?_ GE393.out) | exact HB.out)⟩⟩
     ·rw [if_neg c10] at H
      exact absurd H (by simp)
    ·rw [if_neg c9] at H
     exact absurd H (by simp)
   ·rw [if_neg c8] at H
    have c8b0 : decide (x15_1 < (t389.length : Int)) = false := decide_eq_false c8
    clear c8
    obtain rfl := Option.some.inj H
    go_wp2
    go_ret
    exact ⟨by first | rfl | (simp [errW_none,errW_some] <;> rfl) | (simp only [← hji3,← hji4];first | rfl | (simp [errW_none,errW_some] <;> rfl)) | (simp [*,errW_none,errW_some] <;> rfl),au0⟩
end Go.Proofs.YtfmnmjoofnbnfaaDoor.U
end
section
namespace Go.Proofs.YtfmnmjoofnbnfaaDoor.U
open Go.RowKit Go.Proofs.YtfmnmjoofnbnfaaDoorW.PrintWords Go.Proofs.YtfmnmjoofnbnfaaDoorW.PrintLast Go.Proofs.YtfmnmjoofnbnfaaDoorW.PrintMore
attribute [local go_sem] max2_int min2_int max_two min_two max_three min_three max_four min_four   -- for this text's walks alone
set_option linter.unusedVariables false
set_option linter.unusedSimpArgs false
def word_Behind.l0 : Nat → Int → Int → List (S63) → Int → Int → Option (Int)
 | 0,_,_,_,_,_ => none
 | k + 1,x1,x5,x14,x15,x16 => if x16 < x15 then (if 0 ≤ x16 then (if x16 < (x14.length : Int) then (if ((rd_T63 x14 x16).f0) < x1 then (word_Behind.l0 k x1 ((rd_T63 x14 x16).f0) x14 x15 (wrap64 (x16 + 1))) else (word_Behind.l0 k x1 x5 x14 x15 (wrap64 (x16 + 1)))) else (none)) else (none)) else (some x5)
def word_Behind.f (k : Nat) (a0 : ByteArray) (a1 : Int) : Option (Int) := (word_Spans.f a0).bind fun t394 => (word_Behind.l0 k (mn (mx a1 0) (a0.size : Int)) 0 t394 (t394.length : Int) 0)
set_option maxHeartbeats 8000000 in
set_option maxRecDepth 100000 in
theorem word_Behind.calls (k : Nat) (a0 : ByteArray) (a1 : Int) (r : Int) (w : World) (hT : Lib.Utf8Tabs 1 2 w) (h : word_Behind.f k a0 a1 = some r) :
  Calls Tryd.prog 42 #[.string a0,.int .i64 a1] w fun e w' => e = .returned (.int .i64 r) ∧ Below w.heap.size w w' := by
 have hu63 := Tryd.underlying63
 have HT := Aside0.mk hT
 clear hT
 have HB := Aside0.mk (Below.refl w.heap.size w)
 have H : ((word_Spans.f a0).bind fun t394 => (word_Behind.l0 k (mn (mx a1 0) (a0.size : Int)) 0 t394 (t394.length : Int) 0)) = some r := h
 clear h
 obtain ⟨ji3,hji3⟩ : ∃ j_ : Int,(mx a1 0) = j_ := ⟨_,rfl⟩
 replace H : ((word_Spans.f a0).bind fun t394 => (word_Behind.l0 k (mn (ji3) (a0.size : Int)) 0 t394 (t394.length : Int) 0)) = some r := by first | (rw [hji3] at H;exact H) | (simp only [hji3] at H ⊢;exact H)
 (try (have hji3l : 0 ≤ ji3 := by (rw [← hji3];unfold mx;(repeat' split) <;> omega)))
 (try (have hji3m : 0 ≤ ji3 := by omega))
 have hji3_ : (if a1 < 0 then 0 else a1) = ji3 := hji3
 obtain ⟨ji4,hji4⟩ : ∃ j_ : Int,(mn (ji3) (a0.size : Int)) = j_ := ⟨_,rfl⟩
 replace H : ((word_Spans.f a0).bind fun t394 => (word_Behind.l0 k ji4 0 t394 (t394.length : Int) 0)) = some r := by first | (rw [hji4] at H;exact H) | (simp only [hji4] at H ⊢;exact H)
 have hji4_ : (if (a0.size : Int) < (ji3) then (a0.size : Int) else (ji3)) = ji4 := hji4
 replace H := Option.bind_eq_some_iff.mp H
 obtain ⟨t394,A50,H⟩ := H
 replace H : (word_Behind.l0 k ji4 0 t394 (t394.length : Int) 0) = some r := H
 have A5 := Aside0.mk A50
 clear A50
 have H' := Aside0.mk H
 clear H
 go_enter Tryd.func42,Tryd.ntmps42
 go_wp2_with (first | ((with_reducible refine gate_callee (f := 19) rfl ?_);refine goesL_ (some 14) rfl rfl Tryd.func19 (by kernel_rfl) rfl #[.string a0] rfl au1 ?_;(with_reducible refine (word_Spans.calls a0 t394 _ ?side1 A5.out).mono ?_);(case side1 => exact tabs_below HT.out au0);rintro e w6 ⟨v395,rfl,ho0,hb⟩;refine ⟨_,rfl,?_⟩;have n0_ := Aside0.mk (Kd.R_lower ho0 (below_size au0));have n1_ := Aside0.mk (below_step au0 hb);clear HB;have HO396 := n0_;have HB := n1_;clear n0_ n1_;(try clear hb);(try clear hb2);(try clear hk);(try clear hi);(try clear ho0);obtain ⟨Ao7,co7,eo7⟩ := Kd.R_slice HO396.out;subst eo7))
 go_loopg [5,16] k (fun kq v5 v16 w' => ∃ (x5_1 : Int) (x16_1 : Int),v5 = .int .i64 x5_1 ∧ v16 = .int .i64 x16_1 ∧ Aside0 (word_Behind.l0 kq ji4 x5_1 t394 (t394.length : Int) x16_1 = some r) ∧ Aside0 (kq ≤ k) ∧ Aside0 (Kd.R k63 63 w' w.heap.size (fun _ => True) (.slice Ao7 t394.length co7) t394) ∧ Aside0 (Below w.heap.size w w'))
 case atStart => exact ⟨(0),(0),au8,au8,H',⟨Nat.le_refl _⟩,⟨by (with_reducible repeat (first | apply Kd.R_alloc | apply Kd.R_drewN | apply Kd.R_drew));exact HO396.out⟩,⟨au0⟩⟩
 case round =>
  clear H'
  try clear c1
  try clear p2
  try clear c4
  obtain ⟨x5_1,x16_1,rfl,rfl,HA,HK1,HO_14,HB⟩ := hrel
  cases gk with
  | zero => exact absurd HA.out (by simp [word_Behind.l0])
  | succ k1 =>
   have H := HA.out
   clear HA
   simp only [word_Behind.l0] at H
   by_cases c8 : x16_1 < (t394.length : Int)
   ·rw [if_pos c8] at H
    have c8b0 : decide (x16_1 < (t394.length : Int)) = true := decide_eq_true c8
    clear c8
    by_cases c9 : 0 ≤ x16_1
    ·rw [if_pos c9] at H
     have c9b0 : decide (0 ≤ x16_1) = true := decide_eq_true c9
     clear c9
     by_cases c10 : x16_1 < (t394.length : Int)
     ·rw [if_pos c10] at H
      have c10b0 : decide (x16_1 < (t394.length : Int)) = true := decide_eq_true c10
      clear c10
      by_cases c11 : ((rd_T63 t394 x16_1).f0) < ji4
      ·rw [if_pos c11] at H
       have c11b0 : decide (((rd_T63 t394 x16_1).f0) < ji4) = true := decide_eq_true c11
       clear c11
       have H' := Aside0.mk H
       clear H
       have p397 : 0 ≤ (x16_1 : Int) := of_decide_eq_true au18
       have q397 : x16_1 < (t394.length : Int) := of_decide_eq_true au18
       obtain ⟨ad397,e397,hx397_0,hx397_1⟩ := at_T63 (Kd.R_reads' HO_14.out).2.2 x16_1 p397 q397
       cases e397
       replace p397 := eq_true p397
       replace q397 := eq_true q397
       go_wp2_with (first | ((with_reducible refine gate_dst (N := 7) rfl ?_);refine box_event ?hg (N := 7) ?hd (cs := #[.int .i64 0,.int .i64 0]) (t := 63) ?hr ?_;(case hd => rfl);(case hg => rfl);(case hr => first | (go_simp;done) | (go_simp;rfl));intro gb398 hg w12 hbox hb;have n0_ := Aside0.mk (Kd.R_below (Kd.R_elderB (by (with_reducible repeat (first | apply Kd.R_alloc | apply Kd.R_drewN | apply Kd.R_drew));exact HO_14.out) gb398 (Nat.le_of_eq hg.symm)) hb);have n1_ := Aside0.mk (below_step au0 hb);have n2_ := Aside0.mk (hbox);have n3_ := Aside0.mk ((by rw [hg];exact (below_size au0) : w.heap.size ≤ gb398));have n4_ := Aside0.mk ((by rw [hg];exact (below_size au0) : w.heap.size ≤ gb398));clear HO_14;clear HB;have HO_14 := n0_;have HB := n1_;have BK398 := n2_;have GW398 := n3_;have GE398 := n4_;clear n0_ n1_ n2_ n3_ n4_;clear hb hbox hg;have hcz13_0 : w12.cell? ⟨gb398,0,none⟩ = some (.int .i64 0) := (blk_cell BK398.out 0).trans rfl;have hcz13_1 : w12.cell? ⟨gb398,1,none⟩ = some (.int .i64 0) := (blk_cell BK398.out 1).trans rfl;have hfz13_0 := blk_frozen BK398.out 0;have hfz13_1 := blk_frozen BK398.out 1))
       go_roundg k1
       case measure => have := HK1.out;omega
       case rel => exact ⟨((rd_T63 t394 x16_1).f0),(wrap64 (x16_1 + 1)),au8,au8,H',⟨by have := HK1.out;omega⟩,⟨by (with_reducible repeat (first | apply Kd.R_alloc | apply Kd.R_drewN | apply Kd.R_drew));exact Kd.R_mono (Kd.R_far (p := ⟨gb398,1,none⟩) (Kd.R_far (p := ⟨gb398,0,none⟩) (Kd.R_mono HO_14.out (fun k_ hk => (⟨hk,hk.2⟩ : _ ∧ k_ ≠ gb398))) (fun _ hk => hk.2) (.int .i64 ((rd_T63 t394 x16_1).f0))) (fun _ hk => hk.2) (.int .i64 ((rd_T63 t394 x16_1).f1))) (fun _ hk => trivial)⟩,⟨by repeat (first | (with_reducible first | exact HB.out | apply below_alloc | apply pw_below_drewN | apply below_drew1 | refine below_set ?_ GE398.out) | exact HB.out)⟩⟩
      ·rw [if_neg c11] at H
       have c11b0 : decide (((rd_T63 t394 x16_1).f0) < ji4) = false := decide_eq_false c11
       clear c11
       have H' := Aside0.mk H
       clear H
       have p397 : 0 ≤ (x16_1 : Int) := of_decide_eq_true au18
       have q397 : x16_1 < (t394.length : Int) := of_decide_eq_true au18
       obtain ⟨ad397,e397,hx397_0,hx397_1⟩ := at_T63 (Kd.R_reads' HO_14.out).2.2 x16_1 p397 q397
       cases e397
       replace p397 := eq_true p397
       replace q397 := eq_true q397
       go_wp2_with (first | ((with_reducible refine gate_dst (N := 7) rfl ?_);refine box_event ?hg (N := 7) ?hd (cs := #[.int .i64 0,.int .i64 0]) (t := 63) ?hr ?_;(case hd => rfl);(case hg => rfl);(case hr => first | (go_simp;done) | (go_simp;rfl));intro gb398 hg w14 hbox hb;have n0_ := Aside0.mk (Kd.R_below (Kd.R_elderB (by (with_reducible repeat (first | apply Kd.R_alloc | apply Kd.R_drewN | apply Kd.R_drew));exact HO_14.out) gb398 (Nat.le_of_eq hg.symm)) hb);have n1_ := Aside0.mk (below_step au0 hb);have n2_ := Aside0.mk (hbox);have n3_ := Aside0.mk ((by rw [hg];exact (below_size au0) : w.heap.size ≤ gb398));have n4_ := Aside0.mk ((by rw [hg];exact (below_size au0) : w.heap.size ≤ gb398));clear HO_14;clear HB;have HO_14 := n0_;have HB := n1_;have BK398 := n2_;have GW398 := n3_;have GE398 := n4_;clear n0_ n1_ n2_ n3_ n4_;clear hb hbox hg;have hcz15_0 : w14.cell? ⟨gb398,0,none⟩ = some (.int .i64 0) := (blk_cell BK398.out 0).trans rfl;have hcz15_1 : w14.cell? ⟨gb398,1,none⟩ = some (.int .i64 0) := (blk_cell BK398.out 1).trans rfl;have hfz15_0 := blk_frozen BK398.out 0;have hfz15_1 := blk_frozen BK398.out 1))
       go_roundg k1
       case measure => have := HK1.out;omega
       case rel => exact ⟨(x5_1),(wrap64 (x16_1 + 1)),au8,au8,H',⟨by have := HK1.out;omega⟩,⟨by (with_reducible repeat (first | apply Kd.R_alloc | apply Kd.R_drewN | apply Kd.R_drew));exact Kd.R_mono (Kd.R_far (p := ⟨gb398,1,none⟩) (Kd.R_far (p := ⟨gb398,0,none⟩) (Kd.R_mono HO_14.out (fun k_ hk => (⟨hk,hk.2⟩ : _ ∧ k_ ≠ gb398))) (fun _ hk => hk.2) (.int .i64 ((rd_T63 t394 x16_1).f0))) (fun _ hk => hk.2) (.int .i64 ((rd_T63 t394 x16_1).f1))) (fun _ hk => trivial)⟩,⟨by repeat (first | (with_reducible first | exact HB.out | apply below_alloc | apply pw_below_drewN | apply below_drew1 | refine below_set ?_ GE398.out) | exact HB.out)⟩⟩
     ·rw [if_neg c10] at H
      exact absurd H (by simp)
    ·rw [if_neg c9] at H
     exact absurd H (by simp)
   ·rw [if_neg c8] at H
    have c8b0 : decide (x16_1 < (t394.length : Int)) = false := decide_eq_false c8
    clear c8
    obtain rfl := Option.some.inj H
    go_wp2
    go_ret
    exact ⟨by first | rfl | (simp [errW_none,errW_some] <;> rfl) | (simp only [← hji3,← hji4];first | rfl | (simp [errW_none,errW_some] <;> rfl)) | (simp [*,errW_none,errW_some] <;> rfl),au0⟩
end Go.Proofs.YtfmnmjoofnbnfaaDoor.U
end
section
namespace Go.Proofs.YtfmnmjoofnbnfaaDoor.U
open Go.RowKit Go.Shelf Go.Maps Go.Proofs.YtfmnmjoofnbnfaaDoor.Mu Go.Proofs.YtfmnmjoofnbnfaaDoor.Pu Go.Proofs.YtfmnmjoofnbnfaaDoor.Rg Go.Proofs.YtfmnmjoofnbnfaaDoorW.PrintWords Go.Proofs.YtfmnmjoofnbnfaaDoorW.PrintLast Go.Proofs.YtfmnmjoofnbnfaaDoorW.PrintMore
set_option linter.unusedVariables false
set_option linter.unusedSimpArgs false
theorem spF_range (s : ByteArray) (B : Int) : ∀ (n : Nat) (cs : List S74),cs.length = n → (∀ c ∈ cs,0 ≤ c.f0 ∧ c.f0 ≤ B) → ∀ sp ∈ (spF s cs).2,0 ≤ sp.f0 ∧ sp.f0 ≤ B
 | 0,cs,hn,_,sp,hsp => by
  obtain rfl := List.length_eq_zero_iff.1 hn
  cases hsp
 | n + 1,cs,hn,hc,sp,hsp => by
  rcases List.eq_nil_or_concat cs with rfl | ⟨l,c,rfl⟩
  ·cases hn
  rw [List.concat_eq_append] at hn hsp hc
  rw [spF_snoc] at hsp
  have ih := spF_range s B n l (by simpa using hn) (fun c hm => hc c (by simp [hm]))
  obtain ⟨_,h2⟩ := spF_shape s l
  have hcc := hc c (by simp)
  obtain ⟨⟨i,L⟩,hL⟩ : ∃ st,spF s l = st := ⟨_,rfl⟩
  rw [hL] at hsp ih h2
  cases hw : wAt s c.f0.toNat with
  | false => rw [spStep_off s i L c hw] at hsp;exact ih sp hsp
  | true =>
   cases i with
   | false =>
    rw [spStep_new s L c hw] at hsp
    rcases List.mem_append.1 hsp with h | h
    ·exact ih sp h
    ·rw [List.mem_singleton] at h;subst h;exact hcc
   | true =>
    obtain ⟨p,a,b,rfl⟩ := h2 rfl
    rw [spStep_on s p a b c hw] at hsp
    rcases List.mem_append.1 hsp with h | h
    ·exact ih sp (List.mem_append.2 (.inl h))
    ·rw [List.mem_singleton] at h;subst h;exact ih ⟨a,b⟩ (by simp)
theorem spans_range (s : ByteArray) : ∀ sp ∈ spansL s,0 ≤ sp.f0 ∧ sp.f0 ≤ s.size :=
 spF_range s s.size _ (clusL s) rfl (fun c hc => by
  obtain ⟨i,_,hi,rfl⟩ := clus_mem' s s.size 0 (cb_zero s) c hc
  exact ⟨Int.natCast_nonneg i,Int.ofNat_le.2 (by omega)⟩)
theorem spans_len (s : ByteArray) : (spansL s).length ≤ s.size := Nat.le_trans (spF_shape s (clusL s)).1 (clusL_length s)
/-- What the map says of the words so far. -/
structure MapI (D : DataW Unit) (l : List S63) : Prop where
 map : IsMap D
 at_ : ∀ k : Int,∃ c : Int,D.atKey (.int .i64 k) (.lit (.int .i64 0)) = .lit (.int .i64 c) ∧ (0 < c ↔ ∃ sp ∈ l,sp.f0 = k)
theorem MapI.nil : MapI (.map []) [] := ⟨isMap_empty,fun k => ⟨0,rfl,by simp⟩⟩
theorem MapI.step {D : DataW Unit} {l : List S63} (h : MapI D l) (sp : S63) (j : Int) (hj : 0 < j) : MapI (D.put (.int .i64 sp.f0) (.lit (.int .i64 j))) (l ++ [sp]) := by
 refine ⟨h.map.put _ _,fun k => ?_⟩
 by_cases e : k = sp.f0
 ·subst e
  exact ⟨j,atKey_put_same h.map (by trivial) _ _,⟨fun _ => ⟨sp,by simp,rfl⟩,fun _ => hj⟩⟩
 ·obtain ⟨c,h1,h2⟩ := h.at_ k
  refine ⟨c,(atKey_put_other (fun h => e (by injection h)) _ _).trans h1,h2.trans ⟨fun ⟨x,hx,hk⟩ => ⟨x,by simp [hx],hk⟩,fun ⟨x,hx,hk⟩ => ?_⟩⟩
  rcases List.mem_append.1 hx with h3 | h3
  ·exact ⟨x,h3,hk⟩
  ·rw [List.mem_singleton] at h3;subst h3;exact absurd hk.symm e
/-- What a character at an offset becomes. -/
def capF (s : ByteArray) (at_ c : Int) : Int := if (spansL s).any (fun sp => decide (sp.f0 = at_)) = true then upC c else lowC c
theorem zero_int (w : World) : (zeroValue 3).run Tryd.prog w = .ok (.int .i64 0) w := by kernel_rfl
set_option maxRecDepth 100000 in
set_option maxHeartbeats 4000000 in
theorem capital1_calls (s : ByteArray) (W : World) (bm Bb n : Nat) (D : DataW Unit) (hbox : Boxed W Bb 61 (.map (some bm))) (hown : W.ownsMap Tryd.prog 3 (plainElem Tryd.prog 3) bm n D) (hD : MapI D (spansL s)) (at_ : Nat) (c : Int) (hat : at_ < 1099511627776) :
  Calls Tryd.prog 30 (#[.int .i64 (at_ : Int),.int .i32 c] ++ #[.pointer (some ⟨Bb,0,none⟩)]) W fun e w' => e = .returned (.int .i32 (capF s at_ c)) ∧ Below W.heap.size W w' := by
 show Calls Tryd.prog 30 #[.int .i64 (at_ : Int),.int .i32 c,.pointer (some ⟨Bb,0,none⟩)] W _
 have hF : Hid (∀ cap : Int,D.atKey (.int .i64 (at_ : Int)) (.lit (.int .i64 0)) = .lit (.int .i64 cap) → capF s at_ c = if 0 < cap then upC c else lowC c) := Lib.hid (fun cap h => by
  obtain ⟨cap',h1,h2⟩ := hD.at_ at_
  have e : cap' = cap := by rw [h1] at h;injection h with h;injection h
  subst e
  unfold capF
  by_cases h3 : 0 < cap'
  ·rw [if_pos h3,if_pos]
   obtain ⟨sp,hm,he⟩ := h2.1 h3
   exact List.any_eq_true.2 ⟨sp,hm,decide_eq_true he⟩
  ·rw [if_neg h3,if_neg]
   intro h4
   obtain ⟨sp,hm,he⟩ := List.any_eq_true.1 h4
   exact h3 (h2.2 ⟨sp,hm,of_decide_eq_true he⟩))
 obtain ⟨G,hG⟩ : ∃ G,capF s at_ c = G := ⟨_,rfl⟩
 rw [hG] at hF
 rw [hG]
 clear hG hD
 have hc := hbox.cell
 go_enter Tryd.func30,Tryd.ntmps30
 go_wp2_with (first | (at_lookup;refine wpList_lookup_own_int _ rfl _ _ 61 rfl 3 3 .i64 (int_keyed Tryd.underlying3) Tryd.underlying61 Tryd.underlying3 (zero_int _) bm n _ rfl hown _ _ rfl (keyOf_int_mk Tryd.underlying3 (WalkArith.wf_i64 (by omega))) ?_;intro cap hcap hwc) | (go_at_call 27;refine (word_UpperOf.calls 7 c (upC c) _ (upper7 c)).mono ?_;rintro e w1 ⟨rfl,q,rfl⟩) | (go_at_call 29;refine (word_LowerOf.calls c (lowC c) _ rfl).mono ?_;rintro e w1 ⟨rfl,hb1⟩))
 all_goals (
  go_ret
  refine ⟨?_,by first | exact hb1 | exact pw_below_drewN (Below.refl _ _) _⟩
  rw [hF.out cap hcap]
  first
  | (rw [if_pos (by omega)];rfl)
  | (rw [if_neg (by omega)];rfl))
set_option maxRecDepth 100000 in
set_option maxHeartbeats 4000000 in
theorem capital_any (s : ByteArray) (w : World) (hs : s.size ≤ 1099511627775) (hT : Lib.Utf8Tabs 1 2 w) :
  Calls Tryd.prog 12 #[.string s] w fun e w' => e = .returned (.string (strOfNums (eachT s (capF s)))) ∧ Below w.heap.size w w' := by
 have hu : word_Spans.f s = some (spansL s) := by unfold word_Spans.f;rw [if_pos (by omega)]
 have hrg := spans_range s
 have hnl := spans_len s
 have hmm := @run_makeMap Tryd.prog
 have hM0 : (w.alloc (.map #[] 0)).ownsMap Tryd.prog 3 (plainElem (H := Unit) Tryd.prog 3) w.heap.size 0 (.map []) := World.ownsMap_made _ _ _ _
 have hM1 := hM0.alloc (.cells #[.map (some w.heap.size)] 61)
 have hB1 := Boxed.new (w.alloc (.map #[] 0)) 61 (.map (some w.heap.size))
 rw [World.size_alloc] at hB1
 have hb1 : Below w.heap.size w ((w.alloc (.map #[] 0)).alloc (.cells #[.map (some w.heap.size)] 61)) := ((Below.refl _ w).alloc (Nat.le_refl _) _).alloc (by simp) _
 have hsz1 : ((w.alloc (.map #[] 0)).alloc (.cells #[.map (some w.heap.size)] 61)).heap.size = w.heap.size + 2 := by simp
 have hT1 := tabs_below hT hb1
 go_enter Tryd.func12,Tryd.ntmps12
 go_wp2_with (go_at_call 19;refine (word_Spans.calls s (spansL s) _ hT1 hu).mono ?_;rintro e w2 ⟨v0,rfl,hR,hb2⟩;obtain ⟨A,c,rfl,hcl,hC⟩ := Kd.R_reads hR)
 rw [hsz1] at hR
 have hg2 : ((w.alloc (.map #[] 0)).alloc (.cells #[.map (some w.heap.size)] 61)).grownBy w2 none := ⟨hb2.os,hb2.tape,hb2.output,hb2.size,fun i hi _ => hb2.block i hi⟩
 have hM2 := hM1.kept hg2 (by simp)
 have hB2 := boxed_below hB1 hb2
 have hbw2 : Below w.heap.size w w2 := hb1.trans (hb2.mono hb1.size)
 clear hM0 hM1 hB1 hb1 hT1 hb2 hg2 hC hsz1
 go_loopw [10] (fun v wr => ∃ (j : Nat) (D : DataW Unit),v = .int .i64 j ∧ j ≤ (spansL s).length ∧ wr.ownsMap Tryd.prog 3 (plainElem (H := Unit) Tryd.prog 3) w.heap.size j D ∧ Hid (MapI D ((spansL s).take j)) ∧ Boxed wr (w.heap.size + 1) 61 (.map (some w.heap.size)) ∧
   Kd.R k63 63 wr (w.heap.size + 2) (fun _ => True) (.slice A (spansL s).length c) (spansL s) ∧ Below w.heap.size w wr)
  (fun v _ => (spansL s).length - (intOf v).toNat)
 case atStart => exact ⟨0,_,rfl,Nat.zero_le _,hM2,Lib.hid (by rw [List.take_zero];exact MapI.nil),hB2,hR,hbw2⟩
 case round =>
  obtain ⟨j,D,rfl,hj,hM,hI,hB,hR,hb⟩ := hrel
  clear hM2 hB2 hbw2
  by_cases hlt : j < (spansL s).length
  ·obtain ⟨A',c',e',_,hC⟩ := Kd.R_reads hR
   obtain ⟨rfl,_,rfl⟩ : A = A' ∧ (spansL s).length = (spansL s).length ∧ c = c' := by injection e' with e1 e2 e3;exact ⟨e1,e2,e3⟩
   obtain ⟨ad,rfl,ca0,ca1⟩ := at_T63 hC (j : Int) (by omega) (by omega)
   have hrd : rd_T63 (spansL s) (j : Int) = (spansL s)[j] := by unfold rd_T63;rw [Int.toNat_natCast,List.getD_eq_getElem?_getD,List.getElem?_eq_getElem hlt];rfl
   rw [hrd] at ca0 ca1
   have hin := hrg _ (List.getElem_mem hlt)
   have htk : (spansL s).take (j + 1) = (spansL s).take j ++ [(spansL s)[j]] := (List.take_append_getElem hlt).symm
   have hstep : Hid (∀ v : Int,0 < v → MapI (D.put (.int .i64 (spansL s)[j].f0) (.lit (.int .i64 v))) ((spansL s).take (j + 1))) := Lib.hid (fun v hv => by rw [htk];exact hI.out.step _ v hv)
   obtain ⟨⟨x0,x1⟩,hx⟩ : ∃ x,(spansL s)[j] = x := ⟨_,rfl⟩
   rw [hx] at ca0 ca1 hin hstep
   simp only [Int.toNat_natCast] at ca0 ca1
   clear hx hrd htk hI hC
   have hjlt : (j : Int) < ((spansL s).length : Int) := by omega
   have hu32 := Tryd.underlying63
   have hw2 : IntKind.i64.wrap ((j : Int) + 1) = ((j + 1 : Nat) : Int) := (i64_w _).trans (by unfold wrap64;omega)
   have hin' : 0 ≤ x0 ∧ x0 ≤ s.size := hin
   have hM' := hM.alloc (.cells #[.int .i64 x0,.int .i64 x1] 63)
   have hB' := hB.alloc (.cells #[.int .i64 x0,.int .i64 x1] 63)
   have hcB := hB'.cell
   have hR' := Kd.R_alloc hR (.cells #[.int .i64 x0,.int .i64 x1] 63)
   have hb' : Below w.heap.size w (wr.alloc (.cells #[.int .i64 x0,.int .i64 x1] 63)) := hb.alloc hb.size _
   have hwf0 : (Lit.int .i64 x0).wf = true := WalkArith.wf_i64 (by omega)
   have hwf1 : (Lit.int .i64 ((j + 1 : Nat) : Int)).wf = true := WalkArith.wf_i64 (by omega)
   go_wp2_with (at_mapUpdate;refine wpList_mapUpdate_own _ rfl _ _ _ 61 rfl 3 3 (int_keyed Tryd.underlying3) Tryd.underlying61 _ w.heap.size j _ rfl hM' (by unfold maxLen;omega) _ _ _ rfl rfl (keyOf_int_mk Tryd.underlying3 hwf0) _ [] (plainElem_int Tryd.underlying3 (a := ((j + 1 : Nat) : Int)) hwf1) ?_;intro w3 hown3 hg3)
   go_roundw
   case rel =>
    refine ⟨j + 1,_,by go_num,by omega,hown3,Lib.hid (hstep.out _ (by omega)),?_,?_,hb'.grown hg3 hb'.size (fun k e => by cases e;exact Nat.le_refl _)⟩
    ·exact hB'.kept hg3 (by simp)
    ·refine Kd.R_grown2 hR' rfl hg3 (fun k e => ?_)
     cases e
     obtain ⟨inner,ho⟩ := Kd.R_own hR'
     intro h
     have := own_base ho _ h.symm
     omega
   case measure => clear hw2;simp [intOf];omega
  ·have hge : ¬ ((j : Int) < ((spansL s).length : Int)) := by omega
   have hIa : MapI D (spansL s) := by have := hI.out;rwa [List.take_of_length_le (by omega)] at this
   have he := each_any s 30 #[.pointer (some ⟨w.heap.size + 1,0,none⟩)] (capF s) wr (by omega) (tabs_below hT hb) (enters_of Tryd.func30 (by kernel_rfl) rfl) (fun W at_ c hat hbW =>
    capital1_calls s W w.heap.size (w.heap.size + 1) j D (boxed_below hB hbW) (hM.kept (row := none) ⟨hbW.os,hbW.tape,hbW.output,hbW.size,fun i hi _ => hbW.block i hi⟩ (by simp)) hIa at_ c (by omega))
   clear hIa hI hrg
   go_wp2_with (go_at_call 25;refine he.mono ?_;rintro e w4 ⟨rfl,hb4⟩)
   go_ret
   exact ⟨rfl,hb.trans (hb4.mono hb.size)⟩
def word_Capital.f (a0 : ByteArray) : Option ByteArray := if a0.size ≤ 1099511627775 then some (strOfNums (eachT a0 (capF a0))) else none
theorem word_Capital.calls (a0 : ByteArray) (r : ByteArray) (w : World) (hT : Lib.Utf8Tabs 1 2 w) (h : word_Capital.f a0 = some r) :
  Calls Tryd.prog 12 #[.string a0] w fun e w' => e = .returned (.string r) ∧ Below w.heap.size w w' := by
 unfold word_Capital.f at h
 split at h
 ·obtain rfl := Option.some.inj h
  rename_i hs
  exact capital_any a0 w hs hT
 ·cases h
end Go.Proofs.YtfmnmjoofnbnfaaDoor.U
end
section
namespace Go.Proofs.YtfmnmjoofnbnfaaDoor.Pu
open Go Go.RowKit Go.Proofs.YtfmnmjoofnbnfaaDoor.Mu Go.Proofs.YtfmnmjoofnbnfaaDoor.U Go.Proofs.YtfmnmjoofnbnfaaDoorW.PrintWords Go.Proofs.YtfmnmjoofnbnfaaDoorW.PrintLast Go.Proofs.YtfmnmjoofnbnfaaDoorW.PrintMore
set_option linter.unusedVariables false
set_option linter.unusedSimpArgs false
theorem spans_ev (s : ByteArray) (hs : s.size ≤ 1099511627776) : word_Spans.f s = some (spansL s) := by unfold word_Spans.f;rw [if_pos hs]
def ahL (n a : Int) : List S63 → Int
 | [] => n
 | p :: l => if p.f1 > a then p.f1 else ahL n a l
def beL (a : Int) : Int → List S63 → Int
 | x,[] => x
 | x,p :: l => beL a (if p.f0 < a then p.f0 else x) l
theorem rd_span (L : List S63) (i : Nat) (c : S63) (cs : List S63) (h : L.drop i = c :: cs) : i < L.length ∧ rd_T63 L i = c ∧ L.drop (i + 1) = cs := by
 obtain ⟨hi,hg,hd⟩ := drop_cons' (d := z63) h
 exact ⟨hi,by unfold rd_T63;rw [Int.toNat_natCast];exact hg,hd⟩
def heldB (s : ByteArray) (a : Int) : Int := mn (mx a 0) (s.size : Int)
def ahA (s : ByteArray) (a : Int) : Int := ahL s.size (heldB s a) (spansL s)
def beA (s : ByteArray) (a : Int) : Int := beL (heldB s a) 0 (spansL s)
theorem ahead_loop (s : ByteArray) (a : Int) (L : List S63) (hL : L.length ≤ 1099511627776) : ∀ (l : List S63) (i : Nat),L.drop i = l → Ev (fun k => word_Ahead.l0 k s a L (L.length : Int) i) (ahL s.size a l) := by
 intro l
 induction l with
 | nil => intro i h;have := List.drop_eq_nil_iff.1 h;exact Ev.step (fun k => word_Ahead.l0.eq_2 ..) (ev_neg (by omega) (Ev.now _))
 | cons p l ih =>
  intro i h
  obtain ⟨hi,hr,hd⟩ := rd_span L i p l h
  refine Ev.step (fun k => word_Ahead.l0.eq_2 ..) (ev_pos (by omega) (ev_pos (by omega) (ev_pos (by omega) ?_)))
  rw [hr,w64 (by omega) (by omega),ahL]
  by_cases h1 : p.f1 > a
  ·rw [if_pos h1];exact ev_pos h1 (Ev.now _)
  ·rw [if_neg h1];exact ev_neg h1 (ih (i + 1) hd)
theorem behind_loop (a : Int) (L : List S63) (hL : L.length ≤ 1099511627776) : ∀ (l : List S63) (i : Nat) (x : Int),L.drop i = l → Ev (fun k => word_Behind.l0 k a x L (L.length : Int) i) (beL a x l) := by
 intro l
 induction l with
 | nil => intro i x h;have := List.drop_eq_nil_iff.1 h;exact Ev.step (fun k => word_Behind.l0.eq_2 ..) (ev_neg (by omega) (Ev.now _))
 | cons p l ih =>
  intro i x h
  obtain ⟨hi,hr,hd⟩ := rd_span L i p l h
  refine Ev.step (fun k => word_Behind.l0.eq_2 ..) (ev_pos (by omega) (ev_pos (by omega) (ev_pos (by omega) ?_)))
  rw [hr,w64 (by omega) (by omega),beL]
  by_cases h1 : p.f0 < a
  ·rw [if_pos h1];exact ev_pos h1 (ih (i + 1) _ hd)
  ·rw [if_neg h1];exact ev_neg h1 (ih (i + 1) _ hd)
theorem ahead_ans (s : ByteArray) (hs : s.size ≤ 1099511627776) (a : Int) : Ev (fun k => word_Ahead.f k s a) (ahA s a) :=
 ev_some (spans_ev s hs) (ahead_loop s _ _ (by have := spans_len s;omega) _ 0 rfl)
theorem behind_ans (s : ByteArray) (hs : s.size ≤ 1099511627776) (a : Int) : Ev (fun k => word_Behind.f k s a) (beA s a) :=
 ev_some (spans_ev s hs) (behind_loop _ _ (by have := spans_len s;omega) _ 0 0 rfl)
/-- Does a cluster stand in a word? -/
def wC (s : ByteArray) (c : S74) : Bool := wAt s c.f0.toNat
def spR (s : ByteArray) : Option (Int × Int) → List S74 → List S63
 | none,[] => []
 | some (a,b),[] => [⟨a,b⟩]
 | none,c :: cs => if wC s c = true then spR s (some (c.f0,c.f1)) cs else spR s none cs
 | some (a,b),c :: cs => if wC s c = true then spR s (some (a,c.f1)) cs else ⟨a,b⟩ :: spR s none cs
theorem sp_fold (s : ByteArray) : ∀ (cs : List S74) (L : List S63),(cs.foldl (spStep s) (false,L)).2 = L ++ spR s none cs ∧ ∀ a b,(cs.foldl (spStep s) (true,L ++ [⟨a,b⟩])).2 = L ++ spR s (some (a,b)) cs
 | [],L => ⟨by simp [spR],fun a b => by simp [spR]⟩
 | c :: cs,L => by
  refine ⟨?_,fun a b => ?_⟩
  ·rw [List.foldl_cons,spR]
   cases hw : wC s c with
   | true => rw [spStep_new s L c hw,(sp_fold s cs L).2,if_pos rfl]
   | false => rw [spStep_off s false L c hw,(sp_fold s cs L).1,if_neg (by simp)]
  ·rw [List.foldl_cons,spR]
   cases hw : wC s c with
   | true => rw [spStep_on s L a b c hw,(sp_fold s cs L).2,if_pos rfl]
   | false => rw [spStep_off s true (L ++ [(⟨a,b⟩ : S63)]) c hw,(sp_fold s cs (L ++ [(⟨a,b⟩ : S63)])).1,if_neg (by simp),List.append_assoc];rfl
theorem spans_runs (s : ByteArray) : spansL s = spR s none (clusL s) := by
 have := (sp_fold s (clusL s) []).1
 rw [List.nil_append] at this
 exact this
theorem clAt_f0 (s : ByteArray) (x : Nat) : (clAt s x).f0 = (x : Int) := rfl
theorem clAt_f1 (s : ByteArray) (x : Nat) : (clAt s x).f1 = (nxt s x : Int) := rfl
/-- Spans in order,from x on. -/
structure InOrd (s : ByteArray) (x : Int) (l : List S63) : Prop where
 one : ∀ p ∈ l,x ≤ p.f0 ∧ p.f0 < p.f1 ∧ CBI s p.f0 ∧ CBI s p.f1
 ord : l.Pairwise (fun p q => p.f1 < q.f0)
theorem InOrd.nil (s : ByteArray) (x : Int) : InOrd s x [] := ⟨(fun _ h => by cases h),List.Pairwise.nil⟩
theorem InOrd.mono {s : ByteArray} {x y : Int} {l : List S63} (h : InOrd s y l) (hxy : x ≤ y) : InOrd s x l := ⟨fun p hp => ⟨by have := (h.one p hp).1;omega,(h.one p hp).2⟩,h.ord⟩
theorem InOrd.cons {s : ByteArray} {a b x : Int} {l : List S63} (h : InOrd s x l) (hx : b < x) (hab : a < b) (ha : CBI s a) (hb : CBI s b) : InOrd s a (⟨a,b⟩ :: l) :=
 ⟨(fun p hp => by
  rcases List.mem_cons.1 hp with rfl | hp
  ·exact ⟨Int.le_refl _,hab,ha,hb⟩
  ·have := h.one p hp;exact ⟨by omega,this.2⟩),List.pairwise_cons.2 ⟨(fun q hq => by have := (h.one q hq).1;show b < q.f0;omega),h.ord⟩⟩
theorem sp_ord (s : ByteArray) : ∀ n x : Nat,s.size - x ≤ n → CB s x → InOrd s x (spR s none (ctl s x)) ∧ ∀ a : Int,CBI s a → a < x → InOrd s a (spR s (some (a,(x : Int))) (ctl s x)) := by
 intro n
 induction n with
 | zero =>
  intro x hn hc
  rw [ctl_end s x (by omega)]
  exact ⟨InOrd.nil _ _,fun a ha hx => (InOrd.nil s (x + 1)).cons (by omega) hx ha ((cbI_nat _ _).2 hc)⟩
 | succ n ih =>
  intro x hn hc
  by_cases hx : x < s.size
  ·have h1 := nxt_pos s x hx
   have hcn := nxt_cb s x hc.1 hx
   obtain ⟨i1,i2⟩ := ih (nxt s x) (by omega) hcn
   rw [ctl_go s x hx]
   have hcx : CBI s (x : Int) := (cbI_nat _ _).2 hc
   refine ⟨?_,fun a ha hax => ?_⟩
   ·rw [spR]
    by_cases hw : wC s (clAt s x) = true
    ·rw [if_pos hw,clAt_f0,clAt_f1];exact i2 x hcx (by omega)
    ·rw [if_neg hw];exact i1.mono (by omega)
   ·rw [spR]
    by_cases hw : wC s (clAt s x) = true
    ·rw [if_pos hw,clAt_f1];exact i2 a ha (by omega)
    ·rw [if_neg hw];exact i1.cons (by omega) hax ha hcx
  ·rw [ctl_end s x (by omega)]
   exact ⟨InOrd.nil _ _,fun a ha hx => (InOrd.nil s (x + 1)).cons (by omega) hx ha ((cbI_nat _ _).2 hc)⟩
theorem spans_ord (s : ByteArray) : InOrd s 0 (spansL s) := by
 rw [spans_runs,clusL_ctl]
 exact (sp_ord s s.size 0 (by omega) (cb_zero s)).1
theorem held_in (s : ByteArray) (a : Int) (h0 : 0 ≤ a) (h1 : a ≤ s.size) : heldB s a = a := by unfold heldB mx mn;omega
/-- What Ahead finds lies ahead,on a boundary. -/
theorem ahA_spec (s : ByteArray) (a : Int) (h0 : 0 ≤ a) (h1 : a ≤ s.size) : (a < ahA s a ∨ a = s.size) ∧ ahA s a ≤ s.size ∧ CBI s (ahA s a) := by
 unfold ahA
 rw [held_in s a h0 h1]
 have ho := spans_ord s
 generalize spansL s = l at ho
 have : ∀ l : List S63,(∀ p ∈ l,CBI s p.f1) → (a < ahL s.size a l ∨ a = s.size) ∧ ahL s.size a l ≤ s.size ∧ CBI s (ahL s.size a l) := by
  intro l
  induction l with
  | nil => intro _;exact ⟨by rw [ahL];omega,Int.le_refl _,cbI_size s⟩
  | cons p l ih =>
   intro h
   rw [ahL]
   by_cases hp : p.f1 > a
   ·rw [if_pos hp];have := h p (by simp);exact ⟨.inl hp,(cbI_le this).2,this⟩
   ·rw [if_neg hp];exact ih (fun q hq => h q (List.mem_cons_of_mem _ hq))
 exact this l (fun p hp => (ho.one p hp).2.2.2)
end Go.Proofs.YtfmnmjoofnbnfaaDoor.Pu
end
section
namespace Go.Proofs.YtfmnmjoofnbnfaaDoor.Pu
open Go Go.RowKit Go.Proofs.YtfmnmjoofnbnfaaDoor.Mu Go.Proofs.YtfmnmjoofnbnfaaDoor.U Go.Proofs.YtfmnmjoofnbnfaaDoorW.PrintWords Go.Proofs.YtfmnmjoofnbnfaaDoorW.PrintLast Go.Proofs.YtfmnmjoofnbnfaaDoorW.PrintMore
set_option linter.unusedVariables false
set_option linter.unusedSimpArgs false
noncomputable def nxZ (s : ByteArray) (a : Int) : Int := Classical.epsilon (fun d => CNextS s a d)
noncomputable def pvZ (s : ByteArray) (a : Int) : Int := Classical.epsilon (fun d => CPrevS s a d)
noncomputable def snZ (s : ByteArray) (a : Int) : Int := Classical.epsilon (fun d => CSnapS s a d)
theorem nxZ_spec (s : ByteArray) (hs : s.size ≤ 1099511627776) (a : Int) : CNextS s a (nxZ s a) := by
 obtain ⟨d,_,h⟩ := cnext_ans s hs a
 exact Classical.epsilon_spec ⟨d,h⟩
theorem pvZ_spec (s : ByteArray) (hs : s.size ≤ 1099511627776) (a : Int) : CPrevS s a (pvZ s a) := by
 obtain ⟨d,_,h⟩ := cprev_ans s hs a
 exact Classical.epsilon_spec ⟨d,h⟩
theorem snZ_spec (s : ByteArray) (hs : s.size ≤ 1099511627776) (a : Int) : CSnapS s a (snZ s a) := by
 obtain ⟨d,_,h⟩ := csnap_ans s hs a
 exact Classical.epsilon_spec ⟨d,h⟩
theorem nxZ_ans (s : ByteArray) (hs : s.size ≤ 1099511627776) (a : Int) : Ev (fun k => cluster_Next.f k s a) (nxZ s a) := cnext_ev hs (nxZ_spec s hs a)
theorem pvZ_ans (s : ByteArray) (hs : s.size ≤ 1099511627776) (a : Int) : Ev (fun k => cluster_Prev.f k s a) (pvZ s a) := cprev_ev hs (pvZ_spec s hs a)
theorem snZ_ans (s : ByteArray) (hs : s.size ≤ 1099511627776) (a : Int) : Ev (fun k => cluster_Snap.f k s a) (snZ s a) := csnap_ev hs (snZ_spec s hs a)
theorem cbi_range {s : ByteArray} {a : Int} (h : CBI s a) : 0 ≤ a ∧ a ≤ s.size := by
 have h1 := h.2.1.1
 have h2 := h.1
 omega
/-- How far the next newline is;below 0: there is none. -/
def nlZ (s : ByteArray) (x : Int) : Int := Lib.indexByte (s.extract x.toNat s.size).data.toList 10
def lendZ (s : ByteArray) (x : Int) : Int × Int := if nlZ s x < 0 then ((s.size : Int),(s.size : Int)) else if nlZ s x > 0 ∧ bt s (x + nlZ s x - 1) = 13 then (x + nlZ s x - 1,x + nlZ s x + 1) else (x + nlZ s x,x + nlZ s x + 1)
def onwZ (s : ByteArray) (x : Int) : Int := if x = (lendZ s x).1 then (lendZ s x).2 else (lendZ s x).1
def lstZ (s : ByteArray) (x : Int) : Int := Lib.lastIndexByte (s.extract 0 x.toNat) 10 + 1
theorem index_lt (c : UInt8) : ∀ l : List UInt8,Lib.indexByte l c < l.length ∧ -1 ≤ Lib.indexByte l c
 | [] => by simp [Lib.indexByte]
 | b :: l => by
  have := index_lt c l
  unfold Lib.indexByte
  simp only [List.length_cons]
  split
  ·omega
  ·split <;> omega
theorem nlZ_lt (s : ByteArray) (x : Int) (h0 : 0 ≤ x) (h1 : x ≤ s.size) : -1 ≤ nlZ s x ∧ (nlZ s x < 0 ∨ x + nlZ s x < s.size) := by
 have h := index_lt 10 (s.extract x.toNat s.size).data.toList
 have h2 : (s.extract x.toNat s.size).data.toList.length = s.size - x.toNat := by
  rw [Array.length_toList]
  exact size_extract _ _ _ (Nat.le_refl _)
 rw [h2] at h
 unfold nlZ
 omega
theorem lend_ev (s : ByteArray) (hs : s.size ≤ 1099511627776) (x : Int) (h0 : 0 ≤ x) (h1 : x ≤ s.size) : change_lineEnd.f s x = some (lendZ s x) := by
 have h := nlZ_lt s x h0 h1
 have hi : strings_IndexByte.f (s.extract (x : Int).toNat s.size) 10 = some (nlZ s x) := rfl
 unfold change_lineEnd.f lendZ
 rw [if_pos h0,if_pos h1,hi,Option.bind_some]
 generalize nlZ s x = n at h ⊢
 by_cases hn : n < 0
 ·rw [if_pos hn,if_pos hn]
 ·rw [if_neg hn,if_neg hn]
  have e1 : wrap64 (x + n) = x + n := w64 (by omega) (by omega)
  have e2 : wrap64 (x + n - 1) = x + n - 1 := w64 (by omega) (by omega)
  have e3 : wrap64 (x + n + 1) = x + n + 1 := w64 (by omega) (by omega)
  rw [e1,e2,e3]
  by_cases hp : n > 0
  ·rw [if_pos hp,if_pos (by omega),if_pos (by omega)]
   by_cases hb : bt s (x + n - 1) = 13
   ·rw [if_pos hb,if_pos ⟨hp,hb⟩]
   ·rw [if_neg hb,if_neg (fun h => hb h.2)]
  ·rw [if_neg hp,if_neg (fun h => hp h.1)]
theorem lend_range (s : ByteArray) (x : Int) (h0 : 0 ≤ x) (h1 : x ≤ s.size) : x ≤ (lendZ s x).1 ∧ (lendZ s x).1 ≤ (lendZ s x).2 ∧ (lendZ s x).2 ≤ s.size := by
 have h := nlZ_lt s x h0 h1
 unfold lendZ
 split
 ·exact ⟨h1,Int.le_refl _,Int.le_refl _⟩
 ·split <;> dsimp only <;> omega
theorem onw_ev (s : ByteArray) (hs : s.size ≤ 1099511627776) (x : Int) (h0 : 0 ≤ x) (h1 : x ≤ s.size) : change_onward.f s x = some (onwZ s x) := by
 unfold change_onward.f onwZ
 rw [lend_ev s hs x h0 h1,Option.bind_some]
 split <;> rfl
theorem onw_range (s : ByteArray) (x : Int) (h0 : 0 ≤ x) (h1 : x ≤ s.size) : x ≤ onwZ s x ∧ onwZ s x ≤ s.size := by
 have h := lend_range s x h0 h1
 unfold onwZ
 split <;> omega
theorem lst_range (s : ByteArray) (x : Int) (h0 : 0 ≤ x) (h1 : x ≤ s.size) : 0 ≤ lstZ s x ∧ lstZ s x ≤ x := by
 have h2 : (s.extract 0 x.toNat).size = x.toNat := by rw [size_extract _ _ _ (by omega)];omega
 unfold lstZ
 rcases Lib.lastIndexByte_spec (s.extract 0 x.toNat) 10 with ⟨h,_⟩ | ⟨i,hi,h,_⟩ <;> omega
theorem lst_ev (s : ByteArray) (hs : s.size ≤ 1099511627776) (x : Int) (h0 : 0 ≤ x) (h1 : x ≤ s.size) : change_lineStart.f s x = some (lstZ s x) := by
 have h := lst_range s x h0 h1
 have h2 : (s.extract 0 x.toNat).size = x.toNat := by rw [size_extract _ _ _ (by omega)];omega
 unfold change_lineStart.f
 have hi : strings_LastIndexByte.f (s.extract 0 (x : Int).toNat) 10 = some (Lib.lastIndexByte (s.extract 0 (x : Int).toNat) 10) := by unfold strings_LastIndexByte.f;rw [if_pos (by omega)]
 rw [if_pos h0,if_pos h1,hi,Option.bind_some,show Lib.lastIndexByte (s.extract 0 (x : Int).toNat) 10 + 1 = lstZ s x from rfl,w64 (by omega) (by omega)]
end Go.Proofs.YtfmnmjoofnbnfaaDoor.Pu
end
section
namespace Go.Proofs.YtfmnmjoofnbnfaaDoor.U
open Go.RowKit Go.Shelf Go.Proofs.YtfmnmjoofnbnfaaDoor.Mu Go.Proofs.YtfmnmjoofnbnfaaDoor.Pu Go.Proofs.YtfmnmjoofnbnfaaDoor.Rg Go.Proofs.YtfmnmjoofnbnfaaDoorW.PrintWords Go.Proofs.YtfmnmjoofnbnfaaDoorW.PrintLast Go.Proofs.YtfmnmjoofnbnfaaDoorW.PrintMore
set_option linter.unusedVariables false
set_option linter.unusedSimpArgs false
/-- The work that a command is asked to do. -/
structure Wk where
 text : ByteArray
 at0 : Int
 region : Int
 n : Nat
/-- g leads to the place i. -/
def Leads (g : Nat) (q : Wk) (i : Int) : Prop := ∀ W : World,Lib.Utf8Tabs 1 2 W → Calls Tryd.prog g #[.agg #[.string q.text,.int .i64 q.at0,.int .i64 q.region,.int .i64 q.n]] W fun e w' => e = .returned (.int .i64 i) ∧ Below W.heap.size W w'
set_option maxRecDepth 100000 in
set_option maxHeartbeats 4000000 in
theorem here_leads (q : Wk) : Leads 47 q q.at0 := by
 obtain ⟨text,at0,region,n⟩ := q
 intro W hT
 dsimp only
 have hu := Tryd.underlying52
 have hb1 : Below W.heap.size W (W.alloc (.cells #[.string text,.int .i64 at0,.int .i64 region,.int .i64 n] 52)) := (Below.refl _ W).alloc (Nat.le_refl _) _
 go_enter Tryd.func47,Tryd.ntmps47
 go_wp2
 go_ret
 exact ⟨rfl,hb1⟩
set_option maxRecDepth 100000 in
set_option maxHeartbeats 4000000 in
theorem ahead_leads (q : Wk) (hs : q.text.size ≤ 1099511627776) (hn : q.n ≤ 1000) : Leads 38 q (againN (ahA q.text) q.n q.at0) := by
 obtain ⟨text,at0,region,n⟩ := q
 intro W hT
 dsimp only at *
 have hu := Tryd.underlying52
 have hb1 : Below W.heap.size W (W.alloc (.cells #[.string text,.int .i64 at0,.int .i64 region,.int .i64 n] 52)) := (Below.refl _ W).alloc (Nat.le_refl _) _
 have hbx : (W.alloc (.cells #[.string text,.int .i64 at0,.int .i64 region,.int .i64 n] 52)).heap[W.heap.size]? = some (.cells #[.string text,.int .i64 at0,.int .i64 region,.int .i64 n] 52 (0,0)) := World.alloc_heap_new _ _
 have hc1 := (work_cells hbx).2.1
 have hT1 := tabs_below hT hb1
 have ha := again_any text at0 region n hn 40 (ahA text) (fun _ => True) at0 (W.alloc (.cells #[.string text,.int .i64 at0,.int .i64 region,.int .i64 n] 52)) trivial (fun _ _ => trivial) (enters_of Tryd.func40 (by kernel_rfl) rfl)
  (fun W2 x hx hbW => by
   obtain ⟨k,hk⟩ := Ev.rounds (ahead_ans text hs x)
   exact word_Ahead.calls k text x _ W2 (tabs_below hT1 hbW) hk)
 clear hbx
 go_enter Tryd.func38,Tryd.ntmps38
 go_wp2_with (go_at_call 39;refine ha.mono ?_;rintro e w1 ⟨rfl,hb2⟩)
 go_ret
 exact ⟨rfl,hb1.trans (hb2.mono hb1.size)⟩
set_option maxRecDepth 100000 in
set_option maxHeartbeats 4000000 in
theorem behind_leads (q : Wk) (hs : q.text.size ≤ 1099511627776) (hn : q.n ≤ 1000) : Leads 41 q (againN (beA q.text) q.n q.at0) := by
 obtain ⟨text,at0,region,n⟩ := q
 intro W hT
 dsimp only at *
 have hu := Tryd.underlying52
 have hb1 : Below W.heap.size W (W.alloc (.cells #[.string text,.int .i64 at0,.int .i64 region,.int .i64 n] 52)) := (Below.refl _ W).alloc (Nat.le_refl _) _
 have hbx : (W.alloc (.cells #[.string text,.int .i64 at0,.int .i64 region,.int .i64 n] 52)).heap[W.heap.size]? = some (.cells #[.string text,.int .i64 at0,.int .i64 region,.int .i64 n] 52 (0,0)) := World.alloc_heap_new _ _
 have hc1 := (work_cells hbx).2.1
 have hT1 := tabs_below hT hb1
 have ha := again_any text at0 region n hn 42 (beA text) (fun _ => True) at0 (W.alloc (.cells #[.string text,.int .i64 at0,.int .i64 region,.int .i64 n] 52)) trivial (fun _ _ => trivial) (enters_of Tryd.func42 (by kernel_rfl) rfl)
  (fun W2 x hx hbW => by
   obtain ⟨k,hk⟩ := Ev.rounds (behind_ans text hs x)
   exact word_Behind.calls k text x _ W2 (tabs_below hT1 hbW) hk)
 clear hbx
 go_enter Tryd.func41,Tryd.ntmps41
 go_wp2_with (go_at_call 39;refine ha.mono ?_;rintro e w1 ⟨rfl,hb2⟩)
 go_ret
 exact ⟨rfl,hb1.trans (hb2.mono hb1.size)⟩
set_option maxRecDepth 100000 in
set_option maxHeartbeats 4000000 in
theorem right_leads (q : Wk) (hs : q.text.size ≤ 1099511627776) (hn : q.n ≤ 1000) : Leads 48 q (againN (nxZ q.text) q.n q.at0) := by
 obtain ⟨text,at0,region,n⟩ := q
 intro W hT
 dsimp only at *
 have hu := Tryd.underlying52
 have hb1 : Below W.heap.size W (W.alloc (.cells #[.string text,.int .i64 at0,.int .i64 region,.int .i64 n] 52)) := (Below.refl _ W).alloc (Nat.le_refl _) _
 have hbx : (W.alloc (.cells #[.string text,.int .i64 at0,.int .i64 region,.int .i64 n] 52)).heap[W.heap.size]? = some (.cells #[.string text,.int .i64 at0,.int .i64 region,.int .i64 n] 52 (0,0)) := World.alloc_heap_new _ _
 have hc1 := (work_cells hbx).2.1
 have hT1 := tabs_below hT hb1
 have ha := again_any text at0 region n hn 22 (nxZ text) (fun _ => True) at0 (W.alloc (.cells #[.string text,.int .i64 at0,.int .i64 region,.int .i64 n] 52)) trivial (fun _ _ => trivial) (enters_of Tryd.func22 (by kernel_rfl) rfl)
  (fun W2 x hx hbW => by
   obtain ⟨k,hk⟩ := Ev.rounds (nxZ_ans text hs x)
   exact cluster_Next.calls k text x _ W2 (tabs_below hT1 hbW) hk)
 clear hbx
 go_enter Tryd.func48,Tryd.ntmps48
 go_wp2_with (go_at_call 39;refine ha.mono ?_;rintro e w1 ⟨rfl,hb2⟩)
 go_ret
 exact ⟨rfl,hb1.trans (hb2.mono hb1.size)⟩
set_option maxRecDepth 100000 in
set_option maxHeartbeats 4000000 in
theorem left_leads (q : Wk) (hs : q.text.size ≤ 1099511627776) (hn : q.n ≤ 1000) : Leads 49 q (againN (pvZ q.text) q.n q.at0) := by
 obtain ⟨text,at0,region,n⟩ := q
 intro W hT
 dsimp only at *
 have hu := Tryd.underlying52
 have hb1 : Below W.heap.size W (W.alloc (.cells #[.string text,.int .i64 at0,.int .i64 region,.int .i64 n] 52)) := (Below.refl _ W).alloc (Nat.le_refl _) _
 have hbx : (W.alloc (.cells #[.string text,.int .i64 at0,.int .i64 region,.int .i64 n] 52)).heap[W.heap.size]? = some (.cells #[.string text,.int .i64 at0,.int .i64 region,.int .i64 n] 52 (0,0)) := World.alloc_heap_new _ _
 have hc1 := (work_cells hbx).2.1
 have hT1 := tabs_below hT hb1
 have ha := again_any text at0 region n hn 50 (pvZ text) (fun _ => True) at0 (W.alloc (.cells #[.string text,.int .i64 at0,.int .i64 region,.int .i64 n] 52)) trivial (fun _ _ => trivial) (enters_of Tryd.func50 (by kernel_rfl) rfl)
  (fun W2 x hx hbW => by
   obtain ⟨k,hk⟩ := Ev.rounds (pvZ_ans text hs x)
   exact cluster_Prev.calls k text x _ W2 (tabs_below hT1 hbW) hk)
 clear hbx
 go_enter Tryd.func49,Tryd.ntmps49
 go_wp2_with (go_at_call 39;refine ha.mono ?_;rintro e w1 ⟨rfl,hb2⟩)
 go_ret
 exact ⟨rfl,hb1.trans (hb2.mono hb1.size)⟩
set_option maxRecDepth 100000 in
set_option maxHeartbeats 4000000 in
theorem onward_leads (q : Wk) (hs : q.text.size ≤ 1099511627776) (hn : q.n ≤ 1000) (h0 : 0 ≤ q.at0 ∧ q.at0 ≤ q.text.size) : Leads 51 q (againN (onwZ q.text) q.n q.at0) := by
 obtain ⟨text,at0,region,n⟩ := q
 intro W hT
 dsimp only at *
 have hu := Tryd.underlying52
 have hb1 : Below W.heap.size W (W.alloc (.cells #[.string text,.int .i64 at0,.int .i64 region,.int .i64 n] 52)) := (Below.refl _ W).alloc (Nat.le_refl _) _
 have hbx : (W.alloc (.cells #[.string text,.int .i64 at0,.int .i64 region,.int .i64 n] 52)).heap[W.heap.size]? = some (.cells #[.string text,.int .i64 at0,.int .i64 region,.int .i64 n] 52 (0,0)) := World.alloc_heap_new _ _
 have hc1 := (work_cells hbx).2.1
 have hT1 := tabs_below hT hb1
 have ha := again_any text at0 region n hn 52 (onwZ text) (fun x => 0 ≤ x ∧ x ≤ text.size) at0 (W.alloc (.cells #[.string text,.int .i64 at0,.int .i64 region,.int .i64 n] 52)) h0 (fun x hx => by have := onw_range text x hx.1 hx.2;omega) (enters_of Tryd.func52 (by kernel_rfl) rfl)
  (fun W2 x hx hbW => by
   exact change_onward.calls text x _ W2 (onw_ev text hs x hx.1 hx.2))
 clear hbx
 go_enter Tryd.func51,Tryd.ntmps51
 go_wp2_with (go_at_call 39;refine ha.mono ?_;rintro e w1 ⟨rfl,hb2⟩)
 go_ret
 exact ⟨rfl,hb1.trans (hb2.mono hb1.size)⟩
set_option maxRecDepth 100000 in
set_option maxHeartbeats 4000000 in
theorem start_leads (q : Wk) (hs : q.text.size ≤ 1099511627776) (h0 : 0 ≤ q.at0 ∧ q.at0 ≤ q.text.size) : Leads 53 q (lstZ q.text q.at0) := by
 obtain ⟨text,at0,region,n⟩ := q
 intro W hT
 dsimp only at *
 have hu := Tryd.underlying52
 have hb1 : Below W.heap.size W (W.alloc (.cells #[.string text,.int .i64 at0,.int .i64 region,.int .i64 n] 52)) := (Below.refl _ W).alloc (Nat.le_refl _) _
 have hbx : (W.alloc (.cells #[.string text,.int .i64 at0,.int .i64 region,.int .i64 n] 52)).heap[W.heap.size]? = some (.cells #[.string text,.int .i64 at0,.int .i64 region,.int .i64 n] 52 (0,0)) := World.alloc_heap_new _ _
 have hc0 := (work_cells hbx).1
 have hc1 := (work_cells hbx).2.1
 have hl := change_lineStart.calls text at0 _ (W.alloc (.cells #[.string text,.int .i64 at0,.int .i64 region,.int .i64 n] 52)) (lst_ev text hs at0 h0.1 h0.2)
 clear hbx
 go_enter Tryd.func53,Tryd.ntmps53
 go_wp2_with (go_at_call 54;refine hl.mono ?_;rintro e w1 ⟨rfl,hb2⟩)
 go_ret
 exact ⟨rfl,hb1.trans (hb2.mono hb1.size)⟩
end Go.Proofs.YtfmnmjoofnbnfaaDoor.U
end
