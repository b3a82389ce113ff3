/- What the law WordCased reaches of this seat's own texts, merged; what nothing uses is left out. -/
import Derived.Test.YtkficbgnjpekaaaDoorZWordCased0
import Derived.Test.YtkficbgnjpekaaaDoorZWordCased1
import Derived.Test.YtkficbgnjpekaaaDoorZWordCased4
import Derived.Test.YtkficbgnjpekaaaDoorZWordCased5
import Derived.Test.YtkficbgnjpekaaaDoorZWordCased6
section
namespace Go.Proofs.YtkficbgnjpekaaaDoor.Pu
open Go Go.RowKit Go.Proofs.YtkficbgnjpekaaaDoor.Mu Go.Proofs.YtkficbgnjpekaaaDoor.U Go.Proofs.YtkficbgnjpekaaaDoorW.PrintWords Go.Proofs.YtkficbgnjpekaaaDoorW.PrintLast Go.Proofs.YtkficbgnjpekaaaDoorW.PrintMore
theorem awake_ans : Ev (fun k => bodkinlaw05_awake.f k) true := Ev.of (fun k => bodkinlaw05_awake.mono k) (k := 200) (by kernel_rfl)
end Go.Proofs.YtkficbgnjpekaaaDoor.Pu
end
section
namespace Go.Proofs.YtkficbgnjpekaaaDoor.Pu
open Go Go.RowKit Go.Proofs.YtkficbgnjpekaaaDoor.Mu Go.Proofs.YtkficbgnjpekaaaDoor.U Go.Proofs.YtkficbgnjpekaaaDoorW.PrintWords Go.Proofs.YtkficbgnjpekaaaDoorW.PrintLast Go.Proofs.YtkficbgnjpekaaaDoorW.PrintMore
/-- The bytes of a text from x on. -/
def bytsAt (s : ByteArray) (x n : Nat) : List Int := (List.range n).map fun i => (byt s (x + i) : Int)
/-- A good unit's bytes are its character's encoding. -/
theorem enc_unit (s : ByteArray) (x : Nat) (h : 0 ≤ uC s x) : okC (uC s x) ∧ encI (uC s x) = bytsAt s x (uN s x) := by
 have := byt_lt s x;have := byt_lt s (x + 1);have := byt_lt s (x + 2);have := byt_lt s (x + 3)
 unfold okC encI bytsAt
 rcases uC_cases s x with h1 | h1 | h1 | h1 | h1
 ·refine ⟨by omega,?_⟩
  rw [if_pos (by omega),h1.2.2,h1.2.1];rfl
 ·omega
 ·obtain ⟨a,b,c,d,e,f,g⟩ := h1
  refine ⟨by omega,?_⟩
  rw [if_neg (by omega),if_pos (by omega),g]
  show _ = [(byt s x : Int),(byt s (x + 1) : Int)]
  rw [show 192 + uC s x / 64 = (byt s x : Int) by omega,show 128 + uC s x % 64 = (byt s (x + 1) : Int) by omega]
 ·obtain ⟨a,b,c,d,d2,e,e2,f,g⟩ := h1
  refine ⟨by omega,?_⟩
  rw [if_neg (by omega),if_neg (by omega),if_pos (by omega),g]
  show _ = [(byt s x : Int),(byt s (x + 1) : Int),(byt s (x + 2) : Int)]
  rw [show 224 + uC s x / 4096 = (byt s x : Int) by omega,show 128 + uC s x / 64 % 64 = (byt s (x + 1) : Int) by omega,show 128 + uC s x % 64 = (byt s (x + 2) : Int) by omega]
 ·obtain ⟨a,b,c,d,d2,d3,e,e2,f,g⟩ := h1
  refine ⟨by omega,?_⟩
  rw [if_neg (by omega),if_neg (by omega),if_neg (by omega),g]
  show _ = [(byt s x : Int),(byt s (x + 1) : Int),(byt s (x + 2) : Int),(byt s (x + 3) : Int)]
  rw [show 240 + uC s x / 262144 = (byt s x : Int) by omega,show 128 + uC s x / 4096 % 64 = (byt s (x + 1) : Int) by omega,show 128 + uC s x / 64 % 64 = (byt s (x + 2) : Int) by omega,show 128 + uC s x % 64 = (byt s (x + 3) : Int) by omega]
/-- Where a character's encoding lies,the unit is that character. -/
theorem unit_enc (s : ByteArray) (x : Nat) (c : Int) (h : okC c) (hx : x + (encI c).length ≤ s.size) (hb : bytsAt s x (encI c).length = encI c) : uC s x = c ∧ uN s x = (encI c).length := by
 unfold okC at h
 have hd := dec_eq s x
 unfold encI at hx hb ⊢
 by_cases h1 : c < 128
 ·rw [if_pos h1] at hx hb ⊢
  have e0 : (byt s x : Int) = c := by injection hb
  rw [dec_ascii _ _ _ _ _ (by omega)] at hd
  have := uC_of s x _ _ hd (by omega)
  exact ⟨by omega,this.2⟩
 rw [if_neg h1] at hx hb ⊢
 by_cases h2 : c < 2048
 ·rw [if_pos h2] at hx hb ⊢
  have hb : [(byt s x : Int),(byt s (x + 1) : Int)] = [192 + c / 64,128 + c % 64] := hb
  injection hb with e0 hb;injection hb with e1 hb
  simp only [List.length_cons,List.length_nil] at hx
  rw [dec_two _ _ _ _ _ (by omega) (by omega) (by omega) (by omega) (by omega)] at hd
  have := uC_of s x _ _ hd (by omega)
  exact ⟨by omega,this.2⟩
 rw [if_neg h2] at hx hb ⊢
 by_cases h3 : c < 65536
 ·rw [if_pos h3] at hx hb ⊢
  have hb : [(byt s x : Int),(byt s (x + 1) : Int),(byt s (x + 2) : Int)] = [224 + c / 4096,128 + c / 64 % 64,128 + c % 64] := hb
  injection hb with e0 hb;injection hb with e1 hb;injection hb with e2 hb
  simp only [List.length_cons,List.length_nil] at hx
  rw [dec_three _ _ _ _ _ (by omega) (by omega) (by omega) (by omega) (by omega) (by omega) (by omega)] at hd
  have := uC_of s x _ _ hd (by omega)
  exact ⟨by omega,this.2⟩
 rw [if_neg h3] at hx hb ⊢
 have hb : [(byt s x : Int),(byt s (x + 1) : Int),(byt s (x + 2) : Int),(byt s (x + 3) : Int)] = [240 + c / 262144,128 + c / 4096 % 64,128 + c / 64 % 64,128 + c % 64] := hb
 injection hb with e0 hb;injection hb with e1 hb;injection hb with e2 hb;injection hb with e3 hb
 simp only [List.length_cons,List.length_nil] at hx
 rw [dec_four _ _ _ _ _ (by omega) (by omega) (by omega) (by omega) (by omega) (by omega) (by omega) (by omega)] at hd
 have := uC_of s x _ _ hd (by omega)
 exact ⟨by omega,this.2⟩
theorem bytsAt_len (s : ByteArray) (x n : Nat) : (bytsAt s x n).length = n := by simp [bytsAt]
theorem ext_list {s t : ByteArray} (hs : s.size = t.size) (h : ∀ i,i < s.size → byt s i = byt t i) : s.toList = t.toList := by
 rw [Lib.toList_data,Lib.toList_data]
 apply List.ext_getElem
 ·rw [← Lib.size_eq,← Lib.size_eq];exact hs
 ·intro i h1 h2
  have := h i (by rw [Lib.size_eq];exact h1)
  unfold byt at this
  rw [get!_eq,get!_eq,List.getD_eq_getElem?_getD,List.getD_eq_getElem?_getD,List.getElem?_eq_getElem h1,List.getElem?_eq_getElem h2] at this
  exact UInt8.toNat_inj.1 this
theorem byt_str (l : List Int) (i : Nat) (h : i < l.length) (hl : ∀ x ∈ l,0 ≤ x ∧ x < 256) : (byt (strOfNums l) i : Int) = l.getD i 0 := by
 unfold byt
 rw [get!_eq,strOfNums_data,List.getD_eq_getElem?_getD,List.getD_eq_getElem?_getD,List.getElem?_map,List.getElem?_eq_getElem h]
 have := hl _ (List.getElem_mem h)
 show (((UInt8.ofNat (l[i]).toNat).toNat : Nat) : Int) = l[i]
 rw [UInt8.toNat_ofNat']
 omega
theorem getD_bytsAt (s : ByteArray) (x n i : Nat) (h : i < n) : (bytsAt s x n).getD i 0 = (byt s (x + i) : Int) := by
 unfold bytsAt
 rw [List.getD_eq_getElem?_getD,List.getElem?_map,List.getElem?_eq_getElem (by simpa using h)]
 simp
end Go.Proofs.YtkficbgnjpekaaaDoor.Pu
end
section
namespace Go.Proofs.YtkficbgnjpekaaaDoor.Pu
open Go Go.RowKit Go.Proofs.YtkficbgnjpekaaaDoor.Mu Go.Proofs.YtkficbgnjpekaaaDoor.U Go.Proofs.YtkficbgnjpekaaaDoorW.PrintWords Go.Proofs.YtkficbgnjpekaaaDoorW.PrintLast Go.Proofs.YtkficbgnjpekaaaDoorW.PrintMore
set_option linter.unusedVariables false
set_option linter.unusedSimpArgs false
def casL : List S55 := match bodkinref05_Pairs.f 200 with | some l => l | none => []
def casesOk : Bool := casL.all fun p => decide (upC p.f0 = p.f1) && decide (lowC p.f1 = p.f0)
def restOk : Bool := (List.range 1300).all fun n => (decide (upC (n : Int) = n) || casL.any (fun p => decide (p.f0 = n))) && (decide (lowC (n : Int) = n) || casL.any (fun p => decide (p.f1 = n)))
theorem cases_ok : casesOk = true := by kernel_rfl
theorem rest_ok : restOk = true := by kernel_rfl
theorem upC_far (c : Int) (h : c < 0 ∨ 1300 ≤ c) : upC c = c := by
 have e3 : runB c = false := by unfold runB;rw [decide_eq_false_iff_not];omega
 have o1 : oddB c 257 311 = false := by unfold oddB;rw [decide_eq_false_iff_not];omega
 have o2 : oddB c 331 375 = false := by unfold oddB;rw [decide_eq_false_iff_not];omega
 have o3 : oddB c 1121 1153 = false := by unfold oddB;rw [decide_eq_false_iff_not];omega
 unfold upC low3
 rw [e3,if_neg (by simp)]
 unfold low2
 rw [if_neg (by rw [decide_eq_true_iff];omega),if_neg (by omega)]
 unfold low1
 rw [o1,Bool.and_false,if_neg (by simp),o2,if_neg (by simp),o3,if_neg (by simp)]
theorem lowC_far (c : Int) (h : c < 0 ∨ 1300 ≤ c) : lowC c = c := by
 have hn : ∀ f r,lowTry c f r = r := fun f r => by unfold lowTry;rw [if_neg (by omega)]
 unfold lowC
 rw [if_neg (by omega),hn,hn,hn]
theorem up_of (p : S55) (h : p ∈ casL) : upC p.f0 = p.f1 ∧ lowC p.f1 = p.f0 := by
 have := List.all_eq_true.1 cases_ok p h
 simp only [Bool.and_eq_true,decide_eq_true_eq] at this
 exact this
theorem rest_of (c : Int) : (upC c = c ∨ ∃ p ∈ casL,p.f0 = c) ∧ (lowC c = c ∨ ∃ p ∈ casL,p.f1 = c) := by
 by_cases h : c < 0 ∨ 1300 ≤ c
 ·exact ⟨.inl (upC_far c h),.inl (lowC_far c h)⟩
 ·have := List.all_eq_true.1 rest_ok c.toNat (List.mem_range.2 (by omega))
  have e : ((c.toNat : Nat) : Int) = c := by omega
  rw [e] at this
  simp only [Bool.and_eq_true,Bool.or_eq_true,decide_eq_true_eq,List.any_eq_true] at this
  exact this
theorem upper_ev (c : Int) : Ev (fun k => word_UpperOf.f k c) (upC c) := Ev.of (fun k => word_UpperOf.mono _ k) (upper7 c)
end Go.Proofs.YtkficbgnjpekaaaDoor.Pu
end
section
namespace Go.Proofs.YtkficbgnjpekaaaDoor.Pu
open Go Go.RowKit Go.Proofs.YtkficbgnjpekaaaDoor.Mu Go.Proofs.YtkficbgnjpekaaaDoor.U Go.Proofs.YtkficbgnjpekaaaDoorW.PrintWords Go.Proofs.YtkficbgnjpekaaaDoorW.PrintLast Go.Proofs.YtkficbgnjpekaaaDoorW.PrintMore
set_option linter.unusedVariables false
set_option linter.unusedSimpArgs false
/-- Does a cluster stand in a word? -/
def wC (s : ByteArray) (c : S61) : Bool := wAt s c.f0.toNat
def spR (s : ByteArray) : Option (Int × Int) → List S61 → List S32
 | none,[] => []
 | some (a,b),[] => [⟨a,b⟩]
 | none,c :: cs => if wC s c = true then spR s (some (c.f0,c.f1)) cs else spR s none cs
 | some (a,b),c :: cs => if wC s c = true then spR s (some (a,c.f1)) cs else ⟨a,b⟩ :: spR s none cs
theorem sp_fold (s : ByteArray) : ∀ (cs : List S61) (L : List S32),(cs.foldl (spStep s) (false,L)).2 = L ++ spR s none cs ∧ ∀ a b,(cs.foldl (spStep s) (true,L ++ [⟨a,b⟩])).2 = L ++ spR s (some (a,b)) cs
 | [],L => ⟨by simp [spR],fun a b => by simp [spR]⟩
 | c :: cs,L => by
  refine ⟨?_,fun a b => ?_⟩
  ·rw [List.foldl_cons,spR]
   cases hw : wC s c with
   | true => rw [spStep_new s L c hw,(sp_fold s cs L).2,if_pos rfl]
   | false => rw [spStep_off s false L c hw,(sp_fold s cs L).1,if_neg (by simp)]
  ·rw [List.foldl_cons,spR]
   cases hw : wC s c with
   | true => rw [spStep_on s L a b c hw,(sp_fold s cs L).2,if_pos rfl]
   | false => rw [spStep_off s true (L ++ [(⟨a,b⟩ : S32)]) c hw,(sp_fold s cs (L ++ [(⟨a,b⟩ : S32)])).1,if_neg (by simp),List.append_assoc];rfl
theorem spans_runs (s : ByteArray) : spansL s = spR s none (clusL s) := by
 have := (sp_fold s (clusL s) []).1
 rw [List.nil_append] at this
 exact this
section
variable (s : ByteArray) (hs : s.size ≤ 1099511627776)
end
theorem spans_ev (s : ByteArray) (hs : s.size ≤ 1099511627776) : word_Spans.f s = some (spansL s) := by unfold word_Spans.f;rw [if_pos hs]
theorem same_loop (L : List S32) (hL : L.length ≤ 1099511627776) : ∀ n i : Nat,i + n = L.length → Ev (fun k => bodkinlaw05_same.l0 k L L i) true := by
 intro n
 induction n with
 | zero => intro i hi;exact Ev.step (fun k => bodkinlaw05_same.l0.eq_2 ..) (ev_neg (by omega) (Ev.now _))
 | succ n ih =>
  intro i hi
  refine Ev.step (fun k => bodkinlaw05_same.l0.eq_2 ..) (ev_pos (by omega) (ev_pos (by omega) (ev_pos (by omega) (ev_neg (by simp) ?_))))
  rw [w64 (by omega) (by omega)]
  exact ih (i + 1) (by omega)
theorem same_ans (L : List S32) (hL : L.length ≤ 1099511627776) : Ev (fun k => bodkinlaw05_same.f k L L) true := ev_pos rfl (same_loop L hL L.length 0 (by omega))
end Go.Proofs.YtkficbgnjpekaaaDoor.Pu
end
section
namespace Go.Proofs.YtkficbgnjpekaaaDoor.Pu
open Go Go.RowKit Go.Proofs.YtkficbgnjpekaaaDoor.Mu Go.Proofs.YtkficbgnjpekaaaDoor.U Go.Proofs.YtkficbgnjpekaaaDoorW.PrintWords Go.Proofs.YtkficbgnjpekaaaDoorW.PrintLast Go.Proofs.YtkficbgnjpekaaaDoorW.PrintMore
set_option linter.unusedVariables false
set_option linter.unusedSimpArgs false
theorem wC_at (s : ByteArray) (x : Nat) : wC s (clAt s x) = wAt s x := by
 unfold wC;rw [show (clAt s x).f0 = (x : Int) from rfl,Int.toNat_natCast]
theorem clAt_f0 (s : ByteArray) (x : Nat) : (clAt s x).f0 = (x : Int) := rfl
theorem clAt_f1 (s : ByteArray) (x : Nat) : (clAt s x).f1 = (nxt s x : Int) := rfl
/-- Spans in order,from x on. -/
structure InOrd (s : ByteArray) (x : Int) (l : List S32) : Prop where
 one : ∀ p ∈ l,x ≤ p.f0 ∧ p.f0 < p.f1 ∧ CBI s p.f0 ∧ CBI s p.f1
 ord : l.Pairwise (fun p q => p.f1 < q.f0)
theorem InOrd.nil (s : ByteArray) (x : Int) : InOrd s x [] := ⟨(fun _ h => by cases h),List.Pairwise.nil⟩
theorem InOrd.mono {s : ByteArray} {x y : Int} {l : List S32} (h : InOrd s y l) (hxy : x ≤ y) : InOrd s x l := ⟨fun p hp => ⟨by have := (h.one p hp).1;omega,(h.one p hp).2⟩,h.ord⟩
theorem InOrd.cons {s : ByteArray} {a b x : Int} {l : List S32} (h : InOrd s x l) (hx : b < x) (hab : a < b) (ha : CBI s a) (hb : CBI s b) : InOrd s a (⟨a,b⟩ :: l) :=
 ⟨(fun p hp => by
  rcases List.mem_cons.1 hp with rfl | hp
  ·exact ⟨Int.le_refl _,hab,ha,hb⟩
  ·have := h.one p hp;exact ⟨by omega,this.2⟩),List.pairwise_cons.2 ⟨(fun q hq => by have := (h.one q hq).1;show b < q.f0;omega),h.ord⟩⟩
theorem sp_ord (s : ByteArray) : ∀ n x : Nat,s.size - x ≤ n → CB s x → InOrd s x (spR s none (ctl s x)) ∧ ∀ a : Int,CBI s a → a < x → InOrd s a (spR s (some (a,(x : Int))) (ctl s x)) := by
 intro n
 induction n with
 | zero =>
  intro x hn hc
  rw [ctl_end s x (by omega)]
  exact ⟨InOrd.nil _ _,fun a ha hx => (InOrd.nil s (x + 1)).cons (by omega) hx ha ((cbI_nat _ _).2 hc)⟩
 | succ n ih =>
  intro x hn hc
  by_cases hx : x < s.size
  ·have h1 := nxt_pos s x hx
   have hcn := nxt_cb s x hc.1 hx
   obtain ⟨i1,i2⟩ := ih (nxt s x) (by omega) hcn
   rw [ctl_go s x hx]
   have hcx : CBI s (x : Int) := (cbI_nat _ _).2 hc
   refine ⟨?_,fun a ha hax => ?_⟩
   ·rw [spR]
    by_cases hw : wC s (clAt s x) = true
    ·rw [if_pos hw,clAt_f0,clAt_f1];exact i2 x hcx (by omega)
    ·rw [if_neg hw];exact i1.mono (by omega)
   ·rw [spR]
    by_cases hw : wC s (clAt s x) = true
    ·rw [if_pos hw,clAt_f1];exact i2 a ha (by omega)
    ·rw [if_neg hw];exact i1.cons (by omega) hax ha hcx
  ·rw [ctl_end s x (by omega)]
   exact ⟨InOrd.nil _ _,fun a ha hx => (InOrd.nil s (x + 1)).cons (by omega) hx ha ((cbI_nat _ _).2 hc)⟩
theorem spans_ord (s : ByteArray) : InOrd s 0 (spansL s) := by
 rw [spans_runs,clusL_ctl]
 exact (sp_ord s s.size 0 (by omega) (cb_zero s)).1
theorem ord_split (s : ByteArray) (l l2 : List S32) (p : S32) (h : InOrd s 0 (l ++ p :: l2)) : (∀ q ∈ l,q.f1 < p.f0) ∧ (∀ q ∈ l2,p.f1 < q.f0) ∧ (0 ≤ p.f0 ∧ p.f0 < p.f1 ∧ p.f1 ≤ s.size) := by
 have hp := List.pairwise_append.1 h.ord
 have hc := List.pairwise_cons.1 hp.2.1
 have ho := h.one p (by simp)
 have := cbI_le ho.2.2.2
 exact ⟨fun q hq => hp.2.2 q hq p (by simp),hc.1,ho.1,ho.2.1,this.2⟩
theorem split_at {α : Type} (l : List α) (i : Nat) (h : i < l.length) : l = l.take i ++ l[i] :: l.drop (i + 1) := by
 rw [← List.drop_eq_getElem_cons h,List.take_append_drop]
end Go.Proofs.YtkficbgnjpekaaaDoor.Pu
end
section
namespace Go.Proofs.YtkficbgnjpekaaaDoor.Pu
open Go Go.RowKit Go.Proofs.YtkficbgnjpekaaaDoor.Mu Go.Proofs.YtkficbgnjpekaaaDoor.U Go.Proofs.YtkficbgnjpekaaaDoorW.PrintWords Go.Proofs.YtkficbgnjpekaaaDoorW.PrintLast Go.Proofs.YtkficbgnjpekaaaDoorW.PrintMore
set_option linter.unusedVariables false
set_option linter.unusedSimpArgs false
/-- A form: each character becomes one of the same length,class and kind. -/
structure GoodF (F : Int → Int → Int) : Prop where
 ok : ∀ a c,okC c → okC (F a c)
 len : ∀ a c,okC c → (encI (F a c)).length = (encI c).length
 cls : ∀ a c,okC c → cls (F a c) = cls c
 word : ∀ a c,okC c → wordB (F a c) = wordB c
 cr : ∀ a c,okC c → (F a c = 13 ↔ c = 13)
 nl : ∀ a c,okC c → (F a c = 10 ↔ c = 10)
/-- The changed text. -/
def chg (s : ByteArray) (F : Int → Int → Int) : ByteArray := strOfNums (eachT s F)
section
variable {s : ByteArray} {F : Int → Int → Int}
theorem good_unit (hF : GoodF F) (i : Nat) (h : ¬ uC s i < 0) : okC (uC s i) ∧ okC (F i (uC s i)) ∧ eachU s F i = encI (F i (uC s i)) ∧ (encI (F i (uC s i))).length = uN s i := by
 obtain ⟨h1,h2⟩ := enc_unit s i (by omega)
 have h3 := hF.ok i _ h1
 have h4 := hF.len i _ h1
 have h5 := congrArg List.length h2
 rw [bytsAt_len] at h5
 refine ⟨h1,h3,?_,by omega⟩
 unfold eachU
 rw [if_neg h]
 unfold encO
 rw [if_pos h3]
theorem eachU_length (hF : GoodF F) (i : Nat) (hi : i < s.size) : (eachU s F i).length = uN s i := by
 by_cases h : uC s i < 0
 ·unfold eachU
  rw [if_pos h,bytesOf_length,size_extract _ _ _ (uN_le s i hi)];omega
 ·obtain ⟨_,_,h3,h4⟩ := good_unit hF i h
  rw [h3,h4]
theorem bytesOf_byte (b : ByteArray) : ∀ x ∈ bytesOf b,0 ≤ x ∧ x < 256 := by
 intro x hx
 unfold bytesOf at hx
 obtain ⟨u,_,rfl⟩ := List.mem_map.1 hx
 have := u.toNat_lt
 show 0 ≤ (u.toNat : Int) ∧ (u.toNat : Int) < 256
 omega
theorem eachU_byte (i : Nat) : ∀ x ∈ eachU s F i,0 ≤ x ∧ x < 256 := by
 unfold eachU
 split
 ·exact bytesOf_byte _
 ·exact encO_byte _
theorem eachL_byte : ∀ k i,∀ x ∈ eachL s F k i,0 ≤ x ∧ x < 256
 | 0,_,x,h => by cases h
 | k + 1,i,x,h => by
  rw [eachL] at h
  split at h
  ·rcases List.mem_append.1 h with h | h
   ·exact eachU_byte i x h
   ·exact eachL_byte k _ x h
  ·cases h
theorem eachL_length (hF : GoodF F) : ∀ k i,s.size ≤ i + k → i ≤ s.size → (eachL s F k i).length = s.size - i
 | 0,i,hk,hi => by rw [eachL];simp;omega
 | k + 1,i,hk,hi => by
  rw [eachL]
  have hp := uN_pos s i
  split
  ·rename_i h
   have hle := uN_le s i h
   rw [List.length_append,eachU_length hF i h,eachL_length hF k _ (by omega) hle];omega
  ·simp;omega
theorem chg_size (hF : GoodF F) : (chg s F).size = s.size := by
 unfold chg eachT
 rw [strOfNums_size,eachL_length hF _ _ (by omega) (Nat.zero_le _)];omega
/-- Where a unit's bytes lie in the changed text. -/
theorem each_split (hF : GoodF F) : ∀ n i : Nat,i ≤ n → Bd s i → ∃ pre k,s.size ≤ i + k ∧ pre.length = i ∧ eachT s F = pre ++ eachL s F k i := by
 intro n
 induction n with
 | zero =>
  intro i hi _
  obtain rfl : i = 0 := by omega
  exact ⟨[],s.size,by omega,rfl,rfl⟩
 | succ n ih =>
  intro i hi hb
  by_cases h0 : i = 0
  ·subst h0;exact ⟨[],s.size,by omega,rfl,rfl⟩
  obtain ⟨y,hy,hyi⟩ := bd_prev s i hb (by omega)
  have hp := uN_pos s y
  have hbs := hb.1
  obtain ⟨pre,k,h1,h2,h3⟩ := ih y (by omega) hy
  obtain ⟨k,rfl⟩ : ∃ m,k = m + 1 := ⟨k - 1,by omega⟩
  rw [eachL,if_pos (by omega),hyi,← List.append_assoc] at h3
  exact ⟨pre ++ eachU s F y,k,by omega,by rw [List.length_append,eachU_length hF y (by omega)];omega,h3⟩
theorem chg_byt (hF : GoodF F) (i : Nat) (hb : Bd s i) (hi : i < s.size) (j : Nat) (hj : j < uN s i) : (byt (chg s F) (i + j) : Int) = (eachU s F i).getD j 0 := by
 obtain ⟨pre,k,h1,h2,h3⟩ := each_split hF i i (Nat.le_refl _) hb
 obtain ⟨k,rfl⟩ : ∃ m,k = m + 1 := ⟨k - 1,by omega⟩
 rw [eachL,if_pos hi] at h3
 have hl := eachU_length hF i hi
 have hB : ∀ x ∈ eachT s F,0 ≤ x ∧ x < 256 := eachL_byte _ _
 unfold chg
 rw [byt_str (eachT s F) (i + j) (by rw [h3,List.length_append,List.length_append];omega) hB,h3,List.getD_eq_getElem?_getD,List.getD_eq_getElem?_getD,List.getElem?_append_right (by omega),h2,show i + j - i = j by omega,List.getElem?_append_left (by omega)]
theorem chg_good (hF : GoodF F) (i : Nat) (hb : Bd s i) (hi : i < s.size) (h : ¬ uC s i < 0) : uC (chg s F) i = F i (uC s i) ∧ uN (chg s F) i = uN s i := by
 obtain ⟨h1,h2,h3,h4⟩ := good_unit hF i h
 have hle := uN_le s i hi
 have := unit_enc (chg s F) i (F i (uC s i)) h2 (by rw [chg_size hF,h4];exact hle) ?_
 ·rw [h4] at this;exact this
 ·rw [h4]
  apply List.ext_getElem
  ·rw [bytsAt_len,h4]
  ·intro j hj hj2
   have e := chg_byt hF i hb hi j (by omega)
   rw [h3,List.getD_eq_getElem?_getD,List.getElem?_eq_getElem hj2] at e
   have e2 := getD_bytsAt (chg s F) i (uN s i) j (by omega)
   rw [List.getD_eq_getElem?_getD,List.getElem?_eq_getElem hj] at e2
   exact (e2.trans e)
theorem bytesOf_one (s : ByteArray) (i : Nat) (hi : i < s.size) : bytesOf (s.extract i (i + 1)) = [(byt s i : Int)] := by
 unfold bytesOf byt
 rw [Lib.extract_data,show i + 1 - i = 1 by omega,get!_eq]
 have hl : i < s.data.toList.length := by rw [← Lib.size_eq];exact hi
 rw [List.drop_eq_getElem_cons hl,List.getD_eq_getElem?_getD,List.getElem?_eq_getElem hl]
 rfl
theorem chg_bad_byt (hF : GoodF F) (i : Nat) (hb : Bd s i) (hi : i < s.size) (h : uC s i < 0) : byt (chg s F) i = byt s i := by
 have h1 := uC_neg_one s i h
 have e := chg_byt hF i hb hi 0 (by omega)
 unfold eachU at e
 rw [if_pos h,h1,bytesOf_one s i hi,Nat.add_zero] at e
 have e : (byt (chg s F) i : Int) = (byt s i : Int) := e
 omega
theorem chg_bad (hF : GoodF F) (i : Nat) (hb : Bd s i) (hi : i < s.size) (h : uC s i < 0) : uC (chg s F) i = -1 ∧ uN (chg s F) i = 1 := by
 have h1 := uC_neg_one s i h
 have hz := chg_size (s := s) hF
 have hbad := bad_or s i
 have hby := chg_bad_byt hF i hb hi h
 have hone : uN (chg s F) i = 1 := by
  by_cases h2 : 2 ≤ uN (chg s F) i
  ·exfalso
   have hle := uN_le (chg s F) i (by omega)
   have key : ∀ j,j < uN (chg s F) i → Bd s (i + j) ∧ i + j < s.size ∧ uC s (i + j) < 0 ∧ byt (chg s F) (i + j) = byt s (i + j) := by
    intro j
    induction j with
    | zero => intro _;exact ⟨hb,hi,h,hby⟩
    | succ j ih =>
     intro hj
     obtain ⟨g1,g2,g3,g4⟩ := ih (by omega)
     have hn := bd_next s (i + j) g1 g2
     rw [uC_neg_one s _ g3] at hn
     have e : i + j + 1 = i + (j + 1) := by omega
     rw [e] at hn
     have hlt : i + (j + 1) < s.size := by omega
     have hcont := inner_cont (chg s F) i (i + (j + 1)) (by omega) (by omega)
     have hneg : uC s (i + (j + 1)) < 0 := by
      by_cases h5 : uC s (i + (j + 1)) < 0
      ·exact h5
      ·exfalso
       have h6 := chg_good hF _ hn hlt h5
       have h7 := cont_one (chg s F) _ hcont
       have h8 := (good_unit hF _ h5).2.1
       unfold okC at h8
       omega
     exact ⟨hn,hlt,hneg,chg_bad_byt hF _ hn hlt hneg⟩
   have e := dec_prefix (chg s F) s i i h2 (fun j hj => (key j hj).2.2.2.symm) (by omega)
   have : uN s i = uN (chg s F) i := by unfold uN;rw [e]
   omega
  ·have := uN_pos (chg s F) i;omega
 have hb2 := bad_or (chg s F) i
 refine ⟨?_,hone⟩
 rw [hby] at hb2
 omega
/-- The units of the changed text. -/
theorem chg_unit (hF : GoodF F) (i : Nat) (hb : Bd s i) (hi : i < s.size) : uN (chg s F) i = uN s i ∧ (uC s i < 0 ∧ uC s i = -1 ∧ uC (chg s F) i = -1 ∨ ¬ uC s i < 0 ∧ okC (uC s i) ∧ uC (chg s F) i = F i (uC s i)) := by
 by_cases h : uC s i < 0
 ·have := chg_bad hF i hb hi h
  have h1 := uC_neg_one s i h
  have h2 := uC_range s i
  exact ⟨by omega,.inl ⟨h,by omega,this.1⟩⟩
 ·have := chg_good hF i hb hi h
  exact ⟨this.2,.inr ⟨h,(good_unit hF i h).1,this.1⟩⟩
theorem chg_bd (hF : GoodF F) (i : Nat) : Bd (chg s F) i ↔ Bd s i := by
 have hz := chg_size (s := s) hF
 constructor
 ·have : ∀ n i : Nat,i ≤ n → Bd (chg s F) i → Bd s i := by
   intro n
   induction n with
   | zero =>
    intro i hi _
    obtain rfl : i = 0 := by omega
    exact bd_zero s
   | succ n ih =>
    intro i hi hb
    by_cases h0 : i = 0
    ·subst h0;exact bd_zero s
    obtain ⟨y,hy,hyi⟩ := bd_prev _ i hb (by omega)
    have hp := uN_pos (chg s F) y
    have hbs := hb.1
    have hy2 := ih y (by omega) hy
    rw [← hyi,(chg_unit hF y hy2 (by omega)).1]
    exact bd_next s y hy2 (by omega)
  exact this i i (Nat.le_refl _)
 ·have : ∀ n i : Nat,i ≤ n → Bd s i → Bd (chg s F) i := by
   intro n
   induction n with
   | zero =>
    intro i hi _
    obtain rfl : i = 0 := by omega
    exact bd_zero _
   | succ n ih =>
    intro i hi hb
    by_cases h0 : i = 0
    ·subst h0;exact bd_zero _
    obtain ⟨y,hy,hyi⟩ := bd_prev s i hb (by omega)
    have hp := uN_pos s y
    have hbs := hb.1
    have hy2 := ih y (by omega) hy
    rw [← hyi,← (chg_unit hF y hy (by omega)).1]
    exact bd_next _ y hy2 (by omega)
  exact this i i (Nat.le_refl _)
theorem wordB_bad : wordB (-1) = false := by kernel_rfl
/-- What is asked of a unit is the same in the changed text. -/
theorem chg_kind (hF : GoodF F) (i : Nat) (hb : Bd s i) (hi : i < s.size) : cls (uC (chg s F) i) = cls (uC s i) ∧ wordB (uC (chg s F) i) = wordB (uC s i) ∧ (uC (chg s F) i = 13 ↔ uC s i = 13) ∧ (uC (chg s F) i = 10 ↔ uC s i = 10) := by
 rcases (chg_unit hF i hb hi).2 with ⟨_,h1,h2⟩ | ⟨_,h1,h2⟩
 ·rw [h1,h2];exact ⟨rfl,rfl,Iff.rfl,Iff.rfl⟩
 ·rw [h2];exact ⟨hF.cls _ _ h1,hF.word _ _ h1,hF.cr _ _ h1,hF.nl _ _ h1⟩
theorem chg_glue (hF : GoodF F) (i j : Nat) (hi : Bd s i) (hj : Bd s j) (hi2 : i < s.size) (hj2 : j < s.size) : glueB (uC (chg s F) i) (uC (chg s F) j) = glueB (uC s i) (uC s j) := by
 obtain ⟨a1,_,a3,a4⟩ := chg_kind hF i hi hi2
 obtain ⟨b1,_,b3,b4⟩ := chg_kind hF j hj hj2
 rw [Bool.eq_iff_iff,glue_iff,glue_iff,a1,b1,a3,b4]
theorem chg_nxt (hF : GoodF F) : ∀ n i : Nat,s.size - i ≤ n → i < s.size → Bd s i → nxt (chg s F) i = nxt s i := by
 have hz := chg_size (s := s) hF
 intro n
 induction n with
 | zero => intro i hn hi _;omega
 | succ n ih =>
  intro i hn hi hb
  have hp := uN_pos s i
  have hu := (chg_unit hF i hb hi).1
  have hbn := bd_next s i hb hi
  rw [nxt_eq _ i (by omega),nxt_eq s i hi,hu,hz]
  by_cases h : i + uN s i < s.size
  ·rw [chg_glue hF i _ hb hbn hi h]
   by_cases hg : glueB (uC s i) (uC s (i + uN s i)) = true
   ·rw [if_pos ⟨h,hg⟩,if_pos ⟨h,hg⟩];exact ih _ (by omega) h hbn
   ·rw [if_neg (fun h' => hg h'.2),if_neg (fun h' => hg h'.2)]
  ·rw [if_neg (fun h' => h h'.1),if_neg (fun h' => h h'.1)]
theorem chg_wAt (hF : GoodF F) (i : Nat) (hb : Bd s i) (hi : i < s.size) : wAt (chg s F) i = wAt s i := (chg_kind hF i hb hi).2.1
theorem chg_runs (hF : GoodF F) : ∀ n i : Nat,s.size - i ≤ n → CB s i → ∀ o,spR (chg s F) o (ctl (chg s F) i) = spR s o (ctl s i) := by
 have hz := chg_size (s := s) hF
 intro n
 induction n with
 | zero => intro i hn _ o;rw [ctl_end _ i (by omega),ctl_end s i (by omega)];cases o <;> rfl
 | succ n ih =>
  intro i hn hc o
  by_cases hi : i < s.size
  ·have h1 := nxt_pos s i hi
   have e := chg_nxt hF _ i (Nat.le_refl _) hi hc.1
   have hw := chg_wAt hF i hc.1 hi
   have hg := ih (nxt s i) (by omega) (nxt_cb s i hc.1 hi)
   rw [ctl_go _ i (by omega),ctl_go s i hi,e]
   rcases o with _ | ⟨a,b⟩
   ·rw [spR,spR,wC_at,wC_at,hw,clAt_f0,clAt_f1,clAt_f0,clAt_f1,e,hg,hg]
   ·rw [spR,spR,wC_at,wC_at,hw,clAt_f1,clAt_f1,e,hg,hg]
  ·rw [ctl_end _ i (by omega),ctl_end s i (by omega)];rcases o with _ | ⟨a,b⟩ <;> rfl
/-- The words stay. -/
theorem chg_spans (hF : GoodF F) : spansL (chg s F) = spansL s := by
 rw [spans_runs,spans_runs,clusL_ctl,clusL_ctl]
 exact chg_runs hF _ 0 (Nat.le_refl _) (cb_zero s) none
theorem eachU_chg {G : Int → Int → Int} (hF : GoodF F) (i : Nat) (hb : Bd s i) (hi : i < s.size) : eachU (chg s F) G i = eachU s (fun a c => G a (F a c)) i := by
 have hz := chg_size (s := s) hF
 have hle := uN_le s i hi
 unfold eachU
 rcases (chg_unit hF i hb hi) with ⟨hn,⟨h0,h1,h2⟩ | ⟨h0,h1,h2⟩⟩
 ·have e1 := uC_neg_one s i h0
  rw [h2,if_pos (by omega),if_pos h0,hn,e1,bytesOf_one _ i (by omega),bytesOf_one s i hi,chg_bad_byt hF i hb hi h0]
 ·have h3 := hF.ok i _ h1
  unfold okC at h3
  rw [h2,if_neg (by omega),if_neg h0]
theorem eachL_chg {G : Int → Int → Int} (hF : GoodF F) : ∀ k i : Nat,Bd s i → eachL (chg s F) G k i = eachL s (fun a c => G a (F a c)) k i
 | 0,_,_ => rfl
 | k + 1,i,hb => by
  have hz := chg_size (s := s) hF
  rw [eachL,eachL,hz]
  by_cases hi : i < s.size
  ·rw [if_pos hi,if_pos hi,eachU_chg hF i hb hi,(chg_unit hF i hb hi).1,eachL_chg hF k _ (bd_next s i hb hi)]
  ·rw [if_neg hi,if_neg hi]
theorem chg_chg {G : Int → Int → Int} (hF : GoodF F) : chg (chg s F) G = chg s (fun a c => G a (F a c)) := by
 have hz := chg_size (s := s) hF
 show strOfNums (eachL (chg s F) G (chg s F).size 0) = strOfNums (eachL s (fun a c => G a (F a c)) s.size 0)
 rw [hz,eachL_chg hF _ 0 (bd_zero s)]
theorem eachU_congr {G : Int → Int → Int} (i : Nat) (h : okC (uC s i) → F i (uC s i) = G i (uC s i)) : eachU s F i = eachU s G i := by
 unfold eachU
 by_cases hn : uC s i < 0
 ·rw [if_pos hn,if_pos hn]
 ·rw [if_neg hn,if_neg hn,h (enc_unit s i (by omega)).1]
theorem eachL_congr {G : Int → Int → Int} : ∀ k i : Nat,(∀ x,okC (uC s x) → F x (uC s x) = G x (uC s x)) → eachL s F k i = eachL s G k i
 | 0,_,_ => rfl
 | k + 1,i,h => by rw [eachL,eachL,eachU_congr i (h i),eachL_congr k _ h]
theorem chg_congr {G : Int → Int → Int} (h : ∀ a c,okC c → F a c = G a c) : chg s F = chg s G := by
 unfold chg eachT;rw [eachL_congr _ _ (fun x hx => h x _ hx)]
end
def goodsOk : Bool := casL.all fun p => decide (okC p.f0) && decide (okC p.f1) && decide ((encI p.f0).length = (encI p.f1).length) && decide (cls p.f0 = cls p.f1) && (wordB p.f0 == wordB p.f1) && decide (p.f0 ≠ 13 ∧ p.f0 ≠ 10 ∧ p.f1 ≠ 13 ∧ p.f1 ≠ 10) && decide (upC p.f1 = p.f1) && decide (lowC p.f0 = p.f0)
theorem goods_ok : goodsOk = true := by kernel_rfl
theorem goods_of (p : S55) (h : p ∈ casL) : okC p.f0 ∧ okC p.f1 ∧ (encI p.f0).length = (encI p.f1).length ∧ cls p.f0 = cls p.f1 ∧ wordB p.f0 = wordB p.f1 ∧ (p.f0 ≠ 13 ∧ p.f0 ≠ 10 ∧ p.f1 ≠ 13 ∧ p.f1 ≠ 10) ∧ upC p.f1 = p.f1 ∧ lowC p.f0 = p.f0 := by
 have := List.all_eq_true.1 goods_ok p h
 simp only [Bool.and_eq_true,decide_eq_true_eq,beq_iff_eq] at this
 obtain ⟨⟨⟨⟨⟨⟨⟨a,b⟩,c⟩,d⟩,e⟩,f⟩,g⟩,i⟩ := this
 exact ⟨a,b,c,d,e,f,g,i⟩
structure GoodTo (c d : Int) : Prop where
 ok : okC d
 len : (encI d).length = (encI c).length
 cls : cls d = cls c
 word : wordB d = wordB c
 cr : d = 13 ↔ c = 13
 nl : d = 10 ↔ c = 10
theorem GoodTo.same {c : Int} (h : okC c) : GoodTo c c := ⟨h,rfl,rfl,rfl,Iff.rfl,Iff.rfl⟩
theorem up_good (c : Int) (h : okC c) : GoodTo c (upC c) := by
 rcases (rest_of c).1 with h1 | ⟨p,hp,h1⟩
 ·rw [h1];exact GoodTo.same h
 ·obtain ⟨a,b,c',d,e,f,g,i⟩ := goods_of p hp
  rw [← h1,(up_of p hp).1]
  exact ⟨b,c'.symm,d.symm,e.symm,by omega,by omega⟩
theorem low_good (c : Int) (h : okC c) : GoodTo c (lowC c) := by
 rcases (rest_of c).2 with h1 | ⟨p,hp,h1⟩
 ·rw [h1];exact GoodTo.same h
 ·obtain ⟨a,b,c',d,e,f,g,i⟩ := goods_of p hp
  rw [← h1,(up_of p hp).2]
  exact ⟨a,c',d,e,by omega,by omega⟩
theorem GoodF.of {F : Int → Int → Int} (h : ∀ a c,okC c → GoodTo c (F a c)) : GoodF F :=
 ⟨fun a c hc => (h a c hc).ok,fun a c hc => (h a c hc).len,fun a c hc => (h a c hc).cls,fun a c hc => (h a c hc).word,fun a c hc => (h a c hc).cr,fun a c hc => (h a c hc).nl⟩
theorem good_up : GoodF upF := .of fun _ c h => up_good c h
theorem good_low : GoodF lowF := .of fun _ c h => low_good c h
theorem good_cap (s : ByteArray) : GoodF (capF s) := .of fun a c h => by
 unfold capF
 split
 ·exact up_good c h
 ·exact low_good c h
theorem up_up (c : Int) : upC (upC c) = upC c := by
 rcases (rest_of c).1 with h1 | ⟨p,hp,h1⟩
 ·rw [h1,h1]
 ·rw [← h1,(up_of p hp).1,(goods_of p hp).2.2.2.2.2.2.1]
theorem low_low (c : Int) : lowC (lowC c) = lowC c := by
 rcases (rest_of c).2 with h1 | ⟨p,hp,h1⟩
 ·rw [h1,h1]
 ·rw [← h1,(up_of p hp).2,(goods_of p hp).2.2.2.2.2.2.2]
theorem low_up (c : Int) : lowC (upC c) = lowC c := by
 rcases (rest_of c).1 with h1 | ⟨p,hp,h1⟩
 ·rw [h1]
 ·rw [← h1,(up_of p hp).1,(up_of p hp).2,(goods_of p hp).2.2.2.2.2.2.2]
end Go.Proofs.YtkficbgnjpekaaaDoor.Pu
end
section
namespace Go.Proofs.YtkficbgnjpekaaaDoor.Pure
open Go Go.RowKit Go.Proofs.YtkficbgnjpekaaaDoor.Mu Go.Proofs.YtkficbgnjpekaaaDoor.Pu Go.Proofs.YtkficbgnjpekaaaDoor.U Go.Proofs.YtkficbgnjpekaaaDoorW.PrintWords Go.Proofs.YtkficbgnjpekaaaDoorW.PrintLast Go.Proofs.YtkficbgnjpekaaaDoorW.PrintMore
set_option linter.unusedVariables false
theorem rd_spans2 (L : List S32) (i : Nat) (h : i < L.length) : rd_T32 L i = L[i] := by
 unfold rd_T32;rw [Int.toNat_natCast,List.getD_eq_getElem?_getD,List.getElem?_eq_getElem h];rfl
/-- A word begins with a word character. -/
theorem sp_word (s : ByteArray) : ∀ (cs : List S61),(∀ p ∈ spR s none cs,wAt s p.f0.toNat = true) ∧ ∀ a b : Int,wAt s a.toNat = true → ∀ p ∈ spR s (some (a,b)) cs,wAt s p.f0.toNat = true
 | [] => ⟨(fun p h => by cases h),(fun a b ha p h => by rcases List.mem_singleton.1 h with rfl;exact ha)⟩
 | c :: cs => by
  obtain ⟨h1,h2⟩ := sp_word s cs
  refine ⟨fun p h => ?_,fun a b ha p h => ?_⟩
  ·rw [spR] at h
   by_cases hw : wC s c = true
   ·rw [if_pos hw] at h;exact h2 _ _ hw p h
   ·rw [if_neg hw] at h;exact h1 p h
  ·rw [spR] at h
   by_cases hw : wC s c = true
   ·rw [if_pos hw] at h;exact h2 _ _ ha p h
   ·rw [if_neg hw] at h
    rcases List.mem_cons.1 h with rfl | h
    ·exact ha
    ·exact h1 p h
theorem spans_word (s : ByteArray) : ∀ p ∈ spansL s,wAt s p.f0.toNat = true := by
 rw [spans_runs];exact (sp_word s _).1
/-- What a word looks like: where it begins,where it ends. -/
theorem span_facts (s : ByteArray) (p : S32) (hp : p ∈ spansL s) : ∃ x y : Nat,p.f0 = (x : Int) ∧ p.f1 = (y : Int) ∧ Bd s x ∧ Bd s y ∧ x < y ∧ y ≤ s.size ∧ x + uN s x ≤ y ∧ ¬ uC s x < 0 := by
 obtain ⟨h1,h2,h3,h4⟩ := (spans_ord s).one p hp
 have a := cbI_le h3
 have b := cbI_le h4
 have hw := spans_word s p hp
 refine ⟨p.f0.toNat,p.f1.toNat,by omega,by omega,h3.2.1,h4.2.1,by omega,by omega,h4.2.1.2 _ (by omega),fun h => ?_⟩
 have hr := uC_range s p.f0.toNat
 unfold wAt at hw
 rw [show uC s p.f0.toNat = -1 by omega,wordB_bad] at hw
 cases hw
theorem cap_first (s : ByteArray) (p : S32) (hp : p ∈ spansL s) (c : Int) : capF s p.f0 c = upC c := by
 unfold capF;rw [if_pos]
 exact List.any_eq_true.2 ⟨p,hp,decide_eq_true rfl⟩
theorem cap_inner (s : ByteArray) (k : Nat) (hk : k < (spansL s).length) (y c : Int) (h1 : (spansL s)[k].f0 < y) (h2 : y < (spansL s)[k].f1) : capF s y c = lowC c := by
 unfold capF;rw [if_neg]
 intro h
 obtain ⟨q,hq,he⟩ := List.any_eq_true.1 h
 have he := of_decide_eq_true he
 have e := split_at (spansL s) k hk
 have hs := ord_split s _ _ _ (e ▸ spans_ord s)
 rw [e] at hq
 rcases List.mem_append.1 hq with hq | hq
 ·have := hs.1 q hq
  have hq2 : q ∈ spansL s := List.mem_of_mem_take hq
  have := ((spans_ord s).one q hq2).2.1
  omega
 ·rcases List.mem_cons.1 hq with rfl | hq
  ·omega
  ·have := hs.2.1 q hq;omega
theorem unit_of (s : ByteArray) (x : Nat) (hx : x < s.size) : ∃ y,y ≤ x ∧ x < y + uN s y ∧ Bd s y := by
 by_cases hb : Bd s x
 ·exact ⟨x,Nat.le_refl _,by have := uN_pos s x;omega,hb⟩
 ·obtain ⟨j,h1,h2,h3,_⟩ := within s x (by omega) hb
  exact ⟨j,by omega,h2,h3⟩
theorem cap_rest (s : ByteArray) (k : Nat) (hk : k < (spansL s).length) (x y : Nat) (hx : (spansL s)[k].f0 = (x : Int)) (hy : (spansL s)[k].f1 = (y : Int)) (hbx : Bd s x) (hxy : x + uN s x ≤ y) (hxy2 : x < y) (hys : y ≤ s.size) :
  ((chg s (capF s)).extract (x + uN s x) y).toList = ((chg s lowF).extract (x + uN s x) y).toList := by
 have z1 := chg_size (s := s) (good_cap s)
 have z2 := chg_size (s := s) good_low
 have hpx := uN_pos s x
 apply ext_list
 ·rw [size_extract _ _ _ (by omega),size_extract _ _ _ (by omega)]
 ·intro i hi
  rw [size_extract _ _ _ (by omega)] at hi
  rw [byt_extract _ _ _ _ (by omega) (by omega),byt_extract _ _ _ _ (by omega) (by omega)]
  obtain ⟨v,h1,h2,h3⟩ := unit_of s (x + uN s x + i) (by omega)
  have hge : x + uN s x ≤ v := by
   rcases Nat.lt_or_ge v (x + uN s x) with h | h
   ·have := (bd_next s x hbx (by omega)).2 v h;omega
   ·exact h
  obtain ⟨j,hj⟩ : ∃ j,x + uN s x + i = v + j := ⟨x + uN s x + i - v,by omega⟩
  rw [hj]
  have e1 := chg_byt (good_cap s) v h3 (by omega) j (by omega)
  have e2 := chg_byt (s := s) good_low v h3 (by omega) j (by omega)
  rw [eachU_congr (F := capF s) (G := lowF) v (fun _ => cap_inner s k hk v _ (by omega) (by omega))] at e1
  omega
theorem atA_yes (s : ByteArray) (x : Nat) (hb : Bd s x) (hx : x < s.size) : atA s (x : Int) = (uC s x,(uN s x : Int),true) := by
 unfold atA;rw [if_pos ⟨(bdB_iff s _).2 ((bdI_nat s x).2 hb),by omega⟩,Int.toNat_natCast]
theorem atA_no (s : ByteArray) (x : Nat) (h : ¬ (Bd s x ∧ x < s.size)) : atA s (x : Int) = (0,0,false) := by
 unfold atA;rw [if_neg]
 rintro ⟨h1,h2⟩
 exact h ⟨(bdI_nat s x).1 ((bdB_iff s _).1 h1),by omega⟩
theorem cased_l1 (s : ByteArray) (hs : s.size ≤ 1048576) : ∀ n i : Nat,i + n = (spansL s).length → Ev (fun k => bodkinlaw05_WordCased.l1 k (chg s upF) (chg s lowF) (chg s (capF s)) (spansL s) i) true := by
 have z1 := chg_size (s := s) (good_cap s)
 have z2 := chg_size (s := s) good_low
 have z3 := chg_size (s := s) good_up
 have hl := spans_len s
 intro n
 induction n with
 | zero => intro i hi;exact Ev.step (fun k => bodkinlaw05_WordCased.l1.eq_2 ..) (ev_neg (by omega) (Ev.now _))
 | succ n ih =>
  intro i hi
  have hil : i < (spansL s).length := by omega
  have hm : (spansL s)[i] ∈ spansL s := List.getElem_mem hil
  obtain ⟨x,y,hx,hy,hbx,hby,hxy,hys,hxn,hw⟩ := span_facts s _ hm
  have hu1 := chg_unit (good_cap s) x hbx (by omega)
  have hu2 := chg_unit (s := s) good_up x hbx (by omega)
  have ec : uC (chg s (capF s)) x = upC (uC s x) := by
   rcases hu1.2 with ⟨h,_⟩ | ⟨_,_,h⟩
   ·exact absurd h hw
   ·rw [h,← hx];exact cap_first s _ hm _
  have eu : uC (chg s upF) x = upC (uC s x) := by
   rcases hu2.2 with ⟨h,_⟩ | ⟨_,_,h⟩
   ·exact absurd h hw
   ·exact h
  have a1 := at_ans (chg s (capF s)) (by omega) (x : Int)
  rw [atA_yes _ x ((chg_bd (good_cap s) x).2 hbx) (by omega),hu1.1,ec] at a1
  have a2 := at_ans (chg s upF) (by omega) (x : Int)
  rw [atA_yes _ x ((chg_bd good_up x).2 hbx) (by omega),hu2.1,eu] at a2
  refine Ev.step (fun k => bodkinlaw05_WordCased.l1.eq_2 ..) (ev_pos (by omega) (ev_pos (by omega) ?_))
  rw [rd_spans2 _ _ hil,hx]
  refine Ev.bind a1 (Ev.bind a2 (ev_pos rfl (ev_pos rfl (Ev.step (fun k => bodkinlaw05_WordCased.j4.eq_2 ..) (ev_neg (by simp) (ev_pos (by omega) (ev_pos (by omega) ?_)))))))
  rw [rd_spans2 _ _ hil,hx,hy,w64 (x := (x : Int) + (uN s x : Int)) (by omega) (by omega)]
  have et : ((x : Int) + (uN s x : Int)).toNat = x + uN s x := by omega
  rw [et,Int.toNat_natCast,w64 (by omega) (by omega)]
  exact ev_pos (by omega) (ev_pos (by omega) (ev_pos (by omega) (ev_pos (by omega) (ev_pos (cap_rest s i hil x y hx hy hbx hxn hxy hys) (ih (i + 1) (by omega))))))
theorem cased_l0 (s : ByteArray) (hs : s.size ≤ 1048576) : ∀ n i : Nat,i + n = s.size + 1 → Ev (fun k => bodkinlaw05_WordCased.l0 k s (chg s upF) (chg s lowF) (chg s (capF s)) (spansL s) i) true := by
 have z2 := chg_size (s := s) good_low
 have z3 := chg_size (s := s) good_up
 intro n
 induction n with
 | zero => intro i hi;exact Ev.step (fun k => bodkinlaw05_WordCased.l0.eq_2 ..) (ev_neg (by omega) (cased_l1 s hs _ 0 (Nat.zero_add _)))
 | succ n ih =>
  intro i hi
  have a0 := at_ans s (by omega) (i : Int)
  have a1 := at_ans (chg s upF) (by omega) (i : Int)
  have a2 := at_ans (chg s lowF) (by omega) (i : Int)
  have hgo := ih (i + 1) (by omega)
  have b1 := chg_bd (s := s) good_up i
  have b2 := chg_bd (s := s) good_low i
  refine Ev.step (fun k => bodkinlaw05_WordCased.l0.eq_2 ..) (ev_pos (by omega) ?_)
  rw [w64 (by omega) (by omega)]
  by_cases hb : Bd s i ∧ i < s.size
  ·obtain ⟨hb,hi2⟩ := hb
   rw [atA_yes s i hb hi2] at a0
   rw [atA_yes _ i (b1.2 hb) (by omega)] at a1
   rw [atA_yes _ i (b2.2 hb) (by omega)] at a2
   have e1 : uC (chg s upF) i = upC (uC s i) := by
    rcases (chg_unit (s := s) good_up i hb hi2).2 with ⟨_,h1,h2⟩ | ⟨_,_,h⟩
    ·rw [h1,h2,upC_far _ (by omega)]
    ·exact h
   have e2 : uC (chg s lowF) i = lowC (uC s i) := by
    rcases (chg_unit (s := s) good_low i hb hi2).2 with ⟨_,h1,h2⟩ | ⟨_,_,h⟩
    ·rw [h1,h2,lowC_far _ (by omega)]
    ·exact h
   exact Ev.bind a0 (Ev.bind a1 (Ev.bind a2 (ev_neg (by simp) (ev_neg (by simp) (ev_pos rfl (Ev.bind (upper_ev _) (ev_pos e1 (ev_some (a := lowC (uC s i)) rfl (ev_pos e2 hgo)))))))))
  ·rw [atA_no s i hb] at a0
   rw [atA_no _ i (fun h => hb ⟨b1.1 h.1,by omega⟩)] at a1
   rw [atA_no _ i (fun h => hb ⟨b2.1 h.1,by omega⟩)] at a2
   exact Ev.bind a0 (Ev.bind a1 (Ev.bind a2 (ev_neg (by simp) (ev_neg (by simp) (ev_neg (by simp) hgo)))))
theorem cased_j0 (s : ByteArray) (hs : s.size ≤ 1048576) (b : Bool) (hb : b = false) : Ev (fun k => bodkinlaw05_WordCased.j0 k s (chg s upF) (chg s lowF) (chg s (capF s)) b) true := by
 have z1 := chg_size (s := s) (good_cap s)
 have z2 := chg_size (s := s) good_low
 have z3 := chg_size (s := s) good_up
 have hl := spans_len s
 have s1 := spans_ev (chg s upF) (by omega)
 have s2 := spans_ev (chg s lowF) (by omega)
 have s3 := spans_ev (chg s (capF s)) (by omega)
 rw [chg_spans good_up] at s1
 rw [chg_spans good_low] at s2
 rw [chg_spans (good_cap s)] at s3
 have hsm := same_ans (spansL s) (by omega)
 refine Ev.step (fun k => bodkinlaw05_WordCased.j0.eq_2 ..) (ev_neg (by rw [hb];simp) (ev_some (spans_ev s (by omega)) (ev_some s1 (Ev.bind hsm (ev_pos rfl (ev_some s2 (Ev.bind hsm (ev_pos rfl (ev_some s3 (Ev.bind hsm ?_))))))))))
 exact Ev.step (fun k => bodkinlaw05_WordCased.j1.eq_2 ..) (ev_neg (by simp) (cased_l0 s hs _ 0 (Nat.zero_add _)))
theorem upper_f (s : ByteArray) (h : s.size ≤ 1099511627776) : word_Upper.f s = some (chg s upF) := by unfold word_Upper.f;rw [if_pos h];rfl
theorem lower_f (s : ByteArray) (h : s.size ≤ 1099511627776) : word_Lower.f s = some (chg s lowF) := by unfold word_Lower.f;rw [if_pos h];rfl
theorem capital_f (s : ByteArray) (h : s.size ≤ 1099511627775) : word_Capital.f s = some (chg s (capF s)) := by unfold word_Capital.f;rw [if_pos h];rfl
theorem WordCased (a0 : ByteArray) (u0 : a0.size ≤ 1048576) : ∃ k,bodkinlaw05_WordCased.f k a0 = some true := by
 have z1 := chg_size (s := a0) (good_cap a0)
 have z2 := chg_size (s := a0) good_low
 have z3 := chg_size (s := a0) good_up
 have e1 : chg (chg a0 upF) upF = chg a0 upF := (chg_chg good_up).trans (chg_congr (fun _ c _ => up_up c))
 have e2 : chg (chg a0 lowF) lowF = chg a0 lowF := (chg_chg good_low).trans (chg_congr (fun _ c _ => low_low c))
 have e3 : chg (chg a0 upF) lowF = chg a0 lowF := (chg_chg good_up).trans (chg_congr (fun _ c _ => low_up c))
 have e4 : chg (chg a0 (capF a0)) lowF = chg a0 lowF := (chg_chg (good_cap a0)).trans (chg_congr (fun a c _ => by
  show lowC (capF a0 a c) = lowC c
  unfold capF
  split
  ·exact low_up c
  ·exact low_low c))
 have z4 := chg_size (s := chg a0 lowF) good_up
 have f1 := upper_f (chg a0 upF) (by omega)
 rw [e1] at f1
 have f2 := lower_f (chg a0 lowF) (by omega)
 rw [e2] at f2
 have f3 := lower_f (chg a0 upF) (by omega)
 rw [e3] at f3
 have f4 := lower_f (chg a0 (capF a0)) (by omega)
 rw [e4] at f4
 have f5 := upper_f (chg a0 lowF) (by omega)
 apply Ev.rounds
 unfold bodkinlaw05_WordCased.f
 refine Ev.bind awake_ans (ev_pos rfl (ev_some (upper_f a0 (by omega)) (ev_some (lower_f a0 (by omega)) (ev_some (capital_f a0 (by omega)) (ev_pos (by omega) (ev_pos (by omega) (ev_pos (by omega) (ev_some f1 (ev_pos rfl (ev_some f2 (ev_pos rfl (ev_some f5 (ev_some f3 (ev_some f5 (ev_pos rfl (ev_some f4 (cased_j0 a0 u0 _ ?_)))))))))))))))))
 simp
end Go.Proofs.YtkficbgnjpekaaaDoor.Pure
end
section
namespace Go.Proofs.YtkficbgnjpekaaaDoor.Lf
open Go.Lib Go.Proofs
theorem own : ownKnob Tryd.prog.godebug = none := by kernel_rfl
theorem extra : U8Extra Tryd.prog Tryd.lays260_ren := {
 n3 := by kernel_rfl
 n4 := by kernel_rfl
 y3 := by kernel_rfl
 y4 := by kernel_rfl
 c5 := by kernel_rfl
 c119 := by kernel_rfl
 c138 := by kernel_rfl }
theorem first_eq : Rows.laid_unicode_utf8_first = Lib.firstData := by kernel_rfl
theorem accept_eq : (Rows.laid_unicode_utf8_acceptRanges : DataW Unit) = Lib.acceptData := by kernel_rfl
abbrev laid : List (String × DataW Unit) := [("unicode/utf8.acceptRanges", Rows.laid_unicode_utf8_acceptRanges), ("unicode/utf8.first", Rows.laid_unicode_utf8_first)]
/-- The two tables lie as the contracts ask. -/
theorem tabs {W : World} (h : laidMetH Tryd.prog laid W) : Lib.Utf8Tabs 0 1 W := by
  rw [MakeChecks.laidMetH_plain _ _ _ (by kernel_rfl)] at h
  have h3 := laidMet.reads h (n := "unicode/utf8.first") (d := Rows.laid_unicode_utf8_first) (List.mem_cons_of_mem _ List.mem_cons_self)
  have h4 := laidMet.reads h (n := "unicode/utf8.acceptRanges") (d := Rows.laid_unicode_utf8_acceptRanges) List.mem_cons_self
  rw [first_eq] at h3
  rw [accept_eq] at h4
  exact utf8Tabs_of_reads Tryd.lays260 extra h3 h4
/-- The world of the witness: the settled one,the tables laid. -/
noncomputable abbrev wit (os : Os) : World := World.laidAll Tryd.prog os laid
theorem wit_laid (os : Os) (args : Array Value) : laidMetH Tryd.prog laid ((wit os).forCall (fun _ _ => 0) ⟨#[],args,[]⟩).memory := by
 rw [MakeChecks.laidMetH_plain _ _ _ (by kernel_rfl)]
 exact laidMet_laidAll _ (by kernel_rfl) (by kernel_rfl)
theorem wit_shaped (os : Os) (args : Array Value) : ((wit os).forCall (fun _ _ => 0) ⟨#[],args,[]⟩).Shaped Tryd.prog :=
 World.shaped_of_ZipB (by kernel_rfl) (by kernel_rfl)
end Go.Proofs.YtkficbgnjpekaaaDoor.Lf
end
