/- What the law UnitBegins reaches of this seat's own texts, merged; what nothing uses is left out. -/
import Derived.Test.YtfhnfhgpaoddbaaDoorZUnitBegins0
import Derived.Test.YtfhnfhgpaoddbaaDoorZUnitBegins1
section
namespace Go.Proofs.YtfhnfhgpaoddbaaDoor.U
open Go Go.RowKit Go.Proofs.YtfhnfhgpaoddbaaDoor.Mu Go.Proofs.YtfhnfhgpaoddbaaDoor.Pu Go.Proofs.YtfhnfhgpaoddbaaDoorW.PrintWords Go.Proofs.YtfhnfhgpaoddbaaDoorW.PrintLast Go.Proofs.YtfhnfhgpaoddbaaDoorW.PrintMore
set_option linter.unusedVariables false
set_option linter.unusedSimpArgs false
theorem byt_str (l : List Nat) (h : ∀ x ∈ l,x < 256) (i : Nat) (hi : i < l.length) : byt (strOfNums (l.map (fun x : Nat => (x : Int)))) i = l.getD i 0 := by
 have hz : i < (strOfNums (l.map (fun x : Nat => (x : Int)))).size := by rw [strOfNums_size,List.length_map];exact hi
 rw [byt_getV _ _ hz]
 have e : (strOfNums (l.map (fun x : Nat => (x : Int))))[i]'hz = UInt8.ofNat (l.getD i 0) := by
  show (strOfNums (l.map (fun x : Nat => (x : Int)))).data[i]'hz = _
  rw [← Array.getElem_toList,List.getD_eq_getElem?_getD,List.getElem?_eq_getElem hi]
  simp only [strOfNums_data,List.getElem_map,Int.toNat_natCast]
  rfl
 rw [e]
 have h2 : l.getD i 0 < 256 := by
  rw [List.getD_eq_getElem?_getD,List.getElem?_eq_getElem hi]
  exact h _ (List.getElem_mem hi)
 show (l.getD i 0) % 256 = _
 omega
theorem uC_num (s : ByteArray) : uC s 0 = if (Lib.decodeN s.size (byt s 0) (byt s 1) (byt s 2) (byt s 3)).1 = 65533 ∧ (Lib.decodeN s.size (byt s 0) (byt s 1) (byt s 2) (byt s 3)).2 = 1 then -1 else ((Lib.decodeN s.size (byt s 0) (byt s 1) (byt s 2) (byt s 3)).1 : Int) := by
 unfold uC
 rw [dec_eq,Nat.sub_zero]
def natsI (l : List Nat) : List Int := l.map (fun x : Nat => (x : Int))
theorem good_num (l : List Nat) (P : Prop) [Decidable P] (h : (0 ≤ uC (strOfNums (natsI l)) 0) ↔ P) : goodI (natsI l) = decide P := by
 unfold goodI
 exact decide_eq_decide.2 h
theorem good_two (b0 c1 : Nat) (h0 : 192 ≤ b0 ∧ b0 < 224) (h1 : 128 ≤ c1 ∧ c1 ≤ 191) : goodI (natsI [b0,c1]) = decide (194 ≤ b0) := by
 have hx : ∀ x ∈ [b0,c1],x < 256 := by simp;omega
 have e0 := byt_str [b0,c1] hx 0 (by simp)
 have e1 := byt_str [b0,c1] hx 1 (by simp)
 have ez : (strOfNums (natsI [b0,c1])).size = 2 := by rw [strOfNums_size];rfl
 refine good_num _ _ ?_
 rw [uC_num,ez]
 change byt (strOfNums (natsI [b0,c1])) 0 = b0 at e0
 change byt (strOfNums (natsI [b0,c1])) 1 = c1 at e1
 rw [e0,e1]
 generalize byt (strOfNums (natsI [b0,c1])) 2 = c2
 generalize byt (strOfNums (natsI [b0,c1])) 3 = c3
 rcases dec_cases 2 b0 c1 c2 c3 (by omega) with A | A | A | A | A
 ·omega
 ·rw [A.2]
  simp
  rcases Nat.lt_or_ge b0 194 with h | h
  ·omega
  ·have D := dec_two 2 b0 c1 c2 c3 (by omega) (by omega) (by omega) (by omega) (by omega)
   rw [A.2] at D
   injection D with _ D
   omega
 ·rw [A.2.2.2.2.2]
  simp
  omega
 ·omega
 ·omega
theorem good_three (b0 c1 c2 : Nat) (h0 : 224 ≤ b0 ∧ b0 < 240) (h1 : 128 ≤ c1 ∧ c1 ≤ 191) (h2 : 128 ≤ c2 ∧ c2 ≤ 191) : goodI (natsI [b0,c1,c2]) = decide ((224 < b0 ∨ 160 ≤ c1) ∧ (b0 ≠ 237 ∨ c1 < 160)) := by
 have hx : ∀ x ∈ [b0,c1,c2],x < 256 := by simp;omega
 have e0 := byt_str [b0,c1,c2] hx 0 (by simp)
 have e1 := byt_str [b0,c1,c2] hx 1 (by simp)
 have e2 := byt_str [b0,c1,c2] hx 2 (by simp)
 have ez : (strOfNums (natsI [b0,c1,c2])).size = 3 := by rw [strOfNums_size];rfl
 refine good_num _ _ ?_
 rw [uC_num,ez]
 change byt (strOfNums (natsI [b0,c1,c2])) 0 = b0 at e0
 change byt (strOfNums (natsI [b0,c1,c2])) 1 = c1 at e1
 change byt (strOfNums (natsI [b0,c1,c2])) 2 = c2 at e2
 rw [e0,e1,e2]
 generalize byt (strOfNums (natsI [b0,c1,c2])) 3 = c3
 rcases dec_cases 3 b0 c1 c2 c3 (by omega) with A | A | A | A | A
 ·omega
 ·rw [A.2]
  simp only [and_self,if_true]
  have hn : ¬ ((224 < b0 ∨ 160 ≤ c1) ∧ (b0 ≠ 237 ∨ c1 < 160)) := fun h => by
   have D := dec_three 3 b0 c1 c2 c3 (by omega) (by omega) (by omega) (by omega) (by omega) (by omega) (by omega)
   rw [A.2] at D
   injection D with _ D
   omega
  constructor
  ·intro h;omega
  ·intro h;exact absurd h hn
 ·omega
 ·rw [A.2.2.2.2.2.2.2]
  simp
  omega
 ·omega
theorem good_four (b0 c1 c2 c3 : Nat) (h0 : 240 ≤ b0 ∧ b0 < 248) (h1 : 128 ≤ c1 ∧ c1 ≤ 191) (h2 : 128 ≤ c2 ∧ c2 ≤ 191) (h3 : 128 ≤ c3 ∧ c3 ≤ 191) : goodI (natsI [b0,c1,c2,c3]) = decide ((240 < b0 ∨ 144 ≤ c1) ∧ (b0 < 244 ∨ (b0 = 244 ∧ c1 < 144))) := by
 have hx : ∀ x ∈ [b0,c1,c2,c3],x < 256 := by simp;omega
 have e0 := byt_str [b0,c1,c2,c3] hx 0 (by simp)
 have e1 := byt_str [b0,c1,c2,c3] hx 1 (by simp)
 have e2 := byt_str [b0,c1,c2,c3] hx 2 (by simp)
 have e3 := byt_str [b0,c1,c2,c3] hx 3 (by simp)
 have ez : (strOfNums (natsI [b0,c1,c2,c3])).size = 4 := by rw [strOfNums_size];rfl
 refine good_num _ _ ?_
 rw [uC_num,ez]
 change byt (strOfNums (natsI [b0,c1,c2,c3])) 0 = b0 at e0
 change byt (strOfNums (natsI [b0,c1,c2,c3])) 1 = c1 at e1
 change byt (strOfNums (natsI [b0,c1,c2,c3])) 2 = c2 at e2
 change byt (strOfNums (natsI [b0,c1,c2,c3])) 3 = c3 at e3
 rw [e0,e1,e2,e3]
 rcases dec_cases 4 b0 c1 c2 c3 (by omega) with A | A | A | A | A
 ·omega
 ·rw [A.2]
  simp only [and_self,if_true]
  have hn : ¬ ((240 < b0 ∨ 144 ≤ c1) ∧ (b0 < 244 ∨ (b0 = 244 ∧ c1 < 144))) := fun h => by
   have D := dec_four 4 b0 c1 c2 c3 (by omega) (by omega) (by omega) (by omega) (by omega) (by omega) (by omega) (by omega)
   rw [A.2] at D
   injection D with _ D
   omega
  constructor
  ·intro h;omega
  ·intro h;exact absurd h hn
 ·omega
 ·omega
 ·rw [A.2.2.2.2.2.2.2.2]
  simp
  omega
theorem try_none (l : List Int) (j : Nat) : ∀ n i,(∀ x : Nat,128 ≤ x → x < 128 + i + n → goodI (l.set j (x : Int)) = false) → tryB l j i n = false
 | 0,i,_ => rfl
 | n + 1,i,h => by
  rw [tryB_succ,h (128 + i) (by omega) (by omega),Bool.false_or]
  exact try_none l j n (i + 1) (fun x h1 h2 => h x h1 (by omega))
theorem tried_of (low high : List Int) (n : Nat) (Q : Prop) [Decidable Q] (hl : goodI low = true → Q) (hh : goodI high = true → Q) (ht : ∀ x : Nat,128 ≤ x → x < 192 → goodI (low.set n (x : Int)) = true → Q) (hq : Q → goodI low = true ∨ goodI high = true) : triedB low high n = decide Q := by
 unfold triedB
 by_cases h : Q
 ·rw [decide_eq_true h]
  rcases hq h with h1 | h1
  ·rw [h1];rfl
  ·rw [h1,Bool.true_or,Bool.or_true]
 ·have e1 : goodI low = false := by
   cases hg : goodI low with
   | false => rfl
   | true => exact absurd (hl hg) h
  have e2 : goodI high = false := by
   cases hg : goodI high with
   | false => rfl
   | true => exact absurd (hh hg) h
  have e3 : tryB low n 0 64 = false := try_none low n 64 0 (fun x h1 h2 => by
   cases hg : goodI (low.set n (x : Int)) with
   | false => rfl
   | true => exact absurd (ht x h1 (by omega) hg) h)
  rw [e1,e2,e3,decide_eq_false h,Bool.and_false]
  rfl
theorem full_fin (s : ByteArray) (Q : Prop) [Decidable Q] (h : FullC s.size (byt s 0) (byt s 1) (byt s 2) ↔ ¬ Q) : decide Q = !fullB s := by
 have hf : fullB s = true ↔ FullC s.size (byt s 0) (byt s 1) (byt s 2) := full_iff _ _ _ _ (byt_lt s 0)
 by_cases hq : Q
 ·have : ¬ fullB s = true := fun h2 => h.1 (hf.1 h2) hq
  rw [decide_eq_true hq]
  simpa using this
 ·have : fullB s = true := hf.2 (h.2 hq)
  rw [decide_eq_false hq,this]
  rfl
theorem bytI_range (s : ByteArray) : bytI s = natsI ((List.range s.size).map (byt s)) := by
 unfold bytI natsI
 apply List.ext_getElem
 ·rw [List.length_map,List.length_map,List.length_map,List.length_range,Array.length_toList]
  rfl
 ·intro i h1 h2
  have hi : i < s.size := by rw [List.length_map,List.length_map,List.length_range] at h2;exact h2
  rw [List.getElem_map,List.getElem_map,List.getElem_map,List.getElem_range,byt_getV s i hi]
  rfl
theorem beg_eq (s : ByteArray) (h0 : s.size ≠ 0) : begB s = !fullB s := by
 have hb0 := byt_lt s 0
 have hb1 := byt_lt s 1
 have hb2 := byt_lt s 2
 have hm := more_eq (byt s 0)
 have hr := bytI_range s
 unfold begB
 rw [if_neg h0]
 by_cases hc : moreI (byt s 0) < 1 ∨ moreI (byt s 0) < (s.size : Int)
 ·rw [if_pos hc]
  have h2 := full_fin s False ⟨fun _ h => h,fun _ => by
   unfold FullC
   refine ⟨by omega,?_⟩
   by_cases h1 : byt s 0 < 128
   ·omega
   ·rw [if_neg h1] at hm
    by_cases h2 : byt s 0 < 192
    ·omega
    ·rw [if_neg h2] at hm
     by_cases h3 : byt s 0 < 224
     ·rw [if_pos h3] at hm;omega
     ·rw [if_neg h3] at hm
      by_cases h4 : byt s 0 < 240
      ·rw [if_pos h4] at hm;omega
      ·rw [if_neg h4] at hm
       by_cases h5 : byt s 0 < 248
       ·rw [if_pos h5] at hm;omega
       ·omega⟩
  rw [← h2]
  rfl
 ·rw [if_neg hc]
  have hm3 := more_le (byt s 0)
  generalize moreI (byt s 0) = m at hm hc hm3
  have hcase : (m = 1 ∧ 192 ≤ byt s 0 ∧ byt s 0 < 224) ∨ (m = 2 ∧ 224 ≤ byt s 0 ∧ byt s 0 < 240) ∨ (m = 3 ∧ 240 ≤ byt s 0 ∧ byt s 0 < 248) := by
   revert hm
   repeat' split
   all_goals intro hm
   all_goals omega
  clear hm
  have cont1 : s.size = 1 → contB s 1 (s.size - 1) = true := fun h => by rw [h];rfl
  have cont2 : s.size = 2 → contB s 1 (s.size - 1) = decide (128 ≤ byt s 1 ∧ byt s 1 ≤ 191) := fun h => by
   rw [h]
   show (decide _ && true) = _
   rw [Bool.and_true]
  have cont3 : s.size = 3 → contB s 1 (s.size - 1) = (decide (128 ≤ byt s 1 ∧ byt s 1 ≤ 191) && decide (128 ≤ byt s 2 ∧ byt s 2 ≤ 191)) := fun h => by
   rw [h]
   show (decide _ && (decide _ && true)) = _
   rw [Bool.and_true]
  rcases hcase with ⟨rfl,a1,a2⟩ | ⟨rfl,a1,a2⟩ | ⟨rfl,a1,a2⟩
  ·have hn : s.size = 1 := by omega
   rw [cont1 hn,Bool.true_and]
   have e : bytI s = natsI [byt s 0] := by rw [hr,hn];rfl
   rw [e,hn]
   show triedB (natsI [byt s 0,128]) (natsI [byt s 0,191]) 1 = _
   rw [tried_of _ _ _ (194 ≤ byt s 0) (fun h => ?_) (fun h => ?_) (fun x x1 x2 h => ?_) (fun h => ?_)]
   ·exact full_fin s _ (by rw [hn];unfold FullC;omega)
   ·rw [good_two (byt s 0) 128 ⟨a1,a2⟩ ⟨by omega,by omega⟩] at h
    have h := of_decide_eq_true h
    omega
   ·rw [good_two (byt s 0) 191 ⟨a1,a2⟩ ⟨by omega,by omega⟩] at h
    have h := of_decide_eq_true h
    omega
   ·have h : goodI (natsI [byt s 0,x]) = true := h
    rw [good_two (byt s 0) x ⟨a1,a2⟩ ⟨x1,by omega⟩] at h
    have h := of_decide_eq_true h
    omega
   ·rw [good_two (byt s 0) 128 ⟨a1,a2⟩ ⟨by omega,by omega⟩,good_two (byt s 0) 191 ⟨a1,a2⟩ ⟨by omega,by omega⟩]
    simp only [decide_eq_true_eq]
    omega
  ·rcases (show s.size = 1 ∨ s.size = 2 by omega) with hs | hs
   ·have hn : s.size = 1 := by omega
    rw [cont1 hn,Bool.true_and]
    have e : bytI s = natsI [byt s 0] := by rw [hr,hn];rfl
    rw [e,hn]
    show triedB (natsI [byt s 0,128,128]) (natsI [byt s 0,191,191]) 1 = _
    rw [tried_of _ _ _ (byt s 0 < 240) (fun h => ?_) (fun h => ?_) (fun x x1 x2 h => ?_) (fun h => ?_)]
    ·exact full_fin s _ (by rw [hn];unfold FullC;omega)
    ·rw [good_three (byt s 0) 128 128 ⟨a1,a2⟩ ⟨by omega,by omega⟩ ⟨by omega,by omega⟩] at h
     have h := of_decide_eq_true h
     omega
    ·rw [good_three (byt s 0) 191 191 ⟨a1,a2⟩ ⟨by omega,by omega⟩ ⟨by omega,by omega⟩] at h
     have h := of_decide_eq_true h
     omega
    ·have h : goodI (natsI [byt s 0,x,128]) = true := h
     rw [good_three (byt s 0) x 128 ⟨a1,a2⟩ ⟨x1,by omega⟩ ⟨by omega,by omega⟩] at h
     have h := of_decide_eq_true h
     omega
    ·rw [good_three (byt s 0) 128 128 ⟨a1,a2⟩ ⟨by omega,by omega⟩ ⟨by omega,by omega⟩,good_three (byt s 0) 191 191 ⟨a1,a2⟩ ⟨by omega,by omega⟩ ⟨by omega,by omega⟩]
     simp only [decide_eq_true_eq]
     omega
   ·have hn : s.size = 2 := by omega
    rw [cont2 hn]
    have e : bytI s = natsI [byt s 0,byt s 1] := by rw [hr,hn];rfl
    by_cases b1 : 128 ≤ byt s 1 ∧ byt s 1 ≤ 191
    ·rw [decide_eq_true b1,Bool.true_and]
     rw [e,hn]
     show triedB (natsI [byt s 0,byt s 1,128]) (natsI [byt s 0,byt s 1,191]) 2 = _
     rw [tried_of _ _ _ ((224 < byt s 0 ∨ 160 ≤ byt s 1) ∧ (byt s 0 ≠ 237 ∨ byt s 1 < 160)) (fun h => ?_) (fun h => ?_) (fun x x1 x2 h => ?_) (fun h => ?_)]
     ·exact full_fin s _ (by rw [hn];unfold FullC;omega)
     ·rw [good_three (byt s 0) (byt s 1) 128 ⟨a1,a2⟩ b1 ⟨by omega,by omega⟩] at h
      have h := of_decide_eq_true h
      omega
     ·rw [good_three (byt s 0) (byt s 1) 191 ⟨a1,a2⟩ b1 ⟨by omega,by omega⟩] at h
      have h := of_decide_eq_true h
      omega
     ·have h : goodI (natsI [byt s 0,byt s 1,x]) = true := h
      rw [good_three (byt s 0) (byt s 1) x ⟨a1,a2⟩ b1 ⟨x1,by omega⟩] at h
      have h := of_decide_eq_true h
      omega
     ·rw [good_three (byt s 0) (byt s 1) 128 ⟨a1,a2⟩ b1 ⟨by omega,by omega⟩,good_three (byt s 0) (byt s 1) 191 ⟨a1,a2⟩ b1 ⟨by omega,by omega⟩]
      simp only [decide_eq_true_eq]
      omega
    ·rw [decide_eq_false b1,Bool.false_and]
     exact full_fin s False ⟨fun _ h => h,fun _ => by rw [hn];unfold FullC;omega⟩ ▸ (decide_eq_false (fun h => h)).symm
  ·rcases (show s.size = 1 ∨ s.size = 2 ∨ s.size = 3 by omega) with hs | hs | hs
   ·have hn : s.size = 1 := by omega
    rw [cont1 hn,Bool.true_and]
    have e : bytI s = natsI [byt s 0] := by rw [hr,hn];rfl
    rw [e,hn]
    show triedB (natsI [byt s 0,128,128,128]) (natsI [byt s 0,191,191,191]) 1 = _
    rw [tried_of _ _ _ (byt s 0 ≤ 244) (fun h => ?_) (fun h => ?_) (fun x x1 x2 h => ?_) (fun h => ?_)]
    ·exact full_fin s _ (by rw [hn];unfold FullC;omega)
    ·rw [good_four (byt s 0) 128 128 128 ⟨a1,a2⟩ ⟨by omega,by omega⟩ ⟨by omega,by omega⟩ ⟨by omega,by omega⟩] at h
     have h := of_decide_eq_true h
     omega
    ·rw [good_four (byt s 0) 191 191 191 ⟨a1,a2⟩ ⟨by omega,by omega⟩ ⟨by omega,by omega⟩ ⟨by omega,by omega⟩] at h
     have h := of_decide_eq_true h
     omega
    ·have h : goodI (natsI [byt s 0,x,128,128]) = true := h
     rw [good_four (byt s 0) x 128 128 ⟨a1,a2⟩ ⟨x1,by omega⟩ ⟨by omega,by omega⟩ ⟨by omega,by omega⟩] at h
     have h := of_decide_eq_true h
     omega
    ·rw [good_four (byt s 0) 128 128 128 ⟨a1,a2⟩ ⟨by omega,by omega⟩ ⟨by omega,by omega⟩ ⟨by omega,by omega⟩,good_four (byt s 0) 191 191 191 ⟨a1,a2⟩ ⟨by omega,by omega⟩ ⟨by omega,by omega⟩ ⟨by omega,by omega⟩]
     simp only [decide_eq_true_eq]
     omega
   ·have hn : s.size = 2 := by omega
    rw [cont2 hn]
    have e : bytI s = natsI [byt s 0,byt s 1] := by rw [hr,hn];rfl
    by_cases b1 : 128 ≤ byt s 1 ∧ byt s 1 ≤ 191
    ·rw [decide_eq_true b1,Bool.true_and]
     rw [e,hn]
     show triedB (natsI [byt s 0,byt s 1,128,128]) (natsI [byt s 0,byt s 1,191,191]) 2 = _
     rw [tried_of _ _ _ ((240 < byt s 0 ∨ 144 ≤ byt s 1) ∧ (byt s 0 < 244 ∨ (byt s 0 = 244 ∧ byt s 1 < 144))) (fun h => ?_) (fun h => ?_) (fun x x1 x2 h => ?_) (fun h => ?_)]
     ·exact full_fin s _ (by rw [hn];unfold FullC;omega)
     ·rw [good_four (byt s 0) (byt s 1) 128 128 ⟨a1,a2⟩ b1 ⟨by omega,by omega⟩ ⟨by omega,by omega⟩] at h
      have h := of_decide_eq_true h
      omega
     ·rw [good_four (byt s 0) (byt s 1) 191 191 ⟨a1,a2⟩ b1 ⟨by omega,by omega⟩ ⟨by omega,by omega⟩] at h
      have h := of_decide_eq_true h
      omega
     ·have h : goodI (natsI [byt s 0,byt s 1,x,128]) = true := h
      rw [good_four (byt s 0) (byt s 1) x 128 ⟨a1,a2⟩ b1 ⟨x1,by omega⟩ ⟨by omega,by omega⟩] at h
      have h := of_decide_eq_true h
      omega
     ·rw [good_four (byt s 0) (byt s 1) 128 128 ⟨a1,a2⟩ b1 ⟨by omega,by omega⟩ ⟨by omega,by omega⟩,good_four (byt s 0) (byt s 1) 191 191 ⟨a1,a2⟩ b1 ⟨by omega,by omega⟩ ⟨by omega,by omega⟩]
      simp only [decide_eq_true_eq]
      omega
    ·rw [decide_eq_false b1,Bool.false_and]
     exact full_fin s False ⟨fun _ h => h,fun _ => by rw [hn];unfold FullC;omega⟩ ▸ (decide_eq_false (fun h => h)).symm
   ·have hn : s.size = 3 := by omega
    rw [cont3 hn]
    have e : bytI s = natsI [byt s 0,byt s 1,byt s 2] := by rw [hr,hn];rfl
    by_cases b1 : 128 ≤ byt s 1 ∧ byt s 1 ≤ 191
    ·by_cases b2 : 128 ≤ byt s 2 ∧ byt s 2 ≤ 191
     ·rw [decide_eq_true b1,decide_eq_true b2,Bool.and_self,Bool.true_and]
      rw [e,hn]
      show triedB (natsI [byt s 0,byt s 1,byt s 2,128]) (natsI [byt s 0,byt s 1,byt s 2,191]) 3 = _
      rw [tried_of _ _ _ ((240 < byt s 0 ∨ 144 ≤ byt s 1) ∧ (byt s 0 < 244 ∨ (byt s 0 = 244 ∧ byt s 1 < 144))) (fun h => ?_) (fun h => ?_) (fun x x1 x2 h => ?_) (fun h => ?_)]
      ·exact full_fin s _ (by rw [hn];unfold FullC;omega)
      ·rw [good_four (byt s 0) (byt s 1) (byt s 2) 128 ⟨a1,a2⟩ b1 b2 ⟨by omega,by omega⟩] at h
       have h := of_decide_eq_true h
       omega
      ·rw [good_four (byt s 0) (byt s 1) (byt s 2) 191 ⟨a1,a2⟩ b1 b2 ⟨by omega,by omega⟩] at h
       have h := of_decide_eq_true h
       omega
      ·have h : goodI (natsI [byt s 0,byt s 1,byt s 2,x]) = true := h
       rw [good_four (byt s 0) (byt s 1) (byt s 2) x ⟨a1,a2⟩ b1 b2 ⟨x1,by omega⟩] at h
       have h := of_decide_eq_true h
       omega
      ·rw [good_four (byt s 0) (byt s 1) (byt s 2) 128 ⟨a1,a2⟩ b1 b2 ⟨by omega,by omega⟩,good_four (byt s 0) (byt s 1) (byt s 2) 191 ⟨a1,a2⟩ b1 b2 ⟨by omega,by omega⟩]
       simp only [decide_eq_true_eq]
       omega
     ·rw [decide_eq_false b2,Bool.and_false,Bool.false_and]
      exact full_fin s False ⟨fun _ h => h,fun _ => by rw [hn];unfold FullC;omega⟩ ▸ (decide_eq_false (fun h => h)).symm
    ·rw [decide_eq_false b1,Bool.false_and,Bool.false_and]
     exact full_fin s False ⟨fun _ h => h,fun _ => by rw [hn];unfold FullC;omega⟩ ▸ (decide_eq_false (fun h => h)).symm
end Go.Proofs.YtfhnfhgpaoddbaaDoor.U
end
section
namespace Go.Proofs.YtfhnfhgpaoddbaaDoor.Pure
open Go Go.RowKit Go.Proofs.YtfhnfhgpaoddbaaDoor.Mu Go.Proofs.YtfhnfhgpaoddbaaDoor.Pu Go.Proofs.YtfhnfhgpaoddbaaDoor.U Go.Proofs.YtfhnfhgpaoddbaaDoorW.PrintWords Go.Proofs.YtfhnfhgpaoddbaaDoorW.PrintLast Go.Proofs.YtfhnfhgpaoddbaaDoorW.PrintMore
theorem begun_val (s : ByteArray) : unit_Begun.f s = some (begB s) := by
 unfold unit_Begun.f
 by_cases h : s.toList = ([] : List UInt8)
 ·rw [if_pos h]
  have h2 : s.size = 0 := by
   rw [Lib.toList_data] at h
   rw [Lib.size_eq,h]
   rfl
  unfold begB
  rw [if_pos h2]
 ·rw [if_neg h]
  have h2 : s.size ≠ 0 := fun h2 => h (by
   rw [Lib.toList_data]
   have h3 := Lib.size_eq s
   rw [h2] at h3
   exact List.eq_nil_of_length_eq_zero h3.symm)
  rw [beg_eq s h2]
  rfl
theorem rbegun_val (s : ByteArray) (hs : s.size ≤ 1099511627776) : bodkinref01_Begun.f s = some (begB s) := if_pos hs
attribute [local irreducible] begB uC uN unit_Begun.f bodkinref01_Begun.f
theorem mn_eq (a b : Int) : mn a b = min a b := by unfold mn;split <;> omega
theorem begins_loop (s : ByteArray) (hs : s.size ≤ 1048576) : ∀ n i : Nat,((min (s.size : Int) 100) - i).toNat ≤ n → Ev (fun k => bodkinlaw01_UnitBegins.l0 k s (mn (s.size : Int) 100) (i : Int)) true := by
 intro n
 induction n with
 | zero =>
  intro i hi
  exact Ev.step (fun k => bodkinlaw01_UnitBegins.l0.eq_2 ..) (ev_neg (by rw [mn_eq];omega) (Ev.now _))
 | succ n ih =>
  intro i hi
  by_cases hlt : (i : Int) < min (s.size : Int) 100
  ·refine Ev.step (fun k => bodkinlaw01_UnitBegins.l0.eq_2 ..) (ev_pos (by rw [mn_eq];exact hlt) ?_)
   have inner : ∀ m j : Nat,i ≤ j → i + 6 - j ≤ m → Ev (fun k => bodkinlaw01_UnitBegins.l1 k s (i : Int) (j : Int) (mn (s.size : Int) 100) (i : Int)) true := by
    intro m
    induction m with
    | zero =>
     intro j h1 h2
     have hw := Lib.hid (show wrap64 ((i : Int) + 5) = (i : Int) + 5 by unfold wrap64;omega)
     have hw2 := Lib.hid (show wrap64 ((i : Int) + 1) = ((i + 1 : Nat) : Int) by unfold wrap64;omega)
     refine Ev.step (fun k => bodkinlaw01_UnitBegins.l1.eq_2 ..) (ev_neg (by rw [mn_eq,hw.out];omega) ?_)
     rw [hw2.out]
     exact ih (i + 1) (by omega)
    | succ m ihm =>
     intro j h1 h2
     have hw := Lib.hid (show wrap64 ((i : Int) + 5) = (i : Int) + 5 by unfold wrap64;omega)
     have hw2 := Lib.hid (show wrap64 ((i : Int) + 1) = ((i + 1 : Nat) : Int) by unfold wrap64;omega)
     by_cases hj : (j : Int) ≤ min (s.size : Int) ((i : Int) + 5)
     ·have hw3 := Lib.hid (show wrap64 ((j : Int) + 1) = ((j + 1 : Nat) : Int) by unfold wrap64;omega)
      have hjs : j ≤ s.size := by omega
      have hz : (s.extract i j).size ≤ 1099511627776 := by
       have h9 := size_extract s i j hjs
       omega
      have h1' := begun_val (s.extract i j)
      have h2' := rbegun_val (s.extract i j) hz
      have hne : ¬ (begB (s.extract i j) != begB (s.extract i j)) = true := by simp
      have hc1 : (j : Int) ≤ mn (s.size : Int) (wrap64 ((i : Int) + 5)) := by rw [mn_eq,hw.out];exact hj
      have hc2 : (0 : Int) ≤ (i : Int) := by omega
      have hc3 : (i : Int) ≤ (j : Int) := by omega
      have hc4 : (j : Int) ≤ (s.size : Int) := by omega
      refine Ev.step (fun k => bodkinlaw01_UnitBegins.l1.eq_2 ..) (ev_pos hc1 (ev_pos hc2 (ev_pos hc3 (ev_pos hc4 ?_))))
      rw [Int.toNat_natCast,Int.toNat_natCast]
      refine ev_some h1' (ev_some h2' (ev_neg hne ?_))
      rw [hw3.out]
      exact ihm (j + 1) (by omega) (by omega)
     ·refine Ev.step (fun k => bodkinlaw01_UnitBegins.l1.eq_2 ..) (ev_neg (by rw [mn_eq,hw.out];exact hj) ?_)
      rw [hw2.out]
      exact ih (i + 1) (by omega)
   exact inner 6 i (Nat.le_refl _) (by omega)
  ·exact Ev.step (fun k => bodkinlaw01_UnitBegins.l0.eq_2 ..) (ev_neg (by rw [mn_eq];exact hlt) (Ev.now _))
theorem UnitBegins (a0 : ByteArray) (u0 : a0.size ≤ 1048576) : ∃ k,bodkinlaw01_UnitBegins.f k a0 = some true := by
 apply Ev.rounds
 unfold bodkinlaw01_UnitBegins.f
 refine ev_some rfl (ev_pos rfl (ev_some (a := true) (by kernel_rfl) (ev_pos rfl (ev_some (begun_val a0) (ev_some (rbegun_val a0 (by omega)) (Ev.step (fun k => bodkinlaw01_UnitBegins.j0.eq_2 ..) (ev_neg (by simp) ?_)))))))
 exact begins_loop a0 u0 100 0 (by omega)
end Go.Proofs.YtfhnfhgpaoddbaaDoor.Pure
end
section
namespace Go.Proofs.YtfhnfhgpaoddbaaDoor.Lf
open Go.Lib Go.Proofs
theorem own : ownKnob Tryd.prog.godebug = none := by kernel_rfl
theorem extra : U8Extra Tryd.prog Tryd.lays260_ren := {
 n3 := by kernel_rfl
 n4 := by kernel_rfl
 y3 := by kernel_rfl
 y4 := by kernel_rfl
 c5 := by kernel_rfl
 c119 := by kernel_rfl
 c138 := by kernel_rfl }
theorem first_eq : Rows.laid_unicode_utf8_first = Lib.firstData := by kernel_rfl
theorem accept_eq : (Rows.laid_unicode_utf8_acceptRanges : DataW Unit) = Lib.acceptData := by kernel_rfl
abbrev laid : List (String × DataW Unit) := [("unicode/utf8.acceptRanges", Rows.laid_unicode_utf8_acceptRanges), ("unicode/utf8.first", Rows.laid_unicode_utf8_first)]
/-- The two tables lie as the contracts ask. -/
theorem tabs {W : World} (h : laidMetH Tryd.prog laid W) : Lib.Utf8Tabs 0 1 W := by
  rw [MakeChecks.laidMetH_plain _ _ _ (by kernel_rfl)] at h
  have h3 := laidMet.reads h (n := "unicode/utf8.first") (d := Rows.laid_unicode_utf8_first) (List.mem_cons_of_mem _ List.mem_cons_self)
  have h4 := laidMet.reads h (n := "unicode/utf8.acceptRanges") (d := Rows.laid_unicode_utf8_acceptRanges) List.mem_cons_self
  rw [first_eq] at h3
  rw [accept_eq] at h4
  exact utf8Tabs_of_reads Tryd.lays260 extra h3 h4
/-- The world of the witness: the settled one,the tables laid. -/
noncomputable abbrev wit (os : Os) : World := World.laidAll Tryd.prog os laid
theorem wit_laid (os : Os) (args : Array Value) : laidMetH Tryd.prog laid ((wit os).forCall (fun _ _ => 0) ⟨#[],args,[]⟩).memory := by
 rw [MakeChecks.laidMetH_plain _ _ _ (by kernel_rfl)]
 exact laidMet_laidAll _ (by kernel_rfl) (by kernel_rfl)
theorem wit_shaped (os : Os) (args : Array Value) : ((wit os).forCall (fun _ _ => 0) ⟨#[],args,[]⟩).Shaped Tryd.prog :=
 World.shaped_of_ZipB (by kernel_rfl) (by kernel_rfl)
end Go.Proofs.YtfhnfhgpaoddbaaDoor.Lf
end
