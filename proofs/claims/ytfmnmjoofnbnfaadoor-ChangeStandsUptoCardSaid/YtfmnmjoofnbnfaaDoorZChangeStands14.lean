/- What the law ChangeStands reaches of this seat's own texts, merged; what nothing uses is left out. -/
import Derived.Test.YtfmnmjoofnbnfaaDoorZChangeStands0
import Derived.Test.YtfmnmjoofnbnfaaDoorZChangeStands1
import Derived.Test.YtfmnmjoofnbnfaaDoorZChangeStands2
import Derived.Test.YtfmnmjoofnbnfaaDoorZChangeStands5
import Derived.Test.YtfmnmjoofnbnfaaDoorZChangeStands10
import Derived.Test.YtfmnmjoofnbnfaaDoorZChangeStands11
import Derived.Test.YtfmnmjoofnbnfaaDoorZChangeStands12
import Derived.Test.YtfmnmjoofnbnfaaDoorZChangeStands13
section
namespace Go.Proofs.YtfmnmjoofnbnfaaDoor.Pu
open Go Go.RowKit Go.Proofs.YtfmnmjoofnbnfaaDoor.Mu Go.Proofs.YtfmnmjoofnbnfaaDoor.U Go.Proofs.YtfmnmjoofnbnfaaDoorW.PrintWords Go.Proofs.YtfmnmjoofnbnfaaDoorW.PrintLast Go.Proofs.YtfmnmjoofnbnfaaDoorW.PrintMore
set_option linter.unusedVariables false
set_option linter.unusedSimpArgs false
theorem of_eq {text : ByteArray} (hs : text.size ≤ 549755813888) (kind count : Int) (tx : ByteArray) (mark at_ region : Int) : change_Of.f kind count tx mark text at_ region = some (ofB kind (ruleZ (wkOf text count at_ region)) 13 0) := by
 unfold change_Of.f
 rw [if_pos hs]
theorem of_kind (k : Int) : (∃ i : Nat,i < 13 ∧ k = kd i ∧ (∀ Z,ofB k Z 13 0 = Z i) ∧ doesB k 13 0 = true) ∨ ((∀ i : Nat,i < 13 → k ≠ kd i) ∧ (∀ Z,ofB k Z 13 0 = (0,0,⟨#[]⟩,0,⟨#[]⟩,false,13)) ∧ doesB k 13 0 = false) := by
 have h : ∀ m i : Nat,(∃ j : Nat,i ≤ j ∧ j < i + m ∧ k = kd j ∧ (∀ Z,ofB k Z m i = Z j) ∧ doesB k m i = true) ∨ ((∀ j : Nat,i ≤ j → j < i + m → k ≠ kd j) ∧ (∀ Z,ofB k Z m i = (0,0,⟨#[]⟩,0,⟨#[]⟩,false,13)) ∧ doesB k m i = false) := by
  intro m
  induction m with
  | zero => intro i;exact .inr ⟨fun j h1 h2 => by omega,fun Z => rfl,rfl⟩
  | succ m ih =>
   intro i
   by_cases hk : kd i = k
   ·exact .inl ⟨i,Nat.le_refl _,by omega,hk.symm,fun Z => by rw [ofB,if_pos hk],by rw [doesB,hk];simp⟩
   ·rcases ih (i + 1) with ⟨j,h1,h2,h3,h4,h5⟩ | ⟨h1,h2,h3⟩
    ·exact .inl ⟨j,by omega,by omega,h3,fun Z => by rw [ofB,if_neg hk,h4],by rw [doesB,h5];simp⟩
    ·refine .inr ⟨fun j h4 h5 => ?_,fun Z => by rw [ofB,if_neg hk,h2],by rw [doesB,h3];simp [hk]⟩
     by_cases h6 : j = i
     ·rw [h6];exact fun h => hk h.symm
     ·exact h1 j (by omega) (by omega)
 rcases h 13 0 with ⟨j,_,h2,h3⟩ | ⟨h1,h2⟩
 ·exact .inl ⟨j,by omega,h3⟩
 ·exact .inr ⟨fun i hi => h1 i (Nat.zero_le _) (by omega),h2⟩
theorem snZ_at {s : ByteArray} (hs : s.size ≤ 1099511627776) {a : Int} (h : CBI s a) : snZ s a = a := (snZ_spec s hs a).one (csnapS_at h)
theorem snZ_cb (s : ByteArray) (hs : s.size ≤ 1099511627776) (a : Int) : CBI s (snZ s a) := (snZ_spec s hs a).1
theorem nxZ_end (s : ByteArray) (hs : s.size ≤ 1099511627776) : nxZ s s.size = s.size := by
 have := nxZ_range s hs s.size (by omega) (Int.le_refl _)
 omega
def smp : ByteArray := ⟨#[97,98,32,99,45,100,10,101,102]⟩
theorem smp_size : smp.size = 9 := rfl
theorem smp_cb {a : Int} (h : decide (a ∈ cbndL smp) = true) : CBI smp a := (cbndL_mem smp a).1 (of_decide_eq_true h)
theorem smp_of1 : ofB 17 (ruleZ (wkOf smp 2 6 (-1))) 13 0 = (3,3,⟨#[]⟩,3,⟨#[99,45,100]⟩,true,0) := by
 have e : snZ smp 6 = 6 := snZ_at (by rw [smp_size];omega) (smp_cb (by kernel_rfl))
 have e2 : ofB 17 (ruleZ (wkOf smp 2 6 (-1))) 13 0 = cutZ smp true true (againN (beA smp) 2 (snZ smp 6)) (snZ smp 6) := rfl
 rw [e2,e]
 exact (show cutZ smp true true (againN (beA smp) 2 6) 6 = (3,3,⟨#[]⟩,3,⟨#[99,45,100]⟩,true,0) by kernel_rfl)
theorem smp_of2 : ofB 25 (ruleZ (wkOf smp 0 4 (-1))) 13 0 = (3,3,⟨#[100,45,99]⟩,6,⟨#[]⟩,false,0) := by
 have e : snZ smp 4 = 4 := snZ_at (by rw [smp_size];omega) (smp_cb (by kernel_rfl))
 have e2 : ofB 25 (ruleZ (wkOf smp 0 4 (-1))) 13 0 = trwZ ⟨smp,snZ smp 4,-1,1⟩ := rfl
 rw [e2,e]
 exact (show trwZ ⟨smp,4,-1,1⟩ = (3,3,⟨#[100,45,99]⟩,6,⟨#[]⟩,false,0) by kernel_rfl)
theorem smp_of3 : ofB 14 (ruleZ (wkOf smp 0 9 (-1))) 13 0 = (0,0,⟨#[]⟩,0,⟨#[]⟩,false,8) := by
 have hs : smp.size ≤ 1099511627776 := by rw [smp_size];omega
 have e : snZ smp 9 = 9 := snZ_at hs (cbI_size smp)
 have en : nxZ smp 9 = 9 := nxZ_end smp hs
 have e2 : ofB 14 (ruleZ (wkOf smp 0 9 (-1))) 13 0 = cutZ smp false false (snZ smp 9) (againN (nxZ smp) 1 (snZ smp 9)) := rfl
 rw [e2,e,againN,if_pos en,cutZ,if_pos rfl]
theorem next_a : Ev (fun k => cluster_Next.f k (⟨#[97]⟩ : ByteArray) 0) 1 := Ev.of (fun k => cluster_Next.mono _ _ k) (k := 100) (by kernel_rfl)
theorem awake17_ans : Ev (fun k => bodkinlaw17_awake.f k) true := by
 have hs : smp.size ≤ 549755813888 := by rw [smp_size];omega
 unfold bodkinlaw17_awake.f
 refine Ev.bind next_a (ev_pos rfl ?_)
 refine ev_some (of_eq hs 17 2 _ _ 6 (-1)) ?_
 rw [smp_of1]
 refine ev_some (of_eq hs 25 0 _ _ 4 (-1)) ?_
 rw [smp_of2]
 refine ev_some (of_eq hs 14 0 _ _ 9 (-1)) ?_
 rw [smp_of3]
 exact ev_pos (by kernel_rfl) (ev_pos rfl (ev_pos rfl (ev_pos rfl (ev_pos (by kernel_rfl) (ev_pos rfl (ev_pos rfl (ev_some (a := true) rfl (Ev.now _))))))))
end Go.Proofs.YtfmnmjoofnbnfaaDoor.Pu
end
section
namespace Go.Proofs.YtfmnmjoofnbnfaaDoor.Pu
open Go Go.RowKit Go.Proofs.YtfmnmjoofnbnfaaDoor.Mu Go.Proofs.YtfmnmjoofnbnfaaDoor.U Go.Proofs.YtfmnmjoofnbnfaaDoorW.PrintWords Go.Proofs.YtfmnmjoofnbnfaaDoorW.PrintLast Go.Proofs.YtfmnmjoofnbnfaaDoorW.PrintMore
set_option linter.unusedVariables false
set_option linter.unusedSimpArgs false
theorem bt_byt' (t : ByteArray) (i : Nat) (h : i < t.size) : bt t i = (byt t i : Int) := by
 unfold bt byt
 rw [dif_pos (by omega),get!_eq,List.getD_eq_getElem?_getD]
 have hl : i < t.data.toList.length := by rw [← Lib.size_eq];exact h
 rw [List.getElem?_eq_getElem hl]
 rfl
theorem index_spec (c : UInt8) : ∀ l : List UInt8,(Lib.indexByte l c = -1 ∧ ∀ j : Nat,l[j]? ≠ some c) ∨ ∃ i : Nat,Lib.indexByte l c = i ∧ l[i]? = some c ∧ ∀ j : Nat,j < i → l[j]? ≠ some c
 | [] => .inl ⟨rfl,fun j => by simp⟩
 | b :: l => by
  unfold Lib.indexByte
  by_cases hb : b = c
  ·rw [if_pos (by simp [hb])]
   exact .inr ⟨0,rfl,by simp [hb],fun j hj => by omega⟩
  ·rw [if_neg (by simp [hb])]
   rcases index_spec c l with ⟨h1,h2⟩ | ⟨i,h1,h2,h3⟩
   ·rw [if_pos (by simp [h1])]
    refine .inl ⟨rfl,fun j => ?_⟩
    cases j with
    | zero => simpa using hb
    | succ j => simpa using h2 j
   ·rw [if_neg (by rw [h1,beq_iff_eq];omega)]
    refine .inr ⟨i + 1,by omega,by simpa using h2,fun j hj => ?_⟩
    cases j with
    | zero => simpa using hb
    | succ j => simpa using h3 j (by omega)
theorem tail_at (s : ByteArray) (x j : Nat) (hj : x + j < s.size) : (s.extract x s.size).data.toList[j]? = some (s.get! (x + j)) := by
 rw [Lib.extract_data,List.getElem?_take,if_pos (by omega),List.getElem?_drop,get!_eq,List.getD_eq_getElem?_getD]
 rw [List.getElem?_eq_getElem (by rw [← Lib.size_eq];exact hj)]
 rfl
theorem ten_byt (s : ByteArray) (i : Nat) : s.get! i = 10 ↔ byt s i = 10 := by
 unfold byt
 exact ⟨fun h => by rw [h];rfl,fun h => UInt8.toNat_inj.1 (by rw [h];rfl)⟩
/-- The next newline. -/
theorem nl_spec (s : ByteArray) (x : Nat) (hx : x ≤ s.size) : (nlZ s x = -1 ∧ ∀ j,x ≤ j → j < s.size → byt s j ≠ 10) ∨ ∃ n : Nat,nlZ s x = n ∧ x + n < s.size ∧ byt s (x + n) = 10 ∧ ∀ j,x ≤ j → j < x + n → byt s j ≠ 10 := by
 have hl : (s.extract x s.size).data.toList.length = s.size - x := by
  rw [Array.length_toList]
  exact size_extract _ _ _ (Nat.le_refl _)
 unfold nlZ
 rw [Int.toNat_natCast]
 rcases index_spec 10 (s.extract x s.size).data.toList with ⟨h1,h2⟩ | ⟨n,h1,h2,h3⟩
 ·refine .inl ⟨h1,fun j hj hj2 h => h2 (j - x) ?_⟩
  rw [tail_at s x (j - x) (by omega),show x + (j - x) = j by omega,(ten_byt s j).2 h]
 ·have hn : n < s.size - x := by
   rw [← hl]
   exact (List.getElem?_eq_some_iff.1 h2).1
  rw [tail_at s x n (by omega)] at h2
  refine .inr ⟨n,h1,by omega,(ten_byt s _).1 (Option.some.inj h2),fun j hj hj2 h => h3 (j - x) (by omega) ?_⟩
  rw [tail_at s x (j - x) (by omega),show x + (j - x) = j by omega,(ten_byt s j).2 h]
/-- The line's beginning. -/
theorem lst_spec (s : ByteArray) (x : Nat) (hx : x ≤ s.size) : ∃ l : Nat,lstZ s x = l ∧ l ≤ x ∧ (l = 0 ∨ byt s (l - 1) = 10) ∧ ∀ j,l ≤ j → j < x → byt s j ≠ 10 := by
 have h2 : (s.extract 0 x).size = x := by rw [size_extract _ _ _ hx];omega
 have hb : ∀ j,j < x → (((s.extract 0 x).data[j]!).toNat : Int) = (byt s j : Int) := by
  intro j hj
  have e := byt_extract s 0 x j (by omega) hx
  rw [Nat.zero_add] at e
  rw [← e]
  rfl
 unfold lstZ
 rw [Int.toNat_natCast]
 rcases Lib.lastIndexByte_spec (s.extract 0 x) 10 with ⟨h,hn⟩ | ⟨i,hi,h,hv,hn⟩
 ·refine ⟨0,by omega,Nat.zero_le _,.inl rfl,fun j _ hj h => ?_⟩
  have := hn j (by omega)
  rw [hb j hj] at this
  omega
 ·rw [hb i (by omega)] at hv
  refine ⟨i + 1,by omega,by omega,.inr (by rw [Nat.add_sub_cancel];omega),fun j hj hj2 h => ?_⟩
  have := hn j (by omega) (by omega)
  rw [hb j hj2] at this
  omega
theorem bd_low (s : ByteArray) (x : Nat) (hx : x < s.size) (h : byt s x < 128) : Bd s x :=
 ⟨by omega,fun j hj => by
  by_cases h2 : x < j + uN s j
  ·have := inner_cont s j x hj h2;omega
  ·omega⟩
theorem cb_nl (s : ByteArray) (x : Nat) (hx : x < s.size) (h : byt s x = 10) (hc : ∀ y,y + 1 = x → byt s y ≠ 13) : CB s x := by
 refine ⟨bd_low s x hx (by omega),fun y hy he hlt => ?_⟩
 rw [(uC_low s x 10 (by omega)).2 h]
 cases hg : glueB (uC s y) 10 with
 | false => rfl
 | true =>
  have hu := (glue_nl _).1 hg
  have h1 := uN_low s y 13 (by omega) hu
  exact absurd ((uC_low s y 13 (by omega)).1 hu) (hc y (by omega))
theorem cb_cr (s : ByteArray) (x : Nat) (hx : x < s.size) (h : byt s x = 13) : CB s x := by
 refine ⟨bd_low s x hx (by omega),fun y hy he hlt => ?_⟩
 rw [(uC_low s x 13 (by omega)).2 h]
 exact glue_cr _
theorem cb_after (s : ByteArray) (x : Nat) (hx : x < s.size) (h : byt s x = 10) : CB s (x + 1) := by
 have hu := (uC_low s x 10 (by omega)).2 h
 have h1 := uN_low s x 10 (by omega) hu
 have hb := bd_low s x hx (by omega)
 have hb1 := bd_next s x hb hx
 rw [h1] at hb1
 refine ⟨hb1,fun y hy he hlt => ?_⟩
 obtain rfl := bd_prev_one s (x + 1) y x hy hb he.symm (by omega)
 rw [hu]
 exact glue_of_nl _
theorem lst_cb (s : ByteArray) (x : Int) (h : CBI s x) : CBI s (lstZ s x) := by
 have hr := cbi_range h
 obtain ⟨l,h1,h2,h3,_⟩ := lst_spec s x.toNat (by omega)
 rw [Int.toNat_of_nonneg hr.1] at h1
 rw [h1,cbI_nat]
 rcases h3 with rfl | h3
 ·exact cb_zero s
 ·rcases Nat.eq_zero_or_pos l with rfl | hl
  ·exact cb_zero s
  ·have := cb_after s (l - 1) (by omega) h3
   rwa [show l - 1 + 1 = l by omega] at this
theorem lend_cb (s : ByteArray) (x : Int) (h : CBI s x) : CBI s (lendZ s x).1 ∧ CBI s (lendZ s x).2 := by
 have hr := cbi_range h
 obtain ⟨y,rfl⟩ : ∃ y : Nat,x = y := ⟨x.toNat,by omega⟩
 unfold lendZ
 rcases nl_spec s y (by omega) with ⟨h1,_⟩ | ⟨n,h1,h2,h3,_⟩
 ·rw [h1,if_pos (by omega)]
  exact ⟨cbI_size s,cbI_size s⟩
 ·rw [h1,if_neg (by omega)]
  have ha : CBI s ((y : Int) + n + 1) := by
   have := cb_after s (y + n) h2 h3
   rw [show (y : Int) + n + 1 = ((y + n + 1 : Nat) : Int) by omega,cbI_nat]
   exact this
  by_cases hc : (n : Int) > 0 ∧ bt s ((y : Int) + n - 1) = 13
  ·rw [if_pos hc]
   have hb := hc.2
   rw [show (y : Int) + n - 1 = ((y + n - 1 : Nat) : Int) by omega,bt_byt' s _ (by omega)] at hb
   refine ⟨?_,ha⟩
   rw [show (y : Int) + n - 1 = ((y + n - 1 : Nat) : Int) by omega,cbI_nat]
   exact cb_cr s _ (by omega) (by omega)
  ·rw [if_neg hc]
   refine ⟨?_,ha⟩
   rcases Nat.eq_zero_or_pos n with rfl | hn
   ·rw [show (y : Int) + ((0 : Nat) : Int) = y by omega];exact h
   ·rw [show (y : Int) + n = ((y + n : Nat) : Int) by omega,cbI_nat]
    refine cb_nl s _ h2 h3 (fun z hz hz2 => hc ⟨by omega,?_⟩)
    rw [show (y : Int) + n - 1 = (z : Int) by omega,bt_byt' s _ (by omega),hz2]
    rfl
theorem onw_cb (s : ByteArray) (x : Int) (h : CBI s x) : CBI s (onwZ s x) := by
 have := lend_cb s x h
 unfold onwZ
 split
 ·exact this.2
 ·exact this.1
end Go.Proofs.YtfmnmjoofnbnfaaDoor.Pu
end
section
namespace Go.Proofs.YtfmnmjoofnbnfaaDoor.Pu
open Go Go.RowKit Go.Proofs.YtfmnmjoofnbnfaaDoor.Mu Go.Proofs.YtfmnmjoofnbnfaaDoor.U Go.Proofs.YtfmnmjoofnbnfaaDoorW.PrintWords Go.Proofs.YtfmnmjoofnbnfaaDoorW.PrintLast Go.Proofs.YtfmnmjoofnbnfaaDoorW.PrintMore
/-- The bytes of a text from x on. -/
def bytsAt (s : ByteArray) (x n : Nat) : List Int := (List.range n).map fun i => (byt s (x + i) : Int)
/-- A good unit's bytes are its character's encoding. -/
theorem enc_unit (s : ByteArray) (x : Nat) (h : 0 ≤ uC s x) : okC (uC s x) ∧ encI (uC s x) = bytsAt s x (uN s x) := by
 have := byt_lt s x;have := byt_lt s (x + 1);have := byt_lt s (x + 2);have := byt_lt s (x + 3)
 unfold okC encI bytsAt
 rcases uC_cases s x with h1 | h1 | h1 | h1 | h1
 ·refine ⟨by omega,?_⟩
  rw [if_pos (by omega),h1.2.2,h1.2.1];rfl
 ·omega
 ·obtain ⟨a,b,c,d,e,f,g⟩ := h1
  refine ⟨by omega,?_⟩
  rw [if_neg (by omega),if_pos (by omega),g]
  show _ = [(byt s x : Int),(byt s (x + 1) : Int)]
  rw [show 192 + uC s x / 64 = (byt s x : Int) by omega,show 128 + uC s x % 64 = (byt s (x + 1) : Int) by omega]
 ·obtain ⟨a,b,c,d,d2,e,e2,f,g⟩ := h1
  refine ⟨by omega,?_⟩
  rw [if_neg (by omega),if_neg (by omega),if_pos (by omega),g]
  show _ = [(byt s x : Int),(byt s (x + 1) : Int),(byt s (x + 2) : Int)]
  rw [show 224 + uC s x / 4096 = (byt s x : Int) by omega,show 128 + uC s x / 64 % 64 = (byt s (x + 1) : Int) by omega,show 128 + uC s x % 64 = (byt s (x + 2) : Int) by omega]
 ·obtain ⟨a,b,c,d,d2,d3,e,e2,f,g⟩ := h1
  refine ⟨by omega,?_⟩
  rw [if_neg (by omega),if_neg (by omega),if_neg (by omega),g]
  show _ = [(byt s x : Int),(byt s (x + 1) : Int),(byt s (x + 2) : Int),(byt s (x + 3) : Int)]
  rw [show 240 + uC s x / 262144 = (byt s x : Int) by omega,show 128 + uC s x / 4096 % 64 = (byt s (x + 1) : Int) by omega,show 128 + uC s x / 64 % 64 = (byt s (x + 2) : Int) by omega,show 128 + uC s x % 64 = (byt s (x + 3) : Int) by omega]
theorem bytsAt_len (s : ByteArray) (x n : Nat) : (bytsAt s x n).length = n := by simp [bytsAt]
end Go.Proofs.YtfmnmjoofnbnfaaDoor.Pu
end
section
namespace Go.Proofs.YtfmnmjoofnbnfaaDoor.Pu
open Go Go.RowKit Go.Proofs.YtfmnmjoofnbnfaaDoor.Mu Go.Proofs.YtfmnmjoofnbnfaaDoor.U Go.Proofs.YtfmnmjoofnbnfaaDoorW.PrintWords Go.Proofs.YtfmnmjoofnbnfaaDoorW.PrintLast Go.Proofs.YtfmnmjoofnbnfaaDoorW.PrintMore
set_option linter.unusedVariables false
set_option linter.unusedSimpArgs false
theorem again_cb (s : ByteArray) (F : Int → Int) (hF : ∀ x,CBI s x → CBI s (F x)) : ∀ (n : Nat) (x : Int),CBI s x → CBI s (againN F n x)
 | 0,x,h => h
 | n + 1,x,h => by
  rw [againN]
  split
  ·exact h
  ·exact again_cb s F hF n _ (hF x h)
theorem nx_cb (s : ByteArray) (hs : s.size ≤ 1099511627776) (x : Int) (_ : CBI s x) : CBI s (nxZ s x) := (nxZ_spec s hs x).1
theorem pv_cb (s : ByteArray) (hs : s.size ≤ 1099511627776) (x : Int) (_ : CBI s x) : CBI s (pvZ s x) := (pvZ_spec s hs x).1
theorem ah_cb (s : ByteArray) (x : Int) (h : CBI s x) : CBI s (ahA s x) := (ahA_spec s x (cbi_range h).1 (cbi_range h).2).2.2
theorem be_cb (s : ByteArray) (x : Int) (h : CBI s x) : CBI s (beA s x) := (beA_spec s x (cbi_range h).1 (cbi_range h).2).2.2
theorem enc_len (c : Int) : (encI c).length = if c < 128 then 1 else if c < 2048 then 2 else if c < 65536 then 3 else 4 := by
 unfold encI;split <;> (try split) <;> (try split) <;> rfl
theorem up_cases (c : Int) : upC c = c ∨ (upC c = c - 1 ∧ 257 ≤ c ∧ c ≤ 1153) ∨ (upC c = 376 ∧ c = 255) ∨ (upC c = c - 80 ∧ 1104 ≤ c ∧ c ≤ 1119) ∨ (upC c = c - 32 ∧ ((97 ≤ c ∧ c ≤ 122) ∨ (224 ≤ c ∧ c ≤ 254) ∨ (945 ≤ c ∧ c ≤ 969) ∨ (1072 ≤ c ∧ c ≤ 1103))) := by
 unfold upC low3
 split
 ·rename_i h;unfold runB at h;have := of_decide_eq_true h;omega
 ·unfold low2
  split
  ·rename_i h;have := of_decide_eq_true h;omega
  ·split
   ·omega
   ·unfold low1
    split
    ·rename_i h;simp only [Bool.and_eq_true] at h;have h := h.2;unfold oddB at h;have := of_decide_eq_true h;omega
    ·split
     ·rename_i h;unfold oddB at h;have := of_decide_eq_true h;omega
     ·split
      ·rename_i h;unfold oddB at h;have := of_decide_eq_true h;omega
      ·omega
theorem up_len (c : Int) (h : okC c) : okC (upC c) ∧ (encI (upC c)).length = (encI c).length := by
 have hc := up_cases c
 unfold okC at h ⊢
 rw [enc_len,enc_len]
 generalize upC c = d at hc
 constructor
 ·omega
 ·split <;> split <;> (try split) <;> (try split) <;> (try split) <;> (try split) <;> omega
theorem try_len (c far d : Int) (hf : far = 1 ∨ far = 32 ∨ far = 80) (h : okC c) (hd : okC d ∧ (encI d).length = (encI c).length) : okC (lowTry c far d) ∧ (encI (lowTry c far d)).length = (encI c).length := by
 unfold lowTry
 split
 ·rename_i hc
  have ho : okC (c + far) := by unfold okC;omega
  have := (up_len (c + far) ho).2
  rw [hc.2.2] at this
  exact ⟨ho,this.symm⟩
 ·exact hd
theorem low_len (c : Int) (h : okC c) : okC (lowC c) ∧ (encI (lowC c)).length = (encI c).length := by
 unfold lowC
 split
 ·rename_i hc;subst hc;exact ⟨by decide,rfl⟩
 ·exact try_len _ _ _ (.inl rfl) h (try_len _ _ _ (.inr (.inl rfl)) h (try_len _ _ _ (.inr (.inr rfl)) h ⟨h,rfl⟩))
section
variable {s : ByteArray} {F : Int → Int → Int}
theorem keepU_length (hF : ∀ a c,okC c → okC (F a c) ∧ (encI (F a c)).length = (encI c).length) (i : Nat) (hi : i < s.size) : (eachU s F i).length = uN s i := by
 unfold eachU
 by_cases h : uC s i < 0
 ·rw [if_pos h,bytesOf_length,size_extract _ _ _ (uN_le s i hi)];omega
 ·rw [if_neg h]
  obtain ⟨h1,h2⟩ := enc_unit s i (by omega)
  have h3 := hF i _ h1
  have h5 := congrArg List.length h2
  rw [bytsAt_len] at h5
  unfold encO
  rw [if_pos h3.1];omega
theorem keepL_length (hF : ∀ a c,okC c → okC (F a c) ∧ (encI (F a c)).length = (encI c).length) : ∀ k i,s.size ≤ i + k → i ≤ s.size → (eachL s F k i).length = s.size - i
 | 0,i,hk,hi => by rw [eachL];simp;omega
 | k + 1,i,hk,hi => by
  rw [eachL]
  have hp := uN_pos s i
  split
  ·rename_i h
   have hle := uN_le s i h
   rw [List.length_append,keepU_length hF i h,keepL_length hF k _ (by omega) hle];omega
  ·simp;omega
theorem keep_size (hF : ∀ a c,okC c → okC (F a c) ∧ (encI (F a c)).length = (encI c).length) : (strOfNums (eachT s F)).size = s.size := by
 have e : (strOfNums (eachT s F)).size = (eachT s F).length := by
  rw [← bytesOf_length]
  simp [strOfNums,bytesOf]
 rw [e]
 unfold eachT
 rw [keepL_length hF _ _ (by omega) (Nat.zero_le _)];omega
end
theorem upper_put (t : ByteArray) (ht : t.size ≤ 1099511627775) : word_Upper.f t = some (upperP t) ∧ (upperP t).size = t.size := by
 have e : word_Upper.f t = some (strOfNums (eachT t upF)) := by unfold word_Upper.f;rw [if_pos (by omega)]
 have ep : upperP t = strOfNums (eachT t upF) := by unfold upperP;rw [e];rfl
 rw [ep]
 exact ⟨e,keep_size (fun _ c h => up_len c h)⟩
theorem lower_put (t : ByteArray) (ht : t.size ≤ 1099511627775) : word_Lower.f t = some (lowerP t) ∧ (lowerP t).size = t.size := by
 have e : word_Lower.f t = some (strOfNums (eachT t lowF)) := by unfold word_Lower.f;rw [if_pos (by omega)]
 have ep : lowerP t = strOfNums (eachT t lowF) := by unfold lowerP;rw [e];rfl
 rw [ep]
 exact ⟨e,keep_size (fun _ c h => low_len c h)⟩
theorem capital_put (t : ByteArray) (ht : t.size ≤ 1099511627775) : word_Capital.f t = some (capitalP t) ∧ (capitalP t).size = t.size := by
 have e : word_Capital.f t = some (strOfNums (eachT t (capF t))) := by unfold word_Capital.f;rw [if_pos (by omega)]
 have ep : capitalP t = strOfNums (eachT t (capF t)) := by unfold capitalP;rw [e];rfl
 rw [ep]
 exact ⟨e,keep_size (fun a c h => by unfold capF;split;exact up_len c h;exact low_len c h)⟩
/-- Places from which a command works. -/
structure WkOk (q : Wk) : Prop where
 size : q.text.size ≤ 549755813888
 at0 : CBI q.text q.at0
 reg : q.region = -1 ∨ CBI q.text q.region
theorem wkOf_ok (text : ByteArray) (hs : text.size ≤ 549755813888) (count at_ region : Int) : WkOk (wkOf text count at_ region) := by
 refine ⟨hs,snZ_cb text (by omega) at_,?_⟩
 unfold wkOf
 dsimp only
 split
 ·exact .inr (snZ_cb text (by omega) region)
 ·exact .inl rfl
/-- What rule number i answers. -/
structure RuleOk (t : ByteArray) (i : Nat) (Z : Res) : Prop where
 bad : Z.2.2.2.2.2.2 ≠ 0 → Z = (0,0,⟨#[]⟩,0,⟨#[]⟩,false,Z.2.2.2.2.2.2) ∧ Z.2.2.2.2.2.2 ≠ 13 ∧ (i ≠ 6 → i ≠ 7 → Z.2.2.2.2.2.2 = 8)
 good : Z.2.2.2.2.2.2 = 0 → CBI t Z.1 ∧ CBI t (Z.1 + Z.2.1) ∧ 0 ≤ Z.2.1 ∧ 0 ≤ Z.2.2.2.1 ∧ Z.2.2.2.1 ≤ t.size - Z.2.1 + Z.2.2.1.size ∧
  (i = 7 → Z.1 = 0 ∧ Z.2.1 = 0 ∧ Z.2.2.1 = ⟨#[]⟩ ∧ 0 < Z.2.2.2.2.1.size ∧ Z.2.2.2.2.2.1 = false) ∧
  (i ≠ 7 → 2 ≤ i → i ≤ 6 → Z.2.2.1 = ⟨#[]⟩ ∧ 0 < Z.2.2.2.2.1.size ∧ Z.2.2.2.2.1 = t.extract Z.1.toNat (Z.1 + Z.2.1).toNat) ∧
  (i < 2 ∨ 8 ≤ i → Z.2.2.2.2.1 = ⟨#[]⟩)
theorem cut_ok (t : ByteArray) (i : Nat) (kk fw : Bool) (a b : Int) (hk : kk = decide (2 ≤ i)) (hi : i ≤ 5) (ha : CBI t a) (hb : CBI t b) (hab : a ≤ b) : RuleOk t i (cutZ t kk fw a b) := by
 have h1 := cbi_range ha
 have h2 := cbi_range hb
 unfold cutZ
 by_cases he : a = b
 ·rw [if_pos he]
  exact ⟨fun _ => ⟨rfl,by decide,fun _ _ => rfl⟩,fun h => absurd h (by decide)⟩
 ·rw [if_neg he]
  refine ⟨fun h => absurd rfl h,fun _ => ⟨ha,?_,?_,h1.1,?_,fun h => by omega,fun _ h3 h4 => ⟨rfl,?_,?_⟩,fun h => ?_⟩⟩
  ·show CBI t (a + (b - a));rw [show a + (b - a) = b by omega];exact hb
  ·show 0 ≤ b - a;omega
  ·show a ≤ (t.size : Int) - (b - a) + ((0 : Nat) : Int);omega
  ·show 0 < (if kk = true then t.extract a.toNat b.toNat else ⟨#[]⟩).size
   rw [if_pos (by rw [hk];simpa using h3),size_extract _ _ _ (by omega)];omega
  ·show (if kk = true then t.extract a.toNat b.toNat else ⟨#[]⟩) = t.extract a.toNat (a + (b - a)).toNat
   rw [if_pos (by rw [hk];simpa using h3),show a + (b - a) = b by omega]
  ·show (if kk = true then t.extract a.toNat b.toNat else ⟨#[]⟩) = ⟨#[]⟩
   rw [if_neg (by rw [hk];simp;omega)]
theorem case_ok (t : ByteArray) (i : Nat) (a b : Int) (put : ByteArray) (hi : 10 ≤ i) (ha : CBI t a) (hb : CBI t b) (hab : a ≤ b) : RuleOk t i (caseZ t a b put) := by
 have h1 := cbi_range ha
 have h2 := cbi_range hb
 unfold caseZ
 by_cases he : a = t.size
 ·rw [if_pos he]
  exact ⟨fun _ => ⟨rfl,by decide,fun _ _ => rfl⟩,fun h => absurd h (by decide)⟩
 ·rw [if_neg he]
  refine ⟨fun h => absurd rfl h,fun _ => ⟨ha,?_,?_,?_,?_,fun h => by omega,fun _ h3 h4 => by omega,fun h => rfl⟩⟩
  ·show CBI t (a + (b - a));rw [show a + (b - a) = b by omega];exact hb
  ·show 0 ≤ b - a;omega
  ·show 0 ≤ a + (put.size : Int);omega
  ·show a + (put.size : Int) ≤ (t.size : Int) - (b - a) + (put.size : Int);omega
theorem edge_ok (t : ByteArray) (i : Nat) : RuleOk t i edgeR := ⟨fun _ => ⟨rfl,by decide,fun _ _ => rfl⟩,fun h => absurd h (by decide)⟩
theorem swap_size (t : ByteArray) (a b c d : Int) (h0 : 0 ≤ a) (h1 : a ≤ b) (h2 : b ≤ c) (h3 : c ≤ d) (h4 : d ≤ t.size) : ((swapZ t a b c d).2.2.1.size : Int) = d - a := by
 show (((t.extract c.toNat d.toNat ++ t.extract b.toNat c.toNat) ++ t.extract a.toNat b.toNat).size : Int) = _
 rw [ByteArray.size_append,ByteArray.size_append,size_extract _ _ _ (by omega),size_extract _ _ _ (by omega),size_extract _ _ _ (by omega)]
 omega
theorem swap_ok (t : ByteArray) (i : Nat) (a b c d : Int) (hi : i = 8 ∨ i = 9) (h1 : a ≤ b) (h2 : b ≤ c) (h3 : c ≤ d) (ha : CBI t a) (hd : CBI t d) : RuleOk t i (swapZ t a b c d) := by
 have r1 := cbi_range ha
 have r2 := cbi_range hd
 have hz := swap_size t a b c d r1.1 h1 h2 h3 r2.2
 refine ⟨fun h => absurd rfl h,fun _ => ⟨ha,?_,?_,?_,?_,fun h => by omega,fun _ h3 h4 => by omega,fun h => rfl⟩⟩
 ·show CBI t (a + (d - a));rw [show a + (d - a) = d by omega];exact hd
 ·show 0 ≤ d - a;omega
 ·show 0 ≤ d;omega
 ·show d ≤ (t.size : Int) - (d - a) + ((swapZ t a b c d).2.2.1.size : Int);rw [hz];omega
theorem trc_ok (q : Wk) (h : WkOk q) : RuleOk q.text 8 (trcZ q) := by
 have hs : q.text.size ≤ 1099511627776 := by have := h.size;omega
 unfold trcZ trcM
 generalize hm : (if q.at0 = (lendZ q.text q.at0).1 then pvZ q.text (lendZ q.text q.at0).1 else q.at0) = mid
 have hc : CBI q.text mid := by
  rw [← hm];split
  ·exact (pvZ_spec q.text hs _).1
  ·exact h.at0
 have hr := cbi_range hc
 have hp := pvZ_range q.text hs mid hr.1 hr.2
 have hn := nxZ_range q.text hs mid hr.1 hr.2
 split
 ·exact edge_ok _ _
 ·split
  ·exact edge_ok _ _
  ·exact swap_ok _ _ _ _ _ _ (.inl rfl) hp.2 (Int.le_refl _) hn.1 (pv_cb _ hs _ hc) (nx_cb _ hs _ hc)
theorem trw_word (q : Wk) (h : ¬ ((spansL q.text).length : Int) < 2) : ∃ w : Nat,w + 1 < (spansL q.text).length ∧
  trwZ q = swapZ q.text (rd_T63 (spansL q.text) (w : Int)).f0 (rd_T63 (spansL q.text) (w : Int)).f1 (rd_T63 (spansL q.text) ((w + 1 : Nat) : Int)).f0 (rd_T63 (spansL q.text) ((w + 1 : Nat) : Int)).f1 := by
 have hk : ∀ (i k : Nat) (L : List S63),k < L.length → i ≤ L.length → trwK L q.at0 k i < L.length := by
  intro i
  induction i with
  | zero => intro k L hk _;exact hk
  | succ i ih =>
   intro k L hk hi
   rw [trwK]
   split
   ·exact ih i L (by omega) (by omega)
   ·exact hk
 have hlt := hk (spansL q.text).length ((spansL q.text).length - 1) (spansL q.text) (by omega) (Nat.le_refl _)
 unfold trwZ
 rw [if_neg h]
 generalize trwK (spansL q.text) q.at0 ((spansL q.text).length - 1) (spansL q.text).length = k at hlt
 obtain ⟨w,hw,hc⟩ := mx_one k
 refine ⟨w,by omega,?_⟩
 unfold trwW
 rw [hw,show ((w + 1 : Nat) : Int) - 1 = (w : Int) by omega]
theorem rd_span_mem (L : List S63) (i : Nat) (h : i < L.length) : rd_T63 L (i : Int) = L[i] := by
 unfold rd_T63;rw [Int.toNat_natCast,List.getD_eq_getElem?_getD,List.getElem?_eq_getElem h];rfl
theorem trw_ok (q : Wk) : RuleOk q.text 9 (trwZ q) := by
 by_cases h : ((spansL q.text).length : Int) < 2
 ·unfold trwZ;rw [if_pos h];exact edge_ok _ _
 ·obtain ⟨w,hw,e⟩ := trw_word q h
  have ho := two_ord (spans_ord q.text) w hw
  have c1 := (spans_ord q.text).one _ (List.getElem_mem (show w < (spansL q.text).length by omega))
  have c2 := (spans_ord q.text).one _ (List.getElem_mem hw)
  rw [← rd_span_mem _ w (by omega)] at c1
  rw [← rd_span_mem _ (w + 1) hw] at c2
  rw [e]
  exact swap_ok _ _ _ _ _ _ (.inr rfl) ho.2.1 ho.2.2.1 ho.2.2.2.1 c1.2.2.1 c2.2.2.2
theorem kill_ok (q : Wk) (h : WkOk q) : RuleOk q.text 6 (killZ q) := by
 unfold killZ
 by_cases hr : q.region < 0
 ·rw [if_pos hr];exact ⟨fun _ => ⟨rfl,by decide,fun h => absurd rfl h⟩,fun h => absurd h (by decide)⟩
 ·rw [if_neg hr]
  by_cases he : q.region = q.at0
  ·rw [if_pos he];exact ⟨fun _ => ⟨rfl,by decide,fun h => absurd rfl h⟩,fun h => absurd h (by decide)⟩
  ·rw [if_neg he]
   have hc : CBI q.text q.region := by rcases h.reg with h | h;omega;exact h
   have hm := mn_mx q.at0 q.region
   have ha : CBI q.text (mn q.at0 q.region) := by rcases hm.2.1 with e | e <;> rw [e];exact h.at0;exact hc
   have hb : CBI q.text (mx q.at0 q.region) := by rcases hm.2.2 with e | e <;> rw [e];exact h.at0;exact hc
   have hlt : mn q.at0 q.region < mx q.at0 q.region := by unfold mn mx;split <;> split <;> omega
   have r1 := cbi_range ha
   have r2 := cbi_range hb
   generalize mn q.at0 q.region = a at *
   generalize mx q.at0 q.region = b at *
   refine ⟨fun h => absurd rfl h,fun _ => ⟨ha,?_,?_,r1.1,?_,fun h => by omega,fun _ _ _ => ⟨rfl,?_,?_⟩,fun h => by omega⟩⟩
   ·show CBI q.text (a + (b - a));rw [show a + (b - a) = b by omega];exact hb
   ·show 0 ≤ b - a;omega
   ·show a ≤ (q.text.size : Int) - (b - a) + ((0 : Nat) : Int);omega
   ·show 0 < (q.text.extract a.toNat b.toNat).size
    rw [size_extract _ _ _ (by omega)];omega
   ·show q.text.extract a.toNat b.toNat = q.text.extract a.toNat (a + (b - a)).toNat
    rw [show a + (b - a) = b by omega]
theorem copy_ok (q : Wk) (h : WkOk q) : RuleOk q.text 7 (copyZ q) := by
 unfold copyZ
 by_cases hr : q.region < 0
 ·rw [if_pos hr];exact ⟨fun _ => ⟨rfl,by decide,fun _ h => absurd rfl h⟩,fun h => absurd h (by decide)⟩
 ·rw [if_neg hr]
  by_cases he : q.region = q.at0
  ·rw [if_pos he];exact ⟨fun _ => ⟨rfl,by decide,fun _ h => absurd rfl h⟩,fun h => absurd h (by decide)⟩
  ·rw [if_neg he]
   have hc : CBI q.text q.region := by rcases h.reg with h | h;omega;exact h
   have hm := mn_mx q.at0 q.region
   have r0 := cbi_range h.at0
   have r3 := cbi_range hc
   have hlt : mn q.at0 q.region < mx q.at0 q.region := by unfold mn mx;split <;> split <;> omega
   refine ⟨fun h => absurd rfl h,fun _ => ⟨cbI_zero _,cbI_zero _,Int.le_refl _,r0.1,?_,fun _ => ⟨rfl,rfl,rfl,?_,rfl⟩,fun h => absurd rfl h,fun h => by omega⟩⟩
   ·show q.at0 ≤ (q.text.size : Int) - 0 + ((0 : Nat) : Int);omega
   ·show 0 < (q.text.extract (mn q.at0 q.region).toNat (mx q.at0 q.region).toNat).size
    rw [size_extract _ _ _ (by omega)];omega
theorem rule_ok (q : Wk) (h : WkOk q) : ∀ i : Nat,i < 13 → RuleOk q.text i (ruleZ q i) := by
 intro i hi
 have hs : q.text.size ≤ 1099511627776 := by have := h.size;omega
 have r0 := cbi_range h.at0
 have hah := again_up _ _ (ah_range q.text) q.n q.at0 r0.1 r0.2
 have hac := again_cb q.text _ (ah_cb q.text) q.n q.at0 h.at0
 match i,hi with
 | 0,_ => exact cut_ok _ _ _ _ _ _ rfl (by omega) h.at0 (again_cb _ _ (nx_cb _ hs) _ _ h.at0) (again_up _ _ (nxZ_range q.text hs) q.n q.at0 r0.1 r0.2).1
 | 1,_ => exact cut_ok _ _ _ _ _ _ rfl (by omega) (again_cb _ _ (pv_cb _ hs) _ _ h.at0) h.at0 (again_down _ _ (pvZ_range q.text hs) q.n q.at0 r0.1 r0.2).2
 | 2,_ => exact cut_ok _ _ _ _ _ _ rfl (by omega) h.at0 hac hah.1
 | 3,_ => exact cut_ok _ _ _ _ _ _ rfl (by omega) (again_cb _ _ (be_cb _) _ _ h.at0) h.at0 (again_down _ _ (be_range q.text) q.n q.at0 r0.1 r0.2).2
 | 4,_ => exact cut_ok _ _ _ _ _ _ rfl (by omega) h.at0 (again_cb _ _ (onw_cb _) _ _ h.at0) (again_up _ _ (onw_range q.text) q.n q.at0 r0.1 r0.2).1
 | 5,_ => exact cut_ok _ _ _ _ _ _ rfl (by omega) (lst_cb _ _ h.at0) h.at0 (lst_range q.text q.at0 r0.1 r0.2).2
 | 6,_ => exact kill_ok q h
 | 7,_ => exact copy_ok q h
 | 8,_ => exact trc_ok q h
 | 9,_ => exact trw_ok q
 | 10,_ => exact case_ok _ _ _ _ _ (by omega) h.at0 hac hah.1
 | 11,_ => exact case_ok _ _ _ _ _ (by omega) h.at0 hac hah.1
 | 12,_ => exact case_ok _ _ _ _ _ (by omega) h.at0 hac hah.1
/-- What is put is no longer than the text. -/
theorem put_size (q : Wk) (h : WkOk q) : ∀ i : Nat,i < 13 → (ruleZ q i).2.2.1.size ≤ q.text.size := by
 intro i hi
 have hsz := h.size
 have hs : q.text.size ≤ 1099511627776 := by omega
 have r0 := cbi_range h.at0
 have hah := again_up _ _ (ah_range q.text) q.n q.at0 r0.1 r0.2
 have hx : (q.text.extract q.at0.toNat (againN (ahA q.text) q.n q.at0).toNat).size ≤ q.text.size := by rw [size_extract _ _ _ (by omega)];omega
 have hcut : ∀ (kk fw : Bool) (a b : Int),(cutZ q.text kk fw a b).2.2.1.size ≤ q.text.size := fun kk fw a b => by
  unfold cutZ;split <;> exact Nat.zero_le _
 have hcase : ∀ put : ByteArray,put.size ≤ q.text.size → (caseZ q.text q.at0 (againN (ahA q.text) q.n q.at0) put).2.2.1.size ≤ q.text.size := fun put hp => by
  unfold caseZ;split
  ·exact Nat.zero_le _
  ·exact hp
 match i,hi with
 | 0,_ => exact hcut _ _ _ _
 | 1,_ => exact hcut _ _ _ _
 | 2,_ => exact hcut _ _ _ _
 | 3,_ => exact hcut _ _ _ _
 | 4,_ => exact hcut _ _ _ _
 | 5,_ => exact hcut _ _ _ _
 | 6,_ => show (killZ q).2.2.1.size ≤ _;unfold killZ;split;exact Nat.zero_le _;split <;> exact Nat.zero_le _
 | 7,_ => show (copyZ q).2.2.1.size ≤ _;unfold copyZ;split;exact Nat.zero_le _;split <;> exact Nat.zero_le _
 | 8,_ =>
  show (trcZ q).2.2.1.size ≤ _
  unfold trcZ trcM
  generalize hm : (if q.at0 = (lendZ q.text q.at0).1 then pvZ q.text (lendZ q.text q.at0).1 else q.at0) = mid
  have hc : CBI q.text mid := by
   rw [← hm];split
   ·exact (pvZ_spec q.text hs _).1
   ·exact h.at0
  have hr := cbi_range hc
  have hp := pvZ_range q.text hs mid hr.1 hr.2
  have hn := nxZ_range q.text hs mid hr.1 hr.2
  split
  ·exact Nat.zero_le _
  ·split
   ·exact Nat.zero_le _
   ·have := swap_size q.text _ _ _ _ hp.1 hp.2 (Int.le_refl _) hn.1 hn.2;omega
 | 9,_ =>
  show (trwZ q).2.2.1.size ≤ _
  by_cases h : ((spansL q.text).length : Int) < 2
  ·unfold trwZ;rw [if_pos h];exact Nat.zero_le _
  ·obtain ⟨w,hw,e⟩ := trw_word q h
   have ho := two_ord (spans_ord q.text) w hw
   rw [e]
   have := swap_size q.text _ _ _ _ ho.1 ho.2.1 ho.2.2.1 ho.2.2.2.1 ho.2.2.2.2;omega
 | 10,_ => exact hcase _ (by rw [(upper_put _ (by omega)).2];exact hx)
 | 11,_ => exact hcase _ (by rw [(lower_put _ (by omega)).2];exact hx)
 | 12,_ => exact hcase _ (by rw [(capital_put _ (by omega)).2];exact hx)
end Go.Proofs.YtfmnmjoofnbnfaaDoor.Pu
end
section
namespace Go.Proofs.YtfmnmjoofnbnfaaDoor.Pu
open Go Go.RowKit Go.Proofs.YtfmnmjoofnbnfaaDoor.Mu Go.Proofs.YtfmnmjoofnbnfaaDoor.U Go.Proofs.YtfmnmjoofnbnfaaDoorW.PrintWords Go.Proofs.YtfmnmjoofnbnfaaDoorW.PrintLast Go.Proofs.YtfmnmjoofnbnfaaDoorW.PrintMore
set_option linter.unusedVariables false
set_option linter.unusedSimpArgs false
def applyZ (t : ByteArray) (a c : Int) (p : ByteArray) : ByteArray × Int :=
 if a < 0 ∨ a > t.size ∨ c < 0 ∨ c > t.size - a then ((⟨#[]⟩ : ByteArray),1) else ((t.extract 0 a.toNat ++ p) ++ t.extract (a + c).toNat t.size,0)
theorem apply_size (t : ByteArray) (a c : Int) (p : ByteArray) (h0 : 0 ≤ a) (h2 : 0 ≤ c) (h3 : a + c ≤ t.size) :
  (t.extract 0 a.toNat ++ p).size = a.toNat + p.size ∧ (t.extract (a + c).toNat t.size).size = t.size - (a + c).toNat ∧ ((t.extract 0 a.toNat ++ p) ++ t.extract (a + c).toNat t.size).size = a.toNat + p.size + (t.size - (a + c).toNat) := by
 have e1 : (t.extract 0 a.toNat).size = a.toNat := by rw [size_extract _ _ _ (by omega)];omega
 have e2 : (t.extract (a + c).toNat t.size).size = t.size - (a + c).toNat := size_extract _ _ _ (Nat.le_refl _)
 have e3 : (t.extract 0 a.toNat ++ p).size = a.toNat + p.size := by rw [ByteArray.size_append,e1]
 exact ⟨e3,e2,by rw [ByteArray.size_append,e3,e2]⟩
theorem apply_ev (t : ByteArray) (a c : Int) (p : ByteArray) (ht : t.size ≤ 1099511627776) (hp : p.size ≤ 1099511627776) : change_Apply.f t a c p = some (applyZ t a c p) := by
 unfold change_Apply.f applyZ
 by_cases h1 : a < 0
 ·rw [if_pos h1,if_pos (.inl h1)]
 rw [if_neg h1]
 by_cases h2 : a > t.size
 ·rw [if_pos h2,if_pos (.inr (.inl h2))]
 rw [if_neg h2]
 by_cases h3 : c < 0
 ·rw [if_pos h3,if_pos (.inr (.inr (.inl h3)))]
 rw [if_neg h3,w64 (x := (t.size : Int) - a) (by omega) (by omega)]
 by_cases h4 : c > (t.size : Int) - a
 ·rw [if_pos h4,if_pos (.inr (.inr (.inr h4)))]
 have hs := apply_size t a c p (by omega) (by omega) (by omega)
 have e1 : (t.extract 0 a.toNat).size = a.toNat := by rw [size_extract _ _ _ (by omega)];omega
 rw [if_neg h4,if_neg (show ¬ (a < 0 ∨ a > t.size ∨ c < 0 ∨ c > t.size - a) by omega),w64 (x := a + c) (by omega) (by omega),if_pos (by omega),if_pos (by omega),if_pos (by omega),if_pos (by omega),if_pos (by omega),if_pos (by omega)]
theorem apply_in (t : ByteArray) (a c : Int) (p : ByteArray) (h0 : 0 ≤ a) (h2 : 0 ≤ c) (h3 : a + c ≤ t.size) : applyZ t a c p = ((t.extract 0 a.toNat ++ p) ++ t.extract (a + c).toNat t.size,0) := by
 unfold applyZ
 rw [if_neg (by omega)]
end Go.Proofs.YtfmnmjoofnbnfaaDoor.Pu
end
section
namespace Go.Proofs.YtfmnmjoofnbnfaaDoor.Pure
open Go Go.RowKit Go.Proofs.YtfmnmjoofnbnfaaDoor.Mu Go.Proofs.YtfmnmjoofnbnfaaDoor.Pu Go.Proofs.YtfmnmjoofnbnfaaDoor.U Go.Proofs.YtfmnmjoofnbnfaaDoorW.PrintWords Go.Proofs.YtfmnmjoofnbnfaaDoorW.PrintLast Go.Proofs.YtfmnmjoofnbnfaaDoorW.PrintMore
set_option linter.unusedVariables false
set_option linter.unusedSimpArgs false
theorem empty_list : (⟨#[]⟩ : ByteArray).toList = [] := by kernel_rfl
theorem list_nil (s : ByteArray) : s.toList = [] ↔ s.size = 0 := by
 rw [toList_bytes,← List.length_eq_zero_iff]
 rw [← Lib.size_eq]
theorem stands_j1 (t : ByteArray) (hs : t.size ≤ 1099511627776) (kind a c : Int) (put : ByteArray) (cur : Int) (kill : ByteArray) (ah : Bool) (ha : CBI t a) (hb : CBI t (a + c)) (hc : 0 ≤ c)
  (hk : (16 ≤ kind ∧ kind ≤ 20) ↔ kill.size ≠ 0) : Ev (fun k => bodkinlaw17_ChangeStands.j1 k t kind false a c put cur kill ah) true := by
 have r1 := cbi_range ha
 have r2 := cbi_range hb
 have hw : wrap64 (a + c) = a + c := w64 (by omega) (by omega)
 have hl := list_nil kill
 refine Ev.step (fun k => bodkinlaw17_ChangeStands.j1.eq_2 ..) (ev_neg (by decide) ?_)
 rw [hw]
 have he : (kill.toList != ([] : List UInt8)) = decide (kill.size ≠ 0) := by
  rw [Bool.eq_iff_iff,bne_iff_ne,decide_eq_true_eq,Ne,hl]
 rw [he]
 by_cases h16 : kind ≥ 16
 ·refine ev_pos h16 (ev_pos ?_ (Ev.bind (cboundary_yes hs ha) (ev_pos rfl (Ev.bind (cboundary_yes hs hb) (Ev.now _)))))
  rw [beq_iff_eq,Bool.eq_iff_iff,decide_eq_true_eq,decide_eq_true_eq,← hk];omega
 ·refine ev_neg h16 (ev_pos ?_ (Ev.bind (cboundary_yes hs ha) (ev_pos rfl (Ev.bind (cboundary_yes hs hb) (Ev.now _)))))
  rw [beq_iff_eq,Bool.eq_iff_iff,decide_eq_true_eq,← hk];simp;omega
theorem kd_kills (i : Nat) (hi : i < 13) : (16 ≤ kd i ∧ kd i ≤ 20) ↔ (2 ≤ i ∧ i ≤ 6) := by
 match i,hi with
 | 0,_ => simp [kd] | 1,_ => simp [kd] | 2,_ => simp [kd] | 3,_ => simp [kd] | 4,_ => simp [kd] | 5,_ => simp [kd] | 6,_ => simp [kd]
 | 7,_ => simp [kd] | 8,_ => simp [kd] | 9,_ => simp [kd] | 10,_ => simp [kd] | 11,_ => simp [kd] | 12,_ => simp [kd]
theorem kd_copy (i : Nat) (hi : i < 13) : kd i = 21 ↔ i = 7 := by
 match i,hi with
 | 0,_ => simp [kd] | 1,_ => simp [kd] | 2,_ => simp [kd] | 3,_ => simp [kd] | 4,_ => simp [kd] | 5,_ => simp [kd] | 6,_ => simp [kd]
 | 7,_ => simp [kd] | 8,_ => simp [kd] | 9,_ => simp [kd] | 10,_ => simp [kd] | 11,_ => simp [kd] | 12,_ => simp [kd]
theorem inside_ev (t : ByteArray) (a c : Int) (p : ByteArray) (ht : t.size ≤ 1099511627776) (h0 : 0 ≤ a) (h1 : 0 ≤ c) (h2 : a + c ≤ t.size) : bodkinlaw17_inside.f t a c p = some true := by
 unfold bodkinlaw17_inside.f
 rw [if_pos (by omega),if_pos (by omega),if_pos (by omega),w64 (by omega) (by omega)]
 congr 1
 rw [decide_eq_true_eq];omega
theorem stands_j0 (t : ByteArray) (hs : t.size ≤ 1099511627776) (i : Nat) (hi : i < 13) (Z : Res) (hZ : RuleOk t i Z) (h0 : Z.2.2.2.2.2.2 = 0) (x1 x2 x3 : Int) (s : ByteArray) (hsz : s = (applyZ t Z.1 Z.2.1 Z.2.2.1).1) :
  Ev (fun k => bodkinlaw17_ChangeStands.j0 k t s false (kd i) x1 x2 x3 Z.1 Z.2.1 Z.2.2.1 Z.2.2.2.1 Z.2.2.2.2.1 Z.2.2.2.2.2.1) true := by
 obtain ⟨ha,hb,hc,hcur,hcur2,h7,hkl,hno⟩ := hZ.good h0
 obtain ⟨a,c,put,cur,kill,ah,e⟩ := Z
 dsimp only at *
 have r1 := cbi_range ha
 have r2 := cbi_range hb
 have hw : wrap64 (a + c) = a + c := w64 (by omega) (by omega)
 refine Ev.step (fun k => bodkinlaw17_ChangeStands.j0.eq_2 ..) (ev_neg (by decide) ?_)
 rw [hw]
 refine ev_pos r1.1 (ev_pos (by omega) (ev_pos r2.2 ?_))
 by_cases h : i = 7
 ·obtain ⟨rfl,rfl,rfl,hk,rfl⟩ := h7 h
  have es : s.toList = t.toList := by
   rw [hsz,apply_in t 0 0 _ (by omega) (by omega) (by omega)]
   show ((t.extract 0 0 ++ ⟨#[]⟩) ++ t.extract 0 t.size).toList = t.toList
   rw [toList_bytes,toList_bytes,ByteArray.data_append,ByteArray.data_append,Array.toList_append,Array.toList_append,Lib.extract_data,Lib.extract_data]
   show (List.take 0 _ ++ [] ++ List.take (t.size - 0) (List.drop 0 t.data.toList)) = _
   rw [List.take_zero,List.nil_append,List.nil_append,Nat.sub_zero,List.drop_zero,Lib.size_eq,List.take_length]
  refine ev_pos ((kd_copy i hi).2 h) (ev_pos es (ev_pos (by rw [empty_list];rfl) (ev_neg (by rw [list_nil];omega) (ev_now rfl))))
 ·refine ev_neg (fun h2 => h ((kd_copy i hi).1 h2)) ?_
  have hkd := kd_kills i hi
  by_cases h2 : 2 ≤ i ∧ i ≤ 6
  ·obtain ⟨hp,hks,hke⟩ := hkl h h2.1 h2.2
   refine ev_neg (by rw [list_nil];omega) (ev_pos (by rw [hke]) ?_)
   have e1 : (put.toList != ([] : List UInt8)) = false := by rw [hp,empty_list];rfl
   rw [e1]
   exact stands_j1 t hs (kd i) a c put cur kill ah ha hb hc (by rw [hkd];omega)
  ·have hk : kill = ⟨#[]⟩ := hno (by omega)
   refine ev_pos (by rw [hk];exact empty_list) ?_
   refine stands_j1 t hs (kd i) a c put cur kill ah ha hb hc (by rw [hkd,hk];exact ⟨fun h => absurd h h2,fun h => absurd rfl h⟩)
theorem ChangeStands (a0 : ByteArray) (a1_0 a1_1 a1_2 a1_3 : Int) (u0 : a0.size ≤ 1048576) : ∃ k,bodkinlaw17_ChangeStands.f k a0 a1_0 a1_1 a1_2 a1_3 = some true := by
 apply Ev.rounds
 have hs : a0.size ≤ 549755813888 := by omega
 unfold bodkinlaw17_ChangeStands.f
 refine Ev.bind awake17_ans (ev_pos rfl (ev_some rfl (ev_some (of_eq hs _ _ _ _ _ _) ?_)))
 dsimp only
 rcases of_kind a1_0 with ⟨i,hi,hk,hZ,hD⟩ | ⟨hk,hZ,hD⟩
 ·rw [hZ]
  have hR := rule_ok (wkOf a0 a1_1 a1_2 a1_3) (wkOf_ok a0 hs _ _ _) i hi
  have hR : RuleOk a0 i (ruleZ (wkOf a0 a1_1 a1_2 a1_3) i) := hR
  have hsz := put_size (wkOf a0 a1_1 a1_2 a1_3) (wkOf_ok a0 hs _ _ _) i hi
  generalize ruleZ (wkOf a0 a1_1 a1_2 a1_3) i = Z at hR hsz
  have hsz : Z.2.2.1.size ≤ a0.size := hsz
  by_cases h0 : Z.2.2.2.2.2.2 = 0
  ·obtain ⟨ha,hb,hc,hcur,hcur2,_⟩ := hR.good h0
   have r1 := cbi_range ha
   have r2 := cbi_range hb
   have hap := apply_in a0 Z.1 Z.2.1 Z.2.2.1 r1.1 hc r2.2
   have hapz := apply_size a0 Z.1 Z.2.1 Z.2.2.1 r1.1 hc r2.2
   refine ev_pos h0 (ev_some (apply_ev a0 Z.1 Z.2.1 Z.2.2.1 (by omega) (by omega)) ?_)
   refine ev_pos (by rw [hap]) (ev_some (inside_ev a0 Z.1 Z.2.1 Z.2.2.1 (by omega) r1.1 hc r2.2) (ev_pos rfl (ev_neg (by omega) (ev_neg ?_ (ev_some (show change_Does.f a1_0 = some true by unfold change_Does.f;rw [hD]) ?_)))))
   ·rw [hap]
    dsimp only
    omega
   ·subst hk
    exact stands_j0 a0 (by omega) i hi Z hR h0 _ _ _ _ rfl
  ·obtain ⟨he,hne,_⟩ := hR.bad h0
   obtain ⟨a,c,put,cur,kill,ah,e⟩ := Z
   dsimp only at *
   simp only [Prod.mk.injEq] at he
   obtain ⟨rfl,rfl,rfl,rfl,rfl,rfl,_⟩ := he
   refine ev_neg h0 (ev_pos (by rw [empty_list];rfl) (ev_some (show change_Does.f a1_0 = some true by unfold change_Does.f;rw [hD]) (ev_now ?_)))
   have : (e == 13) = false := by rw [beq_eq_false_iff_ne];exact hne
   rw [this];rfl
 ·rw [hZ]
  refine ev_neg (by decide) (ev_pos (by rw [empty_list];rfl) (ev_some (show change_Does.f a1_0 = some false by unfold change_Does.f;rw [hD]) (ev_now rfl)))
end Go.Proofs.YtfmnmjoofnbnfaaDoor.Pure
end
section
namespace Go.Proofs.YtfmnmjoofnbnfaaDoor.Lf
open Go.Lib Go.Proofs
theorem own : ownKnob Tryd.prog.godebug = none := by kernel_rfl
theorem laidOut : laidOutB Tryd.prog = true := by kernel_rfl
theorem extra : U8Extra Tryd.prog Tryd.lays260_ren := {
 n3 := by kernel_rfl
 n4 := by kernel_rfl
 y3 := by kernel_rfl
 y4 := by kernel_rfl
 c5 := by kernel_rfl
 c119 := by kernel_rfl
 c138 := by kernel_rfl }
theorem first_eq : Rows.laid_unicode_utf8_first = Lib.firstData := by kernel_rfl
theorem accept_eq : (Rows.laid_unicode_utf8_acceptRanges : DataW Unit) = Lib.acceptData := by kernel_rfl
abbrev laid : List (String × DataW Unit) := [("unicode/utf8.acceptRanges", Rows.laid_unicode_utf8_acceptRanges), ("unicode/utf8.first", Rows.laid_unicode_utf8_first)]
/-- The two tables lie as the contracts ask. -/
theorem tabs {W : World} (h : laidMetH Tryd.prog laid W) : Lib.Utf8Tabs 1 2 W := by
  rw [MakeChecks.laidMetH_plain _ _ _ (by kernel_rfl)] at h
  have h3 := laidMet.reads h (n := "unicode/utf8.first") (d := Rows.laid_unicode_utf8_first) (List.mem_cons_of_mem _ List.mem_cons_self)
  have h4 := laidMet.reads h (n := "unicode/utf8.acceptRanges") (d := Rows.laid_unicode_utf8_acceptRanges) List.mem_cons_self
  rw [first_eq] at h3
  rw [accept_eq] at h4
  exact utf8Tabs_of_reads Tryd.lays260 extra h3 h4
/-- The world of the witness: the settled one,the tables laid. -/
noncomputable abbrev wit (os : Os) : World := World.laidAll Tryd.prog os laid
theorem wit_laid (os : Os) (args : Array Value) : laidMetH Tryd.prog laid ((wit os).forCall (fun _ _ => 0) ⟨#[],args,[]⟩).memory := by
 rw [MakeChecks.laidMetH_plain _ _ _ (by kernel_rfl)]
 exact laidMet_laidAll _ (by kernel_rfl) (by kernel_rfl)
theorem wit_shaped (os : Os) (args : Array Value) : ((wit os).forCall (fun _ _ => 0) ⟨#[],args,[]⟩).Shaped Tryd.prog :=
 World.shaped_of_ZipB (by kernel_rfl) (by kernel_rfl)
end Go.Proofs.YtfmnmjoofnbnfaaDoor.Lf
end
section
namespace Go.Proofs.YtfmnmjoofnbnfaaDoor.Lf
open Go Go.RowKit Go.ChangeShapes Go.WideShapes Go.Proofs.YtfmnmjoofnbnfaaDoor.U Go.Proofs.YtfmnmjoofnbnfaaDoorW.PrintWords Go.Proofs.YtfmnmjoofnbnfaaDoorW.PrintLast Go.Proofs.YtfmnmjoofnbnfaaDoorW.PrintMore
set_option linter.unusedVariables false
set_option linter.unusedSimpArgs false
theorem lk_gen {H : Type} {enc : TypeId × Value → H} {P : Program} {w : World} {base : Nat} {sp : Nat → Bool} {held : Bool} {t : TypeId} {p0 p1 p2 p3 : Field} (ht : P.underlying t = some (.struct #[p0,p1,p2,p3])) (ce : P.cellsOf t = 4)
  (o0 : p0.offset = 0) (c0 : P.cellsOf p0.type = 1) (u0 : P.underlying p0.type = some (.int .i64)) (o1 : p1.offset = 1) (c1 : P.cellsOf p1.type = 1) (u1 : P.underlying p1.type = some (.int .i64)) (o2 : p2.offset = 2) (c2 : P.cellsOf p2.type = 1) (u2 : P.underlying p2.type = some (.int .i64)) (o3 : p3.offset = 3) (c3 : P.cellsOf p3.type = 1) (u3 : P.underlying p3.type = some (.int .i64))
  {fuel : Nat} {cs : List Value} {x : DataW H × List MemPlace} (h : DataW.trod enc P w base sp held fuel t cs = some x) : ∃ (x0 : Int) (x1 : Int) (x2 : Int) (x3 : Int),cs = [.int .i64 x0,.int .i64 x1,.int .i64 x2,.int .i64 x3] ∧ True := by
 obtain ⟨xs,n,_,rfl,hl,hlen,hf⟩ := DataW.trod_struct ht h
 rw [ce] at hl
 match xs,hlen,cs,hl with
 | [y0,y1,y2,y3],_,[v0,v1,v2,v3],_ =>
  have g0 := hf 0 p0 rfl
  have g1 := hf 1 p1 rfl
  have g2 := hf 2 p2 rfl
  have g3 := hf 3 p3 rfl
  simp [o0,c0,o1,c1,o2,c2,o3,c3] at g0 g1 g2 g3
  obtain ⟨x0,e0,f0,_⟩ := DataW.trod_int u0 g0
  injection e0 with e0
  subst e0
  obtain ⟨x1,e1,f1,_⟩ := DataW.trod_int u1 g1
  injection e1 with e1
  subst e1
  obtain ⟨x2,e2,f2,_⟩ := DataW.trod_int u2 g2
  injection e2 with e2
  subst e2
  obtain ⟨x3,e3,f3,_⟩ := DataW.trod_int u3 g3
  injection e3 with e3
  subst e3
  refine ⟨x0,x1,x2,x3,rfl,?_⟩
  trivial
theorem lk_open_gen {W : World} {r : Reach} {b0 : Nat} {H : Type} {enc : TypeId × Value → H} {P : Program} {w : World} {base : Nat} {sp : Nat → Bool} {held : Bool} {t : TypeId} {p0 p1 p2 p3 : Field} (ht : P.underlying t = some (.struct #[p0,p1,p2,p3])) (ce : P.cellsOf t = 4)
  (o0 : p0.offset = 0) (c0 : P.cellsOf p0.type = 1) (u0 : P.underlying p0.type = some (.int .i64)) (o1 : p1.offset = 1) (c1 : P.cellsOf p1.type = 1) (u1 : P.underlying p1.type = some (.int .i64)) (o2 : p2.offset = 2) (c2 : P.cellsOf p2.type = 1) (u2 : P.underlying p2.type = some (.int .i64)) (o3 : p3.offset = 3) (c3 : P.cellsOf p3.type = 1) (u3 : P.underlying p3.type = some (.int .i64))
  {v : Value} {d : DataW H} {ps : List MemPlace} (hval : Value.okWide P W r b0 t v) (hd : DataW.Trod enc P w base sp held t v d ps) : ∃ (x0 : Int) (x1 : Int) (x2 : Int) (x3 : Int),v = .agg #[.int .i64 x0,.int .i64 x1,.int .i64 x2,.int .i64 x3] ∧ True := by
 obtain ⟨cs,rfl,_⟩ := okWide_struct ht hval
 obtain ⟨fuel,hf⟩ := hd
 obtain ⟨x0,x1,x2,x3,e,hb⟩ := lk_gen ht ce o0 c0 u0 o1 c1 u1 o2 c2 u2 o3 c3 u3 hf
 refine ⟨x0,x1,x2,x3,?_,hb⟩
 have e2 : cs.toList = [.int .i64 x0,.int .i64 x1,.int .i64 x2,.int .i64 x3] := e
 rw [← Array.toArray_toList (xs := cs),e2]
set_option maxRecDepth 100000 in
theorem lk_open {W : World} {r : Reach} {b0 : Nat} {H : Type} {enc : TypeId × Value → H} {w : World} {base : Nat} {sp : Nat → Bool} {held : Bool} {v : Value} {d : DataW H} {ps : List MemPlace} (hval : Value.okWide Tryd.prog W r b0 23 v) (hd : DataW.Trod enc Tryd.prog w base sp held 23 v d ps) : ∃ (x0 : Int) (x1 : Int) (x2 : Int) (x3 : Int),v = .agg #[.int .i64 x0,.int .i64 x1,.int .i64 x2,.int .i64 x3] ∧ True :=
 lk_open_gen Tryd.underlying23 (by kernel_rfl) rfl (by kernel_rfl) Tryd.underlying3 rfl (by kernel_rfl) Tryd.underlying3 rfl (by kernel_rfl) Tryd.underlying3 rfl (by kernel_rfl) Tryd.underlying3 hval hd
end Go.Proofs.YtfmnmjoofnbnfaaDoor.Lf
end
