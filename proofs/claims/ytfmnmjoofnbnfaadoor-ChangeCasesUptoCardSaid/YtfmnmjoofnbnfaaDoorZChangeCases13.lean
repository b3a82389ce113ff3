/- What the law ChangeCases reaches of this seat's own texts, merged; what nothing uses is left out. -/
import Derived.Test.YtfmnmjoofnbnfaaDoorZChangeCases0
import Derived.Test.YtfmnmjoofnbnfaaDoorZChangeCases1
import Derived.Test.YtfmnmjoofnbnfaaDoorZChangeCases9
import Derived.Test.YtfmnmjoofnbnfaaDoorZChangeCases10
import Derived.Test.YtfmnmjoofnbnfaaDoorZChangeCases11
import Derived.Test.YtfmnmjoofnbnfaaDoorZChangeCases12
section
namespace Go.Proofs.YtfmnmjoofnbnfaaDoor.Pu
open Go Go.RowKit Go.Proofs.YtfmnmjoofnbnfaaDoor.Mu Go.Proofs.YtfmnmjoofnbnfaaDoor.U Go.Proofs.YtfmnmjoofnbnfaaDoorW.PrintWords Go.Proofs.YtfmnmjoofnbnfaaDoorW.PrintLast Go.Proofs.YtfmnmjoofnbnfaaDoorW.PrintMore
set_option linter.unusedVariables false
set_option linter.unusedSimpArgs false
theorem of_eq {text : ByteArray} (hs : text.size ≤ 549755813888) (kind count : Int) (tx : ByteArray) (mark at_ region : Int) : change_Of.f kind count tx mark text at_ region = some (ofB kind (ruleZ (wkOf text count at_ region)) 13 0) := by
 unfold change_Of.f
 rw [if_pos hs]
theorem snZ_at {s : ByteArray} (hs : s.size ≤ 1099511627776) {a : Int} (h : CBI s a) : snZ s a = a := (snZ_spec s hs a).one (csnapS_at h)
theorem snZ_cb (s : ByteArray) (hs : s.size ≤ 1099511627776) (a : Int) : CBI s (snZ s a) := (snZ_spec s hs a).1
theorem nxZ_end (s : ByteArray) (hs : s.size ≤ 1099511627776) : nxZ s s.size = s.size := by
 have := nxZ_range s hs s.size (by omega) (Int.le_refl _)
 omega
def smp : ByteArray := ⟨#[97,98,32,99,45,100,10,101,102]⟩
theorem smp_size : smp.size = 9 := rfl
theorem smp_cb {a : Int} (h : decide (a ∈ cbndL smp) = true) : CBI smp a := (cbndL_mem smp a).1 (of_decide_eq_true h)
theorem smp_of1 : ofB 17 (ruleZ (wkOf smp 2 6 (-1))) 13 0 = (3,3,⟨#[]⟩,3,⟨#[99,45,100]⟩,true,0) := by
 have e : snZ smp 6 = 6 := snZ_at (by rw [smp_size];omega) (smp_cb (by kernel_rfl))
 have e2 : ofB 17 (ruleZ (wkOf smp 2 6 (-1))) 13 0 = cutZ smp true true (againN (beA smp) 2 (snZ smp 6)) (snZ smp 6) := rfl
 rw [e2,e]
 exact (show cutZ smp true true (againN (beA smp) 2 6) 6 = (3,3,⟨#[]⟩,3,⟨#[99,45,100]⟩,true,0) by kernel_rfl)
theorem smp_of2 : ofB 25 (ruleZ (wkOf smp 0 4 (-1))) 13 0 = (3,3,⟨#[100,45,99]⟩,6,⟨#[]⟩,false,0) := by
 have e : snZ smp 4 = 4 := snZ_at (by rw [smp_size];omega) (smp_cb (by kernel_rfl))
 have e2 : ofB 25 (ruleZ (wkOf smp 0 4 (-1))) 13 0 = trwZ ⟨smp,snZ smp 4,-1,1⟩ := rfl
 rw [e2,e]
 exact (show trwZ ⟨smp,4,-1,1⟩ = (3,3,⟨#[100,45,99]⟩,6,⟨#[]⟩,false,0) by kernel_rfl)
theorem smp_of3 : ofB 14 (ruleZ (wkOf smp 0 9 (-1))) 13 0 = (0,0,⟨#[]⟩,0,⟨#[]⟩,false,8) := by
 have hs : smp.size ≤ 1099511627776 := by rw [smp_size];omega
 have e : snZ smp 9 = 9 := snZ_at hs (cbI_size smp)
 have en : nxZ smp 9 = 9 := nxZ_end smp hs
 have e2 : ofB 14 (ruleZ (wkOf smp 0 9 (-1))) 13 0 = cutZ smp false false (snZ smp 9) (againN (nxZ smp) 1 (snZ smp 9)) := rfl
 rw [e2,e,againN,if_pos en,cutZ,if_pos rfl]
theorem next_a : Ev (fun k => cluster_Next.f k (⟨#[97]⟩ : ByteArray) 0) 1 := Ev.of (fun k => cluster_Next.mono _ _ k) (k := 100) (by kernel_rfl)
theorem awake17_ans : Ev (fun k => bodkinlaw17_awake.f k) true := by
 have hs : smp.size ≤ 549755813888 := by rw [smp_size];omega
 unfold bodkinlaw17_awake.f
 refine Ev.bind next_a (ev_pos rfl ?_)
 refine ev_some (of_eq hs 17 2 _ _ 6 (-1)) ?_
 rw [smp_of1]
 refine ev_some (of_eq hs 25 0 _ _ 4 (-1)) ?_
 rw [smp_of2]
 refine ev_some (of_eq hs 14 0 _ _ 9 (-1)) ?_
 rw [smp_of3]
 exact ev_pos (by kernel_rfl) (ev_pos rfl (ev_pos rfl (ev_pos rfl (ev_pos (by kernel_rfl) (ev_pos rfl (ev_pos rfl (ev_some (a := true) rfl (Ev.now _))))))))
end Go.Proofs.YtfmnmjoofnbnfaaDoor.Pu
end
section
namespace Go.Proofs.YtfmnmjoofnbnfaaDoor.Pu
open Go Go.RowKit Go.Proofs.YtfmnmjoofnbnfaaDoor.Mu Go.Proofs.YtfmnmjoofnbnfaaDoor.U Go.Proofs.YtfmnmjoofnbnfaaDoorW.PrintWords Go.Proofs.YtfmnmjoofnbnfaaDoorW.PrintLast Go.Proofs.YtfmnmjoofnbnfaaDoorW.PrintMore
/-- The bytes of a text from x on. -/
def bytsAt (s : ByteArray) (x n : Nat) : List Int := (List.range n).map fun i => (byt s (x + i) : Int)
/-- A good unit's bytes are its character's encoding. -/
theorem enc_unit (s : ByteArray) (x : Nat) (h : 0 ≤ uC s x) : okC (uC s x) ∧ encI (uC s x) = bytsAt s x (uN s x) := by
 have := byt_lt s x;have := byt_lt s (x + 1);have := byt_lt s (x + 2);have := byt_lt s (x + 3)
 unfold okC encI bytsAt
 rcases uC_cases s x with h1 | h1 | h1 | h1 | h1
 ·refine ⟨by omega,?_⟩
  rw [if_pos (by omega),h1.2.2,h1.2.1];rfl
 ·omega
 ·obtain ⟨a,b,c,d,e,f,g⟩ := h1
  refine ⟨by omega,?_⟩
  rw [if_neg (by omega),if_pos (by omega),g]
  show _ = [(byt s x : Int),(byt s (x + 1) : Int)]
  rw [show 192 + uC s x / 64 = (byt s x : Int) by omega,show 128 + uC s x % 64 = (byt s (x + 1) : Int) by omega]
 ·obtain ⟨a,b,c,d,d2,e,e2,f,g⟩ := h1
  refine ⟨by omega,?_⟩
  rw [if_neg (by omega),if_neg (by omega),if_pos (by omega),g]
  show _ = [(byt s x : Int),(byt s (x + 1) : Int),(byt s (x + 2) : Int)]
  rw [show 224 + uC s x / 4096 = (byt s x : Int) by omega,show 128 + uC s x / 64 % 64 = (byt s (x + 1) : Int) by omega,show 128 + uC s x % 64 = (byt s (x + 2) : Int) by omega]
 ·obtain ⟨a,b,c,d,d2,d3,e,e2,f,g⟩ := h1
  refine ⟨by omega,?_⟩
  rw [if_neg (by omega),if_neg (by omega),if_neg (by omega),g]
  show _ = [(byt s x : Int),(byt s (x + 1) : Int),(byt s (x + 2) : Int),(byt s (x + 3) : Int)]
  rw [show 240 + uC s x / 262144 = (byt s x : Int) by omega,show 128 + uC s x / 4096 % 64 = (byt s (x + 1) : Int) by omega,show 128 + uC s x / 64 % 64 = (byt s (x + 2) : Int) by omega,show 128 + uC s x % 64 = (byt s (x + 3) : Int) by omega]
theorem bytsAt_len (s : ByteArray) (x n : Nat) : (bytsAt s x n).length = n := by simp [bytsAt]
end Go.Proofs.YtfmnmjoofnbnfaaDoor.Pu
end
section
namespace Go.Proofs.YtfmnmjoofnbnfaaDoor.Pu
open Go Go.RowKit Go.Proofs.YtfmnmjoofnbnfaaDoor.Mu Go.Proofs.YtfmnmjoofnbnfaaDoor.U Go.Proofs.YtfmnmjoofnbnfaaDoorW.PrintWords Go.Proofs.YtfmnmjoofnbnfaaDoorW.PrintLast Go.Proofs.YtfmnmjoofnbnfaaDoorW.PrintMore
set_option linter.unusedVariables false
set_option linter.unusedSimpArgs false
theorem again_fix (F : Int → Int) (x : Int) (h : F x = x) : ∀ n,againN F n x = x
 | 0 => rfl
 | n + 1 => by rw [againN,if_pos h]
/-- From where a step leads on,so do n of them. -/
theorem again_moves (F : Int → Int) (m : Int) (hF : ∀ x,0 ≤ x → x ≤ m → x ≤ F x ∧ F x ≤ m) (n : Nat) (x : Int) (h0 : 0 ≤ x) (h1 : x ≤ m) : againN F (n + 1) x = x ↔ F x = x := by
 have h := hF x h0 h1
 constructor
 ·intro he
  rw [againN] at he
  split at he
  ·assumption
  ·have := again_up F m hF n (F x) (by omega) h.2;omega
 ·intro he;exact again_fix F x he _
theorem enc_len (c : Int) : (encI c).length = if c < 128 then 1 else if c < 2048 then 2 else if c < 65536 then 3 else 4 := by
 unfold encI;split <;> (try split) <;> (try split) <;> rfl
theorem up_cases (c : Int) : upC c = c ∨ (upC c = c - 1 ∧ 257 ≤ c ∧ c ≤ 1153) ∨ (upC c = 376 ∧ c = 255) ∨ (upC c = c - 80 ∧ 1104 ≤ c ∧ c ≤ 1119) ∨ (upC c = c - 32 ∧ ((97 ≤ c ∧ c ≤ 122) ∨ (224 ≤ c ∧ c ≤ 254) ∨ (945 ≤ c ∧ c ≤ 969) ∨ (1072 ≤ c ∧ c ≤ 1103))) := by
 unfold upC low3
 split
 ·rename_i h;unfold runB at h;have := of_decide_eq_true h;omega
 ·unfold low2
  split
  ·rename_i h;have := of_decide_eq_true h;omega
  ·split
   ·omega
   ·unfold low1
    split
    ·rename_i h;simp only [Bool.and_eq_true] at h;have h := h.2;unfold oddB at h;have := of_decide_eq_true h;omega
    ·split
     ·rename_i h;unfold oddB at h;have := of_decide_eq_true h;omega
     ·split
      ·rename_i h;unfold oddB at h;have := of_decide_eq_true h;omega
      ·omega
theorem up_len (c : Int) (h : okC c) : okC (upC c) ∧ (encI (upC c)).length = (encI c).length := by
 have hc := up_cases c
 unfold okC at h ⊢
 rw [enc_len,enc_len]
 generalize upC c = d at hc
 constructor
 ·omega
 ·split <;> split <;> (try split) <;> (try split) <;> (try split) <;> (try split) <;> omega
theorem try_len (c far d : Int) (hf : far = 1 ∨ far = 32 ∨ far = 80) (h : okC c) (hd : okC d ∧ (encI d).length = (encI c).length) : okC (lowTry c far d) ∧ (encI (lowTry c far d)).length = (encI c).length := by
 unfold lowTry
 split
 ·rename_i hc
  have ho : okC (c + far) := by unfold okC;omega
  have := (up_len (c + far) ho).2
  rw [hc.2.2] at this
  exact ⟨ho,this.symm⟩
 ·exact hd
theorem low_len (c : Int) (h : okC c) : okC (lowC c) ∧ (encI (lowC c)).length = (encI c).length := by
 unfold lowC
 split
 ·rename_i hc;subst hc;exact ⟨by decide,rfl⟩
 ·exact try_len _ _ _ (.inl rfl) h (try_len _ _ _ (.inr (.inl rfl)) h (try_len _ _ _ (.inr (.inr rfl)) h ⟨h,rfl⟩))
section
variable {s : ByteArray} {F : Int → Int → Int}
theorem keepU_length (hF : ∀ a c,okC c → okC (F a c) ∧ (encI (F a c)).length = (encI c).length) (i : Nat) (hi : i < s.size) : (eachU s F i).length = uN s i := by
 unfold eachU
 by_cases h : uC s i < 0
 ·rw [if_pos h,bytesOf_length,size_extract _ _ _ (uN_le s i hi)];omega
 ·rw [if_neg h]
  obtain ⟨h1,h2⟩ := enc_unit s i (by omega)
  have h3 := hF i _ h1
  have h5 := congrArg List.length h2
  rw [bytsAt_len] at h5
  unfold encO
  rw [if_pos h3.1];omega
theorem keepL_length (hF : ∀ a c,okC c → okC (F a c) ∧ (encI (F a c)).length = (encI c).length) : ∀ k i,s.size ≤ i + k → i ≤ s.size → (eachL s F k i).length = s.size - i
 | 0,i,hk,hi => by rw [eachL];simp;omega
 | k + 1,i,hk,hi => by
  rw [eachL]
  have hp := uN_pos s i
  split
  ·rename_i h
   have hle := uN_le s i h
   rw [List.length_append,keepU_length hF i h,keepL_length hF k _ (by omega) hle];omega
  ·simp;omega
theorem keep_size (hF : ∀ a c,okC c → okC (F a c) ∧ (encI (F a c)).length = (encI c).length) : (strOfNums (eachT s F)).size = s.size := by
 have e : (strOfNums (eachT s F)).size = (eachT s F).length := by
  rw [← bytesOf_length]
  simp [strOfNums,bytesOf]
 rw [e]
 unfold eachT
 rw [keepL_length hF _ _ (by omega) (Nat.zero_le _)];omega
end
theorem upper_put (t : ByteArray) (ht : t.size ≤ 1099511627775) : word_Upper.f t = some (upperP t) ∧ (upperP t).size = t.size := by
 have e : word_Upper.f t = some (strOfNums (eachT t upF)) := by unfold word_Upper.f;rw [if_pos (by omega)]
 have ep : upperP t = strOfNums (eachT t upF) := by unfold upperP;rw [e];rfl
 rw [ep]
 exact ⟨e,keep_size (fun _ c h => up_len c h)⟩
theorem lower_put (t : ByteArray) (ht : t.size ≤ 1099511627775) : word_Lower.f t = some (lowerP t) ∧ (lowerP t).size = t.size := by
 have e : word_Lower.f t = some (strOfNums (eachT t lowF)) := by unfold word_Lower.f;rw [if_pos (by omega)]
 have ep : lowerP t = strOfNums (eachT t lowF) := by unfold lowerP;rw [e];rfl
 rw [ep]
 exact ⟨e,keep_size (fun _ c h => low_len c h)⟩
theorem capital_put (t : ByteArray) (ht : t.size ≤ 1099511627775) : word_Capital.f t = some (capitalP t) ∧ (capitalP t).size = t.size := by
 have e : word_Capital.f t = some (strOfNums (eachT t (capF t))) := by unfold word_Capital.f;rw [if_pos (by omega)]
 have ep : capitalP t = strOfNums (eachT t (capF t)) := by unfold capitalP;rw [e];rfl
 rw [ep]
 exact ⟨e,keep_size (fun a c h => by unfold capF;split;exact up_len c h;exact low_len c h)⟩
/-- Places from which a command works. -/
structure WkOk (q : Wk) : Prop where
 size : q.text.size ≤ 549755813888
 at0 : CBI q.text q.at0
 reg : q.region = -1 ∨ CBI q.text q.region
theorem wkOf_ok (text : ByteArray) (hs : text.size ≤ 549755813888) (count at_ region : Int) : WkOk (wkOf text count at_ region) := by
 refine ⟨hs,snZ_cb text (by omega) at_,?_⟩
 unfold wkOf
 dsimp only
 split
 ·exact .inr (snZ_cb text (by omega) region)
 ·exact .inl rfl
end Go.Proofs.YtfmnmjoofnbnfaaDoor.Pu
end
section
namespace Go.Proofs.YtfmnmjoofnbnfaaDoor.Pure
open Go Go.RowKit Go.Proofs.YtfmnmjoofnbnfaaDoor.Mu Go.Proofs.YtfmnmjoofnbnfaaDoor.Pu Go.Proofs.YtfmnmjoofnbnfaaDoor.U Go.Proofs.YtfmnmjoofnbnfaaDoorW.PrintWords Go.Proofs.YtfmnmjoofnbnfaaDoorW.PrintLast Go.Proofs.YtfmnmjoofnbnfaaDoorW.PrintMore
set_option linter.unusedVariables false
set_option linter.unusedSimpArgs false
theorem nil_list : (⟨#[]⟩ : ByteArray).toList = [] := by kernel_rfl
theorem ah_fix (t : ByteArray) (p : Int) (h0 : 0 ≤ p) (h1 : p ≤ t.size) : ahA t p = p ↔ p = t.size := by
 have h := ahA_spec t p h0 h1
 have := ah_range t p h0 h1
 constructor
 ·intro e;omega
 ·intro e;omega
theorem edit_same (a c : Int) (p : ByteArray) : (!(a == a) || (!(c == c) || (!(p.toList == p.toList)))) = false := by simp
theorem edit_same' (a c : Int) (p : ByteArray) : (a == a && (c == c && (p.toList == p.toList))) = true := by simp
theorem cases_core (t : ByteArray) (hs : t.size ≤ 1048576) (q : Wk) (hq : WkOk q) (ht : q.text = t) (hn : 1 ≤ q.n) (b : Bool) :
  Ev (fun k => (some (ruleZ q 2)).bind fun b1 => (some (ruleZ q 10)).bind fun b2 => (some (ruleZ q 11)).bind fun b3 => (some (ruleZ q 12)).bind fun b4 =>
   if b1.2.2.2.2.2.2 = b2.2.2.2.2.2.2 then (if b1.2.2.2.2.2.2 = b3.2.2.2.2.2.2 then (bodkinlaw17_ChangeCases.j0 k b1.2.2.2.2.2.2 (b1.2.2.2.2.2.2 != b4.2.2.2.2.2.2) b1.1 b1.2.1 b1.2.2.1 b1.2.2.2.1 b1.2.2.2.2.1 b1.2.2.2.2.2.1 b2.1 b2.2.1 b2.2.2.1 b2.2.2.2.1 b2.2.2.2.2.1 b2.2.2.2.2.2.1 b3.1 b3.2.1 b3.2.2.1 b3.2.2.2.1 b3.2.2.2.2.1 b3.2.2.2.2.2.1 b4.1 b4.2.1 b4.2.2.1 b4.2.2.2.1 b4.2.2.2.2.1 b4.2.2.2.2.2.1)
    else (bodkinlaw17_ChangeCases.j0 k b1.2.2.2.2.2.2 true b1.1 b1.2.1 b1.2.2.1 b1.2.2.2.1 b1.2.2.2.2.1 b1.2.2.2.2.2.1 b2.1 b2.2.1 b2.2.2.1 b2.2.2.2.1 b2.2.2.2.2.1 b2.2.2.2.2.2.1 b3.1 b3.2.1 b3.2.2.1 b3.2.2.2.1 b3.2.2.2.2.1 b3.2.2.2.2.2.1 b4.1 b4.2.1 b4.2.2.1 b4.2.2.2.1 b4.2.2.2.2.1 b4.2.2.2.2.2.1))
   else (bodkinlaw17_ChangeCases.j0 k b1.2.2.2.2.2.2 true b1.1 b1.2.1 b1.2.2.1 b1.2.2.2.1 b1.2.2.2.2.1 b1.2.2.2.2.2.1 b2.1 b2.2.1 b2.2.2.1 b2.2.2.2.1 b2.2.2.2.2.1 b2.2.2.2.2.2.1 b3.1 b3.2.1 b3.2.2.1 b3.2.2.2.1 b3.2.2.2.2.1 b3.2.2.2.2.2.1 b4.1 b4.2.1 b4.2.2.1 b4.2.2.2.1 b4.2.2.2.2.1 b4.2.2.2.2.2.1)) true := by
 have hc : CBI q.text q.at0 := hq.at0
 obtain ⟨text,p,region,n⟩ := q
 obtain rfl : text = t := ht
 obtain ⟨m,rfl⟩ : ∃ m,n = m + 1 := ⟨n - 1,by have : 1 ≤ n := hn;omega⟩
 have hc : CBI text p := hc
 have hr := cbi_range hc
 have hm := (again_moves (ahA text) text.size (ah_range text) m p hr.1 hr.2).trans (ah_fix text p hr.1 hr.2)
 have hu := again_up (ahA text) text.size (ah_range text) (m + 1) p hr.1 hr.2
 refine ev_some rfl (ev_some rfl (ev_some rfl (ev_some rfl ?_)))
 show Ev (fun k => _) true
 have z2 : ruleZ ⟨text,p,region,m + 1⟩ 2 = cutZ text true false p (againN (ahA text) (m + 1) p) := rfl
 have z10 : ruleZ ⟨text,p,region,m + 1⟩ 10 = caseZ text p (againN (ahA text) (m + 1) p) (upperP (text.extract p.toNat (againN (ahA text) (m + 1) p).toNat)) := rfl
 have z11 : ruleZ ⟨text,p,region,m + 1⟩ 11 = caseZ text p (againN (ahA text) (m + 1) p) (lowerP (text.extract p.toNat (againN (ahA text) (m + 1) p).toNat)) := rfl
 have z12 : ruleZ ⟨text,p,region,m + 1⟩ 12 = caseZ text p (againN (ahA text) (m + 1) p) (capitalP (text.extract p.toNat (againN (ahA text) (m + 1) p).toNat)) := rfl
 rw [z2,z10,z11,z12]
 by_cases he : p = text.size
 ·rw [hm.2 he,cutZ,if_pos rfl,caseZ,if_pos he,caseZ,if_pos he,caseZ,if_pos he]
  exact ev_pos rfl (ev_pos rfl (Ev.step (fun k => bodkinlaw17_ChangeCases.j0.eq_2 ..) (ev_neg (by decide) (ev_neg (by decide) (ev_now rfl)))))
 ·have hne : p ≠ againN (ahA text) (m + 1) p := fun h => he (hm.1 h.symm)
  generalize againN (ahA text) (m + 1) p = e at hu hne
  rw [cutZ,if_neg hne,caseZ,if_neg he,caseZ,if_neg he,caseZ,if_neg he]
  have hx : (text.extract p.toNat e.toNat).size = e.toNat - p.toNat := size_extract _ _ _ (by omega)
  have hU := upper_put (text.extract p.toNat e.toNat) (by omega)
  have hL := lower_put (text.extract p.toNat e.toNat) (by omega)
  have hC := capital_put (text.extract p.toNat e.toNat) (by omega)
  have hw : wrap64 (p + (e - p)) = e := by rw [w64 (by omega) (by omega)];omega
  refine ev_pos rfl (ev_pos rfl (Ev.step (fun k => bodkinlaw17_ChangeCases.j0.eq_2 ..) (ev_neg (by show ¬ ((0 : Int) != 0) = true;decide) (ev_pos rfl ?_))))
  dsimp only
  rw [if_pos rfl,hw]
  refine ev_some hU.1 (ev_neg (by rw [edit_same];decide) (ev_some hL.1 (ev_neg (by rw [edit_same];decide) (ev_some hC.1 (ev_pos (edit_same' _ _ _) (ev_pos (by rw [hU.2];omega) (ev_pos (by rw [hL.2];omega) (ev_pos (by rw [hC.2];omega) (ev_pos nil_list (ev_pos nil_list (ev_now ?_)))))))))))
  rw [nil_list];rfl
theorem ChangeCases (a0 : ByteArray) (a1_0 a1_1 a1_2 a1_3 : Int) (u0 : a0.size ≤ 1048576) : ∃ k,bodkinlaw17_ChangeCases.f k a0 a1_0 a1_1 a1_2 a1_3 = some true := by
 apply Ev.rounds
 have hs : a0.size ≤ 549755813888 := by omega
 unfold bodkinlaw17_ChangeCases.f
 refine Ev.bind awake17_ans (ev_pos rfl ?_)
 simp only [of_eq hs]
 have hn := cap_count a1_1
 refine cases_core a0 u0 (wkOf a0 a1_1 a1_2 a1_3) (wkOf_ok a0 hs _ _ _) rfl ?_ true
 show 1 ≤ (if 1000 < (if a1_1 < 1 then 1 else a1_1) then (1000 : Int) else (if a1_1 < 1 then 1 else a1_1)).toNat
 split <;> split <;> omega
end Go.Proofs.YtfmnmjoofnbnfaaDoor.Pure
end
section
namespace Go.Proofs.YtfmnmjoofnbnfaaDoor.Lf
open Go.Lib Go.Proofs
theorem own : ownKnob Tryd.prog.godebug = none := by kernel_rfl
theorem laidOut : laidOutB Tryd.prog = true := by kernel_rfl
theorem extra : U8Extra Tryd.prog Tryd.lays260_ren := {
 n3 := by kernel_rfl
 n4 := by kernel_rfl
 y3 := by kernel_rfl
 y4 := by kernel_rfl
 c5 := by kernel_rfl
 c119 := by kernel_rfl
 c138 := by kernel_rfl }
theorem first_eq : Rows.laid_unicode_utf8_first = Lib.firstData := by kernel_rfl
theorem accept_eq : (Rows.laid_unicode_utf8_acceptRanges : DataW Unit) = Lib.acceptData := by kernel_rfl
abbrev laid : List (String × DataW Unit) := [("unicode/utf8.acceptRanges", Rows.laid_unicode_utf8_acceptRanges), ("unicode/utf8.first", Rows.laid_unicode_utf8_first)]
/-- The two tables lie as the contracts ask. -/
theorem tabs {W : World} (h : laidMetH Tryd.prog laid W) : Lib.Utf8Tabs 1 2 W := by
  rw [MakeChecks.laidMetH_plain _ _ _ (by kernel_rfl)] at h
  have h3 := laidMet.reads h (n := "unicode/utf8.first") (d := Rows.laid_unicode_utf8_first) (List.mem_cons_of_mem _ List.mem_cons_self)
  have h4 := laidMet.reads h (n := "unicode/utf8.acceptRanges") (d := Rows.laid_unicode_utf8_acceptRanges) List.mem_cons_self
  rw [first_eq] at h3
  rw [accept_eq] at h4
  exact utf8Tabs_of_reads Tryd.lays260 extra h3 h4
/-- The world of the witness: the settled one,the tables laid. -/
noncomputable abbrev wit (os : Os) : World := World.laidAll Tryd.prog os laid
theorem wit_laid (os : Os) (args : Array Value) : laidMetH Tryd.prog laid ((wit os).forCall (fun _ _ => 0) ⟨#[],args,[]⟩).memory := by
 rw [MakeChecks.laidMetH_plain _ _ _ (by kernel_rfl)]
 exact laidMet_laidAll _ (by kernel_rfl) (by kernel_rfl)
theorem wit_shaped (os : Os) (args : Array Value) : ((wit os).forCall (fun _ _ => 0) ⟨#[],args,[]⟩).Shaped Tryd.prog :=
 World.shaped_of_ZipB (by kernel_rfl) (by kernel_rfl)
end Go.Proofs.YtfmnmjoofnbnfaaDoor.Lf
end
section
namespace Go.Proofs.YtfmnmjoofnbnfaaDoor.Lf
open Go Go.RowKit Go.ChangeShapes Go.WideShapes Go.Proofs.YtfmnmjoofnbnfaaDoor.U Go.Proofs.YtfmnmjoofnbnfaaDoorW.PrintWords Go.Proofs.YtfmnmjoofnbnfaaDoorW.PrintLast Go.Proofs.YtfmnmjoofnbnfaaDoorW.PrintMore
set_option linter.unusedVariables false
set_option linter.unusedSimpArgs false
theorem lk_gen {H : Type} {enc : TypeId × Value → H} {P : Program} {w : World} {base : Nat} {sp : Nat → Bool} {held : Bool} {t : TypeId} {p0 p1 p2 p3 : Field} (ht : P.underlying t = some (.struct #[p0,p1,p2,p3])) (ce : P.cellsOf t = 4)
  (o0 : p0.offset = 0) (c0 : P.cellsOf p0.type = 1) (u0 : P.underlying p0.type = some (.int .i64)) (o1 : p1.offset = 1) (c1 : P.cellsOf p1.type = 1) (u1 : P.underlying p1.type = some (.int .i64)) (o2 : p2.offset = 2) (c2 : P.cellsOf p2.type = 1) (u2 : P.underlying p2.type = some (.int .i64)) (o3 : p3.offset = 3) (c3 : P.cellsOf p3.type = 1) (u3 : P.underlying p3.type = some (.int .i64))
  {fuel : Nat} {cs : List Value} {x : DataW H × List MemPlace} (h : DataW.trod enc P w base sp held fuel t cs = some x) : ∃ (x0 : Int) (x1 : Int) (x2 : Int) (x3 : Int),cs = [.int .i64 x0,.int .i64 x1,.int .i64 x2,.int .i64 x3] ∧ True := by
 obtain ⟨xs,n,_,rfl,hl,hlen,hf⟩ := DataW.trod_struct ht h
 rw [ce] at hl
 match xs,hlen,cs,hl with
 | [y0,y1,y2,y3],_,[v0,v1,v2,v3],_ =>
  have g0 := hf 0 p0 rfl
  have g1 := hf 1 p1 rfl
  have g2 := hf 2 p2 rfl
  have g3 := hf 3 p3 rfl
  simp [o0,c0,o1,c1,o2,c2,o3,c3] at g0 g1 g2 g3
  obtain ⟨x0,e0,f0,_⟩ := DataW.trod_int u0 g0
  injection e0 with e0
  subst e0
  obtain ⟨x1,e1,f1,_⟩ := DataW.trod_int u1 g1
  injection e1 with e1
  subst e1
  obtain ⟨x2,e2,f2,_⟩ := DataW.trod_int u2 g2
  injection e2 with e2
  subst e2
  obtain ⟨x3,e3,f3,_⟩ := DataW.trod_int u3 g3
  injection e3 with e3
  subst e3
  refine ⟨x0,x1,x2,x3,rfl,?_⟩
  trivial
theorem lk_open_gen {W : World} {r : Reach} {b0 : Nat} {H : Type} {enc : TypeId × Value → H} {P : Program} {w : World} {base : Nat} {sp : Nat → Bool} {held : Bool} {t : TypeId} {p0 p1 p2 p3 : Field} (ht : P.underlying t = some (.struct #[p0,p1,p2,p3])) (ce : P.cellsOf t = 4)
  (o0 : p0.offset = 0) (c0 : P.cellsOf p0.type = 1) (u0 : P.underlying p0.type = some (.int .i64)) (o1 : p1.offset = 1) (c1 : P.cellsOf p1.type = 1) (u1 : P.underlying p1.type = some (.int .i64)) (o2 : p2.offset = 2) (c2 : P.cellsOf p2.type = 1) (u2 : P.underlying p2.type = some (.int .i64)) (o3 : p3.offset = 3) (c3 : P.cellsOf p3.type = 1) (u3 : P.underlying p3.type = some (.int .i64))
  {v : Value} {d : DataW H} {ps : List MemPlace} (hval : Value.okWide P W r b0 t v) (hd : DataW.Trod enc P w base sp held t v d ps) : ∃ (x0 : Int) (x1 : Int) (x2 : Int) (x3 : Int),v = .agg #[.int .i64 x0,.int .i64 x1,.int .i64 x2,.int .i64 x3] ∧ True := by
 obtain ⟨cs,rfl,_⟩ := okWide_struct ht hval
 obtain ⟨fuel,hf⟩ := hd
 obtain ⟨x0,x1,x2,x3,e,hb⟩ := lk_gen ht ce o0 c0 u0 o1 c1 u1 o2 c2 u2 o3 c3 u3 hf
 refine ⟨x0,x1,x2,x3,?_,hb⟩
 have e2 : cs.toList = [.int .i64 x0,.int .i64 x1,.int .i64 x2,.int .i64 x3] := e
 rw [← Array.toArray_toList (xs := cs),e2]
set_option maxRecDepth 100000 in
theorem lk_open {W : World} {r : Reach} {b0 : Nat} {H : Type} {enc : TypeId × Value → H} {w : World} {base : Nat} {sp : Nat → Bool} {held : Bool} {v : Value} {d : DataW H} {ps : List MemPlace} (hval : Value.okWide Tryd.prog W r b0 23 v) (hd : DataW.Trod enc Tryd.prog w base sp held 23 v d ps) : ∃ (x0 : Int) (x1 : Int) (x2 : Int) (x3 : Int),v = .agg #[.int .i64 x0,.int .i64 x1,.int .i64 x2,.int .i64 x3] ∧ True :=
 lk_open_gen Tryd.underlying23 (by kernel_rfl) rfl (by kernel_rfl) Tryd.underlying3 rfl (by kernel_rfl) Tryd.underlying3 rfl (by kernel_rfl) Tryd.underlying3 rfl (by kernel_rfl) Tryd.underlying3 hval hd
end Go.Proofs.YtfmnmjoofnbnfaaDoor.Lf
end
