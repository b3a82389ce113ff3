/- What the law WordCases reaches of this seat's own texts, merged; what nothing uses is left out. -/
import Derived.Test.YtkficbgnjpekaaaDoorZWordCases0
import Derived.Test.YtkficbgnjpekaaaDoorZWordCases3
import Derived.Test.YtkficbgnjpekaaaDoorZWordCases6
import Derived.Test.YtkficbgnjpekaaaDoorZWordCases7
import Derived.Test.YtkficbgnjpekaaaDoorZWordCases11
section
namespace Go.Proofs.YtkficbgnjpekaaaDoor.Pu
open Go Go.RowKit Go.Proofs.YtkficbgnjpekaaaDoor.Mu Go.Proofs.YtkficbgnjpekaaaDoor.U Go.Proofs.YtkficbgnjpekaaaDoorW.PrintWords Go.Proofs.YtkficbgnjpekaaaDoorW.PrintLast Go.Proofs.YtkficbgnjpekaaaDoorW.PrintMore
set_option linter.unusedVariables false
set_option linter.unusedSimpArgs false
/-- A form: each character becomes one of the same length,class and kind. -/
structure GoodF (F : Int → Int → Int) : Prop where
 ok : ∀ a c,okC c → okC (F a c)
 len : ∀ a c,okC c → (encI (F a c)).length = (encI c).length
 cls : ∀ a c,okC c → cls (F a c) = cls c
 word : ∀ a c,okC c → wordB (F a c) = wordB c
 cr : ∀ a c,okC c → (F a c = 13 ↔ c = 13)
 nl : ∀ a c,okC c → (F a c = 10 ↔ c = 10)
/-- The changed text. -/
def chg (s : ByteArray) (F : Int → Int → Int) : ByteArray := strOfNums (eachT s F)
section
variable {s : ByteArray} {F : Int → Int → Int}
theorem good_unit (hF : GoodF F) (i : Nat) (h : ¬ uC s i < 0) : okC (uC s i) ∧ okC (F i (uC s i)) ∧ eachU s F i = encI (F i (uC s i)) ∧ (encI (F i (uC s i))).length = uN s i := by
 obtain ⟨h1,h2⟩ := enc_unit s i (by omega)
 have h3 := hF.ok i _ h1
 have h4 := hF.len i _ h1
 have h5 := congrArg List.length h2
 rw [bytsAt_len] at h5
 refine ⟨h1,h3,?_,by omega⟩
 unfold eachU
 rw [if_neg h]
 unfold encO
 rw [if_pos h3]
theorem eachU_length (hF : GoodF F) (i : Nat) (hi : i < s.size) : (eachU s F i).length = uN s i := by
 by_cases h : uC s i < 0
 ·unfold eachU
  rw [if_pos h,bytesOf_length,size_extract _ _ _ (uN_le s i hi)];omega
 ·obtain ⟨_,_,h3,h4⟩ := good_unit hF i h
  rw [h3,h4]
theorem bytesOf_byte (b : ByteArray) : ∀ x ∈ bytesOf b,0 ≤ x ∧ x < 256 := by
 intro x hx
 unfold bytesOf at hx
 obtain ⟨u,_,rfl⟩ := List.mem_map.1 hx
 have := u.toNat_lt
 show 0 ≤ (u.toNat : Int) ∧ (u.toNat : Int) < 256
 omega
theorem eachU_byte (i : Nat) : ∀ x ∈ eachU s F i,0 ≤ x ∧ x < 256 := by
 unfold eachU
 split
 ·exact bytesOf_byte _
 ·exact encO_byte _
theorem eachL_byte : ∀ k i,∀ x ∈ eachL s F k i,0 ≤ x ∧ x < 256
 | 0,_,x,h => by cases h
 | k + 1,i,x,h => by
  rw [eachL] at h
  split at h
  ·rcases List.mem_append.1 h with h | h
   ·exact eachU_byte i x h
   ·exact eachL_byte k _ x h
  ·cases h
theorem eachL_length (hF : GoodF F) : ∀ k i,s.size ≤ i + k → i ≤ s.size → (eachL s F k i).length = s.size - i
 | 0,i,hk,hi => by rw [eachL];simp;omega
 | k + 1,i,hk,hi => by
  rw [eachL]
  have hp := uN_pos s i
  split
  ·rename_i h
   have hle := uN_le s i h
   rw [List.length_append,eachU_length hF i h,eachL_length hF k _ (by omega) hle];omega
  ·simp;omega
theorem chg_size (hF : GoodF F) : (chg s F).size = s.size := by
 unfold chg eachT
 rw [strOfNums_size,eachL_length hF _ _ (by omega) (Nat.zero_le _)];omega
/-- Where a unit's bytes lie in the changed text. -/
theorem each_split (hF : GoodF F) : ∀ n i : Nat,i ≤ n → Bd s i → ∃ pre k,s.size ≤ i + k ∧ pre.length = i ∧ eachT s F = pre ++ eachL s F k i := by
 intro n
 induction n with
 | zero =>
  intro i hi _
  obtain rfl : i = 0 := by omega
  exact ⟨[],s.size,by omega,rfl,rfl⟩
 | succ n ih =>
  intro i hi hb
  by_cases h0 : i = 0
  ·subst h0;exact ⟨[],s.size,by omega,rfl,rfl⟩
  obtain ⟨y,hy,hyi⟩ := bd_prev s i hb (by omega)
  have hp := uN_pos s y
  have hbs := hb.1
  obtain ⟨pre,k,h1,h2,h3⟩ := ih y (by omega) hy
  obtain ⟨k,rfl⟩ : ∃ m,k = m + 1 := ⟨k - 1,by omega⟩
  rw [eachL,if_pos (by omega),hyi,← List.append_assoc] at h3
  exact ⟨pre ++ eachU s F y,k,by omega,by rw [List.length_append,eachU_length hF y (by omega)];omega,h3⟩
theorem chg_byt (hF : GoodF F) (i : Nat) (hb : Bd s i) (hi : i < s.size) (j : Nat) (hj : j < uN s i) : (byt (chg s F) (i + j) : Int) = (eachU s F i).getD j 0 := by
 obtain ⟨pre,k,h1,h2,h3⟩ := each_split hF i i (Nat.le_refl _) hb
 obtain ⟨k,rfl⟩ : ∃ m,k = m + 1 := ⟨k - 1,by omega⟩
 rw [eachL,if_pos hi] at h3
 have hl := eachU_length hF i hi
 have hB : ∀ x ∈ eachT s F,0 ≤ x ∧ x < 256 := eachL_byte _ _
 unfold chg
 rw [byt_str (eachT s F) (i + j) (by rw [h3,List.length_append,List.length_append];omega) hB,h3,List.getD_eq_getElem?_getD,List.getD_eq_getElem?_getD,List.getElem?_append_right (by omega),h2,show i + j - i = j by omega,List.getElem?_append_left (by omega)]
theorem wordB_bad : wordB (-1) = false := by kernel_rfl
theorem eachU_congr {G : Int → Int → Int} (i : Nat) (h : okC (uC s i) → F i (uC s i) = G i (uC s i)) : eachU s F i = eachU s G i := by
 unfold eachU
 by_cases hn : uC s i < 0
 ·rw [if_pos hn,if_pos hn]
 ·rw [if_neg hn,if_neg hn,h (enc_unit s i (by omega)).1]
theorem eachL_congr {G : Int → Int → Int} : ∀ k i : Nat,(∀ x,okC (uC s x) → F x (uC s x) = G x (uC s x)) → eachL s F k i = eachL s G k i
 | 0,_,_ => rfl
 | k + 1,i,h => by rw [eachL,eachL,eachU_congr i (h i),eachL_congr k _ h]
theorem chg_congr {G : Int → Int → Int} (h : ∀ a c,okC c → F a c = G a c) : chg s F = chg s G := by
 unfold chg eachT;rw [eachL_congr _ _ (fun x hx => h x _ hx)]
end
def goodsOk : Bool := casL.all fun p => decide (okC p.f0) && decide (okC p.f1) && decide ((encI p.f0).length = (encI p.f1).length) && decide (cls p.f0 = cls p.f1) && (wordB p.f0 == wordB p.f1) && decide (p.f0 ≠ 13 ∧ p.f0 ≠ 10 ∧ p.f1 ≠ 13 ∧ p.f1 ≠ 10) && decide (upC p.f1 = p.f1) && decide (lowC p.f0 = p.f0)
theorem goods_ok : goodsOk = true := by kernel_rfl
theorem goods_of (p : S55) (h : p ∈ casL) : okC p.f0 ∧ okC p.f1 ∧ (encI p.f0).length = (encI p.f1).length ∧ cls p.f0 = cls p.f1 ∧ wordB p.f0 = wordB p.f1 ∧ (p.f0 ≠ 13 ∧ p.f0 ≠ 10 ∧ p.f1 ≠ 13 ∧ p.f1 ≠ 10) ∧ upC p.f1 = p.f1 ∧ lowC p.f0 = p.f0 := by
 have := List.all_eq_true.1 goods_ok p h
 simp only [Bool.and_eq_true,decide_eq_true_eq,beq_iff_eq] at this
 obtain ⟨⟨⟨⟨⟨⟨⟨a,b⟩,c⟩,d⟩,e⟩,f⟩,g⟩,i⟩ := this
 exact ⟨a,b,c,d,e,f,g,i⟩
structure GoodTo (c d : Int) : Prop where
 ok : okC d
 len : (encI d).length = (encI c).length
 cls : cls d = cls c
 word : wordB d = wordB c
 cr : d = 13 ↔ c = 13
 nl : d = 10 ↔ c = 10
theorem GoodTo.same {c : Int} (h : okC c) : GoodTo c c := ⟨h,rfl,rfl,rfl,Iff.rfl,Iff.rfl⟩
theorem up_good (c : Int) (h : okC c) : GoodTo c (upC c) := by
 rcases (rest_of c).1 with h1 | ⟨p,hp,h1⟩
 ·rw [h1];exact GoodTo.same h
 ·obtain ⟨a,b,c',d,e,f,g,i⟩ := goods_of p hp
  rw [← h1,(up_of p hp).1]
  exact ⟨b,c'.symm,d.symm,e.symm,by omega,by omega⟩
theorem low_good (c : Int) (h : okC c) : GoodTo c (lowC c) := by
 rcases (rest_of c).2 with h1 | ⟨p,hp,h1⟩
 ·rw [h1];exact GoodTo.same h
 ·obtain ⟨a,b,c',d,e,f,g,i⟩ := goods_of p hp
  rw [← h1,(up_of p hp).2]
  exact ⟨a,c',d,e,by omega,by omega⟩
theorem GoodF.of {F : Int → Int → Int} (h : ∀ a c,okC c → GoodTo c (F a c)) : GoodF F :=
 ⟨fun a c hc => (h a c hc).ok,fun a c hc => (h a c hc).len,fun a c hc => (h a c hc).cls,fun a c hc => (h a c hc).word,fun a c hc => (h a c hc).cr,fun a c hc => (h a c hc).nl⟩
theorem good_up : GoodF upF := .of fun _ c h => up_good c h
theorem good_low : GoodF lowF := .of fun _ c h => low_good c h
end Go.Proofs.YtkficbgnjpekaaaDoor.Pu
end
section
namespace Go.Proofs.YtkficbgnjpekaaaDoor.Pu
open Go Go.RowKit Go.Proofs.YtkficbgnjpekaaaDoor.Mu Go.Proofs.YtkficbgnjpekaaaDoor.U Go.Proofs.YtkficbgnjpekaaaDoorW.PrintWords Go.Proofs.YtkficbgnjpekaaaDoorW.PrintLast Go.Proofs.YtkficbgnjpekaaaDoorW.PrintMore
set_option linter.unusedVariables false
set_option linter.unusedSimpArgs false
theorem ext_bytes {s t : ByteArray} (hs : s.size = t.size) (h : ∀ i,i < s.size → byt s i = byt t i) : s = t := by
 have := ext_list hs h
 rw [Lib.toList_data,Lib.toList_data] at this
 exact ByteArray.ext (Array.toList_inj.1 this)
theorem str_bytes (y : ByteArray) : strOfNums (bytesOf y) = y := by
 apply ByteArray.ext
 apply Array.toList_inj.1
 rw [strOfNums_data]
 unfold bytesOf
 rw [List.map_map]
 conv => rhs;rw [← List.map_id y.data.toList]
 apply List.map_congr_left
 intro u _
 show UInt8.ofNat ((u.toNat : Int)).toNat = u
 rw [Int.toNat_natCast]
 exact UInt8.ofNat_toNat
theorem str_app' (l m : List Int) : strOfNums (l ++ m) = strOfNums l ++ strOfNums m := by
 apply ByteArray.ext
 apply Array.toList_inj.1
 have : (strOfNums l ++ strOfNums m).data.toList = (strOfNums l).data.toList ++ (strOfNums m).data.toList := by simp
 rw [this,strOfNums_data,strOfNums_data,strOfNums_data,List.map_append]
theorem ref_enc1 (c : Int) : Ev (fun k => bodkinref01_Encode.f k [c]) (strOfNums (encO c)) := by
 have := ref_encode_ans [c] (by simp)
 rwa [List.flatMap_cons,List.flatMap_nil,List.append_nil] at this
def formF (up : Bool) : Int → Int → Int := if up = true then upF else lowF
theorem form_good (up : Bool) : GoodF (formF up) := by unfold formF;split;exact good_up;exact good_low
theorem formed_loop (s : ByteArray) (hs : s.size ≤ 1099511627776) (up : Bool) : ∀ (k x j : Nat) (out : ByteArray),s.size ≤ x + k → Bd s x → out.size = x → (unitsL s).drop j = (walkL s k x).map (·.2) → j ≤ s.size →
  Ev (fun f => bodkinref05_formed.l0 f s up (unitsL s) out x j) (out ++ strOfNums (eachL s (formF up) k x)) := by
 have hul : (unitsL s).length ≤ s.size := by rw [unitsL_len];exact walkL_length s s.size 0
 intro k
 induction k with
 | zero =>
  intro x j out hk hb ho hU hj
  rw [walkL,List.map_nil] at hU
  have := List.drop_eq_nil_iff.1 hU
  refine Ev.step (fun f => bodkinref05_formed.l0.eq_2 ..) (ev_neg (by omega) (ev_now ?_))
  rw [eachL]
  exact (ByteArray.append_empty).symm
 | succ k ih =>
  intro x j out hk hb ho hU hj
  have hxs := hb.1
  by_cases hx : x < s.size
  ·rw [walkL,if_pos hx,List.map_cons] at hU
   obtain ⟨hi,hg,hd⟩ := drop_cons' (d := z42) hU
   have hr : rd_T42 (unitsL s) j = uAt s x := by unfold rd_T42;rw [Int.toNat_natCast];exact hg
   have hf0 : (uAt s x).f0 = uC s x := rfl
   have hf1 : (uAt s x).f1 = (uN s x : Int) := rfl
   have hle := uN_le s x hx
   have hbn := bd_next s x hb hx
   have hl := eachU_length (form_good up) x hx
   have hgo : ∀ y : ByteArray,y = strOfNums (eachU s (formF up) x) → Ev (fun f => bodkinref05_formed.l0 f s up (unitsL s) (out ++ y) ((x + uN s x : Nat) : Int) ((j + 1 : Nat) : Int)) (out ++ strOfNums (eachL s (formF up) (k + 1) x)) := fun y hy => by
    have := ih (x + uN s x) (j + 1) (out ++ y) (by have := uN_pos s x;omega) hbn (by rw [size_two,hy,strOfNums_size,hl,ho]) hd (by omega)
    rw [eachL,if_pos hx,str_app',← hy,← ByteArray.append_assoc]
    exact this
   refine Ev.step (fun f => bodkinref05_formed.l0.eq_2 ..) (ev_pos (by omega) (ev_pos (by omega) ?_))
   rw [hr,hf0,hf1,w64 (x := (x : Int) + (uN s x : Int)) (by omega) (by omega),w64 (x := (j : Int) + 1) (by omega) (by omega),w64 (x := (x : Int) + 1) (by omega) (by omega)]
   have et : ((x : Int) + 1).toNat = x + 1 := by omega
   rw [et,Int.toNat_natCast]
   by_cases hn : uC s x < 0
   ·have h1 := uC_neg_one s x hn
    have hz : (s.extract x (x + 1)).size = 1 := by rw [size_extract _ _ _ (by omega)];omega
    refine ev_pos hn (ev_pos (by omega) (ev_pos (by omega) (ev_pos (by omega) (ev_pos (by omega) (hgo _ ?_)))))
    unfold eachU
    rw [if_pos hn,h1,str_bytes]
   ·have he : ∀ c : Int,formF up x (uC s x) = c → strOfNums (encO c) = strOfNums (eachU s (formF up) x) := fun c hc => by
     unfold eachU;rw [if_neg hn,hc]
    have hz : ∀ c : Int,formF up x (uC s x) = c → (strOfNums (encO c)).size = uN s x := fun c hc => by rw [he c hc,strOfNums_size,hl]
    refine ev_neg hn ?_
    by_cases hup : up = true
    ·have hc : formF up x (uC s x) = upC (uC s x) := by unfold formF;rw [if_pos hup];rfl
     exact ev_pos hup (Ev.bind (ref_upper_ans _) (Ev.bind (ref_enc1 _) (ev_pos (by rw [hz _ hc];omega) (hgo _ (he _ hc)))))
    ·have hc : formF up x (uC s x) = lowC (uC s x) := by unfold formF;rw [if_neg hup];rfl
     exact ev_neg hup (Ev.bind (ref_lower_ans _) (Ev.bind (ref_enc1 _) (ev_pos (by rw [hz _ hc];omega) (hgo _ (he _ hc)))))
  ·rw [walkL,if_neg hx,List.map_nil] at hU
   have := List.drop_eq_nil_iff.1 hU
   refine Ev.step (fun f => bodkinref05_formed.l0.eq_2 ..) (ev_neg (by omega) (ev_now ?_))
   rw [eachL,if_neg hx]
   exact (ByteArray.append_empty).symm
theorem formed_ans (s : ByteArray) (hs : s.size ≤ 1099511627776) (up : Bool) : Ev (fun k => bodkinref05_formed.f k s up) (chg s (formF up)) := by
 have := formed_loop s hs up s.size 0 0 ⟨#[]⟩ (by omega) (bd_zero s) rfl rfl (Nat.zero_le _)
 rw [show (⟨#[]⟩ : ByteArray) ++ strOfNums (eachL s (formF up) s.size 0) = chg s (formF up) from ByteArray.empty_append] at this
 exact Ev.bind (ref_units_ans s hs) this
theorem rupper_ans (s : ByteArray) (hs : s.size ≤ 1099511627776) : Ev (fun k => bodkinref05_Upper.f k s) (chg s upF) := Ev.bind (formed_ans s hs true) (Ev.now _)
theorem rlower_ans (s : ByteArray) (hs : s.size ≤ 1099511627776) : Ev (fun k => bodkinref05_Lower.f k s) (chg s lowF) := Ev.bind (formed_ans s hs false) (Ev.now _)
theorem sp_word' (s : ByteArray) : ∀ (cs : List S61),(∀ p ∈ spR s none cs,wAt s p.f0.toNat = true) ∧ ∀ a b : Int,wAt s a.toNat = true → ∀ p ∈ spR s (some (a,b)) cs,wAt s p.f0.toNat = true
 | [] => ⟨(fun p h => by cases h),(fun a b ha p h => by rcases List.mem_singleton.1 h with rfl;exact ha)⟩
 | c :: cs => by
  obtain ⟨h1,h2⟩ := sp_word' s cs
  refine ⟨fun p h => ?_,fun a b ha p h => ?_⟩
  ·rw [spR] at h
   by_cases hw : wC s c = true
   ·rw [if_pos hw] at h;exact h2 _ _ hw p h
   ·rw [if_neg hw] at h;exact h1 p h
  ·rw [spR] at h
   by_cases hw : wC s c = true
   ·rw [if_pos hw] at h;exact h2 _ _ ha p h
   ·rw [if_neg hw] at h
    rcases List.mem_cons.1 h with rfl | h
    ·exact ha
    ·exact h1 p h
theorem span_first (s : ByteArray) (p : S32) (hp : p ∈ spansL s) : ∃ x : Nat,p.f0 = (x : Int) ∧ Bd s x ∧ x < s.size ∧ ¬ uC s x < 0 := by
 obtain ⟨h1,h2,h3,h4⟩ := (spans_ord s).one p hp
 have a := cbI_le h3
 have b := cbI_le h4
 have hw : wAt s p.f0.toNat = true := by rw [spans_runs] at hp;exact (sp_word' s _).1 p hp
 refine ⟨p.f0.toNat,by omega,h3.2.1,by omega,fun h => ?_⟩
 have hr := uC_range s p.f0.toNat
 unfold wAt at hw
 rw [show uC s p.f0.toNat = -1 by omega,wordB_bad] at hw
 cases hw
theorem unit_of' (s : ByteArray) (x : Nat) (hx : x < s.size) : ∃ y,y ≤ x ∧ x < y + uN s y ∧ Bd s y := by
 by_cases hb : Bd s x
 ·exact ⟨x,Nat.le_refl _,by have := uN_pos s x;omega,hb⟩
 ·obtain ⟨j,h1,h2,h3,_⟩ := within s x (by omega) hb
  exact ⟨j,by omega,h2,h3⟩
/-- One unit more in its other form. -/
theorem chg_one (s : ByteArray) (F G : Int → Int → Int) (hF : GoodF F) (hG : GoodF G) (x : Nat) (hb : Bd s x) (hx : x < s.size) (h : ∀ y : Nat,y ≠ x → ∀ c,G y c = F y c) :
  (chg s F).extract 0 x ++ strOfNums (eachU s G x) ++ (chg s F).extract (x + uN s x) (chg s F).size = chg s G := by
 have zF := chg_size (s := s) hF
 have zG := chg_size (s := s) hG
 have hle := uN_le s x hx
 have hl := eachU_length hG x hx
 have z1 : ((chg s F).extract 0 x).size = x := by rw [size_extract _ _ _ (by omega)];omega
 have z2 : (strOfNums (eachU s G x)).size = uN s x := by rw [strOfNums_size,hl]
 have z3 : ((chg s F).extract (x + uN s x) (chg s F).size).size = s.size - (x + uN s x) := by rw [size_extract _ _ _ (Nat.le_refl _)];omega
 have z12 : ((chg s F).extract 0 x ++ strOfNums (eachU s G x)).size = x + uN s x := by rw [size_two,z1,z2]
 have hsame : ∀ v,v < s.size → (v < x ∨ x + uN s x ≤ v) → byt (chg s F) v = byt (chg s G) v := fun v hv hc => by
  obtain ⟨y,h1,h2,h3⟩ := unit_of' s v hv
  obtain ⟨j,rfl⟩ : ∃ j,v = y + j := ⟨v - y,by omega⟩
  have hyx : y ≠ x := by rintro rfl;omega
  have e1 := chg_byt hF y h3 (by omega) j (by omega)
  have e2 := chg_byt hG y h3 (by omega) j (by omega)
  rw [eachU_congr (F := G) (G := F) y (fun _ => h y hyx _)] at e2
  omega
 apply ext_bytes
 ·rw [size_two,z12,z3];omega
 ·intro v hv
  rw [size_two,z12,z3] at hv
  by_cases h1 : v < x
  ·rw [byt_append_left _ _ v (by omega),byt_append_left _ _ v (by omega),byt_extract _ _ _ _ (by omega) (by omega),Nat.zero_add]
   exact hsame v (by omega) (.inl h1)
  ·by_cases h2 : v < x + uN s x
   ·obtain ⟨j,rfl⟩ : ∃ j,v = x + j := ⟨v - x,by omega⟩
    have e0 := byt_append_right ((chg s F).extract 0 x) (strOfNums (eachU s G x)) j
    rw [z1] at e0
    rw [byt_append_left _ _ _ (by omega),e0]
    have e1 := chg_byt hG x hb hx j (by omega)
    have e2 := byt_str (eachU s G x) j (by omega) (eachU_byte x)
    omega
   ·obtain ⟨j,rfl⟩ : ∃ j,v = x + uN s x + j := ⟨v - (x + uN s x),by omega⟩
    have e0 := byt_append_right ((chg s F).extract 0 x ++ strOfNums (eachU s G x)) ((chg s F).extract (x + uN s x) (chg s F).size) j
    rw [z12] at e0
    rw [e0,byt_extract _ _ _ _ (by omega) (Nat.le_refl _)]
    exact hsame _ (by omega) (.inr (by omega))
/-- One unit by itself. -/
theorem chg_unit1 (s : ByteArray) (x : Nat) (hb : Bd s x) (hx : x < s.size) (hn : ¬ uC s x < 0) : chg (s.extract x (x + uN s x)) upF = strOfNums (encO (upC (uC s x))) := by
 have hle := uN_le s x hx
 have hp := uN_pos s x
 have hbn := bd_next s x hb hx
 have hz := size_extract s x (x + uN s x) hle
 have hm : uC (s.extract x (x + uN s x)) 0 = uC s x ∧ uN (s.extract x (x + uN s x)) 0 = uN s x := by
  have hl2 := uN_le (s.extract x (x + uN s x)) 0 (by omega)
  refine unit_eq s (s.extract x (x + uN s x)) x 0 (fun k hk => ?_) (by omega) (fun k hk => ?_) (by omega)
  ·rw [byt_extract _ _ _ _ (by omega) hle,Nat.zero_add]
  ·rw [byt_extract _ _ _ _ (by omega) hle,Nat.zero_add]
 unfold chg eachT
 obtain ⟨n,hn2⟩ : ∃ n,(s.extract x (x + uN s x)).size = n + 1 := ⟨(s.extract x (x + uN s x)).size - 1,by omega⟩
 rw [hn2,eachL,if_pos (by omega),hm.2,eachL_end _ _ _ _ (by omega),List.append_nil]
 unfold eachU
 rw [hm.1,if_neg hn]
 rfl
def capI (s : ByteArray) (i : Nat) (a c : Int) : Int := if ((spansL s).take i).any (fun sp => decide (sp.f0 = a)) = true then upC c else lowC c
theorem capI_good (s : ByteArray) (i : Nat) : GoodF (capI s i) := .of fun a c h => by
 unfold capI
 split
 ·exact up_good c h
 ·exact low_good c h
theorem rcapital_loop (s : ByteArray) (hs : s.size ≤ 1099511627775) : ∀ n i : Nat,i + n = (spansL s).length → Ev (fun k => bodkinref05_Capital.l0 k s (chg s (capI s i)) (spansL s) i) (chg s (capF s)) := by
 have hl := spans_len s
 intro n
 induction n with
 | zero =>
  intro i hi
  refine Ev.step (fun f => bodkinref05_Capital.l0.eq_2 ..) (ev_neg (by omega) (ev_now ?_))
  apply chg_congr
  intro a c _
  unfold capI capF
  rw [List.take_of_length_le (by omega)]
 | succ n ih =>
  intro i hi
  have hil : i < (spansL s).length := by omega
  obtain ⟨x,hx,hb,hxs,hn⟩ := span_first s _ (List.getElem_mem hil)
  have hle := uN_le s x hxs
  have zi := chg_size (s := s) (capI_good s i)
  have hr : rd_T32 (spansL s) i = (spansL s)[i] := by unfold rd_T32;rw [Int.toNat_natCast,List.getD_eq_getElem?_getD,List.getElem?_eq_getElem hil];rfl
  have ha := ref_at_ans s (by omega) (x : Int)
  rw [show atA s (x : Int) = (uC s x,(uN s x : Int),true) by unfold atA;rw [if_pos ⟨(bdB_iff s _).2 ((bdI_nat s x).2 hb),by omega⟩,Int.toNat_natCast]] at ha
  have hz := size_extract s x (x + uN s x) hle
  have hu := rupper_ans (s.extract x (x + uN s x)) (by omega)
  rw [chg_unit1 s x hb hxs hn] at hu
  have htk : (spansL s).take (i + 1) = (spansL s).take i ++ [(spansL s)[i]] := (List.take_append_getElem hil).symm
  have hat : capI s (i + 1) x (uC s x) = upC (uC s x) := by
   unfold capI
   rw [htk,List.any_append,if_pos]
   rw [Bool.or_eq_true];exact .inr (by simp [hx])
  have hoff : ∀ y : Nat,y ≠ x → ∀ c,capI s (i + 1) y c = capI s i y c := fun y hy c => by
   unfold capI
   rw [htk,List.any_append]
   have : [(spansL s)[i]].any (fun sp => decide (sp.f0 = (y : Int))) = false := by
    rw [List.any_cons,List.any_nil,Bool.or_false,decide_eq_false_iff_not,hx];omega
   rw [this,Bool.or_false]
  have he : eachU s (capI s (i + 1)) x = encO (upC (uC s x)) := by unfold eachU;rw [if_neg hn,hat]
  have hone := chg_one s (capI s i) (capI s (i + 1)) (capI_good s i) (capI_good s (i + 1)) x hb hxs hoff
  rw [he] at hone
  have hel := eachU_length (capI_good s (i + 1)) x hxs
  rw [he] at hel
  have z1 : ((chg s (capI s i)).extract 0 x).size = x := by rw [size_extract _ _ _ (by omega)];omega
  have z2 : (strOfNums (encO (upC (uC s x)))).size = uN s x := by rw [strOfNums_size,hel]
  have z3 : ((chg s (capI s i)).extract (x + uN s x) (chg s (capI s i)).size).size = s.size - (x + uN s x) := by rw [size_extract _ _ _ (Nat.le_refl _)];omega
  have hgo := ih (i + 1) (by omega)
  rw [← hone] at hgo
  refine Ev.step (fun f => bodkinref05_Capital.l0.eq_2 ..) (ev_pos (by omega) (ev_pos (by omega) ?_))
  rw [hr,hx]
  refine Ev.bind ha ?_
  have et : ((x : Int) + (uN s x : Int)).toNat = x + uN s x := by omega
  refine ev_pos (by omega) (ev_pos (by omega) ?_)
  show Ev _ _
  rw [w64 (x := (x : Int) + (uN s x : Int)) (by omega) (by omega),et,Int.toNat_natCast,w64 (x := (i : Int) + 1) (by omega) (by omega)]
  exact ev_pos (by omega) (ev_pos (by omega) (Ev.bind hu (ev_pos (by rw [z1,z2];omega) (ev_pos (by omega) (ev_pos (by omega) (ev_pos (by rw [size_two,z1,z2,z3];omega) hgo))))))
theorem rcapital_ans (s : ByteArray) (hs : s.size ≤ 1099511627775) : Ev (fun k => bodkinref05_Capital.f k s) (chg s (capF s)) := by
 have h0 : chg s (capI s 0) = chg s lowF := chg_congr (fun a c _ => by unfold capI;rw [List.take_zero];rfl)
 have := rcapital_loop s hs (spansL s).length 0 (Nat.zero_add _)
 rw [h0] at this
 exact Ev.bind (rlower_ans s (by omega)) (Ev.bind (ref_spans_ans s (by omega)) this)
end Go.Proofs.YtkficbgnjpekaaaDoor.Pu
end
section
namespace Go.Proofs.YtkficbgnjpekaaaDoor.Pure
open Go Go.RowKit Go.Proofs.YtkficbgnjpekaaaDoor.Mu Go.Proofs.YtkficbgnjpekaaaDoor.Pu Go.Proofs.YtkficbgnjpekaaaDoor.U Go.Proofs.YtkficbgnjpekaaaDoorW.PrintWords Go.Proofs.YtkficbgnjpekaaaDoorW.PrintLast Go.Proofs.YtkficbgnjpekaaaDoorW.PrintMore
set_option linter.unusedVariables false
theorem wcases_loop (L : List ByteArray) (hL : L.length ≤ 1048576) (hs : ∀ s ∈ L,s.size ≤ 1048576) : ∀ n i : Nat,i + n = L.length → Ev (fun k => bodkinlaw05_WordCases.l0 k L i) true := by
 intro n
 induction n with
 | zero => intro i hi;exact Ev.step (fun k => bodkinlaw05_WordCases.l0.eq_2 ..) (ev_neg (by omega) (Ev.now _))
 | succ n ih =>
  intro i hi
  have hm : rdOf ByteArray.empty L (i : Int) ∈ L := by
   unfold rdOf
   rw [Int.toNat_natCast,List.getD_eq_getElem?_getD,List.getElem?_eq_getElem (by omega)]
   exact List.getElem_mem _
  obtain ⟨s,hr⟩ : ∃ s,rdOf ByteArray.empty L (i : Int) = s := ⟨_,rfl⟩
  rw [hr] at hm
  have h1 := hs s hm
  have up : word_Upper.f s = some (chg s upF) := by unfold word_Upper.f;rw [if_pos (by omega)];rfl
  have low : word_Lower.f s = some (chg s lowF) := by unfold word_Lower.f;rw [if_pos (by omega)];rfl
  have cap : word_Capital.f s = some (chg s (capF s)) := by unfold word_Capital.f;rw [if_pos (by omega)];rfl
  have hgo := ih (i + 1) (by omega)
  refine Ev.step (fun k => bodkinlaw05_WordCases.l0.eq_2 ..) (ev_pos (by omega) (ev_pos (by omega) ?_))
  rw [hr,w64 (by omega) (by omega)]
  exact ev_some up (Ev.bind (rupper_ans s (by omega)) (ev_pos rfl (ev_some low (Ev.bind (rlower_ans s (by omega)) (ev_pos rfl (ev_some cap (Ev.bind (rcapital_ans s (by omega)) (ev_pos rfl hgo))))))))
theorem WordCases (l0 : List ByteArray) (u0 : l0.length ≤ 1048576) (s0 : ∀ s ∈ l0,s.size ≤ 1048576) : ∃ k,bodkinlaw05_WordCases.f k l0 = some true := by
 apply Ev.rounds
 unfold bodkinlaw05_WordCases.f
 exact Ev.bind awake_ans (ev_pos rfl (wcases_loop l0 u0 s0 l0.length 0 (by omega)))
end Go.Proofs.YtkficbgnjpekaaaDoor.Pure
end
section
namespace Go.Proofs.YtkficbgnjpekaaaDoor.Lf
open Go.Lib Go.Proofs
theorem own : ownKnob Tryd.prog.godebug = none := by kernel_rfl
theorem laidOut : laidOutB Tryd.prog = true := by kernel_rfl
theorem extra : U8Extra Tryd.prog Tryd.lays260_ren := {
 n3 := by kernel_rfl
 n4 := by kernel_rfl
 y3 := by kernel_rfl
 y4 := by kernel_rfl
 c5 := by kernel_rfl
 c119 := by kernel_rfl
 c138 := by kernel_rfl }
theorem first_eq : Rows.laid_unicode_utf8_first = Lib.firstData := by kernel_rfl
theorem accept_eq : (Rows.laid_unicode_utf8_acceptRanges : DataW Unit) = Lib.acceptData := by kernel_rfl
abbrev laid : List (String × DataW Unit) := [("unicode/utf8.acceptRanges", Rows.laid_unicode_utf8_acceptRanges), ("unicode/utf8.first", Rows.laid_unicode_utf8_first)]
/-- The two tables lie as the contracts ask. -/
theorem tabs {W : World} (h : laidMetH Tryd.prog laid W) : Lib.Utf8Tabs 0 1 W := by
  rw [MakeChecks.laidMetH_plain _ _ _ (by kernel_rfl)] at h
  have h3 := laidMet.reads h (n := "unicode/utf8.first") (d := Rows.laid_unicode_utf8_first) (List.mem_cons_of_mem _ List.mem_cons_self)
  have h4 := laidMet.reads h (n := "unicode/utf8.acceptRanges") (d := Rows.laid_unicode_utf8_acceptRanges) List.mem_cons_self
  rw [first_eq] at h3
  rw [accept_eq] at h4
  exact utf8Tabs_of_reads Tryd.lays260 extra h3 h4
/-- The world of the witness: the settled one,the tables laid. -/
noncomputable abbrev wit (os : Os) : World := World.laidAll Tryd.prog os laid
theorem wit_laid (os : Os) (args : Array Value) : laidMetH Tryd.prog laid ((wit os).forCall (fun _ _ => 0) ⟨#[],args,[]⟩).memory := by
 rw [MakeChecks.laidMetH_plain _ _ _ (by kernel_rfl)]
 exact laidMet_laidAll _ (by kernel_rfl) (by kernel_rfl)
theorem wit_shaped (os : Os) (args : Array Value) : ((wit os).forCall (fun _ _ => 0) ⟨#[],args,[]⟩).Shaped Tryd.prog :=
 World.shaped_of_ZipB (by kernel_rfl) (by kernel_rfl)
end Go.Proofs.YtkficbgnjpekaaaDoor.Lf
end
section
namespace Go.Proofs.YtkficbgnjpekaaaDoor.Lf
open Go Go.RowKit Go.ChangeShapes Go.Proofs.YtkficbgnjpekaaaDoorW.PrintWords Go.Proofs.YtkficbgnjpekaaaDoorW.PrintLast Go.Proofs.YtkficbgnjpekaaaDoorW.PrintMore
def IsStrs (w : World) (a : Option Addr) (len cap : Nat) (ss : List ByteArray) : Prop :=
 (a = none ∧ len = 0 ∧ cap = 0 ∧ ss = []) ∨ ∃ x,a = some x ∧ len ≤ cap ∧ cap ≤ maxLen ∧ ss.length = cap ∧ ∀ i,i < ss.length → w.cell? (x.add i) = some (.string (ss.getD i ByteArray.empty))
theorem strs_read {w : World} {a : Option Addr} {len cap : Nat} {ss : List ByteArray} (h : IsStrs w a len cap ss) : ∃ l : List ByteArray,len = l.length ∧ l = ss.take len ∧ Kd.C Kd.string w a l.length l ∧ l.length ≤ cap := by
 rcases h with ⟨rfl,rfl,rfl,rfl⟩ | ⟨x,rfl,hl,hm,hs,hc⟩
 ·refine ⟨[],rfl,rfl,Kd.C_of_reads (enc := Value.string) (d := ByteArray.empty) ⟨rfl,by simp,fun h => absurd h (by simp)⟩,Nat.le_refl _⟩
 ·have e : (ss.take len).length = len := by rw [List.length_take];omega
  refine ⟨ss.take len,e.symm,rfl,Kd.C_of_reads (enc := Value.string) (d := ByteArray.empty) ⟨rfl,by unfold maxLen at hm;omega,fun _ => ⟨x,rfl,fun j hj => ?_⟩⟩,by omega⟩
  rw [hc j (by omega)]
  simp [List.getD_eq_getElem?_getD,show j < len by omega]
end Go.Proofs.YtkficbgnjpekaaaDoor.Lf
end
