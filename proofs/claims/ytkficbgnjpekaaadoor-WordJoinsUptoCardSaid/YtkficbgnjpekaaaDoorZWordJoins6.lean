/- What the law WordJoins reaches of this seat's own texts, merged; what nothing uses is left out. -/
import Derived.Test.YtkficbgnjpekaaaDoorZWordJoins0
import Derived.Test.YtkficbgnjpekaaaDoorZWordJoins3
import Derived.Test.YtkficbgnjpekaaaDoorZWordJoins5
section
namespace Go.Proofs.YtkficbgnjpekaaaDoor.Pu
open Go Go.RowKit Go.Proofs.YtkficbgnjpekaaaDoor.Mu Go.Proofs.YtkficbgnjpekaaaDoor.U Go.Proofs.YtkficbgnjpekaaaDoorW.PrintWords Go.Proofs.YtkficbgnjpekaaaDoorW.PrintLast Go.Proofs.YtkficbgnjpekaaaDoorW.PrintMore
set_option linter.unusedVariables false
theorem right_uC (a b : ByteArray) (y : Nat) : uC (a ++ b) (a.size + y) = uC b y := by unfold uC;rw [right_dec]
theorem bd_left (a b : ByteArray) (i : Nat) (h : Bd (a ++ b) i) (hi : i ≤ a.size) : Bd a i := by
 have hs := size_two a b
 refine ⟨hi,fun j hj => ?_⟩
 by_cases h2 : 2 ≤ uN a j
 ·have hle := uN_le a j (by omega)
  have e := dec_prefix a (a ++ b) j j h2 (fun k hk => byt_append_left a b (j + k) (by omega)) (by omega)
  have : uN (a ++ b) j = uN a j := by unfold uN;rw [e]
  have := h.2 j hj
  omega
 ·have := uN_pos a j;omega
theorem right_nxt (a b : ByteArray) : ∀ n y : Nat,b.size - y ≤ n → y < b.size → nxt (a ++ b) (a.size + y) = a.size + nxt b y := by
 have hs := size_two a b
 intro n
 induction n with
 | zero => intro y hn hy;omega
 | succ n ih =>
  intro y hn hy
  have hp := uN_pos b y
  rw [nxt_eq (a ++ b) (a.size + y) (by omega),nxt_eq b y hy,right_uN,Nat.add_assoc,right_uC,right_uC]
  by_cases h : y + uN b y < b.size ∧ glueB (uC b y) (uC b (y + uN b y)) = true
  ·rw [if_pos ⟨by omega,h.2⟩,if_pos h];exact ih _ (by omega) h.1
  ·rw [if_neg (fun h' => h ⟨by omega,h'.2⟩),if_neg h]
def shiftC (d : Int) (c : S61) : S61 := ⟨d + c.f0,d + c.f1,c.f2,c.f3⟩
theorem right_clAt (a b : ByteArray) (y : Nat) (hy : y < b.size) : clAt (a ++ b) (a.size + y) = shiftC a.size (clAt b y) := by
 have hs := size_two a b
 have hq : crlf (a ++ b) (a.size + y) ↔ crlf b y := by
  unfold crlf;rw [right_uN,right_uC,Nat.add_assoc,right_uC]
  constructor
  ·rintro ⟨h1,h2,h3⟩;exact ⟨h1,by omega,h3⟩
  ·rintro ⟨h1,h2,h3⟩;exact ⟨h1,by omega,h3⟩
 unfold clAt shiftC clsAt celAt
 rw [right_nxt a b _ y (Nat.le_refl _) hy,right_uC]
 simp only [hq,Int.natCast_add]
theorem right_ctl (a b : ByteArray) : ∀ n y : Nat,b.size - y ≤ n → ctl (a ++ b) (a.size + y) = (ctl b y).map (shiftC a.size) := by
 have hs := size_two a b
 intro n
 induction n with
 | zero => intro y hn;rw [ctl_end _ _ (by omega),ctl_end _ _ (by omega)];rfl
 | succ n ih =>
  intro y hn
  by_cases hy : y < b.size
  ·have := nxt_pos b y hy
   rw [ctl_go _ _ (by omega),ctl_go b y hy,right_nxt a b _ y (Nat.le_refl _) hy,ih _ (by omega),List.map_cons,right_clAt a b y hy]
  ·rw [ctl_end _ _ (by omega),ctl_end _ _ (by omega)];rfl
section
variable (a b : ByteArray) (hC : CB (a ++ b) a.size)
theorem left_nxt (hC : CB (a ++ b) a.size) : ∀ n i : Nat,a.size - i ≤ n → i < a.size → Bd (a ++ b) i → nxt a i = nxt (a ++ b) i := by
 have hs := size_two a b
 intro n
 induction n with
 | zero => intro i hn hi _;omega
 | succ n ih =>
  intro i hn hi hb
  have hu := hC.1.2 i hi
  obtain ⟨h1,h2⟩ := left_unit a b i hi hu
  have hp := uN_pos a i
  rw [← h2] at hu
  have hbn := bd_next (a ++ b) i hb (by omega)
  rw [← h2] at hbn
  rw [nxt_eq a i hi,nxt_eq (a ++ b) i (by omega),← h2,← h1]
  by_cases hy : i + uN a i < a.size
  ·have h3 := left_unit a b (i + uN a i) hy (hC.1.2 _ hy)
   rw [← h3.1]
   by_cases hg : glueB (uC a i) (uC a (i + uN a i)) = true
   ·rw [if_pos ⟨hy,hg⟩,if_pos ⟨by omega,hg⟩];exact ih _ (by omega) hy hbn
   ·rw [if_neg (fun h => hg h.2),if_neg (fun h => hg h.2)]
  ·have hya : i + uN a i = a.size := by omega
   rw [if_neg (fun h => hy h.1),if_neg]
   rintro ⟨h4,h5⟩
   rw [hya] at h4 h5
   rw [h1,(cb_iff (a ++ b) a.size i hb (by omega) h4).1 hC] at h5
   cases h5
theorem left_clAt (hC : CB (a ++ b) a.size) (i : Nat) (hi : i < a.size) (hb : Bd (a ++ b) i) : clAt (a ++ b) i = clAt a i := by
 have hs := size_two a b
 have hu := hC.1.2 i hi
 obtain ⟨h1,h2⟩ := left_unit a b i hi hu
 have hq : crlf (a ++ b) i ↔ crlf a i := by
  unfold crlf
  rw [← h1,← h2]
  rw [← h2] at hu
  constructor
  ·rintro ⟨h3,h4,h5⟩
   by_cases hy : i + uN a i < a.size
   ·exact ⟨h3,hy,by rw [(left_unit a b _ hy (hC.1.2 _ hy)).1];exact h5⟩
   ·exfalso
    have hya : i + uN a i = a.size := by omega
    rw [hya] at h4 h5
    have := (cb_iff (a ++ b) a.size i hb (by omega) h4).1 hC
    rw [← h1,h3,h5] at this
    have h6 := (glue_nl 13).2 rfl
    rw [h6] at this;cases this
  ·rintro ⟨h3,h4,h5⟩
   exact ⟨h3,by omega,by rw [← (left_unit a b _ h4 (hC.1.2 _ h4)).1];exact h5⟩
 unfold clAt clsAt celAt
 rw [left_nxt a b hC _ i (Nat.le_refl _) hi hb,h1]
 simp only [hq]
theorem left_ctl (hC : CB (a ++ b) a.size) : ∀ n i : Nat,a.size - i ≤ n → i ≤ a.size → CB (a ++ b) i → ctl (a ++ b) i = ctl a i ++ ctl (a ++ b) a.size := by
 have hs := size_two a b
 intro n
 induction n with
 | zero =>
  intro i hn hi hc
  obtain rfl : i = a.size := by omega
  rw [ctl_end a _ (Nat.le_refl _)];rfl
 | succ n ih =>
  intro i hn hi hc
  by_cases hlt : i < a.size
  ·have hba := bd_left a b i hc.1 hi
   have e := left_nxt a b hC _ i (Nat.le_refl _) hlt hc.1
   have h1 := nxt_pos a i hlt
   have h2 := nxt_le a i hba hlt
   have hcn := nxt_cb (a ++ b) i hc.1 (by omega)
   rw [ctl_go (a ++ b) i (by omega),ctl_go a i hlt,left_clAt a b hC i hlt hc.1,← e,List.cons_append,ih (nxt a i) (by omega) h2 (by rw [e];exact hcn)]
  ·obtain rfl : i = a.size := by omega
   rw [ctl_end a _ (Nat.le_refl _)];rfl
theorem clus_two (hC : CB (a ++ b) a.size) : clusL (a ++ b) = clusL a ++ (clusL b).map (shiftC a.size) := by
 have h1 := left_ctl a b hC _ 0 (Nat.le_refl _) (Nat.zero_le _) (cb_zero _)
 have h2 := right_ctl a b _ 0 (Nat.le_refl _)
 rw [Nat.add_zero] at h2
 rw [clusL_ctl,h1,h2];rfl
end
theorem data_app (a b : ByteArray) : (a ++ b).data.toList = a.data.toList ++ b.data.toList := by simp
theorem left_extract (a b : ByteArray) (i t : Nat) (h : t ≤ a.size) : (a ++ b).extract i t = a.extract i t := by
 apply ByteArray.ext
 apply Array.toList_inj.1
 rw [Lib.extract_data,Lib.extract_data,data_app]
 have hl : a.data.toList.length = a.size := by rw [← Lib.size_eq]
 by_cases hi : i ≤ a.size
 ·rw [List.drop_append_of_le_length (by omega),List.take_append_of_le_length (by rw [List.length_drop];omega)]
 ·rw [show t - i = 0 by omega,List.take_zero,List.take_zero]
theorem right_extract (a b : ByteArray) (i t : Nat) : (a ++ b).extract (a.size + i) (a.size + t) = b.extract i t := by
 apply ByteArray.ext
 apply Array.toList_inj.1
 rw [Lib.extract_data,Lib.extract_data,data_app]
 have hl : a.data.toList.length = a.size := by rw [← Lib.size_eq]
 rw [List.drop_append,List.drop_eq_nil_of_le (by omega),List.nil_append,hl,show a.size + i - a.size = i by omega,show a.size + t - (a.size + i) = t - i by omega]
end Go.Proofs.YtkficbgnjpekaaaDoor.Pu
end
section
namespace Go.Proofs.YtkficbgnjpekaaaDoor.Pu
open Go Go.RowKit Go.Proofs.YtkficbgnjpekaaaDoor.Mu Go.Proofs.YtkficbgnjpekaaaDoor.U Go.Proofs.YtkficbgnjpekaaaDoorW.PrintWords Go.Proofs.YtkficbgnjpekaaaDoorW.PrintLast Go.Proofs.YtkficbgnjpekaaaDoorW.PrintMore
set_option linter.unusedVariables false
set_option linter.unusedSimpArgs false
def nlS : ByteArray := ⟨#[10]⟩
theorem nl_size : nlS.size = 1 := rfl
theorem nl_unit : uC nlS 0 = 10 ∧ uN nlS 0 = 1 := ⟨by kernel_rfl,by kernel_rfl⟩
theorem nl_word : wordB 10 = false := by kernel_rfl
theorem cr_word : wordB 13 = false := by kernel_rfl
def shiftS (d : Int) (p : S32) : S32 := ⟨d + p.f0,d + p.f1⟩
theorem wAt_right (a b : ByteArray) (y : Nat) : wAt (a ++ b) (a.size + y) = wAt b y := by unfold wAt;rw [right_uC]
theorem sp_shift (a b : ByteArray) : ∀ (cs : List S61),(∀ c ∈ cs,0 ≤ c.f0) → ∀ o : Option (Int × Int),spR (a ++ b) (o.map fun q => ((a.size : Int) + q.1,(a.size : Int) + q.2)) (cs.map (shiftC a.size)) = (spR b o cs).map (shiftS a.size)
 | [],_,none => rfl
 | [],_,some (x,y) => rfl
 | c :: cs,h,o => by
  have hw : wC (a ++ b) (shiftC a.size c) = wC b c := by
   unfold wC
   have := h c (by simp)
   rw [show (shiftC a.size c).f0 = (a.size : Int) + c.f0 from rfl,show ((a.size : Int) + c.f0).toNat = a.size + c.f0.toNat by omega,wAt_right]
  have ih := sp_shift a b cs (fun c hc => h c (List.mem_cons_of_mem _ hc))
  rw [List.map_cons]
  rcases o with _ | ⟨x,y⟩
  ·rw [Option.map_none,spR,spR,hw]
   by_cases hw2 : wC b c = true
   ·rw [if_pos hw2,if_pos hw2,← ih (some (c.f0,c.f1))];rfl
   ·rw [if_neg hw2,if_neg hw2,← ih none];rfl
  ·rw [Option.map_some,spR,spR,hw]
   by_cases hw2 : wC b c = true
   ·rw [if_pos hw2,if_pos hw2,← ih (some (x,c.f1))];rfl
   ·rw [if_neg hw2,if_neg hw2,List.map_cons,← ih none];rfl
/-- Clusters that stand in no word,behind. -/
theorem sp_behind (s : ByteArray) (ds : List S61) : ∀ (cs : List S61) (o : Option (Int × Int)),(∀ d ds',ds = d :: ds' → wC s d = false) → spR s o (cs ++ ds) = spR s o cs ++ spR s none ds
 | [],none,_ => by rw [List.nil_append,spR,List.nil_append]
 | [],some (x,y),h => by
  rw [List.nil_append,spR]
  cases ds with
  | nil => rfl
  | cons d ds' => rw [spR,spR,h d ds' rfl,if_neg (by simp),if_neg (by simp)];rfl
 | c :: cs,none,h => by
  rw [List.cons_append,spR,spR]
  by_cases hw : wC s c = true
  ·rw [if_pos hw,if_pos hw];exact sp_behind s ds cs _ h
  ·rw [if_neg hw,if_neg hw];exact sp_behind s ds cs _ h
 | c :: cs,some (x,y),h => by
  rw [List.cons_append,spR,spR]
  by_cases hw : wC s c = true
  ·rw [if_pos hw,if_pos hw];exact sp_behind s ds cs _ h
  ·rw [if_neg hw,if_neg hw,List.cons_append,sp_behind s ds cs _ h]
theorem sp_left (a b : ByteArray) (hC : CB (a ++ b) a.size) : ∀ (cs : List S61),(∀ c ∈ cs,∃ i,CB a i ∧ i < a.size ∧ c = clAt a i) → ∀ o,spR (a ++ b) o cs = spR a o cs
 | [],_,none => rfl
 | [],_,some (x,y) => rfl
 | c :: cs,h,o => by
  have ih := sp_left a b hC cs (fun c hc => h c (List.mem_cons_of_mem _ hc))
  have hw : wC (a ++ b) c = wC a c := by
   obtain ⟨i,hci,hi,rfl⟩ := h c (by simp)
   rw [wC_at]
   show wAt (a ++ b) ((i : Int)).toNat = _
   rw [Int.toNat_natCast]
   unfold wAt
   rw [(left_unit a b i hi (hC.1.2 i hi)).1]
  rcases o with _ | ⟨x,y⟩
  ·rw [spR,spR,hw,ih,ih]
  ·rw [spR,spR,hw,ih,ih]
/-- The words of two texts,where the second begins with no word. -/
theorem spans_two (a b : ByteArray) (hC : CB (a ++ b) a.size) (hw : 0 < b.size → wAt b 0 = false) : spansL (a ++ b) = spansL a ++ (spansL b).map (shiftS a.size) := by
 have hm : ∀ c ∈ clusL a,∃ i,CB a i ∧ i < a.size ∧ c = clAt a i := clus_mem' a a.size 0 (cb_zero a)
 have hmb := clus_mem' b b.size 0 (cb_zero b)
 rw [spans_runs,spans_runs,spans_runs,clus_two a b hC,sp_behind,sp_left a b hC (clusL a) hm]
 ·congr 1
  have := sp_shift a b (clusL b) (fun c hc => by obtain ⟨i,_,_,rfl⟩ := hmb c hc;exact Int.natCast_nonneg i) none
  exact this
 ·intro d ds' he
  by_cases hb : 0 < b.size
  ·rw [clusL_ctl,ctl_go b 0 hb,List.map_cons] at he
   injection he with h1 _
   rw [← h1]
   unfold wC
   rw [show (shiftC (a.size : Int) (clAt b 0)).f0 = (a.size : Int) + ((0 : Nat) : Int) from rfl,show ((a.size : Int) + ((0 : Nat) : Int)).toNat = a.size + 0 by omega,wAt_right]
   exact hw hb
  ·rw [clusL_ctl,ctl_end b 0 (by omega)] at he;cases he
theorem bd_one (b : ByteArray) (h : 0 < b.size) (hl : byt b 0 < 128) : Bd b 1 := by
 have := bd_next b 0 (bd_zero b) h
 have h2 := bad_or b 0
 rwa [show 0 + uN b 0 = 1 by omega] at this
theorem two_bd (a b : ByteArray) (h : 0 < b.size) (hl : byt b 0 < 128) : Bd (a ++ b) a.size := by
 have hs := size_two a b
 refine ⟨by omega,fun j hj => ?_⟩
 by_cases h2 : a.size < j + uN (a ++ b) j
 ·have := inner_cont (a ++ b) j a.size hj h2
  have e := byt_append_right a b 0
  rw [Nat.add_zero] at e
  omega
 ·omega
theorem nl_byt (b : ByteArray) : byt (nlS ++ b) 0 = 10 := byt_append_left nlS b 0 (by decide)
theorem nl_at (b : ByteArray) : uC (nlS ++ b) 0 = 10 ∧ uN (nlS ++ b) 0 = 1 := by
 have h := bad_or (nlS ++ b) 0
 rw [nl_byt] at h
 omega
theorem nl_cb (b : ByteArray) : CB (nlS ++ b) nlS.size := by
 have hs := size_two nlS b
 have hb1 := bd_one (nlS ++ b) (by rw [hs,nl_size];omega) (by rw [nl_byt];omega)
 refine ⟨hb1,fun y hy he hlt => ?_⟩
 have hp := uN_pos (nlS ++ b) y
 rw [nl_size] at he
 obtain rfl : y = 0 := by omega
 rw [(nl_at b).1]
 exact glue_of_nl _
theorem spans_nl (b : ByteArray) : spansL (nlS ++ b) = (spansL b).map (shiftS 1) := by
 have hm := clus_mem' nlS nlS.size 0 (cb_zero nlS)
 have hmb := clus_mem' b b.size 0 (cb_zero b)
 have hC := nl_cb b
 rw [spans_runs,spans_runs,clus_two nlS b hC]
 have e : clusL nlS = [clAt nlS 0] := by
  rw [clusL_ctl,ctl_go nlS 0 (by decide),ctl_end]
  have := nxt_pos nlS 0 (by decide);rw [nl_size];omega
 rw [e,List.cons_append,List.nil_append,spR,if_neg]
 ·exact sp_shift nlS b (clusL b) (fun c hc => by obtain ⟨i,_,_,rfl⟩ := hmb c hc;exact Int.natCast_nonneg i) none
 ·unfold wC
  show ¬ wAt (nlS ++ b) ((0 : Nat) : Int).toNat = true
  rw [Int.toNat_natCast]
  unfold wAt
  rw [(nl_at b).1,nl_word];simp
theorem spans_cut (a b : ByteArray) (hb : 0 < b.size) (hl : byt b 0 < 128) (hw : wAt b 0 = false) (hg : ∀ y,Bd (a ++ b) y → a.size = y + uN (a ++ b) y → glueB (uC (a ++ b) y) (uC b 0) = false) : spansL (a ++ b) = spansL a ++ (spansL b).map (shiftS a.size) := by
 refine spans_two a b ⟨two_bd a b hb hl,fun y hy he hlt => ?_⟩ (fun _ => hw)
 have e := right_uC a b 0
 rw [Nat.add_zero] at e
 rw [e]
 exact hg y hy he
/-- The words of two texts with a line's end between. -/
theorem spans_join (a b : ByteArray) : spansL (a ++ (nlS ++ b)) = spansL a ++ (spansL b).map (shiftS ((a.size : Int) + 1)) := by
 have hs := size_two a (nlS ++ b)
 have hs2 := size_two nlS b
 have hz : 0 < (nlS ++ b).size := by rw [hs2,nl_size];omega
 have hl : byt (nlS ++ b) 0 < 128 := by rw [nl_byt];omega
 have hw : wAt (nlS ++ b) 0 = false := by unfold wAt;rw [(nl_at b).1];exact nl_word
 have hsh : ((spansL (nlS ++ b)).map (shiftS a.size)) = (spansL b).map (shiftS ((a.size : Int) + 1)) := by
  rw [spans_nl,List.map_map]
  apply List.map_congr_left
  intro p _
  show (⟨(a.size : Int) + (1 + p.f0),(a.size : Int) + (1 + p.f1)⟩ : S32) = ⟨(a.size : Int) + 1 + p.f0,(a.size : Int) + 1 + p.f1⟩
  rw [Int.add_assoc,Int.add_assoc]
 by_cases hC : CB (a ++ (nlS ++ b)) a.size
 ·rw [spans_two a (nlS ++ b) hC (fun _ => hw),hsh]
 ·-- a ends with a carriage return
  have hbd := two_bd a (nlS ++ b) hz hl
  have ha0 : 0 < a.size := by
   rcases Nat.eq_zero_or_pos a.size with h | h
   ·rw [h] at hC;exact absurd (cb_zero _) hC
   ·exact h
  obtain ⟨y,hy,hya⟩ := bd_prev _ a.size hbd ha0
  have hp := uN_pos (a ++ (nlS ++ b)) y
  have hcr : uC (a ++ (nlS ++ b)) y = 13 := by
   have e := right_uC a (nlS ++ b) 0
   rw [Nat.add_zero,(nl_at b).1] at e
   have hn := fun h => hC ((cb_iff _ a.size y hy hya (by omega)).2 h)
   rw [e] at hn
   cases hg : glueB (uC (a ++ (nlS ++ b)) y) 10 with
   | false => exact absurd hg hn
   | true => exact (glue_nl _).1 hg
  have hlu := left_unit a (nlS ++ b) y (by omega) (by omega)
  have hby : byt a y = 13 := (uC_low a y 13 (by omega)).1 (by rw [hlu.1,hcr];rfl)
  have hone : uN a y = 1 := by
   have h1 := bad_or a y
   rw [hby] at h1
   omega
  have hye : y + 1 = a.size := by rw [← hlu.2,hone] at hya;exact hya
  -- the text ahead of it
  obtain ⟨p,c,hac,hps,hc⟩ : ∃ p c : ByteArray,a = p ++ c ∧ p.size = y ∧ c = ⟨#[13]⟩ := by
   refine ⟨a.extract 0 y,⟨#[13]⟩,?_,by rw [size_extract _ _ _ (by omega)];omega,rfl⟩
   apply ByteArray.ext
   apply Array.toList_inj.1
   rw [data_app,Lib.extract_data]
   have hlen : a.data.toList.length = a.size := by rw [← Lib.size_eq]
   rw [List.drop_zero,Nat.sub_zero]
   conv => lhs;rw [← List.take_append_drop y a.data.toList]
   congr 1
   rw [List.drop_eq_getElem_cons (by omega),List.drop_eq_nil_of_le (by omega)]
   have e := hby
   unfold byt at e
   rw [get!_eq,List.getD_eq_getElem?_getD,List.getElem?_eq_getElem (by omega)] at e
   have e2 : a.data.toList[y] = 13 := UInt8.toNat_inj.1 e
   rw [e2]
  have hcs : c.size = 1 := by rw [hc];rfl
  have hcb : byt c 0 = 13 := by rw [hc];rfl
  have hcu : ∀ d : ByteArray,uC (c ++ d) 0 = 13 := fun d => by
   have h := bad_or (c ++ d) 0
   rw [byt_append_left c d 0 (by omega),hcb] at h
   omega
  have hcw : ∀ d : ByteArray,wAt (c ++ d) 0 = false := fun d => by unfold wAt;rw [hcu];exact cr_word
  have hcut : ∀ d : ByteArray,spansL (p ++ (c ++ d)) = spansL p ++ (spansL (c ++ d)).map (shiftS p.size) := fun d => by
   have h2 := size_two c d
   refine spans_cut p (c ++ d) (by omega) (by rw [byt_append_left c d 0 (by omega),hcb];omega) (hcw d) (fun y _ _ => ?_)
   rw [hcu];exact glue_cr _
  -- the two newlines are one cluster
  have hlast : spansL (c ++ (nlS ++ b)) = (spansL b).map (shiftS 2) := by
   have hassoc : c ++ (nlS ++ b) = (c ++ nlS) ++ b := by rw [ByteArray.append_assoc]
   have hcn : (c ++ nlS).size = 2 := by rw [size_two,hcs,nl_size]
   have hCb : CB ((c ++ nlS) ++ b) (c ++ nlS).size := by
    have h1 := bd_one (nlS ++ b) hz hl
    have hsz3 := size_two (c ++ nlS) b
    have hsz4 := size_two c (nlS ++ b)
    have hB : Bd (c ++ (nlS ++ b)) (c.size + 1) := by
     refine ⟨by omega,fun j hj => ?_⟩
     by_cases hj0 : j < c.size
     ·obtain rfl : j = 0 := by omega
      have h := bad_or (c ++ (nlS ++ b)) 0
      rw [byt_append_left c _ 0 (by omega),hcb] at h
      omega
     ·obtain ⟨q,rfl⟩ : ∃ q,j = c.size + q := ⟨j - c.size,by omega⟩
      rw [right_uN]
      have := h1.2 q (by omega)
      omega
    rw [← hassoc,hcn]
    rw [hcs] at hB
    refine ⟨hB,fun y hy he hlt => ?_⟩
    have h5 : y = 1 := by
     have hp := uN_pos (c ++ (nlS ++ b)) y
     by_cases h0 : y = 0
     ·subst h0
      have h := bad_or (c ++ (nlS ++ b)) 0
      rw [byt_append_left c _ 0 (by omega),hcb] at h
      omega
     ·omega
    subst h5
    have e := right_uC c (nlS ++ b) 0
    rw [hcs,(nl_at b).1] at e
    rw [e];exact glue_of_nl _
   have hmb := clus_mem' b b.size 0 (cb_zero b)
   have e : clusL (c ++ nlS) = [clAt (c ++ nlS) 0] := by
    rw [clusL_ctl,ctl_go (c ++ nlS) 0 (by omega),ctl_end]
    have hu := hcu nlS
    have hN : uN (c ++ nlS) 0 = 1 := by
     have h := bad_or (c ++ nlS) 0
     rw [byt_append_left c _ 0 (by omega),hcb] at h
     omega
    have h10 : uC (c ++ nlS) (0 + uN (c ++ nlS) 0) = 10 := by
     rw [hN]
     have e := right_uC c nlS 0
     rw [hcs,nl_unit.1] at e
     exact e
    rw [nxt_glue (c ++ nlS) 0 (by omega) (by rw [hu,h10];exact (glue_nl 13).2 rfl)]
    have := nxt_pos (c ++ nlS) (0 + uN (c ++ nlS) 0) (by omega)
    omega
   rw [hassoc,spans_runs,spans_runs,clus_two (c ++ nlS) b hCb,e,List.cons_append,List.nil_append,spR,if_neg]
   ·have := sp_shift (c ++ nlS) b (clusL b) (fun c hc => by obtain ⟨i,_,_,rfl⟩ := hmb c hc;exact Int.natCast_nonneg i) none
    rw [show (2 : Int) = (((c ++ nlS).size : Nat) : Int) by rw [hcn];rfl]
    exact this
   ·unfold wC
    show ¬ wAt ((c ++ nlS) ++ b) ((0 : Nat) : Int).toNat = true
    rw [Int.toNat_natCast,← hassoc,hcw];simp
  have hc0 : spansL c = [] := by
   have := spans_two c ⟨#[]⟩
   rw [spans_runs,clusL_ctl,ctl_go c 0 (by omega),ctl_end,spR,wC_at,if_neg]
   ·rfl
   ·have h := hcw ⟨#[]⟩
    rw [show c ++ (⟨#[]⟩ : ByteArray) = c by rw [hc];rfl] at h
    rw [h];simp
   ·have := nxt_pos c 0 (by omega);omega
  have ha : spansL a = spansL p := by
   have := hcut ⟨#[]⟩
   rw [show c ++ (⟨#[]⟩ : ByteArray) = c by rw [hc];rfl,hc0,List.map_nil,List.append_nil] at this
   rw [hac];exact this
  rw [ha,show a ++ (nlS ++ b) = p ++ (c ++ (nlS ++ b)) by rw [hac,ByteArray.append_assoc],hcut (nlS ++ b),hlast,List.map_map]
  congr 1
  apply List.map_congr_left
  intro q _
  show (⟨(p.size : Int) + (2 + q.f0),(p.size : Int) + (2 + q.f1)⟩ : S32) = ⟨(a.size : Int) + 1 + q.f0,(a.size : Int) + 1 + q.f1⟩
  have : (p.size : Int) + 1 = a.size := by omega
  congr 1 <;> omega
theorem each_right (a b : ByteArray) (F : Int → Int → Int) : ∀ k y : Nat,eachL (a ++ b) F k (a.size + y) = eachL b (fun x c => F ((a.size : Int) + x) c) k y
 | 0,_ => rfl
 | k + 1,y => by
  have hs := size_two a b
  rw [eachL,eachL]
  by_cases h : y < b.size
  ·have e : eachU (a ++ b) F (a.size + y) = eachU b (fun x c => F ((a.size : Int) + x) c) y := by
    unfold eachU
    rw [right_uC,right_uN,Nat.add_assoc,right_extract,Int.natCast_add]
   rw [if_pos (by omega),if_pos h,e,right_uN,Nat.add_assoc,each_right a b F k]
  ·rw [if_neg (by omega),if_neg h]
theorem each_fuel (s : ByteArray) (F : Int → Int → Int) : ∀ k k' i : Nat,s.size ≤ i + k → s.size ≤ i + k' → eachL s F k i = eachL s F k' i
 | 0,k',i,h,_ => by rw [eachL_end s F 0 i (by omega),eachL_end s F k' i (by omega)]
 | k + 1,0,i,_,h => by rw [eachL_end s F _ i (by omega),eachL_end s F 0 i (by omega)]
 | k + 1,k' + 1,i,h,h' => by
  have hp := uN_pos s i
  rw [eachL,eachL,each_fuel s F k k' _ (by omega) (by omega)]
theorem each_left (a b : ByteArray) (F : Int → Int → Int) (hB : Bd (a ++ b) a.size) : ∀ k i : Nat,i ≤ a.size → a.size ≤ i + k → Bd (a ++ b) i → ∀ K,(a ++ b).size ≤ i + K → eachL (a ++ b) F K i = eachL a F k i ++ eachL (a ++ b) F (a ++ b).size a.size
 | 0,i,h1,h2,hb,K,hK => by
  obtain rfl : i = a.size := by omega
  rw [eachL,List.nil_append];exact each_fuel _ _ _ _ _ hK (by omega)
 | k + 1,i,h1,h2,hb,K,hK => by
  have hs := size_two a b
  by_cases hi : i < a.size
  ·have hle := hB.2 i hi
   have hlu := left_unit a b i hi hle
   have hp := uN_pos (a ++ b) i
   obtain ⟨K,rfl⟩ : ∃ m,K = m + 1 := ⟨K - 1,by omega⟩
   have e : eachU (a ++ b) F i = eachU a F i := by
    unfold eachU
    rw [← hlu.1,← hlu.2,left_extract a b i _ (by rw [hlu.2];exact hle)]
   rw [eachL,eachL,if_pos (by omega),if_pos hi,e,hlu.2,List.append_assoc,each_left a b F hB k _ hle (by omega) (bd_next _ i hb (by omega)) K (by omega)]
  ·obtain rfl : i = a.size := by omega
   rw [eachL_end a F _ a.size (by omega),List.nil_append];exact each_fuel _ _ _ _ _ hK (by omega)
theorem each_two (a b : ByteArray) (F : Int → Int → Int) (hB : Bd (a ++ b) a.size) : eachT (a ++ b) F = eachT a F ++ eachT b (fun x c => F ((a.size : Int) + x) c) := by
 have hs := size_two a b
 unfold eachT
 rw [each_left a b F hB a.size 0 (Nat.zero_le _) (by omega) (bd_zero _) _ (by omega)]
 congr 1
 have := each_right a b F (a ++ b).size 0
 rw [Nat.add_zero] at this
 rw [this]
 exact each_fuel _ _ _ _ _ (by omega) (by omega)
theorem str_app (l m : List Int) : strOfNums (l ++ m) = strOfNums l ++ strOfNums m := by
 apply ByteArray.ext
 apply Array.toList_inj.1
 rw [data_app,strOfNums_data,strOfNums_data,strOfNums_data,List.map_append]
/-- The forms of two texts with a line's end between. -/
theorem chg_join (a b : ByteArray) (F Fa Fb : Int → Int → Int) (ha : ∀ i : Nat,i < a.size → ∀ c,F i c = Fa i c) (hb : ∀ i : Nat,∀ c,F ((a.size : Int) + 1 + i) c = Fb i c) (hn : F (a.size : Int) 10 = 10) : chg (a ++ (nlS ++ b)) F = chg a Fa ++ (nlS ++ chg b Fb) := by
 have hs := size_two a (nlS ++ b)
 have hs2 := size_two nlS b
 have hz : 0 < (nlS ++ b).size := by rw [hs2,nl_size];omega
 have hl : byt (nlS ++ b) 0 < 128 := by rw [nl_byt];omega
 have e1 := each_two a (nlS ++ b) F (two_bd a (nlS ++ b) hz hl)
 have e2 := each_two nlS b (fun x c => F ((a.size : Int) + x) c) (nl_cb b).1
 have e3 : eachT a F = eachT a Fa := by
  have : ∀ k i,eachL a F k i = eachL a Fa k i := by
   intro k
   induction k with
   | zero => intro i;rfl
   | succ k ih =>
    intro i
    rw [eachL,eachL]
    by_cases hi : i < a.size
    ·rw [if_pos hi,if_pos hi,ih,eachU_congr i (fun _ => ha i hi _)]
    ·rw [if_neg hi,if_neg hi]
  exact this _ _
 have e4 : eachT b (fun x c => F ((a.size : Int) + (((nlS.size : Nat) : Int) + x)) c) = eachT b Fb := by
  refine eachL_congr _ _ (fun x _ => ?_)
  have := hb x (uC b x)
  rw [← this,nl_size]
  congr 1
  omega
 have e5 : eachT nlS (fun x c => F ((a.size : Int) + x) c) = [10] := by
  show eachL nlS _ 1 0 = [10]
  rw [eachL,if_pos (by decide)]
  unfold eachU
  rw [nl_unit.1,if_neg (by omega)]
  show encO (F ((a.size : Int) + ((0 : Nat) : Int)) 10) ++ _ = _
  rw [show F ((a.size : Int) + ((0 : Nat) : Int)) 10 = 10 from by rw [show (a.size : Int) + ((0 : Nat) : Int) = a.size by omega];exact hn]
  rfl
 unfold chg
 rw [e1,e2,e3,e4,e5,str_app,str_app]
 rfl
end Go.Proofs.YtkficbgnjpekaaaDoor.Pu
end
section
namespace Go.Proofs.YtkficbgnjpekaaaDoor.Pure
open Go Go.RowKit Go.Proofs.YtkficbgnjpekaaaDoor.Mu Go.Proofs.YtkficbgnjpekaaaDoor.Pu Go.Proofs.YtkficbgnjpekaaaDoor.U Go.Proofs.YtkficbgnjpekaaaDoorW.PrintWords Go.Proofs.YtkficbgnjpekaaaDoorW.PrintLast Go.Proofs.YtkficbgnjpekaaaDoorW.PrintMore
set_option linter.unusedVariables false
theorem up_nl : upC 10 = 10 := by kernel_rfl
theorem low_nl : lowC 10 = 10 := by kernel_rfl
theorem cap_left (a b : ByteArray) (i : Nat) (hi : i < a.size) (c : Int) : capF (a ++ (nlS ++ b)) i c = capF a i c := by
 unfold capF
 rw [spans_join,List.any_append]
 have : ((spansL b).map (shiftS ((a.size : Int) + 1))).any (fun sp => decide (sp.f0 = (i : Int))) = false := by
  rw [List.any_eq_false]
  intro p hp
  obtain ⟨q,hq,rfl⟩ := List.mem_map.1 hp
  have := ((spans_ord b).one q hq).1
  show ¬ decide ((a.size : Int) + 1 + q.f0 = (i : Int)) = true
  rw [decide_eq_true_iff];omega
 rw [this,Bool.or_false]
theorem cap_right (a b : ByteArray) (i : Nat) (c : Int) : capF (a ++ (nlS ++ b)) ((a.size : Int) + 1 + i) c = capF b i c := by
 unfold capF
 rw [spans_join,List.any_append]
 have h1 : (spansL a).any (fun sp => decide (sp.f0 = (a.size : Int) + 1 + i)) = false := by
  rw [List.any_eq_false]
  intro p hp
  have h2 := (spans_ord a).one p hp
  have := cbI_le h2.2.2.2
  rw [decide_eq_true_iff];omega
 have h2 : ((spansL b).map (shiftS ((a.size : Int) + 1))).any (fun sp => decide (sp.f0 = (a.size : Int) + 1 + i)) = (spansL b).any (fun sp => decide (sp.f0 = (i : Int))) := by
  rw [List.any_map]
  congr 1
  funext q
  show decide ((a.size : Int) + 1 + q.f0 = (a.size : Int) + 1 + i) = decide (q.f0 = (i : Int))
  rw [decide_eq_decide];omega
 rw [h1,h2,Bool.false_or]
theorem cap_nl (s : ByteArray) (x : Int) : capF s x 10 = 10 := by unfold capF;rw [up_nl,low_nl];split <;> rfl
theorem join_list (x y : ByteArray) : (x ++ (nlS ++ y)).toList = ((x ++ (⟨#[10]⟩ : ByteArray)) ++ y).toList := by rw [ByteArray.append_assoc];rfl
theorem joins_end (a b : ByteArray) (ha : a.size ≤ 1048576) (hb : b.size ≤ 1048576) (i : Int) (hi : ¬ i < ((spansL b).length : Int)) : Ev (fun k => bodkinlaw05_WordJoins.l0 k a b (a ++ (nlS ++ b)) (spansL (a ++ (nlS ++ b))) (spansL a) (spansL b) i) true := by
 have hs := size_two a (nlS ++ b)
 have hs2 := size_two nlS b
 rw [nl_size] at hs2
 have hla := spans_len a
 have hj := spans_join a b
 have z1 := chg_size (s := a) good_up
 have z2 := chg_size (s := b) good_up
 have z3 := chg_size (s := a) good_low
 have z4 := chg_size (s := b) good_low
 have z5 := chg_size (s := a) (good_cap a)
 have z6 := chg_size (s := b) (good_cap b)
 have c1 := chg_join a b upF upF upF (fun _ _ _ => rfl) (fun _ _ => rfl) up_nl
 have c2 := chg_join a b lowF lowF lowF (fun _ _ _ => rfl) (fun _ _ => rfl) low_nl
 have c3 := chg_join a b (capF (a ++ (nlS ++ b))) (capF a) (capF b) (fun i hi c => cap_left a b i hi c) (fun i c => cap_right a b i c) (cap_nl _ _)
 have up : ∀ s : ByteArray,s.size ≤ 1099511627775 → word_Upper.f s = some (chg s upF) := fun s h => by unfold word_Upper.f;rw [if_pos (by omega)];rfl
 have low : ∀ s : ByteArray,s.size ≤ 1099511627775 → word_Lower.f s = some (chg s lowF) := fun s h => by unfold word_Lower.f;rw [if_pos (by omega)];rfl
 have cap : ∀ s : ByteArray,s.size ≤ 1099511627775 → word_Capital.f s = some (chg s (capF s)) := fun s h => by unfold word_Capital.f;rw [if_pos h];rfl
 have hn : ∀ x : ByteArray,(x ++ (⟨#[10]⟩ : ByteArray)).size = x.size + 1 := fun x => size_two x _
 have ht : (spansL (a ++ (nlS ++ b))).take (((spansL a).length : Int)).toNat = spansL a := by rw [hj,Int.toNat_natCast,List.take_left' rfl]
 have hle : (spansL a).length ≤ (spansL (a ++ (nlS ++ b))).length := by rw [hj,List.length_append];omega
 refine Ev.step (fun k => bodkinlaw05_WordJoins.l0.eq_2 ..) (ev_neg hi (ev_pos (by omega) (ev_pos (by omega) ?_)))
 rw [ht]
 refine Ev.bind (same_ans _ (by omega)) (ev_pos rfl (ev_some (up _ (by omega)) (ev_some (up a (by omega)) (ev_pos (by omega) (ev_some (up b (by omega)) (ev_pos (by rw [hn];omega) (ev_pos ?_ ?_)))))))
 ·rw [c1];exact join_list _ _
 refine ev_some (low _ (by omega)) (ev_some (low a (by omega)) (ev_pos (by omega) (ev_some (low b (by omega)) (ev_pos (by rw [hn];omega) (ev_pos ?_ ?_)))))
 ·rw [c2];exact join_list _ _
 refine ev_some (cap _ (by omega)) (ev_some (cap a (by omega)) (ev_pos (by omega) (ev_some (cap b (by omega)) (ev_pos (by rw [hn];omega) (ev_now ?_)))))
 rw [c3,beq_iff_eq];exact join_list _ _
theorem rd_spans3 (L : List S32) (i : Nat) (h : i < L.length) : rd_T32 L i = L[i] := by
 unfold rd_T32;rw [Int.toNat_natCast,List.getD_eq_getElem?_getD,List.getElem?_eq_getElem h];rfl
theorem joins_loop (a b : ByteArray) (ha : a.size ≤ 1048576) (hb : b.size ≤ 1048576) : ∀ n i : Nat,i + n = (spansL b).length → Ev (fun k => bodkinlaw05_WordJoins.l0 k a b (a ++ (nlS ++ b)) (spansL (a ++ (nlS ++ b))) (spansL a) (spansL b) i) true := by
 have hla := spans_len a
 have hlb := spans_len b
 have hj := spans_join a b
 intro n
 induction n with
 | zero => intro i hi;exact joins_end a b ha hb _ (by omega)
 | succ n ih =>
  intro i hi
  have hil : i < (spansL b).length := by omega
  have hl2 : (spansL (a ++ (nlS ++ b))).length = (spansL a).length + (spansL b).length := by rw [hj,List.length_append,List.length_map]
  have hw : wrap64 (((spansL a).length : Int) + (i : Int)) = (((spansL a).length + i : Nat) : Int) := by rw [w64 (by omega) (by omega)];omega
  have hr : rd_T32 (spansL (a ++ (nlS ++ b))) (((spansL a).length + i : Nat) : Int) = shiftS ((a.size : Int) + 1) (spansL b)[i] := by
   rw [rd_spans3 _ _ (by omega)]
   simp only [hj]
   rw [List.getElem_append_right (by omega)]
   simp
  have h1 := (spans_ord b).one _ (List.getElem_mem hil)
  have h2 := cbI_le h1.2.2.1
  have h3 := cbI_le h1.2.2.2
  refine Ev.step (fun k => bodkinlaw05_WordJoins.l0.eq_2 ..) (ev_pos (by omega) ?_)
  rw [hw]
  refine ev_pos (by omega) (ev_pos (by omega) (ev_pos (by omega) (ev_neg ?_ ?_)))
  ·rw [hr,rd_spans3 _ _ hil]
   rw [w64 (x := (spansL b)[i].f0 + (a.size : Int)) (by omega) (by omega),w64 (x := (spansL b)[i].f1 + (a.size : Int)) (by omega) (by omega),w64 (x := (spansL b)[i].f0 + (a.size : Int) + 1) (by omega) (by omega),w64 (x := (spansL b)[i].f1 + (a.size : Int) + 1) (by omega) (by omega)]
   rw [show (shiftS ((a.size : Int) + 1) (spansL b)[i]).f0 = (spansL b)[i].f0 + (a.size : Int) + 1 by show (a.size : Int) + 1 + (spansL b)[i].f0 = _;omega,show (shiftS ((a.size : Int) + 1) (spansL b)[i]).f1 = (spansL b)[i].f1 + (a.size : Int) + 1 by show (a.size : Int) + 1 + (spansL b)[i].f1 = _;omega]
   simp
  ·rw [w64 (by omega) (by omega)]
   exact ih (i + 1) (by omega)
theorem WordJoins (a0 : ByteArray) (a1 : ByteArray) (u0 : a0.size ≤ 1048576) (u1 : a1.size ≤ 1048576) : ∃ k,bodkinlaw05_WordJoins.f k a0 a1 = some true := by
 have hS : (a0 ++ (⟨#[10]⟩ : ByteArray)) ++ a1 = a0 ++ (nlS ++ a1) := ByteArray.append_assoc
 have hs := size_two a0 (nlS ++ a1)
 have hs2 := size_two nlS a1
 rw [nl_size] at hs2
 have hn : (a0 ++ (⟨#[10]⟩ : ByteArray)).size = a0.size + 1 := size_two a0 _
 have hla := spans_len a0
 have hlb := spans_len a1
 apply Ev.rounds
 unfold bodkinlaw05_WordJoins.f
 refine Ev.bind awake_ans (ev_pos rfl (ev_pos (by omega) (ev_pos (by rw [hn];omega) ?_)))
 rw [hS]
 refine ev_some (spans_ev _ (by omega)) (ev_some (spans_ev a0 (by omega)) (ev_some (spans_ev a1 (by omega)) (ev_pos ?_ (joins_loop a0 a1 u0 u1 _ 0 (Nat.zero_add _)))))
 rw [spans_join,List.length_append,List.length_map,w64 (by omega) (by omega)];omega
end Go.Proofs.YtkficbgnjpekaaaDoor.Pure
end
section
namespace Go.Proofs.YtkficbgnjpekaaaDoor.Lf
open Go.Lib Go.Proofs
theorem own : ownKnob Tryd.prog.godebug = none := by kernel_rfl
theorem extra : U8Extra Tryd.prog Tryd.lays260_ren := {
 n3 := by kernel_rfl
 n4 := by kernel_rfl
 y3 := by kernel_rfl
 y4 := by kernel_rfl
 c5 := by kernel_rfl
 c119 := by kernel_rfl
 c138 := by kernel_rfl }
theorem first_eq : Rows.laid_unicode_utf8_first = Lib.firstData := by kernel_rfl
theorem accept_eq : (Rows.laid_unicode_utf8_acceptRanges : DataW Unit) = Lib.acceptData := by kernel_rfl
abbrev laid : List (String × DataW Unit) := [("unicode/utf8.acceptRanges", Rows.laid_unicode_utf8_acceptRanges), ("unicode/utf8.first", Rows.laid_unicode_utf8_first)]
/-- The two tables lie as the contracts ask. -/
theorem tabs {W : World} (h : laidMetH Tryd.prog laid W) : Lib.Utf8Tabs 0 1 W := by
  rw [MakeChecks.laidMetH_plain _ _ _ (by kernel_rfl)] at h
  have h3 := laidMet.reads h (n := "unicode/utf8.first") (d := Rows.laid_unicode_utf8_first) (List.mem_cons_of_mem _ List.mem_cons_self)
  have h4 := laidMet.reads h (n := "unicode/utf8.acceptRanges") (d := Rows.laid_unicode_utf8_acceptRanges) List.mem_cons_self
  rw [first_eq] at h3
  rw [accept_eq] at h4
  exact utf8Tabs_of_reads Tryd.lays260 extra h3 h4
/-- The world of the witness: the settled one,the tables laid. -/
noncomputable abbrev wit (os : Os) : World := World.laidAll Tryd.prog os laid
theorem wit_laid (os : Os) (args : Array Value) : laidMetH Tryd.prog laid ((wit os).forCall (fun _ _ => 0) ⟨#[],args,[]⟩).memory := by
 rw [MakeChecks.laidMetH_plain _ _ _ (by kernel_rfl)]
 exact laidMet_laidAll _ (by kernel_rfl) (by kernel_rfl)
theorem wit_shaped (os : Os) (args : Array Value) : ((wit os).forCall (fun _ _ => 0) ⟨#[],args,[]⟩).Shaped Tryd.prog :=
 World.shaped_of_ZipB (by kernel_rfl) (by kernel_rfl)
end Go.Proofs.YtkficbgnjpekaaaDoor.Lf
end
