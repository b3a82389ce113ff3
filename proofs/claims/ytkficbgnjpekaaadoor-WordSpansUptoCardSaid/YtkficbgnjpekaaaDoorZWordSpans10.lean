/- What the law WordSpans reaches of this seat's own texts, merged; what nothing uses is left out. -/
import Derived.Test.YtkficbgnjpekaaaDoorZWordSpans0
import Derived.Test.YtkficbgnjpekaaaDoorZWordSpans2
import Derived.Test.YtkficbgnjpekaaaDoorZWordSpans5
import Derived.Test.YtkficbgnjpekaaaDoorZWordSpans9
section
namespace Go.Proofs.YtkficbgnjpekaaaDoor.Pu
open Go Go.RowKit Go.Proofs.YtkficbgnjpekaaaDoor.Mu Go.Proofs.YtkficbgnjpekaaaDoor.U Go.Proofs.YtkficbgnjpekaaaDoorW.PrintWords Go.Proofs.YtkficbgnjpekaaaDoorW.PrintLast Go.Proofs.YtkficbgnjpekaaaDoorW.PrintMore
set_option linter.unusedVariables false
set_option linter.unusedSimpArgs false
/-- Does a cluster stand in a word? -/
def wC (s : ByteArray) (c : S61) : Bool := wAt s c.f0.toNat
def spR (s : ByteArray) : Option (Int × Int) → List S61 → List S32
 | none,[] => []
 | some (a,b),[] => [⟨a,b⟩]
 | none,c :: cs => if wC s c = true then spR s (some (c.f0,c.f1)) cs else spR s none cs
 | some (a,b),c :: cs => if wC s c = true then spR s (some (a,c.f1)) cs else ⟨a,b⟩ :: spR s none cs
theorem sp_fold (s : ByteArray) : ∀ (cs : List S61) (L : List S32),(cs.foldl (spStep s) (false,L)).2 = L ++ spR s none cs ∧ ∀ a b,(cs.foldl (spStep s) (true,L ++ [⟨a,b⟩])).2 = L ++ spR s (some (a,b)) cs
 | [],L => ⟨by simp [spR],fun a b => by simp [spR]⟩
 | c :: cs,L => by
  refine ⟨?_,fun a b => ?_⟩
  ·rw [List.foldl_cons,spR]
   cases hw : wC s c with
   | true => rw [spStep_new s L c hw,(sp_fold s cs L).2,if_pos rfl]
   | false => rw [spStep_off s false L c hw,(sp_fold s cs L).1,if_neg (by simp)]
  ·rw [List.foldl_cons,spR]
   cases hw : wC s c with
   | true => rw [spStep_on s L a b c hw,(sp_fold s cs L).2,if_pos rfl]
   | false => rw [spStep_off s true (L ++ [(⟨a,b⟩ : S32)]) c hw,(sp_fold s cs (L ++ [(⟨a,b⟩ : S32)])).1,if_neg (by simp),List.append_assoc];rfl
theorem spans_runs (s : ByteArray) : spansL s = spR s none (clusL s) := by
 have := (sp_fold s (clusL s) []).1
 rw [List.nil_append] at this
 exact this
/-- Where the run that has come to b ends. -/
def endR (s : ByteArray) : Int → List S61 → Int
 | b,[] => b
 | b,c :: cs => if wC s c = true then endR s c.f1 cs else b
def refR (s : ByteArray) : Bool → List S61 → List S32
 | _,[] => []
 | p,c :: cs => if wC s c = true ∧ p = false then ⟨c.f0,endR s c.f1 cs⟩ :: refR s (wC s c) cs else refR s (wC s c) cs
theorem runs_ref (s : ByteArray) : ∀ cs : List S61,spR s none cs = refR s false cs ∧ ∀ a b,spR s (some (a,b)) cs = ⟨a,endR s b cs⟩ :: refR s true cs
 | [] => ⟨rfl,fun _ _ => rfl⟩
 | c :: cs => by
  obtain ⟨h1,h2⟩ := runs_ref s cs
  refine ⟨?_,fun a b => ?_⟩
  ·rw [spR,refR]
   cases hw : wC s c with
   | true => rw [if_pos rfl,if_pos ⟨rfl,rfl⟩,h2]
   | false => rw [if_neg (by simp),if_neg (by simp),h1]
  ·rw [spR,refR,endR]
   cases hw : wC s c with
   | true => rw [if_pos rfl,if_pos rfl,if_neg (by simp),h2]
   | false => rw [if_neg (by simp),if_neg (by simp),if_neg (by simp),h1]
theorem mid_unit0 (s : ByteArray) (i t : Nat) (ht : Bd s t) (h2 : i < t) : uC (s.extract i t) 0 = uC s i ∧ uN (s.extract i t) 0 = uN s i := by
 have hts := ht.1
 have hsz := size_extract s i t ht.1
 have hle := uN_le (s.extract i t) 0 (by omega)
 have hle2 := ht.2 i h2
 refine unit_eq s (s.extract i t) i 0 (fun k hk => ?_) (by omega) (fun k hk => ?_) (by omega)
 ·rw [byt_extract _ _ _ _ (by omega) ht.1,Nat.zero_add]
 ·rw [byt_extract _ _ _ _ (by omega) ht.1,Nat.zero_add]
theorem atA_zero (s : ByteArray) (h : 0 < s.size) : atA s 0 = (uC s 0,(uN s 0 : Int),true) := by
 unfold atA
 rw [if_pos ⟨(bdB_iff s 0).2 ((bdI_nat s 0).2 (bd_zero s)),by omega⟩];rfl
theorem ref_wordly_ans (s : ByteArray) (hs : s.size ≤ 1099511627776) (c : S61) (hc : c ∈ clusL s) : Ev (fun k => bodkinref05_wordly.f k s c.f0 c.f1 c.f2 c.f3) (wC s c) := by
 obtain ⟨i,hci,hi,rfl⟩ := clus_mem' s s.size 0 (cb_zero s) c hc
 have h1 := nxt_pos s i hi
 have hn := nxt_cb s i hci.1 hi
 have hle := nxt_le s i hci.1 hi
 have hsz := size_extract s i (nxt s i) hle
 have e0 : (clAt s i).f0 = (i : Int) := rfl
 have e1 : (clAt s i).f1 = (nxt s i : Int) := rfl
 unfold wC wAt bodkinref05_wordly.f
 rw [e0,e1,Int.toNat_natCast,Int.toNat_natCast]
 refine ev_pos (by omega) (ev_pos (by omega) (ev_pos (by omega) ?_))
 have hA := ref_at_ans (s.extract i (nxt s i)) (by omega) 0
 rw [atA_zero _ (by omega),(mid_unit0 s i (nxt s i) hn.1 (by omega)).1] at hA
 exact Ev.bind hA (ev_pos rfl (Ev.bind (ref_isword_ans (uC s i)) (Ev.now _)))
theorem rd_clus (L : List S61) (i : Nat) (c : S61) (cs : List S61) (h : L.drop i = c :: cs) : i < L.length ∧ rd_T61 L i = c ∧ L.drop (i + 1) = cs ∧ c ∈ L := by
 obtain ⟨hi,hg,hd⟩ := drop_cons' (d := z61) h
 have hr : rd_T61 L i = c := by unfold rd_T61;rw [Int.toNat_natCast];exact hg
 refine ⟨hi,hr,hd,?_⟩
 rw [← hg,List.getD_eq_getElem?_getD,List.getElem?_eq_getElem hi]
 exact List.getElem_mem hi
section
variable (s : ByteArray) (hs : s.size ≤ 1099511627776)
theorem rspans_inner (hs : s.size ≤ 1099511627776) (r : List S32) (acc : List S32) (hacc : acc.length ≤ 1099511627776) (i : Nat) (ci : S61) (hi : i < (clusL s).length) (hci : rd_T61 (clusL s) i = ci) :
  ∀ (cs : List S61) (j : Nat) (cj : S61),(clusL s).drop j = cj :: cs → Ev (fun k => bodkinref05_Spans.l0 k s (clusL s) (acc ++ [⟨ci.f0,endR s cj.f1 cs⟩]) ((i + 1 : Nat) : Int)) r → Ev (fun k => bodkinref05_Spans.l1 k s (clusL s) acc i j) r := by
 have hlen := clusL_length s
 intro cs
 induction cs with
 | nil =>
  intro j cj hj hr
  obtain ⟨hjl,hrj,hd,_⟩ := rd_clus _ j cj [] hj
  have hle := List.drop_eq_nil_iff.1 hd
  refine Ev.step (fun k => bodkinref05_Spans.l1.eq_2 ..) ?_
  rw [w64 (by omega) (by omega)]
  refine ev_neg (by omega) (ev_pos (by omega) (ev_pos (by omega) (ev_pos (by omega) (ev_pos (by omega) (ev_pos (by omega) ?_)))))
  rw [hrj,hci,w64 (by omega) (by omega)]
  exact hr
 | cons c cs ih =>
  intro j cj hj hr
  obtain ⟨hjl,hrj,hd,_⟩ := rd_clus _ j cj (c :: cs) hj
  obtain ⟨hjl2,hrj2,hd2,hm2⟩ := rd_clus _ (j + 1) c cs hd
  refine Ev.step (fun k => bodkinref05_Spans.l1.eq_2 ..) ?_
  rw [w64 (by omega) (by omega)]
  refine ev_pos (by omega) (ev_pos (by omega) ?_)
  have e : ((j : Int) + 1) = ((j + 1 : Nat) : Int) := by omega
  rw [e,hrj2]
  refine Ev.bind (ref_wordly_ans s hs c hm2) ?_
  rw [endR] at hr
  by_cases hw : wC s c = true
  ·rw [if_pos hw] at hr
   exact ev_pos hw (ih (j + 1) c hd hr)
  ·rw [if_neg hw] at hr
   refine ev_neg hw (ev_pos (by omega) (ev_pos (by omega) (ev_pos (by omega) (ev_pos (by omega) (ev_pos (by omega) ?_)))))
   rw [hrj,hci,w64 (by omega) (by omega)]
   exact hr
theorem rspans_loop (hs : s.size ≤ 1099511627776) : ∀ (cs : List S61) (i : Nat) (p : Bool) (acc : List S32),(clusL s).drop i = cs → acc.length ≤ i → (i = 0 → p = false) → (∀ q,i = q + 1 → wC s (rd_T61 (clusL s) q) = p) →
  Ev (fun k => bodkinref05_Spans.l0 k s (clusL s) acc i) (acc ++ refR s p cs) := by
 have hlen := clusL_length s
 intro cs
 induction cs with
 | nil =>
  intro i p acc hd _ _ _
  have := List.drop_eq_nil_iff.1 hd
  exact Ev.step (fun k => bodkinref05_Spans.l0.eq_2 ..) (ev_neg (by omega) (ev_now (by rw [refR,List.append_nil])))
 | cons c cs ih =>
  intro i p acc hd hacc h0 hp
  obtain ⟨hil,hri,hd2,hm⟩ := rd_clus _ i c cs hd
  have e1 : ((i : Int) + 1) = ((i + 1 : Nat) : Int) := by omega
  have hnext : ∀ acc' : List S32,acc'.length ≤ i + 1 → Ev (fun k => bodkinref05_Spans.l0 k s (clusL s) acc' ((i + 1 : Nat) : Int)) (acc' ++ refR s (wC s c) cs) := fun acc' ha =>
   ih (i + 1) (wC s c) acc' hd2 ha (fun h => by omega) (fun q hq => by rw [show q = i by omega,hri])
  refine Ev.step (fun k => bodkinref05_Spans.l0.eq_2 ..) (ev_pos (by omega) (ev_pos (by omega) ?_))
  rw [hri]
  refine Ev.bind (ref_wordly_ans s hs c hm) ?_
  rw [refR]
  have hskip : ¬ (wC s c = true ∧ p = false) → ∀ b : Bool,b = true → Ev (fun k => bodkinref05_Spans.j1 k s (clusL s) acc i b) (acc ++ (if wC s c = true ∧ p = false then ⟨c.f0,endR s c.f1 cs⟩ :: refR s (wC s c) cs else refR s (wC s c) cs)) := fun hn b hb => by
   rw [if_neg hn]
   refine Ev.step (fun k => bodkinref05_Spans.j1.eq_2 ..) (ev_pos hb ?_)
   rw [w64 (by omega) (by omega),e1]
   exact hnext acc (by omega)
  have hrun : (wC s c = true ∧ p = false) → ∀ b : Bool,b = false → Ev (fun k => bodkinref05_Spans.j1 k s (clusL s) acc i b) (acc ++ (if wC s c = true ∧ p = false then ⟨c.f0,endR s c.f1 cs⟩ :: refR s (wC s c) cs else refR s (wC s c) cs)) := fun hy b hb => by
   rw [if_pos hy]
   refine Ev.step (fun k => bodkinref05_Spans.j1.eq_2 ..) (ev_neg (by rw [hb];simp) ?_)
   refine rspans_inner s hs _ acc (by omega) i c hil hri cs i c hd ?_
   have := hnext (acc ++ [⟨c.f0,endR s c.f1 cs⟩]) (by simp;omega)
   rwa [List.append_assoc] at this
  by_cases hw : wC s c = true
  ·refine ev_pos hw ?_
   by_cases hi0 : 0 < i
   ·obtain ⟨q,rfl⟩ : ∃ q,i = q + 1 := ⟨i - 1,by omega⟩
    have hq : q < (clusL s).length := by omega
    have e2 : ((q + 1 : Nat) : Int) - 1 = (q : Int) := by omega
    have hmq : rd_T61 (clusL s) q ∈ clusL s := by
     unfold rd_T61;rw [Int.toNat_natCast,List.getD_eq_getElem?_getD,List.getElem?_eq_getElem hq];exact List.getElem_mem hq
    refine ev_pos (by omega) ?_
    rw [w64 (by omega) (by omega),e2]
    refine ev_pos (by omega) (ev_pos (by omega) (Ev.bind (ref_wordly_ans s hs _ hmq) ?_))
    rw [hp q rfl]
    cases p with
    | true => exact hskip (by simp) true rfl
    | false => exact hrun ⟨hw,rfl⟩ false rfl
   ·have hpf := h0 (by omega)
    exact ev_neg (by omega) (hrun ⟨hw,hpf⟩ false rfl)
  ·exact ev_neg hw (hskip (fun h => hw h.1) true rfl)
theorem ref_spans_ans (hs : s.size ≤ 1099511627776) : Ev (fun k => bodkinref05_Spans.f k s) (spansL s) := by
 have h := rspans_loop s hs (clusL s) 0 false [] rfl (Nat.le_refl _) (fun _ => rfl) (fun q hq => by omega)
 rw [List.nil_append,← (runs_ref s (clusL s)).1,← spans_runs] at h
 exact Ev.bind (ref_list_ans s hs) h
end
theorem spans_ev (s : ByteArray) (hs : s.size ≤ 1099511627776) : word_Spans.f s = some (spansL s) := by unfold word_Spans.f;rw [if_pos hs]
theorem same_loop (L : List S32) (hL : L.length ≤ 1099511627776) : ∀ n i : Nat,i + n = L.length → Ev (fun k => bodkinlaw05_same.l0 k L L i) true := by
 intro n
 induction n with
 | zero => intro i hi;exact Ev.step (fun k => bodkinlaw05_same.l0.eq_2 ..) (ev_neg (by omega) (Ev.now _))
 | succ n ih =>
  intro i hi
  refine Ev.step (fun k => bodkinlaw05_same.l0.eq_2 ..) (ev_pos (by omega) (ev_pos (by omega) (ev_pos (by omega) (ev_neg (by simp) ?_))))
  rw [w64 (by omega) (by omega)]
  exact ih (i + 1) (by omega)
theorem same_ans (L : List S32) (hL : L.length ≤ 1099511627776) : Ev (fun k => bodkinlaw05_same.f k L L) true := ev_pos rfl (same_loop L hL L.length 0 (by omega))
end Go.Proofs.YtkficbgnjpekaaaDoor.Pu
end
section
namespace Go.Proofs.YtkficbgnjpekaaaDoor.Pure
open Go Go.RowKit Go.Proofs.YtkficbgnjpekaaaDoor.Mu Go.Proofs.YtkficbgnjpekaaaDoor.Pu Go.Proofs.YtkficbgnjpekaaaDoor.U Go.Proofs.YtkficbgnjpekaaaDoorW.PrintWords Go.Proofs.YtkficbgnjpekaaaDoorW.PrintLast Go.Proofs.YtkficbgnjpekaaaDoorW.PrintMore
set_option linter.unusedVariables false
theorem wspans_grow (L : List ByteArray) (i : Nat) (hi : i < L.length) (hL : L.length ≤ 1048576) (s : ByteArray) (hs : s.size ≤ 1048576) (hr : rdOf ByteArray.empty L (i : Int) = s) (hgo : Ev (fun k => bodkinlaw05_WordSpans.l0 k L ((i + 1 : Nat) : Int)) true) :
  ∀ (n j : Nat) (x : List S32),j + n = 9 → x.length ≤ 1048576 + j → Ev (fun k => bodkinlaw05_WordSpans.l2 k L i (spansL s) x (spansL s) j) true := by
 have hl := spans_len s
 intro n
 induction n with
 | zero =>
  intro j x hj hx
  refine Ev.step (fun k => bodkinlaw05_WordSpans.l2.eq_2 ..) (ev_neg (by omega) (Ev.bind (same_ans _ (by omega)) (ev_pos rfl (ev_pos (by omega) (ev_pos (by omega) ?_)))))
  rw [hr,w64 (by omega) (by omega)]
  exact ev_some (spans_ev s (by omega)) (Ev.bind (same_ans _ (by omega)) (ev_pos rfl hgo))
 | succ n ih =>
  intro j x hj hx
  refine Ev.step (fun k => bodkinlaw05_WordSpans.l2.eq_2 ..) (ev_pos (by omega) (ev_pos (by omega) ?_))
  rw [w64 (by omega) (by omega)]
  exact ih (j + 1) _ (by omega) (by simp;omega)
theorem wspans_mark (L : List ByteArray) (i : Nat) (hi : i < L.length) (hL : L.length ≤ 1048576) (s : ByteArray) (hs : s.size ≤ 1048576) (hr : rdOf ByteArray.empty L (i : Int) = s) (hgo : Ev (fun k => bodkinlaw05_WordSpans.l0 k L ((i + 1 : Nat) : Int)) true) :
  ∀ (n j : Nat) (x : List S32),j + n = x.length → x.length ≤ 1048576 → Ev (fun k => bodkinlaw05_WordSpans.l1 k L i (spansL s) x (spansL s) j) true := by
 intro n
 induction n with
 | zero => intro j x hj hx;exact Ev.step (fun k => bodkinlaw05_WordSpans.l1.eq_2 ..) (ev_neg (by omega) (wspans_grow L i hi hL s hs hr hgo 9 0 x (by omega) (by omega)))
 | succ n ih =>
  intro j x hj hx
  refine Ev.step (fun k => bodkinlaw05_WordSpans.l1.eq_2 ..) (ev_pos (by omega) (ev_pos (by omega) ?_))
  rw [w64 (by omega) (by omega)]
  exact ih (j + 1) _ (by rw [List.length_set];omega) (by rw [List.length_set];omega)
theorem wspans_loop (L : List ByteArray) (hL : L.length ≤ 1048576) (hs : ∀ s ∈ L,s.size ≤ 1048576) : ∀ n i : Nat,i + n = L.length → Ev (fun k => bodkinlaw05_WordSpans.l0 k L i) true := by
 intro n
 induction n with
 | zero => intro i hi;exact Ev.step (fun k => bodkinlaw05_WordSpans.l0.eq_2 ..) (ev_neg (by omega) (Ev.now _))
 | succ n ih =>
  intro i hi
  have hm : rdOf ByteArray.empty L (i : Int) ∈ L := by
   unfold rdOf
   rw [Int.toNat_natCast,List.getD_eq_getElem?_getD,List.getElem?_eq_getElem (by omega)]
   exact List.getElem_mem _
  obtain ⟨s,hr⟩ : ∃ s,rdOf ByteArray.empty L (i : Int) = s := ⟨_,rfl⟩
  rw [hr] at hm
  have h1 := hs s hm
  have hl := spans_len s
  have hgo := ih (i + 1) (by omega)
  refine Ev.step (fun k => bodkinlaw05_WordSpans.l0.eq_2 ..) (ev_pos (by omega) (ev_pos (by omega) ?_))
  rw [hr]
  exact Ev.bind (ref_spans_ans s (by omega)) (ev_some (spans_ev s (by omega)) (ev_some (spans_ev s (by omega)) (Ev.bind (same_ans _ (by omega)) (ev_pos rfl (wspans_mark L i (by omega) hL s h1 hr hgo _ 0 _ (Nat.zero_add _) (by omega))))))
theorem WordSpans (l0 : List ByteArray) (u0 : l0.length ≤ 1048576) (s0 : ∀ s ∈ l0,s.size ≤ 1048576) : ∃ k,bodkinlaw05_WordSpans.f k l0 = some true := by
 apply Ev.rounds
 unfold bodkinlaw05_WordSpans.f
 exact Ev.bind awake_ans (ev_pos rfl (wspans_loop l0 u0 s0 l0.length 0 (by omega)))
end Go.Proofs.YtkficbgnjpekaaaDoor.Pure
end
section
namespace Go.Proofs.YtkficbgnjpekaaaDoor.Lf
open Go.Lib Go.Proofs
theorem own : ownKnob Tryd.prog.godebug = none := by kernel_rfl
theorem laidOut : laidOutB Tryd.prog = true := by kernel_rfl
theorem extra : U8Extra Tryd.prog Tryd.lays260_ren := {
 n3 := by kernel_rfl
 n4 := by kernel_rfl
 y3 := by kernel_rfl
 y4 := by kernel_rfl
 c5 := by kernel_rfl
 c119 := by kernel_rfl
 c138 := by kernel_rfl }
theorem first_eq : Rows.laid_unicode_utf8_first = Lib.firstData := by kernel_rfl
theorem accept_eq : (Rows.laid_unicode_utf8_acceptRanges : DataW Unit) = Lib.acceptData := by kernel_rfl
abbrev laid : List (String × DataW Unit) := [("unicode/utf8.acceptRanges", Rows.laid_unicode_utf8_acceptRanges), ("unicode/utf8.first", Rows.laid_unicode_utf8_first)]
/-- The two tables lie as the contracts ask. -/
theorem tabs {W : World} (h : laidMetH Tryd.prog laid W) : Lib.Utf8Tabs 0 1 W := by
  rw [MakeChecks.laidMetH_plain _ _ _ (by kernel_rfl)] at h
  have h3 := laidMet.reads h (n := "unicode/utf8.first") (d := Rows.laid_unicode_utf8_first) (List.mem_cons_of_mem _ List.mem_cons_self)
  have h4 := laidMet.reads h (n := "unicode/utf8.acceptRanges") (d := Rows.laid_unicode_utf8_acceptRanges) List.mem_cons_self
  rw [first_eq] at h3
  rw [accept_eq] at h4
  exact utf8Tabs_of_reads Tryd.lays260 extra h3 h4
/-- The world of the witness: the settled one,the tables laid. -/
noncomputable abbrev wit (os : Os) : World := World.laidAll Tryd.prog os laid
theorem wit_laid (os : Os) (args : Array Value) : laidMetH Tryd.prog laid ((wit os).forCall (fun _ _ => 0) ⟨#[],args,[]⟩).memory := by
 rw [MakeChecks.laidMetH_plain _ _ _ (by kernel_rfl)]
 exact laidMet_laidAll _ (by kernel_rfl) (by kernel_rfl)
theorem wit_shaped (os : Os) (args : Array Value) : ((wit os).forCall (fun _ _ => 0) ⟨#[],args,[]⟩).Shaped Tryd.prog :=
 World.shaped_of_ZipB (by kernel_rfl) (by kernel_rfl)
end Go.Proofs.YtkficbgnjpekaaaDoor.Lf
end
section
namespace Go.Proofs.YtkficbgnjpekaaaDoor.Lf
open Go Go.RowKit Go.ChangeShapes Go.Proofs.YtkficbgnjpekaaaDoorW.PrintWords Go.Proofs.YtkficbgnjpekaaaDoorW.PrintLast Go.Proofs.YtkficbgnjpekaaaDoorW.PrintMore
def IsStrs (w : World) (a : Option Addr) (len cap : Nat) (ss : List ByteArray) : Prop :=
 (a = none ∧ len = 0 ∧ cap = 0 ∧ ss = []) ∨ ∃ x,a = some x ∧ len ≤ cap ∧ cap ≤ maxLen ∧ ss.length = cap ∧ ∀ i,i < ss.length → w.cell? (x.add i) = some (.string (ss.getD i ByteArray.empty))
theorem strs_read {w : World} {a : Option Addr} {len cap : Nat} {ss : List ByteArray} (h : IsStrs w a len cap ss) : ∃ l : List ByteArray,len = l.length ∧ l = ss.take len ∧ Kd.C Kd.string w a l.length l ∧ l.length ≤ cap := by
 rcases h with ⟨rfl,rfl,rfl,rfl⟩ | ⟨x,rfl,hl,hm,hs,hc⟩
 ·refine ⟨[],rfl,rfl,Kd.C_of_reads (enc := Value.string) (d := ByteArray.empty) ⟨rfl,by simp,fun h => absurd h (by simp)⟩,Nat.le_refl _⟩
 ·have e : (ss.take len).length = len := by rw [List.length_take];omega
  refine ⟨ss.take len,e.symm,rfl,Kd.C_of_reads (enc := Value.string) (d := ByteArray.empty) ⟨rfl,by unfold maxLen at hm;omega,fun _ => ⟨x,rfl,fun j hj => ?_⟩⟩,by omega⟩
  rw [hc j (by omega)]
  simp [List.getD_eq_getElem?_getD,show j < len by omega]
end Go.Proofs.YtkficbgnjpekaaaDoor.Lf
end
