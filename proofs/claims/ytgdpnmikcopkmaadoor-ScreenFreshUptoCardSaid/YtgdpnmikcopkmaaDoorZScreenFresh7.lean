/- What the law ScreenFresh reaches of this seat's own texts, merged; what nothing uses is left out. -/
import Derived.Test.YtgdpnmikcopkmaaDoorZScreenFresh0
import Derived.Test.YtgdpnmikcopkmaaDoorZScreenFresh1
import Derived.Test.YtgdpnmikcopkmaaDoorZScreenFresh2
import Derived.Test.YtgdpnmikcopkmaaDoorZScreenFresh3
import Derived.Test.YtgdpnmikcopkmaaDoorZScreenFresh4
import Derived.Test.YtgdpnmikcopkmaaDoorZScreenFresh5
import Derived.Test.YtgdpnmikcopkmaaDoorZScreenFresh6
section
namespace Go.Proofs.YtgdpnmikcopkmaaDoor.U
open Go.RowKit Go.Proofs.YtgdpnmikcopkmaaDoor.Mu Go.Proofs.YtgdpnmikcopkmaaDoor.Pu Go.Proofs.YtgdpnmikcopkmaaDoorW.PrintWords Go.Proofs.YtgdpnmikcopkmaaDoorW.PrintLast Go.Proofs.YtgdpnmikcopkmaaDoorW.PrintMore
set_option linter.unusedVariables false
set_option linter.unusedSimpArgs false
/-- A screen (its blocks below L) and two frames,each in a box (between L and N). -/
structure Fy (base pa L N : Nat) (O : Nat → Prop) (W w : World) (S : Sc × ByteArray) (FL : List (List Cl)) (bB bK q2 q3 : Nat) (vb vk : Value) : Prop where
 scr : Scr base pa O w S
 bs : N ≤ w.heap.size
 below : Below base W w
 b : Kd.S kRow 36 w bB (fun k => L ≤ k ∧ k < N) vb FL
 k : Kd.S kRow 36 w bK (fun k => L ≤ k ∧ k < N) vk FL
 x2 : w.heap[q2]? = some (.cells #[.int .i64 S.1.w,vb,.int .i64 S.1.r,.int .i64 S.1.c] 26 (0,0))
 x3 : w.heap[q3]? = some (.cells #[.int .i64 S.1.w,vk,.int .i64 S.1.r,.int .i64 S.1.c] 26 (0,0))
 lt : pa < L ∧ (∀ k,O k → k < L) ∧ base ≤ L ∧ L ≤ N ∧ (L ≤ q2 ∧ q2 < N) ∧ L ≤ q3 ∧ q3 < N
section
variable {base pa L N bB bK q2 q3 : Nat} {O O' : Nat → Prop} {W w w1 : World} {S : Sc × ByteArray} {FL : List (List Cl)} {vb vk : Value}
theorem Fy.kept (h : Fy base pa L N O W w S FL bB bK q2 q3 vb vk) {T : Nat → Prop} (hk : Kept w w1 T) (hT : ∀ k,T k → k < L ∨ N ≤ k) (hB : Below base w w1) (hs : Scr base pa O w1 S) : Fy base pa L N O W w1 S FL bB bK q2 q3 vb vk := by
 obtain ⟨l1,l2,l3,l4,l5,l6,l7⟩ := h.lt
 exact ⟨hs,Nat.le_trans h.bs hk.1,h.below.trans hB,Kd.S_kept h.b hk (fun k h1 h2 => by rcases hT k h2 with h3 | h3 <;> omega),Kd.S_kept h.k hk (fun k h1 h2 => by rcases hT k h2 with h3 | h3 <;> omega),
  blk_kept h.x2 hk (fun h2 => by rcases hT q2 h2 with h3 | h3 <;> omega),blk_kept h.x3 hk (fun h2 => by rcases hT q3 h2 with h3 | h3 <;> omega),h.lt⟩
theorem Fy.made (h : Fy base pa L N O W w S FL bB bK q2 q3 vb vk) (hm : Made base pa O O w w1 S) : Fy base pa L N O W w1 S FL bB bK q2 q3 vb vk := by
 obtain ⟨l1,l2,l3,l4,l5,l6,l7⟩ := h.lt
 exact h.kept hm.kept (fun k hk => .inl (hk.elim (l2 k) (fun h => by omega))) hm.below hm.scr
theorem Scr.keeps (h : Scr base pa O w S) {T : Nat → Prop} (hk : Kept w w1 T) (hT : ∀ k,T k → ¬ O k ∧ k ≠ pa) : Scr base pa O w1 S := by
 obtain ⟨⟨⟨rv,h1,h3⟩,h4,h5⟩,h6⟩ := h
 exact ⟨⟨⟨rv,blk_kept h1 hk (fun h2 => (hT _ h2).2 rfl),Kd.S_kept h3 hk (fun k ho h2 => (hT _ h2).1 ho)⟩,h4,h5⟩,fun k ho => Nat.lt_of_lt_of_le (h6 k ho) hk.1⟩
theorem Fy.above (h : Fy base pa L N O W w S FL bB bK q2 q3 vb vk) {T : Nat → Prop} (hk : Kept w w1 T) (hT : ∀ k,T k → N ≤ k) (hB : Below base w w1) : Fy base pa L N O W w1 S FL bB bK q2 q3 vb vk := by
 obtain ⟨l1,l2,l3,l4,l5,l6,l7⟩ := h.lt
 exact h.kept hk (fun k h1 => .inr (hT k h1)) hB (h.scr.keeps hk (fun k h1 => by have h2 := hT k h1;exact ⟨fun ho => by have := l2 k ho;omega,by omega⟩))
theorem Fy.more (h : Fy base pa L N O W w S FL bB bK q2 q3 vb vk) (hb : Below w.heap.size w w1) : Fy base pa L N O W w1 S FL bB bK q2 q3 vb vk := by
 obtain ⟨l1,l2,l3,l4,l5,l6,l7⟩ := h.lt
 have := h.bs
 exact h.above (Kept.of_below hb (fun _ => False)) (fun k hk => hk.elim) (hb.mono (by omega))
/-- What is done to another screen,whose blocks lie behind. -/
theorem Fy.aside (h : Fy base pa L N O W w S FL bB bK q2 q3 vb vk) {pc : Nat} {Oc O2 : Nat → Prop} {S2 : Sc × ByteArray} (hc : N ≤ pc) (hO : ∀ k,Oc k → N ≤ k) (hm : Made pc pc Oc O2 w w1 S2) : Fy base pa L N O W w1 S FL bB bK q2 q3 vb vk ∧ ∀ k,O2 k → N ≤ k := by
 obtain ⟨l1,l2,l3,l4,l5,l6,l7⟩ := h.lt
 have := h.bs
 exact ⟨h.above hm.kept (fun k hk => hk.elim (hO k) (fun h => by omega)) (hm.below.mono (by omega)),fun k hk => (hm.sub k hk).elim (hO k) (fun h2 => by omega)⟩
theorem Fy.boxB (h : Fy base pa L N O W w S FL bB bK q2 q3 vb vk) : w.cell? ⟨q2,0,none⟩ = some (.int .i64 S.1.w) ∧ w.cell? ⟨q2,1,none⟩ = some vb ∧ w.cell? ⟨q2,2,none⟩ = some (.int .i64 S.1.r) ∧ w.cell? ⟨q2,3,none⟩ = some (.int .i64 S.1.c) := ⟨blk_cell h.x2 0,blk_cell h.x2 1,blk_cell h.x2 2,blk_cell h.x2 3⟩
theorem Fy.boxK (h : Fy base pa L N O W w S FL bB bK q2 q3 vb vk) : w.cell? ⟨q3,0,none⟩ = some (.int .i64 S.1.w) ∧ w.cell? ⟨q3,1,none⟩ = some vk ∧ w.cell? ⟨q3,2,none⟩ = some (.int .i64 S.1.r) ∧ w.cell? ⟨q3,3,none⟩ = some (.int .i64 S.1.c) := ⟨blk_cell h.x3 0,blk_cell h.x3 1,blk_cell h.x3 2,blk_cell h.x3 3⟩
theorem Fy.apart (h : Fy base pa L N O W w S FL bB bK q2 q3 vb vk) {pc : Nat} {Oc : Nat → Prop} (hc : N ≤ pc) (hO : ∀ k,Oc k → N ≤ k) : Apart pa O pc Oc := by
 obtain ⟨l1,l2,l3,l4,l5,l6,l7⟩ := h.lt
 exact ⟨by omega,fun h => by have := l2 _ h;omega,fun h => by have := hO _ h;omega,fun k h1 h2 => by have := l2 _ h1;have := hO _ h2;omega⟩
end
theorem eqN_refl (l : List Cl) : ∀ n,eqN l l n = true
 | 0 => rfl
 | n + 1 => by
  unfold eqN
  rw [eqN_refl l n,Bool.true_and]
  unfold cellB
  simp
theorem eqR_refl (l : List Cl) : eqR l l = true := by
 unfold eqR
 rw [eqN_refl,Bool.and_true]
 exact decide_eq_true rfl
theorem allEq_frame (rows : List (List Cl)) (m : Nat) : ∀ n,n ≤ m → allEq (frameL rows m) rows n = true
 | 0,_ => rfl
 | n + 1,h => by
  unfold allEq
  rw [allEq_frame rows m n (by omega),Bool.true_and]
  have e : (frameL rows m).getD n [] = trimR (rows.getD n []) := by
   unfold frameL
   rw [List.getD_eq_getElem?_getD,List.getElem?_map,List.getElem?_range (by omega)]
   rfl
  rw [e]
  exact eqR_refl _
theorem nrows_le {s : Sc} (h : s.Ok) : s.nrows ≤ s.h := by
 unfold Sc.nrows
 have h1 := lastN_le s.rows s.rows.length
 have h2 := h.rl
 have h3 := h.rh
 omega
theorem frameN_nrows {s : Sc} (h : s.Ok) : s.frameN s.nrows = s.nrows := by
 have h1 := nrows_le h
 have h2 : 1 ≤ s.nrows := by unfold Sc.nrows;omega
 unfold Sc.frameN
 omega
section
variable {base p : Nat} {O : Nat → Prop} {w : World} {S : Sc × ByteArray}
/-- A screen shows its own frame. -/
theorem scr_shows_own (h : Scr base p O w S) (hb : base ≤ w.heap.size) (hO : S.1.Ok) {b : Nat} {ok : Nat → Prop} {FA : Option Addr} {FL : List (List Cl)} {c : Nat} (hF : Kd.S kRow 36 w b ok (.slice FA FL.length c) FL) (hok : ∀ k,ok k → ¬ O k ∧ k ≠ p) (hFL : frameL S.1.rows (S.1.frameN S.1.nrows) = FL) :
  Calls Tryd.prog 18 #[.pointer (some ⟨p,0,none⟩),.agg #[.int .i64 S.1.w,.slice FA FL.length c,.int .i64 S.1.r,.int .i64 S.1.c]] w fun e w' => e = .returned (.bool true) ∧ Made base p O O w w' S := by
 have hl : FL.length = S.1.nrows := by rw [← hFL,frameL_len,frameN_nrows hO]
 have h1 := nrows_le hO
 have h2 : 1 ≤ S.1.nrows := by unfold Sc.nrows;omega
 have he : allEq FL S.1.rows FL.length = true := by
  rw [hl]
  subst hFL
  exact allEq_frame _ _ _ (Nat.le_of_eq (frameN_nrows hO).symm)
 have hr := frame_rows hO (S.1.nrows : Int)
 rw [hFL] at hr
 refine (sc_shows h.at_ hb hO S.1.w S.1.r S.1.c FA c FL (fun w1 hk => ?_) (Kd.S_reads' hF).2.1 hr.2 rfl (by omega) (by omega) (by omega) rfl rfl).mono fun e w' hh => ?_
 ·exact (Kd.S_reads' (Kd.S_kept hF hk (fun k hk h3 => h3.elim (fun h4 => (hok k hk).1 h4.1) (fun h4 => (hok k hk).2 h4)))).2.2
 ·rw [he] at hh
  exact ⟨hh.1,Made.of_same h.bd hh.2⟩
end
end Go.Proofs.YtgdpnmikcopkmaaDoor.U
end
section
namespace Go.Proofs.YtgdpnmikcopkmaaDoor.U
open Go.RowKit Go.Proofs.YtgdpnmikcopkmaaDoor.Mu Go.Proofs.YtgdpnmikcopkmaaDoor.Pu Go.Proofs.YtgdpnmikcopkmaaDoorW.PrintWords Go.Proofs.YtgdpnmikcopkmaaDoorW.PrintLast Go.Proofs.YtgdpnmikcopkmaaDoorW.PrintMore
set_option linter.unusedVariables false
set_option linter.unusedSimpArgs false
def rs8.T : Bool × List (List Nat × List Nat) := (true,[([],[]),([],[]),([1],[1]),([2],[2]),([3],[3]),([4],[4]),([],[]),([0,5,0,1,2,3,4,5,6],[0,5]),([7,6,6,0,1,2,3,4,5,6],[6,7])])
def rs8.B : List Nat := [0,0,2,6,14,30,0,127,255]
theorem rs8.tab : rtab .any (opsOf Tryd.f31 8) = rs8.T := by kernel_rfl
theorem rs8.bits : waitsOk rs8.T.2 rs8.B = true := by kernel_rfl
def rs11.T : Bool × List (List Nat × List Nat) := (true,[([],[]),([],[]),([1],[1]),([2],[2]),([3],[3]),([4],[4]),([],[]),([6],[6]),([7],[7]),([8],[8]),([9],[9]),([5,10],[5,10]),([0,0,1,2,3,4,5,6,7,8,9,10,11],[0]),([12,0,1,2,3,4,5,6,7,8,9,10,11],[12]),([13,0,1,2,3,4,5,6,7,8,9,10,11],[13]),([14,11,0,1,2,3,4,5,6,7,8,9,10,11],[11,14])])
def rs11.B : List Nat := [0,0,2,6,14,30,0,64,192,448,960,2046,4095,8191,16383,32767]
theorem rs11.tab : rtab .any (opsOf Tryd.f31 11) = rs11.T := by kernel_rfl
theorem rs11.bits : waitsOk rs11.T.2 rs11.B = true := by kernel_rfl
end Go.Proofs.YtgdpnmikcopkmaaDoor.U
end
section
namespace Go.Proofs.YtgdpnmikcopkmaaDoor.U
open Go.RowKit Go.Proofs.YtgdpnmikcopkmaaDoor.Mu Go.Proofs.YtgdpnmikcopkmaaDoor.Pu Go.Proofs.YtgdpnmikcopkmaaDoorW.PrintWords Go.Proofs.YtgdpnmikcopkmaaDoorW.PrintLast Go.Proofs.YtgdpnmikcopkmaaDoorW.PrintMore
set_option linter.unusedVariables false
set_option linter.unusedSimpArgs false
section
variable {base pa pb pc : Nat} {w0 w w1 : World} {Oa Ob Oc O' : Nat → Prop} {Sa Sb Sc' S' : Sc × ByteArray}
end
theorem tabs_two {w : World} (hT : Lib.Utf8Tabs 0 1 w) : 2 ≤ w.heap.size := by
 have := World.block_lt_of_cell? w _ (hT.2 0 (by decide)).1
 exact this
end Go.Proofs.YtgdpnmikcopkmaaDoor.U
end
section
namespace Go.Proofs.YtgdpnmikcopkmaaDoor.U
open Go.RowKit Go.Proofs.YtgdpnmikcopkmaaDoor.Mu Go.Proofs.YtgdpnmikcopkmaaDoor.Pu Go.Proofs.YtgdpnmikcopkmaaDoorW.PrintWords Go.Proofs.YtgdpnmikcopkmaaDoorW.PrintLast Go.Proofs.YtgdpnmikcopkmaaDoorW.PrintMore
set_option linter.unusedVariables false
set_option linter.unusedSimpArgs false
/-- A step keeps the measures. -/
structure Kin (s t : Sc) : Prop where
 w : t.w = s.w
 h : t.h = s.h
theorem Kin.refl (s : Sc) : Kin s s := ⟨rfl,rfl⟩
theorem Kin.trans {s t u : Sc} (a : Kin s t) (b : Kin t u) : Kin s u := ⟨b.w.trans a.w,b.h.trans a.h⟩
end Go.Proofs.YtgdpnmikcopkmaaDoor.U
end
section
namespace Go.Proofs.YtgdpnmikcopkmaaDoor.U
open Go.RowKit Go.Proofs.YtgdpnmikcopkmaaDoor.Mu Go.Proofs.YtgdpnmikcopkmaaDoor.Pu Go.Proofs.YtgdpnmikcopkmaaDoorW.PrintWords Go.Proofs.YtgdpnmikcopkmaaDoorW.PrintLast Go.Proofs.YtgdpnmikcopkmaaDoorW.PrintMore
set_option linter.unusedVariables false
set_option linter.unusedSimpArgs false
theorem rw_nil (rows : List (List Cl)) (i : Nat) (h : rows.length ≤ i) : rows.getD i [] = [] := by
 rw [List.getD_eq_getElem?_getD,List.getElem?_eq_none h]
 rfl
theorem rw_set (rows : List (List Cl)) (i : Nat) (x : List Cl) (j : Nat) (h : i < rows.length) : (rows.set i x).getD j [] = if j = i then x else rows.getD j [] := by
 rw [List.getD_eq_getElem?_getD,List.getD_eq_getElem?_getD]
 by_cases hj : j = i
 ·subst hj
  rw [if_pos rfl,List.getElem?_set_self h]
  rfl
 ·rw [if_neg hj,List.getElem?_set_ne (fun e => hj e.symm)]
theorem rw_more (rows : List (List Cl)) (n j : Nat) : (rows ++ List.replicate n []).getD j [] = rows.getD j [] := by
 rw [List.getD_eq_getElem?_getD,List.getD_eq_getElem?_getD]
 by_cases hj : j < rows.length
 ·rw [List.getElem?_append_left hj]
 ·rw [List.getElem?_append_right (by omega),List.getElem?_eq_none (l := rows) (by omega),List.getElem?_replicate]
  split <;> rfl
theorem rw_drop (rows : List (List Cl)) (j : Nat) : (rows.drop 1).getD j [] = rows.getD (j + 1) [] := by
 rw [List.getD_eq_getElem?_getD,List.getD_eq_getElem?_getD,List.getElem?_drop,Nat.add_comm 1 j]
theorem rw_take (rows : List (List Cl)) (n j : Nat) : (rows.take n).getD j [] = if j < n then rows.getD j [] else [] := by
 rw [List.getD_eq_getElem?_getD,List.getD_eq_getElem?_getD,List.getElem?_take]
 split <;> rfl
/-- The same look: the same but for empty rows at the end,and for where a mark would go when none may. -/
def Eqv (s t : Sc) : Prop := ∃ R L C,t = { s with rows := R,lr := L,lc := C } ∧ (s.marks = true → L = s.lr ∧ C = s.lc) ∧ ∀ i,R.getD i [] = s.rows.getD i []
theorem Eqv.refl (s : Sc) : Eqv s s := ⟨s.rows,s.lr,s.lc,rfl,fun _ => ⟨rfl,rfl⟩,fun _ => rfl⟩
theorem clrR_alt (s : Sc) (i col : Nat) : s.clrR i col = if (s.rows.getD i []).length ≤ col then s else { s with rows := s.rows.set i ((clrH (s.rows.getD i []) col).take col) } := by
 unfold Sc.clrR
 by_cases h : (s.rows.getD i []).length ≤ col
 ·rw [if_pos h,if_pos (.inr h)]
 ·rw [if_neg h,if_neg]
  intro h2
  rcases h2 with h2 | h2
  ·rw [rw_nil _ _ h2] at h
   exact h (Nat.zero_le _)
  ·exact h h2
theorem rw_lt (rows : List (List Cl)) (i col : Nat) (h : ¬ (rows.getD i []).length ≤ col) : i < rows.length := by
 rcases Nat.lt_or_ge i rows.length with h2 | h2
 ·exact h2
 ·rw [rw_nil _ _ h2] at h
  exact absurd (Nat.zero_le _) h
theorem Eqv.clrR {s t : Sc} (h : Eqv s t) (i col : Nat) : Eqv (s.clrR i col) (t.clrR i col) := by
 obtain ⟨R,L,C,rfl,hm,hg⟩ := h
 rw [clrR_alt,clrR_alt]
 dsimp only
 rw [hg i]
 split
 ·exact ⟨R,L,C,rfl,hm,hg⟩
 ·rename_i hc
  have hc2 : ¬ (R.getD i []).length ≤ col := by rw [hg i];exact hc
  refine ⟨_,L,C,rfl,hm,fun j => ?_⟩
  show (R.set i _).getD j [] = (s.rows.set i _).getD j []
  rw [rw_set _ _ _ _ (rw_lt _ _ _ hc),rw_set _ _ _ _ (rw_lt _ _ _ hc2),hg j]
theorem down_alt (s : Sc) : s.down = if s.r + 1 < s.h then { s with r := s.r + 1 } else { s with rows := if s.rows.length = s.h then s.rows.drop 1 ++ [[]] else s.rows.drop 1 } := by
 unfold Sc.down
 split
 ·rfl
 ·split <;> rfl
theorem rw_down (rows : List (List Cl)) (h j : Nat) : (if rows.length = h then rows.drop 1 ++ [[]] else rows.drop 1).getD j [] = rows.getD (j + 1) [] := by
 split
 ·rw [show rows.drop 1 ++ [[]] = rows.drop 1 ++ List.replicate 1 [] from rfl,rw_more,rw_drop]
 ·rw [rw_drop]
theorem Eqv.down {s t : Sc} (h : Eqv s t) : Eqv s.down t.down := by
 obtain ⟨R,L,C,rfl,hm,hg⟩ := h
 rw [down_alt,down_alt]
 dsimp only
 split
 ·exact ⟨R,L,C,rfl,hm,hg⟩
 ·refine ⟨_,L,C,rfl,hm,fun j => ?_⟩
  show (if R.length = s.h then R.drop 1 ++ [[]] else R.drop 1).getD j [] = (if s.rows.length = s.h then s.rows.drop 1 ++ [[]] else s.rows.drop 1).getD j []
  rw [rw_down,rw_down,hg]
theorem Eqv.at_ {s t : Sc} (h : Eqv s t) (r c : Nat) (full : Bool) : Eqv { s with r := r,c := c,full := full } { t with r := r,c := c,full := full } := by
 obtain ⟨R,L,C,rfl,hm,hg⟩ := h
 exact ⟨R,L,C,rfl,hm,hg⟩
theorem Eqv.unmark {s t : Sc} (h : Eqv s t) : Eqv { s with marks := false } { t with marks := false } := by
 obtain ⟨R,L,C,rfl,hm,hg⟩ := h
 exact ⟨R,L,C,rfl,(fun hq => by cases hq),hg⟩
theorem Eqv.fields {s t : Sc} (h : Eqv s t) : t.w = s.w ∧ t.h = s.h ∧ t.r = s.r ∧ t.c = s.c ∧ t.full = s.full ∧ t.marks = s.marks := by
 obtain ⟨R,L,C,rfl,hm,hg⟩ := h
 exact ⟨rfl,rfl,rfl,rfl,rfl,rfl⟩
def Sc.front (s : Sc) (span : Nat) : Sc := if s.full = true ∨ (span = 2 ∧ s.c + 1 = s.w) then { s.down with c := 0,full := false } else s
def Sc.put (s : Sc) (t : ByteArray) (span : Nat) : Sc := { s with rows := (padR s.rows (s.r + 1)).set s.r (putC ((padR s.rows (s.r + 1)).getD s.r []) s.c span t),lr := s.r,lc := s.c,marks := true }
theorem write_alt (s : Sc) (t : ByteArray) (span : Nat) : s.write t span = if s.w ≤ (Sc.front s span).c + span then { Sc.put (Sc.front s span) t span with c := s.w - 1,full := true } else { Sc.put (Sc.front s span) t span with c := (Sc.front s span).c + span } := rfl
theorem Eqv.front {s t : Sc} (h : Eqv s t) (span : Nat) : Eqv (Sc.front s span) (Sc.front t span) := by
 obtain ⟨h1,h2,h3,h4,h5,h6⟩ := h.fields
 unfold Sc.front
 rw [h5,h4,h1]
 split
 ·have h7 := h.down
  obtain ⟨R,L,C,e,hm,hg⟩ := h7
  rw [e]
  exact ⟨R,L,C,rfl,hm,hg⟩
 ·exact h
theorem Eqv.put {s t : Sc} (h : Eqv s t) (x : ByteArray) (span : Nat) : Eqv (Sc.put s x span) (Sc.put t x span) := by
 obtain ⟨R,L,C,rfl,hm,hg⟩ := h
 refine ⟨_,_,_,rfl,fun _ => ⟨rfl,rfl⟩,fun j => ?_⟩
 show ((padR R (s.r + 1)).set s.r (putC ((padR R (s.r + 1)).getD s.r []) s.c span x)).getD j [] = ((padR s.rows (s.r + 1)).set s.r (putC ((padR s.rows (s.r + 1)).getD s.r []) s.c span x)).getD j []
 rw [rw_set _ _ _ _ (by rw [padR_length];omega),rw_set _ _ _ _ (by rw [padR_length];omega)]
 unfold padR
 rw [rw_more,rw_more,rw_more,rw_more,hg,hg]
theorem Eqv.write {s t : Sc} (h : Eqv s t) (x : ByteArray) (span : Nat) : Eqv (s.write x span) (t.write x span) := by
 have h1 := (h.front span).put x span
 obtain ⟨f1,f2,f3,f4,f5,f6⟩ := h.fields
 obtain ⟨g1,g2,g3,g4,g5,g6⟩ := (h.front span).fields
 rw [write_alt,write_alt,f1,g4]
 obtain ⟨R,L,C,e,hm,hg⟩ := h1
 rw [e]
 split
 ·exact ⟨R,L,C,rfl,hm,hg⟩
 ·exact ⟨R,L,C,rfl,hm,hg⟩
theorem Eqv.mark {s t : Sc} (h : Eqv s t) (hs : s.Ok) (ht : t.Ok) (x : ByteArray) : Eqv (s.mark x) (t.mark x) := by
 obtain ⟨R,L,C,rfl,hm,hg⟩ := h
 unfold Sc.mark
 dsimp only
 split
 ·rename_i hk
  obtain ⟨rfl,rfl⟩ := hm hk
  refine ⟨_,_,_,rfl,fun _ => ⟨rfl,rfl⟩,fun j => ?_⟩
  have h1 := (hs.ma hk).1
  have h2 : s.lr < R.length := (ht.ma hk).1
  show (R.set s.lr _).getD j [] = (s.rows.set s.lr _).getD j []
  rw [rw_set _ _ _ _ h1,rw_set _ _ _ _ h2,hg,hg]
 ·exact ⟨R,L,C,rfl,hm,hg⟩
theorem Eqv.control {s t : Sc} (h : Eqv s t) (b : Nat) : Eqv (s.control b) (t.control b) := by
 have h1 : Eqv { s with full := false,marks := false } { t with full := false,marks := false } := by
  obtain ⟨R,L,C,rfl,hm,hg⟩ := h
  exact ⟨R,L,C,rfl,(fun hq => by cases hq),hg⟩
 unfold Sc.control
 dsimp only
 by_cases h8 : b = 8
 ·rw [if_pos h8,if_pos h8]
  obtain ⟨R,L,C,rfl,hm,hg⟩ := h
  exact ⟨R,L,C,rfl,(fun hq => by cases hq),hg⟩
 rw [if_neg h8,if_neg h8]
 by_cases h10 : b = 10
 ·rw [if_pos h10,if_pos h10]
  exact h1.down
 rw [if_neg h10,if_neg h10]
 by_cases h13 : b = 13
 ·rw [if_pos h13,if_pos h13]
  obtain ⟨R,L,C,rfl,hm,hg⟩ := h
  exact ⟨R,L,C,rfl,(fun hq => by cases hq),hg⟩
 rw [if_neg h13,if_neg h13]
 exact h1
theorem Eqv.carry {s t : Sc} (h : Eqv s t) (e : Nat) (l : List Int) (ok : Bool) : Eqv (s.carry e l ok) (t.carry e l ok) := by
 obtain ⟨f1,f2,f3,f4,f5,f6⟩ := h.fields
 have h1 := h.clrR s.r s.c
 unfold Sc.carry
 dsimp only
 rw [f1,f2,f3,f4]
 split
 ·split
  ·obtain ⟨R,L,C,e,hm,hg⟩ := h1
   rw [e]
   refine ⟨_,L,C,rfl,hm,fun j => ?_⟩
   show (R.take _).getD j [] = ((s.clrR s.r s.c).rows.take _).getD j []
   rw [rw_take,rw_take,hg]
  ·exact h
 split
 ·split
  ·exact h1
  ·exact h
 split
 ·exact h
 split
 ·obtain ⟨R,L,C,rfl,hm,hg⟩ := h
  exact ⟨R,L,C,rfl,hm,hg⟩
 ·obtain ⟨R,L,C,rfl,hm,hg⟩ := h
  exact ⟨R,L,C,rfl,hm,hg⟩
theorem Eqv.escape {s t : Sc} (h : Eqv s t) (all : ByteArray) : Eqv (s.escape all).1 (t.escape all).1 ∧ (t.escape all).2 = (s.escape all).2 := by
 have h1 := h.unmark
 unfold Sc.escape
 repeat' split
 all_goals first | exact ⟨h,rfl⟩ | exact ⟨h1,rfl⟩ | exact ⟨h1.carry _ _ _,rfl⟩
theorem Eqv.unit {s t : Sc} (h : Eqv s t) (hs : s.Ok) (ht : t.Ok) (cl : Int) (x : ByteArray) : Eqv (s.unit cl x) (t.unit cl x) := by
 obtain ⟨f1,f2,f3,f4,f5,f6⟩ := h.fields
 unfold Sc.unit
 rw [f1]
 repeat' split
 all_goals first | exact h.mark hs ht _ | exact h.write _ _ | skip
 obtain ⟨R,L,C,rfl,hm,hg⟩ := h
 exact ⟨R,L,C,rfl,(fun hq => by cases hq),hg⟩
theorem Eqv.step {s t : Sc} (h : Eqv s t) (hs : s.Ok) (ht : t.Ok) (all : ByteArray) : Eqv (s.step all).1 (t.step all).1 ∧ (t.step all).2 = (s.step all).2 := by
 unfold Sc.step
 split
 ·exact h.escape all
 split
 ·exact ⟨h.control _,rfl⟩
 split
 ·exact ⟨h,rfl⟩
 ·exact ⟨h.unit hs ht _ _,rfl⟩
theorem Eqv.feedN : ∀ (k : Nat) {s t : Sc} (h : Eqv s t) (hs : s.Ok) (ht : t.Ok) (all : ByteArray),Eqv (Sc.feedN k s all).1 (Sc.feedN k t all).1 ∧ (Sc.feedN k t all).2 = (Sc.feedN k s all).2
 | 0,s,t,h,hs,ht,all => ⟨h,rfl⟩
 | k + 1,s,t,h,hs,ht,all => by
  obtain ⟨h1,h2⟩ := h.step hs ht all
  unfold Sc.feedN
  rw [h2]
  split
  ·exact ⟨h,rfl⟩
  split
  ·exact ⟨h1,rfl⟩
  ·exact Eqv.feedN k h1 (hs.step all) (ht.step all) _
structure EqvS (S T : Sc × ByteArray) : Prop where
 s : Eqv S.1 T.1
 held : T.2 = S.2
 o1 : S.1.Ok
 o2 : T.1.Ok
theorem EqvS.feed {S T : Sc × ByteArray} (h : EqvS S T) (b : ByteArray) : EqvS (feedS S b) (feedS T b) := by
 have h1 := Eqv.feedN (S.2 ++ b).size h.s h.o1 h.o2 (S.2 ++ b)
 refine ⟨?_,?_,feedS_ok h.o1 b,feedS_ok h.o2 b⟩
 ·unfold feedS;rw [h.held];exact h1.1
 ·unfold feedS;rw [h.held];exact h1.2
/-- What is seen is the same. -/
theorem lastN_more (rows : List (List Cl)) : ∀ k,lastN rows (rows.length + k) = lastN rows rows.length
 | 0 => rfl
 | k + 1 => by
  show (if (trimR (rows.getD (rows.length + k) [])).length = 0 then lastN rows (rows.length + k) else _) = _
  rw [rw_nil _ _ (by omega),if_pos (by rfl),lastN_more rows k]
theorem lastN_eq {rows R : List (List Cl)} (h : ∀ i,R.getD i [] = rows.getD i []) : ∀ n,lastN R n = lastN rows n
 | 0 => rfl
 | n + 1 => by
  unfold lastN
  rw [h n,lastN_eq h n]
theorem Eqv.nrows {s t : Sc} (h : Eqv s t) : t.nrows = s.nrows := by
 obtain ⟨R,L,C,rfl,hm,hg⟩ := h
 show max (lastN R R.length) (s.r + 1) = max (lastN s.rows s.rows.length) (s.r + 1)
 have h1 := lastN_more R s.rows.length
 have h2 := lastN_more s.rows R.length
 rw [lastN_eq hg,Nat.add_comm] at h1
 rw [← h1,h2]
theorem Eqv.frames {s t : Sc} (h : Eqv s t) (n : Int) : frameL t.rows (t.frameN n) = frameL s.rows (s.frameN n) := by
 obtain ⟨R,L,C,rfl,hm,hg⟩ := h
 unfold frameL
 show List.map _ (List.range (s.frameN n)) = _
 congr 1
 funext i
 rw [hg i]
end Go.Proofs.YtgdpnmikcopkmaaDoor.U
end
section
namespace Go.Proofs.YtgdpnmikcopkmaaDoor.U
open Go.RowKit Go.Proofs.YtgdpnmikcopkmaaDoor.Mu Go.Proofs.YtgdpnmikcopkmaaDoor.Pu Go.Proofs.YtgdpnmikcopkmaaDoorW.PrintWords Go.Proofs.YtgdpnmikcopkmaaDoorW.PrintLast Go.Proofs.YtgdpnmikcopkmaaDoorW.PrintMore
set_option linter.unusedVariables false
set_option linter.unusedSimpArgs false
/-- Each cell but those of X is whole,and leans on none of X. -/
def Good (row : List Cl) (X : Nat → Prop) : Prop := ∀ i,i < row.length → ¬ X i →
 ((gC row i).f1 = 1 ∧ (gC row i).f0.size ≠ 0) ∨
 ((gC row i).f1 = 2 ∧ (gC row i).f0.size ≠ 0 ∧ i + 1 < row.length ∧ ¬ X (i + 1) ∧ (gC row (i + 1)).f1 = 0) ∨
 ((gC row i).f1 = 0 ∧ (gC row i).f0.size = 0 ∧ 0 < i ∧ ¬ X (i - 1) ∧ (gC row (i - 1)).f1 = 2)
abbrev X0 : Nat → Prop := fun _ => False
theorem gC_of_set (row : List Cl) (k : Nat) (x : Cl) (j : Nat) (h : k < row.length) : gC (row.set k x) j = if j = k then x else gC row j := by
 unfold gC
 rw [List.getD_eq_getElem?_getD,List.getD_eq_getElem?_getD]
 by_cases hj : j = k
 ·subst hj
  rw [if_pos rfl,List.getElem?_set_self h]
  rfl
 ·rw [if_neg hj,List.getElem?_set_ne (fun e => hj e.symm)]
theorem Good.mono {row : List Cl} {X Y : Nat → Prop} (h : Good row X) (he : ∀ i,i < row.length → (X i ↔ Y i)) : Good row Y := fun i hi hy => by
 rcases h i hi (fun e => hy ((he i hi).1 e)) with a | ⟨b1,b2,b3,b4,b5⟩ | ⟨b1,b2,b3,b4,b5⟩
 ·exact .inl a
 ·exact .inr (.inl ⟨b1,b2,b3,fun e => b4 ((he _ b3).2 e),b5⟩)
 ·exact .inr (.inr ⟨b1,b2,b3,fun e => b4 ((he _ (by omega)).2 e),b5⟩)
end Go.Proofs.YtgdpnmikcopkmaaDoor.U
end
section
namespace Go.Proofs.YtgdpnmikcopkmaaDoor.U
open Go.RowKit Go.Proofs.YtgdpnmikcopkmaaDoor.Mu Go.Proofs.YtgdpnmikcopkmaaDoor.Pu Go.Proofs.YtgdpnmikcopkmaaDoorW.PrintWords Go.Proofs.YtgdpnmikcopkmaaDoorW.PrintLast Go.Proofs.YtgdpnmikcopkmaaDoorW.PrintMore
set_option linter.unusedVariables false
set_option linter.unusedSimpArgs false
theorem EqvS.many {S T : Sc × ByteArray} (h : EqvS S T) (b : ByteArray) : ∀ n,EqvS (feedI S b n) (feedI T b n)
 | 0 => h
 | n + 1 => (EqvS.many h b n).feed b
section
variable {base p : Nat} {O : Nat → Prop} {w : World} {S S2 : Sc × ByteArray}
end
end Go.Proofs.YtgdpnmikcopkmaaDoor.U
end
section
namespace Go.Proofs.YtgdpnmikcopkmaaDoor.U
open Go.RowKit Go.Proofs.YtgdpnmikcopkmaaDoor.Mu Go.Proofs.YtgdpnmikcopkmaaDoor.Pu Go.Proofs.YtgdpnmikcopkmaaDoorW.PrintWords Go.Proofs.YtgdpnmikcopkmaaDoorW.PrintLast Go.Proofs.YtgdpnmikcopkmaaDoorW.PrintMore
set_option linter.unusedVariables false
set_option linter.unusedSimpArgs false
theorem Eqv.symm {s t : Sc} (h : Eqv s t) : Eqv t s := by
 obtain ⟨R,L,C,rfl,hm,hg⟩ := h
 exact ⟨s.rows,s.lr,s.lc,rfl,fun hq => ⟨(hm hq).1.symm,(hm hq).2.symm⟩,fun i => (hg i).symm⟩
theorem EqvS.symm {S T : Sc × ByteArray} (h : EqvS S T) : EqvS T S := ⟨h.s.symm,h.held.symm,h.o2,h.o1⟩
end Go.Proofs.YtgdpnmikcopkmaaDoor.U
end
section
namespace Go.Proofs.YtgdpnmikcopkmaaDoor.U
open Go.RowKit Go.Proofs.YtgdpnmikcopkmaaDoor.Mu Go.Proofs.YtgdpnmikcopkmaaDoor.Pu Go.Proofs.YtgdpnmikcopkmaaDoorW.PrintWords Go.Proofs.YtgdpnmikcopkmaaDoorW.PrintLast Go.Proofs.YtgdpnmikcopkmaaDoorW.PrintMore
set_option linter.unusedVariables false
set_option linter.unusedSimpArgs false
/-- What is seen of a row. -/
theorem rd_gC (row : List Cl) (n : Nat) : rd_T38 row (n : Int) = gC row n := rfl
end Go.Proofs.YtgdpnmikcopkmaaDoor.U
end
section
namespace Go.Proofs.YtgdpnmikcopkmaaDoor.U
open Go.RowKit Go.Proofs.YtgdpnmikcopkmaaDoor.Mu Go.Proofs.YtgdpnmikcopkmaaDoor.Pu Go.Proofs.YtgdpnmikcopkmaaDoorW.PrintWords Go.Proofs.YtgdpnmikcopkmaaDoorW.PrintLast Go.Proofs.YtgdpnmikcopkmaaDoorW.PrintMore
set_option linter.unusedVariables false
set_option linter.unusedSimpArgs false
theorem cells_at {row : List Cl} {A : Option Addr} {w : World} (hC : Kd.C k38 w A row.length row) (i : Nat) (hi : i < row.length) : ∃ ad : Addr,A = some ad ∧ w.cell? (ad.add (i * 2)) = some (.string (gC row i).f0) ∧ w.cell? ⟨(ad.add (i * 2)).block,(ad.add (i * 2)).off + 1,none⟩ = some (.int .i64 (gC row i).f1) := by
 obtain ⟨ad,h1,h2,h3⟩ := at_T38 hC (i : Int) (by omega) (by omega)
 rw [Int.toNat_natCast,rd_gC] at h2 h3
 exact ⟨ad,h1,h2,h3⟩
attribute [local go_sem high] cell_eq
end Go.Proofs.YtgdpnmikcopkmaaDoor.U
end
section
namespace Go.Proofs.YtgdpnmikcopkmaaDoor.U
open Go.RowKit Go.Proofs.YtgdpnmikcopkmaaDoor.Mu Go.Proofs.YtgdpnmikcopkmaaDoor.Pu Go.Proofs.YtgdpnmikcopkmaaDoorW.PrintWords Go.Proofs.YtgdpnmikcopkmaaDoorW.PrintLast Go.Proofs.YtgdpnmikcopkmaaDoorW.PrintMore
set_option linter.unusedVariables false
set_option linter.unusedSimpArgs false
/-- The first i rows,and k cells of the next one,are written over;nothing is longer or shorter. -/
structure Ov (FX FL : List (List Cl)) (i k : Nat) : Prop where
 n : FX.length = FL.length
 l : ∀ j,(FX.getD j []).length = (FL.getD j []).length
 d : ∀ j,j < i → ∀ c,c < (FX.getD j []).length → (gC (FX.getD j []) c).f1 = 9
 p : ∀ c,c < k → (gC (FX.getD i []) c).f1 = 9
theorem Ov.cell {FX FL : List (List Cl)} {i k : Nat} (h : Ov FX FL i k) (hi : i < FX.length) (hk : k < (FX.getD i []).length) (x : Cl) (hx : x.f1 = 9) : Ov (FX.set i ((FX.getD i []).set k x)) FL i (k + 1) := by
 have hg : ∀ j,(FX.set i ((FX.getD i []).set k x)).getD j [] = if j = i then (FX.getD i []).set k x else FX.getD j [] := fun j => rw_set _ _ _ _ hi
 refine ⟨by rw [List.length_set];exact h.n,fun j => ?_,fun j hj c hc => ?_,fun c hc => ?_⟩
 ·rw [hg]
  split
  ·rename_i e;rw [List.length_set,← e];exact h.l j
  ·exact h.l j
 ·rw [hg,if_neg (by omega)] at hc ⊢
  exact h.d j hj c hc
 ·rw [hg,if_pos rfl,gC_of_set _ _ _ _ hk]
  split
  ·exact hx
  ·exact h.p c (by omega)
theorem Ov.next {FX FL : List (List Cl)} {i k : Nat} (h : Ov FX FL i k) (hk : k = (FX.getD i []).length) : Ov FX FL (i + 1) 0 :=
 ⟨h.n,h.l,fun j hj c hc => by
  by_cases e : j = i
  ·subst e;exact h.p c (by omega)
  ·exact h.d j (by omega) c hc,fun c hc => absurd hc (Nat.not_lt_zero c)⟩
theorem set_same (FX : List (List Cl)) (i : Nat) : FX.set i (FX.getD i []) = FX := by
 by_cases h : i < FX.length
 ·rw [List.getD_eq_getElem?_getD,List.getElem?_eq_getElem h]
  exact List.set_getElem_self h
 ·exact List.set_eq_of_length_le (by omega)
def ovC : Cl := ⟨⟨#[119,114,105,116,116,101,110,32,111,118,101,114]⟩,9⟩
/-- A screen,three frames of its rows,each in a box;FX: what the first one says now. -/
structure Fx (base pa : Nat) (O : Nat → Prop) (W w : World) (S : Sc × ByteArray) (FL FX : List (List Cl)) (bA bB bK q1 q2 q3 : Nat) (va vb vk : Value) : Prop where
 scr : Scr base pa O w S
 bs : base ≤ w.heap.size
 below : Below base W w
 a : Kd.S kRow 36 w bA (fun k => bA ≤ k ∧ k < bB) va FX
 b : Kd.S kRow 36 w bB (fun k => bB ≤ k ∧ k < q1) vb FL
 k : Kd.S kRow 36 w bK (fun k => bK ≤ k ∧ k < q3) vk FL
 x1 : w.heap[q1]? = some (.cells #[.int .i64 S.1.w,va,.int .i64 S.1.r,.int .i64 S.1.c] 26 (0,0))
 x2 : w.heap[q2]? = some (.cells #[.int .i64 S.1.w,vb,.int .i64 S.1.r,.int .i64 S.1.c] 26 (0,0))
 x3 : w.heap[q3]? = some (.cells #[.int .i64 S.1.w,vk,.int .i64 S.1.r,.int .i64 S.1.c] 26 (0,0))
 lt : pa < bA ∧ (∀ k,O k → k < bA) ∧ base ≤ bA ∧ bA ≤ bB ∧ bB ≤ q1 ∧ q1 < q2 ∧ q2 < bK ∧ bK ≤ q3
section
variable {base pa bA bB bK q1 q2 q3 : Nat} {O : Nat → Prop} {W w w1 : World} {S : Sc × ByteArray} {FL FX FY : List (List Cl)} {va vb vk : Value}
theorem Fx.more (h : Fx base pa O W w S FL FX bA bB bK q1 q2 q3 va vb vk) (hb : Below w.heap.size w w1) : Fx base pa O W w1 S FL FX bA bB bK q1 q2 q3 va vb vk :=
 ⟨h.scr.below hb,Nat.le_trans h.bs hb.size,h.below.trans (hb.mono h.bs),Kd.S_below h.a hb,Kd.S_below h.b hb,Kd.S_below h.k hb,blk_below h.x1 hb,blk_below h.x2 hb,blk_below h.x3 hb,h.lt⟩
/-- What turns the first frame's rows alone. -/
theorem Fx.turn (h : Fx base pa O W w S FL FX bA bB bK q1 q2 q3 va vb vk) (hk : Kept w w1 (fun k => bA ≤ k ∧ k < bB)) (hB : Below bA w w1) (hS : Kd.S kRow 36 w1 bA (fun k => bA ≤ k ∧ k < bB) va FY) : Fx base pa O W w1 S FL FY bA bB bK q1 q2 q3 va vb vk := by
 obtain ⟨l1,l2,l3,l4,l5,l6,l7,l8⟩ := h.lt
 refine ⟨?_,Nat.le_trans h.bs hk.1,h.below.trans (hB.mono l3),hS,Kd.S_kept h.b hk (fun k h1 h2 => by omega),Kd.S_kept h.k hk (fun k h1 h2 => by omega),blk_kept h.x1 hk (fun h2 => by omega),blk_kept h.x2 hk (fun h2 => by omega),blk_kept h.x3 hk (fun h2 => by omega),h.lt⟩
 obtain ⟨⟨⟨rv,h1,h3⟩,h4,h5⟩,h6⟩ := h.scr
 exact ⟨⟨⟨rv,blk_kept h1 hk (fun h2 => by omega),Kd.S_kept h3 hk (fun k ho h2 => by have := l2 k ho;omega)⟩,h4,h5⟩,fun k ho => Nat.lt_of_lt_of_le (h6 k ho) hk.1⟩
/-- What turned the first frame's rows: the screen and the others stay. -/
theorem Fx.fin (h : Fx base pa O W w S FL FX bA bB bK q1 q2 q3 va vb vk) (hk : Kept w w1 (fun k => bA ≤ k ∧ k < bB)) (hB : Below bA w w1) : Fy base pa bA w1.heap.size O W w1 S FL bB bK q2 q3 vb vk := by
 obtain ⟨l1,l2,l3,l4,l5,l6,l7,l8⟩ := h.lt
 have hx3 := blk_kept h.x3 hk (fun h2 => by omega)
 have hl3 := blk_lt hx3
 have hx2 := blk_kept h.x2 hk (fun h2 => by omega)
 refine ⟨h.scr.keeps hk (fun k h2 => ⟨fun ho => by have := l2 k ho;omega,by omega⟩),Nat.le_refl _,h.below.trans (hB.mono l3),Kd.S_mono (Kd.S_kept h.b hk (fun k h1 h2 => by omega)) (fun k hk => by omega),Kd.S_mono (Kd.S_kept h.k hk (fun k h1 h2 => by omega)) (fun k hk => by omega),hx2,hx3,l1,l2,l3,by omega,⟨by omega,by omega⟩,by omega,hl3⟩
end
def uf41.T : Bool × List (List Nat × List Nat) := (true,[([],[]),([0],[0]),([],[]),([2],[2]),([1,3,2],[1,3])])
def uf41.B : List Nat := [0,1,0,4,15]
theorem uf41.tab : rtab .any (opsOf Tryd.f6 41) = uf41.T := by kernel_rfl
theorem uf41.bits : waitsOk uf41.T.2 uf41.B = true := by kernel_rfl
set_option maxRecDepth 100000 in
set_option maxHeartbeats 8000000 in
theorem fresh_any (a0 a1 : Int) (h0 : 0 ≤ a0 ∧ a0 ≤ 255) (h1 : 0 ≤ a1 ∧ a1 ≤ 255) (bytes more : ByteArray) (W : World) (hz : bytes.size ≤ 1048576) (hm : more.size ≤ 1048576) (hT : Lib.Utf8Tabs 0 1 W) :
  Calls Tryd.prog 6 #[.int .u8 a0,.int .u8 a1,.string bytes,.string more] W fun e w' => e = .returned (.bool true) ∧ Below W.heap.size W w' := by
 have h2 := tabs_two hT
 go_enter Tryd.func6,Tryd.ntmps6
 go_upto_region 4 with (first | (go_at_call 13;refine (law_shows _ hT h2).mono ?_;rintro e w1 ⟨rfl,hb1⟩;have hN1 := hb1) | (go_at_call 14;refine (scr_new a0 a1 _).mono ?_;rintro e w2 ⟨pa,rfl,hpa,hSa,hb2⟩;have hA0 := hSa W.heap.size hN1.size;have hN2 := hN1.trans (hb2.mono hN1.size)))
 have hbs0 := hN2.size
 have hfit := fit_new a0 a1
 generalize (newSc a0 a1,(⟨#[]⟩ : ByteArray)) = S0 at hA0 hfit
 clear hSa hN1 hb1 hb2 hpa
 go_upto_region 5 with (go_at_call 16;refine (scr_feed hA0 hbs0 h2 (tabs_base hT hN2 h2) hfit bytes (by omega)).mono ?_;rintro e w3 ⟨rfl,O,hM3⟩)
 have hN3 := hN2.trans hM3.below
 have hA3 := hM3.scr
 have hf3 := hfit.feed bytes
 generalize feedS S0 bytes = S at hA3 hf3
 have hok := hf3.ok
 have hbs3 := hN3.size
 clear hM3 hA0 hN2 hbs0 hfit
 go_upto_region 6 with (first | (go_at_call 20;refine (scr_frame hA6 hbs6 hok _).mono ?_;rintro e w7 ⟨rb,rfl,hG7,hM⟩;have hA7 := hM.scr;have hN7 := hN6.trans hM.below;have hbs7 := hN7.size;have hF7 := Kd.S_kept hF6 hM.kept (fun k hk he => he.elim (fun h => by have := hbd4 _ h;omega) (fun h => by omega));have hlt6 := hA6.lt;have hbd6 := hA6.bd;have hG7 := Kd.S_old hG7 (Below.refl _ _);have hsz6 := hM.kept.1;obtain ⟨GA,gc,rfl⟩ := Kd.R_slice (Kd.S_R hG7);clear hA6 hM hF6) | (go_at_call 21;refine (scr_rows hA5 hbs5 hok).mono ?_;rintro e w6 ⟨rfl,hM⟩;have hA6 := hM.scr;have hN6 := hN5.trans hM.below;have hbs6 := hN6.size;have hF6 := Kd.S_kept hF5 hM.kept (fun k hk he => he.elim (fun h => by have := hbd4 _ h;omega) (fun h => by omega));have hsz5 := hM.kept.1;clear hA5 hM hF5) | (go_at_call 20;refine (scr_frame hA4 hbs4 hok _).mono ?_;rintro e w5 ⟨ra,rfl,hF5,hM⟩;have hA5 := hM.scr;have hN5 := hN4.trans hM.below;have hbs5 := hN5.size;have hF5 := Kd.S_old hF5 (Below.refl _ _);have hlt4 := hA4.lt;have hbd4 := hA4.bd;have hsz4 := hM.kept.1;obtain ⟨FA,fc,rfl⟩ := Kd.R_slice (Kd.S_R hF5);clear hA4 hM) | (go_at_call 21;refine (scr_rows hA3 hbs3 hok).mono ?_;rintro e w4 ⟨rfl,hM⟩;have hA4 := hM.scr;have hN4 := hN3.trans hM.below;have hbs4 := hN4.size;clear hA3 hM))
 generalize hFLe : frameL S.1.rows (S.1.frameN S.1.nrows) = FL at hF7 hG7 ⊢
 have hFLH := Lib.hid hFLe
 clear hFLe
 have hal1 := below_alloc (Below.refl _ w7) (.cells #[.int .i64 S.1.w,.slice FA FL.length fc,.int .i64 S.1.r,.int .i64 S.1.c] 26 (0,0))
 have hx1 := World.alloc_heap_new w7 (.cells #[.int .i64 S.1.w,.slice FA FL.length fc,.int .i64 S.1.r,.int .i64 S.1.c] 26 (0,0))
 have hsA : (w7.alloc (.cells #[.int .i64 S.1.w,.slice FA FL.length fc,.int .i64 S.1.r,.int .i64 S.1.c] 26 (0,0))).heap.size = w7.heap.size + 1 := World.size_alloc _ _
 have hal2 := below_alloc (Below.refl _ (w7.alloc (.cells #[.int .i64 S.1.w,.slice FA FL.length fc,.int .i64 S.1.r,.int .i64 S.1.c] 26 (0,0)))) (.cells #[.int .i64 S.1.w,.slice GA FL.length gc,.int .i64 S.1.r,.int .i64 S.1.c] 26 (0,0))
 have hx2 := World.alloc_heap_new (w7.alloc (.cells #[.int .i64 S.1.w,.slice FA FL.length fc,.int .i64 S.1.r,.int .i64 S.1.c] 26 (0,0))) (.cells #[.int .i64 S.1.w,.slice GA FL.length gc,.int .i64 S.1.r,.int .i64 S.1.c] 26 (0,0))
 have hx1 := blk_below hx1 hal2
 rw [hsA] at hx2
 have hal := hal1.trans (hal2.mono hal1.size)
 have hA8 := hA7.below hal
 have hF8 := Kd.S_below hF7 hal
 have hG8 := Kd.S_below hG7 hal
 have hN8 := hN7.trans (hal.mono hbs7)
 have hbs8 := hN8.size
 have hsz8 := hal2.size
 rw [hsA] at hsz8
 generalize (w7.alloc (.cells #[.int .i64 S.1.w,.slice FA FL.length fc,.int .i64 S.1.r,.int .i64 S.1.c] 26 (0,0))).alloc (.cells #[.int .i64 S.1.w,.slice GA FL.length gc,.int .i64 S.1.r,.int .i64 S.1.c] 26 (0,0)) = w8 at hx1 hx2 hA8 hF8 hG8 hN8 hbs8 hsz8 hal ⊢
 have hsz8' : w7.heap.size + 1 < w8.heap.size := blk_lt hx2
 clear hal1 hal2 hsA hsz8
 go_upto_region 7 with (first | (go_at_call 20;refine (scr_frame hA9 hbs9 hok _).mono ?_;rintro e w10 ⟨rk,rfl,hK10,hM⟩;rw [hFLH.out] at hK10;have hA10 := hM.scr;have hN10 := hN9.trans hM.below;have hbs10 := hN10.size;have hF10 := Kd.S_kept hF9 hM.kept (fun k hk he => he.elim (fun h => by have := hbd4 _ h;omega) (fun h => by omega));have hG10 := Kd.S_kept hG9 hM.kept (fun k hk he => he.elim (fun h => by have := hbd6 _ h;omega) (fun h => by omega));have hx1c := blk_kept hx1b hM.kept (fun he => he.elim (fun h => by have := hbd6 _ h;omega) (fun h => by omega));have hx2c := blk_kept hx2b hM.kept (fun he => he.elim (fun h => by have := hbd6 _ h;omega) (fun h => by omega));have hK10 := Kd.S_old hK10 (Below.refl _ _);have hsz9 := hM.kept.1;obtain ⟨KA,kc,rfl⟩ := Kd.R_slice (Kd.S_R hK10);clear hA9 hM hF9 hG9) | (go_at_call 21;refine (scr_rows hA8 hbs8 hok).mono ?_;rintro e w9 ⟨rfl,hM⟩;have hA9 := hM.scr;have hN9 := hN8.trans hM.below;have hbs9 := hN9.size;have hsz8 := hM.kept.1;have hF9 := Kd.S_kept hF8 hM.kept (fun k hk he => he.elim (fun h => by have := hbd4 _ h;omega) (fun h => by omega));have hG9 := Kd.S_kept hG8 hM.kept (fun k hk he => he.elim (fun h => by have := hbd6 _ h;omega) (fun h => by omega));have hx1b := blk_kept hx1 hM.kept (fun he => he.elim (fun h => by have := hbd6 _ h;omega) (fun h => by omega));have hx2b := blk_kept hx2 hM.kept (fun he => he.elim (fun h => by have := hbd6 _ h;omega) (fun h => by omega));clear hA8 hM hF8 hG8))
 have hal := below_alloc (Below.refl _ w10) (.cells #[.int .i64 S.1.w,.slice KA FL.length kc,.int .i64 S.1.r,.int .i64 S.1.c] 26 (0,0))
 have hX : Fx W.heap.size pa O W (w10.alloc (.cells #[.int .i64 S.1.w,.slice KA FL.length kc,.int .i64 S.1.r,.int .i64 S.1.c] 26 (0,0))) S FL FL w4.heap.size w6.heap.size w9.heap.size w7.heap.size (w7.heap.size + 1) w10.heap.size (.slice FA FL.length fc) (.slice GA FL.length gc) (.slice KA FL.length kc) :=
  ⟨hA10.below hal,Nat.le_trans hbs10 hal.size,hN10.trans (hal.mono hbs10),Kd.S_mono (Kd.S_below hF10 hal) (fun k hk => ⟨hk.1,by have := hk.2;omega⟩),Kd.S_below hG10 hal,Kd.S_below hK10 hal,blk_below hx1c hal,blk_below hx2c hal,World.alloc_heap_new w10 _,
   hlt4,hbd4,hbs4,by omega,hsz6,by omega,by omega,hsz9⟩
 generalize w10.alloc (.cells #[.int .i64 S.1.w,.slice KA FL.length kc,.int .i64 S.1.r,.int .i64 S.1.c] 26 (0,0)) = wA at hX ⊢
 generalize w4.heap.size = bA at hX
 generalize w6.heap.size = bB at hX
 generalize w9.heap.size = bK at hX
 generalize w10.heap.size = q3 at hX ⊢
 have hFle : FL.length ≤ 65535 := by
  rw [← hFLH.out,frameL_len]
  unfold Sc.frameN
  have := hok.h2
  omega
 have hFrow : ∀ i,(FL.getD i []).length ≤ 65535 := fun i => by
    rw [← hFLH.out]
    have hle := hok.cl
    by_cases hq : i < (frameL S.1.rows (S.1.frameN S.1.nrows)).length
    ·rw [frameL_len] at hq
     unfold frameL
     rw [List.getD_eq_getElem?_getD,List.getElem?_map,List.getElem?_range hq]
     show (trimR (S.1.rows.getD i [])).length ≤ 65535
     rw [trimR_len]
     refine Nat.le_trans (trimN_le _ _) ?_
     by_cases hjl : i < S.1.rows.length
     ·refine Nat.le_trans (hle _ ?_) hok.w2
      rw [List.getD_eq_getElem?_getD,List.getElem?_eq_getElem hjl]
      exact List.getElem_mem _
     ·rw [List.getD_eq_getElem?_getD,List.getElem?_eq_none (by omega)]
      exact Nat.zero_le _
    ·rw [List.getD_eq_getElem?_getD,List.getElem?_eq_none (by omega)]
     exact Nat.zero_le _
 have hFrw : ∀ row ∈ FL,row.length ≤ 1099511627776 := by
  have h9 := (frame_rows hok (S.1.nrows : Int)).2
  rw [hFLH.out] at h9
  exact h9
 have hFpos : 0 < FL.length := by
  rw [← hFLH.out,frameL_len]
  unfold Sc.frameN
  have := hok.h1
  omega
 obtain ⟨gA,cA,hv,_,_,_,_⟩ := Kd.S_form hX.a hFpos
 injection hv with hv1 _ hv3
 subst hv1;subst hv3
 have e1 := blk_cell hX.x1 1
 clear hal hA10 hF10 hG10 hK10 hx1c hx2c hN10 hbs10
 go_wp2_with (fail)
 clear e1
 go_loopw [48] (fun v wr => ∃ (i : Nat) (FX : List (List Cl)),v = .int .i64 i ∧ i ≤ FL.length ∧ Fx W.heap.size pa O W wr S FL FX bA bB bK w7.heap.size (w7.heap.size + 1) q3 (.slice (some ⟨gA,0,none⟩) FL.length fc) (.slice GA FL.length gc) (.slice KA FL.length kc) ∧ Ov FX FL i 0) (fun v _ => FL.length - (intOf v).toNat)
 case atStart => exact ⟨0,FL,rfl,Nat.zero_le _,hX,rfl,fun _ => rfl,fun j hj => absurd hj (Nat.not_lt_zero j),fun c hc => absurd hc (Nat.not_lt_zero c)⟩
 case round =>
  obtain ⟨i,FX,rfl,hi,hXi,hOv⟩ := hrel
  clear hX
  by_cases hlt : i < FL.length
  ·have hlt' : (i : Int) < (FL.length : Int) := by omega
   have e1 := blk_cell hXi.x1 1
   have hSa := hXi.a
   rw [← hOv.n] at hSa
   obtain ⟨oki,A,c,hR,r0,_,_,_⟩ := row_of hSa i (by rw [hOv.n];exact hlt)
   have hfcc := (Kd.S_reads' hXi.a).2.1
   have hLn := hOv.l i
   generalize hLe : (FX.getD i []).length = n at hR r0 hLn
   have hn2 : n ≤ 65535 := by rw [hLn];exact hFrow i
   have hLH := Lib.hid hLe
   clear hLe hLn hR
   go_upto_block 2 with (fail)
   clear e1 r0 hSa
   go_wp2_with (fail)
   go_loopw [57] (fun v wq => ∃ (k : Nat) (FY : List (List Cl)),v = .int .i64 k ∧ k ≤ n ∧ Hid ((FY.getD i []).length = n) ∧ Fx W.heap.size pa O W wq S FL FY bA bB bK w7.heap.size (w7.heap.size + 1) q3 (.slice (some ⟨gA,0,none⟩) FL.length fc) (.slice GA FL.length gc) (.slice KA FL.length kc) ∧ Ov FY FL i k) (fun v _ => n - (intOf v).toNat)
   case atStart => exact ⟨0,FX,rfl,Nat.zero_le _,hLH,hXi,hOv⟩
   case round =>
    obtain ⟨k,FY,rfl,hk,hLY,hXk,hOk⟩ := hrel
    clear hXi hOv
    by_cases hkl : k < n
    ·have hkl' : (k : Int) < (n : Int) := by omega
     have hSk := hXk.a
     have hYn := hOk.n
     rw [← hYn] at hSk
     have e1 := blk_cell hXk.x1 1
     obtain ⟨gi,c2,r0,hcc,hgk,hgb,hgne,x0,x1,y0,y1,hS2⟩ := S_cell hSk i (by rw [hYn];exact hlt) k (by rw [hLY.out];exact hkl) ovC
     have hO2 := hOk.cell (by rw [hYn];exact hlt) (by rw [hLY.out];exact hkl) ovC rfl
     have hl2 : ((FY.set i ((FY.getD i []).set k ovC)).getD i []).length = n := by
      rw [rw_set _ _ _ _ (by rw [hYn];exact hlt),if_pos rfl,List.length_set]
      exact hLY.out
     have hl2H := Lib.hid hl2
     clear hl2
     rw [hLY.out] at r0 hcc
     rw [hYn] at hS2
     obtain ⟨hBp,hKp⟩ := kept_put (base := bA) (g := gi) k (.string ovC.f0) (.int .i64 ovC.f1) hgb (Below.refl bA _) (Kept.refl wr _)
     have hX2 := hXk.turn (hKp.mono (fun b hb => by rw [hb];exact hgk)) hBp hS2
     clear hSk hS2 hBp hKp hYn
     go_wp2_with (fail)
     go_roundw
     case rel => exact ⟨k + 1,_,by go_num,by omega,hl2H,hX2,hO2⟩
     case measure => simp [intOf];omega
    ·have hkl' := eq_false (show ¬ (k : Int) < (n : Int) by omega)
     have hkn := Lib.hid (show k = n by omega)
     go_wp2_with (fail)
     go_roundw
     case rel => exact ⟨i + 1,FY,by go_num,hlt,hXk,hOk.next (by rw [hLY.out];exact hkn.out)⟩
     case measure => simp [intOf];omega
  ·have hie : i = FL.length := by omega
   clear hlt
   have e1 := blk_cell hXi.x1 1
   have hlt2 := eq_false (show ¬ (i : Int) < (FL.length : Int) by omega)
   go_wp2_with (fail)
   rw [hie] at hOv
   clear e1 hlt2 hie
   go_loopw [73] (fun v wr => ∃ i2 : Nat,v = .int .i64 i2 ∧ i2 ≤ FL.length ∧ Fx W.heap.size pa O W wr S FL FX bA bB bK w7.heap.size (w7.heap.size + 1) q3 (.slice (some ⟨gA,0,none⟩) FL.length fc) (.slice GA FL.length gc) (.slice KA FL.length kc)) (fun v _ => FL.length - (intOf v).toNat)
   case atStart => exact ⟨0,rfl,Nat.zero_le _,hXi⟩
   case round =>
    obtain ⟨i2,rfl,hi2,hX2⟩ := hrel
    clear hXi
    by_cases hlt : i2 < FL.length
    ·have hlt' : (i2 : Int) < (FL.length : Int) := by omega
     have e1 := blk_cell hX2.x1 1
     have hSa := hX2.a
     rw [← hOv.n] at hSa
     obtain ⟨oki,A,c,hR,r0,_,hoki,hH⟩ := row_of hSa i2 (by rw [hOv.n];exact hlt)
     have hfcc := (Kd.S_reads' hX2.a).2.1
     generalize hLe : FX.getD i2 [] = L at hR r0 hH
     have hLeH := Lib.hid hLe
     clear hLe
     go_upto_block 6 with (fail)
     have hPr := Pr.start hR (Nat.le_refl _)
     have hbAs := hX2.lt.2.2.1
     have hbAw : bA ≤ wr.heap.size := by
      obtain ⟨l1,l2,l3,l4,l5,l6,l7,l8⟩ := hX2.lt
      have := blk_lt hX2.x1
      omega
     have hLl : L.length ≤ 1099511627000 := by
      rw [← hLeH.out,hOv.l]
      have := hFrow i2
      omega
     generalize hws : wr = ws at hX2 hR hH hPr hbAw r0 e1 hSa ⊢
     go_wp2_with (fail)
     go_loopw [16,81] (fun v16 v81 wr => ∃ (j : Nat) (X : List Cl) (rv : Value),v16 = rv ∧ v81 = .int .i64 j ∧ j ≤ 16 ∧ X.length = L.length + j ∧ Pr bA ws.heap.size oki wr (.slice A L.length c) rv L X ∧ Kept ws wr oki ∧ Below bA ws wr) (fun _ v _ => 16 - (intOf v).toNat)
     case atStart => exact ⟨0,L,_,rfl,rfl,Nat.zero_le _,rfl,hPr,Kept.refl _ _,Below.refl _ _⟩
     case round =>
      obtain ⟨j,X,rv,rfl,rfl,hj,hXl,hP,hK,hB⟩ := hrel
      by_cases hj2 : j < 16
      ·have hj' : (j : Int) < 16 := by omega
       have hsz := hK.1
       have hXb : X.length ≤ 1099511627776 := by omega
       have hXH := Lib.hid hXl
       clear hXl
       go_wp2_with ((with_reducible refine gate_builtin (b := .append) (xs := #[.tmp 83,.tmp 85]) rfl ?_);at_builtin;(refine pr_append (w0 := ws) bA rfl (.tmp 83) (.tmp 85) rfl (⟨⟨#[103,114,111,119,110]⟩,0⟩ : Cl) rfl rfl hP hsz hB (Nat.le_trans hbAw hsz) hXb ?_;intro v1 w1 hP1 hB1 hg1))
       have hK1 := Kept.of_grown hg1 hK (fun b hb => by
        rcases hP.fr with he | hf
        ·exact .inl (hP.s.1 b (he ▸ hb))
        ·exact .inr (hf b hb))
       go_roundw
       case rel => exact ⟨j + 1,_,_,rfl,by go_num,by omega,by rw [List.length_append,hXH.out];rfl,hP1,hK1,hB1⟩
       case measure => simp [intOf];omega
      ·have hH3 := Kd.H_kept hH hK (fun b _ hn he => hn he)
       have hS3 := Kd.H_back hH3 (Kd.M_row hP.s) (fun b hb => hb)
       rw [Int.toNat_natCast,← hLeH.out,set_same,hOv.n] at hS3
       have hX3 := hX2.turn (hK.mono (fun b hb => (hoki b hb).1)) hB hS3
       clear hS3 hH3
       go_upto_region 24 with (fail)
       clear hP hK hB hPr hR hH hX2 hSa r0 e1
       have e1 := blk_cell hX3.x1 1
       have hSb := hX3.a
       rw [← hOv.n] at hSb
       obtain ⟨oki2,A2,c2,hR2,r2,_,hoki2,hH2⟩ := row_of hSb i2 (by rw [hOv.n];exact hlt)
       rw [hLeH.out] at hR2 r2 hH2
       have hbw : bA ≤ wr.heap.size := by
        obtain ⟨l1,l2,l3,l4,l5,l6,l7,l8⟩ := hX3.lt
        have := blk_lt hX3.x1
        omega
       have hLl2 : L.length ≤ 1099511627776 := by omega
       clear hSb
       go_wp2_with ((with_reducible refine gate_builtin (b := .append) (xs := #[.tmp 92,.const (.int .i64 64)]) rfl ?_);at_builtin;(refine row_zeros (w0 := wr) (slot := .slice A2 L.length c2) bA rfl (.tmp 92) (.const (.int .i64 64)) rfl rfl rfl hR2 (Below.refl _ _) hbw hLl2 ?_;intro v1 w1 hR3 hB3 hg3))
       have hK3 : Kept wr w1 oki2 := Kept.of_grown hg3 (Kept.refl _ _) (fun b hb => .inl (hR2.1 b hb))
       have hH4 := Kd.H_kept hH2 hK3 (fun b _ hn he => hn he)
       have hS4 := Kd.H_back hH4 (Kd.M_row hR3) (fun b hb => hb)
       rw [Int.toNat_natCast,← hLeH.out,set_same,hOv.n] at hS4
       have hX4 := hX3.turn (hK3.mono (fun b hb => (hoki2 b hb).1)) hB3 hS4
       go_roundw
       case rel => exact ⟨i2 + 1,by go_num,hlt,hX4⟩
       case measure => simp [intOf];omega
    ·have hlt' := eq_false (show ¬ (i2 : Int) < (FL.length : Int) by omega)
     have e1 := blk_cell hX2.x1 1
     go_wp2_with (fail)
     clear e1 hlt hlt'
     go_loopw [98] (fun v wr => ∃ i3 : Nat,v = .int .i64 i3 ∧ i3 ≤ FL.length ∧ Fx W.heap.size pa O W wr S FL FX bA bB bK w7.heap.size (w7.heap.size + 1) q3 (.slice (some ⟨gA,0,none⟩) FL.length fc) (.slice GA FL.length gc) (.slice KA FL.length kc)) (fun v _ => FL.length - (intOf v).toNat)
     case atStart => exact ⟨0,rfl,Nat.zero_le _,hX2⟩
     case round =>
      obtain ⟨i3,rfl,hi3,hX3⟩ := hrel
      clear hX2
      by_cases hlt : i3 < FL.length
      ·have hlt' : (i3 : Int) < (FL.length : Int) := by omega
       have hSb := hX3.a
       rw [← hOv.n] at hSb
       obtain ⟨oki2,A2,c2,hR2,r2,_,hoki2,hH2⟩ := row_of hSb i3 (by rw [hOv.n];exact hlt)
       have hC2 := (Kd.R_reads' hR2).2.2
       have hd9 := hOv.d i3 hlt
       have hLl := hFrow i3
       rw [← hOv.l] at hLl
       have hfcc := (Kd.S_reads' hX3.a).2.1
       generalize FX.getD i3 [] = L at hR2 r2 hC2 hd9 hLl
       clear hSb hH2
       generalize hws : wr = ws at hX3 hR2 r2 hC2 ⊢
       go_wp2_with (fail)
       go_loopw [104] (fun v wr => ∃ k : Nat,v = .int .i64 k ∧ k ≤ L.length ∧ Below ws.heap.size ws wr) (fun v _ => L.length - (intOf v).toNat)
       case atStart => exact ⟨0,rfl,Nat.zero_le _,Below.refl _ _⟩
       case round =>
        obtain ⟨k,rfl,hk,hB⟩ := hrel
        by_cases hkl : k < L.length
        ·have hkl' : (k : Int) < (L.length : Int) := by omega
         obtain ⟨ad,rfl,l0,l1⟩ := cells_at (Kd.C_below hC2 hB) k hkl
         have h9 := hd9 k hkl
         rw [h9] at l1
         go_wp2_with (fail)
         go_roundw
         case rel => exact ⟨k + 1,by go_num,hkl,hB.trans ((below_alloc (Below.refl _ wr) _).mono hB.size)⟩
         case measure => simp [intOf];omega
        ·have hkl' := eq_false (show ¬ (k : Int) < (L.length : Int) by omega)
         go_wp2_with (fail)
         go_roundw
         case rel => exact ⟨i3 + 1,by go_num,hlt,hX3.more hB⟩
         case measure => simp [intOf];omega
      ·have hlt' := eq_false (show ¬ (i3 : Int) < (FL.length : Int) by omega)
       have e1 := blk_cell hX3.x1 1
       go_wp2_with (fail)
       clear e1 hlt hlt'
       go_loopw [116] (fun v wr => ∃ (i4 : Nat) (FZ : List (List Cl)),v = .int .i64 i4 ∧ i4 ≤ FL.length ∧ FZ.length = FL.length ∧ Fx W.heap.size pa O W wr S FL FZ bA bB bK w7.heap.size (w7.heap.size + 1) q3 (.slice (some ⟨gA,0,none⟩) FL.length fc) (.slice GA FL.length gc) (.slice KA FL.length kc)) (fun v _ => FL.length - (intOf v).toNat)
       case atStart => exact ⟨0,FX,rfl,Nat.zero_le _,hOv.n,hX3⟩
       case round =>
        obtain ⟨i4,FZ,rfl,hi4,hZn,hX4⟩ := hrel
        clear hX3
        by_cases hlt : i4 < FL.length
        ·have hlt' : (i4 : Int) < (FL.length : Int) := by omega
         have hSb := hX4.a
         have hfcc := (Kd.S_reads' hX4.a).2.1
         rw [← hZn] at hSb
         obtain ⟨oki4,A4,c4,hR4,r4,rf4,hoki4,hH4⟩ := row_of hSb i4 (by rw [hZn];exact hlt)
         have hS5 := row_back hH4 (by rw [hZn];exact hlt) rfl (Kd.R_nil _ _ _ _ _)
         rw [hZn] at hS5
         have hgA := own_in hX4.a gA rfl
         have hX5 := hX4.turn ((Kept.refl wr (fun b => bA ≤ b ∧ b < bB)).setCell (p := ⟨gA,i4,none⟩) (.inl hgA.1) (.slice none 0 0)) ((Below.refl bA wr).setCell (p := ⟨gA,i4,none⟩) hgA.2 (.slice none 0 0)) hS5
         have e1 := blk_cell hX4.x1 1
         have hZH := Lib.hid hZn
         clear hS5 hSb hZn hR4
         go_wp2_with (fail)
         go_roundw
         case rel => exact ⟨i4 + 1,_,by go_num,hlt,by rw [List.length_set];exact hZH.out,hX5⟩
         case measure => simp [intOf];omega
        ·have hlt' := eq_false (show ¬ (i4 : Int) < (FL.length : Int) by omega)
         go_upto_region 41 with (fail)
         clear hlt'
         obtain ⟨kS,hSF'⟩ := sframe_refl S.1.w S.1.r S.1.c FL (by omega) hFrw
         have hSF := hSF' kS (Nat.le_refl _)
         clear hSF'
         have e1 := blk_cell hX4.x1 1
         have hSb := hX4.a
         have hgA := own_in hX4.a gA rfl
         refine start_ (n := 5) (S := fun w' => w'.cell? ⟨w7.heap.size,1,none⟩ = some (.slice (some ⟨gA,0,none⟩) FL.length fc)) (ds := []) #[false,false,false,false,false] (by kernel_rfl) rfl rfl e1 (fun hHeld => ?_);refine with_tabW uf41.tab uf41.bits (fun HT_ HW_ => ?_)
         have hdr := below_drew (Below.refl wr.heap.size wr)
         have hS2 := Kd.S_drew hSb
         generalize wr.drew = wq at hdr hS2 hHeld ⊢
         clear e1 hSb
         refine pure_ (i := 0) (N := (some 124)) (v := ?_) (a' := ?_) #[true,false,false,false,false] rfl rfl (any_of HT_.out (by kernel_rfl)) (fun _ _ _ h => h) (Or.inl ⟨by rfl,?_⟩) ?_ ?_
         rotate_left
         ·intro w'
          go_simp
          with_reducible rfl
         rotate_left
         ·simp only [Act.put,List.setIfInBounds_toArray,List.set_cons_zero,List.set_cons_succ,i64_w,i32_w]
          rfl
         refine take_ (i := 1) (N := (some 125)) (v := ?_) (a' := ?_) #[true,true,false,false,false] rfl rfl (take_ofW HT_.out HW_.out (by kernel_rfl)) (fun _ _ _ h => h) (Or.inl ⟨by rfl,?_⟩) hHeld ?_ ?_
         rotate_left
         ·rintro w' s1
          go_simp
          with_reducible rfl
         rotate_left
         ·simp only [Act.put,List.setIfInBounds_toArray,List.set_cons_zero,List.set_cons_succ,i64_w,i32_w]
          rfl
         refine one_ (i := 2) (N := (some 126)) #[true,true,true,false,false] rfl rfl (one_of HT_.out (by kernel_rfl)) (by decide) (fun K hK => ?_)
         refine call_ 27 #[.string ⟨#[109,111,114,101]⟩] (by rfl) rfl au6 ?_
         refine (bodkinlaw22_row.calls 10 _ _ _ ex_more).mono ?_
         rintro e wp ⟨vm,rfl,hVm,hbm⟩
         have hdr2 := hdr.trans (hbm.mono hdr.size)
         have hS3 := Kd.S_old hS2 hbm
         have hszm := hbm.size
         refine ⟨_,rfl,hK.out _ _ (cell_below hHeld hbm) (fun hHeld => ?_)⟩
         clear hK K
         obtain ⟨A7,c7,rfl⟩ := Kd.R_slice hVm
         refine norm_ (a' := ?_) ?_ ?_
         rotate_left
         ·show Act.put _ (some 126) _ = _
          simp only [Act.put,List.setIfInBounds_toArray,List.set_cons_zero,List.set_cons_succ,i64_w,i32_w]
          rfl
         refine one_ (i := 3) (N := (some 127)) #[true,true,true,true,false] rfl rfl (one_of HT_.out (by kernel_rfl)) (by decide) (fun K hK => ?_)
         refine value_ (w1 := ?_) (v := ?_) (by rfl) rfl ?_ ?_
         rotate_left 2
         ·go_simp
          constructor
          ·rfl
          ·rfl
         refine hK.out _ _ (cell_below hHeld (below_alloc (Below.refl _ _) _)) (fun hHeld => ?_)
         clear hK K
         refine norm_ (a' := ?_) ?_ ?_
         rotate_left
         ·show Act.put _ (some 127) _ = _
          simp only [Act.put,List.setIfInBounds_toArray,List.set_cons_zero,List.set_cons_succ,i64_w,i32_w]
          rfl
         refine one_ (i := 4) (N := (some 128)) #[true,true,true,true,true] rfl rfl (one_of HT_.out (by kernel_rfl)) (by decide) (fun K hK => ?_)
         have hbAw : bA ≤ wp.heap.size := by
          obtain ⟨l1,l2,l3,l4,l5,l6,l7,l8⟩ := hX4.lt
          have := blk_lt hX4.x1
          have := hdr2.size
          omega
         refine Kd.S_append_step kRow (w0 := wp) bA (by rfl) (.tmp 125) (.tmp 127) 22 36 (.slice none 0 0) 24 rfl Tryd.underlying22 info36 rfl (by decide) (by decide) (.slice (some ⟨gA,0,none⟩) FL.length fc) FZ moreR [.slice A7 moreR.length c7] (fun _ => True) (fun k => wq.heap.size ≤ k) rfl rfl (Kd.M_row (Kd.R_lower (Kd.R_mono (Kd.R_bound hVm) (fun k hk => hk.2.1)) ?_)) (fun k hk => ⟨trivial,fun he => ?_⟩) (fun k hk => trivial) (Kd.S_mono hS3 (fun k hk => ⟨trivial,fun h2 => ?_⟩)) (Below.refl _ _) hbAw ?_ ?_
         ·obtain ⟨l1,l2,l3,l4,l5,l6,l7,l8⟩ := hX4.lt
          have := blk_lt hX4.x1
          have := hdr.size
          omega
         ·have he : some k = some gA := he
          injection he with he
          have hk : wq.heap.size ≤ k := hk
          have : gA < bB := hgA.1.2
          obtain ⟨l1,l2,l3,l4,l5,l6,l7,l8⟩ := hX4.lt
          have := blk_lt hX4.x1
          have := hdr.size
          omega
         ·obtain ⟨l1,l2,l3,l4,l5,l6,l7,l8⟩ := hX4.lt
          have := blk_lt hX4.x1
          have := hdr.size
          have := hk.2
          omega
         ·omega
         intro v8 w8 hS8 hB8 hg8 hat8
         have hBw : Below bA wr w8 := (hdr2.mono (by obtain ⟨l1,l2,l3,l4,l5,l6,l7,l8⟩ := hX4.lt;have := blk_lt hX4.x1;omega)).trans hB8
         have hKw := Kept.of_grown hg8 (Kept.of_below hdr2 (fun k => bA ≤ k ∧ k < bB)) (fun b hb => by injection hb with hb;rw [← hb];exact .inl hgA.1)
         have hY8 := hX4.fin hKw hBw
         refine hK.out _ _ (blk_cell (blk_kept hX4.x1 hKw (fun h2 => by obtain ⟨l1,l2,l3,l4,l5,l6,l7,l8⟩ := hX4.lt;have := h2.2;omega)) 1) (fun hHeld => ?_)
         clear hK K
         refine norm_ (a' := ?_) ?_ ?_
         rotate_left
         ·show Act.put _ (some 128) _ = _
          simp only [Act.put,List.setIfInBounds_toArray,List.set_cons_zero,List.set_cons_succ,i64_w,i32_w]
          rfl
         refine done_ (done_of HT_.out (by kernel_rfl)) ?_
         clear HT_ HW_
         clear hHeld hX4 hS3 hS8 hB8 hg8 hat8 hBw hKw hdr hdr2 hVm hbm hgA hszm hOv
         generalize w7.heap.size + 1 = q2 at hY8 ⊢
         go_upto_region 43 with (go_at_call 28;refine (sc_clone hY8.scr.at_ hok w8.heap.size (Nat.le_refl _)).mono ?_;rintro e w9 ⟨rfl,hC,hb9⟩)
         have hY9 := hY8.more hb9
         have hC9 : Scr w8.heap.size w8.heap.size (fun k => w8.heap.size < k ∧ k < w9.heap.size) w9 S := ⟨hC.bound,fun k hk => hk.2⟩
         have h28 : 2 ≤ w8.heap.size := Nat.le_trans h2 hY8.below.size
         have hlc : w8.heap.size < w9.heap.size := hC9.lt
         have hOc : ∀ k,w8.heap.size < k ∧ k < w9.heap.size → w8.heap.size ≤ k := fun k hk => by omega
         clear hC hb9 hY8
         generalize w8.heap.size = pc at hY9 hC9 h28 hlc hOc ⊢
         obtain ⟨Oc,hC9,hOc⟩ : ∃ Oc : Nat → Prop,Scr pc pc Oc w9 S ∧ ∀ k,Oc k → pc ≤ k := ⟨_,hC9,hOc⟩
         have hq := run_eql_ptr_nil (tp := 28) (te := 69) w9 (some ⟨pc,0,none⟩) Tryd.underlying28 (j := _) rfl
         have hpcb : pc ≤ w9.heap.size := by omega
         obtain ⟨y0,y1,y2,y3⟩ := hY9.boxB
         obtain ⟨z0,z1,z2,z3⟩ := hY9.boxK
         have hbs9 : W.heap.size ≤ w9.heap.size := hY9.below.size
         go_upto_region 45 with (first | (go_at_call 18;refine (scr_shows_own hC11 (Nat.le_of_lt hps11) hok hY11.k (fun k hk => ⟨fun h => by have := hOc k h;omega,by omega⟩) hFLH.out).mono ?_;rintro e w12 ⟨rfl,hM⟩;have hC12 := hM.scr;have hY12 := (hY11.aside (Nat.le_refl _) hOc hM).1;clear hC11 hM hY11) | (go_at_call 18;refine (scr_shows_own hY10.scr hbs10 hok hY10.k (fun k hk => ⟨fun h => by have := hY10.lt.2.1 k h;omega,by have := hY10.lt.1;omega⟩) hFLH.out).mono ?_;rintro e w11 ⟨rfl,hM⟩;have hY11 := hY10.made hM;have hC11 := hC10.other (hY10.apart (Nat.le_refl _) hOc).symm.symm hM.kept;have hps11 := hC11.at_.lt;obtain ⟨z0,z1,z2,z3⟩ := hY11.boxK;clear hC10 hY10 hM hbs10) | (go_at_call 29;refine (bodkinref22_SameFrame.calls kS _ GA gc _ _ _ _ KA kc _ _ _ true _ (Kd.S_reads' hY9.b).2.2 (Kd.S_reads' hY9.b).2.1 (Kd.S_reads' hY9.k).2.2 (Kd.S_reads' hY9.k).2.1 hSF).mono ?_;rintro e w10 ⟨rfl,hb⟩;have hY10 := hY9.more hb;have hC10 := hC9.below hb;have hbs10 := hY10.below.size;obtain ⟨z0,z1,z2,z3⟩ := hY10.boxK;clear hC9 hY9 hb hbs9))
         clear y0 y1 y2 y3 z0 z1 z2 z3 hq hpcb
         have hbs12 := hY12.bs
         go_upto_region 46 with (go_at_call 16;refine (scr_feed hC12 hbs12 h28 (tabs_base hT hY12.below h2) hf3 more (by omega)).mono ?_;rintro e w13 ⟨rfl,O13,hM⟩;have hC13 := hM.scr;obtain ⟨hY13,hO13⟩ := hY12.aside (Nat.le_refl _) hOc hM;clear hC12 hM hY12)
         have hf4 := hf3.feed more
         generalize feedS S more = S4 at hC13 hf4
         have hbs13 := hY13.bs
         go_upto_region 47 with (go_at_call 16;refine (scr_feed hC13 hbs13 h28 (tabs_base hT hY13.below h2) hf4 ⟨#[27,91,72,27,91,74]⟩ (by show _ + 6 ≤ _;omega)).mono ?_;rintro e w14 ⟨rfl,O14,hM⟩;have hY14 := (hY13.aside (Nat.le_refl _) hO13 hM).1;clear hC13 hM hY13)
         obtain ⟨z0,z1,z2,z3⟩ := hY14.boxK
         have hbs14 := hY14.below.size
         go_wp2_with (first | (go_at_call 29;refine (bodkinref22_SameFrame.calls kS _ GA gc _ _ _ _ KA kc _ _ _ true _ (Kd.S_reads' hY15.b).2.2 (Kd.S_reads' hY15.b).2.1 (Kd.S_reads' hY15.k).2.2 (Kd.S_reads' hY15.k).2.1 hSF).mono ?_;rintro e w16 ⟨rfl,hb⟩;have hY16 := hY15.more hb) | (go_at_call 18;refine (scr_shows_own hY14.scr hbs14 hok hY14.k (fun k hk => ⟨fun h => by have := hY14.lt.2.1 k h;omega,by have := hY14.lt.1;omega⟩) hFLH.out).mono ?_;rintro e w15 ⟨rfl,hM⟩;have hY15 := hY14.made hM;obtain ⟨z0,z1,z2,z3⟩ := hY15.boxK;obtain ⟨y0,y1,y2,y3⟩ := hY15.boxB;clear hM hY14))
         go_ret
         exact ⟨rfl,hY16.below⟩
def bodkinlaw22_ScreenFresh.f (a0 a1 : Int) (a2 a3 : ByteArray) : Option Bool :=
 if (0 ≤ a0 ∧ a0 ≤ 255) ∧ (0 ≤ a1 ∧ a1 ≤ 255) ∧ a2.size ≤ 1048576 ∧ a3.size ≤ 1048576 then some true else none
theorem bodkinlaw22_ScreenFresh.calls (a0 a1 : Int) (a2 a3 : ByteArray) (r : Bool) (w : World) (hT : Lib.Utf8Tabs 0 1 w) (h : bodkinlaw22_ScreenFresh.f a0 a1 a2 a3 = some r) :
  Calls Tryd.prog 6 #[.int .u8 a0,.int .u8 a1,.string a2,.string a3] w fun e w' => e = .returned (.bool r) ∧ Below w.heap.size w w' := by
 unfold bodkinlaw22_ScreenFresh.f at h
 split at h
 ·rename_i hs
  obtain ⟨h0,h1,hj,hz⟩ := hs
  obtain rfl := Option.some.inj h
  exact fresh_any a0 a1 h0 h1 a2 a3 w hj hz hT
 ·cases h
end Go.Proofs.YtgdpnmikcopkmaaDoor.U
end
section
namespace Go.Proofs.YtgdpnmikcopkmaaDoor.Pure
open Go Go.RowKit Go.Proofs.YtgdpnmikcopkmaaDoor.U
theorem u8_wf {x : Int} (h : (Lit.int .u8 x).wf = true) : 0 ≤ x ∧ x ≤ 255 := by
 simp only [Lit.wf,Bool.and_eq_true] at h
 exact ⟨of_decide_eq_true h.1,of_decide_eq_true h.2⟩
theorem ScreenFresh (a0 a1 : Int) (a2 a3 : ByteArray) (w0 : (Lit.int .u8 a0).wf = true) (w1 : (Lit.int .u8 a1).wf = true) (u2 : a2.size ≤ 1048576) (u3 : a3.size ≤ 1048576) : bodkinlaw22_ScreenFresh.f a0 a1 a2 a3 = some true := by
 unfold bodkinlaw22_ScreenFresh.f
 rw [if_pos ⟨u8_wf w0,u8_wf w1,u2,u3⟩]
end Go.Proofs.YtgdpnmikcopkmaaDoor.Pure
end
section
namespace Go.Proofs.YtgdpnmikcopkmaaDoor.Lf
open Go.Lib Go.Proofs
theorem own : ownKnob Tryd.prog.godebug = none := by kernel_rfl
theorem extra : U8Extra Tryd.prog Tryd.lays260_ren := {
 n3 := by kernel_rfl
 n4 := by kernel_rfl
 y3 := by kernel_rfl
 y4 := by kernel_rfl
 c5 := by kernel_rfl
 c119 := by kernel_rfl
 c138 := by kernel_rfl }
theorem first_eq : Rows.laid_unicode_utf8_first = Lib.firstData := by kernel_rfl
theorem accept_eq : (Rows.laid_unicode_utf8_acceptRanges : DataW Unit) = Lib.acceptData := by kernel_rfl
abbrev laid : List (String × DataW Unit) := [("unicode/utf8.acceptRanges", Rows.laid_unicode_utf8_acceptRanges), ("unicode/utf8.first", Rows.laid_unicode_utf8_first)]
/-- The two tables lie as the contracts ask. -/
theorem tabs {W : World} (h : laidMetH Tryd.prog laid W) : Lib.Utf8Tabs 0 1 W := by
  rw [MakeChecks.laidMetH_plain _ _ _ (by kernel_rfl)] at h
  have h3 := laidMet.reads h (n := "unicode/utf8.first") (d := Rows.laid_unicode_utf8_first) (List.mem_cons_of_mem _ List.mem_cons_self)
  have h4 := laidMet.reads h (n := "unicode/utf8.acceptRanges") (d := Rows.laid_unicode_utf8_acceptRanges) List.mem_cons_self
  rw [first_eq] at h3
  rw [accept_eq] at h4
  exact utf8Tabs_of_reads Tryd.lays260 extra h3 h4
/-- The world of the witness: the settled one,the tables laid. -/
noncomputable abbrev wit (os : Os) : World := World.laidAll Tryd.prog os laid
theorem wit_laid (os : Os) (args : Array Value) : laidMetH Tryd.prog laid ((wit os).forCall (fun _ _ => 0) ⟨#[],args,[]⟩).memory := by
 rw [MakeChecks.laidMetH_plain _ _ _ (by kernel_rfl)]
 exact laidMet_laidAll _ (by kernel_rfl) (by kernel_rfl)
theorem wit_shaped (os : Os) (args : Array Value) : ((wit os).forCall (fun _ _ => 0) ⟨#[],args,[]⟩).Shaped Tryd.prog :=
 World.shaped_of_ZipB (by kernel_rfl) (by kernel_rfl)
end Go.Proofs.YtgdpnmikcopkmaaDoor.Lf
end
