/- What the law ScreenTypes reaches of this seat's own texts, merged; what nothing uses is left out. -/
import Derived.Test.YtgdpnmikcopkmaaDoorZScreenTypes0
import Derived.Test.YtgdpnmikcopkmaaDoorZScreenTypes1
import Derived.Test.YtgdpnmikcopkmaaDoorZScreenTypes5
import Derived.Test.YtgdpnmikcopkmaaDoorZScreenTypes6
section
namespace Go.Proofs.YtgdpnmikcopkmaaDoor.U
open Go Go.RowKit Go.Proofs.YtgdpnmikcopkmaaDoor.Mu Go.Proofs.YtgdpnmikcopkmaaDoor.Pu Go.Proofs.YtgdpnmikcopkmaaDoor.Mk Go.Proofs.YtgdpnmikcopkmaaDoorW.PrintWords Go.Proofs.YtgdpnmikcopkmaaDoorW.PrintLast Go.Proofs.YtgdpnmikcopkmaaDoorW.PrintMore
set_option linter.unusedVariables false
set_option linter.unusedSimpArgs false
/-- What isn't a blank. -/
def unb (l : List UInt8) : List UInt8 := l.filter (fun b => b.toNat != 32)
theorem unb_app (a b : List UInt8) : unb (a ++ b) = unb a ++ unb b := List.filter_append ..
theorem bl_bytes {x : Cl} (h : isBl x = true) : unb x.f0.data.toList = [] := by
 unfold isBl at h
 rw [Bool.and_eq_true] at h
 have h1 : x.f0.toList = [32] := by simpa using h.1
 rw [Lib.toList_data] at h1
 rw [h1]
 rfl
theorem unb_blanks : ∀ l : List Cl,(∀ x ∈ l,isBl x = true) → unb (bytX l) = []
 | [],_ => rfl
 | x :: l,h => by
  show unb (x.f0.data.toList ++ bytX l) = []
  rw [unb_app,bl_bytes (h x List.mem_cons_self),unb_blanks l (fun y hy => h y (List.mem_cons_of_mem _ hy))]
  rfl
theorem unb_trim (row : List Cl) : unb (bytX (trimR row)) = unb (bytX row) := by
 have h : row = trimR row ++ row.drop (trimN row row.length) := (List.take_append_drop _ _).symm
 have hb : unb (bytX (row.drop (trimN row row.length))) = [] := unb_blanks _ (fun x hx => by
  obtain ⟨j,hj,rfl⟩ := List.mem_iff_getElem.1 hx
  rw [List.length_drop] at hj
  have h2 := trimN_next row row.length (trimN row row.length + j) (by omega) (by omega)
  unfold gC at h2
  rw [List.getD_eq_getElem?_getD,List.getElem?_eq_getElem (by omega)] at h2
  rw [List.getElem_drop]
  exact h2)
 conv => rhs;rw [h,bytX_app,unb_app,hb,List.append_nil]
theorem range_flat {β : Type} (F : List Cl → List β) (h0 : F [] = []) (rows : List (List Cl)) : ∀ N,(List.range N).flatMap (fun i => F (rows.getD i [])) = (rows.take N).flatMap F
 | 0 => rfl
 | N + 1 => by
  rw [List.range_succ,List.flatMap_append,range_flat F h0 rows N,List.take_add_one,List.flatMap_append]
  show _ ++ (F (rows.getD N []) ++ []) = _
  rw [List.getD_eq_getElem?_getD]
  cases rows[N]? with
  | none => rw [List.append_nil];show _ ++ F [] = _ ++ [];rw [h0]
  | some r => rfl
theorem unb_flat : ∀ l : List (List Cl),unb (bytX l.flatten) = l.flatMap (fun r => unb (bytX r))
 | [] => rfl
 | r :: l => by
  rw [List.flatten_cons,bytX_app,unb_app,List.flatMap_cons,unb_flat l]
theorem flat_le {f g : Nat → List UInt8} (h : ∀ i,(f i).length ≤ (g i).length) : ∀ l : List Nat,(l.flatMap f).length ≤ (l.flatMap g).length
 | [] => Nat.le_refl _
 | i :: l => by
  rw [List.flatMap_cons,List.flatMap_cons,List.length_append,List.length_append]
  have := flat_le h l
  have := h i
  omega
theorem bytX_trim (row : List Cl) : (bytX (trimR row)).length ≤ (bytX row).length := by
 have h : row = trimR row ++ row.drop (trimN row row.length) := (List.take_append_drop _ _).symm
 conv => rhs;rw [h,bytX_app,List.length_append]
 omega
theorem bytX_flat : ∀ l : List (List Cl),bytX l.flatten = l.flatMap bytX
 | [] => rfl
 | r :: l => by rw [List.flatten_cons,bytX_app,List.flatMap_cons,bytX_flat l]
/-- A narrow screen that is high enough. -/
theorem Acc.narrow {Y : ByteArray} {X : List Cl} {n : Nat} (h : Acc Y X n) {s : Sc} (hf : Fr s) (hO : s.Ok) (hn : n < s.h) :
  ∃ s',feedS (s,⟨#[]⟩) Y = (s',⟨#[]⟩) ∧ s'.Ok ∧ unb (bytX (frameL s'.rows (s'.frameN s'.nrows)).flatten) = unb Y.data.toList ∧ (bytX (frameL s'.rows (s'.frameN s'.nrows)).flatten).length ≤ Y.size := by
 obtain ⟨s',R,L,e1,e2,e3,e4,e5,e6,e7⟩ := h.nar s hf hn
 have hok := feedS_ok (p := (s,⟨#[]⟩)) hO Y
 rw [e1] at hok
 have hok : s'.Ok := hok
 have hN : s'.frameN s'.nrows = s'.nrows := frameN_nrows hok
 have hr := e2.r
 have hle : R.length + 1 ≤ s'.nrows := by unfold Sc.nrows;omega
 have hg : ∀ i,s'.rows.getD i [] = (R ++ [L]).getD i [] := fun i => by rw [← e2.rows,pad_getD]
 have hT : (R ++ [L]).take s'.nrows = R ++ [L] := List.take_of_length_le (by rw [List.length_append];exact hle)
 have hX : (R ++ [L]).flatten = X := by rw [← e6];simp
 refine ⟨s',e1,hok,?_,?_⟩
 ·rw [hN,unb_flat]
  unfold frameL
  rw [List.flatMap_map]
  have e : (fun a => unb (bytX (trimR (s'.rows.getD a [])))) = (fun a => (fun r => unb (bytX r)) ((R ++ [L]).getD a [])) := by
   funext a
   rw [unb_trim,hg]
  rw [e,range_flat (fun r => unb (bytX r)) rfl (R ++ [L]),hT,← unb_flat,hX,← h.byt]
 ·rw [hN,bytX_flat]
  unfold frameL
  rw [List.flatMap_map]
  refine Nat.le_trans (flat_le (g := fun i => bytX ((R ++ [L]).getD i [])) (fun i => ?_) _) ?_
  ·show (bytX (trimR (s'.rows.getD i []))).length ≤ _
   rw [hg]
   exact bytX_trim _
  ·rw [range_flat bytX rfl (R ++ [L]),hT,← bytX_flat,hX,h.byt,Array.length_toList]
   exact Nat.le_refl _
theorem Acc.new1 {Y : ByteArray} {X : List Cl} {n : Nat} (h : Acc Y X n) (hl : X.length ≤ 2000) :
  ∃ s',feedS (newSc ((X.length : Int) + 1) 1,(⟨#[]⟩ : ByteArray)) Y = (s',⟨#[]⟩) ∧ s'.Ok ∧ s'.nrows = 1 ∧ frameL s'.rows (s'.frameN 1) = [trimR X] := by
 have hc : cntI ((X.length : Int) + 1) = X.length + 1 := by
  unfold cntI mn mx
  split <;> split <;> omega
 by_cases h0 : X.length = 0
 ·obtain rfl : X = [] := List.eq_nil_of_length_eq_zero h0
  have hY : Y = ⟨#[]⟩ := by
   have h2 := h.byt
   apply ByteArray.ext
   have h3 : Y.data.toList = [] := h2.symm
   exact Array.toList_eq_nil_iff.1 h3
  subst hY
  exact ⟨newSc 1 1,rfl,newSc_ok _ _,rfl,rfl⟩
 ·exact h.one (s := newSc ((X.length : Int) + 1) 1) ⟨rfl,rfl,rfl,rfl,by show 2 ≤ cntI _;omega⟩ (newSc_ok _ _) rfl (by show _ < cntI _;omega)
theorem Acc.newN {Y : ByteArray} {X : List Cl} {n : Nat} (h : Acc Y X n) (hl : n ≤ 2000) (hY : Y.size ≤ 1048576) (a : Int) (ha : 2 ≤ a) :
  ∃ s',feedS (newSc a ((Y.size : Int) + 1),(⟨#[]⟩ : ByteArray)) Y = (s',⟨#[]⟩) ∧ s'.Ok ∧ unb (bytX (frameL s'.rows (s'.frameN s'.nrows)).flatten) = unb Y.data.toList ∧ (bytX (frameL s'.rows (s'.frameN s'.nrows)).flatten).length ≤ Y.size := by
 have hc : 2 ≤ cntI a := by
  unfold cntI mn mx
  split <;> split <;> omega
 have hh : n < cntI ((Y.size : Int) + 1) := by
  have := h.le
  unfold cntI mn mx
  split <;> split <;> omega
 exact h.narrow (s := newSc a ((Y.size : Int) + 1)) ⟨rfl,rfl,rfl,rfl,hc⟩ (newSc_ok _ _) hh
theorem bytX_step (row : List Cl) (k : Nat) (h : k < row.length) : bytX (row.take (k + 1)) = bytX (row.take k) ++ (gC row k).f0.data.toList := by
 rw [List.take_add_one,bytX_app,List.getElem?_eq_getElem h]
 unfold gC
 rw [List.getD_eq_getElem?_getD,List.getElem?_eq_getElem h]
 show _ ++ (row[k].f0.data.toList ++ []) = _
 rw [List.append_nil]
 rfl
theorem bytX_next (l : List (List Cl)) (j : Nat) (h : j < l.length) : bytX (l.take j).flatten ++ bytX (l.getD j []) = bytX (l.take (j + 1)).flatten := by
 rw [List.take_add_one,List.flatten_append,bytX_app,List.getElem?_eq_getElem h,List.getD_eq_getElem?_getD,List.getElem?_eq_getElem h]
 show _ = _ ++ bytX (l[j] ++ [])
 rw [List.append_nil]
 rfl
theorem bytX_pre (l : List (List Cl)) (j : Nat) (h : j < l.length) (k : Nat) : (bytX (l.take j).flatten).length + (bytX ((l.getD j []).take k)).length ≤ (bytX l.flatten).length := by
 have h1 : l = l.take (j + 1) ++ l.drop (j + 1) := (List.take_append_drop _ _).symm
 have h2 : l.getD j [] = (l.getD j []).take k ++ (l.getD j []).drop k := (List.take_append_drop _ _).symm
 have h3 := bytX_next l j h
 have h4 : (bytX l.flatten).length = (bytX (l.take (j + 1)).flatten).length + (bytX (l.drop (j + 1)).flatten).length := by
  conv => lhs;rw [h1,List.flatten_append,bytX_app,List.length_append]
 have h5 : (bytX (l.getD j [])).length = (bytX ((l.getD j []).take k)).length + (bytX ((l.getD j []).drop k)).length := by
  conv => lhs;rw [h2,bytX_app,List.length_append]
 rw [← h3,List.length_append] at h4
 omega
theorem row_bd {l : List (List Cl)} {N : Nat} (h : ∀ row ∈ l,row.length ≤ N) (j : Nat) : (l.getD j []).length ≤ N := by
 rw [List.getD_eq_getElem?_getD]
 by_cases hj : j < l.length
 ·rw [List.getElem?_eq_getElem hj]
  exact h _ (List.getElem_mem hj)
 ·rw [List.getElem?_eq_none (by omega)]
  exact Nat.zero_le _
theorem bt_list (s : ByteArray) (i : Nat) (h : i < s.size) : ∃ b r,s.data.toList.drop i = b :: r ∧ s.data.toList.drop (i + 1) = r ∧ bt s (i : Int) = (b.toNat : Int) := by
 have hl : i < s.data.toList.length := by rw [Array.length_toList];exact h
 refine ⟨s.data.toList[i],_,List.drop_eq_getElem_cons hl,rfl,?_⟩
 unfold bt
 rw [Int.toNat_natCast,dif_pos h]
 rfl
theorem unblank_loop (s : ByteArray) (hs : s.size ≤ 1099511627776) : ∀ (n i : Nat) (o : List Int),i + n = s.size → o.length ≤ i → Ev (fun k => bodkinlaw22_unblank.l0 k s o (s.size : Int) (i : Int)) (strOfNums (o ++ (unb (s.data.toList.drop i)).map (fun b => (b.toNat : Int))))
 | 0,i,o,h,ho => by
  have hd : s.data.toList.drop i = [] := List.drop_eq_nil_of_le (by rw [Array.length_toList];show s.size ≤ i;omega)
  exact Ev.step (fun k => bodkinlaw22_unblank.l0.eq_2 ..) (ev_neg (by omega) (ev_now (by rw [hd];show strOfNums o = strOfNums (o ++ []);rw [List.append_nil])))
 | n + 1,i,o,h,ho => by
  obtain ⟨b,r,hd,hr,hb⟩ := bt_list s i (by omega)
  have hw : wrap64 ((i : Int) + 1) = ((i + 1 : Nat) : Int) := by unfold wrap64;omega
  refine Ev.step (fun k => bodkinlaw22_unblank.l0.eq_2 ..) (ev_pos (by omega) (ev_pos (by omega) (ev_pos (by omega) ?_)))
  rw [hw,hb,hd]
  by_cases hq : (b.toNat : Int) = 32
  ·refine ev_pos hq ?_
   have h2 := unblank_loop s hs n (i + 1) o (by omega) (by omega)
   rw [hr] at h2
   have e : unb (b :: r) = unb r := by
    unfold unb
    rw [List.filter_cons_of_neg]
    simp
    omega
   rw [e]
   exact h2
  ·refine ev_neg hq (ev_pos (by omega) ?_)
   have h2 := unblank_loop s hs n (i + 1) (o ++ [(b.toNat : Int)]) (by omega) (by rw [List.length_append,List.length_singleton];omega)
   rw [hr,List.append_assoc] at h2
   have e : unb (b :: r) = b :: unb r := by
    unfold unb
    rw [List.filter_cons_of_pos]
    simp
    omega
   rw [e]
   exact h2
theorem unblank_ans (s : ByteArray) (hs : s.size ≤ 1099511627776) : Ev (fun k => bodkinlaw22_unblank.f k s) (strOfNums ((unb s.data.toList).map (fun b => (b.toNat : Int)))) := unblank_loop s hs s.size 0 [] (by omega) (Nat.le_refl _)
end Go.Proofs.YtgdpnmikcopkmaaDoor.U
end
section
namespace Go.Proofs.YtgdpnmikcopkmaaDoor.U
open Go.RowKit Go.Proofs.YtgdpnmikcopkmaaDoor.Mu Go.Proofs.YtgdpnmikcopkmaaDoor.Pu Go.Proofs.YtgdpnmikcopkmaaDoorW.PrintWords Go.Proofs.YtgdpnmikcopkmaaDoorW.PrintLast Go.Proofs.YtgdpnmikcopkmaaDoorW.PrintMore
set_option linter.unusedVariables false
set_option linter.unusedSimpArgs false
theorem cells_at {row : List Cl} {A : Option Addr} {w : World} (hC : Kd.C k38 w A row.length row) (i : Nat) (hi : i < row.length) : ∃ ad : Addr,A = some ad ∧ w.cell? (ad.add (i * 2)) = some (.string (gC row i).f0) ∧ w.cell? ⟨(ad.add (i * 2)).block,(ad.add (i * 2)).off + 1,none⟩ = some (.int .i64 (gC row i).f1) := by
 obtain ⟨ad,h1,h2,h3⟩ := at_T38 hC (i : Int) (by omega) (by omega)
 rw [Int.toNat_natCast,rd_gC] at h2 h3
 exact ⟨ad,h1,h2,h3⟩
attribute [local go_sem high] cell_eq
end Go.Proofs.YtgdpnmikcopkmaaDoor.U
end
section
namespace Go.Proofs.YtgdpnmikcopkmaaDoor.U
open Go.RowKit Go.Proofs.YtgdpnmikcopkmaaDoorW.PrintWords Go.Proofs.YtgdpnmikcopkmaaDoorW.PrintLast Go.Proofs.YtgdpnmikcopkmaaDoorW.PrintMore
attribute [local go_sem] max2_int min2_int max_two min_two max_three min_three max_four min_four   -- for this text's walks alone
set_option linter.unusedVariables false
set_option linter.unusedSimpArgs false
def width_Cells.f (k : Nat) (a0 : Int) : Option (Int) := (width_Class.f k a0).bind fun t320 => (if t320 = 1 then (some 0) else (if t320 = 4 then (some 2) else (if t320 = 2 then (if a0 ≤ 127 then (some 2) else (some 1)) else (some 1))))
set_option maxHeartbeats 8000000 in
set_option maxRecDepth 100000 in
theorem width_Cells.calls (k : Nat) (a0 : Int) (r : Int) (w : World) (h : width_Cells.f k a0 = some r) :
  Calls Tryd.prog 98 #[.int .i32 a0] w fun e w' => e = .returned (.int .i64 r) ∧ Below w.heap.size w w' := by
 have HB := Aside0.mk (Below.refl w.heap.size w)
 have H : ((width_Class.f k a0).bind fun t320 => (if t320 = 1 then (some 0) else (if t320 = 4 then (some 2) else (if t320 = 2 then (if a0 ≤ 127 then (some 2) else (some 1)) else (some 1))))) = some r := h
 clear h
 replace H := Option.bind_eq_some_iff.mp H
 obtain ⟨t320,A20,H⟩ := H
 replace H : (if t320 = 1 then (some 0) else (if t320 = 4 then (some 2) else (if t320 = 2 then (if a0 ≤ 127 then (some 2) else (some 1)) else (some 1)))) = some r := H
 have A2 := Aside0.mk A20
 clear A20
 by_cases c3 : t320 = 1
 ·rw [if_pos c3] at H
  have c3b0 : (t320 == 1) = true := beq_iff_eq.mpr c3
  have c3b1 : (t320 != 1) = false := bne_eq_false_iff_eq.mpr c3
  clear c3
  obtain rfl := Option.some.inj H
  go_enter Tryd.func98,Tryd.ntmps98
  go_wp2_with (first | ((with_reducible refine gate_callee (f := 66) rfl ?_);refine goesL_ (some 4) rfl rfl Tryd.func66 (by kernel_rfl) rfl #[.int .i32 a0] rfl au1 ?_;(with_reducible refine (width_Class.calls k a0 t320 _ A2.out).mono ?_);rintro e w4 ⟨rfl,hb⟩;refine ⟨_,rfl,?_⟩;have n0_ := Aside0.mk (below_step au0 hb);clear HB;have HB := n0_;clear n0_;(try clear hb);(try clear hb2);(try clear hk);(try clear hi)))
  go_ret
  exact ⟨au2,au0⟩
 ·rw [if_neg c3] at H
  have c3b0 : (t320 == 1) = false := beq_eq_false_iff_ne.mpr c3
  have c3b1 : (t320 != 1) = true := bne_iff_ne.mpr c3
  by_cases c5 : t320 = 4
  ·rw [if_pos c5] at H
   have c5b0 : (t320 == 4) = true := beq_iff_eq.mpr c5
   have c5b1 : (t320 != 4) = false := bne_eq_false_iff_eq.mpr c5
   clear c5
   obtain rfl := Option.some.inj H
   go_enter Tryd.func98,Tryd.ntmps98
   go_wp2_with (first | ((with_reducible refine gate_callee (f := 66) rfl ?_);refine goesL_ (some 4) rfl rfl Tryd.func66 (by kernel_rfl) rfl #[.int .i32 a0] rfl au1 ?_;(with_reducible refine (width_Class.calls k a0 t320 _ A2.out).mono ?_);rintro e w6 ⟨rfl,hb⟩;refine ⟨_,rfl,?_⟩;have n0_ := Aside0.mk (below_step au0 hb);clear HB;have HB := n0_;clear n0_;(try clear hb);(try clear hb2);(try clear hk);(try clear hi)))
   go_ret
   exact ⟨au2,au0⟩
  ·rw [if_neg c5] at H
   have c5b0 : (t320 == 4) = false := beq_eq_false_iff_ne.mpr c5
   have c5b1 : (t320 != 4) = true := bne_iff_ne.mpr c5
   by_cases c7 : t320 = 2
   ·rw [if_pos c7] at H
    have c7b0 : (t320 == 2) = true := beq_iff_eq.mpr c7
    have c7b1 : (t320 != 2) = false := bne_eq_false_iff_eq.mpr c7
    clear c7
    by_cases c8 : a0 ≤ 127
    ·rw [if_pos c8] at H
     have c8b0 : decide (a0 ≤ 127) = true := decide_eq_true c8
     clear c8
     obtain rfl := Option.some.inj H
     go_enter Tryd.func98,Tryd.ntmps98
     go_wp2_with (first | ((with_reducible refine gate_callee (f := 66) rfl ?_);refine goesL_ (some 4) rfl rfl Tryd.func66 (by kernel_rfl) rfl #[.int .i32 a0] rfl au1 ?_;(with_reducible refine (width_Class.calls k a0 t320 _ A2.out).mono ?_);rintro e w9 ⟨rfl,hb⟩;refine ⟨_,rfl,?_⟩;have n0_ := Aside0.mk (below_step au0 hb);clear HB;have HB := n0_;clear n0_;(try clear hb);(try clear hb2);(try clear hk);(try clear hi)))
     go_ret
     exact ⟨au2,au0⟩
    ·rw [if_neg c8] at H
     have c8b0 : decide (a0 ≤ 127) = false := decide_eq_false c8
     clear c8
     obtain rfl := Option.some.inj H
     go_enter Tryd.func98,Tryd.ntmps98
     go_wp2_with (first | ((with_reducible refine gate_callee (f := 66) rfl ?_);refine goesL_ (some 4) rfl rfl Tryd.func66 (by kernel_rfl) rfl #[.int .i32 a0] rfl au1 ?_;(with_reducible refine (width_Class.calls k a0 t320 _ A2.out).mono ?_);rintro e w10 ⟨rfl,hb⟩;refine ⟨_,rfl,?_⟩;have n0_ := Aside0.mk (below_step au0 hb);clear HB;have HB := n0_;clear n0_;(try clear hb);(try clear hb2);(try clear hk);(try clear hi)))
     go_ret
     exact ⟨au2,au0⟩
   ·rw [if_neg c7] at H
    have c7b0 : (t320 == 2) = false := beq_eq_false_iff_ne.mpr c7
    have c7b1 : (t320 != 2) = true := bne_iff_ne.mpr c7
    obtain rfl := Option.some.inj H
    go_enter Tryd.func98,Tryd.ntmps98
    go_wp2_with (first | ((with_reducible refine gate_callee (f := 66) rfl ?_);refine goesL_ (some 4) rfl rfl Tryd.func66 (by kernel_rfl) rfl #[.int .i32 a0] rfl au1 ?_;(with_reducible refine (width_Class.calls k a0 t320 _ A2.out).mono ?_);rintro e w11 ⟨rfl,hb⟩;refine ⟨_,rfl,?_⟩;have n0_ := Aside0.mk (below_step au0 hb);clear HB;have HB := n0_;clear n0_;(try clear hb);(try clear hb2);(try clear hk);(try clear hi)))
    go_ret
    exact ⟨au2,au0⟩
end Go.Proofs.YtgdpnmikcopkmaaDoor.U
end
section
namespace Go.Proofs.YtgdpnmikcopkmaaDoor.U
open Go.RowKit Go.Proofs.YtgdpnmikcopkmaaDoorW.PrintWords Go.Proofs.YtgdpnmikcopkmaaDoorW.PrintLast Go.Proofs.YtgdpnmikcopkmaaDoorW.PrintMore
attribute [local go_sem] max2_int min2_int max_two min_two max_three min_three max_four min_four   -- for this text's walks alone
set_option linter.unusedVariables false
set_option linter.unusedSimpArgs false
def cluster_made.f (k : Nat) (a0 : ByteArray) (a1 : Int) (a2 : Int) : Option (Int × Int × Int × Int) := (unit_At.f k a0 a1).bind fun bt323 => ((width_Class.f k bt323.1).bind fun t327 => ((width_Cells.f k bt323.1).bind fun t328 => (if bt323.1 = 13 then (if 0 ≤ (wrap64 (a1 + 1)) then (if (wrap64 (a1 + 1)) ≤ (a0.size : Int) then ((strings_HasPrefix.f (a0.extract ((wrap64 (a1 + 1)) : Int).toNat a0.size) (⟨#[10]⟩ : ByteArray)).bind fun t330 => (if t330 = true then (some (a1,a2,1,0)) else (some (a1,a2,t327,t328)))) else (none)) else (none)) else (some (a1,a2,t327,t328)))))
def cluster_made.T2 : Bool × List (List Nat × List Nat) := (true,[([],[]),([],[]),([],[]),([2],[2]),([3],[3]),([],[]),([5],[5]),([6,4],[6]),([0,1,4,7],[0,1,4,7]),([],[]),([9,8,7,0,1,2,3,4,5,6,7,8,9],[8,9])])
def cluster_made.B2 : List Nat := [0,0,0,4,12,0,32,124,255,0,1023]
theorem cluster_made.tab2 : rtab .any (opsOf Tryd.f76 2) = cluster_made.T2 := by kernel_rfl
theorem cluster_made.bits2 : waitsOk cluster_made.T2.2 cluster_made.B2 = true := by kernel_rfl
set_option maxHeartbeats 8000000 in
set_option maxRecDepth 100000 in
theorem cluster_made.calls (k : Nat) (a0 : ByteArray) (a1 : Int) (a2 : Int) (r1 : Int) (r2 : Int) (r3 : Int) (r4 : Int) (w : World) (hT : Lib.Utf8Tabs 0 1 w) (h : cluster_made.f k a0 a1 a2 = some (r1,r2,r3,r4)) :
  Calls Tryd.prog 76 #[.string a0,.int .i64 a1,.int .i64 a2] w fun e w' => e = .returned (.agg #[.int .i64 r1,.int .i64 r2,.int .i64 r3,.int .i64 r4]) ∧ Below w.heap.size w w' := by
 have hu62 := Tryd.underlying62
 have hu83 := Tryd.underlying83
 have HT := Aside0.mk hT
 clear hT
 have HB := Aside0.mk (Below.refl w.heap.size w)
 have H : ((unit_At.f k a0 a1).bind fun bt323 => ((width_Class.f k bt323.1).bind fun t327 => ((width_Cells.f k bt323.1).bind fun t328 => (if bt323.1 = 13 then (if 0 ≤ (wrap64 (a1 + 1)) then (if (wrap64 (a1 + 1)) ≤ (a0.size : Int) then ((strings_HasPrefix.f (a0.extract ((wrap64 (a1 + 1)) : Int).toNat a0.size) (⟨#[10]⟩ : ByteArray)).bind fun t330 => (if t330 = true then (some (a1,a2,1,0)) else (some (a1,a2,t327,t328)))) else (none)) else (none)) else (some (a1,a2,t327,t328)))))) = some (r1,r2,r3,r4) := h
 clear h
 replace H := Option.bind_eq_some_iff.mp H
 obtain ⟨⟨t323,t324,t325⟩,A40,H⟩ := H
 replace H : ((width_Class.f k t323).bind fun t327 => ((width_Cells.f k t323).bind fun t328 => (if t323 = 13 then (if 0 ≤ (wrap64 (a1 + 1)) then (if (wrap64 (a1 + 1)) ≤ (a0.size : Int) then ((strings_HasPrefix.f (a0.extract ((wrap64 (a1 + 1)) : Int).toNat a0.size) (⟨#[10]⟩ : ByteArray)).bind fun t330 => (if t330 = true then (some (a1,a2,1,0)) else (some (a1,a2,t327,t328)))) else (none)) else (none)) else (some (a1,a2,t327,t328))))) = some (r1,r2,r3,r4) := H
 have A4 := Aside0.mk A40
 clear A40
 replace H := Option.bind_eq_some_iff.mp H
 obtain ⟨t327,A50,H⟩ := H
 replace H : ((width_Cells.f k t323).bind fun t328 => (if t323 = 13 then (if 0 ≤ (wrap64 (a1 + 1)) then (if (wrap64 (a1 + 1)) ≤ (a0.size : Int) then ((strings_HasPrefix.f (a0.extract ((wrap64 (a1 + 1)) : Int).toNat a0.size) (⟨#[10]⟩ : ByteArray)).bind fun t330 => (if t330 = true then (some (a1,a2,1,0)) else (some (a1,a2,t327,t328)))) else (none)) else (none)) else (some (a1,a2,t327,t328)))) = some (r1,r2,r3,r4) := H
 have A5 := Aside0.mk A50
 clear A50
 replace H := Option.bind_eq_some_iff.mp H
 obtain ⟨t328,A60,H⟩ := H
 replace H : (if t323 = 13 then (if 0 ≤ (wrap64 (a1 + 1)) then (if (wrap64 (a1 + 1)) ≤ (a0.size : Int) then ((strings_HasPrefix.f (a0.extract ((wrap64 (a1 + 1)) : Int).toNat a0.size) (⟨#[10]⟩ : ByteArray)).bind fun t330 => (if t330 = true then (some (a1,a2,1,0)) else (some (a1,a2,t327,t328)))) else (none)) else (none)) else (some (a1,a2,t327,t328))) = some (r1,r2,r3,r4) := H
 have A6 := Aside0.mk A60
 clear A60
 go_enter Tryd.func76,Tryd.ntmps76
 try go_wp2_with (first | ((with_reducible refine gate_dst (N := 6) rfl ?_);refine box_event ?hg (N := 6) ?hd (cs := #[.int .i64 0,.int .i64 0,.int .i64 0,.int .i64 0]) (t := 62) ?hr ?_;(case hd => rfl);(case hg => rfl);(case hr => first | (go_simp;done) | (go_simp;rfl));intro gb322 hg w13 hbox hb;have n0_ := Aside0.mk (below_step au0 hb);have n1_ := Aside0.mk (hbox);have n2_ := Aside0.mk ((by rw [hg];exact (below_size au0) : w.heap.size ≤ gb322));have n3_ := Aside0.mk ((by rw [hg];exact (below_size au0) : w.heap.size ≤ gb322));clear HB;have HB := n0_;have BK322 := n1_;have GW322 := n2_;have GE322 := n3_;clear n0_ n1_ n2_ n3_;clear hb hbox hg) | ((with_reducible refine gate_callee (f := 58) rfl ?_);refine goesL_ (some 13) rfl rfl Tryd.func58 (by kernel_rfl) rfl #[.string a0,.int .i64 a1] rfl au1 ?_;(with_reducible refine (unit_At.calls k a0 a1 t323 t324 t325 _ ?side1 A4.out).mono ?_);(case side1 => exact tabs_below HT.out au15);rintro e w14 ⟨rfl,hb⟩;refine ⟨_,rfl,?_⟩;have n0_ := Aside0.mk (blk_below (g := gb322) (o := .cells #[.int .i64 0,.int .i64 0,.int .i64 0,.int .i64 0] 62 (0,0)) au3 hb);have n1_ := Aside0.mk (below_step au15 hb);clear BK322;clear HB;have BK322 := n0_;have HB := n1_;clear n0_ n1_;(try clear hb);(try clear hb2);(try clear hk);(try clear hi)) | ((with_reducible refine gate_dst (N := 7) rfl ?_);refine box_event ?hg (N := 7) ?hd (cs := #[.int .i32 0,.int .i64 0]) (t := 83) ?hr ?_;(case hd => rfl);(case hg => rfl);(case hr => first | (go_simp;done) | (go_simp;rfl));intro gb326 hg w15 hbox hb;have n0_ := Aside0.mk (blk_below (g := gb322) (o := .cells #[.int .i64 0,.int .i64 0,.int .i64 0,.int .i64 0] 62 (0,0)) au3 hb);have n1_ := Aside0.mk (below_step au15 hb);have n2_ := Aside0.mk (hbox);have n3_ := Aside0.mk ((by rw [hg];exact (below_size au15) : w.heap.size ≤ gb326));have n4_ := Aside0.mk ((by rw [hg];exact (below_size au15) : w.heap.size ≤ gb326));have n5_ := Aside0.mk ((by rw [hg];exact Nat.ne_of_lt (blk_lt (g := gb322) (o := .cells #[.int .i64 0,.int .i64 0,.int .i64 0,.int .i64 0] 62 (0,0)) au3) : gb322 ≠ gb326));have n6_ := Aside0.mk ((by rw [hg];exact Nat.ne_of_gt (blk_lt (g := gb322) (o := .cells #[.int .i64 0,.int .i64 0,.int .i64 0,.int .i64 0] 62 (0,0)) au3) : gb326 ≠ gb322));clear BK322;clear HB;have BK322 := n0_;have HB := n1_;have BK326 := n2_;have GW326 := n3_;have GE326 := n4_;have NB322_326 := n5_;have NB326_322 := n6_;clear n0_ n1_ n2_ n3_ n4_ n5_ n6_;clear hb hbox hg;have hnb16 := NB326_322.out;have hnc16 := NB322_326.out;have hcz17_0 : w15.cell? ⟨gb326,0,none⟩ = some (.int .i32 0) := (blk_cell BK326.out 0).trans rfl;have hcz17_1 : w15.cell? ⟨gb326,1,none⟩ = some (.int .i64 0) := (blk_cell BK326.out 1).trans rfl;have hfz17_0 := blk_frozen BK326.out 0;have hfz17_1 := blk_frozen BK326.out 1))
 have n0_ : Aside0 (((w15.setCell ⟨gb326,0,none⟩ (.int .i32 t323)).setCell ⟨gb326,1,none⟩ (.int .i64 t324)).heap[gb322]? = some (.cells #[.int .i64 0,.int .i64 0,.int .i64 0,.int .i64 0] 62 (0,0))) := ⟨by (with_reducible repeat (first | refine blk_drewN ?_ _ | refine blk_drew ?_ | refine blk_alloc ?_ _));refine blk_far ?_ NB322_326.out _;(with_reducible repeat (first | refine blk_drewN ?_ _ | refine blk_drew ?_ | refine blk_alloc ?_ _));refine blk_far ?_ NB322_326.out _;(with_reducible repeat (first | refine blk_drewN ?_ _ | refine blk_drew ?_ | refine blk_alloc ?_ _));exact BK322.out⟩
 have n1_ : Aside0 (((w15.setCell ⟨gb326,0,none⟩ (.int .i32 t323)).setCell ⟨gb326,1,none⟩ (.int .i64 t324)).heap[gb326]? = some (.cells #[.int .i32 t323,.int .i64 t324] 83 (0,0))) := ⟨by (with_reducible repeat (first | refine blk_drewN ?_ _ | refine blk_drew ?_ | refine blk_alloc ?_ _));refine blk_put (cs := #[.int .i32 t323,.int .i64 0]) ?_ 1 _ rfl;(with_reducible repeat (first | refine blk_drewN ?_ _ | refine blk_drew ?_ | refine blk_alloc ?_ _));refine blk_put (cs := #[.int .i32 0,.int .i64 0]) ?_ 0 _ rfl;(with_reducible repeat (first | refine blk_drewN ?_ _ | refine blk_drew ?_ | refine blk_alloc ?_ _));exact BK326.out⟩
 have n2_ : Aside0 (Below w.heap.size w ((w15.setCell ⟨gb326,0,none⟩ (.int .i32 t323)).setCell ⟨gb326,1,none⟩ (.int .i64 t324))) := ⟨by repeat (first | (with_reducible first | exact HB.out | apply below_alloc | apply pw_below_drewN | apply below_drew1 | refine below_set ?_ GE322.out | refine below_set ?_ GE326.out) | exact HB.out)⟩
 (try clear BK322)
 (try clear BK326)
 (try clear HB)
 generalize ((w15.setCell ⟨gb326,0,none⟩ (.int .i32 t323)).setCell ⟨gb326,1,none⟩ (.int .i64 t324)) = w18 at n0_ n1_ n2_ ⊢
 have BK322 := n0_
 have BK326 := n1_
 have HB := n2_
 clear n0_ n1_ n2_
 have n0_ := Aside0.mk (blk_drew BK322.out)
 have n1_ := Aside0.mk (blk_drew BK326.out)
 have n2_ := Aside0.mk (below_drew1 HB.out)
 clear BK322
 clear BK326
 clear HB
 have BK322 := n0_
 have BK326 := n1_
 have HB := n2_
 clear n0_ n1_ n2_
 refine start_ (n := 11) (S := fun w' => w'.cell? ⟨gb326,0,none⟩ = some (.int .i32 t323) ∧ w'.cell? ⟨gb326,1,none⟩ = some (.int .i64 t324)) (ds := []) #[false,false,false,false,false,false,false,false,false,false,false] (by kernel_rfl) rfl rfl ⟨(blk_cell BK326.out 0).trans rfl,(blk_cell BK326.out 1).trans rfl⟩ (fun hHeld => ?_);refine with_tabW cluster_made.tab2 cluster_made.bits2 (fun HT_ HW_ => ?_)
 generalize w18.drew = w19 at BK322 BK326 HB hHeld ⊢
 refine pure_ (i := 0) (N := some 16) (v := ?_) (a' := ?_) #[true,false,false,false,false,false,false,false,false,false,false] rfl rfl (any_of HT_.out (by kernel_rfl)) (fun _ _ _ h => h) (Or.inl ⟨by rfl,?_⟩) ?_ ?_
 rotate_left
 ·intro w'
  go_simp
  with_reducible rfl
 rotate_left
 ·simp only [Act.put,List.setIfInBounds_toArray,List.set_cons_zero,List.set_cons_succ,i64_w,i32_w]
  rfl
 refine pure_ (i := 1) (N := some 17) (v := ?_) (a' := ?_) #[true,true,false,false,false,false,false,false,false,false,false] rfl rfl (any_of HT_.out (by kernel_rfl)) (fun _ _ _ h => h) (Or.inl ⟨by rfl,?_⟩) ?_ ?_
 rotate_left
 ·intro w'
  go_simp
  with_reducible rfl
 rotate_left
 ·simp only [Act.put,List.setIfInBounds_toArray,List.set_cons_zero,List.set_cons_succ,i64_w,i32_w]
  rfl
 refine pure_ (i := 2) (N := some 18) (v := ?_) (a' := ?_) #[true,true,true,false,false,false,false,false,false,false,false] rfl rfl (any_of HT_.out (by kernel_rfl)) (fun _ _ _ h => h) (Or.inl ⟨by rfl,?_⟩) ?_ ?_
 rotate_left
 ·intro w'
  go_simp
  with_reducible rfl
 rotate_left
 ·simp only [Act.put,List.setIfInBounds_toArray,List.set_cons_zero,List.set_cons_succ,i64_w,i32_w]
  rfl
 refine pure_ (i := 5) (N := some 21) (v := ?_) (a' := ?_) #[true,true,true,false,false,true,false,false,false,false,false] rfl rfl (any_of HT_.out (by kernel_rfl)) (fun _ _ _ h => h) (Or.inl ⟨by rfl,?_⟩) ?_ ?_
 rotate_left
 ·intro w'
  go_simp
  with_reducible rfl
 rotate_left
 ·simp only [Act.put,List.setIfInBounds_toArray,List.set_cons_zero,List.set_cons_succ,i64_w,i32_w]
  rfl
 refine take_ (i := 3) (N := some 19) (v := ?_) (a' := ?_) #[true,true,true,true,false,true,false,false,false,false,false] rfl rfl (take_ofW HT_.out HW_.out (by kernel_rfl)) (fun _ _ _ h => h) (Or.inl ⟨by rfl,?_⟩) hHeld ?_ ?_
 rotate_left
 ·rintro w' ⟨s0,s1⟩
  go_simp
  with_reducible rfl
 rotate_left
 ·simp only [Act.put,List.setIfInBounds_toArray,List.set_cons_zero,List.set_cons_succ,i64_w,i32_w]
  rfl
 refine take_ (i := 6) (N := some 22) (v := ?_) (a' := ?_) #[true,true,true,true,false,true,true,false,false,false,false] rfl rfl (take_ofW HT_.out HW_.out (by kernel_rfl)) (fun _ _ _ h => h) (Or.inl ⟨by rfl,?_⟩) hHeld ?_ ?_
 rotate_left
 ·rintro w' ⟨s0,s1⟩
  go_simp
  with_reducible rfl
 rotate_left
 ·simp only [Act.put,List.setIfInBounds_toArray,List.set_cons_zero,List.set_cons_succ,i64_w,i32_w]
  rfl
 refine join_ (σ := Nat) 1 #[true,true,true,true,true,true,true,true,true,true,false] (fun s_ => [(20,.int .i64 t327),(23,.int .i64 t328),(9,.pointer (some ⟨s_,0,none⟩)),(24,.agg #[.int .i64 a1,.int .i64 a2,.int .i64 t327,.int .i64 t328])]) (fun s_ w' => (w'.cell? ⟨gb326,0,none⟩ = some (.int .i32 t323) ∧ w'.cell? ⟨gb326,1,none⟩ = some (.int .i64 t324)) ∧ (w'.heap[gb322]? = some (.cells #[.int .i64 0,.int .i64 0,.int .i64 0,.int .i64 0] 62 (0,0))) ∧ (w'.heap[gb326]? = some (.cells #[.int .i32 t323,.int .i64 t324] 83 (0,0))) ∧ (w'.heap[s_]? = some (.cells #[.int .i64 0,.int .i64 0,.int .i64 0,.int .i64 0] 62 (0,0))) ∧ (w.heap.size ≤ s_) ∧ (w.heap.size ≤ s_) ∧ (gb322 ≠ s_) ∧ (s_ ≠ gb322) ∧ (gb326 ≠ s_) ∧ (s_ ≠ gb326) ∧ (Below w.heap.size w w')) ?_ ?_
 rotate_left
 ·intro hCont
  refine two_ (i := 4) (j := 9) (Ni := some 20) (Nj := some 9) #[true,true,true,true,true,true,true,false,false,false,false] #[true,true,true,true,false,true,true,false,false,true,false] rfl rfl rfl rfl (two_of HT_.out (by kernel_rfl)) (by decide) (by decide) (fun K hK => ?_) (fun K hK => ?_)
  ·skip
   refine goes_ Tryd.func66 (by kernel_rfl) rfl #[.int .i32 t323] (by rfl) rfl rfl au1 ?_
   with_reducible refine (width_Class.calls k t323 t327 _ A5.out).mono ?_
   rintro e w20 ⟨rfl,hb⟩
   refine ⟨_,rfl,?_⟩
   have n0_ := Aside0.mk (blk_below (g := gb322) (o := .cells #[.int .i64 0,.int .i64 0,.int .i64 0,.int .i64 0] 62 (0,0)) au3 hb)
   have n1_ := Aside0.mk (blk_below (g := gb326) (o := .cells #[.int .i32 t323,.int .i64 t324] 83 (0,0)) au5 hb)
   have n2_ := Aside0.mk (below_step au4 hb)
   clear BK322
   clear BK326
   clear HB
   have BK322 := n0_
   have BK326 := n1_
   have HB := n2_
   clear n0_ n1_ n2_
   (try clear hb)
   (try clear hb2)
   (try clear hk)
   (try clear hi)
   refine hK.out _ _ ⟨(blk_cell BK326.out 0).trans rfl,(blk_cell BK326.out 1).trans rfl⟩ (fun hHeld => ?_)
   clear hK K
   refine norm_ (a' := ?_) ?_ ?_
   rotate_left
   ·show Act.put _ (some 20) _ = _
    simp only [Act.put,List.setIfInBounds_toArray,List.set_cons_zero,List.set_cons_succ,i64_w,i32_w]
    rfl
   refine two_ (i := 7) (j := 9) (Ni := some 23) (Nj := some 9) #[true,true,true,true,true,true,true,true,false,false,false] #[true,true,true,true,true,true,true,false,false,true,false] rfl rfl rfl rfl (two_of HT_.out (by kernel_rfl)) (by decide) (by decide) (fun K hK => ?_) (fun K hK => ?_)
   ·skip
    refine goes_ Tryd.func98 (by kernel_rfl) rfl #[.int .i32 t323] (by rfl) rfl rfl au1 ?_
    with_reducible refine (width_Cells.calls k t323 t328 _ A6.out).mono ?_
    rintro e w21 ⟨rfl,hb⟩
    refine ⟨_,rfl,?_⟩
    have n0_ := Aside0.mk (blk_below (g := gb322) (o := .cells #[.int .i64 0,.int .i64 0,.int .i64 0,.int .i64 0] 62 (0,0)) au3 hb)
    have n1_ := Aside0.mk (blk_below (g := gb326) (o := .cells #[.int .i32 t323,.int .i64 t324] 83 (0,0)) au5 hb)
    have n2_ := Aside0.mk (below_step au4 hb)
    clear BK322
    clear BK326
    clear HB
    have BK322 := n0_
    have BK326 := n1_
    have HB := n2_
    clear n0_ n1_ n2_
    (try clear hb)
    (try clear hb2)
    (try clear hk)
    (try clear hi)
    refine hK.out _ _ ⟨(blk_cell BK326.out 0).trans rfl,(blk_cell BK326.out 1).trans rfl⟩ (fun hHeld => ?_)
    clear hK K
    refine norm_ (a' := ?_) ?_ ?_
    rotate_left
    ·show Act.put _ (some 23) _ = _
     simp only [Act.put,List.setIfInBounds_toArray,List.set_cons_zero,List.set_cons_succ,i64_w,i32_w]
     rfl
    refine pure_ (i := 8) (N := some 24) (v := ?_) (a' := ?_) #[true,true,true,true,true,true,true,true,true,false,false] rfl rfl (any_of HT_.out (by kernel_rfl)) (fun _ _ _ h => h) (Or.inl ⟨by rfl,?_⟩) ?_ ?_
    rotate_left
    ·intro w'
     go_simp
     with_reducible rfl
    rotate_left
    ·simp only [Act.put,List.setIfInBounds_toArray,List.set_cons_zero,List.set_cons_succ,i64_w,i32_w]
     rfl
    refine one_ (i := 9) (N := some 9) #[true,true,true,true,true,true,true,true,true,true,false] rfl rfl (one_of HT_.out (by kernel_rfl)) (by decide) (fun K hK => ?_)
    refine box_step ?hg (N := 9) ?hd (cs := #[.int .i64 0,.int .i64 0,.int .i64 0,.int .i64 0]) (t := 62) ?hr ?_;(case hd => rfl);(case hg => rfl);(case hr => first | (go_simp;done) | (go_simp;rfl))
    intro gb329 hg w22 hbox hb
    have n0_ := Aside0.mk (blk_below (g := gb322) (o := .cells #[.int .i64 0,.int .i64 0,.int .i64 0,.int .i64 0] 62 (0,0)) au3 hb)
    have n1_ := Aside0.mk (blk_below (g := gb326) (o := .cells #[.int .i32 t323,.int .i64 t324] 83 (0,0)) au5 hb)
    have n2_ := Aside0.mk (below_step au4 hb)
    have n3_ := Aside0.mk (hbox)
    have n4_ := Aside0.mk ((by rw [hg];exact (below_size au4) : w.heap.size ≤ gb329))
    have n5_ := Aside0.mk ((by rw [hg];exact (below_size au4) : w.heap.size ≤ gb329))
    have n6_ := Aside0.mk ((by rw [hg];exact Nat.ne_of_lt (blk_lt (g := gb322) (o := .cells #[.int .i64 0,.int .i64 0,.int .i64 0,.int .i64 0] 62 (0,0)) au3) : gb322 ≠ gb329))
    have n7_ := Aside0.mk ((by rw [hg];exact Nat.ne_of_gt (blk_lt (g := gb322) (o := .cells #[.int .i64 0,.int .i64 0,.int .i64 0,.int .i64 0] 62 (0,0)) au3) : gb329 ≠ gb322))
    have n8_ := Aside0.mk ((by rw [hg];exact Nat.ne_of_lt (blk_lt (g := gb326) (o := .cells #[.int .i32 t323,.int .i64 t324] 83 (0,0)) au5) : gb326 ≠ gb329))
    have n9_ := Aside0.mk ((by rw [hg];exact Nat.ne_of_gt (blk_lt (g := gb326) (o := .cells #[.int .i32 t323,.int .i64 t324] 83 (0,0)) au5) : gb329 ≠ gb326))
    clear BK322
    clear BK326
    clear HB
    have BK322 := n0_
    have BK326 := n1_
    have HB := n2_
    have BK329 := n3_
    have GW329 := n4_
    have GE329 := n5_
    have NB322_329 := n6_
    have NB329_322 := n7_
    have NB326_329 := n8_
    have NB329_326 := n9_
    clear n0_ n1_ n2_ n3_ n4_ n5_ n6_ n7_ n8_ n9_
    clear hb hbox hg
    refine hK.out _ _ ⟨(blk_cell BK326.out 0).trans rfl,(blk_cell BK326.out 1).trans rfl⟩ (fun hHeld => ?_)
    clear hK K
    refine norm_ (a' := ?_) ?_ ?_
    rotate_left
    ·show Act.put _ (some 9) _ = _
     simp only [Act.put,List.setIfInBounds_toArray,List.set_cons_zero,List.set_cons_succ,i64_w,i32_w]
     rfl
    exact norm_ (by simp only [putAll,Act.put,List.setIfInBounds_toArray,List.set_cons_zero,List.set_cons_succ]) (hCont (gb329) _ ⟨hHeld,au3,au5,au16,GW329.out,GE329.out,NB322_329.out,NB329_322.out,NB326_329.out,NB329_326.out,au6⟩)
   ·skip
    refine box_step ?hg (N := 9) ?hd (cs := #[.int .i64 0,.int .i64 0,.int .i64 0,.int .i64 0]) (t := 62) ?hr ?_;(case hd => rfl);(case hg => rfl);(case hr => first | (go_simp;done) | (go_simp;rfl))
    intro gb329 hg w21 hbox hb
    have n0_ := Aside0.mk (blk_below (g := gb322) (o := .cells #[.int .i64 0,.int .i64 0,.int .i64 0,.int .i64 0] 62 (0,0)) au3 hb)
    have n1_ := Aside0.mk (blk_below (g := gb326) (o := .cells #[.int .i32 t323,.int .i64 t324] 83 (0,0)) au5 hb)
    have n2_ := Aside0.mk (below_step au4 hb)
    have n3_ := Aside0.mk (hbox)
    have n4_ := Aside0.mk ((by rw [hg];exact (below_size au4) : w.heap.size ≤ gb329))
    have n5_ := Aside0.mk ((by rw [hg];exact (below_size au4) : w.heap.size ≤ gb329))
    have n6_ := Aside0.mk ((by rw [hg];exact Nat.ne_of_lt (blk_lt (g := gb322) (o := .cells #[.int .i64 0,.int .i64 0,.int .i64 0,.int .i64 0] 62 (0,0)) au3) : gb322 ≠ gb329))
    have n7_ := Aside0.mk ((by rw [hg];exact Nat.ne_of_gt (blk_lt (g := gb322) (o := .cells #[.int .i64 0,.int .i64 0,.int .i64 0,.int .i64 0] 62 (0,0)) au3) : gb329 ≠ gb322))
    have n8_ := Aside0.mk ((by rw [hg];exact Nat.ne_of_lt (blk_lt (g := gb326) (o := .cells #[.int .i32 t323,.int .i64 t324] 83 (0,0)) au5) : gb326 ≠ gb329))
    have n9_ := Aside0.mk ((by rw [hg];exact Nat.ne_of_gt (blk_lt (g := gb326) (o := .cells #[.int .i32 t323,.int .i64 t324] 83 (0,0)) au5) : gb329 ≠ gb326))
    clear BK322
    clear BK326
    clear HB
    have BK322 := n0_
    have BK326 := n1_
    have HB := n2_
    have BK329 := n3_
    have GW329 := n4_
    have GE329 := n5_
    have NB322_329 := n6_
    have NB329_322 := n7_
    have NB326_329 := n8_
    have NB329_326 := n9_
    clear n0_ n1_ n2_ n3_ n4_ n5_ n6_ n7_ n8_ n9_
    clear hb hbox hg
    refine hK.out _ _ ⟨(blk_cell BK326.out 0).trans rfl,(blk_cell BK326.out 1).trans rfl⟩ (fun hHeld => ?_)
    clear hK K
    refine norm_ (a' := ?_) ?_ ?_
    rotate_left
    ·show Act.put _ (some 9) _ = _
     simp only [Act.put,List.setIfInBounds_toArray,List.set_cons_zero,List.set_cons_succ,i64_w,i32_w]
     rfl
    refine one_ (i := 7) (N := some 23) #[true,true,true,true,true,true,true,true,false,true,false] rfl rfl (one_of HT_.out (by kernel_rfl)) (by decide) (fun K hK => ?_)
    refine goes_ Tryd.func98 (by kernel_rfl) rfl #[.int .i32 t323] (by rfl) rfl rfl au1 ?_
    with_reducible refine (width_Cells.calls k t323 t328 _ A6.out).mono ?_
    rintro e w22 ⟨rfl,hb⟩
    refine ⟨_,rfl,?_⟩
    have n0_ := Aside0.mk (blk_below (g := gb322) (o := .cells #[.int .i64 0,.int .i64 0,.int .i64 0,.int .i64 0] 62 (0,0)) au3 hb)
    have n1_ := Aside0.mk (blk_below (g := gb326) (o := .cells #[.int .i32 t323,.int .i64 t324] 83 (0,0)) au5 hb)
    have n2_ := Aside0.mk (blk_below (g := gb329) (o := .cells #[.int .i64 0,.int .i64 0,.int .i64 0,.int .i64 0] 62 (0,0)) au16 hb)
    have n3_ := Aside0.mk (below_step au6 hb)
    clear BK322
    clear BK326
    clear BK329
    clear HB
    have BK322 := n0_
    have BK326 := n1_
    have BK329 := n2_
    have HB := n3_
    clear n0_ n1_ n2_ n3_
    (try clear hb)
    (try clear hb2)
    (try clear hk)
    (try clear hi)
    refine hK.out _ _ ⟨(blk_cell BK326.out 0).trans rfl,(blk_cell BK326.out 1).trans rfl⟩ (fun hHeld => ?_)
    clear hK K
    refine norm_ (a' := ?_) ?_ ?_
    rotate_left
    ·show Act.put _ (some 23) _ = _
     simp only [Act.put,List.setIfInBounds_toArray,List.set_cons_zero,List.set_cons_succ,i64_w,i32_w]
     rfl
    refine pure_ (i := 8) (N := some 24) (v := ?_) (a' := ?_) #[true,true,true,true,true,true,true,true,true,true,false] rfl rfl (any_of HT_.out (by kernel_rfl)) (fun _ _ _ h => h) (Or.inl ⟨by rfl,?_⟩) ?_ ?_
    rotate_left
    ·intro w'
     go_simp
     with_reducible rfl
    rotate_left
    ·simp only [Act.put,List.setIfInBounds_toArray,List.set_cons_zero,List.set_cons_succ,i64_w,i32_w]
     rfl
    exact norm_ (by simp only [putAll,Act.put,List.setIfInBounds_toArray,List.set_cons_zero,List.set_cons_succ]) (hCont (gb329) _ ⟨hHeld,au3,au5,au16,GW329.out,GE329.out,NB322_329.out,NB329_322.out,NB326_329.out,NB329_326.out,au6⟩)
  ·skip
   refine box_step ?hg (N := 9) ?hd (cs := #[.int .i64 0,.int .i64 0,.int .i64 0,.int .i64 0]) (t := 62) ?hr ?_;(case hd => rfl);(case hg => rfl);(case hr => first | (go_simp;done) | (go_simp;rfl))
   intro gb329 hg w20 hbox hb
   have n0_ := Aside0.mk (blk_below (g := gb322) (o := .cells #[.int .i64 0,.int .i64 0,.int .i64 0,.int .i64 0] 62 (0,0)) au3 hb)
   have n1_ := Aside0.mk (blk_below (g := gb326) (o := .cells #[.int .i32 t323,.int .i64 t324] 83 (0,0)) au5 hb)
   have n2_ := Aside0.mk (below_step au4 hb)
   have n3_ := Aside0.mk (hbox)
   have n4_ := Aside0.mk ((by rw [hg];exact (below_size au4) : w.heap.size ≤ gb329))
   have n5_ := Aside0.mk ((by rw [hg];exact (below_size au4) : w.heap.size ≤ gb329))
   have n6_ := Aside0.mk ((by rw [hg];exact Nat.ne_of_lt (blk_lt (g := gb322) (o := .cells #[.int .i64 0,.int .i64 0,.int .i64 0,.int .i64 0] 62 (0,0)) au3) : gb322 ≠ gb329))
   have n7_ := Aside0.mk ((by rw [hg];exact Nat.ne_of_gt (blk_lt (g := gb322) (o := .cells #[.int .i64 0,.int .i64 0,.int .i64 0,.int .i64 0] 62 (0,0)) au3) : gb329 ≠ gb322))
   have n8_ := Aside0.mk ((by rw [hg];exact Nat.ne_of_lt (blk_lt (g := gb326) (o := .cells #[.int .i32 t323,.int .i64 t324] 83 (0,0)) au5) : gb326 ≠ gb329))
   have n9_ := Aside0.mk ((by rw [hg];exact Nat.ne_of_gt (blk_lt (g := gb326) (o := .cells #[.int .i32 t323,.int .i64 t324] 83 (0,0)) au5) : gb329 ≠ gb326))
   clear BK322
   clear BK326
   clear HB
   have BK322 := n0_
   have BK326 := n1_
   have HB := n2_
   have BK329 := n3_
   have GW329 := n4_
   have GE329 := n5_
   have NB322_329 := n6_
   have NB329_322 := n7_
   have NB326_329 := n8_
   have NB329_326 := n9_
   clear n0_ n1_ n2_ n3_ n4_ n5_ n6_ n7_ n8_ n9_
   clear hb hbox hg
   refine hK.out _ _ ⟨(blk_cell BK326.out 0).trans rfl,(blk_cell BK326.out 1).trans rfl⟩ (fun hHeld => ?_)
   clear hK K
   refine norm_ (a' := ?_) ?_ ?_
   rotate_left
   ·show Act.put _ (some 9) _ = _
    simp only [Act.put,List.setIfInBounds_toArray,List.set_cons_zero,List.set_cons_succ,i64_w,i32_w]
    rfl
   refine one_ (i := 4) (N := some 20) #[true,true,true,true,true,true,true,false,false,true,false] rfl rfl (one_of HT_.out (by kernel_rfl)) (by decide) (fun K hK => ?_)
   refine goes_ Tryd.func66 (by kernel_rfl) rfl #[.int .i32 t323] (by rfl) rfl rfl au1 ?_
   with_reducible refine (width_Class.calls k t323 t327 _ A5.out).mono ?_
   rintro e w21 ⟨rfl,hb⟩
   refine ⟨_,rfl,?_⟩
   have n0_ := Aside0.mk (blk_below (g := gb322) (o := .cells #[.int .i64 0,.int .i64 0,.int .i64 0,.int .i64 0] 62 (0,0)) au3 hb)
   have n1_ := Aside0.mk (blk_below (g := gb326) (o := .cells #[.int .i32 t323,.int .i64 t324] 83 (0,0)) au5 hb)
   have n2_ := Aside0.mk (blk_below (g := gb329) (o := .cells #[.int .i64 0,.int .i64 0,.int .i64 0,.int .i64 0] 62 (0,0)) au16 hb)
   have n3_ := Aside0.mk (below_step au6 hb)
   clear BK322
   clear BK326
   clear BK329
   clear HB
   have BK322 := n0_
   have BK326 := n1_
   have BK329 := n2_
   have HB := n3_
   clear n0_ n1_ n2_ n3_
   (try clear hb)
   (try clear hb2)
   (try clear hk)
   (try clear hi)
   refine hK.out _ _ ⟨(blk_cell BK326.out 0).trans rfl,(blk_cell BK326.out 1).trans rfl⟩ (fun hHeld => ?_)
   clear hK K
   refine norm_ (a' := ?_) ?_ ?_
   rotate_left
   ·show Act.put _ (some 20) _ = _
    simp only [Act.put,List.setIfInBounds_toArray,List.set_cons_zero,List.set_cons_succ,i64_w,i32_w]
    rfl
   refine one_ (i := 7) (N := some 23) #[true,true,true,true,true,true,true,true,false,true,false] rfl rfl (one_of HT_.out (by kernel_rfl)) (by decide) (fun K hK => ?_)
   refine goes_ Tryd.func98 (by kernel_rfl) rfl #[.int .i32 t323] (by rfl) rfl rfl au1 ?_
   with_reducible refine (width_Cells.calls k t323 t328 _ A6.out).mono ?_
   rintro e w22 ⟨rfl,hb⟩
   refine ⟨_,rfl,?_⟩
   have n0_ := Aside0.mk (blk_below (g := gb322) (o := .cells #[.int .i64 0,.int .i64 0,.int .i64 0,.int .i64 0] 62 (0,0)) au3 hb)
   have n1_ := Aside0.mk (blk_below (g := gb326) (o := .cells #[.int .i32 t323,.int .i64 t324] 83 (0,0)) au5 hb)
   have n2_ := Aside0.mk (blk_below (g := gb329) (o := .cells #[.int .i64 0,.int .i64 0,.int .i64 0,.int .i64 0] 62 (0,0)) au16 hb)
   have n3_ := Aside0.mk (below_step au6 hb)
   clear BK322
   clear BK326
   clear BK329
   clear HB
   have BK322 := n0_
   have BK326 := n1_
   have BK329 := n2_
   have HB := n3_
   clear n0_ n1_ n2_ n3_
   (try clear hb)
   (try clear hb2)
   (try clear hk)
   (try clear hi)
   refine hK.out _ _ ⟨(blk_cell BK326.out 0).trans rfl,(blk_cell BK326.out 1).trans rfl⟩ (fun hHeld => ?_)
   clear hK K
   refine norm_ (a' := ?_) ?_ ?_
   rotate_left
   ·show Act.put _ (some 23) _ = _
    simp only [Act.put,List.setIfInBounds_toArray,List.set_cons_zero,List.set_cons_succ,i64_w,i32_w]
    rfl
   refine pure_ (i := 8) (N := some 24) (v := ?_) (a' := ?_) #[true,true,true,true,true,true,true,true,true,true,false] rfl rfl (any_of HT_.out (by kernel_rfl)) (fun _ _ _ h => h) (Or.inl ⟨by rfl,?_⟩) ?_ ?_
   rotate_left
   ·intro w'
    go_simp
    with_reducible rfl
   rotate_left
   ·simp only [Act.put,List.setIfInBounds_toArray,List.set_cons_zero,List.set_cons_succ,i64_w,i32_w]
    rfl
   exact norm_ (by simp only [putAll,Act.put,List.setIfInBounds_toArray,List.set_cons_zero,List.set_cons_succ]) (hCont (gb329) _ ⟨hHeld,au3,au5,au16,GW329.out,GE329.out,NB322_329.out,NB329_322.out,NB326_329.out,NB329_326.out,au6⟩)
 rintro gb329 w23 ⟨hS_,h0_,h1_,h2_,h3_,h4_,h5_,h6_,h7_,h8_,h9_⟩
 have n0_ : Aside0 (w23.heap[gb322]? = some (.cells #[.int .i64 0,.int .i64 0,.int .i64 0,.int .i64 0] 62 (0,0))) := ⟨h0_⟩
 have n1_ : Aside0 (w23.heap[gb326]? = some (.cells #[.int .i32 t323,.int .i64 t324] 83 (0,0))) := ⟨h1_⟩
 have n2_ : Aside0 (w23.heap[gb329]? = some (.cells #[.int .i64 0,.int .i64 0,.int .i64 0,.int .i64 0] 62 (0,0))) := ⟨h2_⟩
 have n3_ : Aside0 (w.heap.size ≤ gb329) := ⟨h3_⟩
 have n4_ : Aside0 (w.heap.size ≤ gb329) := ⟨h4_⟩
 have n5_ : Aside0 (gb322 ≠ gb329) := ⟨h5_⟩
 have n6_ : Aside0 (gb329 ≠ gb322) := ⟨h6_⟩
 have n7_ : Aside0 (gb326 ≠ gb329) := ⟨h7_⟩
 have n8_ : Aside0 (gb329 ≠ gb326) := ⟨h8_⟩
 have n9_ : Aside0 (Below w.heap.size w w23) := ⟨h9_⟩
 clear BK322
 clear BK326
 clear HB
 clear h0_ h1_ h2_ h3_ h4_ h5_ h6_ h7_ h8_ h9_
 have BK322 := n0_
 have BK326 := n1_
 have BK329 := n2_
 have GW329 := n3_
 have GE329 := n4_
 have NB322_329 := n5_
 have NB329_322 := n6_
 have NB326_329 := n7_
 have NB329_326 := n8_
 have HB := n9_
 clear n0_ n1_ n2_ n3_ n4_ n5_ n6_ n7_ n8_ n9_
 have hHeld : w23.cell? ⟨gb326,0,none⟩ = some (.int .i32 t323) ∧ w23.cell? ⟨gb326,1,none⟩ = some (.int .i64 t324) := hS_
 refine norm_ (a' := ?_) ?_ ?_
 rotate_left
 ·simp only [putAll,Act.put,List.setIfInBounds_toArray,List.set_cons_zero,List.set_cons_succ]
  rfl
 refine one_ (i := 10) (N := none) #[true,true,true,true,true,true,true,true,true,true,true] rfl rfl (one_of HT_.out (by kernel_rfl)) (by decide) (fun K hK => ?_)
 have hs24 : w23.cell? ⟨gb329,0,none⟩ = some (.int .i64 0) := (blk_cell BK329.out 0).trans rfl
 have hfs24 := blk_frozen BK329.out 0
 have hns24_0 := NB322_329.out
 have hns24_1 := NB326_329.out
 have hms24_0 := NB329_322.out
 have hms24_1 := NB329_326.out
 have hs25 : w23.cell? ⟨gb329,1,none⟩ = some (.int .i64 0) := (blk_cell BK329.out 1).trans rfl
 have hfs25 := blk_frozen BK329.out 1
 have hns25_0 := NB322_329.out
 have hns25_1 := NB326_329.out
 have hms25_0 := NB329_322.out
 have hms25_1 := NB329_326.out
 have hs26 : w23.cell? ⟨gb329,2,none⟩ = some (.int .i64 0) := (blk_cell BK329.out 2).trans rfl
 have hfs26 := blk_frozen BK329.out 2
 have hns26_0 := NB322_329.out
 have hns26_1 := NB326_329.out
 have hms26_0 := NB329_322.out
 have hms26_1 := NB329_326.out
 have hs27 : w23.cell? ⟨gb329,3,none⟩ = some (.int .i64 0) := (blk_cell BK329.out 3).trans rfl
 have hfs27 := blk_frozen BK329.out 3
 have hns27_0 := NB322_329.out
 have hns27_1 := NB326_329.out
 have hms27_0 := NB329_322.out
 have hms27_1 := NB329_326.out
 refine skip_ (w1 := ?_) (by rfl) rfl ?_ ?_
 rotate_left
 ·go_simp
  rfl
 refine hK.out _ _ ⟨((cell_far (p := ⟨gb329,_,none⟩) NB326_329.out _).trans (((cell_far (p := ⟨gb329,_,none⟩) NB326_329.out _).trans (((cell_far (p := ⟨gb329,_,none⟩) NB326_329.out _).trans (((cell_far (p := ⟨gb329,_,none⟩) NB326_329.out _).trans (hHeld.1)))))))),((cell_far (p := ⟨gb329,_,none⟩) NB326_329.out _).trans (((cell_far (p := ⟨gb329,_,none⟩) NB326_329.out _).trans (((cell_far (p := ⟨gb329,_,none⟩) NB326_329.out _).trans (((cell_far (p := ⟨gb329,_,none⟩) NB326_329.out _).trans (hHeld.2))))))))⟩ (fun hHeld => ?_)
 clear hK K
 refine done_ (done_of HT_.out (by kernel_rfl)) ?_
 have m0 : ((((w23.setCell ⟨gb329,0,none⟩ (.int .i64 a1)).setCell ⟨gb329,1,none⟩ (.int .i64 a2)).setCell ⟨gb329,2,none⟩ (.int .i64 t327)).setCell ⟨gb329,3,none⟩ (.int .i64 t328)).heap[gb329]? = some (.cells #[.int .i64 a1,.int .i64 a2,.int .i64 t327,.int .i64 t328] 62 (0,0)) :=
  blk_put (cs := #[.int .i64 a1,.int .i64 a2,.int .i64 t327,.int .i64 0]) (blk_put (cs := #[.int .i64 a1,.int .i64 a2,.int .i64 0,.int .i64 0]) (blk_put (cs := #[.int .i64 a1,.int .i64 0,.int .i64 0,.int .i64 0]) (blk_put (cs := #[.int .i64 0,.int .i64 0,.int .i64 0,.int .i64 0]) BK329.out 0 _ rfl) 1 _ rfl) 2 _ rfl) 3 _ rfl
 have m1 : ((((w23.setCell ⟨gb329,0,none⟩ (.int .i64 a1)).setCell ⟨gb329,1,none⟩ (.int .i64 a2)).setCell ⟨gb329,2,none⟩ (.int .i64 t327)).setCell ⟨gb329,3,none⟩ (.int .i64 t328)).heap[gb326]? = some (.cells #[.int .i32 t323,.int .i64 t324] 83 (0,0)) :=
  blk_far (blk_far (blk_far (blk_far BK326.out NB326_329.out _) NB326_329.out _) NB326_329.out _) NB326_329.out _
 have m2 : ((((w23.setCell ⟨gb329,0,none⟩ (.int .i64 a1)).setCell ⟨gb329,1,none⟩ (.int .i64 a2)).setCell ⟨gb329,2,none⟩ (.int .i64 t327)).setCell ⟨gb329,3,none⟩ (.int .i64 t328)).heap[gb322]? = some (.cells #[.int .i64 0,.int .i64 0,.int .i64 0,.int .i64 0] 62 (0,0)) :=
  blk_far (blk_far (blk_far (blk_far BK322.out NB322_329.out _) NB322_329.out _) NB322_329.out _) NB322_329.out _
 have m3 : Below w.heap.size w ((((w23.setCell ⟨gb329,0,none⟩ (.int .i64 a1)).setCell ⟨gb329,1,none⟩ (.int .i64 a2)).setCell ⟨gb329,2,none⟩ (.int .i64 t327)).setCell ⟨gb329,3,none⟩ (.int .i64 t328)) :=
  below_set (below_set (below_set (below_set HB.out GE329.out) GE329.out) GE329.out) GE329.out
 have q1 := NB322_329.out
 have q2 := NB329_322.out
 have q3 := GE329.out
 have q4 := GE322.out
 generalize ((((w23.setCell ⟨gb329,0,none⟩ (.int .i64 a1)).setCell ⟨gb329,1,none⟩ (.int .i64 a2)).setCell ⟨gb329,2,none⟩ (.int .i64 t327)).setCell ⟨gb329,3,none⟩ (.int .i64 t328)) = W at m0 m1 m2 m3 ⊢
 (try clear HB)
 (try clear BK322)
 (try clear GW322)
 (try clear GE322)
 (try clear BK326)
 (try clear GW326)
 (try clear GE326)
 (try clear NB322_326)
 (try clear NB326_322)
 (try clear hnb16)
 (try clear hnc16)
 (try clear hcz17_0)
 (try clear hcz17_1)
 (try clear hfz17_0)
 (try clear hfz17_1)
 (try clear BK329)
 (try clear GW329)
 (try clear GE329)
 (try clear NB322_329)
 (try clear NB329_322)
 (try clear NB326_329)
 (try clear NB329_326)
 (try clear hs24)
 (try clear hfs24)
 (try clear hns24_0)
 (try clear hns24_1)
 (try clear hms24_0)
 (try clear hms24_1)
 (try clear hs25)
 (try clear hfs25)
 (try clear hns25_0)
 (try clear hns25_1)
 (try clear hms25_0)
 (try clear hms25_1)
 (try clear hs26)
 (try clear hfs26)
 (try clear hns26_0)
 (try clear hns26_1)
 (try clear hms26_0)
 (try clear hms26_1)
 (try clear hs27)
 (try clear hfs27)
 (try clear hns27_0)
 (try clear hns27_1)
 (try clear hms27_0)
 (try clear hms27_1)
 (try clear hS_)
 (try clear hHeld)
 (try clear HT_)
 (try clear HW_)
 (try clear hCont)
 have e0 : W.cell? ⟨gb326,0,none⟩ = some (.int .i32 t323) := (blk_cell m1 0).trans rfl
 have d0 : W.cell? ⟨gb329,0,none⟩ = some (.int .i64 a1) := (blk_cell m0 0).trans rfl
 have d1 : W.cell? ⟨gb329,1,none⟩ = some (.int .i64 a2) := (blk_cell m0 1).trans rfl
 have d2 : W.cell? ⟨gb329,2,none⟩ = some (.int .i64 t327) := (blk_cell m0 2).trans rfl
 have d3 : W.cell? ⟨gb329,3,none⟩ = some (.int .i64 t328) := (blk_cell m0 3).trans rfl
 have fd2 : W.frozen? ⟨gb329,2,none⟩ = false := blk_frozen m0 2
 have fd3 : W.frozen? ⟨gb329,3,none⟩ = false := blk_frozen m0 3
 have r0 : W.cell? ⟨gb322,0,none⟩ = some (.int .i64 0) := (blk_cell m2 0).trans rfl
 have r1_ : W.cell? ⟨gb322,1,none⟩ = some (.int .i64 0) := (blk_cell m2 1).trans rfl
 have r2_ : W.cell? ⟨gb322,2,none⟩ = some (.int .i64 0) := (blk_cell m2 2).trans rfl
 have r3_ : W.cell? ⟨gb322,3,none⟩ = some (.int .i64 0) := (blk_cell m2 3).trans rfl
 have fr0 : W.frozen? ⟨gb322,0,none⟩ = false := blk_frozen m2 0
 have fr1 : W.frozen? ⟨gb322,1,none⟩ = false := blk_frozen m2 1
 have fr2 : W.frozen? ⟨gb322,2,none⟩ = false := blk_frozen m2 2
 have fr3 : W.frozen? ⟨gb322,3,none⟩ = false := blk_frozen m2 3
 by_cases c7 : t323 = 13
 ·rw [if_pos c7] at H
  have c7b0 : (t323 == 13) = true := beq_iff_eq.mpr c7
  clear c7
  obtain ⟨j,hj⟩ : ∃ j_ : Int,wrap64 (a1 + 1) = j_ := ⟨_,rfl⟩
  rw [hj] at H
  have hjw : IntKind.i64.wrap (a1 + 1) = j := (i64_w _).trans hj
  clear hj
  by_cases c9 : 0 ≤ j
  ·rw [if_pos c9] at H
   have c9b0 := eq_true c9
   have c9b1 : decide (0 ≤ j) = true := decide_eq_true c9
   clear c9
   by_cases c10 : j ≤ (a0.size : Int)
   ·rw [if_pos c10] at H
    have c10b0 := eq_true c10
    have c10b1 : decide (j ≤ (a0.size : Int)) = true := decide_eq_true c10
    clear c10
    obtain ⟨b,hp,H⟩ := Option.bind_eq_some_iff.mp H
    have HP := Aside0.mk hp
    clear hp
    by_cases c12 : b = true
    ·subst c12
     rw [if_pos rfl] at H
     simp only [Option.some.injEq,Prod.mk.injEq] at H
     obtain ⟨rfl,rfl,rfl,rfl⟩ := H
     go_wp2_with (go_at_call 99;(with_reducible refine (strings_HasPrefix.calls (a0.extract (j : Int).toNat a0.size) (⟨#[10]⟩ : ByteArray) true _ HP.out).mono ?_);rintro e w' ⟨rfl,⟨nd,rfl⟩⟩)
     refine bodyPost_ret (results_cell_row rfl _ _ gb322 62 #[.int .i64 a1,.int .i64 a2,.int .i64 1,.int .i64 0] (0,0) _ rfl (blk_put (cs := #[.int .i64 a1,.int .i64 a2,.int .i64 1,.int .i64 0]) (blk_put (cs := #[.int .i64 a1,.int .i64 a2,.int .i64 0,.int .i64 0]) (blk_put (cs := #[.int .i64 a1,.int .i64 0,.int .i64 0,.int .i64 0]) (blk_put (cs := #[.int .i64 0,.int .i64 0,.int .i64 0,.int .i64 0]) (blk_far (blk_far (blk_drewN m2 nd) q1 _) q1 _) 0 _ rfl) 1 _ rfl) 2 _ rfl) 3 _ rfl) Tryd.underlying62 rfl (by kernel_rfl)) rfl ?_
     exact ⟨rfl,below_set (below_set (below_set (below_set (below_set (below_set (pw_below_drewN m3 nd) q3) q3) q4) q4) q4) q4⟩
    ·replace c12 := Bool.eq_false_iff.mpr c12
     subst c12
     rw [if_neg (by decide)] at H
     simp only [Option.some.injEq,Prod.mk.injEq] at H
     obtain ⟨rfl,rfl,rfl,rfl⟩ := H
     go_wp2_with (go_at_call 99;(with_reducible refine (strings_HasPrefix.calls (a0.extract (j : Int).toNat a0.size) (⟨#[10]⟩ : ByteArray) false _ HP.out).mono ?_);rintro e w' ⟨rfl,⟨nd,rfl⟩⟩)
     refine bodyPost_ret (results_cell_row rfl _ _ gb322 62 #[.int .i64 a1,.int .i64 a2,.int .i64 t327,.int .i64 t328] (0,0) _ rfl (blk_put (cs := #[.int .i64 a1,.int .i64 a2,.int .i64 t327,.int .i64 0]) (blk_put (cs := #[.int .i64 a1,.int .i64 a2,.int .i64 0,.int .i64 0]) (blk_put (cs := #[.int .i64 a1,.int .i64 0,.int .i64 0,.int .i64 0]) (blk_put (cs := #[.int .i64 0,.int .i64 0,.int .i64 0,.int .i64 0]) (blk_drewN m2 nd) 0 _ rfl) 1 _ rfl) 2 _ rfl) 3 _ rfl) Tryd.underlying62 rfl (by kernel_rfl)) rfl ?_
     exact ⟨rfl,below_set (below_set (below_set (below_set (pw_below_drewN m3 nd) q4) q4) q4) q4⟩
   ·rw [if_neg c10] at H;cases H
  ·rw [if_neg c9] at H;cases H
 ·rw [if_neg c7] at H
  have c7b0 : (t323 == 13) = false := by simpa using c7
  clear c7
  simp only [Option.some.injEq,Prod.mk.injEq] at H
  obtain ⟨rfl,rfl,rfl,rfl⟩ := H
  go_wp2
  refine bodyPost_ret (results_cell_row rfl _ _ gb322 62 #[.int .i64 a1,.int .i64 a2,.int .i64 t327,.int .i64 t328] (0,0) _ rfl (blk_put (cs := #[.int .i64 a1,.int .i64 a2,.int .i64 t327,.int .i64 0]) (blk_put (cs := #[.int .i64 a1,.int .i64 a2,.int .i64 0,.int .i64 0]) (blk_put (cs := #[.int .i64 a1,.int .i64 0,.int .i64 0,.int .i64 0]) (blk_put (cs := #[.int .i64 0,.int .i64 0,.int .i64 0,.int .i64 0]) m2 0 _ rfl) 1 _ rfl) 2 _ rfl) 3 _ rfl) Tryd.underlying62 rfl (by kernel_rfl)) rfl ?_
  exact ⟨rfl,below_set (below_set (below_set (below_set m3 q4) q4) q4) q4⟩
end Go.Proofs.YtgdpnmikcopkmaaDoor.U
end
section
namespace Go.Proofs.YtgdpnmikcopkmaaDoor.Rg
open Go Go.RowKit
/-- What a round keeps: what lies below n₀;the cells that lie from B on;and the cells of the blocks of Pr (what the iterator has captured). -/
def KeepB (n₀ : Nat) (Pr : Nat → Prop) (B : Nat) (W W' : World) : Prop :=
 Below n₀ W W' ∧ ∀ (k : Nat) (o : Obj),(Pr k ∨ B ≤ k) → W.heap[k]? = some o → o.isCells = true → W'.heap[k]? = some o
theorem KeepB.refl (n₀ : Nat) (Pr : Nat → Prop) (B : Nat) (W : World) : KeepB n₀ Pr B W W := ⟨Below.refl _ _,fun _ _ _ h _ => h⟩
theorem KeepB.trans {n₀ : Nat} {Pr : Nat → Prop} {B : Nat} {X Y Z : World} (h : KeepB n₀ Pr B X Y) (k : KeepB n₀ Pr B Y Z) : KeepB n₀ Pr B X Z :=
 ⟨h.1.trans k.1,fun i o hi ho hc => k.2 i o hi (h.2 i o hi ho hc) hc⟩
theorem KeepB.of_below {n₀ : Nat} {Pr : Nat → Prop} {B : Nat} {X Y : World} (hn : n₀ ≤ X.heap.size) (h : Below X.heap.size X Y) : KeepB n₀ Pr B X Y :=
 ⟨h.mono hn,fun k _o _ ho _ => (h.block k (Array.getElem?_eq_some_iff.1 ho).1).trans ho⟩
theorem KeepB.putObj {n₀ : Nat} {Pr : Nat → Prop} {B : Nat} {W : World} {l : Nat} {o : Obj} (o' : Obj) (hn : n₀ ≤ W.heap.size) (hl : n₀ ≤ l) (h : W.heap[l]? = some o) (ho : o.isCells = false) : KeepB n₀ Pr B W (W.putObj l o') :=
 ⟨(Below.refl n₀ W).grown (grownBy_putObj' W l o') hn (fun k e => by cases e;omega),fun k p _ hk hc => by
  refine (World.putObj_heap_other (fun e => ?_)).trans hk
  subst e;rw [h] at hk;cases hk;rw [ho] at hc;cases hc⟩
/-- The iterator's contract: at each call of yield it tells a world W0 in which the caller's word held,and what it has laid since. -/
def SeqB {α : Type} (F : Fence) (n : Nat) (P : Program) (g : Nat) (lb : Array Value) (encs : α → Array Value) (n₀ : Nat) (Pr : Nat → Prop) (S Sp : List α → Prop) (N : Nat) (w : World) : Prop :=
 ∀ (l : Nat) (J Jx : List α → World → Prop) (W : World),Below w.heap.size w W → AbidesFrom W.heap.size J → AbidesFrom W.heap.size Jx →
  (∀ pre x W0 W1,J pre W0 → Below W0.heap.size W0 W1 → pre.length < N → Sp (pre ++ [x]) → YieldAt F (n - 1) P l (encs x) W1 fun e W' =>
   (e = .returned (.bool true) ∧ J (pre ++ [x]) W' ∧ KeepB n₀ Pr W0.heap.size W1 W') ∨ (e = .returned (.bool false) ∧ Jx (pre ++ [x]) W')) →
  J [] W →
  CallsIn F n P g (#[.func (.yield l) #[] #[]] ++ lb) W fun e W' => (∃ v,e = .returned v) ∧ ((∃ xs,S xs ∧ J xs W') ∨ (∃ pre,Sp pre ∧ Jx pre W'))
theorem SeqB.inRound {α : Type} {F : Fence} {n : Nat} {P : Program} {g : Nat} {lb : Array Value} {encs : α → Array Value} {n₀ : Nat} {Pr : Nat → Prop} {S Sp : List α → Prop} {N : Nat} {w : World} (l : Nat)
  (h : SeqB F n P g lb encs n₀ Pr S Sp N w) : SeqB (F.inRound l) n P g lb encs n₀ Pr S Sp N w := h
/-- How a round may be left. -/
def PostB {α : Type} (C n₀ : Nat) (Pr : Nat → Prop) (B : Nat) (I : Nat → List α → World → Prop) (Ix : Code → List α → World → Prop) (xs : List α) (W : World) : Exit → Act → World → Prop
 | .normal,_,W' => KeepsFrom C W W' ∧ KeepB n₀ Pr B W W' ∧ I W'.heap.size xs W'
 | .ret,_,W' => KeepsFrom C W W' ∧ Ix .ret xs W'
 | .exit id,_,W' => KeepsFrom C W W' ∧ Ix (.exit id) xs W'
 | .goto t,_,W' => KeepsFrom C W W' ∧ Ix (.goto t) xs W'
 | .panic _,_,_ => False
 | .outgrown,_,_ => False
variable {F : Fence} {n : Nat} {P : Program}
/-- What of a loop's own book-keeping lasts through its rounds: its record,and the block for deferred calls,where there is one. -/
structure Book (dz : Option Nat) (L : Nat) (r : Loop) (W : World) : Prop where
 at_ : W.heap[L]? = some (.loop r)
 dz_ : ∀ d,dz = some d → W.heap[d]? = some (.deferred (some []))
theorem Book.walks {dz : Option Nat} {L : Nat} {r : Loop} {A B : World} {row : Option Nat} (h : Book dz L r A) (hg : A.grownBy B row) (hr : ∀ k,row = some k → ∃ o : Obj,A.heap[k]? = some o ∧ o.isWalk = true) : Book dz L r B :=
 ⟨(grownBy_keeps hg hr h.at_ rfl).trans h.at_,fun d e => (grownBy_keeps hg hr (h.dz_ d e) rfl).trans (h.dz_ d e)⟩
theorem Book.from_ {dz : Option Nat} {L C : Nat} {r : Loop} {A B : World} (h : Book dz L r A) (hL : C ≤ L) (hd : ∀ d,dz = some d → C ≤ d ∧ d ≠ L) (hk : KeepsFrom C A B) : Book dz L r B :=
 ⟨hk.same _ _ hL h.at_ rfl,fun d e => hk.same _ _ (hd d e).1 (h.dz_ d e) rfl⟩
theorem Book.put {dz : Option Nat} {L C : Nat} {r : Loop} {A : World} (h : Book dz L r A) (hd : ∀ d,dz = some d → C ≤ d ∧ d ≠ L) (r' : Loop) : Book dz L r' (A.putObj L (.loop r')) :=
 ⟨World.putObj_heap_same (Array.getElem?_eq_some_iff.1 h.at_).1,fun d e => (World.putObj_heap_other (hd d e).2).trans (h.dz_ d e)⟩
/-- The rounds,whichever way the loop was entered. -/
theorem rounds {α : Type} {fid : FuncId} {ps : Array Tmp} {assign body : Code} {tm : Array Value} {C n₀ L D gf : Nat} {Pr : Nat → Prop} {lb : Array Value} {W1 w0 : World} {dz : Option Nat}
  {encs : α → Array Value} {S Sp : List α → Prop} {N : Nat} (hfid : F.fn fid) (hseq : SeqB F (n - 1) P gf lb encs n₀ Pr S Sp N w0) (hb1 : Below w0.heap.size w0 W1) (hps : ∀ x,(encs x).size = ps.size)
  (rec : LoopState → Option Code → Loop) (hrec : rec = fun st pe => { state := st,pending := pe,fn := fid,tmps := tm,params := ps,assign,body,defers := D })
  (hnC : n₀ ≤ C) (hCL : C ≤ L) (hCW : C ≤ W1.heap.size) (hdz : ∀ d,dz = some d → C ≤ d ∧ d ≠ L) (hbk : Book dz L (rec .ready none) W1)
  (I : Nat → List α → World → Prop) (Ix : Code → List α → World → Prop) (hI : ∀ B,OwnFrom C (I B)) (hm : ∀ B B' pre W,B ≤ B' → I B pre W → I B' pre W) (hIx : ∀ c,OwnFrom C (Ix c)) (h0 : I W1.heap.size [] W1)
  (Ax : α → Act → World → Prop) (hAx : ∀ x a',OwnFrom C (fun (_ : Unit) W => Ax x a' W))
  (hassign : ∀ (B : Nat) (pre : List α) (x : α) (W : World) (K : Act → World → Prop),C ≤ W.heap.size → B ≤ W.heap.size → I B pre W → (∀ a' W',KeepsFrom C W W' → KeepB n₀ Pr B W W' → I B pre W' → Ax x a' W' → K a' W') →
   assign.wpIn (F.inRound L) (n - 1 - 1) P (Exit.then K (fun _ _ _ => False)) { tmps := (ps.zip (encs x)).foldl (fun t (p,v) => t.setIfInBounds p v) tm,defers := [] } W)
  (hbody : ∀ (B : Nat) (pre : List α) (x : α) (a' : Act) (W : World),C ≤ W.heap.size → (∃ r,W.heap[L]? = some (.loop r)) → B ≤ W.heap.size → I B pre W → Ax x a' W → pre.length < N → Sp (pre ++ [x]) → body.wpIn (F.inRound L) (n - 1 - 1) P (PostB C n₀ Pr B I Ix (pre ++ [x]) W) a' W) :
  CallsIn F (n - 1) P gf (#[.func (.yield L) #[] #[]] ++ lb) W1 fun e W' => (∃ v,e = .returned v) ∧
   ((∃ xs,S xs ∧ C ≤ W'.heap.size ∧ I W'.heap.size xs W' ∧ Book dz L (rec .ready none) W') ∨ (∃ pre c,Sp pre ∧ C ≤ W'.heap.size ∧ Ix c pre W' ∧ Book dz L (rec .done (some c)) W')) := by
 have hC0 : ∀ {A B : World} {row : Option Nat},(∀ r,row = some r → W1.heap.size ≤ r ∧ ∃ o : Obj,A.heap[r]? = some o ∧ o.isWalk = true) → (∀ r,row = some r → C ≤ r ∧ ∃ o : Obj,A.heap[r]? = some o ∧ o.isCells = false) :=
  fun hr r e => by obtain ⟨hB,o,ho,hw⟩ := hr r e;exact ⟨Nat.le_trans hCW hB,o,ho,Obj.not_cells_of_walk hw⟩
 refine (hseq L (fun pre W => I W.heap.size pre W ∧ Book dz L (rec .ready none) W ∧ C ≤ W.heap.size) (fun pre W => ∃ c,Ix c pre W ∧ Book dz L (rec .done (some c)) W ∧ C ≤ W.heap.size) W1 hb1 ?_ ?_ ?_ ⟨h0,hbk,hCW⟩).mono ?_
 ·rintro s A B row ⟨h1,h2,h3⟩ hg hr
  exact ⟨hm _ _ _ _ hg.size (hI _ s A B row h1 hg (hC0 (B := B) hr)),h2.walks hg (fun r e => (hr r e).2),Nat.le_trans h3 hg.size⟩
 ·rintro s A B row ⟨c,h1,h2,h3⟩ hg hr
  exact ⟨c,hIx c s A B row h1 hg (hC0 (B := B) hr),h2.walks hg (fun r e => (hr r e).2),Nat.le_trans h3 hg.size⟩
 ·rintro pre x W0 W ⟨hi0,hb0,hC⟩ hbel hlen hsp
  have hg : W0.grownBy W none := ⟨hbel.os,hbel.tape,hbel.output,hbel.size,fun i hi _ => hbel.block i hi⟩
  have hi : I W0.heap.size pre W := hI _ pre W0 W none hi0 hg (fun r e => by cases e)
  have hb : Book dz L (rec .ready none) W := hb0.walks hg (fun r e => by cases e)
  have hCW' : C ≤ W.heap.size := Nat.le_trans hC hbel.size
  have hy := run_yield (P := P) (args := encs x) hb.at_ (by rw [hrec];exact hps x)
  rw [hrec] at hy
  refine ⟨fid,_,assign,body,hy,roundIn_of_wpIn hfid (hassign W0.heap.size pre x W _ hCW' hbel.size hi ?_)⟩
  intro a' Wa hkf hkb hia hax
  have hba := hb.from_ hCL hdz hkf
  have hCa : C ≤ Wa.heap.size := Nat.le_trans hCW' hkf.size
  refine ⟨_,run_beginRound hba.at_ (by rw [hrec]),?_⟩
  have hba2 := hba.put (C := C) hdz { rec .ready none with state := .busy }
  have hkb2 : KeepB n₀ Pr W0.heap.size Wa (Wa.putObj L (.loop { rec .ready none with state := .busy })) := KeepB.putObj _ (Nat.le_trans hnC hCa) (Nat.le_trans hnC hCL) hba.at_ rfl
  have hsz2 : (Wa.putObj L (.loop { rec .ready none with state := .busy })).heap.size = Wa.heap.size := by simp
  refine wpIn_mono (hbody W0.heap.size pre x a' _ (by rw [hsz2];exact hCa) ⟨_,hba2.at_⟩ (by rw [hsz2];exact Nat.le_trans hbel.size hkf.size) ((hI _).putObj _ hia hCL hba.at_ rfl) ((hAx x a').putObj (s := ()) _ hax hCL hba.at_ rfl) hlen hsp) ?_
  have fin : ∀ (jump : Option Code) (W3 : World),KeepsFrom C (Wa.putObj L (.loop { rec .ready none with state := .busy })) W3 →
    (Instr.endRound L jump).run P W3 = .ok (.bool jump.isNone) (W3.putObj L (.loop (rec (if jump.isNone then .ready else .done) jump))) ∧
    W3.heap[L]? = some (.loop { rec .ready none with state := .busy }) ∧ Book dz L (rec (if jump.isNone then .ready else .done) jump) (W3.putObj L (.loop (rec (if jump.isNone then .ready else .done) jump))) ∧
    C ≤ (W3.putObj L (.loop (rec (if jump.isNone then .ready else .done) jump))).heap.size := fun jump W3 hk3 => by
   have hb3 := hba2.from_ hCL hdz hk3
   have he := run_endRound (P := P) jump hb3.at_
   refine ⟨?_,hb3.at_,hb3.put (C := C) hdz _,by have := hk3.size;rw [hsz2] at this;simp;omega⟩
   rw [hrec] at he ⊢
   exact he
  rintro e a3 W3 hp
  cases e with
  | normal =>
   obtain ⟨hk3,hkp3,hi3⟩ := hp
   obtain ⟨hr,hl3,hb4,hC4⟩ := fin none W3 hk3
   have hsz3 : n₀ ≤ W3.heap.size := Nat.le_trans hnC (by simpa using hC4)
   refine ⟨_,_,hr,.inl ⟨rfl,⟨?_,hb4,hC4⟩,((hkb.trans hkb2).trans hkp3).trans (KeepB.putObj _ hsz3 (Nat.le_trans hnC hCL) hl3 rfl)⟩⟩
   have hx := (hI _).putObj (.loop (rec .ready none)) hi3 hCL hl3 rfl
   simpa using hx
  | ret =>
   obtain ⟨hk3,hi3⟩ := hp
   obtain ⟨hr,hl3,hb4,hC4⟩ := fin (some .ret) W3 hk3
   exact ⟨_,_,hr,.inr ⟨rfl,.ret,(hIx _).putObj _ hi3 hCL hl3 rfl,hb4,hC4⟩⟩
  | exit id =>
   obtain ⟨hk3,hi3⟩ := hp
   obtain ⟨hr,hl3,hb4,hC4⟩ := fin (some (.exit id)) W3 hk3
   exact ⟨_,_,hr,.inr ⟨rfl,.exit id,(hIx _).putObj _ hi3 hCL hl3 rfl,hb4,hC4⟩⟩
  | goto t =>
   obtain ⟨hk3,hi3⟩ := hp
   obtain ⟨hr,hl3,hb4,hC4⟩ := fin (some (.goto t)) W3 hk3
   exact ⟨_,_,hr,.inr ⟨rfl,.goto t,(hIx _).putObj _ hi3 hCL hl3 rfl,hb4,hC4⟩⟩
  | panic ch => exact hp.elim
  | outgrown => exact hp.elim
 ·rintro e W2 ⟨⟨v,rfl⟩,(⟨xs,hS,hi,hb,hC⟩ | ⟨pre,hSp,c,hi,hb,hC⟩)⟩
  ·exact ⟨⟨v,rfl⟩,.inl ⟨xs,hS,hC,hi,hb⟩⟩
  ·exact ⟨⟨v,rfl⟩,.inr ⟨pre,c,hSp,hC,hi,hb⟩⟩
/-- A loop that stands in no round. -/
theorem range_outer {α : Type} {g : Operand} {ps : Array Tmp} {assign body : Code} {Q : Exit → Act → World → Prop} {a : Act} {w : World} {n₀ : Nat} {Pr : Nat → Prop}
  (hro : F.round = none) (h1 : 1 ≤ n) {gf : Nat} {lb : Array Value} (hg : a.eval g = .func (.func gf) #[] lb) (hFg : F.fn gf) (eg : ∀ args w,(callFunc gf args).run P w = .ok (.enter gf args) w)
  {encs : α → Array Value} {S Sp : List α → Prop} {N : Nat} {w0 : World} (hseq : SeqB F (n - 1) P gf lb encs n₀ Pr S Sp N w0) (hb0 : Below w0.heap.size w0 w) (hps : ∀ x,(encs x).size = ps.size) (hn₀ : n₀ ≤ w.heap.size)
  (I : Nat → List α → World → Prop) (Ix : Code → List α → World → Prop) (hI : ∀ B,OwnFrom w.heap.size (I B)) (hm : ∀ B B' pre W,B ≤ B' → I B pre W → I B' pre W) (hIx : ∀ c,OwnFrom w.heap.size (Ix c)) (h0 : I w.heap.size [] w)
  (Ax : α → Act → World → Prop) (hAx : ∀ x a',OwnFrom w.heap.size (fun (_ : Unit) W => Ax x a' W))
  (hassign : ∀ (l B : Nat) (pre : List α) (x : α) (W : World) (K : Act → World → Prop),w.heap.size ≤ W.heap.size → B ≤ W.heap.size → I B pre W → (∀ a' W',KeepsFrom w.heap.size W W' → KeepB n₀ Pr B W W' → I B pre W' → Ax x a' W' → K a' W') →
   assign.wpIn (F.inRound l) (n - 1 - 1) P (Exit.then K (fun _ _ _ => False)) { tmps := (ps.zip (encs x)).foldl (fun t (p,v) => t.setIfInBounds p v) a.tmps,defers := [] } W)
  (hbody : ∀ (l B : Nat) (pre : List α) (x : α) (a' : Act) (W : World),w.heap.size ≤ l → w.heap.size ≤ W.heap.size → (∃ r,W.heap[l]? = some (.loop r)) → B ≤ W.heap.size → I B pre W → Ax x a' W → pre.length < N → Sp (pre ++ [x]) → body.wpIn (F.inRound l) (n - 1 - 1) P (PostB w.heap.size n₀ Pr B I Ix (pre ++ [x]) W) a' W)
  (hdone : ∀ (D : Nat) (xs : List α) (W : World),w.heap.size ≤ D → S xs → I W.heap.size xs W → W.heap[D]? = some (.deferred (some [])) → Q .normal { a with defers := { target := .collected D,args := #[] } :: a.defers } W)
  (hstop : ∀ (D : Nat) (c : Code) (pre : List α) (W : World),w.heap.size ≤ D → Sp pre → Ix c pre W → W.heap[D]? = some (.deferred (some [])) → c.wpIn F n P Q { a with defers := { target := .collected D,args := #[] } :: a.defers } W) :
  (Code.rangeFunc g ps assign body).wpIn F n P Q a w := by
 refine wpIn_rangeFunc ?_
 intro fid hfid
 rw [hro]
 obtain ⟨rec,hrec⟩ : ∃ rec : LoopState → Option Code → Loop,rec = fun st pe => { state := st,pending := pe,fn := fid,tmps := a.tmps,params := ps,assign,body,defers := w.heap.size } := ⟨_,rfl⟩
 obtain ⟨W1,hW1⟩ : ∃ W1,(w.alloc (.deferred (some []))).alloc (.loop (rec .ready none)) = W1 := ⟨_,rfl⟩
 have hbk : Book (some w.heap.size) (w.heap.size + 1) (rec .ready none) W1 := by
  rw [← hW1]
  refine ⟨?_,fun d e => ?_⟩
  ·have := World.alloc_heap_new (w.alloc (.deferred (some []))) (.loop (rec .ready none));rwa [World.size_alloc] at this
  ·cases e;exact (Below.heap_alloc _ _ _ (by simp)).trans (World.alloc_heap_new w _)
 have hsz : W1.heap.size = w.heap.size + 2 := by rw [← hW1];simp
 have hI1 : I W1.heap.size [] W1 := hm w.heap.size W1.heap.size [] W1 (by omega) (by rw [← hW1];exact (hI w.heap.size).alloc _ ((hI w.heap.size).alloc _ h0))
 have hb1 : Below w0.heap.size w0 W1 := by
  rw [← hW1];exact hb0.trans ((((Below.refl _ w).alloc (Nat.le_refl _) _).alloc (by simp) _).mono hb0.size)
 refine ⟨w.heap.size + 1,[{ target := .collected w.heap.size,args := #[] }],W1,{ target := .fn (.func gf) lb,args := #[.func (.yield (w.heap.size + 1)) #[] #[]] },W1,gf,
  #[.func (.yield (w.heap.size + 1)) #[] #[]] ++ lb,W1,?_,?_,?_,?_,fun _ => h1,?_⟩
 ·rw [← hW1,hrec];exact run_enterLoop_outer _ _ _ _ _
 ·simp only [resolve,hg]
  simp [go_sem]
 ·intro f' hf';simp [Target.leads] at hf';subst hf';exact hFg
 ·simp [invoke,go_sem,eg]
 ·refine (rounds (C := w.heap.size) (dz := some w.heap.size) hfid hseq hb1 hps rec hrec hn₀ (by omega) (by omega) (fun d e => by cases e;exact ⟨Nat.le_refl _,by omega⟩) hbk I Ix hI hm hIx hI1 Ax hAx
   (fun B => hassign _ B) (fun B pre x a' W => hbody _ B pre x a' W (by omega))).mono ?_
  rintro e W2 ⟨⟨v,rfl⟩,(⟨xs,hS,hC,hi,hb⟩ | ⟨pre,c,hSp,hC,hi,hb⟩)⟩
  ·refine ⟨none,_,by have := run_endLoop (P := P) hb.at_ (by rw [hrec];simp);rw [hrec] at this;exact this,hdone w.heap.size xs _ (Nat.le_refl _) hS ?_ ((World.putObj_heap_other (by omega)).trans (hb.dz_ _ rfl))⟩
   have hx := (hI _).putObj (.loop { rec .ready none with state := .exhausted }) hi (by omega : w.heap.size ≤ w.heap.size + 1) hb.at_ rfl
   rw [hrec] at hx
   simpa using hx
  ·exact ⟨some c,_,by have := run_endLoop (P := P) hb.at_ (by rw [hrec];simp);rw [hrec] at this;exact this,hstop w.heap.size c pre _ (Nat.le_refl _) hSp ((hIx c).putObj _ hi (by omega) hb.at_ rfl) ((World.putObj_heap_other (by omega)).trans (hb.dz_ _ rfl))⟩
section
variable {ops : Array Oper} {md : Region.Mode} {C : World → Prop}
end
end Go.Proofs.YtgdpnmikcopkmaaDoor.Rg
end
section
namespace Go.Proofs.YtgdpnmikcopkmaaDoor.Pu
open Go Go.RowKit Go.Proofs.YtgdpnmikcopkmaaDoor.Mu Go.Proofs.YtgdpnmikcopkmaaDoor.U Go.Proofs.YtgdpnmikcopkmaaDoorW.PrintWords Go.Proofs.YtgdpnmikcopkmaaDoorW.PrintLast Go.Proofs.YtgdpnmikcopkmaaDoorW.PrintMore
set_option linter.unusedVariables false
theorem glued_j0 (u v : Int) (b : Bool) : Ev (fun k => cluster_glued.j0 k u v b) (if b = true then true else (decide (cls v = 3) && (!decide (cls u = 1) && !decide (cls u = 2)))) := by
 refine Ev.step (fun k => cluster_glued.j0.eq_2 ..) (ev_val (fun hb => ev_pos hb (Ev.now _)) (fun hb => ev_neg hb ?_))
 refine Ev.bind (class_ans u) (Ev.bind (class_ans v) ?_)
 by_cases h3 : cls v = 3
 ·refine ev_pos h3 ?_
  by_cases h1 : cls u = 1
  ·exact ev_pos h1 (ev_now (by simp [h1]))
  ·exact ev_neg h1 (ev_now (by by_cases h2 : cls u = 2 <;> simp [h1,h2,h3]))
 ·exact ev_neg h3 (ev_now (by simp [h3]))
theorem glued_ans (u v : Int) : Ev (fun k => cluster_glued.f k u v) (glueB u v) := by
 unfold cluster_glued.f
 by_cases h : u = 13
 ·refine ev_pos h ?_
  have := glued_j0 u v (v == 10)
  have e : glueB u v = (if (v == 10) = true then true else (decide (cls v = 3) && (!decide (cls u = 1) && !decide (cls u = 2)))) := by
   unfold glueB
   by_cases hv : v = 10 <;> simp [h,hv]
  rw [e];exact this
 ·refine ev_neg h ?_
  have := glued_j0 u v false
  have e : glueB u v = (if false = true then true else (decide (cls v = 3) && (!decide (cls u = 1) && !decide (cls u = 2)))) := by
   unfold glueB
   simp [h]
  rw [e];exact this
theorem atA_nat {s : ByteArray} {x : Nat} (hb : Bd s x) (hx : x < s.size) : atA s x = (uC s x,(uN s x : Int),true) := by
 unfold atA
 rw [if_pos ⟨(bdB_iff s x).2 ((bdI_nat s x).2 hb),by omega⟩,Int.toNat_natCast]
theorem prevS_of {s : ByteArray} {x y : Nat} (hy : Bd s y) (h : y + uN s y = x) : PrevS s x y := by
 have := uN_pos s y
 exact prevS_in hy (by omega) (by omega)
theorem cboundary_j0 (s : ByteArray) (hs : s.size ≤ 1099511627776) (a : Int) (b : Bool) (hb : b = true ↔ (a ≤ 0 ∨ (s.size : Int) ≤ a)) : Ev (fun k => cluster_Boundary.j0 k s a b) (cbB s a) := by
 have hc := cbB_iff s a
 refine Ev.step (fun k => cluster_Boundary.j0.eq_2 ..) ?_
 by_cases h : b = true
 ·refine ev_pos h ?_
  have h1 := hb.1 h
  by_cases h0 : a = 0
  ·refine ev_pos h0 (ev_now ?_)
   subst h0
   exact (hc.2 (cbI_zero s)).symm
  ·refine ev_neg h0 (ev_now ?_)
   rw [Bool.eq_iff_iff,hc,beq_iff_eq]
   constructor
   ·intro e;rw [e];exact cbI_size s
   ·intro hC;have := cbI_le hC;omega
 ·have h1 : ¬ (a ≤ 0 ∨ (s.size : Int) ≤ a) := fun h2 => h (hb.2 h2)
  refine ev_neg h (Ev.bind (boundary_ans s hs a) ?_)
  by_cases hB : bdB s a = true
  ·refine ev_pos hB ?_
   obtain ⟨x,rfl⟩ : ∃ x : Nat,a = x := ⟨a.toNat,by omega⟩
   have hbx : Bd s x := (bdI_nat s x).1 ((bdB_iff s x).1 hB)
   obtain ⟨y,hy,hyx⟩ := bd_prev s x hbx (by omega)
   have hp := uN_pos s y
   refine Ev.bind (prev_ev hs (by omega) (prevS_of hy hyx)) (Ev.bind (at_ans s hs y) (Ev.bind (at_ans s hs x) ?_))
   rw [atA_nat hy (by omega),atA_nat hbx (by omega)]
   refine Ev.bind (glued_ans (uC s y) (uC s x)) (ev_now ?_)
   rw [Bool.eq_iff_iff,hc,cbI_nat,cb_iff s x y hy hyx (by omega)]
   cases glueB (uC s y) (uC s x) <;> simp
  ·refine ev_neg hB (ev_now ?_)
   symm
   rw [← Bool.not_eq_true,hc]
   exact fun h2 => hB ((bdB_iff s a).2 h2.bd)
theorem cboundary_ans (s : ByteArray) (hs : s.size ≤ 1099511627776) (a : Int) : Ev (fun k => cluster_Boundary.f k s a) (cbB s a) := by
 unfold cluster_Boundary.f
 by_cases h : a ≤ 0
 ·exact ev_pos h (cboundary_j0 s hs a _ ⟨fun _ => .inl h,fun _ => rfl⟩)
 ·exact ev_neg h (cboundary_j0 s hs a _ (by rw [decide_eq_true_eq];omega))
theorem cboundary_yes {s : ByteArray} (hs : s.size ≤ 1099511627776) {a : Int} (h : CBI s a) : Ev (fun k => cluster_Boundary.f k s a) true := (cbB_iff s a).2 h ▸ cboundary_ans s hs a
theorem cboundary_no {s : ByteArray} (hs : s.size ≤ 1099511627776) {a : Int} (h : ¬ CBI s a) : Ev (fun k => cluster_Boundary.f k s a) false := by
 have : cbB s a = false := by rw [← Bool.not_eq_true,cbB_iff];exact h
 exact this ▸ cboundary_ans s hs a
theorem cnext_loop (s : ByteArray) (hs : s.size ≤ 1099511627776) : ∀ (n : Nat) (a : Int),(s.size : Int) - a ≤ n → 0 ≤ a → ∃ d,Ev (fun k => cluster_Next.l0 k s a) d ∧ CNextS s a d := by
 have hend : ∀ a : Int,(s.size : Int) ≤ a → ∃ d,Ev (fun k => cluster_Next.l0 k s a) d ∧ CNextS s a d := fun a h =>
  ⟨s.size,Ev.step (fun k => cluster_Next.l0.eq_2 ..) (ev_neg (by omega) (Ev.now _)),cbI_size s,.inr rfl,fun e he hae => by have := cbI_le he;omega⟩
 intro n
 induction n with
 | zero => intro a hn h0;exact hend a (by omega)
 | succ n ih =>
  intro a hn h0
  by_cases ha : a < (s.size : Int)
  ·obtain ⟨d,hE,hD⟩ := next_ans s hs a
   have hd := bdI_le hD.1
   have hda : a < d := by rcases hD.2.1 with h | h <;> omega
   by_cases hc : CBI s d
   ·refine ⟨d,Ev.step (fun k => cluster_Next.l0.eq_2 ..) (ev_pos ha (Ev.bind hE (Ev.bind (cboundary_yes hs hc) (ev_pos rfl (Ev.now _))))),hc,.inl hda,fun e he hae => hD.2.2 e he.bd hae⟩
   ·obtain ⟨d',hE',hD'⟩ := ih d (by omega) (by omega)
    refine ⟨d',Ev.step (fun k => cluster_Next.l0.eq_2 ..) (ev_pos ha (Ev.bind hE (Ev.bind (cboundary_no hs hc) (ev_neg (by simp) hE')))),hD'.1,?_,fun e he hae => ?_⟩
    ·rcases hD'.2.1 with h | h
     ·exact .inl (by omega)
     ·exact .inr h
    ·have h1 := hD.2.2 e he.bd hae
     refine hD'.2.2 e he ?_
     by_cases h2 : e = d
     ·subst h2;exact absurd he hc
     ·omega
  ·exact hend a (by omega)
theorem cnext_ans (s : ByteArray) (hs : s.size ≤ 1099511627776) (a : Int) : ∃ d,Ev (fun k => cluster_Next.f k s a) d ∧ CNextS s a d := by
 unfold cluster_Next.f
 by_cases h : a < 0
 ·exact ⟨0,ev_pos h (Ev.now _),cbI_zero s,.inl h,fun e he _ => (cbI_le he).1⟩
 ·obtain ⟨d,hE,hD⟩ := cnext_loop s hs s.size a (by omega) (by omega)
  exact ⟨d,ev_neg h hE,hD⟩
theorem cnext_ev {s : ByteArray} (hs : s.size ≤ 1099511627776) {a d : Int} (h : CNextS s a d) : Ev (fun k => cluster_Next.f k s a) d := by
 obtain ⟨d',hE,h'⟩ := cnext_ans s hs a;exact h.one h' ▸ hE
theorem cells_ans (c : Int) : Ev (fun k => width_Cells.f k c) (celB c) := by
 have hC : celB c = if cls c = 1 then 0 else if cls c = 4 ∨ (cls c = 2 ∧ c ≤ 127) then 2 else 1 := rfl
 unfold width_Cells.f
 refine Ev.bind (class_ans c) ?_
 by_cases h1 : cls c = 1
 ·exact ev_pos h1 (ev_now (by rw [hC,if_pos h1]))
 ·refine ev_neg h1 ?_
  by_cases h4 : cls c = 4
  ·exact ev_pos h4 (ev_now (by rw [hC,if_neg h1,if_pos (.inl h4)]))
  ·refine ev_neg h4 ?_
   by_cases h2 : cls c = 2
   ·refine ev_pos h2 ?_
    by_cases h5 : c ≤ 127
    ·exact ev_pos h5 (ev_now (by rw [hC,if_neg h1,if_pos (.inr ⟨h2,h5⟩)]))
    ·exact ev_neg h5 (ev_now (by rw [hC,if_neg h1,if_neg (by omega)]))
   ·exact ev_neg h2 (ev_now (by rw [hC,if_neg h1,if_neg (by omega)]))
theorem toList_bytes (s : ByteArray) : s.toList = s.data.toList := Lib.toList_data s
theorem uC_low (s : ByteArray) (x : Nat) (c : Nat) (hc : c < 128) : uC s x = c ↔ byt s x = c := by
 rcases uC_cases s x with h | h | h | h | h <;> omega
theorem uN_low (s : ByteArray) (x : Nat) (c : Nat) (hc : c < 128) (h : uC s x = c) : uN s x = 1 := by
 rcases uC_cases s x with h | h | h | h | h <;> omega
theorem prefix_nl (s : ByteArray) (x : Nat) (hx : x < s.size) : strings_HasPrefix.f (s.extract (x + 1) s.size) (⟨#[10]⟩ : ByteArray) = some (decide (x + 1 < s.size ∧ byt s (x + 1) = 10)) := by
 have hsz : (s.extract (x + 1) s.size).size = s.size - (x + 1) := size_extract _ _ _ (Nat.le_refl _)
 unfold strings_HasPrefix.f stringslite_HasPrefix.f
 rw [hsz]
 by_cases h : x + 1 < s.size
 ·rw [if_pos (by show ((s.size - (x + 1) : Nat) : Int) ≥ ((1 : Nat) : Int);omega),if_pos (by omega),if_pos (by show ((1 : Nat) : Int) ≤ _;omega)]
  show some _ = some _
  congr 1
  rw [Bool.eq_iff_iff,beq_iff_eq,decide_eq_true_eq,toList_bytes,toList_bytes,Lib.extract_data]
  have e : (s.extract (x + 1) s.size).data.toList = s.data.toList.drop (x + 1) := by
   rw [Lib.extract_data,List.take_of_length_le (by rw [List.length_drop,← Lib.size_eq];omega)]
  rw [e,List.drop_zero]
  have hl : x + 1 < s.data.toList.length := by rw [← Lib.size_eq];exact h
  rw [List.drop_eq_getElem_cons hl]
  show [s.data.toList[x + 1]] = [10] ↔ _
  have hb : byt s (x + 1) = (s.data.toList[x + 1]).toNat := by
   unfold byt
   rw [get!_eq,List.getD_eq_getElem?_getD,List.getElem?_eq_getElem hl];rfl
  rw [hb,List.cons.injEq]
  constructor
  ·rintro ⟨h1,_⟩;exact ⟨h,by rw [h1];rfl⟩
  ·rintro ⟨_,h1⟩;exact ⟨UInt8.toNat_inj.1 (by rw [h1];rfl),rfl⟩
 ·rw [if_neg (by show ¬ ((s.size - (x + 1) : Nat) : Int) ≥ ((1 : Nat) : Int);omega)]
  show some _ = some _
  congr 1
  symm
  rw [decide_eq_false_iff_not]
  omega
theorem made_ans (s : ByteArray) (hs : s.size ≤ 1099511627776) (x : Nat) (hb : Bd s x) (hx : x < s.size) (t : Int) : Ev (fun k => cluster_made.f k s x t) ((x : Int),t,clsAt s x,celAt s x) := by
 unfold cluster_made.f
 refine Ev.bind (at_ans s hs x) ?_
 rw [atA_nat hb hx]
 refine Ev.bind (class_ans (uC s x)) (Ev.bind (cells_ans (uC s x)) ?_)
 by_cases h : uC s x = 13
 ·have h1 := uN_low s x 13 (by omega) h
  have hw : wrap64 ((x : Int) + 1) = ((x + 1 : Nat) : Int) := by rw [w64 (by omega) (by omega)];omega
  refine ev_pos h ?_
  rw [hw]
  refine ev_pos (by omega) (ev_pos (by omega) (ev_some (prefix_nl s x hx) ?_))
  have hc : crlf s x ↔ (x + 1 < s.size ∧ byt s (x + 1) = 10) := by
   unfold crlf
   rw [h1,← uC_low s (x + 1) 10 (by omega)]
   exact ⟨fun h => h.2,fun h2 => ⟨h,h2⟩⟩
  unfold clsAt celAt
  by_cases hq : crlf s x
  ·rw [if_pos hq,if_pos hq]
   exact ev_pos (by rw [decide_eq_true_eq];exact hc.1 hq) (Ev.now _)
  ·rw [if_neg hq,if_neg hq]
   exact ev_neg (by rw [decide_eq_true_eq];exact fun h => hq (hc.2 h)) (Ev.now _)
 ·refine ev_neg h (ev_now ?_)
  unfold clsAt celAt
  rw [if_neg (fun hq => h hq.1),if_neg (fun hq => h hq.1)]
end Go.Proofs.YtgdpnmikcopkmaaDoor.Pu
end
section
namespace Go.Proofs.YtgdpnmikcopkmaaDoor.U
open Go.RowKit Go.Shelf Go.Proofs.YtgdpnmikcopkmaaDoor.Mu Go.Proofs.YtgdpnmikcopkmaaDoor.Pu Go.Proofs.YtgdpnmikcopkmaaDoor.Rg Go.Proofs.YtgdpnmikcopkmaaDoorW.PrintWords Go.Proofs.YtgdpnmikcopkmaaDoorW.PrintLast Go.Proofs.YtgdpnmikcopkmaaDoorW.PrintMore
attribute [local go_sem] Oper.semAt_some
set_option linter.unusedVariables false
set_option linter.unusedSimpArgs false
abbrev encC (c : S62) : Array Value := #[.agg #[.int .i64 c.f0,.int .i64 c.f1,.int .i64 c.f2,.int .i64 c.f3]]
set_option maxRecDepth 100000 in
set_option maxHeartbeats 2000000 in
/-- cluster.Walk's inner function: its contract. -/
theorem cwalk1_seq (n : Nat) (hn : 1 ≤ n) (w₀ w : World) (s : ByteArray) (Bs : Nat) (hs : s.size ≤ 1099511627776) (hT : Lib.Utf8Tabs 0 1 w₀) (hb : Below w₀.heap.size w₀ w) (hc : Boxed w Bs 9 (.string s)) :
  SeqB Fence.wide n Tryd.prog 75 #[.pointer (some ⟨Bs,0,none⟩)] encC w₀.heap.size (fun k => k = Bs) (fun xs => Hid (xs = clusL s)) (fun pre => pre <+: clusL s) (clusL s).length w := by
 intro l J Jx W hW hJ hJx hY h0
 refine callsIn_of_wp Tryd.func75 rfl trivial ?_ rfl
 simp only [Tryd.ntmps75,List.size_toArray,List.length_cons,List.length_nil,Nat.reduceAdd,Nat.reduceSub,Array.replicate_succ,Array.replicate_zero,List.push_toArray,List.append_toArray,List.nil_append,List.cons_append]
 gi_wp2
 gi_loopw [3] (fun v wr => ∃ (i : Nat) (pre : List S62),v = .int .i64 i ∧ i ≤ s.size ∧ Hid (CB s i) ∧ Hid (clusL s = pre ++ ctl s i) ∧ J pre wr ∧ Boxed wr Bs 9 (.string s) ∧ Below w₀.heap.size w₀ wr)
  (fun v _ => s.size - (intOf v).toNat)
 case atStart =>
  exact ⟨0,[],rfl,Nat.zero_le _,Lib.hid (cb_zero s),Lib.hid rfl,h0,(hW.block Bs hc.lt).trans hc,hb.trans (hW.mono hb.size)⟩
 case round =>
  obtain ⟨i,pre,rfl,hi,hcb0,hx,hJs,hbx,hbl⟩ := hrel
  have hcb := hbx.cell
  by_cases hlt : i < s.size
  ·have hlt' : (i : Int) < (s.size : Int) := by omega
   obtain ⟨t,ht⟩ : ∃ t,nxt s i = t := ⟨_,rfl⟩
   have ht1 : i < t := ht ▸ nxt_pos s i hlt
   have ht2 : t ≤ s.size := ht ▸ nxt_le s i hcb0.out.1 hlt
   obtain ⟨k1,hk1⟩ := Ev.rounds (cnext_ev hs (nxtS s i hcb0.out.1 hlt i (Int.le_refl _) (by rw [ht];omega)))
   rw [ht] at hk1
   have hk1 := Lib.hid hk1
   obtain ⟨k2,hk2⟩ := Ev.rounds (made_ans s hs i hcb0.out.1 hlt (t : Int))
   have hcl : Hid (clAt s i = ⟨(i : Int),(t : Int),clsAt s i,celAt s i⟩) := Lib.hid (by unfold clAt;rw [ht])
   obtain ⟨q2,hq2⟩ : ∃ q2,clsAt s i = q2 := ⟨_,rfl⟩
   obtain ⟨q3,hq3⟩ : ∃ q3,celAt s i = q3 := ⟨_,rfl⟩
   rw [hq2,hq3] at hk2 hcl
   have hk2 := Lib.hid hk2
   have hcbt : Hid (CB s t) := Lib.hid (ht ▸ nxt_cb s i hcb0.out.1 hlt)
   have hx2 : Hid (clusL s = pre ++ (⟨(i : Int),(t : Int),q2,q3⟩ : S62) :: ctl s t) := Lib.hid (by
    have := hx.out;rw [ctl_go s i hlt,hcl.out,ht] at this;exact this)
   clear hx hcl hq2 hq3 ht hcb0
   have hTw := tabs_below hT hbl
   gi_wp2_with (refine ⟨trivial,?_⟩;gi_at_call 39;refine (callsIn_wide.2 (cluster_Next.calls k1 s i t wr hTw hk1.out)).mono ?_;rintro e w1 ⟨rfl,hb1⟩;have hbx1 : Boxed w1 Bs 9 (.string s) := (hb1.block Bs hbx.lt).trans hbx;have hcb1 := hbx1.cell;have hT1 := tabs_below hTw hb1)
   gi_wp2_with (refine ⟨trivial,?_⟩;gi_at_call 76;refine (callsIn_wide.2 (cluster_made.calls k2 s i t i t q2 q3 w1 hT1 hk2.out)).mono ?_;rintro e w2 ⟨rfl,hb2⟩;have hb12 : Below wr.heap.size wr w2 := hb1.trans (hb2.mono hb1.size);obtain ⟨fn,tmps,assign,body,hy,hR⟩ := hY pre (⟨(i : Int),(t : Int),q2,q3⟩ : S62) wr w2 hJs hb12 (by rw [hx2.out];simp) ⟨ctl s t,by rw [hx2.out];simp⟩)
   refine hR.mono ?_
   rintro e W3 (⟨rfl,hJ3,hk3⟩ | ⟨rfl,hJx3⟩)
   ·have hbx3 : Boxed W3 Bs 9 (.string s) := hk3.2 Bs _ (.inl rfl) ((hb12.block Bs hbx.lt).trans hbx) rfl
    have hbl3 : Below w₀.heap.size w₀ W3 := (hbl.trans (hb12.mono hbl.size)).trans hk3.1
    gi_wp2
    go_roundw
    case rel => exact ⟨t,pre ++ [(⟨(i : Int),(t : Int),q2,q3⟩ : S62)],rfl,ht2,hcbt,Lib.hid (by rw [hx2.out];simp),hJ3,hbx3,hbl3⟩
    case measure => simp [intOf];omega
   ·gi_wp2
    refine bodyPost_ret (results_none rfl _ _ _) rfl ?_
    exact ⟨⟨_,rfl⟩,.inr ⟨_,⟨ctl s t,by rw [hx2.out];simp⟩,hJx3⟩⟩
  ·have hge : ¬ ((i : Int) < (s.size : Int)) := by omega
   gi_wp2
   go_end0
   have hz : ctl s i = [] := ctl_end s i (by omega)
   exact ⟨⟨_,rfl⟩,.inl ⟨pre,Lib.hid (by rw [hx.out,hz,List.append_nil]),hJs⟩⟩
theorem cwalk_calls (s : ByteArray) (w : World) :
  Calls Tryd.prog 56 #[.string s] w fun e w' => e = .returned (.func (.func 75) #[] #[.pointer (some ⟨w.heap.size,0,none⟩)]) ∧ w' = w.alloc (.cells #[.string s] 9) := by
 go_enter Tryd.func56,Tryd.ntmps56
 go_wp2
 go_ret
 exact ⟨rfl,rfl⟩
def cellsC : List S62 → List Value
 | [] => []
 | c :: cs => .int .i64 c.f0 :: .int .i64 c.f1 :: .int .i64 c.f2 :: .int .i64 c.f3 :: cellsC cs
theorem cellsC_snoc (cs : List S62) (c : S62) : cellsC (cs ++ [c]) = cellsC cs ++ [.int .i64 c.f0,.int .i64 c.f1,.int .i64 c.f2,.int .i64 c.f3] := by
 induction cs with
 | nil => rfl
 | cons x xs ih => simp [cellsC,ih]
theorem reps_cellsC (w : World) (base : Nat) (ok : Nat → Prop) : ∀ cs : List S62,Reps (k62.M w base ok) 4 cs (cellsC cs)
 | [] => Reps.none _ _
 | c :: cs => Reps.c4 (k62_mkM w base ok c) (reps_cellsC w base ok cs)
theorem cells_four_new (w : World) (x y z v : Value) (t : TypeId) : ∀ j u,[x,y,z,v][j]? = some u → (w.alloc (.cells #[x,y,z,v] t)).cell? ((⟨w.heap.size,0,none⟩ : Addr).add j) = some u := by
 intro j u hj
 match j,hj with
 | 0,hj => simp at hj;subst hj;simp [Addr.add]
 | 1,hj => simp at hj;subst hj;simp [Addr.add]
 | 2,hj => simp at hj;subst hj;simp [Addr.add]
 | 3,hj => simp at hj;subst hj;simp [Addr.add]
 | (j + 4),hj => simp at hj
set_option maxRecDepth 100000 in
set_option maxHeartbeats 4000000 in
theorem clist_any (s : ByteArray) (w : World) (hs : s.size ≤ 1099511627776) (hT : Lib.Utf8Tabs 0 1 w) :
  Calls Tryd.prog 34 #[.string s] w fun e w' => ∃ v0_ : Value,e = .returned v0_ ∧ Kd.R k62 62 w' w.heap.size (fun _ => True) v0_ (clusL s) ∧ Below w.heap.size w w' := by
 have hlen : (clusL s).length ≤ s.size := clusL_length s
 obtain ⟨i0,hi,hz0,hz1,hz2⟩ := info_parts info62
 refine (callsIn_wide (n := 6)).1 ?_
 refine callsIn_of_wp_marks Tryd.func34 rfl trivial ?_ rfl
 simp only [Tryd.ntmps34,List.size_toArray,List.length_cons,List.length_nil,Nat.reduceAdd,Nat.reduceSub,Array.replicate_succ,Array.replicate_zero,List.push_toArray,List.append_toArray,List.nil_append,List.cons_append]
 gi_wp2_with (refine ⟨trivial,?_⟩;gi_at_call 56;refine (callsIn_wide.2 (cwalk_calls s _)).mono ?_;rintro e w' ⟨rfl,rfl⟩)
 have bO := (Boxed.new w 58 (.slice none 0 0)).alloc (.cells #[.string s] 9)
 have bS := Boxed.new (w.alloc (.cells #[.slice none 0 0] 58)) 9 (.string s)
 rw [World.size_alloc] at bS
 have hB0 : Below w.heap.size w ((w.alloc (.cells #[.slice none 0 0] 58)).alloc (.cells #[.string s] 9)) := ((Below.refl _ w).alloc (Nat.le_refl _) _).alloc (by simp) _
 have hsz : ((w.alloc (.cells #[.slice none 0 0] 58)).alloc (.cells #[.string s] 9)).heap.size = w.heap.size + 2 := by simp
 obtain ⟨W0,hW0⟩ : ∃ W0,(w.alloc (.cells #[.slice none 0 0] 58)).alloc (.cells #[.string s] 9) = W0 := ⟨_,rfl⟩
 rw [hW0] at bO bS hB0 hsz ⊢
 clear hW0
 refine range_outer (α := S62) rfl (by omega) (gf := 75) (lb := #[.pointer (some ⟨w.heap.size + 1,0,none⟩)]) rfl trivial (enters_of Tryd.func75 (by kernel_rfl) rfl)
  (cwalk1_seq 5 (by omega) w W0 s (w.heap.size + 1) hs hT hB0 bS) (Below.refl _ _) (fun _ => rfl) (by omega)
  (fun (B : Nat) (pre : List S62) (W : World) => (((∃ v,Boxed W w.heap.size 58 v ∧ W.ownsRow w.heap.size 62 4 v pre.length (cellsC pre) ∧ (∀ g,v.ownBlock = some g → g < B)) ∧ Boxed W (w.heap.size + 1) 9 (.string s)) ∧ Below w.heap.size w W) ∧ w.heap.size < B)
  (fun _ _ _ => False)
  (fun B => OwnFrom.and (OwnFrom.and (OwnFrom.and (Own.from (holdsRow_own w.heap.size w.heap.size 58 62 4 (fun (pre : List S62) => pre.length) (fun pre => cellsC pre) (fun _ v => ∀ g,v.ownBlock = some g → g < B)) _) (Own.from (boxed_own _ _ _) _)) (ownFrom_below (Nat.le_refl _) (by omega))) (ownFrom_pure _ (fun _ => w.heap.size < B)))
  (fun B B' pre W hBB h => ⟨⟨⟨by obtain ⟨v,h1,h2,h3⟩ := h.1.1.1;exact ⟨v,h1,h2,fun g hg => Nat.lt_of_lt_of_le (h3 g hg) hBB⟩,h.1.1.2⟩,h.1.2⟩,Nat.lt_of_lt_of_le h.2 hBB⟩)
  (fun _ _ _ _ _ hs _ _ => hs)
  ⟨⟨⟨⟨_,bO,World.ownsRow_nil _ _ _ _,by simp [Value.ownBlock]⟩,bS⟩,hB0⟩,by omega⟩
  (fun (x : S62) (a' : Act) (W : World) => ∃ Bx,Hid (W.heap[Bx]? = some (.cells #[.int .i64 x.f0,.int .i64 x.f1,.int .i64 x.f2,.int .i64 x.f3] 62 (0,0))) ∧ a' = { tmps := #[.string s,undef,.slice none 0 0,.pointer (some ⟨w.heap.size,0,none⟩),.pointer (some ⟨Bx,0,none⟩),.string s,.func (.func 75) #[] #[.pointer (some ⟨w.heap.size + 1,0,none⟩)],.agg #[.int .i64 x.f0,.int .i64 x.f1,.int .i64 x.f2,.int .i64 x.f3],undef,undef,undef,undef,undef],defers := [] })
  (fun x a' _ X Y row hs hg hr => by
   obtain ⟨Bx,h1,h2⟩ := hs
   refine ⟨Bx,?_,h2⟩
   refine (hg.block Bx (Array.getElem?_eq_some_iff.1 h1).1 (fun e => ?_)).trans h1
   obtain ⟨_,o,ho,hc⟩ := hr Bx e.symm
   rw [show X.heap[Bx]? = _ from h1] at ho;cases ho;cases hc)
  ?assign ?body ?done ?stop
 case assign =>
  rintro l B pre x W K hCW hBW hI hK
  have hsz1 := hI.1.2.size
  gi_wp2
  exact hK _ _ ((KeepsOthers.alloc _ _).from _) (KeepB.of_below hsz1 ((Below.refl _ W).alloc (Nat.le_refl _) _)) ⟨⟨⟨by obtain ⟨v,h1,h2,h3⟩ := hI.1.1.1;exact ⟨v,h1.alloc _,h2.alloc _,h3⟩,hI.1.1.2.alloc _⟩,hI.1.2.alloc hsz1 _⟩,hI.2⟩ ⟨W.heap.size,Lib.hid (World.alloc_heap_new W _),rfl⟩
 case body =>
  rintro l B pre x a' W hl hCW hr hBW ⟨⟨⟨⟨v,hv,hrow,hvB⟩,hbs⟩,hB⟩,hoB⟩ ⟨Bx,hBx,rfl⟩ hlt hpx
  have hc := hv.cell
  have hsz1 := hB.size
  have hcx0 : W.cell? ⟨Bx,0,none⟩ = some (.int .i64 x.f0) := by simp [World.cell?,show W.heap[Bx]? = _ from hBx]
  have hcx1 : W.cell? ⟨Bx,1,none⟩ = some (.int .i64 x.f1) := by simp [World.cell?,show W.heap[Bx]? = _ from hBx]
  have hcx2 : W.cell? ⟨Bx,2,none⟩ = some (.int .i64 x.f2) := by simp [World.cell?,show W.heap[Bx]? = _ from hBx]
  have hcx3 : W.cell? ⟨Bx,3,none⟩ = some (.int .i64 x.f3) := by simp [World.cell?,show W.heap[Bx]? = _ from hBx]
  have hu := Tryd.underlying62
  gi_wp2_with (gi_at_builtin;refine wpListIn_append_own _ rfl _ _ 58 rfl w.heap.size 62 i0 _ 4 32 Tryd.underlying58 hi hz0 hz1 hz2 rfl (by decide) _ _ _ rfl (hrow.alloc _) ⟨W.heap.size,0,none⟩ 1 1 [.int .i64 x.f0,.int .i64 x.f1,.int .i64 x.f2,.int .i64 x.f3] rfl rfl (cells_four_new _ _ _ _ _ _) (by simp [Value.oneCell']) (by unfold maxLen;omega) (by omega) (by simp;omega) ?_;intro v' w1 hown' hgrow _;obtain ⟨g',cap',rfl⟩ := ownsRow_succ hown';obtain ⟨hv1,hv2,hr2,hk2,hb2⟩ := hv.appended (by decide) hrow hsz1 (Nat.le_refl _) hown' hgrow;have hkb := appended_keepB (v' := .slice (some ⟨g',0,none⟩) (pre.length + 1) cap') (Pr := fun k => k = w.heap.size + 1) hgrow hoB (fun k hk => ⟨by omega,by rw [hk];exact hbs.not_row (by decide) hrow⟩) hvB;have hbs2 : Boxed (w1.setCell ⟨w.heap.size,0,none⟩ (.slice (some ⟨g',0,none⟩) (pre.length + 1) cap')) (w.heap.size + 1) 9 (.string s) := hkb _ _ (.inl rfl) hbs rfl;have hc1 := hv1.cell;have hf1 := hv1.frozen)
  have hsz2 : w.heap.size < (w1.setCell ⟨w.heap.size,0,none⟩ (.slice (some ⟨g',0,none⟩) (pre.length + 1) cap')).heap.size := hv2.lt
  exact ⟨hk2.from _,⟨hb2,hkb⟩,⟨⟨⟨_,hv2,by rw [cellsC_snoc,List.length_append];exact hr2,fun g hg => own_lt hr2 g hg⟩,hbs2⟩,hB.trans hb2⟩,hsz2⟩
 case done =>
  rintro D ys W hD hys ⟨⟨⟨⟨v,hv,hrow,_⟩,_⟩,hB⟩,_⟩ hK
  have hc := hv.cell
  gi_wp2
  refine ⟨by simp,.inl ⟨_,_,rfl,run_takeDeferred hK,?_⟩⟩
  refine ⟨_,results_tmp rfl _ _ _,v,rfl,⟨fun _ _ => trivial,cellsC (clusL s),?_,reps_cellsC _ _ _ _⟩,hB.trans (belowK_b (w := w) (Nat.le_refl _) W D _ _ (by omega) hK rfl rfl)⟩
  have e : ys = clusL s := hys
  have h2 := ownsRow_putObj hrow (.deferred none) hK rfl
  rw [e] at h2
  exact h2
 case stop =>
  rintro D c pre W _ _ h _
  exact h.elim
end Go.Proofs.YtgdpnmikcopkmaaDoor.U
end
