/- What the law ScreenTypes reaches of this seat's own texts, merged; what nothing uses is left out. -/
import Derived.Test.YtgdpnmikcopkmaaDoorProg
import Derived.Below
import Derived.Deep.Draws
import Derived.Deep.AppendLies
import Derived.Maps.AppendAt
import Derived.OwnWalk
import Derived.Laws.BytesArg
import Derived.Laws.MakeOwn
import Derived.Laws.OwnMore
import Derived.Deep.OwnRows
import Derived.Tactics
import Derived.Lib.ConvBytes
import Derived.Laws.Slices
import Derived.WalkKit
import Derived.KernelRfl
import Derived.RowKit3
import Derived.Deep.LoopGhost
import Derived.Deep.QuietTactic
import Derived.BigQuiet
import Derived.WideLaws
import Derived.Deep.DeepCutAuto
import Derived.Deep.CutBlock
import Derived.Deep.RegionHeld3
import Derived.Laws.Rows
import Derived.Lib.AppendStr
import Derived.ArgAppend
import Derived.Laws.IdiomCopy
import Derived.OrdersHeld
import Derived.Laws.BitsLemmas
import Derived.RowKit
import Derived.Shelf.Strings.Prefix
import Derived.Shelf.Unicode.Decode
import Derived.Shelf.Unicode.DecodeSlow
import Derived.Shelf.Unicode.DecodeAny
import Derived.Lib.LaidU8
import Derived.RangeFuncNested
import Derived.RangeFuncBound
import Derived.RangeFuncCalls
import Derived.RangeFuncLeaves
import Derived.Lib.DecodeN
import Derived.Lib.MapLaws
import Derived.Laws.DeepStrings4
import Derived.Shelf.Unicode.DecodeLastEight
import Derived.Shelf.Abstract
import Derived.Shelf.RegionOpen
import Derived.OwnWalkIn
import Derived.TacticsInMore
import Derived.LoopNIn
import Derived.LoopIn
import Derived.Lib.Hide
import Derived.Lib.SliceRun
import Derived.Laws.Cover1
import Derived.Deep.CutRange
import Derived.Deep.DeepAppendRoom
import Derived.Sort.BigQuietIn
import Derived.Test.YtgdpnmikcopkmaaDoorRows
import Derived.ProofKit
import Derived.Deep.DeepHandedRow
import Derived.LaidMore
import Derived.Lay
import Derived.Test.YtgdpnmikcopkmaaDoorWWords
import Derived.Test.YtgdpnmikcopkmaaDoorWLast
import Derived.Test.YtgdpnmikcopkmaaDoorWTab
import Derived.Test.YtgdpnmikcopkmaaDoorWQPut
import Derived.Test.YtgdpnmikcopkmaaDoorWApart
import Derived.Test.YtgdpnmikcopkmaaDoorWArr
import Derived.Test.YtgdpnmikcopkmaaDoorWZeros
import Derived.Test.YtgdpnmikcopkmaaDoorWFoot
import Derived.Test.YtgdpnmikcopkmaaDoorWKept
import Derived.Test.YtgdpnmikcopkmaaDoorWShare
import Derived.Test.YtgdpnmikcopkmaaDoorWN
import Derived.Test.YtgdpnmikcopkmaaDoorWEqStruct
import Derived.Test.YtgdpnmikcopkmaaDoorWRepsOne
import Derived.Test.YtgdpnmikcopkmaaDoorWInv
import Derived.Test.YtgdpnmikcopkmaaDoorWGuard
import Derived.Test.YtgdpnmikcopkmaaDoorWNEv
import Derived.Test.YtgdpnmikcopkmaaDoorWMore
section
namespace Go.Proofs.YtgdpnmikcopkmaaDoor
theorem au17 {p : Prop} (h : p := by (with_reducible repeat (first | refine blk_drewN ?_ _ | refine blk_drew ?_ | refine blk_alloc ?_ _));refine blk_put (cs := #[.int .i32 t105,.int .i64 0]) ?_ 1 _ rfl;(with_reducible repeat (first | refine blk_drewN ?_ _ | refine blk_drew ?_ | refine blk_alloc ?_ _));refine blk_put (cs := #[.int .i32 0,.int .i64 0]) ?_ 0 _ rfl;(with_reducible repeat (first | refine blk_drewN ?_ _ | refine blk_drew ?_ | refine blk_alloc ?_ _));exact BK104.out) : p := h
theorem au16 {p : Prop} (h : p := by (with_reducible repeat (first | refine blk_drewN ?_ _ | refine blk_drew ?_ | refine blk_alloc ?_ _));exact BK329.out) : p := h
theorem au15 {p : Prop} (h : p := by repeat (first | (with_reducible first | exact HB.out | apply below_alloc | apply pw_below_drewN | apply below_drew1 | refine below_set ?_ GE322.out) | exact HB.out)) : p := h
theorem au14 {p : Prop} (h : p := by repeat (first | (with_reducible first | exact HB.out | apply below_alloc | apply pw_below_drewN | apply below_drew1 | refine below_set ?_ GE184.out) | exact HB.out)) : p := h
theorem au13 {p : Prop} (h : p := by repeat (first | (with_reducible first | exact HB.out | apply below_alloc | apply pw_below_drewN | apply below_drew1 | refine below_set ?_ GE114.out) | exact HB.out)) : p := h
theorem au12 {p : Prop} (h : p := by repeat (first | (with_reducible first | exact HB.out | apply below_alloc | apply pw_below_drewN | apply below_drew1 | refine below_set ?_ GE104.out) | exact HB.out)) : p := h
theorem au11 {p : Prop} (h : p := by (with_reducible repeat (first | apply Kd.R_alloc | apply Kd.R_drewN | apply Kd.R_drew));exact HO146.out) : p := h
theorem au10 {p : Prop} (h : p := by unfold execOp;simp [resolve,Deferred.ofValue,invoke,Act.eval]) : p := h
theorem au9 {p : Prop} (h : p := by (with_reducible repeat (first | refine blk_drewN ?_ _ | refine blk_drew ?_ | refine blk_alloc ?_ _));refine blk_put (cs := #[.int .i32 0,.int .i64 0]) ?_ 1 _ rfl;(with_reducible repeat (first | refine blk_drewN ?_ _ | refine blk_drew ?_ | refine blk_alloc ?_ _));refine blk_put (cs := #[.int .i32 0,.int .i64 0]) ?_ 0 _ rfl;(with_reducible repeat (first | refine blk_drewN ?_ _ | refine blk_drew ?_ | refine blk_alloc ?_ _));exact BK114.out) : p := h
theorem au8 {p : Prop} (h : p := by first | (with_reducible assumption) | assumption) : p := h
theorem au7 {p : Prop} (h : p := by first | rfl | (simp;done) | (simp [*];done)) : p := h
theorem au6 {p : Prop} (h : p := by repeat (first | (with_reducible first | exact HB.out | apply below_alloc | apply pw_below_drewN | apply below_drew1 | refine below_set ?_ GE322.out | refine below_set ?_ GE326.out | refine below_set ?_ GE329.out) | exact HB.out)) : p := h
theorem au5 {p : Prop} (h : p := by (with_reducible repeat (first | refine blk_drewN ?_ _ | refine blk_drew ?_ | refine blk_alloc ?_ _));exact BK326.out) : p := h
theorem au4 {p : Prop} (h : p := by repeat (first | (with_reducible first | exact HB.out | apply below_alloc | apply pw_below_drewN | apply below_drew1 | refine below_set ?_ GE322.out | refine below_set ?_ GE326.out) | exact HB.out)) : p := h
theorem au3 {p : Prop} (h : p := by (with_reducible repeat (first | refine blk_drewN ?_ _ | refine blk_drew ?_ | refine blk_alloc ?_ _));exact BK322.out) : p := h
theorem au2 {p : Prop} (h : p := by first | rfl | (simp [errW_none,errW_some] <;> rfl) | (simp [*,errW_none,errW_some] <;> rfl)) : p := h
theorem au1 {p : Prop} (h : p := by (try simp only [List.map_toArray,List.map_cons,List.map_nil]);first | done | rfl | (simp only [List.length_drop,List.length_take];rfl)) : p := h
theorem au0 {p : Prop} (h : p := by repeat (first | (with_reducible first | exact HB.out | apply below_alloc | apply pw_below_drewN | apply below_drew1) | exact HB.out)) : p := h
end Go.Proofs.YtgdpnmikcopkmaaDoor
end
section
namespace Go.Proofs.YtgdpnmikcopkmaaDoor.U
open Go.RowKit Go.Proofs.YtgdpnmikcopkmaaDoorW.PrintWords Go.Proofs.YtgdpnmikcopkmaaDoorW.PrintLast Go.Proofs.YtgdpnmikcopkmaaDoorW.PrintMore
attribute [local go_sem] max2_int min2_int max_two min_two max_three min_three max_four min_four   -- for this text's walks alone
set_option linter.unusedVariables false
set_option linter.unusedSimpArgs false
def errW : Option Int → Value
 | none => .nilIface
 | some c => .iface 0 (.int .i64 c)
theorem errW_none : errW none = .nilIface := rfl
theorem errW_some (c : Int) : errW (some c) = .iface 0 (.int .i64 c) := rfl
theorem info3 : (Tryd.prog.info? 3).map (fun i => (i.zero,i.size,i.bytes)) = some (some (.int .i64 0),1,8) := by kernel_rfl
theorem info5 : (Tryd.prog.info? 5).map (fun i => (i.zero,i.size,i.bytes)) = some (some (.int .u8 0),1,1) := by kernel_rfl
theorem info38 : (Tryd.prog.info? 38).map (fun i => (i.zero,i.size,i.bytes)) = some (some (.agg #[(.string ⟨#[]⟩),(.int .i64 0)]),2,24) := by kernel_rfl
theorem info62 : (Tryd.prog.info? 62).map (fun i => (i.zero,i.size,i.bytes)) = some (some (.agg #[(.int .i64 0),(.int .i64 0),(.int .i64 0),(.int .i64 0)]),4,32) := by kernel_rfl
structure S38 where
 f0 : ByteArray
 f1 : Int
def z38 : S38 := ⟨(⟨#[]⟩ : ByteArray),(0 : Int)⟩
def k38 : Kd S38 := Kd.iso (Kd.pair Kd.string (Kd.int .i64)) (fun x : S38 => (x.f0,x.f1))
theorem k38_open {w : World} {x : S38} {cs : List Value} (h : k38.K w x cs) : cs = [.string x.f0,.int .i64 x.f1] := by
 obtain ⟨_,_,rfl,rfl,rfl⟩ := h
 exact rfl
theorem k38_openM {w : World} {base : Nat} {ok : Nat → Prop} {x : S38} {cs : List Value} (h : k38.M w base ok x cs) : cs = [.string x.f0,.int .i64 x.f1] := by
 obtain ⟨_,_,rfl,rfl,rfl⟩ := h
 exact rfl
theorem k38_mkM (w : World) (base : Nat) (ok : Nat → Prop) (x : S38)  : k38.M w base ok x [.string x.f0,.int .i64 x.f1] := ⟨[.string x.f0],[.int .i64 x.f1],rfl,rfl,rfl⟩
def rd_T38 (xs : List S38) (i : Int) : S38 := xs.getD i.toNat z38
theorem at_T38 {w : World} {A : Option Addr} {n : Nat} {xs : List S38} (h : Kd.C k38 w A n xs) (i : Int) (h0 : 0 ≤ i) (h1 : i < n) : ∃ ad ,A = some ad ∧ w.cell? (ad.add (i.toNat * 2)) = some (.string (rd_T38 xs i).f0) ∧ w.cell? ⟨(ad.add (i.toNat * 2)).block,(ad.add (i.toNat * 2)).off + 1,none⟩ = some (.int .i64 (rd_T38 xs i).f1) := by
 obtain ⟨ad,c,e,_,hK,hc0⟩ := Kd.C_get h z38 i h0 h1
 have hc : ∀ j u,c[j]? = some u → w.cell? (ad.add (i.toNat * 2 + j)) = some u := hc0
 obtain rfl := k38_open hK
 exact ⟨ad,e,hc 0 _ rfl,by rw [← add_field _ _ 1 (by omega)];exact hc 1 _ rfl⟩
def rd_L3 (xs : List (List S38)) (i : Int) : (List S38) := xs.getD i.toNat ([] : List S38)
theorem at_L3 {w : World} {A : Option Addr} {n : Nat} {xs : List (List S38)} (h : Kd.C (Kd.slice 38 k38) w A n xs) (i : Int) (h0 : 0 ≤ i) (h1 : i < n) : ∃ ad A0 c0,A = some ad ∧ w.cell? (ad.add i.toNat) = some (.slice A0 (rd_L3 xs i).length c0) ∧ (rd_L3 xs i).length ≤ c0 ∧ k38.C w A0 (rd_L3 xs i).length (rd_L3 xs i) := by
 obtain ⟨ad,c,e,_,hK,hc0⟩ := Kd.C_get h ([] : List S38) i h0 h1
 have hc : ∀ j u,c[j]? = some u → w.cell? (ad.add (i.toNat * 1 + j)) = some u := hc0
 obtain ⟨A0,c0,rfl,l0,g0⟩ := hK
 exact ⟨ad,A0,c0,e,by have hq := hc 0 _ rfl;rwa [Nat.mul_one,Nat.add_zero] at hq,l0,g0⟩
structure S83 where
 f0 : Int
 f1 : Int
structure S62 where
 f0 : Int
 f1 : Int
 f2 : Int
 f3 : Int
def z62 : S62 := ⟨(0 : Int),(0 : Int),(0 : Int),(0 : Int)⟩
def k62 : Kd S62 := Kd.iso (Kd.pair (Kd.int .i64) (Kd.pair (Kd.int .i64) (Kd.pair (Kd.int .i64) (Kd.int .i64)))) (fun x : S62 => (x.f0,x.f1,x.f2,x.f3))
theorem k62_open {w : World} {x : S62} {cs : List Value} (h : k62.K w x cs) : cs = [.int .i64 x.f0,.int .i64 x.f1,.int .i64 x.f2,.int .i64 x.f3] := by
 obtain ⟨_,_,rfl,rfl,⟨_,_,rfl,rfl,⟨_,_,rfl,rfl,rfl⟩⟩⟩ := h
 exact rfl
theorem k62_mkM (w : World) (base : Nat) (ok : Nat → Prop) (x : S62)  : k62.M w base ok x [.int .i64 x.f0,.int .i64 x.f1,.int .i64 x.f2,.int .i64 x.f3] := ⟨[.int .i64 x.f0],[.int .i64 x.f1,.int .i64 x.f2,.int .i64 x.f3],rfl,rfl,⟨[.int .i64 x.f1],[.int .i64 x.f2,.int .i64 x.f3],rfl,rfl,⟨[.int .i64 x.f2],[.int .i64 x.f3],rfl,rfl,rfl⟩⟩⟩
def rd_T62 (xs : List S62) (i : Int) : S62 := xs.getD i.toNat z62
theorem at_T62 {w : World} {A : Option Addr} {n : Nat} {xs : List S62} (h : Kd.C k62 w A n xs) (i : Int) (h0 : 0 ≤ i) (h1 : i < n) : ∃ ad ,A = some ad ∧ w.cell? (ad.add (i.toNat * 4)) = some (.int .i64 (rd_T62 xs i).f0) ∧ w.cell? ⟨(ad.add (i.toNat * 4)).block,(ad.add (i.toNat * 4)).off + 1,none⟩ = some (.int .i64 (rd_T62 xs i).f1) ∧ w.cell? ⟨(ad.add (i.toNat * 4)).block,(ad.add (i.toNat * 4)).off + 2,none⟩ = some (.int .i64 (rd_T62 xs i).f2) ∧ w.cell? ⟨(ad.add (i.toNat * 4)).block,(ad.add (i.toNat * 4)).off + 3,none⟩ = some (.int .i64 (rd_T62 xs i).f3) := by
 obtain ⟨ad,c,e,_,hK,hc0⟩ := Kd.C_get h z62 i h0 h1
 have hc : ∀ j u,c[j]? = some u → w.cell? (ad.add (i.toNat * 4 + j)) = some u := hc0
 obtain rfl := k62_open hK
 exact ⟨ad,e,hc 0 _ rfl,by rw [← add_field _ _ 1 (by omega)];exact hc 1 _ rfl,by rw [← add_field _ _ 2 (by omega)];exact hc 2 _ rfl,by rw [← add_field _ _ 3 (by omega)];exact hc 3 _ rfl⟩
end Go.Proofs.YtgdpnmikcopkmaaDoor.U
end
section
namespace Go.Proofs.YtgdpnmikcopkmaaDoor.Pu
open Go Go.RowKit Go.Proofs.YtgdpnmikcopkmaaDoor.U
set_option linter.unusedVariables false
abbrev Cl := S38
/-- A screen: its measures,rows,cursor,whether the last column was just written,the last written cell,whether a mark may be laid there (what is held back is told beside it). -/
structure Sc where
 w : Nat
 h : Nat
 rows : List (List Cl)
 r : Nat
 c : Nat
 full : Bool
 lr : Nat
 lc : Nat
 marks : Bool
def blC : Cl := ⟨⟨#[32]⟩,1⟩
def noC : Cl := ⟨⟨#[]⟩,0⟩
def gC (row : List Cl) (k : Nat) : Cl := row.getD k noC
/-- clearHalf. -/
def clrH (row : List Cl) (col : Nat) : List Cl :=
 if row.length ≤ col then row else
 let row1 := if (gC row col).f1 = 0 ∧ 0 < col then row.set (col - 1) blC else row
 if (gC row1 col).f1 = 2 ∧ col + 1 < row1.length then row1.set (col + 1) blC else row1
theorem clrH_length (row : List Cl) (col : Nat) : (clrH row col).length = row.length := by
 unfold clrH
 split
 ·rfl
 ·dsimp only
  split <;> split <;> simp
/-- clearRow. -/
def Sc.clrR (s : Sc) (i col : Nat) : Sc :=
 if s.rows.length ≤ i ∨ (s.rows.getD i []).length ≤ col then s else { s with rows := s.rows.set i ((clrH (s.rows.getD i []) col).take col) }
/-- down. -/
def Sc.down (s : Sc) : Sc :=
 if s.r + 1 < s.h then { s with r := s.r + 1 } else
 if s.rows.length = s.h then { s with rows := s.rows.drop 1 ++ [[]] } else { s with rows := s.rows.drop 1 }
def padR (rows : List (List Cl)) (n : Nat) : List (List Cl) := rows ++ List.replicate (n - rows.length) []
def padC (row : List Cl) (n : Nat) : List Cl := row ++ List.replicate (n - row.length) blC
theorem padR_length (rows : List (List Cl)) (n : Nat) : (padR rows n).length = max rows.length n := by unfold padR;rw [List.length_append,List.length_replicate];omega
theorem padC_length (row : List Cl) (n : Nat) : (padC row n).length = max row.length n := by unfold padC;rw [List.length_append,List.length_replicate];omega
/-- A row into which a text is written. -/
def putC (row : List Cl) (col span : Nat) (t : ByteArray) : List Cl :=
 let row1 := padC row (col + span)
 let row2 := if span = 2 then clrH (clrH row1 col) (col + 1) else clrH row1 col
 if span = 2 then (row2.set col ⟨t,2⟩).set (col + 1) noC else row2.set col ⟨t,1⟩
/-- write,of one cell or of two. -/
def Sc.write (s : Sc) (t : ByteArray) (span : Nat) : Sc :=
 let s1 := if s.full = true ∨ (span = 2 ∧ s.c + 1 = s.w) then { s.down with c := 0,full := false } else s
 let rows := padR s1.rows (s1.r + 1)
 let s2 := { s1 with rows := rows.set s1.r (putC (rows.getD s1.r []) s1.c span t),lr := s1.r,lc := s1.c,marks := true }
 if s.w ≤ s1.c + span then { s2 with c := s.w - 1,full := true } else { s2 with c := s1.c + span }
/-- A mark laid on the cell that was written last. -/
def Sc.mark (s : Sc) (t : ByteArray) : Sc :=
 if s.marks = true then { s with rows := s.rows.set s.lr ((s.rows.getD s.lr []).set s.lc ⟨(gC (s.rows.getD s.lr []) s.lc).f0 ++ t,(gC (s.rows.getD s.lr []) s.lc).f1⟩) } else s
/-- control. -/
def Sc.control (s : Sc) (b : Nat) : Sc :=
 let s1 := { s with full := false,marks := false }
 if b = 8 then { s1 with c := s1.c - 1 } else if b = 10 then s1.down else if b = 13 then { s1 with c := 0 } else s1
/-- carry: a sequence's end and its numbers. -/
def Sc.carry (s : Sc) (e : Nat) (l : List Int) (ok : Bool) : Sc :=
 let whole := ok = true ∧ l = [0]
 if e = 74 then (if whole then (let s1 := s.clrR s.r s.c;{ s1 with rows := s1.rows.take (s1.r + 1) }) else s)
 else if e = 75 then (if whole then s.clrR s.r s.c else s)
 else if e = 109 then s
 else
  let s1 := { s with full := false }
  if e = 72 ∧ ok = true then { s1 with r := (min (max (l.getD 0 0) 1) s.h - 1).toNat,c := (min (max (l.getD 1 0) 1) s.w - 1).toNat } else s1
/-- The form that all keep. -/
structure Sc.Ok (s : Sc) : Prop where
 w1 : 1 ≤ s.w
 w2 : s.w ≤ 65535
 h1 : 1 ≤ s.h
 h2 : s.h ≤ 65535
 rl : s.rows.length ≤ s.h
 cl : ∀ row ∈ s.rows,row.length ≤ s.w
 rh : s.r < s.h
 cw : s.c < s.w
 fu : s.full = true → s.c + 1 = s.w
 ma : s.marks = true → s.lr < s.rows.length ∧ s.lc < (s.rows.getD s.lr []).length
end Go.Proofs.YtgdpnmikcopkmaaDoor.Pu
end
section
namespace Go.Proofs.YtgdpnmikcopkmaaDoor.Pu
open Go Go.RowKit Go.Proofs.YtgdpnmikcopkmaaDoor.U
set_option linter.unusedVariables false
theorem Sc.Ok.down {s : Sc} (h : s.Ok) (hm : s.marks = false) : s.down.Ok := by
 obtain ⟨w1,w2,h1,h2,rl,cl,rh,cw,fu,ma⟩ := h
 unfold Sc.down
 split
 ·exact ⟨w1,w2,h1,h2,rl,cl,by assumption,cw,fu,ma⟩
 split
 ·rename_i he
  refine ⟨w1,w2,h1,h2,?_,?_,rh,cw,fu,fun h => absurd h (by rw [hm];decide)⟩
  ·show (s.rows.drop 1 ++ [[]]).length ≤ s.h
   rw [List.length_append,List.length_drop,List.length_singleton];omega
  ·intro row hr
   rcases List.mem_append.1 hr with hr | hr
   ·exact cl row (List.mem_of_mem_drop hr)
   ·obtain rfl := List.mem_singleton.1 hr;exact Nat.zero_le _
 ·refine ⟨w1,w2,h1,h2,?_,fun row hr => cl row (List.mem_of_mem_drop hr),rh,cw,fu,fun h => absurd h (by rw [hm];decide)⟩
  show (s.rows.drop 1).length ≤ s.h
  rw [List.length_drop];omega
theorem Sc.Ok.control {s : Sc} (h : s.Ok) (b : Nat) : (s.control b).Ok := by
 have h1 : ({ s with full := false,marks := false } : Sc).Ok := by
  obtain ⟨w1,w2,h1,h2,rl,cl,rh,cw,fu,ma⟩ := h
  exact ⟨w1,w2,h1,h2,rl,cl,rh,cw,(fun h => by cases h),(fun h => by cases h)⟩
 have hw := h.w1
 have hc := h.cw
 unfold Sc.control
 dsimp only
 split
 ·exact { h1 with cw := by show s.c - 1 < s.w;omega,fu := fun h => by cases h }
 split
 ·exact h1.down rfl
 split
 ·exact { h1 with cw := by show 0 < s.w;omega,fu := fun h => by cases h }
 ·exact h1
theorem Sc.Ok.clrR {s : Sc} (h : s.Ok) (hm : s.marks = false) (i col : Nat) : (s.clrR i col).Ok := by
 obtain ⟨w1,w2,h1,h2,rl,cl,rh,cw,fu,ma⟩ := h
 unfold Sc.clrR
 split
 ·exact ⟨w1,w2,h1,h2,rl,cl,rh,cw,fu,ma⟩
 ·rename_i hn
  refine ⟨w1,w2,h1,h2,?_,?_,rh,cw,fu,fun h => absurd h (by rw [hm];decide)⟩
  ·show (s.rows.set i _).length ≤ s.h
   rw [List.length_set];exact rl
  ·intro row hr
   rcases List.mem_or_eq_of_mem_set hr with hr | rfl
   ·exact cl row hr
   ·show ((clrH (s.rows.getD i []) col).take col).length ≤ s.w
    rw [List.length_take,clrH_length]
    have : s.rows.getD i [] ∈ s.rows := by
     rw [List.getD_eq_getElem?_getD,List.getElem?_eq_getElem (by omega)]
     exact List.getElem_mem _
    have := cl _ this
    omega
theorem Sc.Ok.unfull {s : Sc} (h : s.Ok) : ({ s with full := false } : Sc).Ok := { h with fu := fun h => by cases h }
theorem Sc.Ok.unmark {s : Sc} (h : s.Ok) : ({ s with marks := false } : Sc).Ok := { h with ma := fun h => by cases h }
theorem Sc.clrR_meas (s : Sc) (i col : Nat) : (s.clrR i col).r = s.r ∧ (s.clrR i col).marks = s.marks ∧ (s.clrR i col).h = s.h ∧ (s.clrR i col).w = s.w := by
 unfold Sc.clrR
 split <;> exact ⟨rfl,rfl,rfl,rfl⟩
theorem Sc.Ok.cut {s : Sc} (h : s.Ok) (hm : s.marks = false) (n : Nat) : ({ s with rows := s.rows.take n } : Sc).Ok :=
 { h with
  rl := by show (s.rows.take n).length ≤ s.h;have := h.rl;rw [List.length_take];omega
  cl := fun row hr => h.cl row (List.mem_of_mem_take hr)
  ma := fun h => absurd h (by show ¬ s.marks = true;rw [hm];decide) }
theorem Sc.Ok.carry {s : Sc} (h : s.Ok) (hm : s.marks = false) (e : Nat) (l : List Int) (ok : Bool) : (s.carry e l ok).Ok := by
 have hw := h.w1
 have hh := h.h1
 unfold Sc.carry
 dsimp only
 split
 ·split
  ·exact (h.clrR hm _ _).cut (by rw [(Sc.clrR_meas _ _ _).2.1];exact hm) _
  ·exact h
 split
 ·split
  ·exact h.clrR hm _ _
  ·exact h
 split
 ·exact h
 split
 ·exact { h.unfull with
   rh := by show (min (max (l.getD 0 0) 1) (s.h : Int) - 1).toNat < s.h;omega
   cw := by show (min (max (l.getD 1 0) 1) (s.w : Int) - 1).toNat < s.w;omega
   fu := fun h => by cases h }
 ·exact h.unfull
end Go.Proofs.YtgdpnmikcopkmaaDoor.Pu
end
section
namespace Go.Proofs.YtgdpnmikcopkmaaDoor.Pu
open Go Go.RowKit Go.Proofs.YtgdpnmikcopkmaaDoor.U
set_option linter.unusedVariables false
theorem putC_length (row : List Cl) (col span : Nat) (t : ByteArray) : (putC row col span t).length = max row.length (col + span) := by
 unfold putC
 dsimp only
 split <;> simp [clrH_length,padC_length]
theorem down_unmark (s : Sc) : ({ s with marks := false } : Sc).down = { s.down with marks := false } := by
 unfold Sc.down
 dsimp only
 split
 ·rfl
 split <;> rfl
/-- Where the pen stands when a text is written. -/
def Sc.ahead (s : Sc) (span : Nat) : Sc := if s.full = true ∨ (span = 2 ∧ s.c + 1 = s.w) then { s.down with c := 0,full := false } else s
theorem Sc.down_wh (s : Sc) : s.down.w = s.w ∧ s.down.h = s.h := by
 unfold Sc.down
 split
 ·exact ⟨rfl,rfl⟩
 split <;> exact ⟨rfl,rfl⟩
theorem Sc.Ok.ahead {s : Sc} (h : s.Ok) (span : Nat) : ({ s.ahead span with marks := false } : Sc).Ok ∧ (s.ahead span).w = s.w ∧ (s.ahead span).full = false ∧ (span ≤ 2 → span ≤ s.w → 1 ≤ span → (s.ahead span).c + span ≤ s.w) := by
 have hw := h.w1
 have hc := h.cw
 have hf := h.fu
 unfold Sc.ahead
 split
 ·rename_i hq
  have hd := h.unmark.down rfl
  rw [down_unmark] at hd
  refine ⟨{ hd with cw := ?_,fu := fun h => by cases h },(Sc.down_wh s).1,rfl,fun _ hs _ => ?_⟩
  ·show 0 < s.down.w
   rw [(Sc.down_wh s).1];exact hw
  ·show 0 + span ≤ s.w;omega
 ·rename_i hq
  refine ⟨h.unmark,rfl,?_,fun h2 hs h1 => ?_⟩
  ·cases hfu : s.full with
   | false => rfl
   | true => exact absurd (.inl hfu) hq
  ·omega
theorem Sc.Ok.write {s : Sc} (h : s.Ok) (t : ByteArray) (span : Nat) (h1 : 1 ≤ span) (h2 : span ≤ 2) (hw : span ≤ s.w) : (s.write t span).Ok := by
 obtain ⟨hA,eA,fA,lA⟩ := h.ahead span
 have hlen := lA h2 hw h1
 have e : s.write t span = (if s.w ≤ (s.ahead span).c + span then ({ s.ahead span with rows := (padR (s.ahead span).rows ((s.ahead span).r + 1)).set (s.ahead span).r (putC ((padR (s.ahead span).rows ((s.ahead span).r + 1)).getD (s.ahead span).r []) (s.ahead span).c span t),lr := (s.ahead span).r,lc := (s.ahead span).c,marks := true,c := s.w - 1,full := true } : Sc)
   else { s.ahead span with rows := (padR (s.ahead span).rows ((s.ahead span).r + 1)).set (s.ahead span).r (putC ((padR (s.ahead span).rows ((s.ahead span).r + 1)).getD (s.ahead span).r []) (s.ahead span).c span t),lr := (s.ahead span).r,lc := (s.ahead span).c,marks := true,c := (s.ahead span).c + span }) := rfl
 rw [e]
 generalize s.ahead span = A at *
 have hrows : ∀ row ∈ (padR A.rows (A.r + 1)).set A.r (putC ((padR A.rows (A.r + 1)).getD A.r []) A.c span t),row.length ≤ A.w := by
  have hp : ∀ row ∈ padR A.rows (A.r + 1),row.length ≤ A.w := fun row hr => by
   unfold padR at hr
   rcases List.mem_append.1 hr with hr | hr
   ·exact hA.cl row hr
   ·rw [(List.mem_replicate.1 hr).2];exact Nat.zero_le _
  intro row hr
  rcases List.mem_or_eq_of_mem_set hr with hr | rfl
  ·exact hp row hr
  ·rw [putC_length]
   have hl : A.r < (padR A.rows (A.r + 1)).length := by rw [padR_length];omega
   have : (padR A.rows (A.r + 1)).getD A.r [] ∈ padR A.rows (A.r + 1) := by
    rw [List.getD_eq_getElem?_getD,List.getElem?_eq_getElem hl]
    exact List.getElem_mem hl
   have := hp _ this
   omega
 have hrl : ((padR A.rows (A.r + 1)).set A.r (putC ((padR A.rows (A.r + 1)).getD A.r []) A.c span t)).length ≤ A.h := by
  rw [List.length_set,padR_length]
  have := hA.rl
  have := hA.rh
  dsimp only at *
  omega
 have hma : A.r < ((padR A.rows (A.r + 1)).set A.r (putC ((padR A.rows (A.r + 1)).getD A.r []) A.c span t)).length ∧ A.c < (((padR A.rows (A.r + 1)).set A.r (putC ((padR A.rows (A.r + 1)).getD A.r []) A.c span t)).getD A.r []).length := by
  have hl : A.r < (padR A.rows (A.r + 1)).length := by rw [padR_length];omega
  refine ⟨by rw [List.length_set];exact hl,?_⟩
  rw [List.getD_eq_getElem?_getD,List.getElem?_set_self hl,Option.getD_some,putC_length]
  omega
 split
 ·exact ⟨hA.w1,hA.w2,hA.h1,hA.h2,hrl,hrows,hA.rh,by show s.w - 1 < A.w;omega,fun _ => by show s.w - 1 + 1 = A.w;omega,fun _ => hma⟩
 ·exact ⟨hA.w1,hA.w2,hA.h1,hA.h2,hrl,hrows,hA.rh,by show A.c + span < A.w;omega,fun h => absurd h (by show ¬ A.full = true;rw [fA];decide),fun _ => hma⟩
end Go.Proofs.YtgdpnmikcopkmaaDoor.Pu
end
section
namespace Go.Proofs.YtgdpnmikcopkmaaDoor.U
open Go.RowKit Go.Proofs.YtgdpnmikcopkmaaDoorW.PrintWords Go.Proofs.YtgdpnmikcopkmaaDoorW.PrintLast Go.Proofs.YtgdpnmikcopkmaaDoorW.PrintMore
attribute [local go_sem] max2_int min2_int max_two min_two max_three min_three max_four min_four   -- for this text's walks alone
set_option linter.unusedVariables false
set_option linter.unusedSimpArgs false
theorem eqA38 (d : Nat) (w : World) (x0 y0 : ByteArray) (x1 y1 : Int) :
  (Op.equalIn (d + 2) 38 (.agg #[.string x0,.int .i64 x1]) (.agg #[.string y0,.int .i64 y1])).run Tryd.prog w = .ok (x0.toList == y0.toList && (x1 == y1)) w := by
 refine eqA_of Tryd.underlying38 (by kernel_rfl) ?_
 refine eqf_cons (by rfl) (by go_simp;rfl) (by go_simp;rfl) (by go_simp) ?_
 exact eqf_last (by rfl) (by go_simp;rfl) (by go_simp;rfl) (by go_simp)
end Go.Proofs.YtgdpnmikcopkmaaDoor.U
end
section
namespace Go.Proofs.YtgdpnmikcopkmaaDoor.U
open Go.RowKit Go.Proofs.YtgdpnmikcopkmaaDoorW.PrintWords Go.Proofs.YtgdpnmikcopkmaaDoorW.PrintLast Go.Proofs.YtgdpnmikcopkmaaDoorW.PrintMore
attribute [local go_sem] max2_int min2_int max_two min_two max_three min_three max_four min_four   -- for this text's walks alone
set_option linter.unusedVariables false
set_option linter.unusedSimpArgs false
attribute [local go_sem high] eqA38
def width_marks.f  : Option (List Int) := some (([768,879,1155,1161,1425,1469,1471,1471,1473,1474,1552,1562,1611,1631,1648,1648,1750,1756,2304,2306,2364,2364,2381,2381,3633,3633,3636,3642,3655,3662,4957,4959,6832,6911,7616,7679,8204,8205,8400,8447,12330,12335,12441,12442,65024,65039,65056,65071,127995,127999,917760,917999] : List Int))
set_option maxHeartbeats 8000000 in
set_option maxRecDepth 100000 in
theorem width_marks.calls  (r : List Int) (w : World) (h : width_marks.f  = some r) :
  Calls Tryd.prog 84 #[] w fun e w' => ∃ v0_ : Value,e = .returned (v0_) ∧ Kd.R (Kd.int .i32) 21 w' w.heap.size (fun _ => True) v0_ r ∧ Below w.heap.size w w' := by
 have HB := Aside0.mk (Below.refl w.heap.size w)
 have H : (some (([768,879,1155,1161,1425,1469,1471,1471,1473,1474,1552,1562,1611,1631,1648,1648,1750,1756,2304,2306,2364,2364,2381,2381,3633,3633,3636,3642,3655,3662,4957,4959,6832,6911,7616,7679,8204,8205,8400,8447,12330,12335,12441,12442,65024,65039,65056,65071,127995,127999,917760,917999] : List Int))) = some r := h
 clear h
 obtain ⟨y138,hy138⟩ : ∃ y_ : List Int,y_ = (([768,879,1155,1161,1425,1469,1471,1471,1473,1474,1552,1562,1611,1631,1648,1648,1750,1756,2304,2306,2364,2364,2381,2381,3633,3633,3636,3642,3655,3662,4957,4959,6832,6911,7616,7679,8204,8205,8400,8447,12330,12335,12441,12442,65024,65039,65056,65071,127995,127999,917760,917999] : List Int)) := ⟨_,rfl⟩
 replace H : (some y138) = some r := by first | (rw [hy138];with_reducible exact H) | (have H2_ := (Option.bind_some _ _).symm.trans H;rw [hy138];with_reducible exact H2_) | (have H2_ := (Option.bind_some _ _).symm.trans H;with_reducible exact H2_) | with_reducible exact H | (rw [hy138];exact H) | exact H
 have Ny138 := Aside0.mk hy138
 clear hy138
 obtain rfl := Option.some.inj H
 go_enter Tryd.func84,Tryd.ntmps84
 go_wp2_with (first | ((with_reducible refine gate_dst (N := 1) rfl ?_);refine Kd.R_lit (Kd.int .i32) _ 21 ?hg (N := 1) ?hd (xs := ([768,879,1155,1161,1425,1469,1471,1471,1473,1474,1552,1562,1611,1631,1648,1648,1750,1756,2304,2306,2364,2364,2381,2381,3633,3633,3636,3642,3655,3662,4957,4959,6832,6911,7616,7679,8204,8205,8400,8447,12330,12335,12441,12442,65024,65039,65056,65071,127995,127999,917760,917999] : List Int)) (inner := [.int .i32 768,.int .i32 879,.int .i32 1155,.int .i32 1161,.int .i32 1425,.int .i32 1469,.int .i32 1471,.int .i32 1471,.int .i32 1473,.int .i32 1474,.int .i32 1552,.int .i32 1562,.int .i32 1611,.int .i32 1631,.int .i32 1648,.int .i32 1648,.int .i32 1750,.int .i32 1756,.int .i32 2304,.int .i32 2306,.int .i32 2364,.int .i32 2364,.int .i32 2381,.int .i32 2381,.int .i32 3633,.int .i32 3633,.int .i32 3636,.int .i32 3642,.int .i32 3655,.int .i32 3662,.int .i32 4957,.int .i32 4959,.int .i32 6832,.int .i32 6911,.int .i32 7616,.int .i32 7679,.int .i32 8204,.int .i32 8205,.int .i32 8400,.int .i32 8447,.int .i32 12330,.int .i32 12335,.int .i32 12441,.int .i32 12442,.int .i32 65024,.int .i32 65039,.int .i32 65056,.int .i32 65071,.int .i32 127995,.int .i32 127999,.int .i32 917760,.int .i32 917999]) (ok := fun _ => True) (okp := fun _ => True) ?hr ?hp (fun _ hk => hk) trivial (Below.refl _ _) (Nat.le_refl _) (by simp) ?_;(case hd => rfl);(case hg => rfl);(case hr => first | (go_simp;done) | (go_simp;rfl));(case hp => exact (Reps.one (show Kd.M (Kd.int .i32) _ _ _ 768 [.int .i32 768] from rfl) (Reps.one (show Kd.M (Kd.int .i32) _ _ _ 879 [.int .i32 879] from rfl) (Reps.one (show Kd.M (Kd.int .i32) _ _ _ 1155 [.int .i32 1155] from rfl) (Reps.one (show Kd.M (Kd.int .i32) _ _ _ 1161 [.int .i32 1161] from rfl) (Reps.one (show Kd.M (Kd.int .i32) _ _ _ 1425 [.int .i32 1425] from rfl) (Reps.one (show Kd.M (Kd.int .i32) _ _ _ 1469 [.int .i32 1469] from rfl) (Reps.one (show Kd.M (Kd.int .i32) _ _ _ 1471 [.int .i32 1471] from rfl) (Reps.one (show Kd.M (Kd.int .i32) _ _ _ 1471 [.int .i32 1471] from rfl) (Reps.one (show Kd.M (Kd.int .i32) _ _ _ 1473 [.int .i32 1473] from rfl) (Reps.one (show Kd.M (Kd.int .i32) _ _ _ 1474 [.int .i32 1474] from rfl) (Reps.one (show Kd.M (Kd.int .i32) _ _ _ 1552 [.int .i32 1552] from rfl) (Reps.one (show Kd.M (Kd.int .i32) _ _ _ 1562 [.int .i32 1562] from rfl) (Reps.one (show Kd.M (Kd.int .i32) _ _ _ 1611 [.int .i32 1611] from rfl) (Reps.one (show Kd.M (Kd.int .i32) _ _ _ 1631 [.int .i32 1631] from rfl) (Reps.one (show Kd.M (Kd.int .i32) _ _ _ 1648 [.int .i32 1648] from rfl) (Reps.one (show Kd.M (Kd.int .i32) _ _ _ 1648 [.int .i32 1648] from rfl) (Reps.one (show Kd.M (Kd.int .i32) _ _ _ 1750 [.int .i32 1750] from rfl) (Reps.one (show Kd.M (Kd.int .i32) _ _ _ 1756 [.int .i32 1756] from rfl) (Reps.one (show Kd.M (Kd.int .i32) _ _ _ 2304 [.int .i32 2304] from rfl) (Reps.one (show Kd.M (Kd.int .i32) _ _ _ 2306 [.int .i32 2306] from rfl) (Reps.one (show Kd.M (Kd.int .i32) _ _ _ 2364 [.int .i32 2364] from rfl) (Reps.one (show Kd.M (Kd.int .i32) _ _ _ 2364 [.int .i32 2364] from rfl) (Reps.one (show Kd.M (Kd.int .i32) _ _ _ 2381 [.int .i32 2381] from rfl) (Reps.one (show Kd.M (Kd.int .i32) _ _ _ 2381 [.int .i32 2381] from rfl) (Reps.one (show Kd.M (Kd.int .i32) _ _ _ 3633 [.int .i32 3633] from rfl) (Reps.one (show Kd.M (Kd.int .i32) _ _ _ 3633 [.int .i32 3633] from rfl) (Reps.one (show Kd.M (Kd.int .i32) _ _ _ 3636 [.int .i32 3636] from rfl) (Reps.one (show Kd.M (Kd.int .i32) _ _ _ 3642 [.int .i32 3642] from rfl) (Reps.one (show Kd.M (Kd.int .i32) _ _ _ 3655 [.int .i32 3655] from rfl) (Reps.one (show Kd.M (Kd.int .i32) _ _ _ 3662 [.int .i32 3662] from rfl) (Reps.one (show Kd.M (Kd.int .i32) _ _ _ 4957 [.int .i32 4957] from rfl) (Reps.one (show Kd.M (Kd.int .i32) _ _ _ 4959 [.int .i32 4959] from rfl) (Reps.one (show Kd.M (Kd.int .i32) _ _ _ 6832 [.int .i32 6832] from rfl) (Reps.one (show Kd.M (Kd.int .i32) _ _ _ 6911 [.int .i32 6911] from rfl) (Reps.one (show Kd.M (Kd.int .i32) _ _ _ 7616 [.int .i32 7616] from rfl) (Reps.one (show Kd.M (Kd.int .i32) _ _ _ 7679 [.int .i32 7679] from rfl) (Reps.one (show Kd.M (Kd.int .i32) _ _ _ 8204 [.int .i32 8204] from rfl) (Reps.one (show Kd.M (Kd.int .i32) _ _ _ 8205 [.int .i32 8205] from rfl) (Reps.one (show Kd.M (Kd.int .i32) _ _ _ 8400 [.int .i32 8400] from rfl) (Reps.one (show Kd.M (Kd.int .i32) _ _ _ 8447 [.int .i32 8447] from rfl) (Reps.one (show Kd.M (Kd.int .i32) _ _ _ 12330 [.int .i32 12330] from rfl) (Reps.one (show Kd.M (Kd.int .i32) _ _ _ 12335 [.int .i32 12335] from rfl) (Reps.one (show Kd.M (Kd.int .i32) _ _ _ 12441 [.int .i32 12441] from rfl) (Reps.one (show Kd.M (Kd.int .i32) _ _ _ 12442 [.int .i32 12442] from rfl) (Reps.one (show Kd.M (Kd.int .i32) _ _ _ 65024 [.int .i32 65024] from rfl) (Reps.one (show Kd.M (Kd.int .i32) _ _ _ 65039 [.int .i32 65039] from rfl) (Reps.one (show Kd.M (Kd.int .i32) _ _ _ 65056 [.int .i32 65056] from rfl) (Reps.one (show Kd.M (Kd.int .i32) _ _ _ 65071 [.int .i32 65071] from rfl) (Reps.one (show Kd.M (Kd.int .i32) _ _ _ 127995 [.int .i32 127995] from rfl) (Reps.one (show Kd.M (Kd.int .i32) _ _ _ 127999 [.int .i32 127999] from rfl) (Reps.one (show Kd.M (Kd.int .i32) _ _ _ 917760 [.int .i32 917760] from rfl) (Reps.one (show Kd.M (Kd.int .i32) _ _ _ 917999 [.int .i32 917999] from rfl) (Reps.none _ _))))))))))))))))))))))))))))))))))))))))))))))))))))));intro v139 w1 ho2 hb hg_ hnew_;clear hg_ hnew_;(first | rw [← Ny138.out] at ho2 | (simp only [Int.reduceToNat] at ho2;rw [← Ny138.out] at ho2));have n0_ := Aside0.mk (Kd.R_lower ho2 (below_size au0));have n1_ := Aside0.mk (below_step au0 hb);clear HB;have HO140 := n0_;have HB := n1_;clear n0_ n1_;clear hb ho2))
 go_ret
 exact ⟨_,by first | rfl | (simp [errW_none,errW_some] <;> rfl) | (simp [*,errW_none,errW_some] <;> rfl),by (with_reducible repeat (first | apply Kd.R_alloc | apply Kd.R_drewN | apply Kd.R_drew));exact HO140.out,au0⟩
def width_wides.f  : Option (List Int) := some (([4352,4447,8986,8987,9001,9002,9193,9196,9725,9726,9748,9749,9800,9811,9898,9899,11904,12329,12336,12350,12353,12440,12443,19903,19968,42191,43360,43391,44032,55203,63744,64255,65072,65135,65281,65376,65504,65510,94176,101119,110592,111359,127744,127994,128000,128591,128640,128767,129280,129535,131072,196605,196608,262141] : List Int))
set_option maxHeartbeats 8000000 in
set_option maxRecDepth 100000 in
theorem width_wides.calls  (r : List Int) (w : World) (h : width_wides.f  = some r) :
  Calls Tryd.prog 85 #[] w fun e w' => ∃ v0_ : Value,e = .returned (v0_) ∧ Kd.R (Kd.int .i32) 21 w' w.heap.size (fun _ => True) v0_ r ∧ Below w.heap.size w w' := by
 have HB := Aside0.mk (Below.refl w.heap.size w)
 have H : (some (([4352,4447,8986,8987,9001,9002,9193,9196,9725,9726,9748,9749,9800,9811,9898,9899,11904,12329,12336,12350,12353,12440,12443,19903,19968,42191,43360,43391,44032,55203,63744,64255,65072,65135,65281,65376,65504,65510,94176,101119,110592,111359,127744,127994,128000,128591,128640,128767,129280,129535,131072,196605,196608,262141] : List Int))) = some r := h
 clear h
 obtain ⟨y141,hy141⟩ : ∃ y_ : List Int,y_ = (([4352,4447,8986,8987,9001,9002,9193,9196,9725,9726,9748,9749,9800,9811,9898,9899,11904,12329,12336,12350,12353,12440,12443,19903,19968,42191,43360,43391,44032,55203,63744,64255,65072,65135,65281,65376,65504,65510,94176,101119,110592,111359,127744,127994,128000,128591,128640,128767,129280,129535,131072,196605,196608,262141] : List Int)) := ⟨_,rfl⟩
 replace H : (some y141) = some r := by first | (rw [hy141];with_reducible exact H) | (have H2_ := (Option.bind_some _ _).symm.trans H;rw [hy141];with_reducible exact H2_) | (have H2_ := (Option.bind_some _ _).symm.trans H;with_reducible exact H2_) | with_reducible exact H | (rw [hy141];exact H) | exact H
 have Ny141 := Aside0.mk hy141
 clear hy141
 obtain rfl := Option.some.inj H
 go_enter Tryd.func85,Tryd.ntmps85
 go_wp2_with (first | ((with_reducible refine gate_dst (N := 1) rfl ?_);refine Kd.R_lit (Kd.int .i32) _ 21 ?hg (N := 1) ?hd (xs := ([4352,4447,8986,8987,9001,9002,9193,9196,9725,9726,9748,9749,9800,9811,9898,9899,11904,12329,12336,12350,12353,12440,12443,19903,19968,42191,43360,43391,44032,55203,63744,64255,65072,65135,65281,65376,65504,65510,94176,101119,110592,111359,127744,127994,128000,128591,128640,128767,129280,129535,131072,196605,196608,262141] : List Int)) (inner := [.int .i32 4352,.int .i32 4447,.int .i32 8986,.int .i32 8987,.int .i32 9001,.int .i32 9002,.int .i32 9193,.int .i32 9196,.int .i32 9725,.int .i32 9726,.int .i32 9748,.int .i32 9749,.int .i32 9800,.int .i32 9811,.int .i32 9898,.int .i32 9899,.int .i32 11904,.int .i32 12329,.int .i32 12336,.int .i32 12350,.int .i32 12353,.int .i32 12440,.int .i32 12443,.int .i32 19903,.int .i32 19968,.int .i32 42191,.int .i32 43360,.int .i32 43391,.int .i32 44032,.int .i32 55203,.int .i32 63744,.int .i32 64255,.int .i32 65072,.int .i32 65135,.int .i32 65281,.int .i32 65376,.int .i32 65504,.int .i32 65510,.int .i32 94176,.int .i32 101119,.int .i32 110592,.int .i32 111359,.int .i32 127744,.int .i32 127994,.int .i32 128000,.int .i32 128591,.int .i32 128640,.int .i32 128767,.int .i32 129280,.int .i32 129535,.int .i32 131072,.int .i32 196605,.int .i32 196608,.int .i32 262141]) (ok := fun _ => True) (okp := fun _ => True) ?hr ?hp (fun _ hk => hk) trivial (Below.refl _ _) (Nat.le_refl _) (by simp) ?_;(case hd => rfl);(case hg => rfl);(case hr => first | (go_simp;done) | (go_simp;rfl));(case hp => exact (Reps.one (show Kd.M (Kd.int .i32) _ _ _ 4352 [.int .i32 4352] from rfl) (Reps.one (show Kd.M (Kd.int .i32) _ _ _ 4447 [.int .i32 4447] from rfl) (Reps.one (show Kd.M (Kd.int .i32) _ _ _ 8986 [.int .i32 8986] from rfl) (Reps.one (show Kd.M (Kd.int .i32) _ _ _ 8987 [.int .i32 8987] from rfl) (Reps.one (show Kd.M (Kd.int .i32) _ _ _ 9001 [.int .i32 9001] from rfl) (Reps.one (show Kd.M (Kd.int .i32) _ _ _ 9002 [.int .i32 9002] from rfl) (Reps.one (show Kd.M (Kd.int .i32) _ _ _ 9193 [.int .i32 9193] from rfl) (Reps.one (show Kd.M (Kd.int .i32) _ _ _ 9196 [.int .i32 9196] from rfl) (Reps.one (show Kd.M (Kd.int .i32) _ _ _ 9725 [.int .i32 9725] from rfl) (Reps.one (show Kd.M (Kd.int .i32) _ _ _ 9726 [.int .i32 9726] from rfl) (Reps.one (show Kd.M (Kd.int .i32) _ _ _ 9748 [.int .i32 9748] from rfl) (Reps.one (show Kd.M (Kd.int .i32) _ _ _ 9749 [.int .i32 9749] from rfl) (Reps.one (show Kd.M (Kd.int .i32) _ _ _ 9800 [.int .i32 9800] from rfl) (Reps.one (show Kd.M (Kd.int .i32) _ _ _ 9811 [.int .i32 9811] from rfl) (Reps.one (show Kd.M (Kd.int .i32) _ _ _ 9898 [.int .i32 9898] from rfl) (Reps.one (show Kd.M (Kd.int .i32) _ _ _ 9899 [.int .i32 9899] from rfl) (Reps.one (show Kd.M (Kd.int .i32) _ _ _ 11904 [.int .i32 11904] from rfl) (Reps.one (show Kd.M (Kd.int .i32) _ _ _ 12329 [.int .i32 12329] from rfl) (Reps.one (show Kd.M (Kd.int .i32) _ _ _ 12336 [.int .i32 12336] from rfl) (Reps.one (show Kd.M (Kd.int .i32) _ _ _ 12350 [.int .i32 12350] from rfl) (Reps.one (show Kd.M (Kd.int .i32) _ _ _ 12353 [.int .i32 12353] from rfl) (Reps.one (show Kd.M (Kd.int .i32) _ _ _ 12440 [.int .i32 12440] from rfl) (Reps.one (show Kd.M (Kd.int .i32) _ _ _ 12443 [.int .i32 12443] from rfl) (Reps.one (show Kd.M (Kd.int .i32) _ _ _ 19903 [.int .i32 19903] from rfl) (Reps.one (show Kd.M (Kd.int .i32) _ _ _ 19968 [.int .i32 19968] from rfl) (Reps.one (show Kd.M (Kd.int .i32) _ _ _ 42191 [.int .i32 42191] from rfl) (Reps.one (show Kd.M (Kd.int .i32) _ _ _ 43360 [.int .i32 43360] from rfl) (Reps.one (show Kd.M (Kd.int .i32) _ _ _ 43391 [.int .i32 43391] from rfl) (Reps.one (show Kd.M (Kd.int .i32) _ _ _ 44032 [.int .i32 44032] from rfl) (Reps.one (show Kd.M (Kd.int .i32) _ _ _ 55203 [.int .i32 55203] from rfl) (Reps.one (show Kd.M (Kd.int .i32) _ _ _ 63744 [.int .i32 63744] from rfl) (Reps.one (show Kd.M (Kd.int .i32) _ _ _ 64255 [.int .i32 64255] from rfl) (Reps.one (show Kd.M (Kd.int .i32) _ _ _ 65072 [.int .i32 65072] from rfl) (Reps.one (show Kd.M (Kd.int .i32) _ _ _ 65135 [.int .i32 65135] from rfl) (Reps.one (show Kd.M (Kd.int .i32) _ _ _ 65281 [.int .i32 65281] from rfl) (Reps.one (show Kd.M (Kd.int .i32) _ _ _ 65376 [.int .i32 65376] from rfl) (Reps.one (show Kd.M (Kd.int .i32) _ _ _ 65504 [.int .i32 65504] from rfl) (Reps.one (show Kd.M (Kd.int .i32) _ _ _ 65510 [.int .i32 65510] from rfl) (Reps.one (show Kd.M (Kd.int .i32) _ _ _ 94176 [.int .i32 94176] from rfl) (Reps.one (show Kd.M (Kd.int .i32) _ _ _ 101119 [.int .i32 101119] from rfl) (Reps.one (show Kd.M (Kd.int .i32) _ _ _ 110592 [.int .i32 110592] from rfl) (Reps.one (show Kd.M (Kd.int .i32) _ _ _ 111359 [.int .i32 111359] from rfl) (Reps.one (show Kd.M (Kd.int .i32) _ _ _ 127744 [.int .i32 127744] from rfl) (Reps.one (show Kd.M (Kd.int .i32) _ _ _ 127994 [.int .i32 127994] from rfl) (Reps.one (show Kd.M (Kd.int .i32) _ _ _ 128000 [.int .i32 128000] from rfl) (Reps.one (show Kd.M (Kd.int .i32) _ _ _ 128591 [.int .i32 128591] from rfl) (Reps.one (show Kd.M (Kd.int .i32) _ _ _ 128640 [.int .i32 128640] from rfl) (Reps.one (show Kd.M (Kd.int .i32) _ _ _ 128767 [.int .i32 128767] from rfl) (Reps.one (show Kd.M (Kd.int .i32) _ _ _ 129280 [.int .i32 129280] from rfl) (Reps.one (show Kd.M (Kd.int .i32) _ _ _ 129535 [.int .i32 129535] from rfl) (Reps.one (show Kd.M (Kd.int .i32) _ _ _ 131072 [.int .i32 131072] from rfl) (Reps.one (show Kd.M (Kd.int .i32) _ _ _ 196605 [.int .i32 196605] from rfl) (Reps.one (show Kd.M (Kd.int .i32) _ _ _ 196608 [.int .i32 196608] from rfl) (Reps.one (show Kd.M (Kd.int .i32) _ _ _ 262141 [.int .i32 262141] from rfl) (Reps.none _ _))))))))))))))))))))))))))))))))))))))))))))))))))))))));intro v142 w1 ho2 hb hg_ hnew_;clear hg_ hnew_;(first | rw [← Ny141.out] at ho2 | (simp only [Int.reduceToNat] at ho2;rw [← Ny141.out] at ho2));have n0_ := Aside0.mk (Kd.R_lower ho2 (below_size au0));have n1_ := Aside0.mk (below_step au0 hb);clear HB;have HO143 := n0_;have HB := n1_;clear n0_ n1_;clear hb ho2))
 go_ret
 exact ⟨_,by first | rfl | (simp [errW_none,errW_some] <;> rfl) | (simp [*,errW_none,errW_some] <;> rfl),by (with_reducible repeat (first | apply Kd.R_alloc | apply Kd.R_drewN | apply Kd.R_drew));exact HO143.out,au0⟩
end Go.Proofs.YtgdpnmikcopkmaaDoor.U
end
section
namespace Go.Proofs
open Go.Shelf
def Tryd.lays206_ren : Go.Shelf.Ren := ⟨fun | 206 => 111 | n => n,fun | 9 => 9 | 4 => 4 | 3 => 3 | n => n,fun | n => n⟩
theorem Tryd.lays206 : Go.Proofs.Lays.n206 Tryd.prog Tryd.lays206_ren := {
 mixed := by kernel_rfl
 f206 := Tryd.func111.trans (congrArg some (by kernel_rfl))
 t3 := Tryd.underlying3
 a3 := Tryd.isAgg3
 z3 := Tryd.sizeOf3
 v3 := Tryd.zeroValue3
 t4 := Tryd.underlying4
 a4 := Tryd.isAgg4
 z4 := Tryd.sizeOf4
 v4 := Tryd.zeroValue4
 t9 := Tryd.underlying9
 a9 := Tryd.isAgg9
 z9 := Tryd.sizeOf9
 v9 := Tryd.zeroValue9 }
open Go.RowKit Go.Lib in
theorem Tryd.stringslite_HasPrefix (s p : ByteArray) (w : World) :
  Calls Tryd.prog 111 #[.string s,.string p] w fun e w' => e = .returned (.bool (Lib.hasPrefix s.data.toList p.data.toList)) ∧ w' = w := Any.stringslite_HasPrefix Tryd.lays206 s p w
def Tryd.lays99_ren : Go.Shelf.Ren := ⟨fun | 99 => 99 | 206 => 111 | n => n,fun | 9 => 9 | 4 => 4 | 3 => 3 | n => n,fun | n => n⟩
theorem Tryd.lays99 : Go.Proofs.Lays.n99 Tryd.prog Tryd.lays99_ren := {
 mixed := by kernel_rfl
 f99 := Tryd.func99.trans (congrArg some (by kernel_rfl))
 f206 := Tryd.func111.trans (congrArg some (by kernel_rfl))
 t3 := Tryd.underlying3
 a3 := Tryd.isAgg3
 z3 := Tryd.sizeOf3
 v3 := Tryd.zeroValue3
 t4 := Tryd.underlying4
 a4 := Tryd.isAgg4
 z4 := Tryd.sizeOf4
 v4 := Tryd.zeroValue4
 t9 := Tryd.underlying9
 a9 := Tryd.isAgg9
 z9 := Tryd.sizeOf9
 v9 := Tryd.zeroValue9 }
open Go.RowKit Go.Lib in
theorem Tryd.strings_HasPrefix (s p : ByteArray) (w : World) :
  Calls Tryd.prog 99 #[.string s,.string p] w fun e w' => e = .returned (.bool (Lib.hasPrefix s.data.toList p.data.toList)) ∧ w' = w := Any.strings_HasPrefix Tryd.lays99 s p w
def Tryd.lays197_ren : Go.Shelf.Ren := ⟨fun | 197 => 100 | 260 => 112 | n => n,fun | 9 => 9 | 21 => 21 | 3 => 3 | 4 => 4 | 5 => 5 | 105 => 103 | 119 => 121 | 0 => 0 | 46 => 125 | 139 => 124 | 138 => 123 | n => n,fun | 3 => 0 | 4 => 1 | n => n⟩
theorem Tryd.lays197 : Go.Proofs.Lays.n197 Tryd.prog Tryd.lays197_ren := {
 mixed := by kernel_rfl
 f197 := Tryd.func100.trans (congrArg some (by kernel_rfl))
 f260 := Tryd.func112.trans (congrArg some (by kernel_rfl))
 t0 := Tryd.underlying0
 a0 := Tryd.isAgg0
 z0 := Tryd.sizeOf0
 v0 := Tryd.zeroValue0
 t3 := Tryd.underlying3
 a3 := Tryd.isAgg3
 z3 := Tryd.sizeOf3
 v3 := Tryd.zeroValue3
 t4 := Tryd.underlying4
 a4 := Tryd.isAgg4
 z4 := Tryd.sizeOf4
 v4 := Tryd.zeroValue4
 t5 := Tryd.underlying5
 a5 := Tryd.isAgg5
 z5 := Tryd.sizeOf5
 v5 := Tryd.zeroValue5
 t9 := Tryd.underlying9
 a9 := Tryd.isAgg9
 z9 := Tryd.sizeOf9
 v9 := Tryd.zeroValue9
 t21 := Tryd.underlying21
 a21 := Tryd.isAgg21
 z21 := Tryd.sizeOf21
 v21 := Tryd.zeroValue21
 t46 := Tryd.underlying125
 a46 := Tryd.isAgg125
 z46 := Tryd.sizeOf125
 v46 := Tryd.zeroValue125
 t105 := Tryd.underlying103
 a105 := Tryd.isAgg103
 z105 := Tryd.sizeOf103
 v105 := Tryd.zeroValue103
 t119 := Tryd.underlying121
 a119 := Tryd.isAgg121
 z119 := Tryd.sizeOf121
 t138 := Tryd.underlying123
 a138 := Tryd.isAgg123
 z138 := Tryd.sizeOf123
 v138 := Tryd.zeroValue123
 t139 := Tryd.underlying124
 a139 := Tryd.isAgg124
 z139 := Tryd.sizeOf124
 v139 := Tryd.zeroValue124
 g3 := by kernel_rfl
 g4 := by kernel_rfl }
def Tryd.lays260_ren : Go.Shelf.Ren := ⟨fun | 260 => 112 | n => n,fun | 9 => 9 | 21 => 21 | 3 => 3 | 4 => 4 | 5 => 5 | 119 => 121 | 0 => 0 | 46 => 125 | 139 => 124 | 138 => 123 | n => n,fun | 3 => 0 | 4 => 1 | n => n⟩
theorem Tryd.lays260 : Go.Proofs.Lays.n260 Tryd.prog Tryd.lays260_ren := {
 mixed := by kernel_rfl
 f260 := Tryd.func112.trans (congrArg some (by kernel_rfl))
 t0 := Tryd.underlying0
 a0 := Tryd.isAgg0
 z0 := Tryd.sizeOf0
 v0 := Tryd.zeroValue0
 t3 := Tryd.underlying3
 a3 := Tryd.isAgg3
 z3 := Tryd.sizeOf3
 v3 := Tryd.zeroValue3
 t4 := Tryd.underlying4
 a4 := Tryd.isAgg4
 z4 := Tryd.sizeOf4
 v4 := Tryd.zeroValue4
 t5 := Tryd.underlying5
 a5 := Tryd.isAgg5
 z5 := Tryd.sizeOf5
 v5 := Tryd.zeroValue5
 t9 := Tryd.underlying9
 a9 := Tryd.isAgg9
 z9 := Tryd.sizeOf9
 v9 := Tryd.zeroValue9
 t21 := Tryd.underlying21
 a21 := Tryd.isAgg21
 z21 := Tryd.sizeOf21
 v21 := Tryd.zeroValue21
 t46 := Tryd.underlying125
 a46 := Tryd.isAgg125
 z46 := Tryd.sizeOf125
 v46 := Tryd.zeroValue125
 t119 := Tryd.underlying121
 a119 := Tryd.isAgg121
 z119 := Tryd.sizeOf121
 t138 := Tryd.underlying123
 a138 := Tryd.isAgg123
 z138 := Tryd.sizeOf123
 v138 := Tryd.zeroValue123
 t139 := Tryd.underlying124
 a139 := Tryd.isAgg124
 z139 := Tryd.sizeOf124
 v139 := Tryd.zeroValue124
 g3 := by kernel_rfl
 g4 := by kernel_rfl }
open Go.RowKit Go.Lib in
theorem Tryd.utf8_DecodeRuneInString (s : ByteArray) (w : World) (hT : Lib.Utf8Tabs 0 1 w) :
  Calls Tryd.prog 100 #[.string s] w fun e w' => e = .returned (.tuple #[.int .i32 (Lib.decodeGo s).1,.int .i64 (Lib.decodeGo s).2]) ∧ Below w.heap.size w w' := Any.utf8_DecodeRuneInString Tryd.lays197 s w hT
end Go.Proofs
end
section
namespace Go.Proofs.YtgdpnmikcopkmaaDoor.U
open Go.RowKit Go.Proofs.YtgdpnmikcopkmaaDoorW.PrintWords Go.Proofs.YtgdpnmikcopkmaaDoorW.PrintLast Go.Proofs.YtgdpnmikcopkmaaDoorW.PrintMore
set_option linter.unusedVariables false
set_option linter.unusedSimpArgs false
theorem block_of_cell {w : World} {p : Addr} {v : Value} (h : w.cell? p = some v) : p.block < w.heap.size := by
 unfold World.cell? at h
 cases hb : w.heap[p.block]? with
 | none => simp [hb] at h
 | some o => exact (Array.getElem?_eq_some_iff.1 hb).1
/-- The tables lie where nothing is turned. -/
theorem tabs_below {w0 w : World} (h : Lib.Utf8Tabs 0 1 w0) (hb : Below w0.heap.size w0 w) : Lib.Utf8Tabs 0 1 w :=
  ⟨fun c hc => (hb.cell (p := ⟨0, c, none⟩) (block_of_cell (h.1 c hc))).trans (h.1 c hc),
   fun i hi => ⟨(hb.cell (p := ⟨1, 2 * i, none⟩) (block_of_cell (h.2 i hi).1)).trans (h.2 i hi).1,
     (hb.cell (p := ⟨1, 2 * i + 1, none⟩) (block_of_cell (h.2 i hi).2)).trans (h.2 i hi).2⟩⟩
def utf8_DecodeRuneInString.f (a0 : ByteArray) : Option (Int × Int) := some (((Lib.decodeGo a0).1 : Int),((Lib.decodeGo a0).2 : Int))
theorem utf8_DecodeRuneInString.calls (a0 : ByteArray) (r1 : Int) (r2 : Int) (w : World) (hT : Lib.Utf8Tabs 0 1 w) (h : utf8_DecodeRuneInString.f a0 = some (r1,r2)) :
  Calls Tryd.prog 100 #[.string a0] w fun e w' => e = .returned (.tuple #[.int .i32 r1,.int .i64 r2]) ∧ Below w.heap.size w w' := by
 unfold utf8_DecodeRuneInString.f at h
 simp only [Option.some.injEq,Prod.mk.injEq] at h
 obtain ⟨rfl,rfl⟩ := h
 exact Tryd.utf8_DecodeRuneInString a0 w hT
def fullN (n b0 b1 b2 : Nat) : Bool :=
 if n = 0 then false
 else if Lib.firstT b0 % 8 ≤ n then true
 else if 1 < n ∧ (b1 < Lib.accLo (Lib.firstT b0 / 16) ∨ Lib.accHi (Lib.firstT b0 / 16) < b1) then true
 else if 2 < n ∧ (b2 < 128 ∨ 191 < b2) then true
 else false
def fullB (s : ByteArray) : Bool := fullN s.size (s.get! 0).toNat (s.get! 1).toNat (s.get! 2).toNat
def utf8_FullRuneInString.f (a0 : ByteArray) : Option (Bool) := some (fullB a0)
set_option maxHeartbeats 2000000 in
set_option maxRecDepth 100000 in
/-- enough bytes -/
theorem full_enough (s : ByteArray) (w : World) (x0 : UInt8) (X : Nat) (hz0 : (0 : Int) < (s.size : Int)) (hzb : (((s.size : Nat) : Int) == 0) = false) (h0 : 0 < s.size) (hs0 : s[0]'h0 = x0)
  (hX : X = 240 ∨ X = 241 ∨ X = 2 ∨ X = 19 ∨ X = 3 ∨ X = 35 ∨ X = 52 ∨ X = 4 ∨ X = 68) (hc0 : w.cell? ⟨0,x0.toNat,none⟩ = some (.int .u8 X)) (hn : X % 8 ≤ s.size) :
  Calls Tryd.prog 82 #[.string s] w fun e w' => e = .returned (.bool true) ∧ Below w.heap.size w w' := by
 have l0 := x0.toNat_lt
 rcases hX with rfl | rfl | rfl | rfl | rfl | rfl | rfl | rfl | rfl
 all_goals
  simp only [Nat.reduceMod] at hn
  have hd : ∀ k : Nat,k ≤ s.size → decide ((k : Int) ≤ (s.size : Int)) = true := fun k hk => decide_eq_true (by omega)
  have hd' := hd _ hn
  clear hd
  go_enter Tryd.func82,Tryd.ntmps82
  go_wp2
  go_ret
  exact ⟨rfl,Below.refl _ _⟩
set_option maxHeartbeats 4000000 in
set_option maxRecDepth 100000 in
theorem full_short (s : ByteArray) (w : World) (x0 x1 x2 : UInt8) (X i lo hi : Nat) (hX : (X = 2 ∧ i = 0 ∧ lo = 128 ∧ hi = 191) ∨ (X = 19 ∧ i = 1 ∧ lo = 160 ∧ hi = 191) ∨ (X = 3 ∧ i = 0 ∧ lo = 128 ∧ hi = 191) ∨ (X = 35 ∧ i = 2 ∧ lo = 128 ∧ hi = 159) ∨ (X = 52 ∧ i = 3 ∧ lo = 144 ∧ hi = 191) ∨ (X = 4 ∧ i = 0 ∧ lo = 128 ∧ hi = 191) ∨ (X = 68 ∧ i = 4 ∧ lo = 128 ∧ hi = 143))
  (hz0 : (0 : Int) < (s.size : Int)) (hzb : (((s.size : Nat) : Int) == 0) = false) (h0 : 0 < s.size) (hs0 : s[0]'h0 = x0) (h1 : (hh : 1 < s.size) → s[1]'hh = x1) (h2 : (hh : 2 < s.size) → s[2]'hh = x2)
  (hc0 : w.cell? ⟨0,x0.toNat,none⟩ = some (.int .u8 X)) (ha0 : w.cell? ⟨1,2 * i,none⟩ = some (.int .u8 lo)) (ha1 : w.cell? ⟨1,2 * i + 1,none⟩ = some (.int .u8 hi)) (hn : s.size < X % 8) :
  Calls Tryd.prog 82 #[.string s] w fun e w' => e = .returned (.bool (decide (1 < s.size ∧ (x1.toNat < lo ∨ hi < x1.toNat)) || decide (2 < s.size ∧ (x2.toNat < 128 ∨ 191 < x2.toNat)))) ∧ Below w.heap.size w w' := by
 have l0 := x0.toNat_lt;have l1 := x1.toNat_lt;have l2 := x2.toNat_lt
 have u95 := run_underlying Tryd.underlying123
 have hdd : ∀ k : Nat,s.size < k → decide ((k : Int) ≤ (s.size : Int)) = false := fun k hk => decide_eq_false (by omega)
 have fin : ∀ b : Bool,(decide (1 < s.size ∧ (x1.toNat < lo ∨ hi < x1.toNat)) || decide (2 < s.size ∧ (x2.toNat < 128 ∨ 191 < x2.toNat))) = b →
   Calls Tryd.prog 82 #[.string s] w (fun e w' => e = .returned (.bool b) ∧ Below w.heap.size w w') := by
  intro b hb
  by_cases c1 : 1 < s.size
  ·have g1 : decide ((1 : Int) < (s.size : Int)) = true := decide_eq_true (by omega)
   have i1 : (1 : Int) < (s.size : Int) := by omega
   have e1 := h1 c1
   by_cases a1 : x1.toNat < lo
   ·have d1 : decide ((x1.toNat : Int) < (lo : Int)) = true := decide_eq_true (by omega)
    obtain rfl : true = b := by rw [← hb];simp [c1,a1]
    clear a1
    clear h1 h2 hb
    rcases hX with ⟨rfl,rfl,rfl,rfl⟩ | ⟨rfl,rfl,rfl,rfl⟩ | ⟨rfl,rfl,rfl,rfl⟩ | ⟨rfl,rfl,rfl,rfl⟩ | ⟨rfl,rfl,rfl,rfl⟩ | ⟨rfl,rfl,rfl,rfl⟩ | ⟨rfl,rfl,rfl,rfl⟩
    all_goals
     simp only [Nat.reduceMul,Nat.reduceAdd] at ha0 ha1
     simp only [Int.cast_ofNat_Int] at hc0 ha0 ha1
     try simp only [Int.cast_ofNat_Int] at d1
     try simp only [Int.cast_ofNat_Int] at d2
     simp only [Nat.reduceMod] at hn
     try have q2 : decide ((2 : Int) ≤ (s.size : Int)) = false := decide_eq_false (by omega)
     try have q3 : decide ((3 : Int) ≤ (s.size : Int)) = false := decide_eq_false (by omega)
     try have q4 : decide ((4 : Int) ≤ (s.size : Int)) = false := decide_eq_false (by omega)
     clear hn hdd
     go_enter Tryd.func82,Tryd.ntmps82
     go_wp2
     go_quiet (fail)
     go_wp2
     go_ret
     exact ⟨rfl,by repeat (first | exact Below.refl _ _ | apply below_alloc | apply pw_below_drewN | apply below_drew1)⟩
   ·have d1 : decide ((x1.toNat : Int) < (lo : Int)) = false := decide_eq_false (by omega)
    by_cases a2 : hi < x1.toNat
    ·have d2 : decide ((hi : Int) < (x1.toNat : Int)) = true := decide_eq_true (by omega)
     obtain rfl : true = b := by rw [← hb];simp [c1,a1,a2]
     clear a1 a2
     clear h1 h2 hb
     rcases hX with ⟨rfl,rfl,rfl,rfl⟩ | ⟨rfl,rfl,rfl,rfl⟩ | ⟨rfl,rfl,rfl,rfl⟩ | ⟨rfl,rfl,rfl,rfl⟩ | ⟨rfl,rfl,rfl,rfl⟩ | ⟨rfl,rfl,rfl,rfl⟩ | ⟨rfl,rfl,rfl,rfl⟩
     all_goals
      simp only [Nat.reduceMul,Nat.reduceAdd] at ha0 ha1
      simp only [Int.cast_ofNat_Int] at hc0 ha0 ha1
      try simp only [Int.cast_ofNat_Int] at d1
      try simp only [Int.cast_ofNat_Int] at d2
      simp only [Nat.reduceMod] at hn
      try have q2 : decide ((2 : Int) ≤ (s.size : Int)) = false := decide_eq_false (by omega)
      try have q3 : decide ((3 : Int) ≤ (s.size : Int)) = false := decide_eq_false (by omega)
      try have q4 : decide ((4 : Int) ≤ (s.size : Int)) = false := decide_eq_false (by omega)
      clear hn hdd
      go_enter Tryd.func82,Tryd.ntmps82
      go_wp2
      go_quiet (fail)
      go_wp2
      go_ret
      exact ⟨rfl,by repeat (first | exact Below.refl _ _ | apply below_alloc | apply pw_below_drewN | apply below_drew1)⟩
    ·have d2 : decide ((hi : Int) < (x1.toNat : Int)) = false := decide_eq_false (by omega)
     by_cases c2 : 2 < s.size
     ·have g2 : decide ((2 : Int) < (s.size : Int)) = true := decide_eq_true (by omega)
      have i2 : (2 : Int) < (s.size : Int) := by omega
      have e2 := h2 c2
      by_cases a3 : x2.toNat < 128
      ·have d3 : decide ((x2.toNat : Int) < 128) = true := decide_eq_true (by omega)
       obtain rfl : true = b := by rw [← hb];simp [c2,a3]
       clear a1 a2 a3
       clear h1 h2 hb
       rcases hX with ⟨rfl,rfl,rfl,rfl⟩ | ⟨rfl,rfl,rfl,rfl⟩ | ⟨rfl,rfl,rfl,rfl⟩ | ⟨rfl,rfl,rfl,rfl⟩ | ⟨rfl,rfl,rfl,rfl⟩ | ⟨rfl,rfl,rfl,rfl⟩ | ⟨rfl,rfl,rfl,rfl⟩
       all_goals
        simp only [Nat.reduceMul,Nat.reduceAdd] at ha0 ha1
        simp only [Int.cast_ofNat_Int] at hc0 ha0 ha1
        try simp only [Int.cast_ofNat_Int] at d1
        try simp only [Int.cast_ofNat_Int] at d2
        simp only [Nat.reduceMod] at hn
        try have q2 : decide ((2 : Int) ≤ (s.size : Int)) = false := decide_eq_false (by omega)
        try have q3 : decide ((3 : Int) ≤ (s.size : Int)) = false := decide_eq_false (by omega)
        try have q4 : decide ((4 : Int) ≤ (s.size : Int)) = false := decide_eq_false (by omega)
        clear hn hdd
        go_enter Tryd.func82,Tryd.ntmps82
        go_wp2
        go_quiet (fail)
        go_wp2
        go_ret
        exact ⟨rfl,by repeat (first | exact Below.refl _ _ | apply below_alloc | apply pw_below_drewN | apply below_drew1)⟩
      ·have d3 : decide ((x2.toNat : Int) < 128) = false := decide_eq_false (by omega)
       by_cases a4 : 191 < x2.toNat
       ·have d4 : decide (191 < (x2.toNat : Int)) = true := decide_eq_true (by omega)
        obtain rfl : true = b := by rw [← hb];simp [c2,a4]
        clear a1 a2 a3 a4
        clear h1 h2 hb
        rcases hX with ⟨rfl,rfl,rfl,rfl⟩ | ⟨rfl,rfl,rfl,rfl⟩ | ⟨rfl,rfl,rfl,rfl⟩ | ⟨rfl,rfl,rfl,rfl⟩ | ⟨rfl,rfl,rfl,rfl⟩ | ⟨rfl,rfl,rfl,rfl⟩ | ⟨rfl,rfl,rfl,rfl⟩
        all_goals
         simp only [Nat.reduceMul,Nat.reduceAdd] at ha0 ha1
         simp only [Int.cast_ofNat_Int] at hc0 ha0 ha1
         try simp only [Int.cast_ofNat_Int] at d1
         try simp only [Int.cast_ofNat_Int] at d2
         simp only [Nat.reduceMod] at hn
         try have q2 : decide ((2 : Int) ≤ (s.size : Int)) = false := decide_eq_false (by omega)
         try have q3 : decide ((3 : Int) ≤ (s.size : Int)) = false := decide_eq_false (by omega)
         try have q4 : decide ((4 : Int) ≤ (s.size : Int)) = false := decide_eq_false (by omega)
         clear hn hdd
         go_enter Tryd.func82,Tryd.ntmps82
         go_wp2
         go_quiet (fail)
         go_wp2
         go_ret
         exact ⟨rfl,by repeat (first | exact Below.refl _ _ | apply below_alloc | apply pw_below_drewN | apply below_drew1)⟩
       ·have d4 : decide (191 < (x2.toNat : Int)) = false := decide_eq_false (by omega)
        obtain rfl : false = b := by rw [← hb];simp [c1,a1,a2,a3,a4]
        clear a1 a2 a3 a4
        clear h1 h2 hb
        rcases hX with ⟨rfl,rfl,rfl,rfl⟩ | ⟨rfl,rfl,rfl,rfl⟩ | ⟨rfl,rfl,rfl,rfl⟩ | ⟨rfl,rfl,rfl,rfl⟩ | ⟨rfl,rfl,rfl,rfl⟩ | ⟨rfl,rfl,rfl,rfl⟩ | ⟨rfl,rfl,rfl,rfl⟩
        all_goals
         simp only [Nat.reduceMul,Nat.reduceAdd] at ha0 ha1
         simp only [Int.cast_ofNat_Int] at hc0 ha0 ha1
         try simp only [Int.cast_ofNat_Int] at d1
         try simp only [Int.cast_ofNat_Int] at d2
         simp only [Nat.reduceMod] at hn
         try have q2 : decide ((2 : Int) ≤ (s.size : Int)) = false := decide_eq_false (by omega)
         try have q3 : decide ((3 : Int) ≤ (s.size : Int)) = false := decide_eq_false (by omega)
         try have q4 : decide ((4 : Int) ≤ (s.size : Int)) = false := decide_eq_false (by omega)
         clear hn hdd
         go_enter Tryd.func82,Tryd.ntmps82
         go_wp2
         go_quiet (fail)
         go_wp2
         go_ret
         exact ⟨rfl,by repeat (first | exact Below.refl _ _ | apply below_alloc | apply pw_below_drewN | apply below_drew1)⟩
     ·have g2 : decide ((2 : Int) < (s.size : Int)) = false := decide_eq_false (by omega)
      obtain rfl : false = b := by rw [← hb];simp [a1,a2,c2]
      clear a1 a2 c2
      clear h1 h2 hb
      rcases hX with ⟨rfl,rfl,rfl,rfl⟩ | ⟨rfl,rfl,rfl,rfl⟩ | ⟨rfl,rfl,rfl,rfl⟩ | ⟨rfl,rfl,rfl,rfl⟩ | ⟨rfl,rfl,rfl,rfl⟩ | ⟨rfl,rfl,rfl,rfl⟩ | ⟨rfl,rfl,rfl,rfl⟩
      all_goals
       simp only [Nat.reduceMul,Nat.reduceAdd] at ha0 ha1
       simp only [Int.cast_ofNat_Int] at hc0 ha0 ha1
       try simp only [Int.cast_ofNat_Int] at d1
       try simp only [Int.cast_ofNat_Int] at d2
       simp only [Nat.reduceMod] at hn
       try have q2 : decide ((2 : Int) ≤ (s.size : Int)) = false := decide_eq_false (by omega)
       try have q3 : decide ((3 : Int) ≤ (s.size : Int)) = false := decide_eq_false (by omega)
       try have q4 : decide ((4 : Int) ≤ (s.size : Int)) = false := decide_eq_false (by omega)
       clear hn hdd
       go_enter Tryd.func82,Tryd.ntmps82
       go_wp2
       go_quiet (fail)
       go_wp2
       go_ret
       exact ⟨rfl,by repeat (first | exact Below.refl _ _ | apply below_alloc | apply pw_below_drewN | apply below_drew1)⟩
  ·have g1 : decide ((1 : Int) < (s.size : Int)) = false := decide_eq_false (by omega)
   have g2 : decide ((2 : Int) < (s.size : Int)) = false := decide_eq_false (by omega)
   obtain rfl : false = b := by rw [← hb];simp [c1];omega
   clear c1
   clear h1 h2 hb
   rcases hX with ⟨rfl,rfl,rfl,rfl⟩ | ⟨rfl,rfl,rfl,rfl⟩ | ⟨rfl,rfl,rfl,rfl⟩ | ⟨rfl,rfl,rfl,rfl⟩ | ⟨rfl,rfl,rfl,rfl⟩ | ⟨rfl,rfl,rfl,rfl⟩ | ⟨rfl,rfl,rfl,rfl⟩
   all_goals
    simp only [Nat.reduceMul,Nat.reduceAdd] at ha0 ha1
    simp only [Int.cast_ofNat_Int] at hc0 ha0 ha1
    try simp only [Int.cast_ofNat_Int] at d1
    try simp only [Int.cast_ofNat_Int] at d2
    simp only [Nat.reduceMod] at hn
    try have q2 : decide ((2 : Int) ≤ (s.size : Int)) = false := decide_eq_false (by omega)
    try have q3 : decide ((3 : Int) ≤ (s.size : Int)) = false := decide_eq_false (by omega)
    try have q4 : decide ((4 : Int) ≤ (s.size : Int)) = false := decide_eq_false (by omega)
    clear hn hdd
    go_enter Tryd.func82,Tryd.ntmps82
    go_wp2
    go_quiet (fail)
    go_wp2
    go_ret
    exact ⟨rfl,by repeat (first | exact Below.refl _ _ | apply below_alloc | apply pw_below_drewN | apply below_drew1)⟩
 exact fin _ rfl
theorem full_any (s : ByteArray) (w : World) (hT : Lib.Utf8Tabs 0 1 w) :
  Calls Tryd.prog 82 #[.string s] w fun e w' => e = .returned (.bool (fullB s)) ∧ Below w.heap.size w w' := by
 unfold fullB
 by_cases h0 : s.size = 0
 ·have hz : (((s.size : Nat) : Int) == 0) = true := by rw [beq_iff_eq];omega
  simp only [fullN,h0,if_true]
  go_enter Tryd.func82,Tryd.ntmps82
  go_wp2
  go_ret
  exact ⟨rfl,Below.refl _ _⟩
 ·have hz0 : (0 : Int) < (s.size : Int) := by omega
  have hzb : (((s.size : Nat) : Int) == 0) = false := by rw [beq_eq_false_iff_ne];omega
  obtain ⟨x0,hx0⟩ : ∃ x0,s.get! 0 = x0 := ⟨_,rfl⟩
  obtain ⟨x1,hx1⟩ : ∃ x1,s.get! 1 = x1 := ⟨_,rfl⟩
  obtain ⟨x2,hx2⟩ : ∃ x2,s.get! 2 = x2 := ⟨_,rfl⟩
  rw [hx0,hx1,hx2]
  have hp : 0 < s.size := by omega
  have hs0 : s[0]'hp = x0 := by rw [← hx0];exact (Utf8W.get!_of_lt s 0 (by omega)).symm
  have hs1 : (hh : 1 < s.size) → s[1]'hh = x1 := fun hh => by rw [← hx1];exact (Utf8W.get!_of_lt s 1 hh).symm
  have hs2 : (hh : 2 < s.size) → s[2]'hh = x2 := fun hh => by rw [← hx2];exact (Utf8W.get!_of_lt s 2 hh).symm
  have l0 := x0.toNat_lt
  have hc0 := hT.1 x0.toNat (by omega)
  have hX := Lib.firstT_cases x0.toNat
  by_cases hn : Lib.firstT x0.toNat % 8 ≤ s.size
  ·have e : fullN s.size x0.toNat x1.toNat x2.toNat = true := by simp only [fullN,h0,if_false,hn,if_true]
   rw [e]
   exact full_enough s w x0 _ hz0 hzb hp hs0 hX hc0 hn
  ·have e : fullN s.size x0.toNat x1.toNat x2.toNat = (decide (1 < s.size ∧ (x1.toNat < Lib.accLo (Lib.firstT x0.toNat / 16) ∨ Lib.accHi (Lib.firstT x0.toNat / 16) < x1.toNat)) || decide (2 < s.size ∧ (x2.toNat < 128 ∨ 191 < x2.toNat))) := by
    simp only [fullN,h0,if_false,hn]
    by_cases a : 1 < s.size ∧ (x1.toNat < Lib.accLo (Lib.firstT x0.toNat / 16) ∨ Lib.accHi (Lib.firstT x0.toNat / 16) < x1.toNat)
    ·simp [a]
    ·simp [a]
   rw [e]
   refine full_short s w x0 x1 x2 _ (Lib.firstT x0.toNat / 16) _ _ ?_ hz0 hzb hp hs0 hs1 hs2 hc0 (hT.2 _ ?_).1 (hT.2 _ ?_).2 (by omega)
   ·rcases hX with hX | hX | hX | hX | hX | hX | hX | hX | hX <;> rw [hX] at hn ⊢ <;> simp [Lib.accLo,Lib.accHi] <;> omega
   ·rcases hX with hX | hX | hX | hX | hX | hX | hX | hX | hX <;> rw [hX] <;> omega
   ·rcases hX with hX | hX | hX | hX | hX | hX | hX | hX | hX <;> rw [hX] <;> omega
theorem utf8_FullRuneInString.calls (a0 : ByteArray) (r : Bool) (w : World) (hT : Lib.Utf8Tabs 0 1 w) (h : utf8_FullRuneInString.f a0 = some r) :
  Calls Tryd.prog 82 #[.string a0] w fun e w' => e = .returned (.bool r) ∧ Below w.heap.size w w' := by
 obtain rfl := Option.some.inj h
 exact full_any a0 w hT
end Go.Proofs.YtgdpnmikcopkmaaDoor.U
end
section
namespace Go.Proofs.YtgdpnmikcopkmaaDoor.U
open Go.RowKit Go.Proofs.YtgdpnmikcopkmaaDoorW.PrintWords Go.Proofs.YtgdpnmikcopkmaaDoorW.PrintLast Go.Proofs.YtgdpnmikcopkmaaDoorW.PrintMore
attribute [local go_sem] max2_int min2_int max_two min_two max_three min_three max_four min_four   -- for this text's walks alone
set_option linter.unusedVariables false
set_option linter.unusedSimpArgs false
def unit_first.f (a0 : ByteArray) : Option (Int × Int) := (utf8_DecodeRuneInString.f a0).bind fun bt105 => (if bt105.1 = 65533 then (if bt105.2 = 1 then (some ((-1),1)) else (some (bt105.1,bt105.2))) else (some (bt105.1,bt105.2)))
set_option maxHeartbeats 8000000 in
set_option maxRecDepth 100000 in
theorem unit_first.calls (a0 : ByteArray) (r1 : Int) (r2 : Int) (w : World) (hT : Lib.Utf8Tabs 0 1 w) (h : unit_first.f a0 = some (r1,r2)) :
  Calls Tryd.prog 78 #[.string a0] w fun e w' => e = .returned (.agg #[.int .i32 r1,.int .i64 r2]) ∧ Below w.heap.size w w' := by
 have hu83 := Tryd.underlying83
 have HT := Aside0.mk hT
 clear hT
 have HB := Aside0.mk (Below.refl w.heap.size w)
 have H : ((utf8_DecodeRuneInString.f a0).bind fun bt105 => (if bt105.1 = 65533 then (if bt105.2 = 1 then (some ((-1),1)) else (some (bt105.1,bt105.2))) else (some (bt105.1,bt105.2)))) = some (r1,r2) := h
 clear h
 replace H := Option.bind_eq_some_iff.mp H
 obtain ⟨⟨t105,t106⟩,A20,H⟩ := H
 replace H : (if t105 = 65533 then (if t106 = 1 then (some ((-1),1)) else (some (t105,t106))) else (some (t105,t106))) = some (r1,r2) := H
 have A2 := Aside0.mk A20
 clear A20
 by_cases c3 : t105 = 65533
 ·rw [if_pos c3] at H
  have c3b0 : (t105 == 65533) = true := beq_iff_eq.mpr c3
  have c3b1 : (t105 != 65533) = false := bne_eq_false_iff_eq.mpr c3
  clear c3
  by_cases c4 : t106 = 1
  ·rw [if_pos c4] at H
   have c4b0 : (t106 == 1) = true := beq_iff_eq.mpr c4
   have c4b1 : (t106 != 1) = false := bne_eq_false_iff_eq.mpr c4
   clear c4
   simp only [Option.some.injEq,Prod.mk.injEq] at H
   obtain ⟨rfl,rfl⟩ := H
   go_enter Tryd.func78,Tryd.ntmps78
   go_wp2_with (first | ((with_reducible refine gate_dst (N := 2) rfl ?_);refine box_event ?hg (N := 2) ?hd (cs := #[.int .i32 0,.int .i64 0]) (t := 83) ?hr ?_;(case hd => rfl);(case hg => rfl);(case hr => first | (go_simp;done) | (go_simp;rfl));intro gb104 hg w5 hbox hb;have n0_ := Aside0.mk (below_step au0 hb);have n1_ := Aside0.mk (hbox);have n2_ := Aside0.mk ((by rw [hg];exact (below_size au0) : w.heap.size ≤ gb104));have n3_ := Aside0.mk ((by rw [hg];exact (below_size au0) : w.heap.size ≤ gb104));clear HB;have HB := n0_;have BK104 := n1_;have GW104 := n2_;have GE104 := n3_;clear n0_ n1_ n2_ n3_;clear hb hbox hg) | ((with_reducible refine gate_callee (f := 100) rfl ?_);refine goesL_ (some 7) rfl rfl Tryd.func100 (by kernel_rfl) rfl #[.string a0] rfl au1 ?_;(with_reducible refine (utf8_DecodeRuneInString.calls a0 t105 t106 _ ?side1 A2.out).mono ?_);(case side1 => exact tabs_below HT.out au12);rintro e w6 ⟨rfl,hb⟩;refine ⟨_,rfl,?_⟩;have n0_ := Aside0.mk (blk_below (g := gb104) (o := .cells #[.int .i32 0,.int .i64 0] 83 (0,0)) (by (with_reducible repeat (first | refine blk_drewN ?_ _ | refine blk_drew ?_ | refine blk_alloc ?_ _));exact BK104.out) hb);have n1_ := Aside0.mk (below_step au12 hb);clear BK104;clear HB;have BK104 := n0_;have HB := n1_;clear n0_ n1_;(try clear hb);(try clear hb2);(try clear hk);(try clear hi);have hcz7_0 : w6.cell? ⟨gb104,0,none⟩ = some (.int .i32 0) := (blk_cell BK104.out 0).trans rfl;have hcz7_1 : w6.cell? ⟨gb104,1,none⟩ = some (.int .i64 0) := (blk_cell BK104.out 1).trans rfl;have hfz7_0 := blk_frozen BK104.out 0;have hfz7_1 := blk_frozen BK104.out 1))
   refine bodyPost_ret (results_cell_row rfl _ _ gb104 83 #[.int .i32 (-1),.int .i64 1] (0,0) _ rfl (by (with_reducible repeat (first | refine blk_drewN ?_ _ | refine blk_drew ?_ | refine blk_alloc ?_ _));refine blk_put (cs := #[.int .i32 (-1),.int .i64 0]) ?_ 1 _ rfl;(with_reducible repeat (first | refine blk_drewN ?_ _ | refine blk_drew ?_ | refine blk_alloc ?_ _));refine blk_put (cs := #[.int .i32 0,.int .i64 0]) ?_ 0 _ rfl;(with_reducible repeat (first | refine blk_drewN ?_ _ | refine blk_drew ?_ | refine blk_alloc ?_ _));exact BK104.out) Tryd.underlying83 rfl (by kernel_rfl)) rfl ?_
   exact ⟨au2,by repeat (first | (with_reducible first | exact HB.out | apply below_alloc | apply pw_below_drewN | apply below_drew1 | refine below_set ?_ GE104.out) | exact HB.out)⟩
  ·rw [if_neg c4] at H
   have c4b0 : (t106 == 1) = false := beq_eq_false_iff_ne.mpr c4
   have c4b1 : (t106 != 1) = true := bne_iff_ne.mpr c4
   simp only [Option.some.injEq,Prod.mk.injEq] at H
   obtain ⟨rfl,rfl⟩ := H
   go_enter Tryd.func78,Tryd.ntmps78
   go_wp2_with (first | ((with_reducible refine gate_dst (N := 2) rfl ?_);refine box_event ?hg (N := 2) ?hd (cs := #[.int .i32 0,.int .i64 0]) (t := 83) ?hr ?_;(case hd => rfl);(case hg => rfl);(case hr => first | (go_simp;done) | (go_simp;rfl));intro gb104 hg w8 hbox hb;have n0_ := Aside0.mk (below_step au0 hb);have n1_ := Aside0.mk (hbox);have n2_ := Aside0.mk ((by rw [hg];exact (below_size au0) : w.heap.size ≤ gb104));have n3_ := Aside0.mk ((by rw [hg];exact (below_size au0) : w.heap.size ≤ gb104));clear HB;have HB := n0_;have BK104 := n1_;have GW104 := n2_;have GE104 := n3_;clear n0_ n1_ n2_ n3_;clear hb hbox hg) | ((with_reducible refine gate_callee (f := 100) rfl ?_);refine goesL_ (some 7) rfl rfl Tryd.func100 (by kernel_rfl) rfl #[.string a0] rfl au1 ?_;(with_reducible refine (utf8_DecodeRuneInString.calls a0 t105 t106 _ ?side1 A2.out).mono ?_);(case side1 => exact tabs_below HT.out au12);rintro e w9 ⟨rfl,hb⟩;refine ⟨_,rfl,?_⟩;have n0_ := Aside0.mk (blk_below (g := gb104) (o := .cells #[.int .i32 0,.int .i64 0] 83 (0,0)) (by (with_reducible repeat (first | refine blk_drewN ?_ _ | refine blk_drew ?_ | refine blk_alloc ?_ _));exact BK104.out) hb);have n1_ := Aside0.mk (below_step au12 hb);clear BK104;clear HB;have BK104 := n0_;have HB := n1_;clear n0_ n1_;(try clear hb);(try clear hb2);(try clear hk);(try clear hi);have hcz10_0 : w9.cell? ⟨gb104,0,none⟩ = some (.int .i32 0) := (blk_cell BK104.out 0).trans rfl;have hcz10_1 : w9.cell? ⟨gb104,1,none⟩ = some (.int .i64 0) := (blk_cell BK104.out 1).trans rfl;have hfz10_0 := blk_frozen BK104.out 0;have hfz10_1 := blk_frozen BK104.out 1))
   refine bodyPost_ret (results_cell_row rfl _ _ gb104 83 #[.int .i32 t105,.int .i64 t106] (0,0) _ rfl au17 Tryd.underlying83 rfl (by kernel_rfl)) rfl ?_
   exact ⟨au2,by repeat (first | (with_reducible first | exact HB.out | apply below_alloc | apply pw_below_drewN | apply below_drew1 | refine below_set ?_ GE104.out) | exact HB.out)⟩
 ·rw [if_neg c3] at H
  have c3b0 : (t105 == 65533) = false := beq_eq_false_iff_ne.mpr c3
  have c3b1 : (t105 != 65533) = true := bne_iff_ne.mpr c3
  simp only [Option.some.injEq,Prod.mk.injEq] at H
  obtain ⟨rfl,rfl⟩ := H
  go_enter Tryd.func78,Tryd.ntmps78
  go_wp2_with (first | ((with_reducible refine gate_dst (N := 2) rfl ?_);refine box_event ?hg (N := 2) ?hd (cs := #[.int .i32 0,.int .i64 0]) (t := 83) ?hr ?_;(case hd => rfl);(case hg => rfl);(case hr => first | (go_simp;done) | (go_simp;rfl));intro gb104 hg w11 hbox hb;have n0_ := Aside0.mk (below_step au0 hb);have n1_ := Aside0.mk (hbox);have n2_ := Aside0.mk ((by rw [hg];exact (below_size au0) : w.heap.size ≤ gb104));have n3_ := Aside0.mk ((by rw [hg];exact (below_size au0) : w.heap.size ≤ gb104));clear HB;have HB := n0_;have BK104 := n1_;have GW104 := n2_;have GE104 := n3_;clear n0_ n1_ n2_ n3_;clear hb hbox hg) | ((with_reducible refine gate_callee (f := 100) rfl ?_);refine goesL_ (some 7) rfl rfl Tryd.func100 (by kernel_rfl) rfl #[.string a0] rfl au1 ?_;(with_reducible refine (utf8_DecodeRuneInString.calls a0 t105 t106 _ ?side1 A2.out).mono ?_);(case side1 => exact tabs_below HT.out au12);rintro e w12 ⟨rfl,hb⟩;refine ⟨_,rfl,?_⟩;have n0_ := Aside0.mk (blk_below (g := gb104) (o := .cells #[.int .i32 0,.int .i64 0] 83 (0,0)) (by (with_reducible repeat (first | refine blk_drewN ?_ _ | refine blk_drew ?_ | refine blk_alloc ?_ _));exact BK104.out) hb);have n1_ := Aside0.mk (below_step au12 hb);clear BK104;clear HB;have BK104 := n0_;have HB := n1_;clear n0_ n1_;(try clear hb);(try clear hb2);(try clear hk);(try clear hi);have hcz13_0 : w12.cell? ⟨gb104,0,none⟩ = some (.int .i32 0) := (blk_cell BK104.out 0).trans rfl;have hcz13_1 : w12.cell? ⟨gb104,1,none⟩ = some (.int .i64 0) := (blk_cell BK104.out 1).trans rfl;have hfz13_0 := blk_frozen BK104.out 0;have hfz13_1 := blk_frozen BK104.out 1))
  refine bodyPost_ret (results_cell_row rfl _ _ gb104 83 #[.int .i32 t105,.int .i64 t106] (0,0) _ rfl au17 Tryd.underlying83 rfl (by kernel_rfl)) rfl ?_
  exact ⟨au2,by repeat (first | (with_reducible first | exact HB.out | apply below_alloc | apply pw_below_drewN | apply below_drew1 | refine below_set ?_ GE104.out) | exact HB.out)⟩
def unit_around.l0 : Nat → ByteArray → Int → Int → Option (Int × Int)
 | 0,_,_,_ => none
 | k + 1,x0,x1,x6 => if x6 < x1 then (if 0 ≤ x6 then (if x6 ≤ (x0.size : Int) then ((unit_first.f (x0.extract (x6 : Int).toNat x0.size)).bind fun bt107 => (if (wrap64 (x6 + bt107.2)) > x1 then (some (x6,wrap64 (x6 + bt107.2))) else (unit_around.l0 k x0 x1 (wrap64 (x6 + 1))))) else (none)) else (none)) else (if x1 = (x0.size : Int) then (some (x1,x1)) else (if 0 ≤ x1 then (if x1 ≤ (x0.size : Int) then ((unit_first.f (x0.extract (x1 : Int).toNat x0.size)).bind fun bt110 => (some (x1,wrap64 (x1 + bt110.2)))) else (none)) else (none)))
def unit_around.f (k : Nat) (a0 : ByteArray) (a1 : Int) : Option (Int × Int) := unit_around.l0 k a0 a1 (mx 0 (wrap64 (a1 - 3)))
set_option maxHeartbeats 8000000 in
set_option maxRecDepth 100000 in
theorem unit_around.calls (k : Nat) (a0 : ByteArray) (a1 : Int) (r1 : Int) (r2 : Int) (w : World) (hT : Lib.Utf8Tabs 0 1 w) (h : unit_around.f k a0 a1 = some (r1,r2)) :
  Calls Tryd.prog 77 #[.string a0,.int .i64 a1] w fun e w' => e = .returned (.tuple #[.int .i64 r1,.int .i64 r2]) ∧ Below w.heap.size w w' := by
 have hu83 := Tryd.underlying83
 have hfd83_1 : ∀ (x0 x1 : Value) (W : World),(Instr.field 83 (.agg #[x0,x1]) 1).run Tryd.prog W = .ok (x1) W := fun _ _ _ => by kernel_rfl
 have HT := Aside0.mk hT
 clear hT
 have HB := Aside0.mk (Below.refl w.heap.size w)
 have H : (unit_around.l0 k a0 a1 (mx 0 (wrap64 (a1 - 3)))) = some (r1,r2) := h
 clear h
 obtain ⟨ji3,hji3⟩ : ∃ j_ : Int,(mx 0 (wrap64 (a1 - 3))) = j_ := ⟨_,rfl⟩
 replace H : (unit_around.l0 k a0 a1 ji3) = some (r1,r2) := by first | (rw [hji3] at H;exact H) | (simp only [hji3] at H ⊢;exact H)
 (try (have hji3l : 0 ≤ ji3 := by (rw [← hji3];unfold mx;(repeat' split) <;> omega)))
 (try (have hji3m : 0 ≤ ji3 := by omega))
 have hji3_ : (if 0 < (wrap64 (a1 - 3)) then (wrap64 (a1 - 3)) else 0) = ji3 := hji3
 have H' := Aside0.mk H
 clear H
 go_enter Tryd.func77,Tryd.ntmps77
 go_wp2
 repeat (go_quiet (fail);try go_wp2)
 go_loopg [6] k (fun kq v6 w' => ∃ (x6_1 : Int),v6 = .int .i64 x6_1 ∧ Aside0 (unit_around.l0 kq a0 a1 x6_1 = some (r1,r2)) ∧ Aside0 (kq ≤ k) ∧ Aside0 (Below w.heap.size w w'))
 case atStart => exact ⟨(ji3),(by first | rfl | (simp;done) | (simp only [← hji3] <;> (first | rfl | simp)) | (simp [*];done)),H',⟨Nat.le_refl _⟩,⟨au0⟩⟩
 case round =>
  clear H'
  try clear p2
  obtain ⟨x6_1,rfl,HA,HK1,HB⟩ := hrel
  cases gk with
  | zero => exact absurd HA.out (by simp [unit_around.l0])
  | succ k1 =>
   have H := HA.out
   clear HA
   simp only [unit_around.l0] at H
   by_cases c4 : x6_1 < a1
   ·rw [if_pos c4] at H
    have c4b0 : decide (x6_1 < a1) = true := decide_eq_true c4
    clear c4
    by_cases c5 : 0 ≤ x6_1
    ·rw [if_pos c5] at H
     have c5b0 := eq_true c5
     have c5b1 : decide (0 ≤ x6_1) = true := decide_eq_true c5
     clear c5
     by_cases c6 : x6_1 ≤ (a0.size : Int)
     ·rw [if_pos c6] at H
      have c6b0 := eq_true c6
      have c6b1 : decide (x6_1 ≤ (a0.size : Int)) = true := decide_eq_true c6
      clear c6
      replace H := Option.bind_eq_some_iff.mp H
      obtain ⟨⟨t107,t108⟩,A70,H⟩ := H
      replace H : (if (wrap64 (x6_1 + t108)) > a1 then (some (x6_1,wrap64 (x6_1 + t108))) else (unit_around.l0 k1 a0 a1 (wrap64 (x6_1 + 1)))) = some (r1,r2) := H
      have A7 := Aside0.mk A70
      clear A70
      by_cases c8 : (wrap64 (x6_1 + t108)) > a1
      ·rw [if_pos c8] at H
       have c8b0 : decide (a1 < (wrap64 (x6_1 + t108))) = true := decide_eq_true c8
       clear c8
       simp only [Option.some.injEq,Prod.mk.injEq] at H
       obtain ⟨rfl,rfl⟩ := H
       go_wp2_with (first | (go_at_call 78;(with_reducible refine (unit_first.calls (a0.extract (x6_1 : Int).toNat a0.size) t107 t108 _ ?side1 A7.out).mono ?_);(case side1 => exact tabs_below HT.out au0);rintro e w9 ⟨rfl,hb⟩;have n0_ := Aside0.mk (below_step au0 hb);clear HB;have HB := n0_;clear n0_;(try clear hb);(try clear hb2);(try clear hk);(try clear hi)) | ((with_reducible refine gate_dst (N := 7) rfl ?_);refine box_event ?hg (N := 7) ?hd (cs := #[.int .i32 0,.int .i64 0]) (t := 83) ?hr ?_;(case hd => rfl);(case hg => rfl);(case hr => first | (go_simp;done) | (go_simp;rfl));intro gb109 hg w10 hbox hb;have n0_ := Aside0.mk (below_step au0 hb);have n1_ := Aside0.mk (hbox);have n2_ := Aside0.mk ((by rw [hg];exact (below_size au0) : w.heap.size ≤ gb109));have n3_ := Aside0.mk ((by rw [hg];exact (below_size au0) : w.heap.size ≤ gb109));clear HB;have HB := n0_;have BK109 := n1_;have GW109 := n2_;have GE109 := n3_;clear n0_ n1_ n2_ n3_;clear hb hbox hg;have hcz11_0 : w10.cell? ⟨gb109,0,none⟩ = some (.int .i32 0) := (blk_cell BK109.out 0).trans rfl;have hcz11_1 : w10.cell? ⟨gb109,1,none⟩ = some (.int .i64 0) := (blk_cell BK109.out 1).trans rfl;have hfz11_0 := blk_frozen BK109.out 0;have hfz11_1 := blk_frozen BK109.out 1))
       repeat (go_quiet (first | (go_at_call 78;(with_reducible refine (unit_first.calls (a0.extract (x6_1 : Int).toNat a0.size) t107 t108 _ ?side1 A7.out).mono ?_);(case side1 => exact tabs_below HT.out au0);rintro e w9 ⟨rfl,hb⟩;have n0_ := Aside0.mk (below_step au0 hb);clear HB;have HB := n0_;clear n0_;(try clear hb);(try clear hb2);(try clear hk);(try clear hi)) | ((with_reducible refine gate_dst (N := 7) rfl ?_);refine box_event ?hg (N := 7) ?hd (cs := #[.int .i32 0,.int .i64 0]) (t := 83) ?hr ?_;(case hd => rfl);(case hg => rfl);(case hr => first | (go_simp;done) | (go_simp;rfl));intro gb109 hg w10 hbox hb;have n0_ := Aside0.mk (below_step au0 hb);have n1_ := Aside0.mk (hbox);have n2_ := Aside0.mk ((by rw [hg];exact (below_size au0) : w.heap.size ≤ gb109));have n3_ := Aside0.mk ((by rw [hg];exact (below_size au0) : w.heap.size ≤ gb109));clear HB;have HB := n0_;have BK109 := n1_;have GW109 := n2_;have GE109 := n3_;clear n0_ n1_ n2_ n3_;clear hb hbox hg;have hcz11_0 : w10.cell? ⟨gb109,0,none⟩ = some (.int .i32 0) := (blk_cell BK109.out 0).trans rfl;have hcz11_1 : w10.cell? ⟨gb109,1,none⟩ = some (.int .i64 0) := (blk_cell BK109.out 1).trans rfl;have hfz11_0 := blk_frozen BK109.out 0;have hfz11_1 := blk_frozen BK109.out 1));try go_wp2_with (first | (go_at_call 78;(with_reducible refine (unit_first.calls (a0.extract (x6_1 : Int).toNat a0.size) t107 t108 _ ?side1 A7.out).mono ?_);(case side1 => exact tabs_below HT.out au0);rintro e w9 ⟨rfl,hb⟩;have n0_ := Aside0.mk (below_step au0 hb);clear HB;have HB := n0_;clear n0_;(try clear hb);(try clear hb2);(try clear hk);(try clear hi)) | ((with_reducible refine gate_dst (N := 7) rfl ?_);refine box_event ?hg (N := 7) ?hd (cs := #[.int .i32 0,.int .i64 0]) (t := 83) ?hr ?_;(case hd => rfl);(case hg => rfl);(case hr => first | (go_simp;done) | (go_simp;rfl));intro gb109 hg w10 hbox hb;have n0_ := Aside0.mk (below_step au0 hb);have n1_ := Aside0.mk (hbox);have n2_ := Aside0.mk ((by rw [hg];exact (below_size au0) : w.heap.size ≤ gb109));have n3_ := Aside0.mk ((by rw [hg];exact (below_size au0) : w.heap.size ≤ gb109));clear HB;have HB := n0_;have BK109 := n1_;have GW109 := n2_;have GE109 := n3_;clear n0_ n1_ n2_ n3_;clear hb hbox hg;have hcz11_0 : w10.cell? ⟨gb109,0,none⟩ = some (.int .i32 0) := (blk_cell BK109.out 0).trans rfl;have hcz11_1 : w10.cell? ⟨gb109,1,none⟩ = some (.int .i64 0) := (blk_cell BK109.out 1).trans rfl;have hfz11_0 := blk_frozen BK109.out 0;have hfz11_1 := blk_frozen BK109.out 1)))
       go_ret2
       exact ⟨by first | rfl | (simp [errW_none,errW_some] <;> rfl) | (simp only [← hji3];first | rfl | (simp [errW_none,errW_some] <;> rfl)) | (simp [*,errW_none,errW_some] <;> rfl),by repeat (first | (with_reducible first | exact HB.out | apply below_alloc | apply pw_below_drewN | apply below_drew1 | refine below_set ?_ GE109.out) | exact HB.out)⟩
      ·rw [if_neg c8] at H
       have c8b0 : decide (a1 < (wrap64 (x6_1 + t108))) = false := decide_eq_false c8
       clear c8
       have H' := Aside0.mk H
       clear H
       go_wp2_with (first | (go_at_call 78;(with_reducible refine (unit_first.calls (a0.extract (x6_1 : Int).toNat a0.size) t107 t108 _ ?side1 A7.out).mono ?_);(case side1 => exact tabs_below HT.out au0);rintro e w12 ⟨rfl,hb⟩;have n0_ := Aside0.mk (below_step au0 hb);clear HB;have HB := n0_;clear n0_;(try clear hb);(try clear hb2);(try clear hk);(try clear hi)) | ((with_reducible refine gate_dst (N := 7) rfl ?_);refine box_event ?hg (N := 7) ?hd (cs := #[.int .i32 0,.int .i64 0]) (t := 83) ?hr ?_;(case hd => rfl);(case hg => rfl);(case hr => first | (go_simp;done) | (go_simp;rfl));intro gb109 hg w13 hbox hb;have n0_ := Aside0.mk (below_step au0 hb);have n1_ := Aside0.mk (hbox);have n2_ := Aside0.mk ((by rw [hg];exact (below_size au0) : w.heap.size ≤ gb109));have n3_ := Aside0.mk ((by rw [hg];exact (below_size au0) : w.heap.size ≤ gb109));clear HB;have HB := n0_;have BK109 := n1_;have GW109 := n2_;have GE109 := n3_;clear n0_ n1_ n2_ n3_;clear hb hbox hg;have hcz14_0 : w13.cell? ⟨gb109,0,none⟩ = some (.int .i32 0) := (blk_cell BK109.out 0).trans rfl;have hcz14_1 : w13.cell? ⟨gb109,1,none⟩ = some (.int .i64 0) := (blk_cell BK109.out 1).trans rfl;have hfz14_0 := blk_frozen BK109.out 0;have hfz14_1 := blk_frozen BK109.out 1))
       repeat (go_quiet (first | (go_at_call 78;(with_reducible refine (unit_first.calls (a0.extract (x6_1 : Int).toNat a0.size) t107 t108 _ ?side1 A7.out).mono ?_);(case side1 => exact tabs_below HT.out au0);rintro e w12 ⟨rfl,hb⟩;have n0_ := Aside0.mk (below_step au0 hb);clear HB;have HB := n0_;clear n0_;(try clear hb);(try clear hb2);(try clear hk);(try clear hi)) | ((with_reducible refine gate_dst (N := 7) rfl ?_);refine box_event ?hg (N := 7) ?hd (cs := #[.int .i32 0,.int .i64 0]) (t := 83) ?hr ?_;(case hd => rfl);(case hg => rfl);(case hr => first | (go_simp;done) | (go_simp;rfl));intro gb109 hg w13 hbox hb;have n0_ := Aside0.mk (below_step au0 hb);have n1_ := Aside0.mk (hbox);have n2_ := Aside0.mk ((by rw [hg];exact (below_size au0) : w.heap.size ≤ gb109));have n3_ := Aside0.mk ((by rw [hg];exact (below_size au0) : w.heap.size ≤ gb109));clear HB;have HB := n0_;have BK109 := n1_;have GW109 := n2_;have GE109 := n3_;clear n0_ n1_ n2_ n3_;clear hb hbox hg;have hcz14_0 : w13.cell? ⟨gb109,0,none⟩ = some (.int .i32 0) := (blk_cell BK109.out 0).trans rfl;have hcz14_1 : w13.cell? ⟨gb109,1,none⟩ = some (.int .i64 0) := (blk_cell BK109.out 1).trans rfl;have hfz14_0 := blk_frozen BK109.out 0;have hfz14_1 := blk_frozen BK109.out 1));try go_wp2_with (first | (go_at_call 78;(with_reducible refine (unit_first.calls (a0.extract (x6_1 : Int).toNat a0.size) t107 t108 _ ?side1 A7.out).mono ?_);(case side1 => exact tabs_below HT.out au0);rintro e w12 ⟨rfl,hb⟩;have n0_ := Aside0.mk (below_step au0 hb);clear HB;have HB := n0_;clear n0_;(try clear hb);(try clear hb2);(try clear hk);(try clear hi)) | ((with_reducible refine gate_dst (N := 7) rfl ?_);refine box_event ?hg (N := 7) ?hd (cs := #[.int .i32 0,.int .i64 0]) (t := 83) ?hr ?_;(case hd => rfl);(case hg => rfl);(case hr => first | (go_simp;done) | (go_simp;rfl));intro gb109 hg w13 hbox hb;have n0_ := Aside0.mk (below_step au0 hb);have n1_ := Aside0.mk (hbox);have n2_ := Aside0.mk ((by rw [hg];exact (below_size au0) : w.heap.size ≤ gb109));have n3_ := Aside0.mk ((by rw [hg];exact (below_size au0) : w.heap.size ≤ gb109));clear HB;have HB := n0_;have BK109 := n1_;have GW109 := n2_;have GE109 := n3_;clear n0_ n1_ n2_ n3_;clear hb hbox hg;have hcz14_0 : w13.cell? ⟨gb109,0,none⟩ = some (.int .i32 0) := (blk_cell BK109.out 0).trans rfl;have hcz14_1 : w13.cell? ⟨gb109,1,none⟩ = some (.int .i64 0) := (blk_cell BK109.out 1).trans rfl;have hfz14_0 := blk_frozen BK109.out 0;have hfz14_1 := blk_frozen BK109.out 1)))
       go_roundg k1
       case measure => have := HK1.out;omega
       case rel => exact ⟨(wrap64 (x6_1 + 1)),au7,H',⟨by have := HK1.out;omega⟩,⟨by repeat (first | (with_reducible first | exact HB.out | apply below_alloc | apply pw_below_drewN | apply below_drew1 | refine below_set ?_ GE109.out) | exact HB.out)⟩⟩
     ·rw [if_neg c6] at H
      exact absurd H (by simp)
    ·rw [if_neg c5] at H
     exact absurd H (by simp)
   ·rw [if_neg c4] at H
    have c4b0 : decide (x6_1 < a1) = false := decide_eq_false c4
    clear c4
    by_cases c15 : a1 = (a0.size : Int)
    ·rw [if_pos c15] at H
     have c15b0 : (a1 == (a0.size : Int)) = true := beq_iff_eq.mpr c15
     have c15b1 : (a1 != (a0.size : Int)) = false := bne_eq_false_iff_eq.mpr c15
     clear c15
     simp only [Option.some.injEq,Prod.mk.injEq] at H
     obtain ⟨rfl,rfl⟩ := H
     go_wp2
     repeat (go_quiet (fail);try go_wp2)
     go_ret2
     exact ⟨by first | rfl | (simp [errW_none,errW_some] <;> rfl) | (simp only [← hji3];first | rfl | (simp [errW_none,errW_some] <;> rfl)) | (simp [*,errW_none,errW_some] <;> rfl),au0⟩
    ·rw [if_neg c15] at H
     have c15b0 : (a1 == (a0.size : Int)) = false := beq_eq_false_iff_ne.mpr c15
     have c15b1 : (a1 != (a0.size : Int)) = true := bne_iff_ne.mpr c15
     by_cases c16 : 0 ≤ a1
     ·rw [if_pos c16] at H
      have c16b0 := eq_true c16
      have c16b1 : decide (0 ≤ a1) = true := decide_eq_true c16
      clear c16
      by_cases c17 : a1 ≤ (a0.size : Int)
      ·rw [if_pos c17] at H
       have c17b0 := eq_true c17
       have c17b1 : decide (a1 ≤ (a0.size : Int)) = true := decide_eq_true c17
       clear c17
       replace H := Option.bind_eq_some_iff.mp H
       obtain ⟨⟨t110,t111⟩,A180,H⟩ := H
       replace H : (some (a1,wrap64 (a1 + t111))) = some (r1,r2) := H
       have A18 := Aside0.mk A180
       clear A180
       simp only [Option.some.injEq,Prod.mk.injEq] at H
       obtain ⟨rfl,rfl⟩ := H
       go_wp2_with (first | (go_at_call 78;(with_reducible refine (unit_first.calls (a0.extract (a1 : Int).toNat a0.size) t110 t111 _ ?side1 A18.out).mono ?_);(case side1 => exact tabs_below HT.out au0);rintro e w19 ⟨rfl,hb⟩;have n0_ := Aside0.mk (below_step au0 hb);clear HB;have HB := n0_;clear n0_;(try clear hb);(try clear hb2);(try clear hk);(try clear hi)))
       repeat (go_quiet (first | (go_at_call 78;(with_reducible refine (unit_first.calls (a0.extract (a1 : Int).toNat a0.size) t110 t111 _ ?side1 A18.out).mono ?_);(case side1 => exact tabs_below HT.out au0);rintro e w19 ⟨rfl,hb⟩;have n0_ := Aside0.mk (below_step au0 hb);clear HB;have HB := n0_;clear n0_;(try clear hb);(try clear hb2);(try clear hk);(try clear hi)));try go_wp2_with (first | (go_at_call 78;(with_reducible refine (unit_first.calls (a0.extract (a1 : Int).toNat a0.size) t110 t111 _ ?side1 A18.out).mono ?_);(case side1 => exact tabs_below HT.out au0);rintro e w19 ⟨rfl,hb⟩;have n0_ := Aside0.mk (below_step au0 hb);clear HB;have HB := n0_;clear n0_;(try clear hb);(try clear hb2);(try clear hk);(try clear hi))))
       go_ret2
       exact ⟨by first | rfl | (simp [errW_none,errW_some] <;> rfl) | (simp only [← hji3];first | rfl | (simp [errW_none,errW_some] <;> rfl)) | (simp [*,errW_none,errW_some] <;> rfl),au0⟩
      ·rw [if_neg c17] at H
       exact absurd H (by simp)
     ·rw [if_neg c16] at H
      exact absurd H (by simp)
def unit_Boundary.f (k : Nat) (a0 : ByteArray) (a1 : Int) : Option (Bool) := if a1 < 0 then (some false) else (if a1 > (a0.size : Int) then (some false) else ((unit_around.f k a0 a1).bind fun bt112 => (some (bt112.1 == a1))))
set_option maxHeartbeats 8000000 in
set_option maxRecDepth 100000 in
theorem unit_Boundary.calls (k : Nat) (a0 : ByteArray) (a1 : Int) (r : Bool) (w : World) (hT : Lib.Utf8Tabs 0 1 w) (h : unit_Boundary.f k a0 a1 = some r) :
  Calls Tryd.prog 57 #[.string a0,.int .i64 a1] w fun e w' => e = .returned (.bool r) ∧ Below w.heap.size w w' := by
 have HT := Aside0.mk hT
 clear hT
 have HB := Aside0.mk (Below.refl w.heap.size w)
 have H : (if a1 < 0 then (some false) else (if a1 > (a0.size : Int) then (some false) else ((unit_around.f k a0 a1).bind fun bt112 => (some (bt112.1 == a1))))) = some r := h
 clear h
 by_cases c3 : a1 < 0
 ·rw [if_pos c3] at H
  have c3b0 : decide (a1 < 0) = true := decide_eq_true c3
  clear c3
  obtain rfl := Option.some.inj H
  go_enter Tryd.func57,Tryd.ntmps57
  go_wp2
  go_ret
  exact ⟨au2,au0⟩
 ·rw [if_neg c3] at H
  have c3b0 : decide (a1 < 0) = false := decide_eq_false c3
  clear c3
  by_cases c4 : a1 > (a0.size : Int)
  ·rw [if_pos c4] at H
   have c4b0 : decide ((a0.size : Int) < a1) = true := decide_eq_true c4
   clear c4
   obtain rfl := Option.some.inj H
   go_enter Tryd.func57,Tryd.ntmps57
   go_wp2
   go_ret
   exact ⟨au2,au0⟩
  ·rw [if_neg c4] at H
   have c4b0 : decide ((a0.size : Int) < a1) = false := decide_eq_false c4
   clear c4
   replace H := Option.bind_eq_some_iff.mp H
   obtain ⟨⟨t112,t113⟩,A50,H⟩ := H
   replace H : (some (t112 == a1)) = some r := H
   have A5 := Aside0.mk A50
   clear A50
   obtain rfl := Option.some.inj H
   go_enter Tryd.func57,Tryd.ntmps57
   go_wp2_with (first | ((with_reducible refine gate_callee (f := 77) rfl ?_);refine goesL_ (some 18) rfl rfl Tryd.func77 (by kernel_rfl) rfl #[.string a0,.int .i64 a1] rfl au1 ?_;(with_reducible refine (unit_around.calls k a0 a1 t112 t113 _ ?side1 A5.out).mono ?_);(case side1 => exact tabs_below HT.out au0);rintro e w6 ⟨rfl,hb⟩;refine ⟨_,rfl,?_⟩;have n0_ := Aside0.mk (below_step au0 hb);clear HB;have HB := n0_;clear n0_;(try clear hb);(try clear hb2);(try clear hk);(try clear hi)))
   go_ret
   exact ⟨au2,au0⟩
def unit_Down.f (k : Nat) (a0 : ByteArray) (a1 : Int) : Option (Int) := (unit_around.f k a0 (mn (mx a1 0) (a0.size : Int))).bind fun bt174 => (some bt174.1)
set_option maxHeartbeats 8000000 in
set_option maxRecDepth 100000 in
theorem unit_Down.calls (k : Nat) (a0 : ByteArray) (a1 : Int) (r : Int) (w : World) (hT : Lib.Utf8Tabs 0 1 w) (h : unit_Down.f k a0 a1 = some r) :
  Calls Tryd.prog 79 #[.string a0,.int .i64 a1] w fun e w' => e = .returned (.int .i64 r) ∧ Below w.heap.size w w' := by
 have HT := Aside0.mk hT
 clear hT
 have HB := Aside0.mk (Below.refl w.heap.size w)
 have H : ((unit_around.f k a0 (mn (mx a1 0) (a0.size : Int))).bind fun bt174 => (some bt174.1)) = some r := h
 clear h
 obtain ⟨ji3,hji3⟩ : ∃ j_ : Int,(mx a1 0) = j_ := ⟨_,rfl⟩
 replace H : ((unit_around.f k a0 (mn (ji3) (a0.size : Int))).bind fun bt174 => (some bt174.1)) = some r := by first | (rw [hji3] at H;exact H) | (simp only [hji3] at H ⊢;exact H)
 (try (have hji3l : 0 ≤ ji3 := by (rw [← hji3];unfold mx;(repeat' split) <;> omega)))
 (try (have hji3m : 0 ≤ ji3 := by omega))
 have hji3_ : (if a1 < 0 then 0 else a1) = ji3 := hji3
 obtain ⟨ji4,hji4⟩ : ∃ j_ : Int,(mn (ji3) (a0.size : Int)) = j_ := ⟨_,rfl⟩
 replace H : ((unit_around.f k a0 (ji4)).bind fun bt174 => (some bt174.1)) = some r := by first | (rw [hji4] at H;exact H) | (simp only [hji4] at H ⊢;exact H)
 have hji4_ : (if (a0.size : Int) < (ji3) then (a0.size : Int) else (ji3)) = ji4 := hji4
 replace H := Option.bind_eq_some_iff.mp H
 obtain ⟨⟨t174,t175⟩,A50,H⟩ := H
 replace H : (some t174) = some r := H
 have A5 := Aside0.mk A50
 clear A50
 obtain rfl := Option.some.inj H
 go_enter Tryd.func79,Tryd.ntmps79
 go_wp2_with (first | ((with_reducible refine gate_callee (f := 77) rfl ?_);refine goesL_ (some 14) rfl rfl Tryd.func77 (by kernel_rfl) rfl #[.string a0,.int .i64 ji4] rfl (by (try simp only [List.map_toArray,List.map_cons,List.map_nil]);first | done | (simp only [hji4];rfl) | rfl | (simp only [List.length_drop,List.length_take];rfl)) ?_;(with_reducible refine (unit_around.calls k a0 ji4 t174 t175 _ ?side1 A5.out).mono ?_);(case side1 => exact tabs_below HT.out au0);rintro e w6 ⟨rfl,hb⟩;refine ⟨_,rfl,?_⟩;have n0_ := Aside0.mk (below_step au0 hb);clear HB;have HB := n0_;clear n0_;(try clear hb);(try clear hb2);(try clear hk);(try clear hi)))
 go_ret
 exact ⟨by first | rfl | (simp [errW_none,errW_some] <;> rfl) | (simp only [← hji3,← hji4];first | rfl | (simp [errW_none,errW_some] <;> rfl)) | (simp [*,errW_none,errW_some] <;> rfl),au0⟩
def unit_Next.f (k : Nat) (a0 : ByteArray) (a1 : Int) : Option (Int) := if a1 < 0 then (some 0) else ((unit_around.f k a0 (mn a1 (a0.size : Int))).bind fun bt190 => (some bt190.2))
set_option maxHeartbeats 8000000 in
set_option maxRecDepth 100000 in
theorem unit_Next.calls (k : Nat) (a0 : ByteArray) (a1 : Int) (r : Int) (w : World) (hT : Lib.Utf8Tabs 0 1 w) (h : unit_Next.f k a0 a1 = some r) :
  Calls Tryd.prog 62 #[.string a0,.int .i64 a1] w fun e w' => e = .returned (.int .i64 r) ∧ Below w.heap.size w w' := by
 have HT := Aside0.mk hT
 clear hT
 have HB := Aside0.mk (Below.refl w.heap.size w)
 have H : (if a1 < 0 then (some 0) else ((unit_around.f k a0 (mn a1 (a0.size : Int))).bind fun bt190 => (some bt190.2))) = some r := h
 clear h
 by_cases c3 : a1 < 0
 ·rw [if_pos c3] at H
  have c3b0 : decide (a1 < 0) = true := decide_eq_true c3
  clear c3
  obtain rfl := Option.some.inj H
  go_enter Tryd.func62,Tryd.ntmps62
  go_wp2
  go_ret
  exact ⟨au2,au0⟩
 ·rw [if_neg c3] at H
  have c3b0 : decide (a1 < 0) = false := decide_eq_false c3
  clear c3
  obtain ⟨ji4,hji4⟩ : ∃ j_ : Int,(mn a1 (a0.size : Int)) = j_ := ⟨_,rfl⟩
  replace H : ((unit_around.f k a0 (ji4)).bind fun bt190 => (some bt190.2)) = some r := by first | (rw [hji4] at H;exact H) | (simp only [hji4] at H ⊢;exact H)
  have hji4_ : (if (a0.size : Int) < a1 then (a0.size : Int) else a1) = ji4 := hji4
  replace H := Option.bind_eq_some_iff.mp H
  obtain ⟨⟨t190,t191⟩,A50,H⟩ := H
  replace H : (some t191) = some r := H
  have A5 := Aside0.mk A50
  clear A50
  obtain rfl := Option.some.inj H
  go_enter Tryd.func62,Tryd.ntmps62
  go_wp2_with (first | ((with_reducible refine gate_callee (f := 77) rfl ?_);refine goesL_ (some 15) rfl rfl Tryd.func77 (by kernel_rfl) rfl #[.string a0,.int .i64 ji4] rfl (by (try simp only [List.map_toArray,List.map_cons,List.map_nil]);first | done | (simp only [hji4];rfl) | rfl | (simp only [List.length_drop,List.length_take];rfl)) ?_;(with_reducible refine (unit_around.calls k a0 ji4 t190 t191 _ ?side1 A5.out).mono ?_);(case side1 => exact tabs_below HT.out au0);rintro e w6 ⟨rfl,hb⟩;refine ⟨_,rfl,?_⟩;have n0_ := Aside0.mk (below_step au0 hb);clear HB;have HB := n0_;clear n0_;(try clear hb);(try clear hb2);(try clear hk);(try clear hi)))
  go_ret
  exact ⟨by first | rfl | (simp [errW_none,errW_some] <;> rfl) | (simp only [← hji4];first | rfl | (simp [errW_none,errW_some] <;> rfl)) | (simp [*,errW_none,errW_some] <;> rfl),au0⟩
end Go.Proofs.YtgdpnmikcopkmaaDoor.U
end
section
namespace Go.Proofs.YtgdpnmikcopkmaaDoor.Rf
open Go Go.RowKit
/-- What a round keeps: what lies below n₀;the cells that lie from B on;and the cells of the blocks of Pr (what the iterator has captured). -/
def KeepB (n₀ : Nat) (Pr : Nat → Prop) (B : Nat) (W W' : World) : Prop :=
 Below n₀ W W' ∧ ∀ (k : Nat) (o : Obj),(Pr k ∨ B ≤ k) → W.heap[k]? = some o → o.isCells = true → W'.heap[k]? = some o
theorem KeepB.refl (n₀ : Nat) (Pr : Nat → Prop) (B : Nat) (W : World) : KeepB n₀ Pr B W W := ⟨Below.refl _ _,fun _ _ _ h _ => h⟩
theorem KeepB.trans {n₀ : Nat} {Pr : Nat → Prop} {B : Nat} {X Y Z : World} (h : KeepB n₀ Pr B X Y) (k : KeepB n₀ Pr B Y Z) : KeepB n₀ Pr B X Z :=
 ⟨h.1.trans k.1,fun i o hi ho hc => k.2 i o hi (h.2 i o hi ho hc) hc⟩
theorem KeepB.of_below {n₀ : Nat} {Pr : Nat → Prop} {B : Nat} {X Y : World} (hn : n₀ ≤ X.heap.size) (h : Below X.heap.size X Y) : KeepB n₀ Pr B X Y :=
 ⟨h.mono hn,fun k _o _ ho _ => (h.block k (Array.getElem?_eq_some_iff.1 ho).1).trans ho⟩
theorem KeepB.putObj {n₀ : Nat} {Pr : Nat → Prop} {B : Nat} {W : World} {l : Nat} {o : Obj} (o' : Obj) (hn : n₀ ≤ W.heap.size) (hl : n₀ ≤ l) (h : W.heap[l]? = some o) (ho : o.isCells = false) : KeepB n₀ Pr B W (W.putObj l o') :=
 ⟨(Below.refl n₀ W).grown (grownBy_putObj' W l o') hn (fun k e => by cases e;omega),fun k p _ hk hc => by
  refine (World.putObj_heap_other (fun e => ?_)).trans hk
  subst e;rw [h] at hk;cases hk;rw [ho] at hc;cases hc⟩
/-- The iterator's contract: at each call of yield it tells a world W0 in which the caller's word held,and what it has laid since. -/
def SeqB {α : Type} (F : Fence) (n : Nat) (P : Program) (g : Nat) (lb : Array Value) (encs : α → Array Value) (n₀ : Nat) (Pr : Nat → Prop) (S Sp : List α → Prop) (N : Nat) (w : World) : Prop :=
 ∀ (l : Nat) (J Jx : List α → World → Prop) (W : World),Below w.heap.size w W → AbidesFrom W.heap.size J → AbidesFrom W.heap.size Jx →
  (∀ pre x W0 W1,J pre W0 → Below W0.heap.size W0 W1 → pre.length < N → YieldAt F (n - 1) P l (encs x) W1 fun e W' =>
   (e = .returned (.bool true) ∧ J (pre ++ [x]) W' ∧ KeepB n₀ Pr W0.heap.size W1 W') ∨ (e = .returned (.bool false) ∧ Jx (pre ++ [x]) W')) →
  J [] W →
  CallsIn F n P g (#[.func (.yield l) #[] #[]] ++ lb) W fun e W' => (∃ v,e = .returned v) ∧ ((∃ xs,S xs ∧ J xs W') ∨ (∃ pre,Sp pre ∧ Jx pre W'))
theorem SeqB.inRound {α : Type} {F : Fence} {n : Nat} {P : Program} {g : Nat} {lb : Array Value} {encs : α → Array Value} {n₀ : Nat} {Pr : Nat → Prop} {S Sp : List α → Prop} {N : Nat} {w : World} (l : Nat)
  (h : SeqB F n P g lb encs n₀ Pr S Sp N w) : SeqB (F.inRound l) n P g lb encs n₀ Pr S Sp N w := h
/-- How a round may be left. -/
def PostB {α : Type} (C n₀ : Nat) (Pr : Nat → Prop) (B : Nat) (I : Nat → List α → World → Prop) (Ix : Code → List α → World → Prop) (xs : List α) (W : World) : Exit → Act → World → Prop
 | .normal,_,W' => KeepsFrom C W W' ∧ KeepB n₀ Pr B W W' ∧ I W'.heap.size xs W'
 | .ret,_,W' => KeepsFrom C W W' ∧ Ix .ret xs W'
 | .exit id,_,W' => KeepsFrom C W W' ∧ Ix (.exit id) xs W'
 | .goto t,_,W' => KeepsFrom C W W' ∧ Ix (.goto t) xs W'
 | .panic _,_,_ => False
 | .outgrown,_,_ => False
variable {F : Fence} {n : Nat} {P : Program}
/-- What of a loop's own book-keeping lasts through its rounds: its record,and the block for deferred calls,where there is one. -/
structure Book (dz : Option Nat) (L : Nat) (r : Loop) (W : World) : Prop where
 at_ : W.heap[L]? = some (.loop r)
 dz_ : ∀ d,dz = some d → W.heap[d]? = some (.deferred (some []))
theorem Book.walks {dz : Option Nat} {L : Nat} {r : Loop} {A B : World} {row : Option Nat} (h : Book dz L r A) (hg : A.grownBy B row) (hr : ∀ k,row = some k → ∃ o : Obj,A.heap[k]? = some o ∧ o.isWalk = true) : Book dz L r B :=
 ⟨(grownBy_keeps hg hr h.at_ rfl).trans h.at_,fun d e => (grownBy_keeps hg hr (h.dz_ d e) rfl).trans (h.dz_ d e)⟩
theorem Book.from_ {dz : Option Nat} {L C : Nat} {r : Loop} {A B : World} (h : Book dz L r A) (hL : C ≤ L) (hd : ∀ d,dz = some d → C ≤ d ∧ d ≠ L) (hk : KeepsFrom C A B) : Book dz L r B :=
 ⟨hk.same _ _ hL h.at_ rfl,fun d e => hk.same _ _ (hd d e).1 (h.dz_ d e) rfl⟩
theorem Book.put {dz : Option Nat} {L C : Nat} {r : Loop} {A : World} (h : Book dz L r A) (hd : ∀ d,dz = some d → C ≤ d ∧ d ≠ L) (r' : Loop) : Book dz L r' (A.putObj L (.loop r')) :=
 ⟨World.putObj_heap_same (Array.getElem?_eq_some_iff.1 h.at_).1,fun d e => (World.putObj_heap_other (hd d e).2).trans (h.dz_ d e)⟩
/-- The rounds,whichever way the loop was entered. -/
theorem rounds {α : Type} {fid : FuncId} {ps : Array Tmp} {assign body : Code} {tm : Array Value} {C n₀ L D gf : Nat} {Pr : Nat → Prop} {lb : Array Value} {W1 w0 : World} {dz : Option Nat}
  {encs : α → Array Value} {S Sp : List α → Prop} {N : Nat} (hfid : F.fn fid) (hseq : SeqB F (n - 1) P gf lb encs n₀ Pr S Sp N w0) (hb1 : Below w0.heap.size w0 W1) (hps : ∀ x,(encs x).size = ps.size)
  (rec : LoopState → Option Code → Loop) (hrec : rec = fun st pe => { state := st,pending := pe,fn := fid,tmps := tm,params := ps,assign,body,defers := D })
  (hnC : n₀ ≤ C) (hCL : C ≤ L) (hCW : C ≤ W1.heap.size) (hdz : ∀ d,dz = some d → C ≤ d ∧ d ≠ L) (hbk : Book dz L (rec .ready none) W1)
  (I : Nat → List α → World → Prop) (Ix : Code → List α → World → Prop) (hI : ∀ B,OwnFrom C (I B)) (hm : ∀ B B' pre W,B ≤ B' → I B pre W → I B' pre W) (hIx : ∀ c,OwnFrom C (Ix c)) (h0 : I W1.heap.size [] W1)
  (Ax : α → Act → World → Prop) (hAx : ∀ x a',OwnFrom C (fun (_ : Unit) W => Ax x a' W))
  (hassign : ∀ (B : Nat) (pre : List α) (x : α) (W : World) (K : Act → World → Prop),C ≤ W.heap.size → B ≤ W.heap.size → I B pre W → (∀ a' W',KeepsFrom C W W' → KeepB n₀ Pr B W W' → I B pre W' → Ax x a' W' → K a' W') →
   assign.wpIn (F.inRound L) (n - 1 - 1) P (Exit.then K (fun _ _ _ => False)) { tmps := (ps.zip (encs x)).foldl (fun t (p,v) => t.setIfInBounds p v) tm,defers := [] } W)
  (hbody : ∀ (B : Nat) (pre : List α) (x : α) (a' : Act) (W : World),C ≤ W.heap.size → (∃ r,W.heap[L]? = some (.loop r)) → B ≤ W.heap.size → I B pre W → Ax x a' W → pre.length < N → body.wpIn (F.inRound L) (n - 1 - 1) P (PostB C n₀ Pr B I Ix (pre ++ [x]) W) a' W) :
  CallsIn F (n - 1) P gf (#[.func (.yield L) #[] #[]] ++ lb) W1 fun e W' => (∃ v,e = .returned v) ∧
   ((∃ xs,S xs ∧ C ≤ W'.heap.size ∧ I W'.heap.size xs W' ∧ Book dz L (rec .ready none) W') ∨ (∃ pre c,Sp pre ∧ C ≤ W'.heap.size ∧ Ix c pre W' ∧ Book dz L (rec .done (some c)) W')) := by
 have hC0 : ∀ {A B : World} {row : Option Nat},(∀ r,row = some r → W1.heap.size ≤ r ∧ ∃ o : Obj,A.heap[r]? = some o ∧ o.isWalk = true) → (∀ r,row = some r → C ≤ r ∧ ∃ o : Obj,A.heap[r]? = some o ∧ o.isCells = false) :=
  fun hr r e => by obtain ⟨hB,o,ho,hw⟩ := hr r e;exact ⟨Nat.le_trans hCW hB,o,ho,Obj.not_cells_of_walk hw⟩
 refine (hseq L (fun pre W => I W.heap.size pre W ∧ Book dz L (rec .ready none) W ∧ C ≤ W.heap.size) (fun pre W => ∃ c,Ix c pre W ∧ Book dz L (rec .done (some c)) W ∧ C ≤ W.heap.size) W1 hb1 ?_ ?_ ?_ ⟨h0,hbk,hCW⟩).mono ?_
 ·rintro s A B row ⟨h1,h2,h3⟩ hg hr
  exact ⟨hm _ _ _ _ hg.size (hI _ s A B row h1 hg (hC0 (B := B) hr)),h2.walks hg (fun r e => (hr r e).2),Nat.le_trans h3 hg.size⟩
 ·rintro s A B row ⟨c,h1,h2,h3⟩ hg hr
  exact ⟨c,hIx c s A B row h1 hg (hC0 (B := B) hr),h2.walks hg (fun r e => (hr r e).2),Nat.le_trans h3 hg.size⟩
 ·rintro pre x W0 W ⟨hi0,hb0,hC⟩ hbel hlen
  have hg : W0.grownBy W none := ⟨hbel.os,hbel.tape,hbel.output,hbel.size,fun i hi _ => hbel.block i hi⟩
  have hi : I W0.heap.size pre W := hI _ pre W0 W none hi0 hg (fun r e => by cases e)
  have hb : Book dz L (rec .ready none) W := hb0.walks hg (fun r e => by cases e)
  have hCW' : C ≤ W.heap.size := Nat.le_trans hC hbel.size
  have hy := run_yield (P := P) (args := encs x) hb.at_ (by rw [hrec];exact hps x)
  rw [hrec] at hy
  refine ⟨fid,_,assign,body,hy,roundIn_of_wpIn hfid (hassign W0.heap.size pre x W _ hCW' hbel.size hi ?_)⟩
  intro a' Wa hkf hkb hia hax
  have hba := hb.from_ hCL hdz hkf
  have hCa : C ≤ Wa.heap.size := Nat.le_trans hCW' hkf.size
  refine ⟨_,run_beginRound hba.at_ (by rw [hrec]),?_⟩
  have hba2 := hba.put (C := C) hdz { rec .ready none with state := .busy }
  have hkb2 : KeepB n₀ Pr W0.heap.size Wa (Wa.putObj L (.loop { rec .ready none with state := .busy })) := KeepB.putObj _ (Nat.le_trans hnC hCa) (Nat.le_trans hnC hCL) hba.at_ rfl
  have hsz2 : (Wa.putObj L (.loop { rec .ready none with state := .busy })).heap.size = Wa.heap.size := by simp
  refine wpIn_mono (hbody W0.heap.size pre x a' _ (by rw [hsz2];exact hCa) ⟨_,hba2.at_⟩ (by rw [hsz2];exact Nat.le_trans hbel.size hkf.size) ((hI _).putObj _ hia hCL hba.at_ rfl) ((hAx x a').putObj (s := ()) _ hax hCL hba.at_ rfl) hlen) ?_
  have fin : ∀ (jump : Option Code) (W3 : World),KeepsFrom C (Wa.putObj L (.loop { rec .ready none with state := .busy })) W3 →
    (Instr.endRound L jump).run P W3 = .ok (.bool jump.isNone) (W3.putObj L (.loop (rec (if jump.isNone then .ready else .done) jump))) ∧
    W3.heap[L]? = some (.loop { rec .ready none with state := .busy }) ∧ Book dz L (rec (if jump.isNone then .ready else .done) jump) (W3.putObj L (.loop (rec (if jump.isNone then .ready else .done) jump))) ∧
    C ≤ (W3.putObj L (.loop (rec (if jump.isNone then .ready else .done) jump))).heap.size := fun jump W3 hk3 => by
   have hb3 := hba2.from_ hCL hdz hk3
   have he := run_endRound (P := P) jump hb3.at_
   refine ⟨?_,hb3.at_,hb3.put (C := C) hdz _,by have := hk3.size;rw [hsz2] at this;simp;omega⟩
   rw [hrec] at he ⊢
   exact he
  rintro e a3 W3 hp
  cases e with
  | normal =>
   obtain ⟨hk3,hkp3,hi3⟩ := hp
   obtain ⟨hr,hl3,hb4,hC4⟩ := fin none W3 hk3
   have hsz3 : n₀ ≤ W3.heap.size := Nat.le_trans hnC (by simpa using hC4)
   refine ⟨_,_,hr,.inl ⟨rfl,⟨?_,hb4,hC4⟩,((hkb.trans hkb2).trans hkp3).trans (KeepB.putObj _ hsz3 (Nat.le_trans hnC hCL) hl3 rfl)⟩⟩
   have hx := (hI _).putObj (.loop (rec .ready none)) hi3 hCL hl3 rfl
   simpa using hx
  | ret =>
   obtain ⟨hk3,hi3⟩ := hp
   obtain ⟨hr,hl3,hb4,hC4⟩ := fin (some .ret) W3 hk3
   exact ⟨_,_,hr,.inr ⟨rfl,.ret,(hIx _).putObj _ hi3 hCL hl3 rfl,hb4,hC4⟩⟩
  | exit id =>
   obtain ⟨hk3,hi3⟩ := hp
   obtain ⟨hr,hl3,hb4,hC4⟩ := fin (some (.exit id)) W3 hk3
   exact ⟨_,_,hr,.inr ⟨rfl,.exit id,(hIx _).putObj _ hi3 hCL hl3 rfl,hb4,hC4⟩⟩
  | goto t =>
   obtain ⟨hk3,hi3⟩ := hp
   obtain ⟨hr,hl3,hb4,hC4⟩ := fin (some (.goto t)) W3 hk3
   exact ⟨_,_,hr,.inr ⟨rfl,.goto t,(hIx _).putObj _ hi3 hCL hl3 rfl,hb4,hC4⟩⟩
  | panic ch => exact hp.elim
  | outgrown => exact hp.elim
 ·rintro e W2 ⟨⟨v,rfl⟩,(⟨xs,hS,hi,hb,hC⟩ | ⟨pre,hSp,c,hi,hb,hC⟩)⟩
  ·exact ⟨⟨v,rfl⟩,.inl ⟨xs,hS,hC,hi,hb⟩⟩
  ·exact ⟨⟨v,rfl⟩,.inr ⟨pre,c,hSp,hC,hi,hb⟩⟩
/-- A loop that stands in no round. -/
theorem range_outer {α : Type} {g : Operand} {ps : Array Tmp} {assign body : Code} {Q : Exit → Act → World → Prop} {a : Act} {w : World} {n₀ : Nat} {Pr : Nat → Prop}
  (hro : F.round = none) (h1 : 1 ≤ n) {gf : Nat} {lb : Array Value} (hg : a.eval g = .func (.func gf) #[] lb) (hFg : F.fn gf) (eg : ∀ args w,(callFunc gf args).run P w = .ok (.enter gf args) w)
  {encs : α → Array Value} {S Sp : List α → Prop} {N : Nat} {w0 : World} (hseq : SeqB F (n - 1) P gf lb encs n₀ Pr S Sp N w0) (hb0 : Below w0.heap.size w0 w) (hps : ∀ x,(encs x).size = ps.size) (hn₀ : n₀ ≤ w.heap.size)
  (I : Nat → List α → World → Prop) (Ix : Code → List α → World → Prop) (hI : ∀ B,OwnFrom w.heap.size (I B)) (hm : ∀ B B' pre W,B ≤ B' → I B pre W → I B' pre W) (hIx : ∀ c,OwnFrom w.heap.size (Ix c)) (h0 : I w.heap.size [] w)
  (Ax : α → Act → World → Prop) (hAx : ∀ x a',OwnFrom w.heap.size (fun (_ : Unit) W => Ax x a' W))
  (hassign : ∀ (l B : Nat) (pre : List α) (x : α) (W : World) (K : Act → World → Prop),w.heap.size ≤ W.heap.size → B ≤ W.heap.size → I B pre W → (∀ a' W',KeepsFrom w.heap.size W W' → KeepB n₀ Pr B W W' → I B pre W' → Ax x a' W' → K a' W') →
   assign.wpIn (F.inRound l) (n - 1 - 1) P (Exit.then K (fun _ _ _ => False)) { tmps := (ps.zip (encs x)).foldl (fun t (p,v) => t.setIfInBounds p v) a.tmps,defers := [] } W)
  (hbody : ∀ (l B : Nat) (pre : List α) (x : α) (a' : Act) (W : World),w.heap.size ≤ l → w.heap.size ≤ W.heap.size → (∃ r,W.heap[l]? = some (.loop r)) → B ≤ W.heap.size → I B pre W → Ax x a' W → pre.length < N → body.wpIn (F.inRound l) (n - 1 - 1) P (PostB w.heap.size n₀ Pr B I Ix (pre ++ [x]) W) a' W)
  (hdone : ∀ (D : Nat) (xs : List α) (W : World),w.heap.size ≤ D → S xs → I W.heap.size xs W → W.heap[D]? = some (.deferred (some [])) → Q .normal { a with defers := { target := .collected D,args := #[] } :: a.defers } W)
  (hstop : ∀ (D : Nat) (c : Code) (pre : List α) (W : World),w.heap.size ≤ D → Sp pre → Ix c pre W → W.heap[D]? = some (.deferred (some [])) → c.wpIn F n P Q { a with defers := { target := .collected D,args := #[] } :: a.defers } W) :
  (Code.rangeFunc g ps assign body).wpIn F n P Q a w := by
 refine wpIn_rangeFunc ?_
 intro fid hfid
 rw [hro]
 obtain ⟨rec,hrec⟩ : ∃ rec : LoopState → Option Code → Loop,rec = fun st pe => { state := st,pending := pe,fn := fid,tmps := a.tmps,params := ps,assign,body,defers := w.heap.size } := ⟨_,rfl⟩
 obtain ⟨W1,hW1⟩ : ∃ W1,(w.alloc (.deferred (some []))).alloc (.loop (rec .ready none)) = W1 := ⟨_,rfl⟩
 have hbk : Book (some w.heap.size) (w.heap.size + 1) (rec .ready none) W1 := by
  rw [← hW1]
  refine ⟨?_,fun d e => ?_⟩
  ·have := World.alloc_heap_new (w.alloc (.deferred (some []))) (.loop (rec .ready none));rwa [World.size_alloc] at this
  ·cases e;exact (Below.heap_alloc _ _ _ (by simp)).trans (World.alloc_heap_new w _)
 have hsz : W1.heap.size = w.heap.size + 2 := by rw [← hW1];simp
 have hI1 : I W1.heap.size [] W1 := hm w.heap.size W1.heap.size [] W1 (by omega) (by rw [← hW1];exact (hI w.heap.size).alloc _ ((hI w.heap.size).alloc _ h0))
 have hb1 : Below w0.heap.size w0 W1 := by
  rw [← hW1];exact hb0.trans ((((Below.refl _ w).alloc (Nat.le_refl _) _).alloc (by simp) _).mono hb0.size)
 refine ⟨w.heap.size + 1,[{ target := .collected w.heap.size,args := #[] }],W1,{ target := .fn (.func gf) lb,args := #[.func (.yield (w.heap.size + 1)) #[] #[]] },W1,gf,
  #[.func (.yield (w.heap.size + 1)) #[] #[]] ++ lb,W1,?_,?_,?_,?_,fun _ => h1,?_⟩
 ·rw [← hW1,hrec];exact run_enterLoop_outer _ _ _ _ _
 ·simp only [resolve,hg]
  simp [go_sem]
 ·intro f' hf';simp [Target.leads] at hf';subst hf';exact hFg
 ·simp [invoke,go_sem,eg]
 ·refine (rounds (C := w.heap.size) (dz := some w.heap.size) hfid hseq hb1 hps rec hrec hn₀ (by omega) (by omega) (fun d e => by cases e;exact ⟨Nat.le_refl _,by omega⟩) hbk I Ix hI hm hIx hI1 Ax hAx
   (fun B => hassign _ B) (fun B pre x a' W => hbody _ B pre x a' W (by omega))).mono ?_
  rintro e W2 ⟨⟨v,rfl⟩,(⟨xs,hS,hC,hi,hb⟩ | ⟨pre,c,hSp,hC,hi,hb⟩)⟩
  ·refine ⟨none,_,by have := run_endLoop (P := P) hb.at_ (by rw [hrec];simp);rw [hrec] at this;exact this,hdone w.heap.size xs _ (Nat.le_refl _) hS ?_ ((World.putObj_heap_other (by omega)).trans (hb.dz_ _ rfl))⟩
   have hx := (hI _).putObj (.loop { rec .ready none with state := .exhausted }) hi (by omega : w.heap.size ≤ w.heap.size + 1) hb.at_ rfl
   rw [hrec] at hx
   simpa using hx
  ·exact ⟨some c,_,by have := run_endLoop (P := P) hb.at_ (by rw [hrec];simp);rw [hrec] at this;exact this,hstop w.heap.size c pre _ (Nat.le_refl _) hSp ((hIx c).putObj _ hi (by omega) hb.at_ rfl) ((World.putObj_heap_other (by omega)).trans (hb.dz_ _ rfl))⟩
end Go.Proofs.YtgdpnmikcopkmaaDoor.Rf
end
