/- What the law WordJoins reaches of this seat's own texts, merged; what nothing uses is left out. -/
import Derived.Test.YtkficbgnjpekaaaDoorProg
import Derived.Below
import Derived.Deep.Draws
import Derived.Deep.AppendLies
import Derived.Maps.AppendAt
import Derived.OwnWalk
import Derived.Laws.BytesArg
import Derived.Laws.MakeOwn
import Derived.Laws.OwnMore
import Derived.Deep.OwnRows
import Derived.Tactics
import Derived.Lib.ConvBytes
import Derived.Laws.Slices
import Derived.WalkKit
import Derived.KernelRfl
import Derived.RowKit3
import Derived.Deep.LoopGhost
import Derived.Deep.QuietTactic
import Derived.BigQuiet
import Derived.WideLaws
import Derived.Deep.DeepCutAuto
import Derived.Deep.CutBlock
import Derived.Deep.RegionHeld3
import Derived.Laws.Rows
import Derived.Lib.AppendStr
import Derived.ArgAppend
import Derived.Laws.IdiomCopy
import Derived.OrdersHeld
import Derived.Laws.BitsLemmas
import Derived.RowKit
import Derived.Shelf.Small.Utf8
import Derived.Shelf.Utf8.AppendRunePlain
import Derived.Shelf.Strings.Prefix
import Derived.Shelf.Unicode.Decode
import Derived.Shelf.Unicode.DecodeSlow
import Derived.Shelf.Unicode.DecodeAny
import Derived.Lib.LaidU8
import Derived.RangeFuncNested
import Derived.RangeFuncBound
import Derived.RangeFuncCalls
import Derived.RangeFuncLeaves
import Derived.Lib.DecodeN
import Derived.Lib.MapLaws
import Derived.Laws.DeepStrings4
import Derived.Shelf.Unicode.DecodeLastEight
import Derived.Shelf.Abstract
import Derived.Shelf.RegionOpen
import Derived.OwnWalkIn
import Derived.TacticsInMore
import Derived.LoopNIn
import Derived.LoopIn
import Derived.Lib.Hide
import Derived.Great.BuildSlice
import Derived.Great.Walk
import Derived.Deep.WholeRow
import Derived.Sort.BigQuietIn
import Derived.Sort.CutIn
import Derived.Lib.Bytes
import Derived.Maps.Own
import Derived.Maps.OwnOps
import Derived.Maps.Views
import Derived.Test.YtkficbgnjpekaaaDoorRows
import Derived.ProofKit
import Derived.Deep.DeepHandedRow
import Derived.LaidMore
import Derived.Lay
import Derived.Test.YtkficbgnjpekaaaDoorWWords
import Derived.Test.YtkficbgnjpekaaaDoorWLast
import Derived.Test.YtkficbgnjpekaaaDoorWTab
import Derived.Test.YtkficbgnjpekaaaDoorWQPut
import Derived.Test.YtkficbgnjpekaaaDoorWApart
import Derived.Test.YtkficbgnjpekaaaDoorWArr
import Derived.Test.YtkficbgnjpekaaaDoorWZeros
import Derived.Test.YtkficbgnjpekaaaDoorWFoot
import Derived.Test.YtkficbgnjpekaaaDoorWKept
import Derived.Test.YtkficbgnjpekaaaDoorWShare
import Derived.Test.YtkficbgnjpekaaaDoorWN
import Derived.Test.YtkficbgnjpekaaaDoorWEqStruct
import Derived.Test.YtkficbgnjpekaaaDoorWRepsOne
import Derived.Test.YtkficbgnjpekaaaDoorWInv
import Derived.Test.YtkficbgnjpekaaaDoorWGuard
import Derived.Test.YtkficbgnjpekaaaDoorWNEv
import Derived.Test.YtkficbgnjpekaaaDoorWMore
section
namespace Go.Proofs.YtkficbgnjpekaaaDoor
theorem au25 {p : Prop} (h : p := by (with_reducible repeat (first | refine blk_drewN ?_ _ | refine blk_drew ?_ | refine blk_alloc ?_ _));refine blk_put (cs := #[.int .i32 t112,.int .i64 0]) ?_ 1 _ rfl;(with_reducible repeat (first | refine blk_drewN ?_ _ | refine blk_drew ?_ | refine blk_alloc ?_ _));refine blk_put (cs := #[.int .i32 0,.int .i64 0]) ?_ 0 _ rfl;(with_reducible repeat (first | refine blk_drewN ?_ _ | refine blk_drew ?_ | refine blk_alloc ?_ _));exact BK111.out) : p := h
theorem au24 {p : Prop} (h : p := by (with_reducible repeat (first | apply Kd.R_alloc | apply Kd.R_drewN | apply Kd.R_drew));exact HO598.out) : p := h
theorem au23 {p : Prop} (h : p := by (with_reducible repeat (first | refine blk_drewN ?_ _ | refine blk_drew ?_ | refine blk_alloc ?_ _));exact BK628.out) : p := h
theorem au22 {p : Prop} (h : p := by repeat (first | (with_reducible first | exact HB.out | apply below_alloc | apply pw_below_drewN | apply below_drew1 | refine below_set ?_ GE621.out) | exact HB.out)) : p := h
theorem au21 {p : Prop} (h : p := by repeat (first | (with_reducible first | exact HB.out | apply below_alloc | apply pw_below_drewN | apply below_drew1 | refine below_set ?_ GE149.out) | exact HB.out)) : p := h
theorem au20 {p : Prop} (h : p := by repeat (first | (with_reducible first | exact HB.out | apply below_alloc | apply pw_below_drewN | apply below_drew1 | refine below_set ?_ GE121.out) | exact HB.out)) : p := h
theorem au19 {p : Prop} (h : p := by repeat (first | (with_reducible first | exact HB.out | apply below_alloc | apply pw_below_drewN | apply below_drew1 | refine below_set ?_ GE111.out) | exact HB.out)) : p := h
theorem au18 {p : Prop} (h : p := by (with_reducible repeat (first | apply Kd.R_alloc | apply Kd.R_drewN | apply Kd.R_drew));exact HO136.out) : p := h
theorem au17 {p : Prop} (h : p := by (with_reducible repeat (first | refine blk_drewN ?_ _ | refine blk_drew ?_ | refine blk_alloc ?_ _));refine blk_put (cs := #[.int .i32 0,.int .i64 0]) ?_ 1 _ rfl;(with_reducible repeat (first | refine blk_drewN ?_ _ | refine blk_drew ?_ | refine blk_alloc ?_ _));refine blk_put (cs := #[.int .i32 0,.int .i64 0]) ?_ 0 _ rfl;(with_reducible repeat (first | refine blk_drewN ?_ _ | refine blk_drew ?_ | refine blk_alloc ?_ _));exact BK121.out) : p := h
theorem au16 {p : Prop} (h : p := by (with_reducible repeat (first | apply Kd.R_alloc | apply Kd.R_drewN | apply Kd.R_drew));exact HO_0.out) : p := h
theorem au15 {p : Prop} (h : p := by (with_reducible repeat (first | apply Kd.R_alloc | apply Kd.R_drewN | apply Kd.R_drew));exact HO595.out) : p := h
theorem au14 {p : Prop} (h : p := by repeat (first | (with_reducible first | exact HB.out | apply below_alloc | apply pw_below_drewN | apply below_drew1 | refine below_set ?_ GE621.out | refine below_set ?_ GE625.out | refine below_set ?_ GE628.out) | exact HB.out)) : p := h
theorem au13 {p : Prop} (h : p := by first | (with_reducible assumption) | assumption) : p := h
theorem au12 {p : Prop} (h : p := by repeat (first | (with_reducible first | exact HK.out | apply Kept.alloc | apply Kept.drewN | apply Kept.drew) | exact HK.out)) : p := h
theorem au11 {p : Prop} (h : p := by (with_reducible repeat (first | refine blk_drewN ?_ _ | refine blk_drew ?_ | refine blk_alloc ?_ _));exact BK625.out) : p := h
theorem au10 {p : Prop} (h : p := by repeat (first | (with_reducible first | exact HB.out | apply below_alloc | apply pw_below_drewN | apply below_drew1 | refine below_set ?_ GE621.out | refine below_set ?_ GE625.out) | exact HB.out)) : p := h
theorem au9 {p : Prop} (h : p := by first | exact HK.out.1 | exact (show Kept w _ (fun k_ => P0_ k_) from by repeat (first | (with_reducible first | exact HK.out | apply Kept.alloc | apply Kept.drewN | apply Kept.drew) | exact HK.out)).1) : p := h
theorem au8 {p : Prop} (h : p := by (with_reducible repeat (first | refine blk_drewN ?_ _ | refine blk_drew ?_ | refine blk_alloc ?_ _));exact BK621.out) : p := h
theorem au7 {p : Prop} (h : p := by (with_reducible repeat (first | apply Kd.R_alloc | apply Kd.R_drewN | apply Kd.R_drew));exact HO_8.out) : p := h
theorem au6 {p : Prop} (h : p := by (with_reducible repeat (first | apply Kd.R_alloc | apply Kd.R_drewN | apply Kd.R_drew));exact HO_7.out) : p := h
theorem au5 {p : Prop} (h : p := by (with_reducible repeat (first | apply Kd.R_alloc | apply Kd.R_drewN | apply Kd.R_drew));exact HO_6.out) : p := h
theorem au4 {p : Prop} (h : p := by first | rfl | (simp;done) | (simp [*];done)) : p := h
theorem au3 {p : Prop} (h : p := by first | rfl | (simp [errW_none,errW_some] <;> rfl) | (simp [*,errW_none,errW_some] <;> rfl)) : p := h
theorem au2 {p : Prop} (h : p := by repeat (first | (with_reducible exact HR608.out) | (with_reducible refine Kd.C_alloc ?_ _) | (with_reducible refine Kd.C_drewN ?_ _) | (with_reducible refine Kd.C_drew ?_) | exact HR608.out)) : p := h
theorem au1 {p : Prop} (h : p := by (try simp only [List.map_toArray,List.map_cons,List.map_nil]);first | done | rfl | (simp only [List.length_drop,List.length_take];rfl)) : p := h
theorem au0 {p : Prop} (h : p := by repeat (first | (with_reducible first | exact HB.out | apply below_alloc | apply pw_below_drewN | apply below_drew1) | exact HB.out)) : p := h
end Go.Proofs.YtkficbgnjpekaaaDoor
end
section
namespace Go.Proofs.YtkficbgnjpekaaaDoor.U
open Go.RowKit Go.Proofs.YtkficbgnjpekaaaDoorW.PrintWords Go.Proofs.YtkficbgnjpekaaaDoorW.PrintLast Go.Proofs.YtkficbgnjpekaaaDoorW.PrintMore
attribute [local go_sem] max2_int min2_int max_two min_two max_three min_three max_four min_four   -- for this text's walks alone
set_option linter.unusedVariables false
set_option linter.unusedSimpArgs false
def errW : Option Int → Value
 | none => .nilIface
 | some c => .iface 0 (.int .i64 c)
theorem errW_none : errW none = .nilIface := rfl
theorem errW_some (c : Int) : errW (some c) = .iface 0 (.int .i64 c) := rfl
theorem info5 : (Tryd.prog.info? 5).map (fun i => (i.zero,i.size,i.bytes)) = some (some (.int .u8 0),1,1) := by kernel_rfl
theorem info32 : (Tryd.prog.info? 32).map (fun i => (i.zero,i.size,i.bytes)) = some (some (.agg #[(.int .i64 0),(.int .i64 0)]),2,16) := by kernel_rfl
theorem info42 : (Tryd.prog.info? 42).map (fun i => (i.zero,i.size,i.bytes)) = some (some (.agg #[(.int .i32 0),(.int .i64 0)]),2,16) := by kernel_rfl
structure S32 where
 f0 : Int
 f1 : Int
def z32 : S32 := ⟨(0 : Int),(0 : Int)⟩
def k32 : Kd S32 := Kd.iso (Kd.pair (Kd.int .i64) (Kd.int .i64)) (fun x : S32 => (x.f0,x.f1))
theorem k32_open {w : World} {x : S32} {cs : List Value} (h : k32.K w x cs) : cs = [.int .i64 x.f0,.int .i64 x.f1] := by
 obtain ⟨_,_,rfl,rfl,rfl⟩ := h
 exact rfl
theorem k32_mkM (w : World) (base : Nat) (ok : Nat → Prop) (x : S32)  : k32.M w base ok x [.int .i64 x.f0,.int .i64 x.f1] := ⟨[.int .i64 x.f0],[.int .i64 x.f1],rfl,rfl,rfl⟩
def rd_T32 (xs : List S32) (i : Int) : S32 := xs.getD i.toNat z32
theorem at_T32 {w : World} {A : Option Addr} {n : Nat} {xs : List S32} (h : Kd.C k32 w A n xs) (i : Int) (h0 : 0 ≤ i) (h1 : i < n) : ∃ ad ,A = some ad ∧ w.cell? (ad.add (i.toNat * 2)) = some (.int .i64 (rd_T32 xs i).f0) ∧ w.cell? ⟨(ad.add (i.toNat * 2)).block,(ad.add (i.toNat * 2)).off + 1,none⟩ = some (.int .i64 (rd_T32 xs i).f1) := by
 obtain ⟨ad,c,e,_,hK,hc0⟩ := Kd.C_get h z32 i h0 h1
 have hc : ∀ j u,c[j]? = some u → w.cell? (ad.add (i.toNat * 2 + j)) = some u := hc0
 obtain rfl := k32_open hK
 exact ⟨ad,e,hc 0 _ rfl,by rw [← add_field _ _ 1 (by omega)];exact hc 1 _ rfl⟩
structure S55 where
 f0 : Int
 f1 : Int
structure S42 where
 f0 : Int
 f1 : Int
def z42 : S42 := ⟨(0 : Int),(0 : Int)⟩
def k42 : Kd S42 := Kd.iso (Kd.pair (Kd.int .i32) (Kd.int .i64)) (fun x : S42 => (x.f0,x.f1))
theorem k42_open {w : World} {x : S42} {cs : List Value} (h : k42.K w x cs) : cs = [.int .i32 x.f0,.int .i64 x.f1] := by
 obtain ⟨_,_,rfl,rfl,rfl⟩ := h
 exact rfl
theorem k42_mkM (w : World) (base : Nat) (ok : Nat → Prop) (x : S42)  : k42.M w base ok x [.int .i32 x.f0,.int .i64 x.f1] := ⟨[.int .i32 x.f0],[.int .i64 x.f1],rfl,rfl,rfl⟩
def rd_T42 (xs : List S42) (i : Int) : S42 := xs.getD i.toNat z42
theorem at_T42 {w : World} {A : Option Addr} {n : Nat} {xs : List S42} (h : Kd.C k42 w A n xs) (i : Int) (h0 : 0 ≤ i) (h1 : i < n) : ∃ ad ,A = some ad ∧ w.cell? (ad.add (i.toNat * 2)) = some (.int .i32 (rd_T42 xs i).f0) ∧ w.cell? ⟨(ad.add (i.toNat * 2)).block,(ad.add (i.toNat * 2)).off + 1,none⟩ = some (.int .i64 (rd_T42 xs i).f1) := by
 obtain ⟨ad,c,e,_,hK,hc0⟩ := Kd.C_get h z42 i h0 h1
 have hc : ∀ j u,c[j]? = some u → w.cell? (ad.add (i.toNat * 2 + j)) = some u := hc0
 obtain rfl := k42_open hK
 exact ⟨ad,e,hc 0 _ rfl,by rw [← add_field _ _ 1 (by omega)];exact hc 1 _ rfl⟩
structure S61 where
 f0 : Int
 f1 : Int
 f2 : Int
 f3 : Int
end Go.Proofs.YtkficbgnjpekaaaDoor.U
end
section
namespace Go.Proofs.YtkficbgnjpekaaaDoor.U
open Go.RowKit Go.Proofs.YtkficbgnjpekaaaDoorW.PrintWords Go.Proofs.YtkficbgnjpekaaaDoorW.PrintLast Go.Proofs.YtkficbgnjpekaaaDoorW.PrintMore
attribute [local go_sem] max2_int min2_int max_two min_two max_three min_three max_four min_four   -- for this text's walks alone
set_option linter.unusedVariables false
set_option linter.unusedSimpArgs false
theorem eqA32 (d : Nat) (w : World) (x0 y0 : Int) (x1 y1 : Int) :
  (Op.equalIn (d + 2) 32 (.agg #[.int .i64 x0,.int .i64 x1]) (.agg #[.int .i64 y0,.int .i64 y1])).run Tryd.prog w = .ok (x0 == y0 && (x1 == y1)) w := by
 refine eqA_of Tryd.underlying32 (by kernel_rfl) ?_
 refine eqf_cons (by rfl) (by go_simp;rfl) (by go_simp;rfl) (by go_simp) ?_
 exact eqf_last (by rfl) (by go_simp;rfl) (by go_simp;rfl) (by go_simp)
end Go.Proofs.YtkficbgnjpekaaaDoor.U
end
section
namespace Go.Proofs.YtkficbgnjpekaaaDoor.U
open Go.RowKit Go.Proofs.YtkficbgnjpekaaaDoorW.PrintWords Go.Proofs.YtkficbgnjpekaaaDoorW.PrintLast Go.Proofs.YtkficbgnjpekaaaDoorW.PrintMore
attribute [local go_sem] max2_int min2_int max_two min_two max_three min_three max_four min_four   -- for this text's walks alone
set_option linter.unusedVariables false
set_option linter.unusedSimpArgs false
def width_marks.f  : Option (List Int) := some (([768,879,1155,1161,1425,1469,1471,1471,1473,1474,1552,1562,1611,1631,1648,1648,1750,1756,2304,2306,2364,2364,2381,2381,3633,3633,3636,3642,3655,3662,4957,4959,6832,6911,7616,7679,8204,8205,8400,8447,12330,12335,12441,12442,65024,65039,65056,65071,127995,127999,917760,917999] : List Int))
set_option maxHeartbeats 8000000 in
set_option maxRecDepth 100000 in
theorem width_marks.calls  (r : List Int) (w : World) (h : width_marks.f  = some r) :
  Calls Tryd.prog 62 #[] w fun e w' => ∃ v0_ : Value,e = .returned (v0_) ∧ Kd.R (Kd.int .i32) 21 w' w.heap.size (fun _ => True) v0_ r ∧ Below w.heap.size w w' := by
 have HB := Aside0.mk (Below.refl w.heap.size w)
 have H : (some (([768,879,1155,1161,1425,1469,1471,1471,1473,1474,1552,1562,1611,1631,1648,1648,1750,1756,2304,2306,2364,2364,2381,2381,3633,3633,3636,3642,3655,3662,4957,4959,6832,6911,7616,7679,8204,8205,8400,8447,12330,12335,12441,12442,65024,65039,65056,65071,127995,127999,917760,917999] : List Int))) = some r := h
 clear h
 obtain ⟨y128,hy128⟩ : ∃ y_ : List Int,y_ = (([768,879,1155,1161,1425,1469,1471,1471,1473,1474,1552,1562,1611,1631,1648,1648,1750,1756,2304,2306,2364,2364,2381,2381,3633,3633,3636,3642,3655,3662,4957,4959,6832,6911,7616,7679,8204,8205,8400,8447,12330,12335,12441,12442,65024,65039,65056,65071,127995,127999,917760,917999] : List Int)) := ⟨_,rfl⟩
 replace H : (some y128) = some r := by first | (rw [hy128];with_reducible exact H) | (have H2_ := (Option.bind_some _ _).symm.trans H;rw [hy128];with_reducible exact H2_) | (have H2_ := (Option.bind_some _ _).symm.trans H;with_reducible exact H2_) | with_reducible exact H | (rw [hy128];exact H) | exact H
 have Ny128 := Aside0.mk hy128
 clear hy128
 obtain rfl := Option.some.inj H
 go_enter Tryd.func62,Tryd.ntmps62
 go_wp2_with (first | ((with_reducible refine gate_dst (N := 1) rfl ?_);refine Kd.R_lit (Kd.int .i32) _ 21 ?hg (N := 1) ?hd (xs := ([768,879,1155,1161,1425,1469,1471,1471,1473,1474,1552,1562,1611,1631,1648,1648,1750,1756,2304,2306,2364,2364,2381,2381,3633,3633,3636,3642,3655,3662,4957,4959,6832,6911,7616,7679,8204,8205,8400,8447,12330,12335,12441,12442,65024,65039,65056,65071,127995,127999,917760,917999] : List Int)) (inner := [.int .i32 768,.int .i32 879,.int .i32 1155,.int .i32 1161,.int .i32 1425,.int .i32 1469,.int .i32 1471,.int .i32 1471,.int .i32 1473,.int .i32 1474,.int .i32 1552,.int .i32 1562,.int .i32 1611,.int .i32 1631,.int .i32 1648,.int .i32 1648,.int .i32 1750,.int .i32 1756,.int .i32 2304,.int .i32 2306,.int .i32 2364,.int .i32 2364,.int .i32 2381,.int .i32 2381,.int .i32 3633,.int .i32 3633,.int .i32 3636,.int .i32 3642,.int .i32 3655,.int .i32 3662,.int .i32 4957,.int .i32 4959,.int .i32 6832,.int .i32 6911,.int .i32 7616,.int .i32 7679,.int .i32 8204,.int .i32 8205,.int .i32 8400,.int .i32 8447,.int .i32 12330,.int .i32 12335,.int .i32 12441,.int .i32 12442,.int .i32 65024,.int .i32 65039,.int .i32 65056,.int .i32 65071,.int .i32 127995,.int .i32 127999,.int .i32 917760,.int .i32 917999]) (ok := fun _ => True) (okp := fun _ => True) ?hr ?hp (fun _ hk => hk) trivial (Below.refl _ _) (Nat.le_refl _) (by simp) ?_;(case hd => rfl);(case hg => rfl);(case hr => first | (go_simp;done) | (go_simp;rfl));(case hp => exact (Reps.one (show Kd.M (Kd.int .i32) _ _ _ 768 [.int .i32 768] from rfl) (Reps.one (show Kd.M (Kd.int .i32) _ _ _ 879 [.int .i32 879] from rfl) (Reps.one (show Kd.M (Kd.int .i32) _ _ _ 1155 [.int .i32 1155] from rfl) (Reps.one (show Kd.M (Kd.int .i32) _ _ _ 1161 [.int .i32 1161] from rfl) (Reps.one (show Kd.M (Kd.int .i32) _ _ _ 1425 [.int .i32 1425] from rfl) (Reps.one (show Kd.M (Kd.int .i32) _ _ _ 1469 [.int .i32 1469] from rfl) (Reps.one (show Kd.M (Kd.int .i32) _ _ _ 1471 [.int .i32 1471] from rfl) (Reps.one (show Kd.M (Kd.int .i32) _ _ _ 1471 [.int .i32 1471] from rfl) (Reps.one (show Kd.M (Kd.int .i32) _ _ _ 1473 [.int .i32 1473] from rfl) (Reps.one (show Kd.M (Kd.int .i32) _ _ _ 1474 [.int .i32 1474] from rfl) (Reps.one (show Kd.M (Kd.int .i32) _ _ _ 1552 [.int .i32 1552] from rfl) (Reps.one (show Kd.M (Kd.int .i32) _ _ _ 1562 [.int .i32 1562] from rfl) (Reps.one (show Kd.M (Kd.int .i32) _ _ _ 1611 [.int .i32 1611] from rfl) (Reps.one (show Kd.M (Kd.int .i32) _ _ _ 1631 [.int .i32 1631] from rfl) (Reps.one (show Kd.M (Kd.int .i32) _ _ _ 1648 [.int .i32 1648] from rfl) (Reps.one (show Kd.M (Kd.int .i32) _ _ _ 1648 [.int .i32 1648] from rfl) (Reps.one (show Kd.M (Kd.int .i32) _ _ _ 1750 [.int .i32 1750] from rfl) (Reps.one (show Kd.M (Kd.int .i32) _ _ _ 1756 [.int .i32 1756] from rfl) (Reps.one (show Kd.M (Kd.int .i32) _ _ _ 2304 [.int .i32 2304] from rfl) (Reps.one (show Kd.M (Kd.int .i32) _ _ _ 2306 [.int .i32 2306] from rfl) (Reps.one (show Kd.M (Kd.int .i32) _ _ _ 2364 [.int .i32 2364] from rfl) (Reps.one (show Kd.M (Kd.int .i32) _ _ _ 2364 [.int .i32 2364] from rfl) (Reps.one (show Kd.M (Kd.int .i32) _ _ _ 2381 [.int .i32 2381] from rfl) (Reps.one (show Kd.M (Kd.int .i32) _ _ _ 2381 [.int .i32 2381] from rfl) (Reps.one (show Kd.M (Kd.int .i32) _ _ _ 3633 [.int .i32 3633] from rfl) (Reps.one (show Kd.M (Kd.int .i32) _ _ _ 3633 [.int .i32 3633] from rfl) (Reps.one (show Kd.M (Kd.int .i32) _ _ _ 3636 [.int .i32 3636] from rfl) (Reps.one (show Kd.M (Kd.int .i32) _ _ _ 3642 [.int .i32 3642] from rfl) (Reps.one (show Kd.M (Kd.int .i32) _ _ _ 3655 [.int .i32 3655] from rfl) (Reps.one (show Kd.M (Kd.int .i32) _ _ _ 3662 [.int .i32 3662] from rfl) (Reps.one (show Kd.M (Kd.int .i32) _ _ _ 4957 [.int .i32 4957] from rfl) (Reps.one (show Kd.M (Kd.int .i32) _ _ _ 4959 [.int .i32 4959] from rfl) (Reps.one (show Kd.M (Kd.int .i32) _ _ _ 6832 [.int .i32 6832] from rfl) (Reps.one (show Kd.M (Kd.int .i32) _ _ _ 6911 [.int .i32 6911] from rfl) (Reps.one (show Kd.M (Kd.int .i32) _ _ _ 7616 [.int .i32 7616] from rfl) (Reps.one (show Kd.M (Kd.int .i32) _ _ _ 7679 [.int .i32 7679] from rfl) (Reps.one (show Kd.M (Kd.int .i32) _ _ _ 8204 [.int .i32 8204] from rfl) (Reps.one (show Kd.M (Kd.int .i32) _ _ _ 8205 [.int .i32 8205] from rfl) (Reps.one (show Kd.M (Kd.int .i32) _ _ _ 8400 [.int .i32 8400] from rfl) (Reps.one (show Kd.M (Kd.int .i32) _ _ _ 8447 [.int .i32 8447] from rfl) (Reps.one (show Kd.M (Kd.int .i32) _ _ _ 12330 [.int .i32 12330] from rfl) (Reps.one (show Kd.M (Kd.int .i32) _ _ _ 12335 [.int .i32 12335] from rfl) (Reps.one (show Kd.M (Kd.int .i32) _ _ _ 12441 [.int .i32 12441] from rfl) (Reps.one (show Kd.M (Kd.int .i32) _ _ _ 12442 [.int .i32 12442] from rfl) (Reps.one (show Kd.M (Kd.int .i32) _ _ _ 65024 [.int .i32 65024] from rfl) (Reps.one (show Kd.M (Kd.int .i32) _ _ _ 65039 [.int .i32 65039] from rfl) (Reps.one (show Kd.M (Kd.int .i32) _ _ _ 65056 [.int .i32 65056] from rfl) (Reps.one (show Kd.M (Kd.int .i32) _ _ _ 65071 [.int .i32 65071] from rfl) (Reps.one (show Kd.M (Kd.int .i32) _ _ _ 127995 [.int .i32 127995] from rfl) (Reps.one (show Kd.M (Kd.int .i32) _ _ _ 127999 [.int .i32 127999] from rfl) (Reps.one (show Kd.M (Kd.int .i32) _ _ _ 917760 [.int .i32 917760] from rfl) (Reps.one (show Kd.M (Kd.int .i32) _ _ _ 917999 [.int .i32 917999] from rfl) (Reps.none _ _))))))))))))))))))))))))))))))))))))))))))))))))))))));intro v129 w1 ho2 hb hg_ hnew_;clear hg_ hnew_;(first | rw [← Ny128.out] at ho2 | (simp only [Int.reduceToNat] at ho2;rw [← Ny128.out] at ho2));have n0_ := Aside0.mk (Kd.R_lower ho2 (below_size au0));have n1_ := Aside0.mk (below_step au0 hb);clear HB;have HO130 := n0_;have HB := n1_;clear n0_ n1_;clear hb ho2))
 go_ret
 exact ⟨_,by first | rfl | (simp [errW_none,errW_some] <;> rfl) | (simp [*,errW_none,errW_some] <;> rfl),by (with_reducible repeat (first | apply Kd.R_alloc | apply Kd.R_drewN | apply Kd.R_drew));exact HO130.out,au0⟩
def width_wides.f  : Option (List Int) := some (([4352,4447,8986,8987,9001,9002,9193,9196,9725,9726,9748,9749,9800,9811,9898,9899,11904,12329,12336,12350,12353,12440,12443,19903,19968,42191,43360,43391,44032,55203,63744,64255,65072,65135,65281,65376,65504,65510,94176,101119,110592,111359,127744,127994,128000,128591,128640,128767,129280,129535,131072,196605,196608,262141] : List Int))
set_option maxHeartbeats 8000000 in
set_option maxRecDepth 100000 in
theorem width_wides.calls  (r : List Int) (w : World) (h : width_wides.f  = some r) :
  Calls Tryd.prog 63 #[] w fun e w' => ∃ v0_ : Value,e = .returned (v0_) ∧ Kd.R (Kd.int .i32) 21 w' w.heap.size (fun _ => True) v0_ r ∧ Below w.heap.size w w' := by
 have HB := Aside0.mk (Below.refl w.heap.size w)
 have H : (some (([4352,4447,8986,8987,9001,9002,9193,9196,9725,9726,9748,9749,9800,9811,9898,9899,11904,12329,12336,12350,12353,12440,12443,19903,19968,42191,43360,43391,44032,55203,63744,64255,65072,65135,65281,65376,65504,65510,94176,101119,110592,111359,127744,127994,128000,128591,128640,128767,129280,129535,131072,196605,196608,262141] : List Int))) = some r := h
 clear h
 obtain ⟨y131,hy131⟩ : ∃ y_ : List Int,y_ = (([4352,4447,8986,8987,9001,9002,9193,9196,9725,9726,9748,9749,9800,9811,9898,9899,11904,12329,12336,12350,12353,12440,12443,19903,19968,42191,43360,43391,44032,55203,63744,64255,65072,65135,65281,65376,65504,65510,94176,101119,110592,111359,127744,127994,128000,128591,128640,128767,129280,129535,131072,196605,196608,262141] : List Int)) := ⟨_,rfl⟩
 replace H : (some y131) = some r := by first | (rw [hy131];with_reducible exact H) | (have H2_ := (Option.bind_some _ _).symm.trans H;rw [hy131];with_reducible exact H2_) | (have H2_ := (Option.bind_some _ _).symm.trans H;with_reducible exact H2_) | with_reducible exact H | (rw [hy131];exact H) | exact H
 have Ny131 := Aside0.mk hy131
 clear hy131
 obtain rfl := Option.some.inj H
 go_enter Tryd.func63,Tryd.ntmps63
 go_wp2_with (first | ((with_reducible refine gate_dst (N := 1) rfl ?_);refine Kd.R_lit (Kd.int .i32) _ 21 ?hg (N := 1) ?hd (xs := ([4352,4447,8986,8987,9001,9002,9193,9196,9725,9726,9748,9749,9800,9811,9898,9899,11904,12329,12336,12350,12353,12440,12443,19903,19968,42191,43360,43391,44032,55203,63744,64255,65072,65135,65281,65376,65504,65510,94176,101119,110592,111359,127744,127994,128000,128591,128640,128767,129280,129535,131072,196605,196608,262141] : List Int)) (inner := [.int .i32 4352,.int .i32 4447,.int .i32 8986,.int .i32 8987,.int .i32 9001,.int .i32 9002,.int .i32 9193,.int .i32 9196,.int .i32 9725,.int .i32 9726,.int .i32 9748,.int .i32 9749,.int .i32 9800,.int .i32 9811,.int .i32 9898,.int .i32 9899,.int .i32 11904,.int .i32 12329,.int .i32 12336,.int .i32 12350,.int .i32 12353,.int .i32 12440,.int .i32 12443,.int .i32 19903,.int .i32 19968,.int .i32 42191,.int .i32 43360,.int .i32 43391,.int .i32 44032,.int .i32 55203,.int .i32 63744,.int .i32 64255,.int .i32 65072,.int .i32 65135,.int .i32 65281,.int .i32 65376,.int .i32 65504,.int .i32 65510,.int .i32 94176,.int .i32 101119,.int .i32 110592,.int .i32 111359,.int .i32 127744,.int .i32 127994,.int .i32 128000,.int .i32 128591,.int .i32 128640,.int .i32 128767,.int .i32 129280,.int .i32 129535,.int .i32 131072,.int .i32 196605,.int .i32 196608,.int .i32 262141]) (ok := fun _ => True) (okp := fun _ => True) ?hr ?hp (fun _ hk => hk) trivial (Below.refl _ _) (Nat.le_refl _) (by simp) ?_;(case hd => rfl);(case hg => rfl);(case hr => first | (go_simp;done) | (go_simp;rfl));(case hp => exact (Reps.one (show Kd.M (Kd.int .i32) _ _ _ 4352 [.int .i32 4352] from rfl) (Reps.one (show Kd.M (Kd.int .i32) _ _ _ 4447 [.int .i32 4447] from rfl) (Reps.one (show Kd.M (Kd.int .i32) _ _ _ 8986 [.int .i32 8986] from rfl) (Reps.one (show Kd.M (Kd.int .i32) _ _ _ 8987 [.int .i32 8987] from rfl) (Reps.one (show Kd.M (Kd.int .i32) _ _ _ 9001 [.int .i32 9001] from rfl) (Reps.one (show Kd.M (Kd.int .i32) _ _ _ 9002 [.int .i32 9002] from rfl) (Reps.one (show Kd.M (Kd.int .i32) _ _ _ 9193 [.int .i32 9193] from rfl) (Reps.one (show Kd.M (Kd.int .i32) _ _ _ 9196 [.int .i32 9196] from rfl) (Reps.one (show Kd.M (Kd.int .i32) _ _ _ 9725 [.int .i32 9725] from rfl) (Reps.one (show Kd.M (Kd.int .i32) _ _ _ 9726 [.int .i32 9726] from rfl) (Reps.one (show Kd.M (Kd.int .i32) _ _ _ 9748 [.int .i32 9748] from rfl) (Reps.one (show Kd.M (Kd.int .i32) _ _ _ 9749 [.int .i32 9749] from rfl) (Reps.one (show Kd.M (Kd.int .i32) _ _ _ 9800 [.int .i32 9800] from rfl) (Reps.one (show Kd.M (Kd.int .i32) _ _ _ 9811 [.int .i32 9811] from rfl) (Reps.one (show Kd.M (Kd.int .i32) _ _ _ 9898 [.int .i32 9898] from rfl) (Reps.one (show Kd.M (Kd.int .i32) _ _ _ 9899 [.int .i32 9899] from rfl) (Reps.one (show Kd.M (Kd.int .i32) _ _ _ 11904 [.int .i32 11904] from rfl) (Reps.one (show Kd.M (Kd.int .i32) _ _ _ 12329 [.int .i32 12329] from rfl) (Reps.one (show Kd.M (Kd.int .i32) _ _ _ 12336 [.int .i32 12336] from rfl) (Reps.one (show Kd.M (Kd.int .i32) _ _ _ 12350 [.int .i32 12350] from rfl) (Reps.one (show Kd.M (Kd.int .i32) _ _ _ 12353 [.int .i32 12353] from rfl) (Reps.one (show Kd.M (Kd.int .i32) _ _ _ 12440 [.int .i32 12440] from rfl) (Reps.one (show Kd.M (Kd.int .i32) _ _ _ 12443 [.int .i32 12443] from rfl) (Reps.one (show Kd.M (Kd.int .i32) _ _ _ 19903 [.int .i32 19903] from rfl) (Reps.one (show Kd.M (Kd.int .i32) _ _ _ 19968 [.int .i32 19968] from rfl) (Reps.one (show Kd.M (Kd.int .i32) _ _ _ 42191 [.int .i32 42191] from rfl) (Reps.one (show Kd.M (Kd.int .i32) _ _ _ 43360 [.int .i32 43360] from rfl) (Reps.one (show Kd.M (Kd.int .i32) _ _ _ 43391 [.int .i32 43391] from rfl) (Reps.one (show Kd.M (Kd.int .i32) _ _ _ 44032 [.int .i32 44032] from rfl) (Reps.one (show Kd.M (Kd.int .i32) _ _ _ 55203 [.int .i32 55203] from rfl) (Reps.one (show Kd.M (Kd.int .i32) _ _ _ 63744 [.int .i32 63744] from rfl) (Reps.one (show Kd.M (Kd.int .i32) _ _ _ 64255 [.int .i32 64255] from rfl) (Reps.one (show Kd.M (Kd.int .i32) _ _ _ 65072 [.int .i32 65072] from rfl) (Reps.one (show Kd.M (Kd.int .i32) _ _ _ 65135 [.int .i32 65135] from rfl) (Reps.one (show Kd.M (Kd.int .i32) _ _ _ 65281 [.int .i32 65281] from rfl) (Reps.one (show Kd.M (Kd.int .i32) _ _ _ 65376 [.int .i32 65376] from rfl) (Reps.one (show Kd.M (Kd.int .i32) _ _ _ 65504 [.int .i32 65504] from rfl) (Reps.one (show Kd.M (Kd.int .i32) _ _ _ 65510 [.int .i32 65510] from rfl) (Reps.one (show Kd.M (Kd.int .i32) _ _ _ 94176 [.int .i32 94176] from rfl) (Reps.one (show Kd.M (Kd.int .i32) _ _ _ 101119 [.int .i32 101119] from rfl) (Reps.one (show Kd.M (Kd.int .i32) _ _ _ 110592 [.int .i32 110592] from rfl) (Reps.one (show Kd.M (Kd.int .i32) _ _ _ 111359 [.int .i32 111359] from rfl) (Reps.one (show Kd.M (Kd.int .i32) _ _ _ 127744 [.int .i32 127744] from rfl) (Reps.one (show Kd.M (Kd.int .i32) _ _ _ 127994 [.int .i32 127994] from rfl) (Reps.one (show Kd.M (Kd.int .i32) _ _ _ 128000 [.int .i32 128000] from rfl) (Reps.one (show Kd.M (Kd.int .i32) _ _ _ 128591 [.int .i32 128591] from rfl) (Reps.one (show Kd.M (Kd.int .i32) _ _ _ 128640 [.int .i32 128640] from rfl) (Reps.one (show Kd.M (Kd.int .i32) _ _ _ 128767 [.int .i32 128767] from rfl) (Reps.one (show Kd.M (Kd.int .i32) _ _ _ 129280 [.int .i32 129280] from rfl) (Reps.one (show Kd.M (Kd.int .i32) _ _ _ 129535 [.int .i32 129535] from rfl) (Reps.one (show Kd.M (Kd.int .i32) _ _ _ 131072 [.int .i32 131072] from rfl) (Reps.one (show Kd.M (Kd.int .i32) _ _ _ 196605 [.int .i32 196605] from rfl) (Reps.one (show Kd.M (Kd.int .i32) _ _ _ 196608 [.int .i32 196608] from rfl) (Reps.one (show Kd.M (Kd.int .i32) _ _ _ 262141 [.int .i32 262141] from rfl) (Reps.none _ _))))))))))))))))))))))))))))))))))))))))))))))))))))))));intro v132 w1 ho2 hb hg_ hnew_;clear hg_ hnew_;(first | rw [← Ny131.out] at ho2 | (simp only [Int.reduceToNat] at ho2;rw [← Ny131.out] at ho2));have n0_ := Aside0.mk (Kd.R_lower ho2 (below_size au0));have n1_ := Aside0.mk (below_step au0 hb);clear HB;have HO133 := n0_;have HB := n1_;clear n0_ n1_;clear hb ho2))
 go_ret
 exact ⟨_,by first | rfl | (simp [errW_none,errW_some] <;> rfl) | (simp [*,errW_none,errW_some] <;> rfl),by (with_reducible repeat (first | apply Kd.R_alloc | apply Kd.R_drewN | apply Kd.R_drew));exact HO133.out,au0⟩
end Go.Proofs.YtkficbgnjpekaaaDoor.U
end
section
namespace Go.Proofs.YtkficbgnjpekaaaDoor.U
open Go.RowKit Go.Proofs.YtkficbgnjpekaaaDoorW.PrintWords Go.Proofs.YtkficbgnjpekaaaDoorW.PrintLast Go.Proofs.YtkficbgnjpekaaaDoorW.PrintMore
attribute [local go_sem] max2_int min2_int max_two min_two max_three min_three max_four min_four   -- for this text's walks alone
set_option linter.unusedVariables false
set_option linter.unusedSimpArgs false
def word_odd.f (a0 : Int) (a1 : Int) (a2 : Int) : Option (Bool) := if a0 ≥ a1 then (if a0 ≤ a2 then (some ((Int.tmod a0 2) == 1)) else (some false)) else (some false)
set_option maxHeartbeats 8000000 in
set_option maxRecDepth 100000 in
theorem word_odd.calls (a0 : Int) (a1 : Int) (a2 : Int) (r : Bool) (w : World) (h : word_odd.f a0 a1 a2 = some r) :
  Calls Tryd.prog 42 #[.int .i32 a0,.int .i32 a1,.int .i32 a2] w fun e w' => e = .returned (.bool r) ∧ Drawn0 w w' := by
 have H : (if a0 ≥ a1 then (if a0 ≤ a2 then (some ((Int.tmod a0 2) == 1)) else (some false)) else (some false)) = some r := h
 clear h
 by_cases c4 : a0 ≥ a1
 ·rw [if_pos c4] at H
  have c4b0 : decide (a1 ≤ a0) = true := decide_eq_true c4
  clear c4
  by_cases c5 : a0 ≤ a2
  ·rw [if_pos c5] at H
   have c5b0 : decide (a0 ≤ a2) = true := decide_eq_true c5
   clear c5
   obtain rfl := Option.some.inj H
   go_enter Tryd.func42,Tryd.ntmps42
   go_wp2
   go_ret
   exact ⟨by first | rfl | (simp;done) | (simp [*];done),by repeat (first | exact Drawn0.refl _ | apply Drawn0.step)⟩
  ·rw [if_neg c5] at H
   have c5b0 : decide (a0 ≤ a2) = false := decide_eq_false c5
   clear c5
   obtain rfl := Option.some.inj H
   go_enter Tryd.func42,Tryd.ntmps42
   go_wp2
   go_ret
   exact ⟨by first | rfl | (simp;done) | (simp [*];done),by repeat (first | exact Drawn0.refl _ | apply Drawn0.step)⟩
 ·rw [if_neg c4] at H
  have c4b0 : decide (a1 ≤ a0) = false := decide_eq_false c4
  clear c4
  obtain rfl := Option.some.inj H
  go_enter Tryd.func42,Tryd.ntmps42
  go_wp2
  go_ret
  exact ⟨by first | rfl | (simp;done) | (simp [*];done),by repeat (first | exact Drawn0.refl _ | apply Drawn0.step)⟩
end Go.Proofs.YtkficbgnjpekaaaDoor.U
end
section
namespace Go.Proofs.YtkficbgnjpekaaaDoor.U
open Go.RowKit Go.Proofs.YtkficbgnjpekaaaDoorW.PrintWords Go.Proofs.YtkficbgnjpekaaaDoorW.PrintLast Go.Proofs.YtkficbgnjpekaaaDoorW.PrintMore
attribute [local go_sem] max2_int min2_int max_two min_two max_three min_three max_four min_four   -- for this text's walks alone
set_option linter.unusedVariables false
set_option linter.unusedSimpArgs false
attribute [local go_sem high] eqA32
def bodkinlaw05_same.l0 : Nat → List (S32) → List (S32) → Int → Option (Bool)
 | 0,_,_,_ => none
 | k + 1,x0,x1,x5 => if x5 < (x0.length : Int) then (if 0 ≤ x5 then (if x5 < (x1.length : Int) then (if (!(((rd_T32 x0 x5).f0) == ((rd_T32 x1 x5).f0)) || (!(((rd_T32 x0 x5).f1) == ((rd_T32 x1 x5).f1)))) = true then (some false) else (bodkinlaw05_same.l0 k x0 x1 (wrap64 (x5 + 1)))) else (none)) else (none)) else (some true)
def bodkinlaw05_same.f (k : Nat) (l0 : List (S32)) (l1 : List (S32)) : Option (Bool) := if (l0.length : Int) = (l1.length : Int) then (bodkinlaw05_same.l0 k l0 l1 0) else (some false)
set_option maxHeartbeats 8000000 in
set_option maxRecDepth 100000 in
theorem bodkinlaw05_same.calls (k : Nat) (A0 : Option Addr) (c0 : Nat) (l0 : List (S32)) (A1 : Option Addr) (c1 : Nat) (l1 : List (S32)) (r : Bool) (w : World) (hr0 : Kd.C k32 w A0 l0.length l0) (hc0 : l0.length ≤ c0) (hr1 : Kd.C k32 w A1 l1.length l1) (hc1 : l1.length ≤ c1) (h : bodkinlaw05_same.f k l0 l1 = some r) :
  Calls Tryd.prog 21 #[.slice A0 l0.length c0,.slice A1 l1.length c1] w fun e w' => e = .returned (.bool r) ∧ Drawn0 w w' := by
 have hu32 := Tryd.underlying32
 have HR0 := Aside0.mk hr0
 have HC0 := Aside0.mk hc0
 clear hr0 hc0
 have HR1 := Aside0.mk hr1
 have HC1 := Aside0.mk hc1
 clear hr1 hc1
 have H : (if (l0.length : Int) = (l1.length : Int) then (bodkinlaw05_same.l0 k l0 l1 0) else (some false)) = some r := h
 clear h
 by_cases c3 : (l0.length : Int) = (l1.length : Int)
 ·rw [if_pos c3] at H
  have c3b0 : ((l0.length : Int) == (l1.length : Int)) = true := beq_iff_eq.mpr c3
  have c3b1 : ((l0.length : Int) != (l1.length : Int)) = false := bne_eq_false_iff_eq.mpr c3
  have c3b2 : (l0.length == l1.length) = true := by first | simpa using c3 | (simp at c3 ⊢;omega)
  clear c3
  have H' := Aside0.mk H
  clear H
  go_enter Tryd.func21,Tryd.ntmps21
  go_wp2
  repeat (go_quiet (fail);try go_wp2)
  go_loopg [5] k (fun kq v5 w' => ∃ (x5_1 : Int),v5 = .int .i64 x5_1 ∧ Aside0 (bodkinlaw05_same.l0 kq l0 l1 x5_1 = some r) ∧ Aside0 (kq ≤ k) ∧ Drawn0 w w')
  case atStart => exact ⟨(0),au4,H',⟨Nat.le_refl _⟩,by repeat (first | exact Drawn0.refl _ | apply Drawn0.step)⟩
  case round =>
   clear H'
   try clear c1
   try clear c2
   try clear p2
   try clear c3
   try clear c3b0
   try clear c3b1
   try clear c3b2
   obtain ⟨x5_1,rfl,HA,HK1,⟨m1,rfl⟩⟩ := hrel
   cases gk with
   | zero => exact absurd HA.out (by simp [bodkinlaw05_same.l0])
   | succ k1 =>
    have H := HA.out
    clear HA
    simp only [bodkinlaw05_same.l0] at H
    by_cases c4 : x5_1 < (l0.length : Int)
    ·rw [if_pos c4] at H
     have c4b0 : decide (x5_1 < (l0.length : Int)) = true := decide_eq_true c4
     clear c4
     by_cases c5 : 0 ≤ x5_1
     ·rw [if_pos c5] at H
      have c5b0 : decide (0 ≤ x5_1) = true := decide_eq_true c5
      clear c5
      by_cases c6 : x5_1 < (l1.length : Int)
      ·rw [if_pos c6] at H
       have c6b0 : decide (x5_1 < (l1.length : Int)) = true := decide_eq_true c6
       clear c6
       by_cases c7 : (!(((rd_T32 l0 x5_1).f0) == ((rd_T32 l1 x5_1).f0)) || (!(((rd_T32 l0 x5_1).f1) == ((rd_T32 l1 x5_1).f1)))) = true
       ·rw [if_pos c7] at H
        have c7b0 : (!(((rd_T32 l0 x5_1).f0) == ((rd_T32 l1 x5_1).f0)) || (!(((rd_T32 l0 x5_1).f1) == ((rd_T32 l1 x5_1).f1)))) = true := c7
        clear c7
        obtain rfl := Option.some.inj H
        have p323 : 0 ≤ (x5_1 : Int) := of_decide_eq_true au13
        have q323 : x5_1 < (l0.length : Int) := of_decide_eq_true au13
        obtain ⟨ad323,e323,hx323_0,hx323_1⟩ := at_T32 HR0.out x5_1 p323 q323
        cases e323
        replace p323 := eq_true p323
        replace q323 := eq_true q323
        have p324 : 0 ≤ (x5_1 : Int) := of_decide_eq_true au13
        have q324 : x5_1 < (l1.length : Int) := of_decide_eq_true au13
        obtain ⟨ad324,e324,hx324_0,hx324_1⟩ := at_T32 HR1.out x5_1 p324 q324
        cases e324
        replace p324 := eq_true p324
        replace q324 := eq_true q324
        go_wp2
        repeat (go_quiet (fail);try go_wp2)
        go_ret
        exact ⟨by first | rfl | (simp;done) | (simp [*];done),by repeat (first | exact Drawn0.refl _ | apply Drawn0.step)⟩
       ·rw [if_neg c7] at H
        have c7b0 : (!(((rd_T32 l0 x5_1).f0) == ((rd_T32 l1 x5_1).f0)) || (!(((rd_T32 l0 x5_1).f1) == ((rd_T32 l1 x5_1).f1)))) = false := by simpa using c7
        clear c7
        have H' := Aside0.mk H
        clear H
        have p323 : 0 ≤ (x5_1 : Int) := of_decide_eq_true au13
        have q323 : x5_1 < (l0.length : Int) := of_decide_eq_true au13
        obtain ⟨ad323,e323,hx323_0,hx323_1⟩ := at_T32 HR0.out x5_1 p323 q323
        cases e323
        replace p323 := eq_true p323
        replace q323 := eq_true q323
        have p324 : 0 ≤ (x5_1 : Int) := of_decide_eq_true au13
        have q324 : x5_1 < (l1.length : Int) := of_decide_eq_true au13
        obtain ⟨ad324,e324,hx324_0,hx324_1⟩ := at_T32 HR1.out x5_1 p324 q324
        cases e324
        replace p324 := eq_true p324
        replace q324 := eq_true q324
        go_wp2
        repeat (go_quiet (fail);try go_wp2)
        go_roundg k1
        case measure => have := HK1.out;omega
        case rel => exact ⟨(wrap64 (x5_1 + 1)),au4,H',⟨by have := HK1.out;omega⟩,by repeat (first | exact Drawn0.refl _ | apply Drawn0.step)⟩
      ·rw [if_neg c6] at H
       exact absurd H (by simp)
     ·rw [if_neg c5] at H
      exact absurd H (by simp)
    ·rw [if_neg c4] at H
     have c4b0 : decide (x5_1 < (l0.length : Int)) = false := decide_eq_false c4
     clear c4
     obtain rfl := Option.some.inj H
     go_wp2
     repeat (go_quiet (fail);try go_wp2)
     go_ret
     exact ⟨by first | rfl | (simp;done) | (simp [*];done),by repeat (first | exact Drawn0.refl _ | apply Drawn0.step)⟩
 ·rw [if_neg c3] at H
  have c3b0 : ((l0.length : Int) == (l1.length : Int)) = false := beq_eq_false_iff_ne.mpr c3
  have c3b1 : ((l0.length : Int) != (l1.length : Int)) = true := bne_iff_ne.mpr c3
  have c3b2 : (l0.length == l1.length) = false := by first | simpa using c3 | (simp at c3 ⊢;omega)
  obtain rfl := Option.some.inj H
  go_enter Tryd.func21,Tryd.ntmps21
  go_wp2
  repeat (go_quiet (fail);try go_wp2)
  go_ret
  exact ⟨by first | rfl | (simp;done) | (simp [*];done),by repeat (first | exact Drawn0.refl _ | apply Drawn0.step)⟩
def utf8_ValidRune.j0 : Nat → Int → Bool → Option (Bool)
 | 0,_,_ => none
 | k + 1,x0,x3 => if x3 = true then (some true) else (if 57343 < x0 then (if x0 ≤ 1114111 then (some true) else (some false)) else (some false))
def utf8_ValidRune.f (k : Nat) (a0 : Int) : Option (Bool) := if 0 ≤ a0 then (utf8_ValidRune.j0 k a0 (decide (a0 < 55296))) else (utf8_ValidRune.j0 k a0 false)
set_option maxHeartbeats 8000000 in
set_option maxRecDepth 100000 in
theorem utf8_ValidRune.calls (k : Nat) (a0 : Int) (r : Bool) (w : World) (h : utf8_ValidRune.f k a0 = some r) :
  Calls Tryd.prog 52 #[.int .i32 a0] w fun e w' => e = .returned (.bool r) ∧ Drawn0 w w' := by
 have H : (if 0 ≤ a0 then (utf8_ValidRune.j0 k a0 (decide (a0 < 55296))) else (utf8_ValidRune.j0 k a0 false)) = some r := h
 clear h
 have HC2 := Aside0.mk H
 clear H
 go_enter Tryd.func52,Tryd.ntmps52
 go_upto_region 1 with (fail)
 go_cut [3] (fun v3 wc => ∃ (kq : Nat) (x3_1 : Bool),v3 = .bool x3_1 ∧ Aside0 (utf8_ValidRune.j0 kq a0 x3_1 = some r) ∧ Aside0 (kq ≤ k) ∧ Drawn0 w wc)
 case first =>
  have H := HC2.out
  clear HC2
  by_cases c3 : 0 ≤ a0
  ·rw [if_pos c3] at H
   have c3b0 : decide (0 ≤ a0) = true := decide_eq_true c3
   clear c3
   (first | rw [c3b0] | (simp only [i64_w,i32_w];rw [c3b0]) | skip)
   have H' := Aside0.mk H
   clear H
   go_wp2
   go_meet
   case rel => exact ⟨_,(decide (a0 < 55296)),au4,H',⟨by first | omega | exact Nat.le_refl _⟩,by repeat (first | exact Drawn0.refl _ | apply Drawn0.step)⟩
  ·rw [if_neg c3] at H
   have c3b0 : decide (0 ≤ a0) = false := decide_eq_false c3
   clear c3
   (first | rw [c3b0] | (simp only [i64_w,i32_w];rw [c3b0]) | skip)
   have H' := Aside0.mk H
   clear H
   go_wp2
   go_meet
   case rel => exact ⟨_,(false),au4,H',⟨by first | omega | exact Nat.le_refl _⟩,by repeat (first | exact Drawn0.refl _ | apply Drawn0.step)⟩
 case rest =>
  clear HC2
  try clear p2
  try clear c3
  try clear c3b0
  obtain ⟨kq,x3_1,rfl,HA,HJ1,⟨mc1,rfl⟩⟩ := hcut
  cases kq with
  | zero => exact absurd HA.out (by simp [utf8_ValidRune.j0])
  | succ kj1 =>
   have H := HA.out
   clear HA
   simp only [utf8_ValidRune.j0] at H
   by_cases c4 : x3_1 = true
   ·subst c4
    have H1 : (some true) = some r := by rw [if_pos rfl] at H;exact H
    clear H
    have H := H1
    clear H1
    obtain rfl := Option.some.inj H
    go_wp2
    go_ret
    exact ⟨by first | rfl | (simp;done) | (simp [*];done),by repeat (first | exact Drawn0.refl _ | apply Drawn0.step)⟩
   ·replace c4 := Bool.eq_false_iff.mpr c4
    subst c4
    have H1 : (if 57343 < a0 then (if a0 ≤ 1114111 then (some true) else (some false)) else (some false)) = some r := by rw [if_neg (show ¬ (false = true) by decide)] at H;exact H
    clear H
    have H := H1
    clear H1
    by_cases c5 : 57343 < a0
    ·rw [if_pos c5] at H
     have c5b0 : decide (57343 < a0) = true := decide_eq_true c5
     clear c5
     by_cases c6 : a0 ≤ 1114111
     ·rw [if_pos c6] at H
      have c6b0 : decide (a0 ≤ 1114111) = true := decide_eq_true c6
      clear c6
      obtain rfl := Option.some.inj H
      go_wp2
      go_ret
      exact ⟨by first | rfl | (simp;done) | (simp [*];done),by repeat (first | exact Drawn0.refl _ | apply Drawn0.step)⟩
     ·rw [if_neg c6] at H
      have c6b0 : decide (a0 ≤ 1114111) = false := decide_eq_false c6
      clear c6
      obtain rfl := Option.some.inj H
      go_wp2
      go_ret
      exact ⟨by first | rfl | (simp;done) | (simp [*];done),by repeat (first | exact Drawn0.refl _ | apply Drawn0.step)⟩
    ·rw [if_neg c5] at H
     have c5b0 : decide (57343 < a0) = false := decide_eq_false c5
     clear c5
     obtain rfl := Option.some.inj H
     go_wp2
     go_ret
     exact ⟨by first | rfl | (simp;done) | (simp [*];done),by repeat (first | exact Drawn0.refl _ | apply Drawn0.step)⟩
def utf8_appendRuneNonASCII.j0 : Nat → List Int → Int → Int → Bool → Option (List Int)
 | 0,_,_,_,_ => none
 | k + 1,x0,x1,x5,x25 => if x25 = true then ((some (([Go.bits .or .u8 224 ((x1 / 4096) % 256),128 + ((x1 / 64) % 64),128 + (x1 % 64)] : List Int) : List Int)).bind fun y418 => (if x0.length + y418.length < 140737488355328 then (some (x0 ++ y418)) else (none))) else (if x5 > 65535 then (if x5 ≤ 1114111 then ((some (([Go.bits .or .u8 240 ((x1 / 262144) % 256),128 + ((x1 / 4096) % 64),128 + ((x1 / 64) % 64),128 + (x1 % 64)] : List Int) : List Int)).bind fun y424 => (if x0.length + y424.length < 140737488355328 then (some (x0 ++ y424)) else (none))) else ((some (([239,191,189] : List Int) : List Int)).bind fun y430 => (if x0.length + y430.length < 140737488355328 then (some (x0 ++ y430)) else (none)))) else ((some (([239,191,189] : List Int) : List Int)).bind fun y436 => (if x0.length + y436.length < 140737488355328 then (some (x0 ++ y436)) else (none))))
def utf8_appendRuneNonASCII.f (k : Nat) (l0 : List Int) (a1 : Int) : Option (List Int) := if ((a1) % 4294967296) ≤ 2047 then ((some (([Go.bits .or .u8 192 ((a1 / 64) % 256),128 + (a1 % 64)] : List Int) : List Int)).bind fun y412 => (if l0.length + y412.length < 140737488355328 then (some (l0 ++ y412)) else (none))) else (if ((a1) % 4294967296) < 55296 then (utf8_appendRuneNonASCII.j0 k l0 a1 ((a1) % 4294967296) (decide (((a1) % 4294967296) < 55296))) else (if 57343 < ((a1) % 4294967296) then (utf8_appendRuneNonASCII.j0 k l0 a1 ((a1) % 4294967296) (decide (((a1) % 4294967296) ≤ 65535))) else (utf8_appendRuneNonASCII.j0 k l0 a1 ((a1) % 4294967296) false)))
set_option maxHeartbeats 8000000 in
set_option maxRecDepth 100000 in
theorem utf8_appendRuneNonASCII.calls (k : Nat) (P0_ : Nat → Prop) (u9000_ : Value) (l0 : List Int) (a1 : Int) (r : List Int) (w0 w : World) (hB : Below w0.heap.size w0 w) (ho0 : Kd.R (Kd.int .u8) 5 w w0.heap.size P0_ u9000_ l0) (h : utf8_appendRuneNonASCII.f k l0 a1 = some r) :
  Calls Tryd.prog 73 #[u9000_,.int .i32 a1] w fun e w' => ∃ v0_ : Value,e = .returned (v0_) ∧ Kd.R (Kd.int .u8) 5 w' w0.heap.size (fun k_ => (P0_ k_ ∨ w.heap.size ≤ k_)) v0_ r ∧ Below w0.heap.size w0 w' ∧ Kept w w' (fun k_ => P0_ k_) := by
 have HO0 := Aside0.mk (show Kd.R (Kd.int .u8) 5 w w0.heap.size (fun k_ => (P0_ k_ ∨ w.heap.size ≤ k_)) u9000_ l0 from Kd.R_mono ho0 (fun k_ hk => (.inl hk)))
 have HK := Aside0.mk (Kept.refl w (fun k_ => P0_ k_))
 have HW0 := Aside0.mk hB.size
 have HB := Aside0.mk hB
 clear hB
 have H : (if ((a1) % 4294967296) ≤ 2047 then ((some (([Go.bits .or .u8 192 ((a1 / 64) % 256),128 + (a1 % 64)] : List Int) : List Int)).bind fun y412 => (if l0.length + y412.length < 140737488355328 then (some (l0 ++ y412)) else (none))) else (if ((a1) % 4294967296) < 55296 then (utf8_appendRuneNonASCII.j0 k l0 a1 ((a1) % 4294967296) (decide (((a1) % 4294967296) < 55296))) else (if 57343 < ((a1) % 4294967296) then (utf8_appendRuneNonASCII.j0 k l0 a1 ((a1) % 4294967296) (decide (((a1) % 4294967296) ≤ 65535))) else (utf8_appendRuneNonASCII.j0 k l0 a1 ((a1) % 4294967296) false)))) = some r := h
 clear h
 by_cases c3 : ((a1) % 4294967296) ≤ 2047
 ·rw [if_pos c3] at H
  have c3b0 : decide (((a1) % 4294967296) ≤ 2047) = true := decide_eq_true c3
  clear c3
  obtain ⟨y412,hy412⟩ : ∃ y_ : List Int,y_ = (([Go.bits .or .u8 192 ((a1 / 64) % 256),128 + (a1 % 64)] : List Int)) := ⟨_,rfl⟩
  replace H : (if l0.length + y412.length < 140737488355328 then (some (l0 ++ y412)) else (none)) = some r := by first | (rw [hy412];with_reducible exact H) | (have H2_ := (Option.bind_some _ _).symm.trans H;rw [hy412];with_reducible exact H2_) | (have H2_ := (Option.bind_some _ _).symm.trans H;with_reducible exact H2_) | with_reducible exact H | (rw [hy412];exact H) | exact H
  have Ny412 := Aside0.mk hy412
  clear hy412
  by_cases c4 : l0.length + y412.length < 140737488355328
  ·rw [if_pos c4] at H
   have LMc4 := Aside0.mk c4
   clear c4
   obtain ⟨y415,hy415⟩ : ∃ y_ : List Int,y_ = (l0 ++ y412) := ⟨_,rfl⟩
   replace H : (some y415) = some r := by first | (rw [hy415];with_reducible exact H) | (have H2_ := (Option.bind_some _ _).symm.trans H;rw [hy415];with_reducible exact H2_) | (have H2_ := (Option.bind_some _ _).symm.trans H;with_reducible exact H2_) | with_reducible exact H | (rw [hy415];exact H) | exact H
   have Ny415 := Aside0.mk hy415
   clear hy415
   obtain rfl := Option.some.inj H
   go_enter Tryd.func73,Tryd.ntmps73
   go_wp2_with (first | ((with_reducible refine gate_dst (N := 23) rfl ?_);refine Kd.R_lit (Kd.int .u8) _ 5 ?hg (N := 23) ?hd (xs := ([Go.bits .or .u8 192 ((a1 / 64) % 256),128 + (a1 % 64)] : List Int)) (inner := [.int .u8 (Go.bits .or .u8 192 ((a1 / 64) % 256)),.int .u8 (128 + (a1 % 64))]) (ok := fun _ => True) (okp := fun _ => True) ?hr ?hp (fun _ hk => hk) trivial (Below.refl _ _) (Nat.le_refl _) (by simp) ?_;(case hd => rfl);(case hg => rfl);(case hr => first | (go_simp;done) | (go_simp;rfl));(case hp => exact (Reps.one (show Kd.M (Kd.int .u8) _ _ _ (Go.bits .or .u8 192 ((a1 / 64) % 256)) [.int .u8 (Go.bits .or .u8 192 ((a1 / 64) % 256))] from rfl) (Reps.one (show Kd.M (Kd.int .u8) _ _ _ (128 + (a1 % 64)) [.int .u8 (128 + (a1 % 64))] from rfl) (Reps.none _ _))));intro v413 w5 ho6 hb hg_ hnew_;clear hg_ hnew_;(first | rw [← Ny412.out] at ho6 | (simp only [Int.reduceToNat] at ho6;rw [← Ny412.out] at ho6));have n0_ := Aside0.mk (Kd.R_elder' (by (with_reducible repeat (first | apply Kd.R_alloc | apply Kd.R_drewN | apply Kd.R_drew));exact HO0.out) (Kd.R_base ho6) hb);have n1_ := Aside0.mk (Kd.R_lower (Kd.R_new' (Kd.R_newM (M := fun k_ => (P0_ k_ ∨ w.heap.size ≤ k_)) ho6 au9 (fun k_ h_ => .inr h_)) (Kd.R_lt (by (with_reducible repeat (first | apply Kd.R_alloc | apply Kd.R_drewN | apply Kd.R_drew));exact HO0.out))) (below_size au0));have n2_ := Aside0.mk (Kept.below (S := (fun k_ => P0_ k_)) au12 hb);have n3_ := Aside0.mk (below_step au0 hb);clear HO0;clear HK;clear HB;have HO0 := n0_;have HO414 := n1_;have HK := n2_;have HB := n3_;clear n0_ n1_ n2_ n3_;clear hb ho6;obtain ⟨Ao8,co8,eo8⟩ := Kd.R_slice HO414.out;subst eo8) | ((with_reducible refine gate_builtin (b := .append) (xs := #[.tmp 14,.tmp 23]) rfl ?_);at_builtin;refine Kd.R_append_rows (Kd.int .u8) (w0 := w0) w0.heap.size rfl (.tmp 14) (.tmp 23) 66 5 (.int .u8 0) 1 rfl Tryd.underlying66 info5 rfl (by decide) (by omega) u9000_ l0 y412 _ _ _ (fun k_ => (P0_ k_ ∨ w.heap.size ≤ k_) ∧ some k_ ≠ (.slice Ao8 y412.length co8 : Value).ownBlock) (fun _ => False) rfl rfl ?aO ?aR (fun _ _ h => h) (fun _ h => h.elim) ?aF ?aB ?aS ?aL ?_;(case aR => repeat (first | exact (Kd.R_reads' HO414.out).2.2 | (with_reducible refine Kd.C_alloc ?_ _) | (with_reducible refine Kd.C_drewN ?_ _) | (with_reducible refine Kd.C_drew ?_)));(case aB => exact au0);(case aF => exact (fun k_ hk => ⟨(.inr (Nat.le_trans au9 hk)),Kd.fresh' (Kd.R_lt (by (with_reducible repeat (first | apply Kd.R_alloc | apply Kd.R_drewN | apply Kd.R_drew));exact HO414.out)) k_ hk⟩));(case aO => exact (by (with_reducible repeat (first | apply Kd.R_alloc | apply Kd.R_drewN | apply Kd.R_drew));exact HO0.out));(case aS => exact (below_size au0));(case aL => have := LMc4.out;omega);intro v416 w7 ho hb hg hat;rw [← Ny415.out] at ho;have n0_ := Aside0.mk (Kd.R_after (ok := (fun k_ => (P0_ k_ ∨ w.heap.size ≤ k_))) (by (with_reducible repeat (first | apply Kd.R_alloc | apply Kd.R_drewN | apply Kd.R_drew));exact Kd.R_mono HO414.out (fun _ hk => ⟨hk.1.1,hk.2⟩)) hg hat);have n1_ := Aside0.mk (hb);have n2_ := Aside0.mk (Kept.of_grown (S := (fun k_ => P0_ k_)) hg au12 (fun k_ e_ => (HO0.out.1 k_ e_).1));have n3_ := Aside0.mk (ho);clear HO414;clear HB;clear HK;clear HO0;have HO414 := n0_;have HB := n1_;have HK := n2_;have HO417 := n3_;clear n0_ n1_ n2_ n3_;clear ho hb hg hat))
   go_ret
   exact ⟨_,by first | rfl | (simp [errW_none,errW_some] <;> rfl) | (simp [*,errW_none,errW_some] <;> rfl),by (with_reducible repeat (first | apply Kd.R_alloc | apply Kd.R_drewN | apply Kd.R_drew));exact Kd.R_mono HO417.out (fun _ hk => hk.1),by repeat (first | (with_reducible first | exact HB.out | apply below_alloc | apply pw_below_drewN | apply below_drew1) | exact HB.out),by repeat (first | (with_reducible first | exact HK.out | apply Kept.alloc | apply Kept.drewN | apply Kept.drew) | exact HK.out)⟩
  ·rw [if_neg c4] at H
   exact absurd H (by simp)
 ·rw [if_neg c3] at H
  have c3b0 : decide (((a1) % 4294967296) ≤ 2047) = false := decide_eq_false c3
  clear c3
  have HC9 := Aside0.mk H
  clear H
  go_enter Tryd.func73,Tryd.ntmps73
  go_upto_if 25 with (fail)
  go_cut [25] (fun v25 wc => ∃ (kq : Nat) (x25_8 : Bool),v25 = .bool x25_8 ∧ Aside0 (utf8_appendRuneNonASCII.j0 kq l0 a1 ((a1) % 4294967296) x25_8 = some r) ∧ Aside0 (kq ≤ k) ∧ Aside0 (Kd.R (Kd.int .u8) 5 wc w0.heap.size (fun k_ => (P0_ k_ ∨ w.heap.size ≤ k_)) u9000_ l0) ∧ Aside0 (Kept w wc (fun k_ => P0_ k_)) ∧ Aside0 (Below w0.heap.size w0 wc))
  case first =>
   have H := HC9.out
   clear HC9
   by_cases c10 : ((a1) % 4294967296) < 55296
   ·rw [if_pos c10] at H
    have c10b0 : decide (((a1) % 4294967296) < 55296) = true := decide_eq_true c10
    clear c10
    (first | rw [c10b0] | (simp only [i64_w,i32_w];rw [c10b0]) | skip)
    have H' := Aside0.mk H
    clear H
    go_wp2
    go_meet
    case rel => exact ⟨_,(decide (((a1) % 4294967296) < 55296)),au4,H',⟨by first | omega | exact Nat.le_refl _⟩,⟨by (with_reducible repeat (first | apply Kd.R_alloc | apply Kd.R_drewN | apply Kd.R_drew));exact HO0.out⟩,⟨by repeat (first | (with_reducible first | exact HK.out | apply Kept.alloc | apply Kept.drewN | apply Kept.drew) | exact HK.out)⟩,⟨au0⟩⟩
   ·rw [if_neg c10] at H
    have c10b0 : decide (((a1) % 4294967296) < 55296) = false := decide_eq_false c10
    clear c10
    (first | rw [c10b0] | (simp only [i64_w,i32_w];rw [c10b0]) | skip)
    by_cases c11 : 57343 < ((a1) % 4294967296)
    ·rw [if_pos c11] at H
     have c11b0 : decide (57343 < ((a1) % 4294967296)) = true := decide_eq_true c11
     clear c11
     have H' := Aside0.mk H
     clear H
     go_wp2
     go_meet
     case rel => exact ⟨_,(decide (((a1) % 4294967296) ≤ 65535)),au4,H',⟨by first | omega | exact Nat.le_refl _⟩,⟨by (with_reducible repeat (first | apply Kd.R_alloc | apply Kd.R_drewN | apply Kd.R_drew));exact HO0.out⟩,⟨by repeat (first | (with_reducible first | exact HK.out | apply Kept.alloc | apply Kept.drewN | apply Kept.drew) | exact HK.out)⟩,⟨au0⟩⟩
    ·rw [if_neg c11] at H
     have c11b0 : decide (57343 < ((a1) % 4294967296)) = false := decide_eq_false c11
     clear c11
     have H' := Aside0.mk H
     clear H
     go_wp2
     go_meet
     case rel => exact ⟨_,(false),au4,H',⟨by first | omega | exact Nat.le_refl _⟩,⟨by (with_reducible repeat (first | apply Kd.R_alloc | apply Kd.R_drewN | apply Kd.R_drew));exact HO0.out⟩,⟨by repeat (first | (with_reducible first | exact HK.out | apply Kept.alloc | apply Kept.drewN | apply Kept.drew) | exact HK.out)⟩,⟨au0⟩⟩
  case rest =>
   clear HC9
   try clear c1
   try clear p2
   try clear c3
   try clear c3b0
   try clear c4
   try clear c7
   try clear c10
   try clear c10b0
   try clear c11
   try clear c11b0
   obtain ⟨kq,x25_8,rfl,HA,HJ8,HO_0,HK,HB⟩ := hcut
   cases kq with
   | zero => exact absurd HA.out (by simp [utf8_appendRuneNonASCII.j0])
   | succ kj8 =>
    have H := HA.out
    clear HA
    simp only [utf8_appendRuneNonASCII.j0] at H
    by_cases c12 : x25_8 = true
    ·subst c12
     have H1 : ((some (([Go.bits .or .u8 224 ((a1 / 4096) % 256),128 + ((a1 / 64) % 64),128 + (a1 % 64)] : List Int) : List Int)).bind fun y418 => (if l0.length + y418.length < 140737488355328 then (some (l0 ++ y418)) else (none))) = some r := by rw [if_pos rfl] at H;exact H
     clear H
     have H := H1
     clear H1
     obtain ⟨y418,hy418⟩ : ∃ y_ : List Int,y_ = (([Go.bits .or .u8 224 ((a1 / 4096) % 256),128 + ((a1 / 64) % 64),128 + (a1 % 64)] : List Int)) := ⟨_,rfl⟩
     replace H : (if l0.length + y418.length < 140737488355328 then (some (l0 ++ y418)) else (none)) = some r := by first | (rw [hy418];with_reducible exact H) | (have H2_ := (Option.bind_some _ _).symm.trans H;rw [hy418];with_reducible exact H2_) | (have H2_ := (Option.bind_some _ _).symm.trans H;with_reducible exact H2_) | with_reducible exact H | (rw [hy418];exact H) | exact H
     have Ny418 := Aside0.mk hy418
     clear hy418
     by_cases c13 : l0.length + y418.length < 140737488355328
     ·rw [if_pos c13] at H
      have LMc13 := Aside0.mk c13
      clear c13
      obtain ⟨y421,hy421⟩ : ∃ y_ : List Int,y_ = (l0 ++ y418) := ⟨_,rfl⟩
      replace H : (some y421) = some r := by first | (rw [hy421];with_reducible exact H) | (have H2_ := (Option.bind_some _ _).symm.trans H;rw [hy421];with_reducible exact H2_) | (have H2_ := (Option.bind_some _ _).symm.trans H;with_reducible exact H2_) | with_reducible exact H | (rw [hy421];exact H) | exact H
      have Ny421 := Aside0.mk hy421
      clear hy421
      obtain rfl := Option.some.inj H
      go_wp2_with (first | ((with_reducible refine gate_dst (N := 48) rfl ?_);refine Kd.R_lit (Kd.int .u8) _ 5 ?hg (N := 48) ?hd (xs := ([Go.bits .or .u8 224 ((a1 / 4096) % 256),128 + ((a1 / 64) % 64),128 + (a1 % 64)] : List Int)) (inner := [.int .u8 (Go.bits .or .u8 224 ((a1 / 4096) % 256)),.int .u8 (128 + ((a1 / 64) % 64)),.int .u8 (128 + (a1 % 64))]) (ok := fun _ => True) (okp := fun _ => True) ?hr ?hp (fun _ hk => hk) trivial (Below.refl _ _) (Nat.le_refl _) (by simp) ?_;(case hd => rfl);(case hg => rfl);(case hr => first | (go_simp;done) | (go_simp;rfl));(case hp => exact (Reps.one (show Kd.M (Kd.int .u8) _ _ _ (Go.bits .or .u8 224 ((a1 / 4096) % 256)) [.int .u8 (Go.bits .or .u8 224 ((a1 / 4096) % 256))] from rfl) (Reps.one (show Kd.M (Kd.int .u8) _ _ _ (128 + ((a1 / 64) % 64)) [.int .u8 (128 + ((a1 / 64) % 64))] from rfl) (Reps.one (show Kd.M (Kd.int .u8) _ _ _ (128 + (a1 % 64)) [.int .u8 (128 + (a1 % 64))] from rfl) (Reps.none _ _)))));intro v419 w14 ho15 hb hg_ hnew_;clear hg_ hnew_;(first | rw [← Ny418.out] at ho15 | (simp only [Int.reduceToNat] at ho15;rw [← Ny418.out] at ho15));have n0_ := Aside0.mk (Kd.R_elder' au16 (Kd.R_base ho15) hb);have n1_ := Aside0.mk (Kd.R_lower (Kd.R_new' (Kd.R_newM (M := fun k_ => (P0_ k_ ∨ w.heap.size ≤ k_)) ho15 au9 (fun k_ h_ => .inr h_)) (Kd.R_lt au16)) (below_size au0));have n2_ := Aside0.mk (Kept.below (S := (fun k_ => P0_ k_)) au12 hb);have n3_ := Aside0.mk (below_step au0 hb);clear HO_0;clear HK;clear HB;have HO_0 := n0_;have HO420 := n1_;have HK := n2_;have HB := n3_;clear n0_ n1_ n2_ n3_;clear hb ho15;obtain ⟨Ao17,co17,eo17⟩ := Kd.R_slice HO420.out;subst eo17) | ((with_reducible refine gate_builtin (b := .append) (xs := #[.tmp 34,.tmp 48]) rfl ?_);at_builtin;refine Kd.R_append_rows (Kd.int .u8) (w0 := w0) w0.heap.size rfl (.tmp 34) (.tmp 48) 66 5 (.int .u8 0) 1 rfl Tryd.underlying66 info5 rfl (by decide) (by omega) u9000_ l0 y418 _ _ _ (fun k_ => (P0_ k_ ∨ w.heap.size ≤ k_) ∧ some k_ ≠ (.slice Ao17 y418.length co17 : Value).ownBlock) (fun _ => False) rfl rfl ?aO ?aR (fun _ _ h => h) (fun _ h => h.elim) ?aF ?aB ?aS ?aL ?_;(case aR => repeat (first | exact (Kd.R_reads' HO420.out).2.2 | (with_reducible refine Kd.C_alloc ?_ _) | (with_reducible refine Kd.C_drewN ?_ _) | (with_reducible refine Kd.C_drew ?_)));(case aB => exact au0);(case aF => exact (fun k_ hk => ⟨(.inr (Nat.le_trans au9 hk)),Kd.fresh' (Kd.R_lt (by (with_reducible repeat (first | apply Kd.R_alloc | apply Kd.R_drewN | apply Kd.R_drew));exact HO420.out)) k_ hk⟩));(case aO => exact au16);(case aS => exact (below_size au0));(case aL => have := LMc13.out;omega);intro v422 w16 ho hb hg hat;rw [← Ny421.out] at ho;have n0_ := Aside0.mk (Kd.R_after (ok := (fun k_ => (P0_ k_ ∨ w.heap.size ≤ k_))) (by (with_reducible repeat (first | apply Kd.R_alloc | apply Kd.R_drewN | apply Kd.R_drew));exact Kd.R_mono HO420.out (fun _ hk => ⟨hk.1.1,hk.2⟩)) hg hat);have n1_ := Aside0.mk (hb);have n2_ := Aside0.mk (Kept.of_grown (S := (fun k_ => P0_ k_)) hg au12 (fun k_ e_ => (HO_0.out.1 k_ e_).1));have n3_ := Aside0.mk (ho);clear HO420;clear HB;clear HK;clear HO_0;have HO420 := n0_;have HB := n1_;have HK := n2_;have HO423 := n3_;clear n0_ n1_ n2_ n3_;clear ho hb hg hat))
      go_ret
      exact ⟨_,by first | rfl | (simp [errW_none,errW_some] <;> rfl) | (simp [*,errW_none,errW_some] <;> rfl),by (with_reducible repeat (first | apply Kd.R_alloc | apply Kd.R_drewN | apply Kd.R_drew));exact Kd.R_mono HO423.out (fun _ hk => hk.1),by repeat (first | (with_reducible first | exact HB.out | apply below_alloc | apply pw_below_drewN | apply below_drew1) | exact HB.out),by repeat (first | (with_reducible first | exact HK.out | apply Kept.alloc | apply Kept.drewN | apply Kept.drew) | exact HK.out)⟩
     ·rw [if_neg c13] at H
      exact absurd H (by simp)
    ·replace c12 := Bool.eq_false_iff.mpr c12
     subst c12
     have H1 : (if ((a1) % 4294967296) > 65535 then (if ((a1) % 4294967296) ≤ 1114111 then ((some (([Go.bits .or .u8 240 ((a1 / 262144) % 256),128 + ((a1 / 4096) % 64),128 + ((a1 / 64) % 64),128 + (a1 % 64)] : List Int) : List Int)).bind fun y424 => (if l0.length + y424.length < 140737488355328 then (some (l0 ++ y424)) else (none))) else ((some (([239,191,189] : List Int) : List Int)).bind fun y430 => (if l0.length + y430.length < 140737488355328 then (some (l0 ++ y430)) else (none)))) else ((some (([239,191,189] : List Int) : List Int)).bind fun y436 => (if l0.length + y436.length < 140737488355328 then (some (l0 ++ y436)) else (none)))) = some r := by rw [if_neg (show ¬ (false = true) by decide)] at H;exact H
     clear H
     have H := H1
     clear H1
     by_cases c18 : ((a1) % 4294967296) > 65535
     ·rw [if_pos c18] at H
      have c18b0 : decide (65535 < ((a1) % 4294967296)) = true := decide_eq_true c18
      clear c18
      by_cases c19 : ((a1) % 4294967296) ≤ 1114111
      ·rw [if_pos c19] at H
       have c19b0 : decide (((a1) % 4294967296) ≤ 1114111) = true := decide_eq_true c19
       clear c19
       obtain ⟨y424,hy424⟩ : ∃ y_ : List Int,y_ = (([Go.bits .or .u8 240 ((a1 / 262144) % 256),128 + ((a1 / 4096) % 64),128 + ((a1 / 64) % 64),128 + (a1 % 64)] : List Int)) := ⟨_,rfl⟩
       replace H : (if l0.length + y424.length < 140737488355328 then (some (l0 ++ y424)) else (none)) = some r := by first | (rw [hy424];with_reducible exact H) | (have H2_ := (Option.bind_some _ _).symm.trans H;rw [hy424];with_reducible exact H2_) | (have H2_ := (Option.bind_some _ _).symm.trans H;with_reducible exact H2_) | with_reducible exact H | (rw [hy424];exact H) | exact H
       have Ny424 := Aside0.mk hy424
       clear hy424
       by_cases c20 : l0.length + y424.length < 140737488355328
       ·rw [if_pos c20] at H
        have LMc20 := Aside0.mk c20
        clear c20
        obtain ⟨y427,hy427⟩ : ∃ y_ : List Int,y_ = (l0 ++ y424) := ⟨_,rfl⟩
        replace H : (some y427) = some r := by first | (rw [hy427];with_reducible exact H) | (have H2_ := (Option.bind_some _ _).symm.trans H;rw [hy427];with_reducible exact H2_) | (have H2_ := (Option.bind_some _ _).symm.trans H;with_reducible exact H2_) | with_reducible exact H | (rw [hy427];exact H) | exact H
        have Ny427 := Aside0.mk hy427
        clear hy427
        obtain rfl := Option.some.inj H
        go_wp2_with (first | ((with_reducible refine gate_dst (N := 76) rfl ?_);refine Kd.R_lit (Kd.int .u8) _ 5 ?hg (N := 76) ?hd (xs := ([Go.bits .or .u8 240 ((a1 / 262144) % 256),128 + ((a1 / 4096) % 64),128 + ((a1 / 64) % 64),128 + (a1 % 64)] : List Int)) (inner := [.int .u8 (Go.bits .or .u8 240 ((a1 / 262144) % 256)),.int .u8 (128 + ((a1 / 4096) % 64)),.int .u8 (128 + ((a1 / 64) % 64)),.int .u8 (128 + (a1 % 64))]) (ok := fun _ => True) (okp := fun _ => True) ?hr ?hp (fun _ hk => hk) trivial (Below.refl _ _) (Nat.le_refl _) (by simp) ?_;(case hd => rfl);(case hg => rfl);(case hr => first | (go_simp;done) | (go_simp;rfl));(case hp => exact (Reps.one (show Kd.M (Kd.int .u8) _ _ _ (Go.bits .or .u8 240 ((a1 / 262144) % 256)) [.int .u8 (Go.bits .or .u8 240 ((a1 / 262144) % 256))] from rfl) (Reps.one (show Kd.M (Kd.int .u8) _ _ _ (128 + ((a1 / 4096) % 64)) [.int .u8 (128 + ((a1 / 4096) % 64))] from rfl) (Reps.one (show Kd.M (Kd.int .u8) _ _ _ (128 + ((a1 / 64) % 64)) [.int .u8 (128 + ((a1 / 64) % 64))] from rfl) (Reps.one (show Kd.M (Kd.int .u8) _ _ _ (128 + (a1 % 64)) [.int .u8 (128 + (a1 % 64))] from rfl) (Reps.none _ _))))));intro v425 w21 ho22 hb hg_ hnew_;clear hg_ hnew_;(first | rw [← Ny424.out] at ho22 | (simp only [Int.reduceToNat] at ho22;rw [← Ny424.out] at ho22));have n0_ := Aside0.mk (Kd.R_elder' au16 (Kd.R_base ho22) hb);have n1_ := Aside0.mk (Kd.R_lower (Kd.R_new' (Kd.R_newM (M := fun k_ => (P0_ k_ ∨ w.heap.size ≤ k_)) ho22 au9 (fun k_ h_ => .inr h_)) (Kd.R_lt au16)) (below_size au0));have n2_ := Aside0.mk (Kept.below (S := (fun k_ => P0_ k_)) au12 hb);have n3_ := Aside0.mk (below_step au0 hb);clear HO_0;clear HK;clear HB;have HO_0 := n0_;have HO426 := n1_;have HK := n2_;have HB := n3_;clear n0_ n1_ n2_ n3_;clear hb ho22;obtain ⟨Ao24,co24,eo24⟩ := Kd.R_slice HO426.out;subst eo24) | ((with_reducible refine gate_builtin (b := .append) (xs := #[.tmp 57,.tmp 76]) rfl ?_);at_builtin;refine Kd.R_append_rows (Kd.int .u8) (w0 := w0) w0.heap.size rfl (.tmp 57) (.tmp 76) 66 5 (.int .u8 0) 1 rfl Tryd.underlying66 info5 rfl (by decide) (by omega) u9000_ l0 y424 _ _ _ (fun k_ => (P0_ k_ ∨ w.heap.size ≤ k_) ∧ some k_ ≠ (.slice Ao24 y424.length co24 : Value).ownBlock) (fun _ => False) rfl rfl ?aO ?aR (fun _ _ h => h) (fun _ h => h.elim) ?aF ?aB ?aS ?aL ?_;(case aR => repeat (first | exact (Kd.R_reads' HO426.out).2.2 | (with_reducible refine Kd.C_alloc ?_ _) | (with_reducible refine Kd.C_drewN ?_ _) | (with_reducible refine Kd.C_drew ?_)));(case aB => exact au0);(case aF => exact (fun k_ hk => ⟨(.inr (Nat.le_trans au9 hk)),Kd.fresh' (Kd.R_lt (by (with_reducible repeat (first | apply Kd.R_alloc | apply Kd.R_drewN | apply Kd.R_drew));exact HO426.out)) k_ hk⟩));(case aO => exact au16);(case aS => exact (below_size au0));(case aL => have := LMc20.out;omega);intro v428 w23 ho hb hg hat;rw [← Ny427.out] at ho;have n0_ := Aside0.mk (Kd.R_after (ok := (fun k_ => (P0_ k_ ∨ w.heap.size ≤ k_))) (by (with_reducible repeat (first | apply Kd.R_alloc | apply Kd.R_drewN | apply Kd.R_drew));exact Kd.R_mono HO426.out (fun _ hk => ⟨hk.1.1,hk.2⟩)) hg hat);have n1_ := Aside0.mk (hb);have n2_ := Aside0.mk (Kept.of_grown (S := (fun k_ => P0_ k_)) hg au12 (fun k_ e_ => (HO_0.out.1 k_ e_).1));have n3_ := Aside0.mk (ho);clear HO426;clear HB;clear HK;clear HO_0;have HO426 := n0_;have HB := n1_;have HK := n2_;have HO429 := n3_;clear n0_ n1_ n2_ n3_;clear ho hb hg hat))
        go_ret
        exact ⟨_,by first | rfl | (simp [errW_none,errW_some] <;> rfl) | (simp [*,errW_none,errW_some] <;> rfl),by (with_reducible repeat (first | apply Kd.R_alloc | apply Kd.R_drewN | apply Kd.R_drew));exact Kd.R_mono HO429.out (fun _ hk => hk.1),by repeat (first | (with_reducible first | exact HB.out | apply below_alloc | apply pw_below_drewN | apply below_drew1) | exact HB.out),by repeat (first | (with_reducible first | exact HK.out | apply Kept.alloc | apply Kept.drewN | apply Kept.drew) | exact HK.out)⟩
       ·rw [if_neg c20] at H
        exact absurd H (by simp)
      ·rw [if_neg c19] at H
       have c19b0 : decide (((a1) % 4294967296) ≤ 1114111) = false := decide_eq_false c19
       clear c19
       obtain ⟨y430,hy430⟩ : ∃ y_ : List Int,y_ = (([239,191,189] : List Int)) := ⟨_,rfl⟩
       replace H : (if l0.length + y430.length < 140737488355328 then (some (l0 ++ y430)) else (none)) = some r := by first | (rw [hy430];with_reducible exact H) | (have H2_ := (Option.bind_some _ _).symm.trans H;rw [hy430];with_reducible exact H2_) | (have H2_ := (Option.bind_some _ _).symm.trans H;with_reducible exact H2_) | with_reducible exact H | (rw [hy430];exact H) | exact H
       have Ny430 := Aside0.mk hy430
       clear hy430
       by_cases c25 : l0.length + y430.length < 140737488355328
       ·rw [if_pos c25] at H
        have LMc25 := Aside0.mk c25
        clear c25
        obtain ⟨y433,hy433⟩ : ∃ y_ : List Int,y_ = (l0 ++ y430) := ⟨_,rfl⟩
        replace H : (some y433) = some r := by first | (rw [hy433];with_reducible exact H) | (have H2_ := (Option.bind_some _ _).symm.trans H;rw [hy433];with_reducible exact H2_) | (have H2_ := (Option.bind_some _ _).symm.trans H;with_reducible exact H2_) | with_reducible exact H | (rw [hy433];exact H) | exact H
        have Ny433 := Aside0.mk hy433
        clear hy433
        obtain rfl := Option.some.inj H
        go_wp2_with (first | ((with_reducible refine gate_dst (N := 9) rfl ?_);refine Kd.R_lit (Kd.int .u8) _ 5 ?hg (N := 9) ?hd (xs := ([239,191,189] : List Int)) (inner := [.int .u8 239,.int .u8 191,.int .u8 189]) (ok := fun _ => True) (okp := fun _ => True) ?hr ?hp (fun _ hk => hk) trivial (Below.refl _ _) (Nat.le_refl _) (by simp) ?_;(case hd => rfl);(case hg => rfl);(case hr => first | (go_simp;done) | (go_simp;rfl));(case hp => exact (Reps.one (show Kd.M (Kd.int .u8) _ _ _ 239 [.int .u8 239] from rfl) (Reps.one (show Kd.M (Kd.int .u8) _ _ _ 191 [.int .u8 191] from rfl) (Reps.one (show Kd.M (Kd.int .u8) _ _ _ 189 [.int .u8 189] from rfl) (Reps.none _ _)))));intro v431 w26 ho27 hb hg_ hnew_;clear hg_ hnew_;(first | rw [← Ny430.out] at ho27 | (simp only [Int.reduceToNat] at ho27;rw [← Ny430.out] at ho27));have n0_ := Aside0.mk (Kd.R_elder' au16 (Kd.R_base ho27) hb);have n1_ := Aside0.mk (Kd.R_lower (Kd.R_new' (Kd.R_newM (M := fun k_ => (P0_ k_ ∨ w.heap.size ≤ k_)) ho27 au9 (fun k_ h_ => .inr h_)) (Kd.R_lt au16)) (below_size au0));have n2_ := Aside0.mk (Kept.below (S := (fun k_ => P0_ k_)) au12 hb);have n3_ := Aside0.mk (below_step au0 hb);clear HO_0;clear HK;clear HB;have HO_0 := n0_;have HO432 := n1_;have HK := n2_;have HB := n3_;clear n0_ n1_ n2_ n3_;clear hb ho27;obtain ⟨Ao29,co29,eo29⟩ := Kd.R_slice HO432.out;subst eo29) | ((with_reducible refine gate_builtin (b := .append) (xs := #[.tmp 8,.tmp 9]) rfl ?_);at_builtin;refine Kd.R_append_rows (Kd.int .u8) (w0 := w0) w0.heap.size rfl (.tmp 8) (.tmp 9) 66 5 (.int .u8 0) 1 rfl Tryd.underlying66 info5 rfl (by decide) (by omega) u9000_ l0 y430 _ _ _ (fun k_ => (P0_ k_ ∨ w.heap.size ≤ k_) ∧ some k_ ≠ (.slice Ao29 y430.length co29 : Value).ownBlock) (fun _ => False) rfl rfl ?aO ?aR (fun _ _ h => h) (fun _ h => h.elim) ?aF ?aB ?aS ?aL ?_;(case aR => repeat (first | exact (Kd.R_reads' HO432.out).2.2 | (with_reducible refine Kd.C_alloc ?_ _) | (with_reducible refine Kd.C_drewN ?_ _) | (with_reducible refine Kd.C_drew ?_)));(case aB => exact au0);(case aF => exact (fun k_ hk => ⟨(.inr (Nat.le_trans au9 hk)),Kd.fresh' (Kd.R_lt (by (with_reducible repeat (first | apply Kd.R_alloc | apply Kd.R_drewN | apply Kd.R_drew));exact HO432.out)) k_ hk⟩));(case aO => exact au16);(case aS => exact (below_size au0));(case aL => have := LMc25.out;omega);intro v434 w28 ho hb hg hat;rw [← Ny433.out] at ho;have n0_ := Aside0.mk (Kd.R_after (ok := (fun k_ => (P0_ k_ ∨ w.heap.size ≤ k_))) (by (with_reducible repeat (first | apply Kd.R_alloc | apply Kd.R_drewN | apply Kd.R_drew));exact Kd.R_mono HO432.out (fun _ hk => ⟨hk.1.1,hk.2⟩)) hg hat);have n1_ := Aside0.mk (hb);have n2_ := Aside0.mk (Kept.of_grown (S := (fun k_ => P0_ k_)) hg au12 (fun k_ e_ => (HO_0.out.1 k_ e_).1));have n3_ := Aside0.mk (ho);clear HO432;clear HB;clear HK;clear HO_0;have HO432 := n0_;have HB := n1_;have HK := n2_;have HO435 := n3_;clear n0_ n1_ n2_ n3_;clear ho hb hg hat))
        go_ret
        exact ⟨_,by first | rfl | (simp [errW_none,errW_some] <;> rfl) | (simp [*,errW_none,errW_some] <;> rfl),by (with_reducible repeat (first | apply Kd.R_alloc | apply Kd.R_drewN | apply Kd.R_drew));exact Kd.R_mono HO435.out (fun _ hk => hk.1),by repeat (first | (with_reducible first | exact HB.out | apply below_alloc | apply pw_below_drewN | apply below_drew1) | exact HB.out),by repeat (first | (with_reducible first | exact HK.out | apply Kept.alloc | apply Kept.drewN | apply Kept.drew) | exact HK.out)⟩
       ·rw [if_neg c25] at H
        exact absurd H (by simp)
     ·rw [if_neg c18] at H
      have c18b0 : decide (65535 < ((a1) % 4294967296)) = false := decide_eq_false c18
      clear c18
      obtain ⟨y436,hy436⟩ : ∃ y_ : List Int,y_ = (([239,191,189] : List Int)) := ⟨_,rfl⟩
      replace H : (if l0.length + y436.length < 140737488355328 then (some (l0 ++ y436)) else (none)) = some r := by first | (rw [hy436];with_reducible exact H) | (have H2_ := (Option.bind_some _ _).symm.trans H;rw [hy436];with_reducible exact H2_) | (have H2_ := (Option.bind_some _ _).symm.trans H;with_reducible exact H2_) | with_reducible exact H | (rw [hy436];exact H) | exact H
      have Ny436 := Aside0.mk hy436
      clear hy436
      by_cases c30 : l0.length + y436.length < 140737488355328
      ·rw [if_pos c30] at H
       have LMc30 := Aside0.mk c30
       clear c30
       obtain ⟨y439,hy439⟩ : ∃ y_ : List Int,y_ = (l0 ++ y436) := ⟨_,rfl⟩
       replace H : (some y439) = some r := by first | (rw [hy439];with_reducible exact H) | (have H2_ := (Option.bind_some _ _).symm.trans H;rw [hy439];with_reducible exact H2_) | (have H2_ := (Option.bind_some _ _).symm.trans H;with_reducible exact H2_) | with_reducible exact H | (rw [hy439];exact H) | exact H
       have Ny439 := Aside0.mk hy439
       clear hy439
       obtain rfl := Option.some.inj H
       go_wp2_with (first | ((with_reducible refine gate_dst (N := 9) rfl ?_);refine Kd.R_lit (Kd.int .u8) _ 5 ?hg (N := 9) ?hd (xs := ([239,191,189] : List Int)) (inner := [.int .u8 239,.int .u8 191,.int .u8 189]) (ok := fun _ => True) (okp := fun _ => True) ?hr ?hp (fun _ hk => hk) trivial (Below.refl _ _) (Nat.le_refl _) (by simp) ?_;(case hd => rfl);(case hg => rfl);(case hr => first | (go_simp;done) | (go_simp;rfl));(case hp => exact (Reps.one (show Kd.M (Kd.int .u8) _ _ _ 239 [.int .u8 239] from rfl) (Reps.one (show Kd.M (Kd.int .u8) _ _ _ 191 [.int .u8 191] from rfl) (Reps.one (show Kd.M (Kd.int .u8) _ _ _ 189 [.int .u8 189] from rfl) (Reps.none _ _)))));intro v437 w31 ho32 hb hg_ hnew_;clear hg_ hnew_;(first | rw [← Ny436.out] at ho32 | (simp only [Int.reduceToNat] at ho32;rw [← Ny436.out] at ho32));have n0_ := Aside0.mk (Kd.R_elder' au16 (Kd.R_base ho32) hb);have n1_ := Aside0.mk (Kd.R_lower (Kd.R_new' (Kd.R_newM (M := fun k_ => (P0_ k_ ∨ w.heap.size ≤ k_)) ho32 au9 (fun k_ h_ => .inr h_)) (Kd.R_lt au16)) (below_size au0));have n2_ := Aside0.mk (Kept.below (S := (fun k_ => P0_ k_)) au12 hb);have n3_ := Aside0.mk (below_step au0 hb);clear HO_0;clear HK;clear HB;have HO_0 := n0_;have HO438 := n1_;have HK := n2_;have HB := n3_;clear n0_ n1_ n2_ n3_;clear hb ho32;obtain ⟨Ao34,co34,eo34⟩ := Kd.R_slice HO438.out;subst eo34) | ((with_reducible refine gate_builtin (b := .append) (xs := #[.tmp 8,.tmp 9]) rfl ?_);at_builtin;refine Kd.R_append_rows (Kd.int .u8) (w0 := w0) w0.heap.size rfl (.tmp 8) (.tmp 9) 66 5 (.int .u8 0) 1 rfl Tryd.underlying66 info5 rfl (by decide) (by omega) u9000_ l0 y436 _ _ _ (fun k_ => (P0_ k_ ∨ w.heap.size ≤ k_) ∧ some k_ ≠ (.slice Ao34 y436.length co34 : Value).ownBlock) (fun _ => False) rfl rfl ?aO ?aR (fun _ _ h => h) (fun _ h => h.elim) ?aF ?aB ?aS ?aL ?_;(case aR => repeat (first | exact (Kd.R_reads' HO438.out).2.2 | (with_reducible refine Kd.C_alloc ?_ _) | (with_reducible refine Kd.C_drewN ?_ _) | (with_reducible refine Kd.C_drew ?_)));(case aB => exact au0);(case aF => exact (fun k_ hk => ⟨(.inr (Nat.le_trans au9 hk)),Kd.fresh' (Kd.R_lt (by (with_reducible repeat (first | apply Kd.R_alloc | apply Kd.R_drewN | apply Kd.R_drew));exact HO438.out)) k_ hk⟩));(case aO => exact au16);(case aS => exact (below_size au0));(case aL => have := LMc30.out;omega);intro v440 w33 ho hb hg hat;rw [← Ny439.out] at ho;have n0_ := Aside0.mk (Kd.R_after (ok := (fun k_ => (P0_ k_ ∨ w.heap.size ≤ k_))) (by (with_reducible repeat (first | apply Kd.R_alloc | apply Kd.R_drewN | apply Kd.R_drew));exact Kd.R_mono HO438.out (fun _ hk => ⟨hk.1.1,hk.2⟩)) hg hat);have n1_ := Aside0.mk (hb);have n2_ := Aside0.mk (Kept.of_grown (S := (fun k_ => P0_ k_)) hg au12 (fun k_ e_ => (HO_0.out.1 k_ e_).1));have n3_ := Aside0.mk (ho);clear HO438;clear HB;clear HK;clear HO_0;have HO438 := n0_;have HB := n1_;have HK := n2_;have HO441 := n3_;clear n0_ n1_ n2_ n3_;clear ho hb hg hat))
       go_ret
       exact ⟨_,by first | rfl | (simp [errW_none,errW_some] <;> rfl) | (simp [*,errW_none,errW_some] <;> rfl),by (with_reducible repeat (first | apply Kd.R_alloc | apply Kd.R_drewN | apply Kd.R_drew));exact Kd.R_mono HO441.out (fun _ hk => hk.1),by repeat (first | (with_reducible first | exact HB.out | apply below_alloc | apply pw_below_drewN | apply below_drew1) | exact HB.out),by repeat (first | (with_reducible first | exact HK.out | apply Kept.alloc | apply Kept.drewN | apply Kept.drew) | exact HK.out)⟩
      ·rw [if_neg c30] at H
       exact absurd H (by simp)
def utf8_AppendRune.f (k : Nat) (l0 : List Int) (a1 : Int) : Option (List Int) := if ((a1) % 4294967296) ≤ 127 then (if l0.length < 140737488355328 then (some (l0 ++ [(a1) % 256])) else (none)) else ((utf8_appendRuneNonASCII.f k l0 a1).bind fun t445 => (some t445))
set_option maxHeartbeats 8000000 in
set_option maxRecDepth 100000 in
theorem utf8_AppendRune.calls (k : Nat) (P0_ : Nat → Prop) (u9000_ : Value) (l0 : List Int) (a1 : Int) (r : List Int) (w0 w : World) (hB : Below w0.heap.size w0 w) (ho0 : Kd.R (Kd.int .u8) 5 w w0.heap.size P0_ u9000_ l0) (h : utf8_AppendRune.f k l0 a1 = some r) :
  Calls Tryd.prog 53 #[u9000_,.int .i32 a1] w fun e w' => ∃ v0_ : Value,e = .returned (v0_) ∧ Kd.R (Kd.int .u8) 5 w' w0.heap.size (fun k_ => (P0_ k_ ∨ w.heap.size ≤ k_)) v0_ r ∧ Below w0.heap.size w0 w' ∧ Kept w w' (fun k_ => P0_ k_) := by
 have HO0 := Aside0.mk (show Kd.R (Kd.int .u8) 5 w w0.heap.size (fun k_ => (P0_ k_ ∨ w.heap.size ≤ k_)) u9000_ l0 from Kd.R_mono ho0 (fun k_ hk => (.inl hk)))
 have HK := Aside0.mk (Kept.refl w (fun k_ => P0_ k_))
 have HW0 := Aside0.mk hB.size
 have HB := Aside0.mk hB
 clear hB
 have H : (if ((a1) % 4294967296) ≤ 127 then (if l0.length < 140737488355328 then (some (l0 ++ [(a1) % 256])) else (none)) else ((utf8_appendRuneNonASCII.f k l0 a1).bind fun t445 => (some t445))) = some r := h
 clear h
 by_cases c3 : ((a1) % 4294967296) ≤ 127
 ·rw [if_pos c3] at H
  have c3b0 : decide (((a1) % 4294967296) ≤ 127) = true := decide_eq_true c3
  clear c3
  by_cases c4 : l0.length < 140737488355328
  ·rw [if_pos c4] at H
   have LMc4 := Aside0.mk c4
   clear c4
   obtain ⟨y442,hy442⟩ : ∃ y_ : List Int,y_ = (l0 ++ [(a1) % 256]) := ⟨_,rfl⟩
   replace H : (some y442) = some r := by first | (rw [hy442];with_reducible exact H) | (have H2_ := (Option.bind_some _ _).symm.trans H;rw [hy442];with_reducible exact H2_) | (have H2_ := (Option.bind_some _ _).symm.trans H;with_reducible exact H2_) | with_reducible exact H | (rw [hy442];exact H) | exact H
   have Ny442 := Aside0.mk hy442
   clear hy442
   obtain rfl := Option.some.inj H
   go_enter Tryd.func53,Tryd.ntmps53
   go_wp2_with (first | ((with_reducible refine gate_builtin (b := .append) (xs := #[.tmp 8,.tmp 11]) rfl ?_);at_builtin;refine Kd.R_append (Kd.int .u8) (w0 := w0) w0.heap.size rfl (.tmp 8) (.tmp 11) 66 5 (.int .u8 0) 1 rfl Tryd.underlying66 info5 rfl (by decide) (by omega) u9000_ l0 ((a1) % 256) [.int .u8 ((a1) % 256)] (fun k_ => (P0_ k_ ∨ w.heap.size ≤ k_)) (fun _ => False) rfl rfl ?aP (fun _ hk => hk.elim) ?aF ?aO ?aB ?aS ?aL ?_;(case aP => exact rfl);(case aB => exact au0);(case aF => exact (fun k_ hk => (.inr (Nat.le_trans au9 hk))));(case aO => exact (by (with_reducible repeat (first | apply Kd.R_alloc | apply Kd.R_drewN | apply Kd.R_drew));exact HO0.out));(case aS => exact (below_size au0));(case aL => have := LMc4.out;omega);intro v443 w5 ho hb hg hat;rw [← Ny442.out] at ho;have n0_ := Aside0.mk (hb);have n1_ := Aside0.mk (Kept.of_grown (S := (fun k_ => P0_ k_)) hg au12 (fun k_ e_ => (HO0.out.1 k_ e_)));have n2_ := Aside0.mk (ho);clear HB;clear HK;clear HO0;have HB := n0_;have HK := n1_;have HO444 := n2_;clear n0_ n1_ n2_;clear ho hb hg hat))
   go_ret
   exact ⟨_,by first | rfl | (simp [errW_none,errW_some] <;> rfl) | (simp [*,errW_none,errW_some] <;> rfl),by (with_reducible repeat (first | apply Kd.R_alloc | apply Kd.R_drewN | apply Kd.R_drew));exact HO444.out,by repeat (first | (with_reducible first | exact HB.out | apply below_alloc | apply pw_below_drewN | apply below_drew1) | exact HB.out),by repeat (first | (with_reducible first | exact HK.out | apply Kept.alloc | apply Kept.drewN | apply Kept.drew) | exact HK.out)⟩
  ·rw [if_neg c4] at H
   exact absurd H (by simp)
 ·rw [if_neg c3] at H
  have c3b0 : decide (((a1) % 4294967296) ≤ 127) = false := decide_eq_false c3
  clear c3
  replace H := Option.bind_eq_some_iff.mp H
  obtain ⟨t445,A60,H⟩ := H
  replace H : (some t445) = some r := H
  have A6 := Aside0.mk A60
  clear A60
  obtain rfl := Option.some.inj H
  obtain ⟨Ao7,co7,eo7⟩ := Kd.R_slice HO0.out
  subst eo7
  go_enter Tryd.func53,Tryd.ntmps53
  go_wp2_with (first | ((with_reducible refine gate_callee (f := 73) rfl ?_);refine goesL_ (some 15) rfl rfl Tryd.func73 (by kernel_rfl) rfl #[.slice Ao7 l0.length co7,.int .i32 a1] rfl au1 ?_;(with_reducible refine (utf8_appendRuneNonASCII.calls k (fun k_ => some k_ = (.slice Ao7 l0.length co7 : Value).ownBlock) (.slice Ao7 l0.length co7) l0 a1 t445 w0 _ ?side1 ?side2 A6.out).mono ?_);(case side1 => repeat (first | (with_reducible first | exact HB.out | apply below_alloc | apply pw_below_drewN | apply below_drew1) | exact HB.out));(case side2 => exact Kd.R_tight rfl HO0.out);rintro e w8 ⟨v446,rfl,ho0,hb,hkp⟩;refine ⟨_,rfl,?_⟩;have n0_ := Aside0.mk (Kd.R_mono (ok' := fun k_ => (P0_ k_ ∨ w.heap.size ≤ k_)) ho0 (fun k_ hk_ => Or.elim hk_ (fun hs_ => (HO0.out.1 k_ (hs_).symm)) (fun hn_ => (.inr (Nat.le_trans au9 hn_)))));have n1_ := Aside0.mk (Kept.then_ (S := (fun k_ => P0_ k_)) au12 hkp (fun k_ hs_ => (fun e_ => (HO0.out.1 k_ e_.symm)) hs_));have n2_ := Aside0.mk (hb);clear HK;clear HB;clear HO0;have HO447 := n0_;have HK := n1_;have HB := n2_;clear n0_ n1_ n2_;(try clear hb);(try clear hkp);(try clear ho0)))
  go_ret
  exact ⟨_,by first | rfl | (simp [errW_none,errW_some] <;> rfl) | (simp [*,errW_none,errW_some] <;> rfl),by (with_reducible repeat (first | apply Kd.R_alloc | apply Kd.R_drewN | apply Kd.R_drew));exact HO447.out,by repeat (first | (with_reducible first | exact HB.out | apply below_alloc | apply pw_below_drewN | apply below_drew1) | exact HB.out),by repeat (first | (with_reducible first | exact HK.out | apply Kept.alloc | apply Kept.drewN | apply Kept.drew) | exact HK.out)⟩
end Go.Proofs.YtkficbgnjpekaaaDoor.U
end
section
namespace Go.Proofs.YtkficbgnjpekaaaDoor.U
open Go.RowKit Go.Proofs.YtkficbgnjpekaaaDoorW.PrintWords Go.Proofs.YtkficbgnjpekaaaDoorW.PrintLast Go.Proofs.YtkficbgnjpekaaaDoorW.PrintMore
attribute [local go_sem] max2_int min2_int max_two min_two max_three min_three max_four min_four   -- for this text's walks alone
set_option linter.unusedVariables false
set_option linter.unusedSimpArgs false
def bodkinref05_run.l0 : Nat → List (S55) → Int → Int → Int → Int → Option ((List (S55)))
 | 0,_,_,_,_,_ => none
 | k + 1,x0,x2,x3,x4,x11 => if x11 ≤ x2 then (if x11 = 305 then (bodkinref05_run.l0 k x0 x2 x3 x4 (wrap32 (x11 + x3))) else (if x0.length < 17592186044416 then (bodkinref05_run.l0 k (x0 ++ [(⟨x11,wrap32 (x11 - x4)⟩ : S55)]) x2 x3 x4 (wrap32 (x11 + x3))) else (none))) else (some x0)
def bodkinref05_run.f (k : Nat) (l0 : List (S55)) (a1 : Int) (a2 : Int) (a3 : Int) (a4 : Int) : Option ((List (S55))) := bodkinref05_run.l0 k l0 a2 a3 a4 a1
def bodkinref05_Pairs.f (k : Nat)  : Option ((List (S55))) := (bodkinref05_run.f k ([] : List (S55)) 97 122 1 32).bind fun t201 => ((bodkinref05_run.f k t201 224 246 1 32).bind fun t204 => ((bodkinref05_run.f k t204 248 254 1 32).bind fun t207 => (if t207.length < 17592186044416 then ((bodkinref05_run.f k (t207 ++ [(⟨255,376⟩ : S55)]) 257 311 2 1).bind fun t213 => ((bodkinref05_run.f k t213 331 375 2 1).bind fun t216 => ((bodkinref05_run.f k t216 945 961 1 32).bind fun t219 => ((bodkinref05_run.f k t219 963 969 1 32).bind fun t222 => ((bodkinref05_run.f k t222 1072 1103 1 32).bind fun t225 => ((bodkinref05_run.f k t225 1104 1119 1 80).bind fun t228 => ((bodkinref05_run.f k t228 1121 1153 2 1).bind fun t231 => (some t231)))))))) else (none))))
end Go.Proofs.YtkficbgnjpekaaaDoor.U
end
section
namespace Go.Proofs
open Go.Shelf
def Tryd.lays119_ren : Go.Shelf.Ren := ⟨fun | 119 => 52 | n => n,fun | 21 => 21 | 4 => 4 | n => n,fun | n => n⟩
theorem Tryd.lays119 : Go.Proofs.Lays.n119 Tryd.prog Tryd.lays119_ren := {
 mixed := by kernel_rfl
 f119 := Tryd.func52.trans (congrArg some (by kernel_rfl))
 t4 := Tryd.underlying4
 a4 := Tryd.isAgg4
 z4 := Tryd.sizeOf4
 v4 := Tryd.zeroValue4
 t21 := Tryd.underlying21
 a21 := Tryd.isAgg21
 z21 := Tryd.sizeOf21
 v21 := Tryd.zeroValue21 }
theorem Tryd.utf8_ValidRune (r : Int) (w : World) :
  Calls Tryd.prog 52 #[.int .i32 r] w fun e w' => e = .returned (.bool (Lib.validRune r)) ∧ w' = w := Any.utf8_ValidRune Tryd.lays119 r w
def Tryd.lays206_ren : Go.Shelf.Ren := ⟨fun | 206 => 88 | n => n,fun | 9 => 9 | 4 => 4 | 3 => 3 | n => n,fun | n => n⟩
theorem Tryd.lays206 : Go.Proofs.Lays.n206 Tryd.prog Tryd.lays206_ren := {
 mixed := by kernel_rfl
 f206 := Tryd.func88.trans (congrArg some (by kernel_rfl))
 t3 := Tryd.underlying3
 a3 := Tryd.isAgg3
 z3 := Tryd.sizeOf3
 v3 := Tryd.zeroValue3
 t4 := Tryd.underlying4
 a4 := Tryd.isAgg4
 z4 := Tryd.sizeOf4
 v4 := Tryd.zeroValue4
 t9 := Tryd.underlying9
 a9 := Tryd.isAgg9
 z9 := Tryd.sizeOf9
 v9 := Tryd.zeroValue9 }
open Go.RowKit Go.Lib in
theorem Tryd.stringslite_HasPrefix (s p : ByteArray) (w : World) :
  Calls Tryd.prog 88 #[.string s,.string p] w fun e w' => e = .returned (.bool (Lib.hasPrefix s.data.toList p.data.toList)) ∧ w' = w := Any.stringslite_HasPrefix Tryd.lays206 s p w
def Tryd.lays99_ren : Go.Shelf.Ren := ⟨fun | 99 => 82 | 206 => 88 | n => n,fun | 9 => 9 | 4 => 4 | 3 => 3 | n => n,fun | n => n⟩
theorem Tryd.lays99 : Go.Proofs.Lays.n99 Tryd.prog Tryd.lays99_ren := {
 mixed := by kernel_rfl
 f99 := Tryd.func82.trans (congrArg some (by kernel_rfl))
 f206 := Tryd.func88.trans (congrArg some (by kernel_rfl))
 t3 := Tryd.underlying3
 a3 := Tryd.isAgg3
 z3 := Tryd.sizeOf3
 v3 := Tryd.zeroValue3
 t4 := Tryd.underlying4
 a4 := Tryd.isAgg4
 z4 := Tryd.sizeOf4
 v4 := Tryd.zeroValue4
 t9 := Tryd.underlying9
 a9 := Tryd.isAgg9
 z9 := Tryd.sizeOf9
 v9 := Tryd.zeroValue9 }
open Go.RowKit Go.Lib in
theorem Tryd.strings_HasPrefix (s p : ByteArray) (w : World) :
  Calls Tryd.prog 82 #[.string s,.string p] w fun e w' => e = .returned (.bool (Lib.hasPrefix s.data.toList p.data.toList)) ∧ w' = w := Any.strings_HasPrefix Tryd.lays99 s p w
def Tryd.lays197_ren : Go.Shelf.Ren := ⟨fun | 197 => 76 | 260 => 86 | n => n,fun | 9 => 9 | 21 => 21 | 3 => 3 | 4 => 4 | 5 => 5 | 105 => 89 | 119 => 101 | 0 => 0 | 46 => 94 | 139 => 104 | 138 => 103 | n => n,fun | 3 => 0 | 4 => 1 | n => n⟩
theorem Tryd.lays197 : Go.Proofs.Lays.n197 Tryd.prog Tryd.lays197_ren := {
 mixed := by kernel_rfl
 f197 := Tryd.func76.trans (congrArg some (by kernel_rfl))
 f260 := Tryd.func86.trans (congrArg some (by kernel_rfl))
 t0 := Tryd.underlying0
 a0 := Tryd.isAgg0
 z0 := Tryd.sizeOf0
 v0 := Tryd.zeroValue0
 t3 := Tryd.underlying3
 a3 := Tryd.isAgg3
 z3 := Tryd.sizeOf3
 v3 := Tryd.zeroValue3
 t4 := Tryd.underlying4
 a4 := Tryd.isAgg4
 z4 := Tryd.sizeOf4
 v4 := Tryd.zeroValue4
 t5 := Tryd.underlying5
 a5 := Tryd.isAgg5
 z5 := Tryd.sizeOf5
 v5 := Tryd.zeroValue5
 t9 := Tryd.underlying9
 a9 := Tryd.isAgg9
 z9 := Tryd.sizeOf9
 v9 := Tryd.zeroValue9
 t21 := Tryd.underlying21
 a21 := Tryd.isAgg21
 z21 := Tryd.sizeOf21
 v21 := Tryd.zeroValue21
 t46 := Tryd.underlying94
 a46 := Tryd.isAgg94
 z46 := Tryd.sizeOf94
 v46 := Tryd.zeroValue94
 t105 := Tryd.underlying89
 a105 := Tryd.isAgg89
 z105 := Tryd.sizeOf89
 v105 := Tryd.zeroValue89
 t119 := Tryd.underlying101
 a119 := Tryd.isAgg101
 z119 := Tryd.sizeOf101
 t138 := Tryd.underlying103
 a138 := Tryd.isAgg103
 z138 := Tryd.sizeOf103
 v138 := Tryd.zeroValue103
 t139 := Tryd.underlying104
 a139 := Tryd.isAgg104
 z139 := Tryd.sizeOf104
 v139 := Tryd.zeroValue104
 g3 := by kernel_rfl
 g4 := by kernel_rfl }
def Tryd.lays260_ren : Go.Shelf.Ren := ⟨fun | 260 => 86 | n => n,fun | 9 => 9 | 21 => 21 | 3 => 3 | 4 => 4 | 5 => 5 | 119 => 101 | 0 => 0 | 46 => 94 | 139 => 104 | 138 => 103 | n => n,fun | 3 => 0 | 4 => 1 | n => n⟩
theorem Tryd.lays260 : Go.Proofs.Lays.n260 Tryd.prog Tryd.lays260_ren := {
 mixed := by kernel_rfl
 f260 := Tryd.func86.trans (congrArg some (by kernel_rfl))
 t0 := Tryd.underlying0
 a0 := Tryd.isAgg0
 z0 := Tryd.sizeOf0
 v0 := Tryd.zeroValue0
 t3 := Tryd.underlying3
 a3 := Tryd.isAgg3
 z3 := Tryd.sizeOf3
 v3 := Tryd.zeroValue3
 t4 := Tryd.underlying4
 a4 := Tryd.isAgg4
 z4 := Tryd.sizeOf4
 v4 := Tryd.zeroValue4
 t5 := Tryd.underlying5
 a5 := Tryd.isAgg5
 z5 := Tryd.sizeOf5
 v5 := Tryd.zeroValue5
 t9 := Tryd.underlying9
 a9 := Tryd.isAgg9
 z9 := Tryd.sizeOf9
 v9 := Tryd.zeroValue9
 t21 := Tryd.underlying21
 a21 := Tryd.isAgg21
 z21 := Tryd.sizeOf21
 v21 := Tryd.zeroValue21
 t46 := Tryd.underlying94
 a46 := Tryd.isAgg94
 z46 := Tryd.sizeOf94
 v46 := Tryd.zeroValue94
 t119 := Tryd.underlying101
 a119 := Tryd.isAgg101
 z119 := Tryd.sizeOf101
 t138 := Tryd.underlying103
 a138 := Tryd.isAgg103
 z138 := Tryd.sizeOf103
 v138 := Tryd.zeroValue103
 t139 := Tryd.underlying104
 a139 := Tryd.isAgg104
 z139 := Tryd.sizeOf104
 v139 := Tryd.zeroValue104
 g3 := by kernel_rfl
 g4 := by kernel_rfl }
open Go.RowKit Go.Lib in
theorem Tryd.utf8_DecodeRuneInString (s : ByteArray) (w : World) (hT : Lib.Utf8Tabs 0 1 w) :
  Calls Tryd.prog 76 #[.string s] w fun e w' => e = .returned (.tuple #[.int .i32 (Lib.decodeGo s).1,.int .i64 (Lib.decodeGo s).2]) ∧ Below w.heap.size w w' := Any.utf8_DecodeRuneInString Tryd.lays197 s w hT
end Go.Proofs
end
section
namespace Go.Proofs.YtkficbgnjpekaaaDoor.U
open Go.RowKit Go.Proofs.YtkficbgnjpekaaaDoorW.PrintWords Go.Proofs.YtkficbgnjpekaaaDoorW.PrintLast Go.Proofs.YtkficbgnjpekaaaDoorW.PrintMore
set_option linter.unusedVariables false
set_option linter.unusedSimpArgs false
theorem block_of_cell {w : World} {p : Addr} {v : Value} (h : w.cell? p = some v) : p.block < w.heap.size := by
 unfold World.cell? at h
 cases hb : w.heap[p.block]? with
 | none => simp [hb] at h
 | some o => exact (Array.getElem?_eq_some_iff.1 hb).1
/-- The tables lie where nothing is turned. -/
theorem tabs_below {w0 w : World} (h : Lib.Utf8Tabs 0 1 w0) (hb : Below w0.heap.size w0 w) : Lib.Utf8Tabs 0 1 w :=
  ⟨fun c hc => (hb.cell (p := ⟨0, c, none⟩) (block_of_cell (h.1 c hc))).trans (h.1 c hc),
   fun i hi => ⟨(hb.cell (p := ⟨1, 2 * i, none⟩) (block_of_cell (h.2 i hi).1)).trans (h.2 i hi).1,
     (hb.cell (p := ⟨1, 2 * i + 1, none⟩) (block_of_cell (h.2 i hi).2)).trans (h.2 i hi).2⟩⟩
def utf8_DecodeRuneInString.f (a0 : ByteArray) : Option (Int × Int) := some (((Lib.decodeGo a0).1 : Int),((Lib.decodeGo a0).2 : Int))
theorem utf8_DecodeRuneInString.calls (a0 : ByteArray) (r1 : Int) (r2 : Int) (w : World) (hT : Lib.Utf8Tabs 0 1 w) (h : utf8_DecodeRuneInString.f a0 = some (r1,r2)) :
  Calls Tryd.prog 76 #[.string a0] w fun e w' => e = .returned (.tuple #[.int .i32 r1,.int .i64 r2]) ∧ Below w.heap.size w w' := by
 unfold utf8_DecodeRuneInString.f at h
 simp only [Option.some.injEq,Prod.mk.injEq] at h
 obtain ⟨rfl,rfl⟩ := h
 exact Tryd.utf8_DecodeRuneInString a0 w hT
end Go.Proofs.YtkficbgnjpekaaaDoor.U
end
