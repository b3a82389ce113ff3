/- What the law WordCases reaches of this seat's own texts, merged; what nothing uses is left out. -/
import Derived.Test.YtkficbgnjpekaaaDoorZWordCases0
section
namespace Go.Proofs.YtkficbgnjpekaaaDoor.U
open Go.RowKit Go.Proofs.YtkficbgnjpekaaaDoorW.PrintWords Go.Proofs.YtkficbgnjpekaaaDoorW.PrintLast Go.Proofs.YtkficbgnjpekaaaDoorW.PrintMore
attribute [local go_sem] max2_int min2_int max_two min_two max_three min_three max_four min_four   -- for this text's walks alone
set_option linter.unusedVariables false
set_option linter.unusedSimpArgs false
def width_marks.f  : Option (List Int) := some (([768,879,1155,1161,1425,1469,1471,1471,1473,1474,1552,1562,1611,1631,1648,1648,1750,1756,2304,2306,2364,2364,2381,2381,3633,3633,3636,3642,3655,3662,4957,4959,6832,6911,7616,7679,8204,8205,8400,8447,12330,12335,12441,12442,65024,65039,65056,65071,127995,127999,917760,917999] : List Int))
set_option maxHeartbeats 8000000 in
set_option maxRecDepth 100000 in
theorem width_marks.calls  (r : List Int) (w : World) (h : width_marks.f  = some r) :
  Calls Tryd.prog 62 #[] w fun e w' => ∃ v0_ : Value,e = .returned (v0_) ∧ Kd.R (Kd.int .i32) 21 w' w.heap.size (fun _ => True) v0_ r ∧ Below w.heap.size w w' := by
 have HB := Aside0.mk (Below.refl w.heap.size w)
 have H : (some (([768,879,1155,1161,1425,1469,1471,1471,1473,1474,1552,1562,1611,1631,1648,1648,1750,1756,2304,2306,2364,2364,2381,2381,3633,3633,3636,3642,3655,3662,4957,4959,6832,6911,7616,7679,8204,8205,8400,8447,12330,12335,12441,12442,65024,65039,65056,65071,127995,127999,917760,917999] : List Int))) = some r := h
 clear h
 obtain ⟨y128,hy128⟩ : ∃ y_ : List Int,y_ = (([768,879,1155,1161,1425,1469,1471,1471,1473,1474,1552,1562,1611,1631,1648,1648,1750,1756,2304,2306,2364,2364,2381,2381,3633,3633,3636,3642,3655,3662,4957,4959,6832,6911,7616,7679,8204,8205,8400,8447,12330,12335,12441,12442,65024,65039,65056,65071,127995,127999,917760,917999] : List Int)) := ⟨_,rfl⟩
 replace H : (some y128) = some r := by first | (rw [hy128];with_reducible exact H) | (have H2_ := (Option.bind_some _ _).symm.trans H;rw [hy128];with_reducible exact H2_) | (have H2_ := (Option.bind_some _ _).symm.trans H;with_reducible exact H2_) | with_reducible exact H | (rw [hy128];exact H) | exact H
 have Ny128 := Aside0.mk hy128
 clear hy128
 obtain rfl := Option.some.inj H
 go_enter Tryd.func62,Tryd.ntmps62
 go_wp2_with (first | ((with_reducible refine gate_dst (N := 1) rfl ?_);refine Kd.R_lit (Kd.int .i32) _ 21 ?hg (N := 1) ?hd (xs := ([768,879,1155,1161,1425,1469,1471,1471,1473,1474,1552,1562,1611,1631,1648,1648,1750,1756,2304,2306,2364,2364,2381,2381,3633,3633,3636,3642,3655,3662,4957,4959,6832,6911,7616,7679,8204,8205,8400,8447,12330,12335,12441,12442,65024,65039,65056,65071,127995,127999,917760,917999] : List Int)) (inner := [.int .i32 768,.int .i32 879,.int .i32 1155,.int .i32 1161,.int .i32 1425,.int .i32 1469,.int .i32 1471,.int .i32 1471,.int .i32 1473,.int .i32 1474,.int .i32 1552,.int .i32 1562,.int .i32 1611,.int .i32 1631,.int .i32 1648,.int .i32 1648,.int .i32 1750,.int .i32 1756,.int .i32 2304,.int .i32 2306,.int .i32 2364,.int .i32 2364,.int .i32 2381,.int .i32 2381,.int .i32 3633,.int .i32 3633,.int .i32 3636,.int .i32 3642,.int .i32 3655,.int .i32 3662,.int .i32 4957,.int .i32 4959,.int .i32 6832,.int .i32 6911,.int .i32 7616,.int .i32 7679,.int .i32 8204,.int .i32 8205,.int .i32 8400,.int .i32 8447,.int .i32 12330,.int .i32 12335,.int .i32 12441,.int .i32 12442,.int .i32 65024,.int .i32 65039,.int .i32 65056,.int .i32 65071,.int .i32 127995,.int .i32 127999,.int .i32 917760,.int .i32 917999]) (ok := fun _ => True) (okp := fun _ => True) ?hr ?hp (fun _ hk => hk) trivial (Below.refl _ _) (Nat.le_refl _) (by simp) ?_;(case hd => rfl);(case hg => rfl);(case hr => first | (go_simp;done) | (go_simp;rfl));(case hp => exact (Reps.one (show Kd.M (Kd.int .i32) _ _ _ 768 [.int .i32 768] from rfl) (Reps.one (show Kd.M (Kd.int .i32) _ _ _ 879 [.int .i32 879] from rfl) (Reps.one (show Kd.M (Kd.int .i32) _ _ _ 1155 [.int .i32 1155] from rfl) (Reps.one (show Kd.M (Kd.int .i32) _ _ _ 1161 [.int .i32 1161] from rfl) (Reps.one (show Kd.M (Kd.int .i32) _ _ _ 1425 [.int .i32 1425] from rfl) (Reps.one (show Kd.M (Kd.int .i32) _ _ _ 1469 [.int .i32 1469] from rfl) (Reps.one (show Kd.M (Kd.int .i32) _ _ _ 1471 [.int .i32 1471] from rfl) (Reps.one (show Kd.M (Kd.int .i32) _ _ _ 1471 [.int .i32 1471] from rfl) (Reps.one (show Kd.M (Kd.int .i32) _ _ _ 1473 [.int .i32 1473] from rfl) (Reps.one (show Kd.M (Kd.int .i32) _ _ _ 1474 [.int .i32 1474] from rfl) (Reps.one (show Kd.M (Kd.int .i32) _ _ _ 1552 [.int .i32 1552] from rfl) (Reps.one (show Kd.M (Kd.int .i32) _ _ _ 1562 [.int .i32 1562] from rfl) (Reps.one (show Kd.M (Kd.int .i32) _ _ _ 1611 [.int .i32 1611] from rfl) (Reps.one (show Kd.M (Kd.int .i32) _ _ _ 1631 [.int .i32 1631] from rfl) (Reps.one (show Kd.M (Kd.int .i32) _ _ _ 1648 [.int .i32 1648] from rfl) (Reps.one (show Kd.M (Kd.int .i32) _ _ _ 1648 [.int .i32 1648] from rfl) (Reps.one (show Kd.M (Kd.int .i32) _ _ _ 1750 [.int .i32 1750] from rfl) (Reps.one (show Kd.M (Kd.int .i32) _ _ _ 1756 [.int .i32 1756] from rfl) (Reps.one (show Kd.M (Kd.int .i32) _ _ _ 2304 [.int .i32 2304] from rfl) (Reps.one (show Kd.M (Kd.int .i32) _ _ _ 2306 [.int .i32 2306] from rfl) (Reps.one (show Kd.M (Kd.int .i32) _ _ _ 2364 [.int .i32 2364] from rfl) (Reps.one (show Kd.M (Kd.int .i32) _ _ _ 2364 [.int .i32 2364] from rfl) (Reps.one (show Kd.M (Kd.int .i32) _ _ _ 2381 [.int .i32 2381] from rfl) (Reps.one (show Kd.M (Kd.int .i32) _ _ _ 2381 [.int .i32 2381] from rfl) (Reps.one (show Kd.M (Kd.int .i32) _ _ _ 3633 [.int .i32 3633] from rfl) (Reps.one (show Kd.M (Kd.int .i32) _ _ _ 3633 [.int .i32 3633] from rfl) (Reps.one (show Kd.M (Kd.int .i32) _ _ _ 3636 [.int .i32 3636] from rfl) (Reps.one (show Kd.M (Kd.int .i32) _ _ _ 3642 [.int .i32 3642] from rfl) (Reps.one (show Kd.M (Kd.int .i32) _ _ _ 3655 [.int .i32 3655] from rfl) (Reps.one (show Kd.M (Kd.int .i32) _ _ _ 3662 [.int .i32 3662] from rfl) (Reps.one (show Kd.M (Kd.int .i32) _ _ _ 4957 [.int .i32 4957] from rfl) (Reps.one (show Kd.M (Kd.int .i32) _ _ _ 4959 [.int .i32 4959] from rfl) (Reps.one (show Kd.M (Kd.int .i32) _ _ _ 6832 [.int .i32 6832] from rfl) (Reps.one (show Kd.M (Kd.int .i32) _ _ _ 6911 [.int .i32 6911] from rfl) (Reps.one (show Kd.M (Kd.int .i32) _ _ _ 7616 [.int .i32 7616] from rfl) (Reps.one (show Kd.M (Kd.int .i32) _ _ _ 7679 [.int .i32 7679] from rfl) (Reps.one (show Kd.M (Kd.int .i32) _ _ _ 8204 [.int .i32 8204] from rfl) (Reps.one (show Kd.M (Kd.int .i32) _ _ _ 8205 [.int .i32 8205] from rfl) (Reps.one (show Kd.M (Kd.int .i32) _ _ _ 8400 [.int .i32 8400] from rfl) (Reps.one (show Kd.M (Kd.int .i32) _ _ _ 8447 [.int .i32 8447] from rfl) (Reps.one (show Kd.M (Kd.int .i32) _ _ _ 12330 [.int .i32 12330] from rfl) (Reps.one (show Kd.M (Kd.int .i32) _ _ _ 12335 [.int .i32 12335] from rfl) (Reps.one (show Kd.M (Kd.int .i32) _ _ _ 12441 [.int .i32 12441] from rfl) (Reps.one (show Kd.M (Kd.int .i32) _ _ _ 12442 [.int .i32 12442] from rfl) (Reps.one (show Kd.M (Kd.int .i32) _ _ _ 65024 [.int .i32 65024] from rfl) (Reps.one (show Kd.M (Kd.int .i32) _ _ _ 65039 [.int .i32 65039] from rfl) (Reps.one (show Kd.M (Kd.int .i32) _ _ _ 65056 [.int .i32 65056] from rfl) (Reps.one (show Kd.M (Kd.int .i32) _ _ _ 65071 [.int .i32 65071] from rfl) (Reps.one (show Kd.M (Kd.int .i32) _ _ _ 127995 [.int .i32 127995] from rfl) (Reps.one (show Kd.M (Kd.int .i32) _ _ _ 127999 [.int .i32 127999] from rfl) (Reps.one (show Kd.M (Kd.int .i32) _ _ _ 917760 [.int .i32 917760] from rfl) (Reps.one (show Kd.M (Kd.int .i32) _ _ _ 917999 [.int .i32 917999] from rfl) (Reps.none _ _))))))))))))))))))))))))))))))))))))))))))))))))))))));intro v129 w1 ho2 hb hg_ hnew_;clear hg_ hnew_;(first | rw [← Ny128.out] at ho2 | (simp only [Int.reduceToNat] at ho2;rw [← Ny128.out] at ho2));have n0_ := Aside0.mk (Kd.R_lower ho2 (below_size au0));have n1_ := Aside0.mk (below_step au0 hb);clear HB;have HO130 := n0_;have HB := n1_;clear n0_ n1_;clear hb ho2))
 go_ret
 exact ⟨_,by first | rfl | (simp [errW_none,errW_some] <;> rfl) | (simp [*,errW_none,errW_some] <;> rfl),by (with_reducible repeat (first | apply Kd.R_alloc | apply Kd.R_drewN | apply Kd.R_drew));exact HO130.out,au0⟩
def width_wides.f  : Option (List Int) := some (([4352,4447,8986,8987,9001,9002,9193,9196,9725,9726,9748,9749,9800,9811,9898,9899,11904,12329,12336,12350,12353,12440,12443,19903,19968,42191,43360,43391,44032,55203,63744,64255,65072,65135,65281,65376,65504,65510,94176,101119,110592,111359,127744,127994,128000,128591,128640,128767,129280,129535,131072,196605,196608,262141] : List Int))
set_option maxHeartbeats 8000000 in
set_option maxRecDepth 100000 in
theorem width_wides.calls  (r : List Int) (w : World) (h : width_wides.f  = some r) :
  Calls Tryd.prog 63 #[] w fun e w' => ∃ v0_ : Value,e = .returned (v0_) ∧ Kd.R (Kd.int .i32) 21 w' w.heap.size (fun _ => True) v0_ r ∧ Below w.heap.size w w' := by
 have HB := Aside0.mk (Below.refl w.heap.size w)
 have H : (some (([4352,4447,8986,8987,9001,9002,9193,9196,9725,9726,9748,9749,9800,9811,9898,9899,11904,12329,12336,12350,12353,12440,12443,19903,19968,42191,43360,43391,44032,55203,63744,64255,65072,65135,65281,65376,65504,65510,94176,101119,110592,111359,127744,127994,128000,128591,128640,128767,129280,129535,131072,196605,196608,262141] : List Int))) = some r := h
 clear h
 obtain ⟨y131,hy131⟩ : ∃ y_ : List Int,y_ = (([4352,4447,8986,8987,9001,9002,9193,9196,9725,9726,9748,9749,9800,9811,9898,9899,11904,12329,12336,12350,12353,12440,12443,19903,19968,42191,43360,43391,44032,55203,63744,64255,65072,65135,65281,65376,65504,65510,94176,101119,110592,111359,127744,127994,128000,128591,128640,128767,129280,129535,131072,196605,196608,262141] : List Int)) := ⟨_,rfl⟩
 replace H : (some y131) = some r := by first | (rw [hy131];with_reducible exact H) | (have H2_ := (Option.bind_some _ _).symm.trans H;rw [hy131];with_reducible exact H2_) | (have H2_ := (Option.bind_some _ _).symm.trans H;with_reducible exact H2_) | with_reducible exact H | (rw [hy131];exact H) | exact H
 have Ny131 := Aside0.mk hy131
 clear hy131
 obtain rfl := Option.some.inj H
 go_enter Tryd.func63,Tryd.ntmps63
 go_wp2_with (first | ((with_reducible refine gate_dst (N := 1) rfl ?_);refine Kd.R_lit (Kd.int .i32) _ 21 ?hg (N := 1) ?hd (xs := ([4352,4447,8986,8987,9001,9002,9193,9196,9725,9726,9748,9749,9800,9811,9898,9899,11904,12329,12336,12350,12353,12440,12443,19903,19968,42191,43360,43391,44032,55203,63744,64255,65072,65135,65281,65376,65504,65510,94176,101119,110592,111359,127744,127994,128000,128591,128640,128767,129280,129535,131072,196605,196608,262141] : List Int)) (inner := [.int .i32 4352,.int .i32 4447,.int .i32 8986,.int .i32 8987,.int .i32 9001,.int .i32 9002,.int .i32 9193,.int .i32 9196,.int .i32 9725,.int .i32 9726,.int .i32 9748,.int .i32 9749,.int .i32 9800,.int .i32 9811,.int .i32 9898,.int .i32 9899,.int .i32 11904,.int .i32 12329,.int .i32 12336,.int .i32 12350,.int .i32 12353,.int .i32 12440,.int .i32 12443,.int .i32 19903,.int .i32 19968,.int .i32 42191,.int .i32 43360,.int .i32 43391,.int .i32 44032,.int .i32 55203,.int .i32 63744,.int .i32 64255,.int .i32 65072,.int .i32 65135,.int .i32 65281,.int .i32 65376,.int .i32 65504,.int .i32 65510,.int .i32 94176,.int .i32 101119,.int .i32 110592,.int .i32 111359,.int .i32 127744,.int .i32 127994,.int .i32 128000,.int .i32 128591,.int .i32 128640,.int .i32 128767,.int .i32 129280,.int .i32 129535,.int .i32 131072,.int .i32 196605,.int .i32 196608,.int .i32 262141]) (ok := fun _ => True) (okp := fun _ => True) ?hr ?hp (fun _ hk => hk) trivial (Below.refl _ _) (Nat.le_refl _) (by simp) ?_;(case hd => rfl);(case hg => rfl);(case hr => first | (go_simp;done) | (go_simp;rfl));(case hp => exact (Reps.one (show Kd.M (Kd.int .i32) _ _ _ 4352 [.int .i32 4352] from rfl) (Reps.one (show Kd.M (Kd.int .i32) _ _ _ 4447 [.int .i32 4447] from rfl) (Reps.one (show Kd.M (Kd.int .i32) _ _ _ 8986 [.int .i32 8986] from rfl) (Reps.one (show Kd.M (Kd.int .i32) _ _ _ 8987 [.int .i32 8987] from rfl) (Reps.one (show Kd.M (Kd.int .i32) _ _ _ 9001 [.int .i32 9001] from rfl) (Reps.one (show Kd.M (Kd.int .i32) _ _ _ 9002 [.int .i32 9002] from rfl) (Reps.one (show Kd.M (Kd.int .i32) _ _ _ 9193 [.int .i32 9193] from rfl) (Reps.one (show Kd.M (Kd.int .i32) _ _ _ 9196 [.int .i32 9196] from rfl) (Reps.one (show Kd.M (Kd.int .i32) _ _ _ 9725 [.int .i32 9725] from rfl) (Reps.one (show Kd.M (Kd.int .i32) _ _ _ 9726 [.int .i32 9726] from rfl) (Reps.one (show Kd.M (Kd.int .i32) _ _ _ 9748 [.int .i32 9748] from rfl) (Reps.one (show Kd.M (Kd.int .i32) _ _ _ 9749 [.int .i32 9749] from rfl) (Reps.one (show Kd.M (Kd.int .i32) _ _ _ 9800 [.int .i32 9800] from rfl) (Reps.one (show Kd.M (Kd.int .i32) _ _ _ 9811 [.int .i32 9811] from rfl) (Reps.one (show Kd.M (Kd.int .i32) _ _ _ 9898 [.int .i32 9898] from rfl) (Reps.one (show Kd.M (Kd.int .i32) _ _ _ 9899 [.int .i32 9899] from rfl) (Reps.one (show Kd.M (Kd.int .i32) _ _ _ 11904 [.int .i32 11904] from rfl) (Reps.one (show Kd.M (Kd.int .i32) _ _ _ 12329 [.int .i32 12329] from rfl) (Reps.one (show Kd.M (Kd.int .i32) _ _ _ 12336 [.int .i32 12336] from rfl) (Reps.one (show Kd.M (Kd.int .i32) _ _ _ 12350 [.int .i32 12350] from rfl) (Reps.one (show Kd.M (Kd.int .i32) _ _ _ 12353 [.int .i32 12353] from rfl) (Reps.one (show Kd.M (Kd.int .i32) _ _ _ 12440 [.int .i32 12440] from rfl) (Reps.one (show Kd.M (Kd.int .i32) _ _ _ 12443 [.int .i32 12443] from rfl) (Reps.one (show Kd.M (Kd.int .i32) _ _ _ 19903 [.int .i32 19903] from rfl) (Reps.one (show Kd.M (Kd.int .i32) _ _ _ 19968 [.int .i32 19968] from rfl) (Reps.one (show Kd.M (Kd.int .i32) _ _ _ 42191 [.int .i32 42191] from rfl) (Reps.one (show Kd.M (Kd.int .i32) _ _ _ 43360 [.int .i32 43360] from rfl) (Reps.one (show Kd.M (Kd.int .i32) _ _ _ 43391 [.int .i32 43391] from rfl) (Reps.one (show Kd.M (Kd.int .i32) _ _ _ 44032 [.int .i32 44032] from rfl) (Reps.one (show Kd.M (Kd.int .i32) _ _ _ 55203 [.int .i32 55203] from rfl) (Reps.one (show Kd.M (Kd.int .i32) _ _ _ 63744 [.int .i32 63744] from rfl) (Reps.one (show Kd.M (Kd.int .i32) _ _ _ 64255 [.int .i32 64255] from rfl) (Reps.one (show Kd.M (Kd.int .i32) _ _ _ 65072 [.int .i32 65072] from rfl) (Reps.one (show Kd.M (Kd.int .i32) _ _ _ 65135 [.int .i32 65135] from rfl) (Reps.one (show Kd.M (Kd.int .i32) _ _ _ 65281 [.int .i32 65281] from rfl) (Reps.one (show Kd.M (Kd.int .i32) _ _ _ 65376 [.int .i32 65376] from rfl) (Reps.one (show Kd.M (Kd.int .i32) _ _ _ 65504 [.int .i32 65504] from rfl) (Reps.one (show Kd.M (Kd.int .i32) _ _ _ 65510 [.int .i32 65510] from rfl) (Reps.one (show Kd.M (Kd.int .i32) _ _ _ 94176 [.int .i32 94176] from rfl) (Reps.one (show Kd.M (Kd.int .i32) _ _ _ 101119 [.int .i32 101119] from rfl) (Reps.one (show Kd.M (Kd.int .i32) _ _ _ 110592 [.int .i32 110592] from rfl) (Reps.one (show Kd.M (Kd.int .i32) _ _ _ 111359 [.int .i32 111359] from rfl) (Reps.one (show Kd.M (Kd.int .i32) _ _ _ 127744 [.int .i32 127744] from rfl) (Reps.one (show Kd.M (Kd.int .i32) _ _ _ 127994 [.int .i32 127994] from rfl) (Reps.one (show Kd.M (Kd.int .i32) _ _ _ 128000 [.int .i32 128000] from rfl) (Reps.one (show Kd.M (Kd.int .i32) _ _ _ 128591 [.int .i32 128591] from rfl) (Reps.one (show Kd.M (Kd.int .i32) _ _ _ 128640 [.int .i32 128640] from rfl) (Reps.one (show Kd.M (Kd.int .i32) _ _ _ 128767 [.int .i32 128767] from rfl) (Reps.one (show Kd.M (Kd.int .i32) _ _ _ 129280 [.int .i32 129280] from rfl) (Reps.one (show Kd.M (Kd.int .i32) _ _ _ 129535 [.int .i32 129535] from rfl) (Reps.one (show Kd.M (Kd.int .i32) _ _ _ 131072 [.int .i32 131072] from rfl) (Reps.one (show Kd.M (Kd.int .i32) _ _ _ 196605 [.int .i32 196605] from rfl) (Reps.one (show Kd.M (Kd.int .i32) _ _ _ 196608 [.int .i32 196608] from rfl) (Reps.one (show Kd.M (Kd.int .i32) _ _ _ 262141 [.int .i32 262141] from rfl) (Reps.none _ _))))))))))))))))))))))))))))))))))))))))))))))))))))))));intro v132 w1 ho2 hb hg_ hnew_;clear hg_ hnew_;(first | rw [← Ny131.out] at ho2 | (simp only [Int.reduceToNat] at ho2;rw [← Ny131.out] at ho2));have n0_ := Aside0.mk (Kd.R_lower ho2 (below_size au0));have n1_ := Aside0.mk (below_step au0 hb);clear HB;have HO133 := n0_;have HB := n1_;clear n0_ n1_;clear hb ho2))
 go_ret
 exact ⟨_,by first | rfl | (simp [errW_none,errW_some] <;> rfl) | (simp [*,errW_none,errW_some] <;> rfl),by (with_reducible repeat (first | apply Kd.R_alloc | apply Kd.R_drewN | apply Kd.R_drew));exact HO133.out,au0⟩
def bodkinref02_Within.l0 : Nat → List (S77) → Int → Int → Option (Bool)
 | 0,_,_,_ => none
 | k + 1,x0,x1,x5 => if x5 < (x0.length : Int) then (if 0 ≤ x5 then (if x1 ≥ ((rd_T77 x0 x5).f0) then (if x1 ≤ ((rd_T77 x0 x5).f1) then (some true) else (bodkinref02_Within.l0 k x0 x1 (wrap64 (x5 + 1)))) else (bodkinref02_Within.l0 k x0 x1 (wrap64 (x5 + 1)))) else (none)) else (some false)
def bodkinref02_Within.f (k : Nat) (l0 : List (S77)) (a1 : Int) : Option (Bool) := bodkinref02_Within.l0 k l0 a1 0
set_option maxHeartbeats 8000000 in
set_option maxRecDepth 100000 in
theorem bodkinref02_Within.calls (k : Nat) (A0 : Option Addr) (c0 : Nat) (l0 : List (S77)) (a1 : Int) (r : Bool) (w : World) (hr0 : Kd.C k77 w A0 l0.length l0) (hc0 : l0.length ≤ c0) (h : bodkinref02_Within.f k l0 a1 = some r) :
  Calls Tryd.prog 39 #[.slice A0 l0.length c0,.int .i32 a1] w fun e w' => e = .returned (.bool r) ∧ Drawn0 w w' := by
 have HR0 := Aside0.mk hr0
 have HC0 := Aside0.mk hc0
 clear hr0 hc0
 have H : (bodkinref02_Within.l0 k l0 a1 0) = some r := h
 clear h
 have H' := Aside0.mk H
 clear H
 go_enter Tryd.func39,Tryd.ntmps39
 go_wp2
 go_loopg [5] k (fun kq v5 w' => ∃ (x5_1 : Int),v5 = .int .i64 x5_1 ∧ Aside0 (bodkinref02_Within.l0 kq l0 a1 x5_1 = some r) ∧ Aside0 (kq ≤ k) ∧ Drawn0 w w')
 case atStart => exact ⟨(0),au3,H',⟨Nat.le_refl _⟩,by repeat (first | exact Drawn0.refl _ | apply Drawn0.step)⟩
 case round =>
  clear H'
  try clear p2
  obtain ⟨x5_1,rfl,HA,HK1,⟨m1,rfl⟩⟩ := hrel
  cases gk with
  | zero => exact absurd HA.out (by simp [bodkinref02_Within.l0])
  | succ k1 =>
   have H := HA.out
   clear HA
   simp only [bodkinref02_Within.l0] at H
   by_cases c3 : x5_1 < (l0.length : Int)
   ·rw [if_pos c3] at H
    have c3b0 : decide (x5_1 < (l0.length : Int)) = true := decide_eq_true c3
    clear c3
    by_cases c4 : 0 ≤ x5_1
    ·rw [if_pos c4] at H
     have c4b0 : decide (0 ≤ x5_1) = true := decide_eq_true c4
     clear c4
     by_cases c5 : a1 ≥ ((rd_T77 l0 x5_1).f0)
     ·rw [if_pos c5] at H
      have c5b0 : decide (((rd_T77 l0 x5_1).f0) ≤ a1) = true := decide_eq_true c5
      clear c5
      by_cases c6 : a1 ≤ ((rd_T77 l0 x5_1).f1)
      ·rw [if_pos c6] at H
       have c6b0 : decide (a1 ≤ ((rd_T77 l0 x5_1).f1)) = true := decide_eq_true c6
       clear c6
       obtain rfl := Option.some.inj H
       have p171 : 0 ≤ (x5_1 : Int) := of_decide_eq_true au4
       have q171 : x5_1 < (l0.length : Int) := of_decide_eq_true au4
       obtain ⟨ad171,e171,hx171_0,hx171_1⟩ := at_T77 HR0.out x5_1 p171 q171
       cases e171
       replace p171 := eq_true p171
       replace q171 := eq_true q171
       have p172 : 0 ≤ (x5_1 : Int) := of_decide_eq_true au4
       have q172 : x5_1 < (l0.length : Int) := of_decide_eq_true au4
       obtain ⟨ad172,e172,hx172_0,hx172_1⟩ := at_T77 HR0.out x5_1 p172 q172
       obtain rfl : ad171 = ad172 := (by injection e172)
       replace p172 := eq_true p172
       replace q172 := eq_true q172
       go_wp2
       go_ret
       exact ⟨by first | rfl | (simp;done) | (simp [*];done),by repeat (first | exact Drawn0.refl _ | apply Drawn0.step)⟩
      ·rw [if_neg c6] at H
       have c6b0 : decide (a1 ≤ ((rd_T77 l0 x5_1).f1)) = false := decide_eq_false c6
       clear c6
       have H' := Aside0.mk H
       clear H
       have p171 : 0 ≤ (x5_1 : Int) := of_decide_eq_true au4
       have q171 : x5_1 < (l0.length : Int) := of_decide_eq_true au4
       obtain ⟨ad171,e171,hx171_0,hx171_1⟩ := at_T77 HR0.out x5_1 p171 q171
       cases e171
       replace p171 := eq_true p171
       replace q171 := eq_true q171
       have p172 : 0 ≤ (x5_1 : Int) := of_decide_eq_true au4
       have q172 : x5_1 < (l0.length : Int) := of_decide_eq_true au4
       obtain ⟨ad172,e172,hx172_0,hx172_1⟩ := at_T77 HR0.out x5_1 p172 q172
       obtain rfl : ad171 = ad172 := (by injection e172)
       replace p172 := eq_true p172
       replace q172 := eq_true q172
       go_wp2
       go_roundg k1
       case measure => have := HK1.out;omega
       case rel => exact ⟨(wrap64 (x5_1 + 1)),au3,H',⟨by have := HK1.out;omega⟩,by repeat (first | exact Drawn0.refl _ | apply Drawn0.step)⟩
     ·rw [if_neg c5] at H
      have c5b0 : decide (((rd_T77 l0 x5_1).f0) ≤ a1) = false := decide_eq_false c5
      clear c5
      have H' := Aside0.mk H
      clear H
      have p171 : 0 ≤ (x5_1 : Int) := of_decide_eq_true au4
      have q171 : x5_1 < (l0.length : Int) := of_decide_eq_true au4
      obtain ⟨ad171,e171,hx171_0,hx171_1⟩ := at_T77 HR0.out x5_1 p171 q171
      cases e171
      replace p171 := eq_true p171
      replace q171 := eq_true q171
      go_wp2
      go_roundg k1
      case measure => have := HK1.out;omega
      case rel => exact ⟨(wrap64 (x5_1 + 1)),au3,H',⟨by have := HK1.out;omega⟩,by repeat (first | exact Drawn0.refl _ | apply Drawn0.step)⟩
    ·rw [if_neg c4] at H
     exact absurd H (by simp)
   ·rw [if_neg c3] at H
    have c3b0 : decide (x5_1 < (l0.length : Int)) = false := decide_eq_false c3
    clear c3
    obtain rfl := Option.some.inj H
    go_wp2
    go_ret
    exact ⟨by first | rfl | (simp;done) | (simp [*];done),by repeat (first | exact Drawn0.refl _ | apply Drawn0.step)⟩
def bodkinref02_digit.j0 : Nat → Int → Bool → Option (Int)
 | 0,_,_ => none
 | k + 1,x0,x3 => if x3 = true then (some ((x0 - 48) % 256)) else (if x0 ≥ 65 then (if x0 ≤ 70 then (some (((x0 - 65) % 256) + 10)) else (some (-1))) else (some (-1)))
def bodkinref02_digit.f (k : Nat) (a0 : Int) : Option (Int) := if a0 ≥ 48 then (bodkinref02_digit.j0 k a0 (decide (a0 ≤ 57))) else (bodkinref02_digit.j0 k a0 false)
theorem bodkinref02_digit.mono_l : ∀ k,(∀ y0 y1,LeO (bodkinref02_digit.j0 k y0 y1) (bodkinref02_digit.j0 (k + 1) y0 y1))
 | 0 => fun _ _ r h => by simp [bodkinref02_digit.j0] at h
 | k + 1 => by
  have ih0 := bodkinref02_digit.mono_l k
  ·intro y0 y1
   unfold bodkinref02_digit.j0
   repeat' first
   | (with_reducible exact ih0 _ _)
   | (with_reducible exact LeO.refl _)
   | (with_reducible exact LeO.none _)
   | (with_reducible refine LeO.ite ?_ ?_)
   | (with_reducible refine LeO.bind ?_ (fun _ => ?_))
   | exact ih0 _ _
   | exact LeO.none _
   | refine LeO.ite ?_ ?_
   | refine LeO.bind ?_ (fun _ => ?_)
theorem bodkinref02_digit.mono : ∀ a0 k,LeO (bodkinref02_digit.f k a0) (bodkinref02_digit.f (k + 1) a0) := by
 intro a0 k
 have ih0 := bodkinref02_digit.mono_l k
 unfold bodkinref02_digit.f
 repeat' first
   | (with_reducible exact ih0 _ _)
   | (with_reducible exact LeO.refl _)
   | (with_reducible exact LeO.none _)
   | (with_reducible refine LeO.ite ?_ ?_)
   | (with_reducible refine LeO.bind ?_ (fun _ => ?_))
   | exact ih0 _ _
   | exact LeO.none _
   | refine LeO.ite ?_ ?_
   | refine LeO.bind ?_ (fun _ => ?_)
set_option maxHeartbeats 8000000 in
set_option maxRecDepth 100000 in
theorem bodkinref02_digit.calls (k : Nat) (a0 : Int) (r : Int) (w : World) (h : bodkinref02_digit.f k a0 = some r) :
  Calls Tryd.prog 64 #[.int .u8 a0] w fun e w' => e = .returned (.int .i32 r) ∧ Drawn0 w w' := by
 have H : (if a0 ≥ 48 then (bodkinref02_digit.j0 k a0 (decide (a0 ≤ 57))) else (bodkinref02_digit.j0 k a0 false)) = some r := h
 clear h
 have HC2 := Aside0.mk H
 clear H
 go_enter Tryd.func64,Tryd.ntmps64
 go_upto_region 1 with (fail)
 go_cut [3] (fun v3 wc => ∃ (kq : Nat) (x3_1 : Bool),v3 = .bool x3_1 ∧ Aside0 (bodkinref02_digit.j0 kq a0 x3_1 = some r) ∧ Aside0 (kq ≤ k) ∧ Drawn0 w wc)
 case first =>
  have H := HC2.out
  clear HC2
  by_cases c3 : a0 ≥ 48
  ·rw [if_pos c3] at H
   have c3b0 : decide (48 ≤ a0) = true := decide_eq_true c3
   clear c3
   (first | rw [c3b0] | (simp only [i64_w,i32_w];rw [c3b0]) | skip)
   have H' := Aside0.mk H
   clear H
   go_wp2
   go_meet
   case rel => exact ⟨_,(decide (a0 ≤ 57)),au3,H',⟨by first | omega | exact Nat.le_refl _⟩,by repeat (first | exact Drawn0.refl _ | apply Drawn0.step)⟩
  ·rw [if_neg c3] at H
   have c3b0 : decide (48 ≤ a0) = false := decide_eq_false c3
   clear c3
   (first | rw [c3b0] | (simp only [i64_w,i32_w];rw [c3b0]) | skip)
   have H' := Aside0.mk H
   clear H
   go_wp2
   go_meet
   case rel => exact ⟨_,(false),au3,H',⟨by first | omega | exact Nat.le_refl _⟩,by repeat (first | exact Drawn0.refl _ | apply Drawn0.step)⟩
 case rest =>
  clear HC2
  try clear p2
  try clear c3
  try clear c3b0
  obtain ⟨kq,x3_1,rfl,HA,HJ1,⟨mc1,rfl⟩⟩ := hcut
  cases kq with
  | zero => exact absurd HA.out (by simp [bodkinref02_digit.j0])
  | succ kj1 =>
   have H := HA.out
   clear HA
   simp only [bodkinref02_digit.j0] at H
   by_cases c4 : x3_1 = true
   ·subst c4
    have H1 : (some ((a0 - 48) % 256)) = some r := by rw [if_pos rfl] at H;exact H
    clear H
    have H := H1
    clear H1
    obtain rfl := Option.some.inj H
    go_wp2
    go_ret
    exact ⟨by first | rfl | (simp;done) | (simp [*];done),by repeat (first | exact Drawn0.refl _ | apply Drawn0.step)⟩
   ·replace c4 := Bool.eq_false_iff.mpr c4
    subst c4
    have H1 : (if a0 ≥ 65 then (if a0 ≤ 70 then (some (((a0 - 65) % 256) + 10)) else (some (-1))) else (some (-1))) = some r := by rw [if_neg (show ¬ (false = true) by decide)] at H;exact H
    clear H
    have H := H1
    clear H1
    by_cases c5 : a0 ≥ 65
    ·rw [if_pos c5] at H
     have c5b0 : decide (65 ≤ a0) = true := decide_eq_true c5
     clear c5
     by_cases c6 : a0 ≤ 70
     ·rw [if_pos c6] at H
      have c6b0 : decide (a0 ≤ 70) = true := decide_eq_true c6
      clear c6
      obtain rfl := Option.some.inj H
      go_wp2
      go_ret
      exact ⟨by first | rfl | (simp;done) | (simp [*];done),by repeat (first | exact Drawn0.refl _ | apply Drawn0.step)⟩
     ·rw [if_neg c6] at H
      have c6b0 : decide (a0 ≤ 70) = false := decide_eq_false c6
      clear c6
      obtain rfl := Option.some.inj H
      go_wp2
      go_ret
      exact ⟨by first | rfl | (simp;done) | (simp [*];done),by repeat (first | exact Drawn0.refl _ | apply Drawn0.step)⟩
    ·rw [if_neg c5] at H
     have c5b0 : decide (65 ≤ a0) = false := decide_eq_false c5
     clear c5
     obtain rfl := Option.some.inj H
     go_wp2
     go_ret
     exact ⟨by first | rfl | (simp;done) | (simp [*];done),by repeat (first | exact Drawn0.refl _ | apply Drawn0.step)⟩
mutual
def bodkinref02_Table.l0 : Nat → ByteArray → List Int → Int → Bool → Int → Option ((List (S77)))
 | 0,_,_,_,_,_ => none
 | k + 1,x0,x3,x4,x5,x6 => if x6 ≤ (x0.size : Int) then (if x6 < (x0.size : Int) then (if 0 ≤ x6 then ((bodkinref02_digit.f k (bt x0 x6)).bind fun t173 => (bodkinref02_Table.j1 k x0 x3 x4 x5 x6 t173)) else (none)) else (bodkinref02_Table.j1 k x0 x3 x4 x5 x6 (-1))) else (bodkinref02_Table.l1 k x3 ([] : List (S77)) 0)
def bodkinref02_Table.j1 : Nat → ByteArray → List Int → Int → Bool → Int → Int → Option ((List (S77)))
 | 0,_,_,_,_,_,_ => none
 | k + 1,x0,x3,x4,x5,x6,x7 => if x7 ≥ 0 then (bodkinref02_Table.l0 k x0 x3 (wrap32 ((wrap32 (x4 * 16)) + x7)) true (wrap64 (x6 + 1))) else (if x5 = true then (if x3.length < 35184372088832 then (bodkinref02_Table.l0 k x0 (x3 ++ [x4]) 0 false (wrap64 (x6 + 1))) else (none)) else (bodkinref02_Table.l0 k x0 x3 0 false (wrap64 (x6 + 1))))
def bodkinref02_Table.l1 : Nat → List Int → List (S77) → Int → Option ((List (S77)))
 | 0,_,_,_ => none
 | k + 1,x3,x8,x9 => if (wrap64 (x9 + 1)) < (x3.length : Int) then (if 0 ≤ x9 then (if x9 < (x3.length : Int) then (if 0 ≤ (wrap64 (x9 + 1)) then (if x8.length < 17592186044416 then (bodkinref02_Table.l1 k x3 (x8 ++ [(⟨rd x3 x9,rd x3 (wrap64 (x9 + 1))⟩ : S77)]) (wrap64 (x9 + 2))) else (none)) else (none)) else (none)) else (none)) else (some x8)
end
def bodkinref02_Table.f (k : Nat) (a0 : ByteArray) : Option ((List (S77))) := bodkinref02_Table.l0 k a0 ([] : List Int) 0 false 0
theorem bodkinref02_Table.mono_l : ∀ k,(∀ y0 y1 y2 y3 y4,LeO (bodkinref02_Table.l0 k y0 y1 y2 y3 y4) (bodkinref02_Table.l0 (k + 1) y0 y1 y2 y3 y4)) ∧ (∀ y0 y1 y2 y3 y4 y5,LeO (bodkinref02_Table.j1 k y0 y1 y2 y3 y4 y5) (bodkinref02_Table.j1 (k + 1) y0 y1 y2 y3 y4 y5)) ∧ (∀ y0 y1 y2,LeO (bodkinref02_Table.l1 k y0 y1 y2) (bodkinref02_Table.l1 (k + 1) y0 y1 y2))
 | 0 => ⟨fun _ _ _ _ _ r h => by simp [bodkinref02_Table.l0] at h,fun _ _ _ _ _ _ r h => by simp [bodkinref02_Table.j1] at h,fun _ _ _ r h => by simp [bodkinref02_Table.l1] at h⟩
 | k + 1 => by
  obtain ⟨ih0,ih1,ih2⟩ := bodkinref02_Table.mono_l k
  refine ⟨?_,?_,?_⟩
  ·intro y0 y1 y2 y3 y4
   unfold bodkinref02_Table.l0
   repeat' first
   | (with_reducible exact ih0 _ _ _ _ _)
   | (with_reducible exact ih1 _ _ _ _ _ _)
   | (with_reducible exact ih2 _ _ _)
   | (with_reducible exact bodkinref02_digit.mono _ _)
   | (with_reducible exact LeO.refl _)
   | (with_reducible exact LeO.none _)
   | (with_reducible refine LeO.ite ?_ ?_)
   | (with_reducible refine LeO.bind ?_ (fun _ => ?_))
   | exact ih0 _ _ _ _ _
   | exact ih1 _ _ _ _ _ _
   | exact ih2 _ _ _
   | exact bodkinref02_digit.mono _ _
   | exact LeO.none _
   | refine LeO.ite ?_ ?_
   | refine LeO.bind ?_ (fun _ => ?_)
  ·intro y0 y1 y2 y3 y4 y5
   unfold bodkinref02_Table.j1
   repeat' first
   | (with_reducible exact ih0 _ _ _ _ _)
   | (with_reducible exact ih1 _ _ _ _ _ _)
   | (with_reducible exact ih2 _ _ _)
   | (with_reducible exact bodkinref02_digit.mono _ _)
   | (with_reducible exact LeO.refl _)
   | (with_reducible exact LeO.none _)
   | (with_reducible refine LeO.ite ?_ ?_)
   | (with_reducible refine LeO.bind ?_ (fun _ => ?_))
   | exact ih0 _ _ _ _ _
   | exact ih1 _ _ _ _ _ _
   | exact ih2 _ _ _
   | exact bodkinref02_digit.mono _ _
   | exact LeO.none _
   | refine LeO.ite ?_ ?_
   | refine LeO.bind ?_ (fun _ => ?_)
  ·intro y0 y1 y2
   unfold bodkinref02_Table.l1
   repeat' first
   | (with_reducible exact ih0 _ _ _ _ _)
   | (with_reducible exact ih1 _ _ _ _ _ _)
   | (with_reducible exact ih2 _ _ _)
   | (with_reducible exact bodkinref02_digit.mono _ _)
   | (with_reducible exact LeO.refl _)
   | (with_reducible exact LeO.none _)
   | (with_reducible refine LeO.ite ?_ ?_)
   | (with_reducible refine LeO.bind ?_ (fun _ => ?_))
   | exact ih0 _ _ _ _ _
   | exact ih1 _ _ _ _ _ _
   | exact ih2 _ _ _
   | exact bodkinref02_digit.mono _ _
   | exact LeO.none _
   | refine LeO.ite ?_ ?_
   | refine LeO.bind ?_ (fun _ => ?_)
theorem bodkinref02_Table.mono : ∀ a0 k,LeO (bodkinref02_Table.f k a0) (bodkinref02_Table.f (k + 1) a0) := by
 intro a0 k
 obtain ⟨ih0,ih1,ih2⟩ := bodkinref02_Table.mono_l k
 unfold bodkinref02_Table.f
 repeat' first
   | (with_reducible exact ih0 _ _ _ _ _)
   | (with_reducible exact ih1 _ _ _ _ _ _)
   | (with_reducible exact ih2 _ _ _)
   | (with_reducible exact bodkinref02_digit.mono _ _)
   | (with_reducible exact LeO.refl _)
   | (with_reducible exact LeO.none _)
   | (with_reducible refine LeO.ite ?_ ?_)
   | (with_reducible refine LeO.bind ?_ (fun _ => ?_))
   | exact ih0 _ _ _ _ _
   | exact ih1 _ _ _ _ _ _
   | exact ih2 _ _ _
   | exact bodkinref02_digit.mono _ _
   | exact LeO.none _
   | refine LeO.ite ?_ ?_
   | refine LeO.bind ?_ (fun _ => ?_)
def bodkinref02_Table.T21 : Bool × List (List Nat × List Nat) := (true,[([],[]),([],[]),([],[]),([1,2],[1,2]),([3],[3]),([],[]),([],[]),([6],[6]),([5,7],[5,7]),([8],[8]),([4,9],[4,9]),([10],[10]),([0,11],[0,11]),([12,12,0,1,2,3,4,5,6,7,8,9,10,11,12],[0,12])])
def bodkinref02_Table.B21 : List Nat := [0,0,0,6,14,0,0,64,224,480,1022,2046,4095,8191]
theorem bodkinref02_Table.tab21 : rtab .any (opsOf Tryd.f40 21) = bodkinref02_Table.T21 := by kernel_rfl
theorem bodkinref02_Table.bits21 : waitsOk bodkinref02_Table.T21.2 bodkinref02_Table.B21 = true := by kernel_rfl
set_option maxHeartbeats 8000000 in
set_option maxRecDepth 100000 in
theorem bodkinref02_Table.calls (k : Nat) (a0 : ByteArray) (r : List (S77)) (w : World) (h : bodkinref02_Table.f k a0 = some r) :
  Calls Tryd.prog 40 #[.string a0] w fun e w' => ∃ v0_ : Value,e = .returned (v0_) ∧ Kd.R k77 77 w' w.heap.size (fun _ => True) v0_ r ∧ Below w.heap.size w w' := by
 have hu77 := Tryd.underlying77
 have HB := Aside0.mk (Below.refl w.heap.size w)
 have H : (bodkinref02_Table.l0 k a0 ([] : List Int) 0 false 0) = some r := h
 clear h
 have H' := Aside0.mk H
 clear H
 go_enter Tryd.func40,Tryd.ntmps40
 go_wp2
 go_loopg [3,4,5,6] k (fun kq v3 v4 v5 v6 w' => ∃ (x3_1 : List Int) (x4_1 : Int) (x5_1 : Bool) (x6_1 : Int),v4 = .int .i32 x4_1 ∧ v5 = .bool x5_1 ∧ v6 = .int .i64 x6_1 ∧ Aside0 (bodkinref02_Table.l0 kq a0 x3_1 x4_1 x5_1 x6_1 = some r) ∧ Aside0 (kq ≤ k) ∧ Aside0 (Kd.R (Kd.int .i32) 21 w' w.heap.size (fun _ => True) v3 x3_1) ∧ Aside0 (Below w.heap.size w w'))
 case atStart => exact ⟨(([] : List Int)),(0),(false),(0),au3,au3,au3,H',⟨Nat.le_refl _⟩,⟨by first | exact Kd.R_nil _ _ _ _ _ | exact Kd.N_nil _ _ _ _ _ | exact Kd.V_nil _ _ _ _ _ | exact Kd.Q_nil _ _ _ _ _ | exact Kd.S_nil _ _ _ _ _⟩,⟨au0⟩⟩
 case round =>
  clear H'
  obtain ⟨x3_1,x4_1,x5_1,x6_1,rfl,rfl,rfl,HA,HK1,HO_3,HB⟩ := hrel
  cases gk with
  | zero => exact absurd HA.out (by simp [bodkinref02_Table.l0])
  | succ k1 =>
   have H := HA.out
   clear HA
   simp only [bodkinref02_Table.l0] at H
   by_cases c2 : x6_1 ≤ (a0.size : Int)
   ·rw [if_pos c2] at H
    have c2b0 : decide (x6_1 ≤ (a0.size : Int)) = true := decide_eq_true c2
    clear c2
    have HC3 := Aside0.mk H
    clear H
    go_upto_if 19 with (fail)
    go_cut [7] (fun v7 wc => ∃ (kq : Nat) (x7_2 : Int),v7 = .int .i32 x7_2 ∧ Aside0 (bodkinref02_Table.j1 kq a0 x3_1 x4_1 x5_1 x6_1 x7_2 = some r) ∧ Aside0 (kq ≤ k1) ∧ Aside0 (Kd.R (Kd.int .i32) 21 wc w.heap.size (fun _ => True) u3 x3_1) ∧ Aside0 (Below w.heap.size w wc))
    case first =>
     have H := HC3.out
     clear HC3
     by_cases c4 : x6_1 < (a0.size : Int)
     ·rw [if_pos c4] at H
      have c4b0 : decide (x6_1 < (a0.size : Int)) = true := decide_eq_true c4
      clear c4
      (first | rw [c4b0] | (simp only [i64_w,i32_w];rw [c4b0]) | skip)
      by_cases c5 : 0 ≤ x6_1
      ·rw [if_pos c5] at H
       have c5b0 : decide (0 ≤ x6_1) = true := decide_eq_true c5
       clear c5
       replace H := Option.bind_eq_some_iff.mp H
       obtain ⟨t173,A70,H⟩ := H
       replace H : (bodkinref02_Table.j1 k1 a0 x3_1 x4_1 x5_1 x6_1 t173) = some r := H
       have A7 := Aside0.mk A70
       clear A70
       have H' := Aside0.mk H
       clear H
       have p6 : 0 ≤ (x6_1 : Int) := of_decide_eq_true au4
       have q6 : x6_1 < (a0.size : Int) := of_decide_eq_true au4
       have hx6 := bt_at a0 x6_1
       replace p6 := eq_true p6
       replace q6 := eq_true q6
       go_wp2_with (first | ((with_reducible refine gate_callee (f := 64) rfl ?_);refine goesL_ (some 23) rfl rfl Tryd.func64 (by kernel_rfl) rfl #[.int .u8 (bt a0 x6_1)] rfl au1 ?_;(with_reducible refine (bodkinref02_digit.calls k1 (bt a0 x6_1) t173 _ A7.out).mono ?_);rintro e w' ⟨rfl,⟨nd,rfl⟩⟩;refine ⟨_,rfl,?_⟩))
       go_meet
       case rel => exact ⟨_,(t173),au3,H',⟨by have := HK1.out;first | omega | exact Nat.le_refl _⟩,⟨by (with_reducible repeat (first | apply Kd.R_alloc | apply Kd.R_drewN | apply Kd.R_drew));exact HO_3.out⟩,⟨au0⟩⟩
      ·rw [if_neg c5] at H
       exact absurd H (by simp)
     ·rw [if_neg c4] at H
      have c4b0 : decide (x6_1 < (a0.size : Int)) = false := decide_eq_false c4
      clear c4
      (first | rw [c4b0] | (simp only [i64_w,i32_w];rw [c4b0]) | skip)
      have H' := Aside0.mk H
      clear H
      go_wp2
      go_meet
      case rel => exact ⟨_,((-1)),au3,H',⟨by have := HK1.out;first | omega | exact Nat.le_refl _⟩,⟨by (with_reducible repeat (first | apply Kd.R_alloc | apply Kd.R_drewN | apply Kd.R_drew));exact HO_3.out⟩,⟨au0⟩⟩
    case rest =>
     clear HC3
     try clear c2
     try clear c2b0
     try clear p2
     try clear c4
     try clear c4b0
     try clear c5
     try clear c5b0
     try clear c6
     try clear p6
     try clear q6
     try clear hx6
     try clear p6
     try clear q6
     obtain ⟨kq,x7_2,rfl,HA,HJ2,HO_3,HB⟩ := hcut
     cases kq with
     | zero => exact absurd HA.out (by simp [bodkinref02_Table.j1])
     | succ kj2 =>
      have H := HA.out
      clear HA
      simp only [bodkinref02_Table.j1] at H
      by_cases c8 : x7_2 ≥ 0
      ·rw [if_pos c8] at H
       have c8b0 : decide (0 ≤ x7_2) = true := decide_eq_true c8
       clear c8
       have H' := Aside0.mk H
       clear H
       go_wp2
       go_roundg kj2
       case measure => have := HK1.out;have := HJ2.out;omega
       case rel => exact ⟨(x3_1),(wrap32 ((wrap32 (x4_1 * 16)) + x7_2)),(true),(wrap64 (x6_1 + 1)),au3,au3,au3,H',⟨by have := HK1.out;have := HJ2.out;omega⟩,⟨by (with_reducible repeat (first | apply Kd.R_alloc | apply Kd.R_drewN | apply Kd.R_drew));exact HO_3.out⟩,⟨au0⟩⟩
      ·rw [if_neg c8] at H
       have c8b0 : decide (0 ≤ x7_2) = false := decide_eq_false c8
       clear c8
       by_cases c9 : x5_1 = true
       ·subst c9
        have H1 : (if x3_1.length < 35184372088832 then (bodkinref02_Table.l0 kj2 a0 (x3_1 ++ [x4_1]) 0 false (wrap64 (x6_1 + 1))) else (none)) = some r := by rw [if_pos rfl] at H;exact H
        clear H
        have H := H1
        clear H1
        by_cases c10 : x3_1.length < 35184372088832
        ·rw [if_pos c10] at H
         have LMc10 := Aside0.mk c10
         clear c10
         obtain ⟨y174,hy174⟩ : ∃ y_ : List Int,y_ = (x3_1 ++ [x4_1]) := ⟨_,rfl⟩
         replace H : (bodkinref02_Table.l0 kj2 a0 y174 0 false (wrap64 (x6_1 + 1))) = some r := by first | (rw [hy174];with_reducible exact H) | (have H2_ := (Option.bind_some _ _).symm.trans H;rw [hy174];with_reducible exact H2_) | (have H2_ := (Option.bind_some _ _).symm.trans H;with_reducible exact H2_) | with_reducible exact H | (rw [hy174];exact H) | exact H
         have Ny174 := Aside0.mk hy174
         clear hy174
         have H' := Aside0.mk H
         clear H
         go_wp2_with (first | ((with_reducible refine gate_builtin (b := .append) (xs := #[.tmp 31,.tmp 33]) rfl ?_);at_builtin;refine Kd.R_append (Kd.int .i32) (w0 := w) w.heap.size rfl (.tmp 31) (.tmp 33) 22 21 (.int .i32 0) 4 rfl Tryd.underlying22 info21 rfl (by decide) (by omega) u3 x3_1 x4_1 [.int .i32 x4_1] (fun _ => True) (fun _ => False) rfl rfl ?aP (fun _ hk => hk.elim) ?aF ?aO ?aB ?aS ?aL ?_;(case aP => exact rfl);(case aB => exact au0);(case aF => exact (fun _ _ => trivial));(case aO => exact au5);(case aS => exact (below_size au0));(case aL => have := LMc10.out;omega);intro v175 w11 ho hb hg hat;rw [← Ny174.out] at ho;have n0_ := Aside0.mk (hb);have n1_ := Aside0.mk (ho);clear HB;clear HO_3;have HB := n0_;have HO176 := n1_;clear n0_ n1_;clear ho hb hg hat))
         go_roundg kj2
         case measure => have := HK1.out;have := HJ2.out;omega
         case rel => exact ⟨(y174),(0),(false),(wrap64 (x6_1 + 1)),au3,au3,au3,H',⟨by have := HK1.out;have := HJ2.out;omega⟩,⟨by (with_reducible repeat (first | apply Kd.R_alloc | apply Kd.R_drewN | apply Kd.R_drew));exact HO176.out⟩,⟨au0⟩⟩
        ·rw [if_neg c10] at H
         exact absurd H (by simp)
       ·replace c9 := Bool.eq_false_iff.mpr c9
        subst c9
        have H1 : (bodkinref02_Table.l0 kj2 a0 x3_1 0 false (wrap64 (x6_1 + 1))) = some r := by rw [if_neg (show ¬ (false = true) by decide)] at H;exact H
        clear H
        have H := H1
        clear H1
        have H' := Aside0.mk H
        clear H
        go_wp2
        go_roundg kj2
        case measure => have := HK1.out;have := HJ2.out;omega
        case rel => exact ⟨(x3_1),(0),(false),(wrap64 (x6_1 + 1)),au3,au3,au3,H',⟨by have := HK1.out;have := HJ2.out;omega⟩,⟨by (with_reducible repeat (first | apply Kd.R_alloc | apply Kd.R_drewN | apply Kd.R_drew));exact HO_3.out⟩,⟨au0⟩⟩
   ·rw [if_neg c2] at H
    have c2b0 : decide (x6_1 ≤ (a0.size : Int)) = false := decide_eq_false c2
    clear c2
    have H' := Aside0.mk H
    clear H
    go_wp2
    go_loopg [8,9] k1 (fun kq v8 v9 w' => ∃ (x8_2 : List (S77)) (x9_2 : Int),v9 = .int .i64 x9_2 ∧ Aside0 (bodkinref02_Table.l1 kq x3_1 x8_2 x9_2 = some r) ∧ Aside0 (kq ≤ k1) ∧ Aside0 (Kd.R (Kd.int .i32) 21 w' w.heap.size (fun _ => True) u3 x3_1) ∧ Aside0 (Kd.R k77 77 w' w.heap.size (fun _ => True) v8 x8_2) ∧ Aside0 (Below w.heap.size w w'))
    case atStart => exact ⟨(([] : List (S77))),(0),au3,H',⟨Nat.le_refl _⟩,⟨by (with_reducible repeat (first | apply Kd.R_alloc | apply Kd.R_drewN | apply Kd.R_drew));exact HO_3.out⟩,⟨by first | exact Kd.R_nil _ _ _ _ _ | exact Kd.N_nil _ _ _ _ _ | exact Kd.V_nil _ _ _ _ _ | exact Kd.Q_nil _ _ _ _ _ | exact Kd.S_nil _ _ _ _ _⟩,⟨au0⟩⟩
    case round =>
     clear H'
     try clear c1
     try clear c2
     try clear c2b0
     try clear p2
     try clear p3
     try clear c4
     try clear c4b0
     try clear c5
     try clear c5b0
     try clear c6
     try clear p6
     try clear q6
     try clear hx6
     try clear c8
     try clear c8b0
     try clear c9
     try clear c10
     try clear p2
     try clear p6
     try clear q6
     obtain ⟨x8_2,x9_2,rfl,HA,HK2,HO_3,HO_8,HB⟩ := hrel
     cases gk with
     | zero => exact absurd HA.out (by simp [bodkinref02_Table.l1])
     | succ k2 =>
      have H := HA.out
      clear HA
      simp only [bodkinref02_Table.l1] at H
      by_cases c12 : (wrap64 (x9_2 + 1)) < (x3_1.length : Int)
      ·rw [if_pos c12] at H
       have c12b0 : decide ((wrap64 (x9_2 + 1)) < (x3_1.length : Int)) = true := decide_eq_true c12
       clear c12
       by_cases c13 : 0 ≤ x9_2
       ·rw [if_pos c13] at H
        have c13b0 : decide (0 ≤ x9_2) = true := decide_eq_true c13
        clear c13
        by_cases c14 : x9_2 < (x3_1.length : Int)
        ·rw [if_pos c14] at H
         have c14b0 : decide (x9_2 < (x3_1.length : Int)) = true := decide_eq_true c14
         clear c14
         obtain ⟨ji15,hji15⟩ : ∃ j_ : Int,(wrap64 (x9_2 + 1)) = j_ := ⟨_,rfl⟩
         replace H : (if 0 ≤ (ji15) then (if x8_2.length < 17592186044416 then (bodkinref02_Table.l1 k2 x3_1 (x8_2 ++ [(⟨rd x3_1 x9_2,rd x3_1 (ji15)⟩ : S77)]) (wrap64 (x9_2 + 2))) else (none)) else (none)) = some r := by first | (rw [hji15] at H;exact H) | (simp only [hji15] at H ⊢;exact H)
         (try rw [hji15] at c12b0)
         have hji15w : (IntKind.i64.wrap (x9_2 + 1)) = ji15 := (i64_w _).trans hji15
         by_cases c16 : 0 ≤ (ji15)
         ·rw [if_pos c16] at H
          have c16b0 : decide (0 ≤ (ji15)) = true := decide_eq_true c16
          clear c16
          by_cases c17 : x8_2.length < 17592186044416
          ·rw [if_pos c17] at H
           have LMc17 := Aside0.mk c17
           clear c17
           obtain ⟨y179,hy179⟩ : ∃ y_ : List (S77),y_ = (x8_2 ++ [(⟨rd x3_1 x9_2,rd x3_1 (ji15)⟩ : S77)]) := ⟨_,rfl⟩
           replace H : (bodkinref02_Table.l1 k2 x3_1 y179 (wrap64 (x9_2 + 2))) = some r := by first | (rw [hy179];with_reducible exact H) | (have H2_ := (Option.bind_some _ _).symm.trans H;rw [hy179];with_reducible exact H2_) | (have H2_ := (Option.bind_some _ _).symm.trans H;with_reducible exact H2_) | with_reducible exact H | (rw [hy179];exact H) | exact H
           have Ny179 := Aside0.mk hy179
           clear hy179
           have H' := Aside0.mk H
           clear H
           obtain ⟨Ao18,co18,eo18⟩ := Kd.R_slice HO_3.out
           subst eo18
           try go_wp2
           have n0_ := Aside0.mk (Kd.R_drew HO_3.out)
           have n1_ := Aside0.mk (Kd.R_drew HO_8.out)
           have n2_ := Aside0.mk (below_drew1 HB.out)
           clear HO_3
           clear HO_8
           clear HB
           have HO_3 := n0_
           have HO_8 := n1_
           have HB := n2_
           clear n0_ n1_ n2_
           have p177 : 0 ≤ (x9_2 : Int) := of_decide_eq_true au4
           have q177 : x9_2 < (x3_1.length : Int) := of_decide_eq_true au4
           obtain ⟨ad177,e177,hx177_0⟩ := Kd.at_int (Kd.R_reads' HO_3.out).2.2 x9_2 p177 q177
           cases e177
           replace p177 := eq_true p177
           replace q177 := eq_true q177
           have p178 : 0 ≤ ((ji15) : Int) := of_decide_eq_true au4
           have q178 : (ji15) < (x3_1.length : Int) := of_decide_eq_true au4
           obtain ⟨ad178,e178,hx178_0⟩ := Kd.at_int (Kd.R_reads' HO_3.out).2.2 (ji15) p178 q178
           obtain rfl : ad177 = ad178 := (by injection e178)
           replace p178 := eq_true p178
           replace q178 := eq_true q178
           refine start_ (n := 14) (S := fun w' => w'.cell? (ad177.add (x9_2).toNat) = some (.int .i32 (rd x3_1 x9_2)) ∧ w'.cell? (ad177.add ((ji15)).toNat) = some (.int .i32 (rd x3_1 (ji15)))) (ds := [11,12]) #[false,false,false,false,false,false,false,false,false,false,false,false,false,false] (by kernel_rfl) rfl rfl ⟨hx177_0,hx178_0⟩ (fun hHeld => ?_);refine with_tabW bodkinref02_Table.tab21 bodkinref02_Table.bits21 (fun HT_ HW_ => ?_)
           generalize wr.drew = w19 at HO_3 HO_8 HB hx177_0 hx178_0 hHeld ⊢
           refine pure_ (i := 0) (N := some 42) (v := ?_) (a' := ?_) #[true,false,false,false,false,false,false,false,false,false,false,false,false,false] rfl rfl (any_of HT_.out (by kernel_rfl)) (fun _ _ _ h => h) (Or.inl ⟨by rfl,?_⟩) ?_ ?_
           rotate_left
           ·intro w'
            go_simp
            with_reducible rfl
           rotate_left
           ·simp only [Act.put,List.setIfInBounds_toArray,List.set_cons_zero,List.set_cons_succ,i64_w,i32_w]
            rfl
           refine pure_ (i := 1) (N := some 43) (v := ?_) (a' := ?_) #[true,true,false,false,false,false,false,false,false,false,false,false,false,false] rfl rfl (any_of HT_.out (by kernel_rfl)) (fun _ _ _ h => h) (Or.inl ⟨by rfl,?_⟩) ?_ ?_
           rotate_left
           ·intro w'
            go_simp
            with_reducible rfl
           rotate_left
           ·simp only [Act.put,List.setIfInBounds_toArray,List.set_cons_zero,List.set_cons_succ,i64_w,i32_w]
            rfl
           refine pure_ (i := 2) (N := some 44) (v := ?_) (a' := ?_) #[true,true,true,false,false,false,false,false,false,false,false,false,false,false] rfl rfl (any_of HT_.out (by kernel_rfl)) (fun _ _ _ h => h) (Or.inl ⟨by rfl,?_⟩) ?_ ?_
           rotate_left
           ·intro w'
            go_simp
            with_reducible rfl
           rotate_left
           ·simp only [Act.put,List.setIfInBounds_toArray,List.set_cons_zero,List.set_cons_succ,i64_w,i32_w]
            rfl
           refine pure_ (i := 3) (N := some 45) (v := ?_) (a' := ?_) #[true,true,true,true,false,false,false,false,false,false,false,false,false,false] rfl rfl (any_of HT_.out (by kernel_rfl)) (fun _ _ _ h => h) (Or.inl ⟨by rfl,?_⟩) ?_ ?_
           rotate_left
           ·intro w'
            go_simp
            with_reducible rfl
           rotate_left
           ·simp only [Act.put,List.setIfInBounds_toArray,List.set_cons_zero,List.set_cons_succ,i64_w,i32_w]
            rfl
           refine pure_ (i := 5) (N := some 47) (v := ?_) (a' := ?_) #[true,true,true,true,false,true,false,false,false,false,false,false,false,false] rfl rfl (any_of HT_.out (by kernel_rfl)) (fun _ _ _ h => h) (Or.inl ⟨by rfl,?_⟩) ?_ ?_
           rotate_left
           ·intro w'
            go_simp
            with_reducible rfl
           rotate_left
           ·simp only [Act.put,List.setIfInBounds_toArray,List.set_cons_zero,List.set_cons_succ,i64_w,i32_w]
            rfl
           refine pure_ (i := 6) (N := some 48) (v := ?_) (a' := ?_) #[true,true,true,true,false,true,true,false,false,false,false,false,false,false] rfl rfl (any_of HT_.out (by kernel_rfl)) (fun _ _ _ h => h) (Or.inl ⟨by rfl,?_⟩) ?_ ?_
           rotate_left
           ·intro w'
            go_simp
            with_reducible rfl
           rotate_left
           ·simp only [Act.put,List.setIfInBounds_toArray,List.set_cons_zero,List.set_cons_succ,i64_w,i32_w]
            rfl
           refine pure_ (i := 7) (N := some 49) (v := ?_) (a' := ?_) #[true,true,true,true,false,true,true,true,false,false,false,false,false,false] rfl rfl (any_of HT_.out (by kernel_rfl)) (fun _ _ _ h => h) (Or.inl ⟨by rfl,?_⟩) ?_ ?_
           rotate_left
           ·intro w'
            go_simp
            with_reducible rfl
           rotate_left
           ·simp only [Act.put,List.setIfInBounds_toArray,List.set_cons_zero,List.set_cons_succ,i64_w,i32_w]
            rfl
           refine pure_ (i := 8) (N := some 50) (v := ?_) (a' := ?_) #[true,true,true,true,false,true,true,true,true,false,false,false,false,false] rfl rfl (any_of HT_.out (by kernel_rfl)) (fun _ _ _ h => h) (Or.inl ⟨by rfl,?_⟩) ?_ ?_
           rotate_left
           ·intro w'
            go_simp
            with_reducible rfl
           rotate_left
           ·simp only [Act.put,List.setIfInBounds_toArray,List.set_cons_zero,List.set_cons_succ,i64_w,i32_w]
            rfl
           refine take_ (i := 4) (N := some 46) (v := ?_) (a' := ?_) #[true,true,true,true,true,true,true,true,true,false,false,false,false,false] rfl rfl (take_ofW HT_.out HW_.out (by kernel_rfl)) (fun _ _ _ h => h) (Or.inl ⟨by rfl,?_⟩) hHeld ?_ ?_
           rotate_left
           ·rintro w' ⟨s0,s1⟩
            go_simp
            with_reducible rfl
           rotate_left
           ·simp only [Act.put,List.setIfInBounds_toArray,List.set_cons_zero,List.set_cons_succ,i64_w,i32_w]
            rfl
           refine take_ (i := 9) (N := some 51) (v := ?_) (a' := ?_) #[true,true,true,true,true,true,true,true,true,true,false,false,false,false] rfl rfl (take_ofW HT_.out HW_.out (by kernel_rfl)) (fun _ _ _ h => h) (Or.inl ⟨by rfl,?_⟩) hHeld ?_ ?_
           rotate_left
           ·rintro w' ⟨s0,s1⟩
            go_simp
            with_reducible rfl
           rotate_left
           ·simp only [Act.put,List.setIfInBounds_toArray,List.set_cons_zero,List.set_cons_succ,i64_w,i32_w]
            rfl
           refine pure_ (i := 10) (N := some 52) (v := ?_) (a' := ?_) #[true,true,true,true,true,true,true,true,true,true,true,false,false,false] rfl rfl (any_of HT_.out (by kernel_rfl)) (fun _ _ _ h => h) (Or.inl ⟨by rfl,?_⟩) ?_ ?_
           rotate_left
           ·intro w'
            go_simp
            with_reducible rfl
           rotate_left
           ·simp only [Act.put,List.setIfInBounds_toArray,List.set_cons_zero,List.set_cons_succ,i64_w,i32_w]
            rfl
           refine last_ (i := 11) (N := some 53) #[true,true,true,true,true,true,true,true,true,true,true,true,false,false] rfl rfl (one_of HT_.out (by kernel_rfl)) (by decide) (fun K hK => ?_)
           refine value_ (w1 := ?_) (v := ?_) (by rfl) rfl ?_ ?_
           rotate_left 2
           ·go_simp
            constructor
            ·rfl
            ·rfl
           refine hK.out _ _ ?_
           clear hK K
           refine norm_ (a' := ?_) ?_ ?_
           rotate_left
           ·show Act.put _ (some 53) _ = _
            simp only [Act.put,List.setIfInBounds_toArray,List.set_cons_zero,List.set_cons_succ,i64_w,i32_w]
            rfl
           refine last_ (i := 12) (N := some 54) #[true,true,true,true,true,true,true,true,true,true,true,true,true,false] rfl rfl (one_of HT_.out (by kernel_rfl)) (by decide) (fun K hK => ?_)
           refine Kd.R_append_step k77 (w0 := w) w.heap.size (by rfl) (.tmp 42) (.tmp 53) 49 77 (.agg #[(.int .i32 0),(.int .i32 0)]) 8 rfl Tryd.underlying49 info77 rfl (by decide) (by omega) u8 x8_2 (⟨rd x3_1 x9_2,rd x3_1 (ji15)⟩ : S77) [.int .i32 (rd x3_1 x9_2),.int .i32 (rd x3_1 (ji15))] (fun _ => True) (fun _ => False) rfl rfl ?aP (fun _ hk => hk.elim) ?aF ?aO ?aB ?aS ?aL ?_
           (case aP => exact k77_mkM _ _ _ (⟨rd x3_1 x9_2,rd x3_1 (ji15)⟩ : S77))
           (case aB => exact au0)
           (case aF => exact (fun _ _ => trivial))
           (case aO => exact (by (with_reducible repeat (first | apply Kd.R_alloc | apply Kd.R_drewN | apply Kd.R_drew));exact HO_8.out))
           (case aS => exact (below_size au0))
           (case aL => have := LMc17.out;omega)
           intro v180 w20 ho hb hg hat
           rw [← Ny179.out] at ho
           have n0_ := Aside0.mk (Kd.R_over' au5 (Kd.R_typed (by (with_reducible repeat (first | apply Kd.R_alloc | apply Kd.R_drewN | apply Kd.R_drew));exact HO_8.out)) (by decide) hg)
           have n1_ := Aside0.mk (hb)
           have n2_ := Aside0.mk (ho)
           clear HO_3
           clear HB
           clear HO_8
           have HO_3 := n0_
           have HB := n1_
           have HO181 := n2_
           clear n0_ n1_ n2_
           clear ho hb hg hat
           refine hK.out _ _ ?_
           clear hK K
           refine norm_ (a' := ?_) ?_ ?_
           rotate_left
           ·show Act.put _ (some 54) _ = _
            simp only [Act.put,List.setIfInBounds_toArray,List.set_cons_zero,List.set_cons_succ,i64_w,i32_w]
            rfl
           refine pure_ (i := 13) (N := some 8) (v := ?_) (a' := ?_) #[true,true,true,true,true,true,true,true,true,true,true,true,true,true] rfl rfl (any_of HT_.out (by kernel_rfl)) (fun _ _ _ h => h) (Or.inl ⟨by rfl,?_⟩) ?_ ?_
           rotate_left
           ·intro w'
            go_simp
            with_reducible rfl
           rotate_left
           ·simp only [Act.put,List.setIfInBounds_toArray,List.set_cons_zero,List.set_cons_succ,i64_w,i32_w]
            rfl
           refine done_ (done_of HT_.out (by kernel_rfl)) ?_
           try go_wp2
           go_roundg k2
           case measure => have := HK1.out;have := HK2.out;omega
           case rel => exact ⟨(y179),(wrap64 (x9_2 + 2)),au3,H',⟨by have := HK1.out;have := HK2.out;omega⟩,⟨by (with_reducible repeat (first | apply Kd.R_alloc | apply Kd.R_drewN | apply Kd.R_drew));exact HO_3.out⟩,⟨by (with_reducible repeat (first | apply Kd.R_alloc | apply Kd.R_drewN | apply Kd.R_drew));exact HO181.out⟩,⟨au0⟩⟩
          ·rw [if_neg c17] at H
           exact absurd H (by simp)
         ·rw [if_neg c16] at H
          exact absurd H (by simp)
        ·rw [if_neg c14] at H
         exact absurd H (by simp)
       ·rw [if_neg c13] at H
        exact absurd H (by simp)
      ·rw [if_neg c12] at H
       have c12b0 : decide ((wrap64 (x9_2 + 1)) < (x3_1.length : Int)) = false := decide_eq_false c12
       clear c12
       obtain rfl := Option.some.inj H
       obtain ⟨Ao21,co21,eo21⟩ := Kd.R_slice HO_3.out
       subst eo21
       go_wp2
       go_ret
       exact ⟨_,by first | rfl | (simp [errW_none,errW_some] <;> rfl) | (simp [*,errW_none,errW_some] <;> rfl),by (with_reducible repeat (first | apply Kd.R_alloc | apply Kd.R_drewN | apply Kd.R_drew));exact HO_8.out,au0⟩
end Go.Proofs.YtkficbgnjpekaaaDoor.U
end
