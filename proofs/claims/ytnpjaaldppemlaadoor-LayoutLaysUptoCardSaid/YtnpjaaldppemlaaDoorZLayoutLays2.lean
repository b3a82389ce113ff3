/- What the law LayoutLays reaches of this seat's own texts, merged; what nothing uses is left out. -/
import Derived.Test.YtnpjaaldppemlaaDoorZLayoutLays0
import Derived.Test.YtnpjaaldppemlaaDoorZLayoutLays1
section
namespace Go.Proofs.YtnpjaaldppemlaaDoor.U
open Go.RowKit Go.Proofs.YtnpjaaldppemlaaDoorW.PrintWords Go.Proofs.YtnpjaaldppemlaaDoorW.PrintLast Go.Proofs.YtnpjaaldppemlaaDoorW.PrintMore
attribute [local go_sem] max2_int min2_int max_two min_two max_three min_three max_four min_four   -- for this text's walks alone
set_option linter.unusedVariables false
set_option linter.unusedSimpArgs false
attribute [local go_sem high] eqA35
def width_marks.f  : Option (List Int) := some (([768,879,1155,1161,1425,1469,1471,1471,1473,1474,1552,1562,1611,1631,1648,1648,1750,1756,2304,2306,2364,2364,2381,2381,3633,3633,3636,3642,3655,3662,4957,4959,6832,6911,7616,7679,8204,8205,8400,8447,12330,12335,12441,12442,65024,65039,65056,65071,127995,127999,917760,917999] : List Int))
set_option maxHeartbeats 8000000 in
set_option maxRecDepth 100000 in
theorem width_marks.calls  (r : List Int) (w : World) (h : width_marks.f  = some r) :
  Calls Tryd.prog 85 #[] w fun e w' => ∃ v0_ : Value,e = .returned (v0_) ∧ Kd.R (Kd.int .i32) 21 w' w.heap.size (fun _ => True) v0_ r ∧ Below w.heap.size w w' := by
 have HB := Aside0.mk (Below.refl w.heap.size w)
 have H : (some (([768,879,1155,1161,1425,1469,1471,1471,1473,1474,1552,1562,1611,1631,1648,1648,1750,1756,2304,2306,2364,2364,2381,2381,3633,3633,3636,3642,3655,3662,4957,4959,6832,6911,7616,7679,8204,8205,8400,8447,12330,12335,12441,12442,65024,65039,65056,65071,127995,127999,917760,917999] : List Int))) = some r := h
 clear h
 obtain ⟨y120,hy120⟩ : ∃ y_ : List Int,y_ = (([768,879,1155,1161,1425,1469,1471,1471,1473,1474,1552,1562,1611,1631,1648,1648,1750,1756,2304,2306,2364,2364,2381,2381,3633,3633,3636,3642,3655,3662,4957,4959,6832,6911,7616,7679,8204,8205,8400,8447,12330,12335,12441,12442,65024,65039,65056,65071,127995,127999,917760,917999] : List Int)) := ⟨_,rfl⟩
 replace H : (some y120) = some r := by first | (rw [hy120];with_reducible exact H) | (have H2_ := (Option.bind_some _ _).symm.trans H;rw [hy120];with_reducible exact H2_) | (have H2_ := (Option.bind_some _ _).symm.trans H;with_reducible exact H2_) | with_reducible exact H | (rw [hy120];exact H) | exact H
 have Ny120 := Aside0.mk hy120
 clear hy120
 obtain rfl := Option.some.inj H
 go_enter Tryd.func85,Tryd.ntmps85
 go_wp2_with (first | ((with_reducible refine gate_dst (N := 1) rfl ?_);refine Kd.R_lit (Kd.int .i32) _ 21 ?hg (N := 1) ?hd (xs := ([768,879,1155,1161,1425,1469,1471,1471,1473,1474,1552,1562,1611,1631,1648,1648,1750,1756,2304,2306,2364,2364,2381,2381,3633,3633,3636,3642,3655,3662,4957,4959,6832,6911,7616,7679,8204,8205,8400,8447,12330,12335,12441,12442,65024,65039,65056,65071,127995,127999,917760,917999] : List Int)) (inner := [.int .i32 768,.int .i32 879,.int .i32 1155,.int .i32 1161,.int .i32 1425,.int .i32 1469,.int .i32 1471,.int .i32 1471,.int .i32 1473,.int .i32 1474,.int .i32 1552,.int .i32 1562,.int .i32 1611,.int .i32 1631,.int .i32 1648,.int .i32 1648,.int .i32 1750,.int .i32 1756,.int .i32 2304,.int .i32 2306,.int .i32 2364,.int .i32 2364,.int .i32 2381,.int .i32 2381,.int .i32 3633,.int .i32 3633,.int .i32 3636,.int .i32 3642,.int .i32 3655,.int .i32 3662,.int .i32 4957,.int .i32 4959,.int .i32 6832,.int .i32 6911,.int .i32 7616,.int .i32 7679,.int .i32 8204,.int .i32 8205,.int .i32 8400,.int .i32 8447,.int .i32 12330,.int .i32 12335,.int .i32 12441,.int .i32 12442,.int .i32 65024,.int .i32 65039,.int .i32 65056,.int .i32 65071,.int .i32 127995,.int .i32 127999,.int .i32 917760,.int .i32 917999]) (ok := fun _ => True) (okp := fun _ => True) ?hr ?hp (fun _ hk => hk) trivial (Below.refl _ _) (Nat.le_refl _) (by simp) ?_;(case hd => rfl);(case hg => rfl);(case hr => first | (go_simp;done) | (go_simp;rfl));(case hp => exact (Reps.one (show Kd.M (Kd.int .i32) _ _ _ 768 [.int .i32 768] from rfl) (Reps.one (show Kd.M (Kd.int .i32) _ _ _ 879 [.int .i32 879] from rfl) (Reps.one (show Kd.M (Kd.int .i32) _ _ _ 1155 [.int .i32 1155] from rfl) (Reps.one (show Kd.M (Kd.int .i32) _ _ _ 1161 [.int .i32 1161] from rfl) (Reps.one (show Kd.M (Kd.int .i32) _ _ _ 1425 [.int .i32 1425] from rfl) (Reps.one (show Kd.M (Kd.int .i32) _ _ _ 1469 [.int .i32 1469] from rfl) (Reps.one (show Kd.M (Kd.int .i32) _ _ _ 1471 [.int .i32 1471] from rfl) (Reps.one (show Kd.M (Kd.int .i32) _ _ _ 1471 [.int .i32 1471] from rfl) (Reps.one (show Kd.M (Kd.int .i32) _ _ _ 1473 [.int .i32 1473] from rfl) (Reps.one (show Kd.M (Kd.int .i32) _ _ _ 1474 [.int .i32 1474] from rfl) (Reps.one (show Kd.M (Kd.int .i32) _ _ _ 1552 [.int .i32 1552] from rfl) (Reps.one (show Kd.M (Kd.int .i32) _ _ _ 1562 [.int .i32 1562] from rfl) (Reps.one (show Kd.M (Kd.int .i32) _ _ _ 1611 [.int .i32 1611] from rfl) (Reps.one (show Kd.M (Kd.int .i32) _ _ _ 1631 [.int .i32 1631] from rfl) (Reps.one (show Kd.M (Kd.int .i32) _ _ _ 1648 [.int .i32 1648] from rfl) (Reps.one (show Kd.M (Kd.int .i32) _ _ _ 1648 [.int .i32 1648] from rfl) (Reps.one (show Kd.M (Kd.int .i32) _ _ _ 1750 [.int .i32 1750] from rfl) (Reps.one (show Kd.M (Kd.int .i32) _ _ _ 1756 [.int .i32 1756] from rfl) (Reps.one (show Kd.M (Kd.int .i32) _ _ _ 2304 [.int .i32 2304] from rfl) (Reps.one (show Kd.M (Kd.int .i32) _ _ _ 2306 [.int .i32 2306] from rfl) (Reps.one (show Kd.M (Kd.int .i32) _ _ _ 2364 [.int .i32 2364] from rfl) (Reps.one (show Kd.M (Kd.int .i32) _ _ _ 2364 [.int .i32 2364] from rfl) (Reps.one (show Kd.M (Kd.int .i32) _ _ _ 2381 [.int .i32 2381] from rfl) (Reps.one (show Kd.M (Kd.int .i32) _ _ _ 2381 [.int .i32 2381] from rfl) (Reps.one (show Kd.M (Kd.int .i32) _ _ _ 3633 [.int .i32 3633] from rfl) (Reps.one (show Kd.M (Kd.int .i32) _ _ _ 3633 [.int .i32 3633] from rfl) (Reps.one (show Kd.M (Kd.int .i32) _ _ _ 3636 [.int .i32 3636] from rfl) (Reps.one (show Kd.M (Kd.int .i32) _ _ _ 3642 [.int .i32 3642] from rfl) (Reps.one (show Kd.M (Kd.int .i32) _ _ _ 3655 [.int .i32 3655] from rfl) (Reps.one (show Kd.M (Kd.int .i32) _ _ _ 3662 [.int .i32 3662] from rfl) (Reps.one (show Kd.M (Kd.int .i32) _ _ _ 4957 [.int .i32 4957] from rfl) (Reps.one (show Kd.M (Kd.int .i32) _ _ _ 4959 [.int .i32 4959] from rfl) (Reps.one (show Kd.M (Kd.int .i32) _ _ _ 6832 [.int .i32 6832] from rfl) (Reps.one (show Kd.M (Kd.int .i32) _ _ _ 6911 [.int .i32 6911] from rfl) (Reps.one (show Kd.M (Kd.int .i32) _ _ _ 7616 [.int .i32 7616] from rfl) (Reps.one (show Kd.M (Kd.int .i32) _ _ _ 7679 [.int .i32 7679] from rfl) (Reps.one (show Kd.M (Kd.int .i32) _ _ _ 8204 [.int .i32 8204] from rfl) (Reps.one (show Kd.M (Kd.int .i32) _ _ _ 8205 [.int .i32 8205] from rfl) (Reps.one (show Kd.M (Kd.int .i32) _ _ _ 8400 [.int .i32 8400] from rfl) (Reps.one (show Kd.M (Kd.int .i32) _ _ _ 8447 [.int .i32 8447] from rfl) (Reps.one (show Kd.M (Kd.int .i32) _ _ _ 12330 [.int .i32 12330] from rfl) (Reps.one (show Kd.M (Kd.int .i32) _ _ _ 12335 [.int .i32 12335] from rfl) (Reps.one (show Kd.M (Kd.int .i32) _ _ _ 12441 [.int .i32 12441] from rfl) (Reps.one (show Kd.M (Kd.int .i32) _ _ _ 12442 [.int .i32 12442] from rfl) (Reps.one (show Kd.M (Kd.int .i32) _ _ _ 65024 [.int .i32 65024] from rfl) (Reps.one (show Kd.M (Kd.int .i32) _ _ _ 65039 [.int .i32 65039] from rfl) (Reps.one (show Kd.M (Kd.int .i32) _ _ _ 65056 [.int .i32 65056] from rfl) (Reps.one (show Kd.M (Kd.int .i32) _ _ _ 65071 [.int .i32 65071] from rfl) (Reps.one (show Kd.M (Kd.int .i32) _ _ _ 127995 [.int .i32 127995] from rfl) (Reps.one (show Kd.M (Kd.int .i32) _ _ _ 127999 [.int .i32 127999] from rfl) (Reps.one (show Kd.M (Kd.int .i32) _ _ _ 917760 [.int .i32 917760] from rfl) (Reps.one (show Kd.M (Kd.int .i32) _ _ _ 917999 [.int .i32 917999] from rfl) (Reps.none _ _))))))))))))))))))))))))))))))))))))))))))))))))))))));intro v121 w1 ho2 hb hg_ hnew_;clear hg_ hnew_;(first | rw [← Ny120.out] at ho2 | (simp only [Int.reduceToNat] at ho2;rw [← Ny120.out] at ho2));have n0_ := Aside0.mk (Kd.R_lower ho2 (below_size au0));have n1_ := Aside0.mk (below_step au0 hb);clear HB;have HO122 := n0_;have HB := n1_;clear n0_ n1_;clear hb ho2))
 go_ret
 exact ⟨_,by first | rfl | (simp [errW_none,errW_some] <;> rfl) | (simp [*,errW_none,errW_some] <;> rfl),by (with_reducible repeat (first | apply Kd.R_alloc | apply Kd.R_drewN | apply Kd.R_drew));exact HO122.out,au0⟩
def width_wides.f  : Option (List Int) := some (([4352,4447,8986,8987,9001,9002,9193,9196,9725,9726,9748,9749,9800,9811,9898,9899,11904,12329,12336,12350,12353,12440,12443,19903,19968,42191,43360,43391,44032,55203,63744,64255,65072,65135,65281,65376,65504,65510,94176,101119,110592,111359,127744,127994,128000,128591,128640,128767,129280,129535,131072,196605,196608,262141] : List Int))
set_option maxHeartbeats 8000000 in
set_option maxRecDepth 100000 in
theorem width_wides.calls  (r : List Int) (w : World) (h : width_wides.f  = some r) :
  Calls Tryd.prog 86 #[] w fun e w' => ∃ v0_ : Value,e = .returned (v0_) ∧ Kd.R (Kd.int .i32) 21 w' w.heap.size (fun _ => True) v0_ r ∧ Below w.heap.size w w' := by
 have HB := Aside0.mk (Below.refl w.heap.size w)
 have H : (some (([4352,4447,8986,8987,9001,9002,9193,9196,9725,9726,9748,9749,9800,9811,9898,9899,11904,12329,12336,12350,12353,12440,12443,19903,19968,42191,43360,43391,44032,55203,63744,64255,65072,65135,65281,65376,65504,65510,94176,101119,110592,111359,127744,127994,128000,128591,128640,128767,129280,129535,131072,196605,196608,262141] : List Int))) = some r := h
 clear h
 obtain ⟨y123,hy123⟩ : ∃ y_ : List Int,y_ = (([4352,4447,8986,8987,9001,9002,9193,9196,9725,9726,9748,9749,9800,9811,9898,9899,11904,12329,12336,12350,12353,12440,12443,19903,19968,42191,43360,43391,44032,55203,63744,64255,65072,65135,65281,65376,65504,65510,94176,101119,110592,111359,127744,127994,128000,128591,128640,128767,129280,129535,131072,196605,196608,262141] : List Int)) := ⟨_,rfl⟩
 replace H : (some y123) = some r := by first | (rw [hy123];with_reducible exact H) | (have H2_ := (Option.bind_some _ _).symm.trans H;rw [hy123];with_reducible exact H2_) | (have H2_ := (Option.bind_some _ _).symm.trans H;with_reducible exact H2_) | with_reducible exact H | (rw [hy123];exact H) | exact H
 have Ny123 := Aside0.mk hy123
 clear hy123
 obtain rfl := Option.some.inj H
 go_enter Tryd.func86,Tryd.ntmps86
 go_wp2_with (first | ((with_reducible refine gate_dst (N := 1) rfl ?_);refine Kd.R_lit (Kd.int .i32) _ 21 ?hg (N := 1) ?hd (xs := ([4352,4447,8986,8987,9001,9002,9193,9196,9725,9726,9748,9749,9800,9811,9898,9899,11904,12329,12336,12350,12353,12440,12443,19903,19968,42191,43360,43391,44032,55203,63744,64255,65072,65135,65281,65376,65504,65510,94176,101119,110592,111359,127744,127994,128000,128591,128640,128767,129280,129535,131072,196605,196608,262141] : List Int)) (inner := [.int .i32 4352,.int .i32 4447,.int .i32 8986,.int .i32 8987,.int .i32 9001,.int .i32 9002,.int .i32 9193,.int .i32 9196,.int .i32 9725,.int .i32 9726,.int .i32 9748,.int .i32 9749,.int .i32 9800,.int .i32 9811,.int .i32 9898,.int .i32 9899,.int .i32 11904,.int .i32 12329,.int .i32 12336,.int .i32 12350,.int .i32 12353,.int .i32 12440,.int .i32 12443,.int .i32 19903,.int .i32 19968,.int .i32 42191,.int .i32 43360,.int .i32 43391,.int .i32 44032,.int .i32 55203,.int .i32 63744,.int .i32 64255,.int .i32 65072,.int .i32 65135,.int .i32 65281,.int .i32 65376,.int .i32 65504,.int .i32 65510,.int .i32 94176,.int .i32 101119,.int .i32 110592,.int .i32 111359,.int .i32 127744,.int .i32 127994,.int .i32 128000,.int .i32 128591,.int .i32 128640,.int .i32 128767,.int .i32 129280,.int .i32 129535,.int .i32 131072,.int .i32 196605,.int .i32 196608,.int .i32 262141]) (ok := fun _ => True) (okp := fun _ => True) ?hr ?hp (fun _ hk => hk) trivial (Below.refl _ _) (Nat.le_refl _) (by simp) ?_;(case hd => rfl);(case hg => rfl);(case hr => first | (go_simp;done) | (go_simp;rfl));(case hp => exact (Reps.one (show Kd.M (Kd.int .i32) _ _ _ 4352 [.int .i32 4352] from rfl) (Reps.one (show Kd.M (Kd.int .i32) _ _ _ 4447 [.int .i32 4447] from rfl) (Reps.one (show Kd.M (Kd.int .i32) _ _ _ 8986 [.int .i32 8986] from rfl) (Reps.one (show Kd.M (Kd.int .i32) _ _ _ 8987 [.int .i32 8987] from rfl) (Reps.one (show Kd.M (Kd.int .i32) _ _ _ 9001 [.int .i32 9001] from rfl) (Reps.one (show Kd.M (Kd.int .i32) _ _ _ 9002 [.int .i32 9002] from rfl) (Reps.one (show Kd.M (Kd.int .i32) _ _ _ 9193 [.int .i32 9193] from rfl) (Reps.one (show Kd.M (Kd.int .i32) _ _ _ 9196 [.int .i32 9196] from rfl) (Reps.one (show Kd.M (Kd.int .i32) _ _ _ 9725 [.int .i32 9725] from rfl) (Reps.one (show Kd.M (Kd.int .i32) _ _ _ 9726 [.int .i32 9726] from rfl) (Reps.one (show Kd.M (Kd.int .i32) _ _ _ 9748 [.int .i32 9748] from rfl) (Reps.one (show Kd.M (Kd.int .i32) _ _ _ 9749 [.int .i32 9749] from rfl) (Reps.one (show Kd.M (Kd.int .i32) _ _ _ 9800 [.int .i32 9800] from rfl) (Reps.one (show Kd.M (Kd.int .i32) _ _ _ 9811 [.int .i32 9811] from rfl) (Reps.one (show Kd.M (Kd.int .i32) _ _ _ 9898 [.int .i32 9898] from rfl) (Reps.one (show Kd.M (Kd.int .i32) _ _ _ 9899 [.int .i32 9899] from rfl) (Reps.one (show Kd.M (Kd.int .i32) _ _ _ 11904 [.int .i32 11904] from rfl) (Reps.one (show Kd.M (Kd.int .i32) _ _ _ 12329 [.int .i32 12329] from rfl) (Reps.one (show Kd.M (Kd.int .i32) _ _ _ 12336 [.int .i32 12336] from rfl) (Reps.one (show Kd.M (Kd.int .i32) _ _ _ 12350 [.int .i32 12350] from rfl) (Reps.one (show Kd.M (Kd.int .i32) _ _ _ 12353 [.int .i32 12353] from rfl) (Reps.one (show Kd.M (Kd.int .i32) _ _ _ 12440 [.int .i32 12440] from rfl) (Reps.one (show Kd.M (Kd.int .i32) _ _ _ 12443 [.int .i32 12443] from rfl) (Reps.one (show Kd.M (Kd.int .i32) _ _ _ 19903 [.int .i32 19903] from rfl) (Reps.one (show Kd.M (Kd.int .i32) _ _ _ 19968 [.int .i32 19968] from rfl) (Reps.one (show Kd.M (Kd.int .i32) _ _ _ 42191 [.int .i32 42191] from rfl) (Reps.one (show Kd.M (Kd.int .i32) _ _ _ 43360 [.int .i32 43360] from rfl) (Reps.one (show Kd.M (Kd.int .i32) _ _ _ 43391 [.int .i32 43391] from rfl) (Reps.one (show Kd.M (Kd.int .i32) _ _ _ 44032 [.int .i32 44032] from rfl) (Reps.one (show Kd.M (Kd.int .i32) _ _ _ 55203 [.int .i32 55203] from rfl) (Reps.one (show Kd.M (Kd.int .i32) _ _ _ 63744 [.int .i32 63744] from rfl) (Reps.one (show Kd.M (Kd.int .i32) _ _ _ 64255 [.int .i32 64255] from rfl) (Reps.one (show Kd.M (Kd.int .i32) _ _ _ 65072 [.int .i32 65072] from rfl) (Reps.one (show Kd.M (Kd.int .i32) _ _ _ 65135 [.int .i32 65135] from rfl) (Reps.one (show Kd.M (Kd.int .i32) _ _ _ 65281 [.int .i32 65281] from rfl) (Reps.one (show Kd.M (Kd.int .i32) _ _ _ 65376 [.int .i32 65376] from rfl) (Reps.one (show Kd.M (Kd.int .i32) _ _ _ 65504 [.int .i32 65504] from rfl) (Reps.one (show Kd.M (Kd.int .i32) _ _ _ 65510 [.int .i32 65510] from rfl) (Reps.one (show Kd.M (Kd.int .i32) _ _ _ 94176 [.int .i32 94176] from rfl) (Reps.one (show Kd.M (Kd.int .i32) _ _ _ 101119 [.int .i32 101119] from rfl) (Reps.one (show Kd.M (Kd.int .i32) _ _ _ 110592 [.int .i32 110592] from rfl) (Reps.one (show Kd.M (Kd.int .i32) _ _ _ 111359 [.int .i32 111359] from rfl) (Reps.one (show Kd.M (Kd.int .i32) _ _ _ 127744 [.int .i32 127744] from rfl) (Reps.one (show Kd.M (Kd.int .i32) _ _ _ 127994 [.int .i32 127994] from rfl) (Reps.one (show Kd.M (Kd.int .i32) _ _ _ 128000 [.int .i32 128000] from rfl) (Reps.one (show Kd.M (Kd.int .i32) _ _ _ 128591 [.int .i32 128591] from rfl) (Reps.one (show Kd.M (Kd.int .i32) _ _ _ 128640 [.int .i32 128640] from rfl) (Reps.one (show Kd.M (Kd.int .i32) _ _ _ 128767 [.int .i32 128767] from rfl) (Reps.one (show Kd.M (Kd.int .i32) _ _ _ 129280 [.int .i32 129280] from rfl) (Reps.one (show Kd.M (Kd.int .i32) _ _ _ 129535 [.int .i32 129535] from rfl) (Reps.one (show Kd.M (Kd.int .i32) _ _ _ 131072 [.int .i32 131072] from rfl) (Reps.one (show Kd.M (Kd.int .i32) _ _ _ 196605 [.int .i32 196605] from rfl) (Reps.one (show Kd.M (Kd.int .i32) _ _ _ 196608 [.int .i32 196608] from rfl) (Reps.one (show Kd.M (Kd.int .i32) _ _ _ 262141 [.int .i32 262141] from rfl) (Reps.none _ _))))))))))))))))))))))))))))))))))))))))))))))))))))))));intro v124 w1 ho2 hb hg_ hnew_;clear hg_ hnew_;(first | rw [← Ny123.out] at ho2 | (simp only [Int.reduceToNat] at ho2;rw [← Ny123.out] at ho2));have n0_ := Aside0.mk (Kd.R_lower ho2 (below_size au0));have n1_ := Aside0.mk (below_step au0 hb);clear HB;have HO125 := n0_;have HB := n1_;clear n0_ n1_;clear hb ho2))
 go_ret
 exact ⟨_,by first | rfl | (simp [errW_none,errW_some] <;> rfl) | (simp [*,errW_none,errW_some] <;> rfl),by (with_reducible repeat (first | apply Kd.R_alloc | apply Kd.R_drewN | apply Kd.R_drew));exact HO125.out,au0⟩
def bodkinref20_SameRow.l0 : Nat → List (S35) → List (S35) → Int → Option (Bool)
 | 0,_,_,_ => none
 | k + 1,x0,x1,x5 => if x5 < (x0.length : Int) then (if 0 ≤ x5 then (if x5 < (x1.length : Int) then (if (!((((rd_T35 x0 x5).f0).toList) == (((rd_T35 x1 x5).f0).toList)) || (!(((rd_T35 x0 x5).f1) == ((rd_T35 x1 x5).f1)))) = true then (some false) else (bodkinref20_SameRow.l0 k x0 x1 (wrap64 (x5 + 1)))) else (none)) else (none)) else (some true)
def bodkinref20_SameRow.f (k : Nat) (l0 : List (S35)) (l1 : List (S35)) : Option (Bool) := if (l0.length : Int) = (l1.length : Int) then (bodkinref20_SameRow.l0 k l0 l1 0) else (some false)
set_option maxHeartbeats 8000000 in
set_option maxRecDepth 100000 in
theorem bodkinref20_SameRow.calls (k : Nat) (A0 : Option Addr) (c0 : Nat) (l0 : List (S35)) (A1 : Option Addr) (c1 : Nat) (l1 : List (S35)) (r : Bool) (w : World) (hr0 : Kd.C k35 w A0 l0.length l0) (hc0 : l0.length ≤ c0) (hr1 : Kd.C k35 w A1 l1.length l1) (hc1 : l1.length ≤ c1) (h : bodkinref20_SameRow.f k l0 l1 = some r) :
  Calls Tryd.prog 38 #[.slice A0 l0.length c0,.slice A1 l1.length c1] w fun e w' => e = .returned (.bool r) ∧ Drawn0 w w' := by
 have hu35 := Tryd.underlying35
 have HR0 := Aside0.mk hr0
 have HC0 := Aside0.mk hc0
 clear hr0 hc0
 have HR1 := Aside0.mk hr1
 have HC1 := Aside0.mk hc1
 clear hr1 hc1
 have H : (if (l0.length : Int) = (l1.length : Int) then (bodkinref20_SameRow.l0 k l0 l1 0) else (some false)) = some r := h
 clear h
 by_cases c3 : (l0.length : Int) = (l1.length : Int)
 ·rw [if_pos c3] at H
  have c3b0 : ((l0.length : Int) == (l1.length : Int)) = true := beq_iff_eq.mpr c3
  have c3b1 : ((l0.length : Int) != (l1.length : Int)) = false := bne_eq_false_iff_eq.mpr c3
  have c3b2 : (l0.length == l1.length) = true := by first | simpa using c3 | (simp at c3 ⊢;omega)
  clear c3
  have H' := Aside0.mk H
  clear H
  go_enter Tryd.func38,Tryd.ntmps38
  go_wp2
  repeat (go_quiet (fail);try go_wp2)
  go_loopg [5] k (fun kq v5 w' => ∃ (x5_1 : Int),v5 = .int .i64 x5_1 ∧ Aside0 (bodkinref20_SameRow.l0 kq l0 l1 x5_1 = some r) ∧ Aside0 (kq ≤ k) ∧ Drawn0 w w')
  case atStart => exact ⟨(0),au4,H',⟨Nat.le_refl _⟩,by repeat (first | exact Drawn0.refl _ | apply Drawn0.step)⟩
  case round =>
   clear H'
   try clear c1
   try clear p2
   try clear c3
   try clear c3b0
   try clear c3b1
   try clear c3b2
   obtain ⟨x5_1,rfl,HA,HK1,⟨m1,rfl⟩⟩ := hrel
   cases gk with
   | zero => exact absurd HA.out (by simp [bodkinref20_SameRow.l0])
   | succ k1 =>
    have H := HA.out
    clear HA
    simp only [bodkinref20_SameRow.l0] at H
    by_cases c4 : x5_1 < (l0.length : Int)
    ·rw [if_pos c4] at H
     have c4b0 : decide (x5_1 < (l0.length : Int)) = true := decide_eq_true c4
     clear c4
     by_cases c5 : 0 ≤ x5_1
     ·rw [if_pos c5] at H
      have c5b0 : decide (0 ≤ x5_1) = true := decide_eq_true c5
      clear c5
      by_cases c6 : x5_1 < (l1.length : Int)
      ·rw [if_pos c6] at H
       have c6b0 : decide (x5_1 < (l1.length : Int)) = true := decide_eq_true c6
       clear c6
       by_cases c7 : (!((((rd_T35 l0 x5_1).f0).toList) == (((rd_T35 l1 x5_1).f0).toList)) || (!(((rd_T35 l0 x5_1).f1) == ((rd_T35 l1 x5_1).f1)))) = true
       ·rw [if_pos c7] at H
        have c7b0 : (!((((rd_T35 l0 x5_1).f0).toList) == (((rd_T35 l1 x5_1).f0).toList)) || (!(((rd_T35 l0 x5_1).f1) == ((rd_T35 l1 x5_1).f1)))) = true := c7
        clear c7
        obtain rfl := Option.some.inj H
        have p171 : 0 ≤ (x5_1 : Int) := of_decide_eq_true au3
        have q171 : x5_1 < (l0.length : Int) := of_decide_eq_true au3
        obtain ⟨ad171,e171,hx171_0,hx171_1⟩ := at_T35 HR0.out x5_1 p171 q171
        cases e171
        replace p171 := eq_true p171
        replace q171 := eq_true q171
        have p172 : 0 ≤ (x5_1 : Int) := of_decide_eq_true au3
        have q172 : x5_1 < (l1.length : Int) := of_decide_eq_true au3
        obtain ⟨ad172,e172,hx172_0,hx172_1⟩ := at_T35 HR1.out x5_1 p172 q172
        cases e172
        replace p172 := eq_true p172
        replace q172 := eq_true q172
        go_wp2
        repeat (go_quiet (fail);try go_wp2)
        go_ret
        exact ⟨by first | rfl | (simp;done) | (simp [*];done),by repeat (first | exact Drawn0.refl _ | apply Drawn0.step)⟩
       ·rw [if_neg c7] at H
        have c7b0 : (!((((rd_T35 l0 x5_1).f0).toList) == (((rd_T35 l1 x5_1).f0).toList)) || (!(((rd_T35 l0 x5_1).f1) == ((rd_T35 l1 x5_1).f1)))) = false := by simpa using c7
        clear c7
        have H' := Aside0.mk H
        clear H
        have p171 : 0 ≤ (x5_1 : Int) := of_decide_eq_true au3
        have q171 : x5_1 < (l0.length : Int) := of_decide_eq_true au3
        obtain ⟨ad171,e171,hx171_0,hx171_1⟩ := at_T35 HR0.out x5_1 p171 q171
        cases e171
        replace p171 := eq_true p171
        replace q171 := eq_true q171
        have p172 : 0 ≤ (x5_1 : Int) := of_decide_eq_true au3
        have q172 : x5_1 < (l1.length : Int) := of_decide_eq_true au3
        obtain ⟨ad172,e172,hx172_0,hx172_1⟩ := at_T35 HR1.out x5_1 p172 q172
        cases e172
        replace p172 := eq_true p172
        replace q172 := eq_true q172
        go_wp2
        repeat (go_quiet (fail);try go_wp2)
        go_roundg k1
        case measure => have := HK1.out;omega
        case rel => exact ⟨(wrap64 (x5_1 + 1)),au4,H',⟨by have := HK1.out;omega⟩,by repeat (first | exact Drawn0.refl _ | apply Drawn0.step)⟩
      ·rw [if_neg c6] at H
       exact absurd H (by simp)
     ·rw [if_neg c5] at H
      exact absurd H (by simp)
    ·rw [if_neg c4] at H
     have c4b0 : decide (x5_1 < (l0.length : Int)) = false := decide_eq_false c4
     clear c4
     obtain rfl := Option.some.inj H
     go_wp2
     repeat (go_quiet (fail);try go_wp2)
     go_ret
     exact ⟨by first | rfl | (simp;done) | (simp [*];done),by repeat (first | exact Drawn0.refl _ | apply Drawn0.step)⟩
 ·rw [if_neg c3] at H
  have c3b0 : ((l0.length : Int) == (l1.length : Int)) = false := beq_eq_false_iff_ne.mpr c3
  have c3b1 : ((l0.length : Int) != (l1.length : Int)) = true := bne_iff_ne.mpr c3
  have c3b2 : (l0.length == l1.length) = false := by first | simpa using c3 | (simp at c3 ⊢;omega)
  obtain rfl := Option.some.inj H
  go_enter Tryd.func38,Tryd.ntmps38
  go_wp2
  repeat (go_quiet (fail);try go_wp2)
  go_ret
  exact ⟨by first | rfl | (simp;done) | (simp [*];done),by repeat (first | exact Drawn0.refl _ | apply Drawn0.step)⟩
def stringslite_HasPrefix.f (a0 : ByteArray) (a1 : ByteArray) : Option (Bool) := if (a0.size : Int) ≥ (a1.size : Int) then (if 0 ≤ (a1.size : Int) then (if (a1.size : Int) ≤ (a0.size : Int) then (some ((a0.extract 0 ((a1.size : Int) : Int).toNat).toList == a1.toList)) else (none)) else (none)) else (some false)
set_option maxHeartbeats 8000000 in
set_option maxRecDepth 100000 in
theorem stringslite_HasPrefix.calls (a0 : ByteArray) (a1 : ByteArray) (r : Bool) (w : World) (h : stringslite_HasPrefix.f a0 a1 = some r) :
  Calls Tryd.prog 87 #[.string a0,.string a1] w fun e w' => e = .returned (.bool r) ∧ Drawn0 w w' := by
 have H : (if (a0.size : Int) ≥ (a1.size : Int) then (if 0 ≤ (a1.size : Int) then (if (a1.size : Int) ≤ (a0.size : Int) then (some ((a0.extract 0 ((a1.size : Int) : Int).toNat).toList == a1.toList)) else (none)) else (none)) else (some false)) = some r := h
 clear h
 by_cases c3 : (a0.size : Int) ≥ (a1.size : Int)
 ·rw [if_pos c3] at H
  have c3b0 : decide ((a1.size : Int) ≤ (a0.size : Int)) = true := decide_eq_true c3
  have c3b1 : decide (a1.size ≤ a0.size) = true := decide_eq_true (Int.ofNat_le.mp c3)
  clear c3
  by_cases c4 : 0 ≤ (a1.size : Int)
  ·rw [if_pos c4] at H
   have c4b0 := eq_true c4
   have c4b1 : decide (0 ≤ (a1.size : Int)) = true := decide_eq_true c4
   clear c4
   by_cases c5 : (a1.size : Int) ≤ (a0.size : Int)
   ·rw [if_pos c5] at H
    have c5b0 := eq_true c5
    have c5b1 : decide ((a1.size : Int) ≤ (a0.size : Int)) = true := decide_eq_true c5
    clear c5
    obtain rfl := Option.some.inj H
    go_enter Tryd.func87,Tryd.ntmps87
    go_wp2
    go_ret
    exact ⟨by first | rfl | (simp;done) | (simp [*];done),by repeat (first | exact Drawn0.refl _ | apply Drawn0.step)⟩
   ·rw [if_neg c5] at H
    exact absurd H (by simp)
  ·rw [if_neg c4] at H
   exact absurd H (by simp)
 ·rw [if_neg c3] at H
  have c3b0 : decide ((a1.size : Int) ≤ (a0.size : Int)) = false := decide_eq_false c3
  have c3b1 : decide (a1.size ≤ a0.size) = false := decide_eq_false (fun h => c3 (Int.ofNat_le.mpr h))
  clear c3
  obtain rfl := Option.some.inj H
  go_enter Tryd.func87,Tryd.ntmps87
  go_wp2
  go_ret
  exact ⟨by first | rfl | (simp;done) | (simp [*];done),by repeat (first | exact Drawn0.refl _ | apply Drawn0.step)⟩
def strings_HasPrefix.f (a0 : ByteArray) (a1 : ByteArray) : Option (Bool) := (stringslite_HasPrefix.f a0 a1).bind fun t416 => (some t416)
set_option maxHeartbeats 8000000 in
set_option maxRecDepth 100000 in
theorem strings_HasPrefix.calls (a0 : ByteArray) (a1 : ByteArray) (r : Bool) (w : World) (h : strings_HasPrefix.f a0 a1 = some r) :
  Calls Tryd.prog 73 #[.string a0,.string a1] w fun e w' => e = .returned (.bool r) ∧ Drawn0 w w' := by
 have H : ((stringslite_HasPrefix.f a0 a1).bind fun t416 => (some t416)) = some r := h
 clear h
 replace H := Option.bind_eq_some_iff.mp H
 obtain ⟨t416,A30,H⟩ := H
 replace H : (some t416) = some r := H
 have A3 := Aside0.mk A30
 clear A30
 obtain rfl := Option.some.inj H
 go_enter Tryd.func73,Tryd.ntmps73
 go_wp2_with (first | ((with_reducible refine gate_callee (f := 87) rfl ?_);refine goesL_ (some 7) rfl rfl Tryd.func87 (by kernel_rfl) rfl #[.string a0,.string a1] rfl au1 ?_;(with_reducible refine (stringslite_HasPrefix.calls a0 a1 t416 _ A3.out).mono ?_);rintro e w' ⟨rfl,⟨nd,rfl⟩⟩;refine ⟨_,rfl,?_⟩))
 go_ret
 exact ⟨by first | rfl | (simp;done) | (simp [*];done),by repeat (first | exact Drawn0.refl _ | apply Drawn0.step)⟩
mutual
def bodkinref01_lead.j0 : Nat → Int → Bool → Option (Int × Int)
 | 0,_,_ => none
 | k + 1,x0,x9 => if x9 = true then (some (wrap32 ((wrap32 (x0)) - 192),1)) else (if x0 ≥ 224 then (bodkinref01_lead.j1 k x0 (decide (x0 < 240))) else (bodkinref01_lead.j1 k x0 false))
def bodkinref01_lead.j1 : Nat → Int → Bool → Option (Int × Int)
 | 0,_,_ => none
 | k + 1,x0,x19 => if x19 = true then (some (wrap32 ((wrap32 (x0)) - 224),2)) else (if x0 ≥ 240 then (if x0 < 248 then (some (wrap32 ((wrap32 (x0)) - 240),3)) else (some (0,(-1)))) else (some (0,(-1))))
end
def bodkinref01_lead.f (k : Nat) (a0 : Int) : Option (Int × Int) := if a0 < 128 then (some (wrap32 (a0),0)) else (if a0 ≥ 192 then (bodkinref01_lead.j0 k a0 (decide (a0 < 224))) else (bodkinref01_lead.j0 k a0 false))
set_option maxHeartbeats 8000000 in
set_option maxRecDepth 100000 in
theorem bodkinref01_lead.calls (k : Nat) (a0 : Int) (r1 : Int) (r2 : Int) (w : World) (h : bodkinref01_lead.f k a0 = some (r1,r2)) :
  Calls Tryd.prog 81 #[.int .u8 a0] w fun e w' => e = .returned (.tuple #[.int .i32 r1,.int .i64 r2]) ∧ Drawn0 w w' := by
 have H : (if a0 < 128 then (some (wrap32 (a0),0)) else (if a0 ≥ 192 then (bodkinref01_lead.j0 k a0 (decide (a0 < 224))) else (bodkinref01_lead.j0 k a0 false))) = some (r1,r2) := h
 clear h
 by_cases c2 : a0 < 128
 ·rw [if_pos c2] at H
  have c2b0 : decide (a0 < 128) = true := decide_eq_true c2
  clear c2
  simp only [Option.some.injEq,Prod.mk.injEq] at H
  obtain ⟨rfl,rfl⟩ := H
  go_enter Tryd.func81,Tryd.ntmps81
  go_wp2
  go_ret2
  exact ⟨by first | rfl | (simp;done) | (simp [*];done),by repeat (first | exact Drawn0.refl _ | apply Drawn0.step)⟩
 ·rw [if_neg c2] at H
  have c2b0 : decide (a0 < 128) = false := decide_eq_false c2
  clear c2
  have HC3 := Aside0.mk H
  clear H
  go_enter Tryd.func81,Tryd.ntmps81
  go_upto_region 3 with (fail)
  go_cut [9] (fun v9 wc => ∃ (kq : Nat) (x9_2 : Bool),v9 = .bool x9_2 ∧ Aside0 (bodkinref01_lead.j0 kq a0 x9_2 = some (r1,r2)) ∧ Aside0 (kq ≤ k) ∧ Drawn0 w wc)
  case first =>
   have H := HC3.out
   clear HC3
   by_cases c4 : a0 ≥ 192
   ·rw [if_pos c4] at H
    have c4b0 : decide (192 ≤ a0) = true := decide_eq_true c4
    clear c4
    (first | rw [c4b0] | (simp only [i64_w,i32_w];rw [c4b0]) | skip)
    have H' := Aside0.mk H
    clear H
    go_wp2
    go_meet
    case rel => exact ⟨_,(decide (a0 < 224)),au4,H',⟨by first | omega | exact Nat.le_refl _⟩,by repeat (first | exact Drawn0.refl _ | apply Drawn0.step)⟩
   ·rw [if_neg c4] at H
    have c4b0 : decide (192 ≤ a0) = false := decide_eq_false c4
    clear c4
    (first | rw [c4b0] | (simp only [i64_w,i32_w];rw [c4b0]) | skip)
    have H' := Aside0.mk H
    clear H
    go_wp2
    go_meet
    case rel => exact ⟨_,(false),au4,H',⟨by first | omega | exact Nat.le_refl _⟩,by repeat (first | exact Drawn0.refl _ | apply Drawn0.step)⟩
  case rest =>
   clear HC3
   try clear c2
   try clear c2b0
   try clear p2
   try clear p3
   try clear c4
   try clear c4b0
   obtain ⟨kq,x9_2,rfl,HA,HJ2,⟨mc2,rfl⟩⟩ := hcut
   cases kq with
   | zero => exact absurd HA.out (by simp [bodkinref01_lead.j0])
   | succ kj2 =>
    have H := HA.out
    clear HA
    simp only [bodkinref01_lead.j0] at H
    by_cases c5 : x9_2 = true
    ·subst c5
     have H1 : (some (wrap32 ((wrap32 (a0)) - 192),1)) = some (r1,r2) := by rw [if_pos rfl] at H;exact H
     clear H
     have H := H1
     clear H1
     simp only [Option.some.injEq,Prod.mk.injEq] at H
     obtain ⟨rfl,rfl⟩ := H
     go_wp2
     go_ret2
     exact ⟨by first | rfl | (simp;done) | (simp [*];done),by repeat (first | exact Drawn0.refl _ | apply Drawn0.step)⟩
    ·replace c5 := Bool.eq_false_iff.mpr c5
     subst c5
     have H1 : (if a0 ≥ 224 then (bodkinref01_lead.j1 kj2 a0 (decide (a0 < 240))) else (bodkinref01_lead.j1 kj2 a0 false)) = some (r1,r2) := by rw [if_neg (show ¬ (false = true) by decide)] at H;exact H
     clear H
     have H := H1
     clear H1
     have HC6 := Aside0.mk H
     clear H
     go_upto_region 5 with (fail)
     go_cut [19] (fun v19 wc => ∃ (kq : Nat) (x19_5 : Bool),v19 = .bool x19_5 ∧ Aside0 (bodkinref01_lead.j1 kq a0 x19_5 = some (r1,r2)) ∧ Aside0 (kq ≤ kj2) ∧ Drawn0 w wc)
     case first =>
      have H := HC6.out
      clear HC6
      by_cases c7 : a0 ≥ 224
      ·rw [if_pos c7] at H
       have c7b0 : decide (224 ≤ a0) = true := decide_eq_true c7
       clear c7
       (first | rw [c7b0] | (simp only [i64_w,i32_w];rw [c7b0]) | skip)
       have H' := Aside0.mk H
       clear H
       go_wp2
       go_meet
       case rel => exact ⟨_,(decide (a0 < 240)),au4,H',⟨by have := HJ2.out;first | omega | exact Nat.le_refl _⟩,by repeat (first | exact Drawn0.refl _ | apply Drawn0.step)⟩
      ·rw [if_neg c7] at H
       have c7b0 : decide (224 ≤ a0) = false := decide_eq_false c7
       clear c7
       (first | rw [c7b0] | (simp only [i64_w,i32_w];rw [c7b0]) | skip)
       have H' := Aside0.mk H
       clear H
       go_wp2
       go_meet
       case rel => exact ⟨_,(false),au4,H',⟨by have := HJ2.out;first | omega | exact Nat.le_refl _⟩,by repeat (first | exact Drawn0.refl _ | apply Drawn0.step)⟩
     case rest =>
      clear HC6
      try clear c2
      try clear c2b0
      try clear p2
      try clear p3
      try clear c4
      try clear c4b0
      try clear c5
      try clear c7
      try clear c7b0
      try clear p2
      try clear p3
      obtain ⟨kq,x19_5,rfl,HA,HJ5,⟨mc5,rfl⟩⟩ := hcut
      cases kq with
      | zero => exact absurd HA.out (by simp [bodkinref01_lead.j1])
      | succ kj5 =>
       have H := HA.out
       clear HA
       simp only [bodkinref01_lead.j1] at H
       by_cases c8 : x19_5 = true
       ·subst c8
        have H1 : (some (wrap32 ((wrap32 (a0)) - 224),2)) = some (r1,r2) := by rw [if_pos rfl] at H;exact H
        clear H
        have H := H1
        clear H1
        simp only [Option.some.injEq,Prod.mk.injEq] at H
        obtain ⟨rfl,rfl⟩ := H
        go_wp2
        go_ret2
        exact ⟨by first | rfl | (simp;done) | (simp [*];done),by repeat (first | exact Drawn0.refl _ | apply Drawn0.step)⟩
       ·replace c8 := Bool.eq_false_iff.mpr c8
        subst c8
        have H1 : (if a0 ≥ 240 then (if a0 < 248 then (some (wrap32 ((wrap32 (a0)) - 240),3)) else (some (0,(-1)))) else (some (0,(-1)))) = some (r1,r2) := by rw [if_neg (show ¬ (false = true) by decide)] at H;exact H
        clear H
        have H := H1
        clear H1
        by_cases c9 : a0 ≥ 240
        ·rw [if_pos c9] at H
         have c9b0 : decide (240 ≤ a0) = true := decide_eq_true c9
         clear c9
         by_cases c10 : a0 < 248
         ·rw [if_pos c10] at H
          have c10b0 : decide (a0 < 248) = true := decide_eq_true c10
          clear c10
          simp only [Option.some.injEq,Prod.mk.injEq] at H
          obtain ⟨rfl,rfl⟩ := H
          go_wp2
          go_ret2
          exact ⟨by first | rfl | (simp;done) | (simp [*];done),by repeat (first | exact Drawn0.refl _ | apply Drawn0.step)⟩
         ·rw [if_neg c10] at H
          have c10b0 : decide (a0 < 248) = false := decide_eq_false c10
          clear c10
          simp only [Option.some.injEq,Prod.mk.injEq] at H
          obtain ⟨rfl,rfl⟩ := H
          go_wp2
          go_ret2
          exact ⟨by first | rfl | (simp;done) | (simp [*];done),by repeat (first | exact Drawn0.refl _ | apply Drawn0.step)⟩
        ·rw [if_neg c9] at H
         have c9b0 : decide (240 ≤ a0) = false := decide_eq_false c9
         clear c9
         simp only [Option.some.injEq,Prod.mk.injEq] at H
         obtain ⟨rfl,rfl⟩ := H
         go_wp2
         go_ret2
         exact ⟨by first | rfl | (simp;done) | (simp [*];done),by repeat (first | exact Drawn0.refl _ | apply Drawn0.step)⟩
def bodkinref01_scalar.f (a0 : Int) : Option (Bool) := if a0 ≥ 0 then (if a0 ≤ 1114111 then (if a0 < 55296 then (some true) else (some (decide (a0 > 57343)))) else (some false)) else (some false)
set_option maxHeartbeats 8000000 in
set_option maxRecDepth 100000 in
theorem bodkinref01_scalar.calls (a0 : Int) (r : Bool) (w : World) (h : bodkinref01_scalar.f a0 = some r) :
  Calls Tryd.prog 82 #[.int .i32 a0] w fun e w' => e = .returned (.bool r) ∧ Drawn0 w w' := by
 have H : (if a0 ≥ 0 then (if a0 ≤ 1114111 then (if a0 < 55296 then (some true) else (some (decide (a0 > 57343)))) else (some false)) else (some false)) = some r := h
 clear h
 by_cases c2 : a0 ≥ 0
 ·rw [if_pos c2] at H
  have c2b0 : decide (0 ≤ a0) = true := decide_eq_true c2
  clear c2
  by_cases c3 : a0 ≤ 1114111
  ·rw [if_pos c3] at H
   have c3b0 : decide (a0 ≤ 1114111) = true := decide_eq_true c3
   clear c3
   by_cases c4 : a0 < 55296
   ·rw [if_pos c4] at H
    have c4b0 : decide (a0 < 55296) = true := decide_eq_true c4
    clear c4
    obtain rfl := Option.some.inj H
    go_enter Tryd.func82,Tryd.ntmps82
    go_wp2
    go_ret
    exact ⟨by first | rfl | (simp;done) | (simp [*];done),by repeat (first | exact Drawn0.refl _ | apply Drawn0.step)⟩
   ·rw [if_neg c4] at H
    have c4b0 : decide (a0 < 55296) = false := decide_eq_false c4
    clear c4
    obtain rfl := Option.some.inj H
    go_enter Tryd.func82,Tryd.ntmps82
    go_wp2
    go_ret
    exact ⟨by first | rfl | (simp;done) | (simp [*];done),by repeat (first | exact Drawn0.refl _ | apply Drawn0.step)⟩
  ·rw [if_neg c3] at H
   have c3b0 : decide (a0 ≤ 1114111) = false := decide_eq_false c3
   clear c3
   obtain rfl := Option.some.inj H
   go_enter Tryd.func82,Tryd.ntmps82
   go_wp2
   go_ret
   exact ⟨by first | rfl | (simp;done) | (simp [*];done),by repeat (first | exact Drawn0.refl _ | apply Drawn0.step)⟩
 ·rw [if_neg c2] at H
  have c2b0 : decide (0 ≤ a0) = false := decide_eq_false c2
  clear c2
  obtain rfl := Option.some.inj H
  go_enter Tryd.func82,Tryd.ntmps82
  go_wp2
  go_ret
  exact ⟨by first | rfl | (simp;done) | (simp [*];done),by repeat (first | exact Drawn0.refl _ | apply Drawn0.step)⟩
def bodkinref02_Within.l0 : Nat → List (S116) → Int → Int → Option (Bool)
 | 0,_,_,_ => none
 | k + 1,x0,x1,x5 => if x5 < (x0.length : Int) then (if 0 ≤ x5 then (if x1 ≥ ((rd_T116 x0 x5).f0) then (if x1 ≤ ((rd_T116 x0 x5).f1) then (some true) else (bodkinref02_Within.l0 k x0 x1 (wrap64 (x5 + 1)))) else (bodkinref02_Within.l0 k x0 x1 (wrap64 (x5 + 1)))) else (none)) else (some false)
def bodkinref02_Within.f (k : Nat) (l0 : List (S116)) (a1 : Int) : Option (Bool) := bodkinref02_Within.l0 k l0 a1 0
set_option maxHeartbeats 8000000 in
set_option maxRecDepth 100000 in
theorem bodkinref02_Within.calls (k : Nat) (A0 : Option Addr) (c0 : Nat) (l0 : List (S116)) (a1 : Int) (r : Bool) (w : World) (hr0 : Kd.C k116 w A0 l0.length l0) (hc0 : l0.length ≤ c0) (h : bodkinref02_Within.f k l0 a1 = some r) :
  Calls Tryd.prog 69 #[.slice A0 l0.length c0,.int .i32 a1] w fun e w' => e = .returned (.bool r) ∧ Drawn0 w w' := by
 have HR0 := Aside0.mk hr0
 have HC0 := Aside0.mk hc0
 clear hr0 hc0
 have H : (bodkinref02_Within.l0 k l0 a1 0) = some r := h
 clear h
 have H' := Aside0.mk H
 clear H
 go_enter Tryd.func69,Tryd.ntmps69
 go_wp2
 go_loopg [5] k (fun kq v5 w' => ∃ (x5_1 : Int),v5 = .int .i64 x5_1 ∧ Aside0 (bodkinref02_Within.l0 kq l0 a1 x5_1 = some r) ∧ Aside0 (kq ≤ k) ∧ Drawn0 w w')
 case atStart => exact ⟨(0),au4,H',⟨Nat.le_refl _⟩,by repeat (first | exact Drawn0.refl _ | apply Drawn0.step)⟩
 case round =>
  clear H'
  try clear p2
  obtain ⟨x5_1,rfl,HA,HK1,⟨m1,rfl⟩⟩ := hrel
  cases gk with
  | zero => exact absurd HA.out (by simp [bodkinref02_Within.l0])
  | succ k1 =>
   have H := HA.out
   clear HA
   simp only [bodkinref02_Within.l0] at H
   by_cases c3 : x5_1 < (l0.length : Int)
   ·rw [if_pos c3] at H
    have c3b0 : decide (x5_1 < (l0.length : Int)) = true := decide_eq_true c3
    clear c3
    by_cases c4 : 0 ≤ x5_1
    ·rw [if_pos c4] at H
     have c4b0 : decide (0 ≤ x5_1) = true := decide_eq_true c4
     clear c4
     by_cases c5 : a1 ≥ ((rd_T116 l0 x5_1).f0)
     ·rw [if_pos c5] at H
      have c5b0 : decide (((rd_T116 l0 x5_1).f0) ≤ a1) = true := decide_eq_true c5
      clear c5
      by_cases c6 : a1 ≤ ((rd_T116 l0 x5_1).f1)
      ·rw [if_pos c6] at H
       have c6b0 : decide (a1 ≤ ((rd_T116 l0 x5_1).f1)) = true := decide_eq_true c6
       clear c6
       obtain rfl := Option.some.inj H
       have p452 : 0 ≤ (x5_1 : Int) := of_decide_eq_true au3
       have q452 : x5_1 < (l0.length : Int) := of_decide_eq_true au3
       obtain ⟨ad452,e452,hx452_0,hx452_1⟩ := at_T116 HR0.out x5_1 p452 q452
       cases e452
       replace p452 := eq_true p452
       replace q452 := eq_true q452
       have p453 : 0 ≤ (x5_1 : Int) := of_decide_eq_true au3
       have q453 : x5_1 < (l0.length : Int) := of_decide_eq_true au3
       obtain ⟨ad453,e453,hx453_0,hx453_1⟩ := at_T116 HR0.out x5_1 p453 q453
       obtain rfl : ad452 = ad453 := (by injection e453)
       replace p453 := eq_true p453
       replace q453 := eq_true q453
       go_wp2
       go_ret
       exact ⟨by first | rfl | (simp;done) | (simp [*];done),by repeat (first | exact Drawn0.refl _ | apply Drawn0.step)⟩
      ·rw [if_neg c6] at H
       have c6b0 : decide (a1 ≤ ((rd_T116 l0 x5_1).f1)) = false := decide_eq_false c6
       clear c6
       have H' := Aside0.mk H
       clear H
       have p452 : 0 ≤ (x5_1 : Int) := of_decide_eq_true au3
       have q452 : x5_1 < (l0.length : Int) := of_decide_eq_true au3
       obtain ⟨ad452,e452,hx452_0,hx452_1⟩ := at_T116 HR0.out x5_1 p452 q452
       cases e452
       replace p452 := eq_true p452
       replace q452 := eq_true q452
       have p453 : 0 ≤ (x5_1 : Int) := of_decide_eq_true au3
       have q453 : x5_1 < (l0.length : Int) := of_decide_eq_true au3
       obtain ⟨ad453,e453,hx453_0,hx453_1⟩ := at_T116 HR0.out x5_1 p453 q453
       obtain rfl : ad452 = ad453 := (by injection e453)
       replace p453 := eq_true p453
       replace q453 := eq_true q453
       go_wp2
       go_roundg k1
       case measure => have := HK1.out;omega
       case rel => exact ⟨(wrap64 (x5_1 + 1)),au4,H',⟨by have := HK1.out;omega⟩,by repeat (first | exact Drawn0.refl _ | apply Drawn0.step)⟩
     ·rw [if_neg c5] at H
      have c5b0 : decide (((rd_T116 l0 x5_1).f0) ≤ a1) = false := decide_eq_false c5
      clear c5
      have H' := Aside0.mk H
      clear H
      have p452 : 0 ≤ (x5_1 : Int) := of_decide_eq_true au3
      have q452 : x5_1 < (l0.length : Int) := of_decide_eq_true au3
      obtain ⟨ad452,e452,hx452_0,hx452_1⟩ := at_T116 HR0.out x5_1 p452 q452
      cases e452
      replace p452 := eq_true p452
      replace q452 := eq_true q452
      go_wp2
      go_roundg k1
      case measure => have := HK1.out;omega
      case rel => exact ⟨(wrap64 (x5_1 + 1)),au4,H',⟨by have := HK1.out;omega⟩,by repeat (first | exact Drawn0.refl _ | apply Drawn0.step)⟩
    ·rw [if_neg c4] at H
     exact absurd H (by simp)
   ·rw [if_neg c3] at H
    have c3b0 : decide (x5_1 < (l0.length : Int)) = false := decide_eq_false c3
    clear c3
    obtain rfl := Option.some.inj H
    go_wp2
    go_ret
    exact ⟨by first | rfl | (simp;done) | (simp [*];done),by repeat (first | exact Drawn0.refl _ | apply Drawn0.step)⟩
def bodkinref02_digit.j0 : Nat → Int → Bool → Option (Int)
 | 0,_,_ => none
 | k + 1,x0,x3 => if x3 = true then (some ((x0 - 48) % 256)) else (if x0 ≥ 65 then (if x0 ≤ 70 then (some (((x0 - 65) % 256) + 10)) else (some (-1))) else (some (-1)))
def bodkinref02_digit.f (k : Nat) (a0 : Int) : Option (Int) := if a0 ≥ 48 then (bodkinref02_digit.j0 k a0 (decide (a0 ≤ 57))) else (bodkinref02_digit.j0 k a0 false)
theorem bodkinref02_digit.mono_l : ∀ k,(∀ y0 y1,LeO (bodkinref02_digit.j0 k y0 y1) (bodkinref02_digit.j0 (k + 1) y0 y1))
 | 0 => fun _ _ r h => by simp [bodkinref02_digit.j0] at h
 | k + 1 => by
  have ih0 := bodkinref02_digit.mono_l k
  ·intro y0 y1
   unfold bodkinref02_digit.j0
   repeat' first
   | (with_reducible exact ih0 _ _)
   | (with_reducible exact LeO.refl _)
   | (with_reducible exact LeO.none _)
   | (with_reducible refine LeO.ite ?_ ?_)
   | (with_reducible refine LeO.bind ?_ (fun _ => ?_))
   | exact ih0 _ _
   | exact LeO.none _
   | refine LeO.ite ?_ ?_
   | refine LeO.bind ?_ (fun _ => ?_)
theorem bodkinref02_digit.mono : ∀ a0 k,LeO (bodkinref02_digit.f k a0) (bodkinref02_digit.f (k + 1) a0) := by
 intro a0 k
 have ih0 := bodkinref02_digit.mono_l k
 unfold bodkinref02_digit.f
 repeat' first
   | (with_reducible exact ih0 _ _)
   | (with_reducible exact LeO.refl _)
   | (with_reducible exact LeO.none _)
   | (with_reducible refine LeO.ite ?_ ?_)
   | (with_reducible refine LeO.bind ?_ (fun _ => ?_))
   | exact ih0 _ _
   | exact LeO.none _
   | refine LeO.ite ?_ ?_
   | refine LeO.bind ?_ (fun _ => ?_)
set_option maxHeartbeats 8000000 in
set_option maxRecDepth 100000 in
theorem bodkinref02_digit.calls (k : Nat) (a0 : Int) (r : Int) (w : World) (h : bodkinref02_digit.f k a0 = some r) :
  Calls Tryd.prog 83 #[.int .u8 a0] w fun e w' => e = .returned (.int .i32 r) ∧ Drawn0 w w' := by
 have H : (if a0 ≥ 48 then (bodkinref02_digit.j0 k a0 (decide (a0 ≤ 57))) else (bodkinref02_digit.j0 k a0 false)) = some r := h
 clear h
 have HC2 := Aside0.mk H
 clear H
 go_enter Tryd.func83,Tryd.ntmps83
 go_upto_region 1 with (fail)
 go_cut [3] (fun v3 wc => ∃ (kq : Nat) (x3_1 : Bool),v3 = .bool x3_1 ∧ Aside0 (bodkinref02_digit.j0 kq a0 x3_1 = some r) ∧ Aside0 (kq ≤ k) ∧ Drawn0 w wc)
 case first =>
  have H := HC2.out
  clear HC2
  by_cases c3 : a0 ≥ 48
  ·rw [if_pos c3] at H
   have c3b0 : decide (48 ≤ a0) = true := decide_eq_true c3
   clear c3
   (first | rw [c3b0] | (simp only [i64_w,i32_w];rw [c3b0]) | skip)
   have H' := Aside0.mk H
   clear H
   go_wp2
   go_meet
   case rel => exact ⟨_,(decide (a0 ≤ 57)),au4,H',⟨by first | omega | exact Nat.le_refl _⟩,by repeat (first | exact Drawn0.refl _ | apply Drawn0.step)⟩
  ·rw [if_neg c3] at H
   have c3b0 : decide (48 ≤ a0) = false := decide_eq_false c3
   clear c3
   (first | rw [c3b0] | (simp only [i64_w,i32_w];rw [c3b0]) | skip)
   have H' := Aside0.mk H
   clear H
   go_wp2
   go_meet
   case rel => exact ⟨_,(false),au4,H',⟨by first | omega | exact Nat.le_refl _⟩,by repeat (first | exact Drawn0.refl _ | apply Drawn0.step)⟩
 case rest =>
  clear HC2
  try clear p2
  try clear c3
  try clear c3b0
  obtain ⟨kq,x3_1,rfl,HA,HJ1,⟨mc1,rfl⟩⟩ := hcut
  cases kq with
  | zero => exact absurd HA.out (by simp [bodkinref02_digit.j0])
  | succ kj1 =>
   have H := HA.out
   clear HA
   simp only [bodkinref02_digit.j0] at H
   by_cases c4 : x3_1 = true
   ·subst c4
    have H1 : (some ((a0 - 48) % 256)) = some r := by rw [if_pos rfl] at H;exact H
    clear H
    have H := H1
    clear H1
    obtain rfl := Option.some.inj H
    go_wp2
    go_ret
    exact ⟨by first | rfl | (simp;done) | (simp [*];done),by repeat (first | exact Drawn0.refl _ | apply Drawn0.step)⟩
   ·replace c4 := Bool.eq_false_iff.mpr c4
    subst c4
    have H1 : (if a0 ≥ 65 then (if a0 ≤ 70 then (some (((a0 - 65) % 256) + 10)) else (some (-1))) else (some (-1))) = some r := by rw [if_neg (show ¬ (false = true) by decide)] at H;exact H
    clear H
    have H := H1
    clear H1
    by_cases c5 : a0 ≥ 65
    ·rw [if_pos c5] at H
     have c5b0 : decide (65 ≤ a0) = true := decide_eq_true c5
     clear c5
     by_cases c6 : a0 ≤ 70
     ·rw [if_pos c6] at H
      have c6b0 : decide (a0 ≤ 70) = true := decide_eq_true c6
      clear c6
      obtain rfl := Option.some.inj H
      go_wp2
      go_ret
      exact ⟨by first | rfl | (simp;done) | (simp [*];done),by repeat (first | exact Drawn0.refl _ | apply Drawn0.step)⟩
     ·rw [if_neg c6] at H
      have c6b0 : decide (a0 ≤ 70) = false := decide_eq_false c6
      clear c6
      obtain rfl := Option.some.inj H
      go_wp2
      go_ret
      exact ⟨by first | rfl | (simp;done) | (simp [*];done),by repeat (first | exact Drawn0.refl _ | apply Drawn0.step)⟩
    ·rw [if_neg c5] at H
     have c5b0 : decide (65 ≤ a0) = false := decide_eq_false c5
     clear c5
     obtain rfl := Option.some.inj H
     go_wp2
     go_ret
     exact ⟨by first | rfl | (simp;done) | (simp [*];done),by repeat (first | exact Drawn0.refl _ | apply Drawn0.step)⟩
end Go.Proofs.YtnpjaaldppemlaaDoor.U
end
section
namespace Go.Proofs.YtnpjaaldppemlaaDoor.U
open Go.RowKit Go.Proofs.YtnpjaaldppemlaaDoorW.PrintWords Go.Proofs.YtnpjaaldppemlaaDoorW.PrintLast Go.Proofs.YtnpjaaldppemlaaDoorW.PrintMore
attribute [local go_sem] max2_int min2_int max_two min_two max_three min_three max_four min_four   -- for this text's walks alone
set_option linter.unusedVariables false
set_option linter.unusedSimpArgs false
attribute [local go_sem high] eqA27
mutual
def bodkinref20_Same.j0 : Nat → Bool → Int → List (List (S35)) → Int → Int → Int → List (List (S35)) → Int → Int → Option (Bool)
 | 0,_,_,_,_,_,_,_,_,_ => none
 | k + 1,x26,x174000,x174001,x174002,x174003,x175000,x175001,x175002,x175003 => if x26 = true then (some false) else (bodkinref20_Same.l0 k 0 x174000 x174001 x174002 x174003 x175000 x175001 x175002 x175003)
def bodkinref20_Same.l0 : Nat → Int → Int → List (List (S35)) → Int → Int → Int → List (List (S35)) → Int → Int → Option (Bool)
 | 0,_,_,_,_,_,_,_,_,_ => none
 | k + 1,x5,x174000,x174001,x174002,x174003,x175000,x175001,x175002,x175003 => if x5 < (x174001.length : Int) then (if 0 ≤ x5 then (if x5 < (x175001.length : Int) then ((bodkinref20_SameRow.f k (rd_L3 x174001 x5) (rd_L3 x175001 x5)).bind fun t177 => (if t177 = true then (bodkinref20_Same.l0 k (wrap64 (x5 + 1)) x174000 x174001 x174002 x174003 x175000 x175001 x175002 x175003) else (some false))) else (none)) else (none)) else (some true)
end
def bodkinref20_Same.f (k : Nat) (a0_0 : Int) (l0_1 : List (List (S35))) (a0_2 : Int) (a0_3 : Int) (a1_0 : Int) (l1_1 : List (List (S35))) (a1_2 : Int) (a1_3 : Int) : Option (Bool) := if a0_0 = a1_0 then (if (!(a0_2 == a1_2) || (!(a0_3 == a1_3))) = true then (bodkinref20_Same.j0 k true a0_0 l0_1 a0_2 a0_3 a1_0 l1_1 a1_2 a1_3) else (bodkinref20_Same.j0 k ((l0_1.length : Int) != (l1_1.length : Int)) a0_0 l0_1 a0_2 a0_3 a1_0 l1_1 a1_2 a1_3)) else (bodkinref20_Same.j0 k true a0_0 l0_1 a0_2 a0_3 a1_0 l1_1 a1_2 a1_3)
set_option maxHeartbeats 8000000 in
set_option maxRecDepth 100000 in
theorem bodkinref20_Same.calls (k : Nat) (a0_0 : Int) (A0_1 : Option Addr) (c0_1 : Nat) (l0_1 : List (List (S35))) (a0_2 : Int) (a0_3 : Int) (a1_0 : Int) (A1_1 : Option Addr) (c1_1 : Nat) (l1_1 : List (List (S35))) (a1_2 : Int) (a1_3 : Int) (r : Bool) (w : World) (hr0_1 : Kd.C (Kd.slice 35 k35) w A0_1 l0_1.length l0_1) (hc0_1 : l0_1.length ≤ c0_1) (hr1_1 : Kd.C (Kd.slice 35 k35) w A1_1 l1_1.length l1_1) (hc1_1 : l1_1.length ≤ c1_1) (h : bodkinref20_Same.f k a0_0 l0_1 a0_2 a0_3 a1_0 l1_1 a1_2 a1_3 = some r) :
  Calls Tryd.prog 15 #[.agg #[.int .i64 a0_0,.slice A0_1 l0_1.length c0_1,.int .i64 a0_2,.int .i64 a0_3],.agg #[.int .i64 a1_0,.slice A1_1 l1_1.length c1_1,.int .i64 a1_2,.int .i64 a1_3]] w fun e w' => e = .returned (.bool r) ∧ Below w.heap.size w w' := by
 have hu29 := Tryd.underlying29
 have hu27 := Tryd.underlying27
 have HR0_1 := Aside0.mk hr0_1
 have HC0_1 := Aside0.mk hc0_1
 clear hr0_1 hc0_1
 have HR1_1 := Aside0.mk hr1_1
 have HC1_1 := Aside0.mk hc1_1
 clear hr1_1 hc1_1
 have HB := Aside0.mk (Below.refl w.heap.size w)
 have H : (if a0_0 = a1_0 then (if (!(a0_2 == a1_2) || (!(a0_3 == a1_3))) = true then (bodkinref20_Same.j0 k true a0_0 l0_1 a0_2 a0_3 a1_0 l1_1 a1_2 a1_3) else (bodkinref20_Same.j0 k ((l0_1.length : Int) != (l1_1.length : Int)) a0_0 l0_1 a0_2 a0_3 a1_0 l1_1 a1_2 a1_3)) else (bodkinref20_Same.j0 k true a0_0 l0_1 a0_2 a0_3 a1_0 l1_1 a1_2 a1_3)) = some r := h
 clear h
 have HC3 := Aside0.mk H
 clear H
 go_enter Tryd.func15,Tryd.ntmps15
 go_upto_region 1 with (first | ((with_reducible refine gate_dst (N := 2) rfl ?_);(try (refine gate_guard (by rfl) ?_;dsimp only));refine box_event ?hg (N := 2) ?hd (cs := #[.int .i64 a0_0,.slice A0_1 l0_1.length c0_1,.int .i64 a0_2,.int .i64 a0_3]) (t := 29) ?hr ?_;(case hd => rfl);(case hg => rfl);(case hr => first | (go_simp;done) | (go_simp;rfl));intro gb173 hg w4 hbox hb;have n0_ := Aside0.mk (below_step au0 hb);have n1_ := Aside0.mk (hbox);have n2_ := Aside0.mk ((by rw [hg];exact (below_size au0) : w.heap.size ≤ gb173));have n3_ := Aside0.mk ((by rw [hg];exact (below_size au0) : w.heap.size ≤ gb173));clear HB;have HB := n0_;have BK173 := n1_;have GW173 := n2_;have GE173 := n3_;clear n0_ n1_ n2_ n3_;clear hb hbox hg) | ((with_reducible refine gate_dst (N := 3) rfl ?_);(try (refine gate_guard (by rfl) ?_;dsimp only));refine box_event ?hg (N := 3) ?hd (cs := #[.int .i64 a1_0,.slice A1_1 l1_1.length c1_1,.int .i64 a1_2,.int .i64 a1_3]) (t := 29) ?hr ?_;(case hd => rfl);(case hg => rfl);(case hr => first | (go_simp;done) | (go_simp;rfl));intro gb174 hg w5 hbox hb;have n0_ := Aside0.mk (blk_below (g := gb173) (o := .cells #[.int .i64 a0_0,.slice A0_1 l0_1.length c0_1,.int .i64 a0_2,.int .i64 a0_3] 29 (0,0)) au14 hb);have n1_ := Aside0.mk (below_step au9 hb);have n2_ := Aside0.mk (hbox);have n3_ := Aside0.mk ((by rw [hg];exact (below_size au9) : w.heap.size ≤ gb174));have n4_ := Aside0.mk ((by rw [hg];exact (below_size au9) : w.heap.size ≤ gb174));have n5_ := Aside0.mk ((by rw [hg];exact Nat.ne_of_lt (blk_lt (g := gb173) (o := .cells #[.int .i64 a0_0,.slice A0_1 l0_1.length c0_1,.int .i64 a0_2,.int .i64 a0_3] 29 (0,0)) au14) : gb173 ≠ gb174));have n6_ := Aside0.mk ((by rw [hg];exact Nat.ne_of_gt (blk_lt (g := gb173) (o := .cells #[.int .i64 a0_0,.slice A0_1 l0_1.length c0_1,.int .i64 a0_2,.int .i64 a0_3] 29 (0,0)) au14) : gb174 ≠ gb173));clear BK173;clear HB;have BK173 := n0_;have HB := n1_;have BK174 := n2_;have GW174 := n3_;have GE174 := n4_;have NB173_174 := n5_;have NB174_173 := n6_;clear n0_ n1_ n2_ n3_ n4_ n5_ n6_;clear hb hbox hg))
 repeat (go_quiet (first | ((with_reducible refine gate_dst (N := 2) rfl ?_);(try (refine gate_guard (by rfl) ?_;dsimp only));refine box_event ?hg (N := 2) ?hd (cs := #[.int .i64 a0_0,.slice A0_1 l0_1.length c0_1,.int .i64 a0_2,.int .i64 a0_3]) (t := 29) ?hr ?_;(case hd => rfl);(case hg => rfl);(case hr => first | (go_simp;done) | (go_simp;rfl));intro gb173 hg w4 hbox hb;have n0_ := Aside0.mk (below_step au0 hb);have n1_ := Aside0.mk (hbox);have n2_ := Aside0.mk ((by rw [hg];exact (below_size au0) : w.heap.size ≤ gb173));have n3_ := Aside0.mk ((by rw [hg];exact (below_size au0) : w.heap.size ≤ gb173));clear HB;have HB := n0_;have BK173 := n1_;have GW173 := n2_;have GE173 := n3_;clear n0_ n1_ n2_ n3_;clear hb hbox hg) | ((with_reducible refine gate_dst (N := 3) rfl ?_);(try (refine gate_guard (by rfl) ?_;dsimp only));refine box_event ?hg (N := 3) ?hd (cs := #[.int .i64 a1_0,.slice A1_1 l1_1.length c1_1,.int .i64 a1_2,.int .i64 a1_3]) (t := 29) ?hr ?_;(case hd => rfl);(case hg => rfl);(case hr => first | (go_simp;done) | (go_simp;rfl));intro gb174 hg w5 hbox hb;have n0_ := Aside0.mk (blk_below (g := gb173) (o := .cells #[.int .i64 a0_0,.slice A0_1 l0_1.length c0_1,.int .i64 a0_2,.int .i64 a0_3] 29 (0,0)) au14 hb);have n1_ := Aside0.mk (below_step au9 hb);have n2_ := Aside0.mk (hbox);have n3_ := Aside0.mk ((by rw [hg];exact (below_size au9) : w.heap.size ≤ gb174));have n4_ := Aside0.mk ((by rw [hg];exact (below_size au9) : w.heap.size ≤ gb174));have n5_ := Aside0.mk ((by rw [hg];exact Nat.ne_of_lt (blk_lt (g := gb173) (o := .cells #[.int .i64 a0_0,.slice A0_1 l0_1.length c0_1,.int .i64 a0_2,.int .i64 a0_3] 29 (0,0)) au14) : gb173 ≠ gb174));have n6_ := Aside0.mk ((by rw [hg];exact Nat.ne_of_gt (blk_lt (g := gb173) (o := .cells #[.int .i64 a0_0,.slice A0_1 l0_1.length c0_1,.int .i64 a0_2,.int .i64 a0_3] 29 (0,0)) au14) : gb174 ≠ gb173));clear BK173;clear HB;have BK173 := n0_;have HB := n1_;have BK174 := n2_;have GW174 := n3_;have GE174 := n4_;have NB173_174 := n5_;have NB174_173 := n6_;clear n0_ n1_ n2_ n3_ n4_ n5_ n6_;clear hb hbox hg));go_upto_region 1 with (first | ((with_reducible refine gate_dst (N := 2) rfl ?_);(try (refine gate_guard (by rfl) ?_;dsimp only));refine box_event ?hg (N := 2) ?hd (cs := #[.int .i64 a0_0,.slice A0_1 l0_1.length c0_1,.int .i64 a0_2,.int .i64 a0_3]) (t := 29) ?hr ?_;(case hd => rfl);(case hg => rfl);(case hr => first | (go_simp;done) | (go_simp;rfl));intro gb173 hg w4 hbox hb;have n0_ := Aside0.mk (below_step au0 hb);have n1_ := Aside0.mk (hbox);have n2_ := Aside0.mk ((by rw [hg];exact (below_size au0) : w.heap.size ≤ gb173));have n3_ := Aside0.mk ((by rw [hg];exact (below_size au0) : w.heap.size ≤ gb173));clear HB;have HB := n0_;have BK173 := n1_;have GW173 := n2_;have GE173 := n3_;clear n0_ n1_ n2_ n3_;clear hb hbox hg) | ((with_reducible refine gate_dst (N := 3) rfl ?_);(try (refine gate_guard (by rfl) ?_;dsimp only));refine box_event ?hg (N := 3) ?hd (cs := #[.int .i64 a1_0,.slice A1_1 l1_1.length c1_1,.int .i64 a1_2,.int .i64 a1_3]) (t := 29) ?hr ?_;(case hd => rfl);(case hg => rfl);(case hr => first | (go_simp;done) | (go_simp;rfl));intro gb174 hg w5 hbox hb;have n0_ := Aside0.mk (blk_below (g := gb173) (o := .cells #[.int .i64 a0_0,.slice A0_1 l0_1.length c0_1,.int .i64 a0_2,.int .i64 a0_3] 29 (0,0)) au14 hb);have n1_ := Aside0.mk (below_step au9 hb);have n2_ := Aside0.mk (hbox);have n3_ := Aside0.mk ((by rw [hg];exact (below_size au9) : w.heap.size ≤ gb174));have n4_ := Aside0.mk ((by rw [hg];exact (below_size au9) : w.heap.size ≤ gb174));have n5_ := Aside0.mk ((by rw [hg];exact Nat.ne_of_lt (blk_lt (g := gb173) (o := .cells #[.int .i64 a0_0,.slice A0_1 l0_1.length c0_1,.int .i64 a0_2,.int .i64 a0_3] 29 (0,0)) au14) : gb173 ≠ gb174));have n6_ := Aside0.mk ((by rw [hg];exact Nat.ne_of_gt (blk_lt (g := gb173) (o := .cells #[.int .i64 a0_0,.slice A0_1 l0_1.length c0_1,.int .i64 a0_2,.int .i64 a0_3] 29 (0,0)) au14) : gb174 ≠ gb173));clear BK173;clear HB;have BK173 := n0_;have HB := n1_;have BK174 := n2_;have GW174 := n3_;have GE174 := n4_;have NB173_174 := n5_;have NB174_173 := n6_;clear n0_ n1_ n2_ n3_ n4_ n5_ n6_;clear hb hbox hg)))
 (try simp only [Act.put,List.setIfInBounds_toArray,List.set_cons_zero,List.set_cons_succ])
 go_cut [26] (fun v26 wc => ∃ (kq : Nat) (x26_2 : Bool),v26 = .bool x26_2 ∧ Aside0 (bodkinref20_Same.j0 kq x26_2 a0_0 l0_1 a0_2 a0_3 a1_0 l1_1 a1_2 a1_3 = some r) ∧ Aside0 (kq ≤ k) ∧ Aside0 (wc.heap[gb173]? = some (.cells #[.int .i64 a0_0,(.slice A0_1 l0_1.length c0_1),.int .i64 a0_2,.int .i64 a0_3] 29 (0,0))) ∧ Aside0 (wc.heap[gb174]? = some (.cells #[.int .i64 a1_0,(.slice A1_1 l1_1.length c1_1),.int .i64 a1_2,.int .i64 a1_3] 29 (0,0))) ∧ Aside0 (Below w.heap.size w wc))
 case first =>
  have H := HC3.out
  clear HC3
  by_cases c6 : a0_0 = a1_0
  ·rw [if_pos c6] at H
   have c6b0 : (a0_0 == a1_0) = true := beq_iff_eq.mpr c6
   have c6b1 : (a0_0 != a1_0) = false := bne_eq_false_iff_eq.mpr c6
   clear c6
   (first | rw [c6b0] | (simp only [i64_w,i32_w];rw [c6b0]) | skip)
   by_cases c7 : (!(a0_2 == a1_2) || (!(a0_3 == a1_3))) = true
   ·rw [if_pos c7] at H
    have c7b0 : (!(a0_2 == a1_2) || (!(a0_3 == a1_3))) = true := c7
    clear c7
    have H' := Aside0.mk H
    clear H
    have hnb8 := NB173_174.out
    have hnc8 := NB174_173.out
    have hcz9_0 : w5.cell? ⟨gb173,0,none⟩ = some (.int .i64 a0_0) := (blk_cell BK173.out 0).trans rfl
    have hcz9_1 : w5.cell? ⟨gb173,1,none⟩ = some (.slice A0_1 l0_1.length c0_1) := (blk_cell BK173.out 1).trans rfl
    have hcz9_2 : w5.cell? ⟨gb173,2,none⟩ = some (.int .i64 a0_2) := (blk_cell BK173.out 2).trans rfl
    have hcz9_3 : w5.cell? ⟨gb173,3,none⟩ = some (.int .i64 a0_3) := (blk_cell BK173.out 3).trans rfl
    have hfz9_0 := blk_frozen BK173.out 0
    have hfz9_1 := blk_frozen BK173.out 1
    have hfz9_2 := blk_frozen BK173.out 2
    have hfz9_3 := blk_frozen BK173.out 3
    have hcz10_0 : w5.cell? ⟨gb174,0,none⟩ = some (.int .i64 a1_0) := (blk_cell BK174.out 0).trans rfl
    have hcz10_1 : w5.cell? ⟨gb174,1,none⟩ = some (.slice A1_1 l1_1.length c1_1) := (blk_cell BK174.out 1).trans rfl
    have hcz10_2 : w5.cell? ⟨gb174,2,none⟩ = some (.int .i64 a1_2) := (blk_cell BK174.out 2).trans rfl
    have hcz10_3 : w5.cell? ⟨gb174,3,none⟩ = some (.int .i64 a1_3) := (blk_cell BK174.out 3).trans rfl
    have hfz10_0 := blk_frozen BK174.out 0
    have hfz10_1 := blk_frozen BK174.out 1
    have hfz10_2 := blk_frozen BK174.out 2
    have hfz10_3 := blk_frozen BK174.out 3
    go_wp2
    repeat (go_quiet (fail);try go_wp2)
    go_meet
    case rel => exact ⟨_,(true),au4,H',⟨by first | omega | exact Nat.le_refl _⟩,⟨by (with_reducible repeat (first | refine blk_drewN ?_ _ | refine blk_drew ?_ | refine blk_alloc ?_ _));exact BK173.out⟩,⟨by (with_reducible repeat (first | refine blk_drewN ?_ _ | refine blk_drew ?_ | refine blk_alloc ?_ _));exact BK174.out⟩,⟨by repeat (first | (with_reducible first | exact HB.out | apply below_alloc | apply pw_below_drewN | apply below_drew1 | refine below_set ?_ GE173.out | refine below_set ?_ GE174.out) | exact HB.out)⟩⟩
   ·rw [if_neg c7] at H
    have c7b0 : (!(a0_2 == a1_2) || (!(a0_3 == a1_3))) = false := by simpa using c7
    clear c7
    have H' := Aside0.mk H
    clear H
    have hnb11 := NB173_174.out
    have hnc11 := NB174_173.out
    have hcz12_0 : w5.cell? ⟨gb173,0,none⟩ = some (.int .i64 a0_0) := (blk_cell BK173.out 0).trans rfl
    have hcz12_1 : w5.cell? ⟨gb173,1,none⟩ = some (.slice A0_1 l0_1.length c0_1) := (blk_cell BK173.out 1).trans rfl
    have hcz12_2 : w5.cell? ⟨gb173,2,none⟩ = some (.int .i64 a0_2) := (blk_cell BK173.out 2).trans rfl
    have hcz12_3 : w5.cell? ⟨gb173,3,none⟩ = some (.int .i64 a0_3) := (blk_cell BK173.out 3).trans rfl
    have hfz12_0 := blk_frozen BK173.out 0
    have hfz12_1 := blk_frozen BK173.out 1
    have hfz12_2 := blk_frozen BK173.out 2
    have hfz12_3 := blk_frozen BK173.out 3
    have hcz13_0 : w5.cell? ⟨gb174,0,none⟩ = some (.int .i64 a1_0) := (blk_cell BK174.out 0).trans rfl
    have hcz13_1 : w5.cell? ⟨gb174,1,none⟩ = some (.slice A1_1 l1_1.length c1_1) := (blk_cell BK174.out 1).trans rfl
    have hcz13_2 : w5.cell? ⟨gb174,2,none⟩ = some (.int .i64 a1_2) := (blk_cell BK174.out 2).trans rfl
    have hcz13_3 : w5.cell? ⟨gb174,3,none⟩ = some (.int .i64 a1_3) := (blk_cell BK174.out 3).trans rfl
    have hfz13_0 := blk_frozen BK174.out 0
    have hfz13_1 := blk_frozen BK174.out 1
    have hfz13_2 := blk_frozen BK174.out 2
    have hfz13_3 := blk_frozen BK174.out 3
    go_wp2
    repeat (go_quiet (fail);try go_wp2)
    go_meet
    case rel => exact ⟨_,(((l0_1.length : Int) != (l1_1.length : Int))),au4,H',⟨by first | omega | exact Nat.le_refl _⟩,⟨by (with_reducible repeat (first | refine blk_drewN ?_ _ | refine blk_drew ?_ | refine blk_alloc ?_ _));exact BK173.out⟩,⟨by (with_reducible repeat (first | refine blk_drewN ?_ _ | refine blk_drew ?_ | refine blk_alloc ?_ _));exact BK174.out⟩,⟨by repeat (first | (with_reducible first | exact HB.out | apply below_alloc | apply pw_below_drewN | apply below_drew1 | refine below_set ?_ GE173.out | refine below_set ?_ GE174.out) | exact HB.out)⟩⟩
  ·rw [if_neg c6] at H
   have c6b0 : (a0_0 == a1_0) = false := beq_eq_false_iff_ne.mpr c6
   have c6b1 : (a0_0 != a1_0) = true := bne_iff_ne.mpr c6
   (first | rw [c6b0] | (simp only [i64_w,i32_w];rw [c6b0]) | skip)
   have H' := Aside0.mk H
   clear H
   have hnb14 := NB173_174.out
   have hnc14 := NB174_173.out
   have hcz15_0 : w5.cell? ⟨gb173,0,none⟩ = some (.int .i64 a0_0) := (blk_cell BK173.out 0).trans rfl
   have hcz15_1 : w5.cell? ⟨gb173,1,none⟩ = some (.slice A0_1 l0_1.length c0_1) := (blk_cell BK173.out 1).trans rfl
   have hcz15_2 : w5.cell? ⟨gb173,2,none⟩ = some (.int .i64 a0_2) := (blk_cell BK173.out 2).trans rfl
   have hcz15_3 : w5.cell? ⟨gb173,3,none⟩ = some (.int .i64 a0_3) := (blk_cell BK173.out 3).trans rfl
   have hfz15_0 := blk_frozen BK173.out 0
   have hfz15_1 := blk_frozen BK173.out 1
   have hfz15_2 := blk_frozen BK173.out 2
   have hfz15_3 := blk_frozen BK173.out 3
   have hcz16_0 : w5.cell? ⟨gb174,0,none⟩ = some (.int .i64 a1_0) := (blk_cell BK174.out 0).trans rfl
   have hcz16_1 : w5.cell? ⟨gb174,1,none⟩ = some (.slice A1_1 l1_1.length c1_1) := (blk_cell BK174.out 1).trans rfl
   have hcz16_2 : w5.cell? ⟨gb174,2,none⟩ = some (.int .i64 a1_2) := (blk_cell BK174.out 2).trans rfl
   have hcz16_3 : w5.cell? ⟨gb174,3,none⟩ = some (.int .i64 a1_3) := (blk_cell BK174.out 3).trans rfl
   have hfz16_0 := blk_frozen BK174.out 0
   have hfz16_1 := blk_frozen BK174.out 1
   have hfz16_2 := blk_frozen BK174.out 2
   have hfz16_3 := blk_frozen BK174.out 3
   go_wp2
   repeat (go_quiet (fail);try go_wp2)
   go_meet
   case rel => exact ⟨_,(true),au4,H',⟨by first | omega | exact Nat.le_refl _⟩,⟨by (with_reducible repeat (first | refine blk_drewN ?_ _ | refine blk_drew ?_ | refine blk_alloc ?_ _));exact BK173.out⟩,⟨by (with_reducible repeat (first | refine blk_drewN ?_ _ | refine blk_drew ?_ | refine blk_alloc ?_ _));exact BK174.out⟩,⟨by repeat (first | (with_reducible first | exact HB.out | apply below_alloc | apply pw_below_drewN | apply below_drew1 | refine below_set ?_ GE173.out | refine below_set ?_ GE174.out) | exact HB.out)⟩⟩
 case rest =>
  clear HC3
  try clear c1
  try clear p2
  try clear c6
  try clear c6b0
  try clear c6b1
  try clear c7
  try clear c7b0
  try clear c8
  try clear c11
  try clear c14
  try clear c15
  try clear hcz10_0
  try clear hcz10_1
  try clear hcz10_2
  try clear hcz10_3
  try clear hcz12_0
  try clear hcz12_1
  try clear hcz12_2
  try clear hcz12_3
  try clear hcz13_0
  try clear hcz13_1
  try clear hcz13_2
  try clear hcz13_3
  try clear hcz15_0
  try clear hcz15_1
  try clear hcz15_2
  try clear hcz15_3
  try clear hcz16_0
  try clear hcz16_1
  try clear hcz16_2
  try clear hcz16_3
  try clear hcz9_0
  try clear hcz9_1
  try clear hcz9_2
  try clear hcz9_3
  try clear hfz10_0
  try clear hfz10_1
  try clear hfz10_2
  try clear hfz10_3
  try clear hfz12_0
  try clear hfz12_1
  try clear hfz12_2
  try clear hfz12_3
  try clear hfz13_0
  try clear hfz13_1
  try clear hfz13_2
  try clear hfz13_3
  try clear hfz15_0
  try clear hfz15_1
  try clear hfz15_2
  try clear hfz15_3
  try clear hfz16_0
  try clear hfz16_1
  try clear hfz16_2
  try clear hfz16_3
  try clear hfz9_0
  try clear hfz9_1
  try clear hfz9_2
  try clear hfz9_3
  obtain ⟨kq,x26_2,rfl,HA,HJ2,BK173,BK174,HB⟩ := hcut
  cases kq with
  | zero => exact absurd HA.out (by simp [bodkinref20_Same.j0])
  | succ kj2 =>
   have H := HA.out
   clear HA
   simp only [bodkinref20_Same.j0] at H
   by_cases c17 : x26_2 = true
   ·subst c17
    have H1 : (some false) = some r := by rw [if_pos rfl] at H;exact H
    clear H
    have H := H1
    clear H1
    obtain rfl := Option.some.inj H
    go_wp2
    repeat (go_quiet (fail);try go_wp2)
    go_ret
    exact ⟨au2,by repeat (first | (with_reducible first | exact HB.out | apply below_alloc | apply pw_below_drewN | apply below_drew1 | refine below_set ?_ GE173.out | refine below_set ?_ GE174.out) | exact HB.out)⟩
   ·replace c17 := Bool.eq_false_iff.mpr c17
    subst c17
    have H1 : (bodkinref20_Same.l0 kj2 0 a0_0 l0_1 a0_2 a0_3 a1_0 l1_1 a1_2 a1_3) = some r := by rw [if_neg (show ¬ (false = true) by decide)] at H;exact H
    clear H
    have H := H1
    clear H1
    have H' := Aside0.mk H
    clear H
    go_wp2
    repeat (go_quiet (fail);try go_wp2)
    go_loopg [5] kj2 (fun kq v5 w' => ∃ (x5_2 : Int),v5 = .int .i64 x5_2 ∧ Aside0 (bodkinref20_Same.l0 kq x5_2 a0_0 l0_1 a0_2 a0_3 a1_0 l1_1 a1_2 a1_3 = some r) ∧ Aside0 (kq ≤ kj2) ∧ Aside0 (w'.heap[gb173]? = some (.cells #[.int .i64 a0_0,(.slice A0_1 l0_1.length c0_1),.int .i64 a0_2,.int .i64 a0_3] 29 (0,0))) ∧ Aside0 (w'.heap[gb174]? = some (.cells #[.int .i64 a1_0,(.slice A1_1 l1_1.length c1_1),.int .i64 a1_2,.int .i64 a1_3] 29 (0,0))) ∧ Aside0 (Below w.heap.size w w'))
    case atStart => exact ⟨(0),au4,H',⟨Nat.le_refl _⟩,⟨by (with_reducible repeat (first | refine blk_drewN ?_ _ | refine blk_drew ?_ | refine blk_alloc ?_ _));exact BK173.out⟩,⟨by (with_reducible repeat (first | refine blk_drewN ?_ _ | refine blk_drew ?_ | refine blk_alloc ?_ _));exact BK174.out⟩,⟨by repeat (first | (with_reducible first | exact HB.out | apply below_alloc | apply pw_below_drewN | apply below_drew1 | refine below_set ?_ GE173.out | refine below_set ?_ GE174.out) | exact HB.out)⟩⟩
    case round =>
     clear H'
     try clear c1
     try clear p2
     try clear c6
     try clear c6b0
     try clear c6b1
     try clear c7
     try clear c7b0
     try clear c8
     try clear c11
     try clear c14
     try clear c15
     try clear c17
     try clear hcz10_0
     try clear hcz10_1
     try clear hcz10_2
     try clear hcz10_3
     try clear hcz12_0
     try clear hcz12_1
     try clear hcz12_2
     try clear hcz12_3
     try clear hcz13_0
     try clear hcz13_1
     try clear hcz13_2
     try clear hcz13_3
     try clear hcz15_0
     try clear hcz15_1
     try clear hcz15_2
     try clear hcz15_3
     try clear hcz16_0
     try clear hcz16_1
     try clear hcz16_2
     try clear hcz16_3
     try clear hcz9_0
     try clear hcz9_1
     try clear hcz9_2
     try clear hcz9_3
     try clear hfz10_0
     try clear hfz10_1
     try clear hfz10_2
     try clear hfz10_3
     try clear hfz12_0
     try clear hfz12_1
     try clear hfz12_2
     try clear hfz12_3
     try clear hfz13_0
     try clear hfz13_1
     try clear hfz13_2
     try clear hfz13_3
     try clear hfz15_0
     try clear hfz15_1
     try clear hfz15_2
     try clear hfz15_3
     try clear hfz16_0
     try clear hfz16_1
     try clear hfz16_2
     try clear hfz16_3
     try clear hfz9_0
     try clear hfz9_1
     try clear hfz9_2
     try clear hfz9_3
     try clear p2
     obtain ⟨x5_2,rfl,HA,HK2,BK173,BK174,HB⟩ := hrel
     cases gk with
     | zero => exact absurd HA.out (by simp [bodkinref20_Same.l0])
     | succ k2 =>
      have H := HA.out
      clear HA
      simp only [bodkinref20_Same.l0] at H
      by_cases c18 : x5_2 < (l0_1.length : Int)
      ·rw [if_pos c18] at H
       have c18b0 : decide (x5_2 < (l0_1.length : Int)) = true := decide_eq_true c18
       clear c18
       by_cases c19 : 0 ≤ x5_2
       ·rw [if_pos c19] at H
        have c19b0 : decide (0 ≤ x5_2) = true := decide_eq_true c19
        clear c19
        by_cases c20 : x5_2 < (l1_1.length : Int)
        ·rw [if_pos c20] at H
         have c20b0 : decide (x5_2 < (l1_1.length : Int)) = true := decide_eq_true c20
         clear c20
         replace H := Option.bind_eq_some_iff.mp H
         obtain ⟨t177,A210,H⟩ := H
         replace H : (if t177 = true then (bodkinref20_Same.l0 k2 (wrap64 (x5_2 + 1)) a0_0 l0_1 a0_2 a0_3 a1_0 l1_1 a1_2 a1_3) else (some false)) = some r := H
         have A21 := Aside0.mk A210
         clear A210
         by_cases c22 : t177 = true
         ·subst c22
          have H1 : (bodkinref20_Same.l0 k2 (wrap64 (x5_2 + 1)) a0_0 l0_1 a0_2 a0_3 a1_0 l1_1 a1_2 a1_3) = some r := by rw [if_pos rfl] at H;exact H
          clear H
          have H := H1
          clear H1
          have H' := Aside0.mk H
          clear H
          have hnb23 := NB173_174.out
          have hnc23 := NB174_173.out
          have hcz24_0 : wr.cell? ⟨gb173,0,none⟩ = some (.int .i64 a0_0) := (blk_cell BK173.out 0).trans rfl
          have hcz24_1 : wr.cell? ⟨gb173,1,none⟩ = some (.slice A0_1 l0_1.length c0_1) := (blk_cell BK173.out 1).trans rfl
          have hcz24_2 : wr.cell? ⟨gb173,2,none⟩ = some (.int .i64 a0_2) := (blk_cell BK173.out 2).trans rfl
          have hcz24_3 : wr.cell? ⟨gb173,3,none⟩ = some (.int .i64 a0_3) := (blk_cell BK173.out 3).trans rfl
          have hfz24_0 := blk_frozen BK173.out 0
          have hfz24_1 := blk_frozen BK173.out 1
          have hfz24_2 := blk_frozen BK173.out 2
          have hfz24_3 := blk_frozen BK173.out 3
          have p175 : 0 ≤ (x5_2 : Int) := of_decide_eq_true au3
          have q175 : x5_2 < (l0_1.length : Int) := of_decide_eq_true au3
          obtain ⟨ad175,A175_0,c175_0,e175,hx175_0,hl175_0,hi175_0⟩ := at_L3 HR0_1.out x5_2 p175 q175
          cases e175
          replace hx175_0 := (HB.out.cell (World.block_lt_of_cell? w _ hx175_0)).trans hx175_0
          have HR175_0 := Aside0.mk hi175_0
          have HC175_0 := Aside0.mk hl175_0
          clear hi175_0 hl175_0
          replace p175 := eq_true p175
          replace q175 := eq_true q175
          have hcz25_0 : wr.cell? ⟨gb174,0,none⟩ = some (.int .i64 a1_0) := (blk_cell BK174.out 0).trans rfl
          have hcz25_1 : wr.cell? ⟨gb174,1,none⟩ = some (.slice A1_1 l1_1.length c1_1) := (blk_cell BK174.out 1).trans rfl
          have hcz25_2 : wr.cell? ⟨gb174,2,none⟩ = some (.int .i64 a1_2) := (blk_cell BK174.out 2).trans rfl
          have hcz25_3 : wr.cell? ⟨gb174,3,none⟩ = some (.int .i64 a1_3) := (blk_cell BK174.out 3).trans rfl
          have hfz25_0 := blk_frozen BK174.out 0
          have hfz25_1 := blk_frozen BK174.out 1
          have hfz25_2 := blk_frozen BK174.out 2
          have hfz25_3 := blk_frozen BK174.out 3
          have p176 : 0 ≤ (x5_2 : Int) := of_decide_eq_true au3
          have q176 : x5_2 < (l1_1.length : Int) := of_decide_eq_true au3
          obtain ⟨ad176,A176_0,c176_0,e176,hx176_0,hl176_0,hi176_0⟩ := at_L3 HR1_1.out x5_2 p176 q176
          cases e176
          replace hx176_0 := (HB.out.cell (World.block_lt_of_cell? w _ hx176_0)).trans hx176_0
          have HR176_0 := Aside0.mk hi176_0
          have HC176_0 := Aside0.mk hl176_0
          clear hi176_0 hl176_0
          replace p176 := eq_true p176
          replace q176 := eq_true q176
          go_wp2_with (first | (go_at_call 38;(with_reducible refine (bodkinref20_SameRow.calls k2 _ _ (rd_L3 l0_1 x5_2) _ _ (rd_L3 l1_1 x5_2) true _ ?side1 ?side2 ?side3 ?side4 A21.out).mono ?_);(case side1 => repeat (first | exact (Kd.C_below HR175_0.out HB.out) | (with_reducible refine Kd.C_alloc ?_ _) | (with_reducible refine Kd.C_drewN ?_ _) | (with_reducible refine Kd.C_drew ?_)));(case side2 => exact HC175_0.out);(case side3 => repeat (first | exact (Kd.C_below HR176_0.out HB.out) | (with_reducible refine Kd.C_alloc ?_ _) | (with_reducible refine Kd.C_drewN ?_ _) | (with_reducible refine Kd.C_drew ?_)));(case side4 => exact HC176_0.out);rintro e w' ⟨rfl,⟨nd,rfl⟩⟩;(try first | exact ⟨rfl,_,World.drewN_drewN _ _ _⟩ | exact ⟨rfl,_,Eq.trans (World.drewN_drewN _ _ _) (congrArg (World.drewN _) (Nat.add_assoc _ _ _))⟩)))
          repeat (go_quiet (first | (go_at_call 38;(with_reducible refine (bodkinref20_SameRow.calls k2 _ _ (rd_L3 l0_1 x5_2) _ _ (rd_L3 l1_1 x5_2) true _ ?side1 ?side2 ?side3 ?side4 A21.out).mono ?_);(case side1 => repeat (first | exact (Kd.C_below HR175_0.out HB.out) | (with_reducible refine Kd.C_alloc ?_ _) | (with_reducible refine Kd.C_drewN ?_ _) | (with_reducible refine Kd.C_drew ?_)));(case side2 => exact HC175_0.out);(case side3 => repeat (first | exact (Kd.C_below HR176_0.out HB.out) | (with_reducible refine Kd.C_alloc ?_ _) | (with_reducible refine Kd.C_drewN ?_ _) | (with_reducible refine Kd.C_drew ?_)));(case side4 => exact HC176_0.out);rintro e w' ⟨rfl,⟨nd,rfl⟩⟩;(try first | exact ⟨rfl,_,World.drewN_drewN _ _ _⟩ | exact ⟨rfl,_,Eq.trans (World.drewN_drewN _ _ _) (congrArg (World.drewN _) (Nat.add_assoc _ _ _))⟩)));try go_wp2_with (first | (go_at_call 38;(with_reducible refine (bodkinref20_SameRow.calls k2 _ _ (rd_L3 l0_1 x5_2) _ _ (rd_L3 l1_1 x5_2) true _ ?side1 ?side2 ?side3 ?side4 A21.out).mono ?_);(case side1 => repeat (first | exact (Kd.C_below HR175_0.out HB.out) | (with_reducible refine Kd.C_alloc ?_ _) | (with_reducible refine Kd.C_drewN ?_ _) | (with_reducible refine Kd.C_drew ?_)));(case side2 => exact HC175_0.out);(case side3 => repeat (first | exact (Kd.C_below HR176_0.out HB.out) | (with_reducible refine Kd.C_alloc ?_ _) | (with_reducible refine Kd.C_drewN ?_ _) | (with_reducible refine Kd.C_drew ?_)));(case side4 => exact HC176_0.out);rintro e w' ⟨rfl,⟨nd,rfl⟩⟩;(try first | exact ⟨rfl,_,World.drewN_drewN _ _ _⟩ | exact ⟨rfl,_,Eq.trans (World.drewN_drewN _ _ _) (congrArg (World.drewN _) (Nat.add_assoc _ _ _))⟩))))
          go_roundg k2
          case measure => have := HJ2.out;have := HK2.out;omega
          case rel => exact ⟨(wrap64 (x5_2 + 1)),au4,H',⟨by have := HJ2.out;have := HK2.out;omega⟩,⟨by (with_reducible repeat (first | refine blk_drewN ?_ _ | refine blk_drew ?_ | refine blk_alloc ?_ _));exact BK173.out⟩,⟨by (with_reducible repeat (first | refine blk_drewN ?_ _ | refine blk_drew ?_ | refine blk_alloc ?_ _));exact BK174.out⟩,⟨by repeat (first | (with_reducible first | exact HB.out | apply below_alloc | apply pw_below_drewN | apply below_drew1 | refine below_set ?_ GE173.out | refine below_set ?_ GE174.out) | exact HB.out)⟩⟩
         ·replace c22 := Bool.eq_false_iff.mpr c22
          subst c22
          have H1 : (some false) = some r := by rw [if_neg (show ¬ (false = true) by decide)] at H;exact H
          clear H
          have H := H1
          clear H1
          obtain rfl := Option.some.inj H
          have hnb26 := NB173_174.out
          have hnc26 := NB174_173.out
          have hcz27_0 : wr.cell? ⟨gb173,0,none⟩ = some (.int .i64 a0_0) := (blk_cell BK173.out 0).trans rfl
          have hcz27_1 : wr.cell? ⟨gb173,1,none⟩ = some (.slice A0_1 l0_1.length c0_1) := (blk_cell BK173.out 1).trans rfl
          have hcz27_2 : wr.cell? ⟨gb173,2,none⟩ = some (.int .i64 a0_2) := (blk_cell BK173.out 2).trans rfl
          have hcz27_3 : wr.cell? ⟨gb173,3,none⟩ = some (.int .i64 a0_3) := (blk_cell BK173.out 3).trans rfl
          have hfz27_0 := blk_frozen BK173.out 0
          have hfz27_1 := blk_frozen BK173.out 1
          have hfz27_2 := blk_frozen BK173.out 2
          have hfz27_3 := blk_frozen BK173.out 3
          have p175 : 0 ≤ (x5_2 : Int) := of_decide_eq_true au3
          have q175 : x5_2 < (l0_1.length : Int) := of_decide_eq_true au3
          obtain ⟨ad175,A175_0,c175_0,e175,hx175_0,hl175_0,hi175_0⟩ := at_L3 HR0_1.out x5_2 p175 q175
          cases e175
          replace hx175_0 := (HB.out.cell (World.block_lt_of_cell? w _ hx175_0)).trans hx175_0
          have HR175_0 := Aside0.mk hi175_0
          have HC175_0 := Aside0.mk hl175_0
          clear hi175_0 hl175_0
          replace p175 := eq_true p175
          replace q175 := eq_true q175
          have hcz28_0 : wr.cell? ⟨gb174,0,none⟩ = some (.int .i64 a1_0) := (blk_cell BK174.out 0).trans rfl
          have hcz28_1 : wr.cell? ⟨gb174,1,none⟩ = some (.slice A1_1 l1_1.length c1_1) := (blk_cell BK174.out 1).trans rfl
          have hcz28_2 : wr.cell? ⟨gb174,2,none⟩ = some (.int .i64 a1_2) := (blk_cell BK174.out 2).trans rfl
          have hcz28_3 : wr.cell? ⟨gb174,3,none⟩ = some (.int .i64 a1_3) := (blk_cell BK174.out 3).trans rfl
          have hfz28_0 := blk_frozen BK174.out 0
          have hfz28_1 := blk_frozen BK174.out 1
          have hfz28_2 := blk_frozen BK174.out 2
          have hfz28_3 := blk_frozen BK174.out 3
          have p176 : 0 ≤ (x5_2 : Int) := of_decide_eq_true au3
          have q176 : x5_2 < (l1_1.length : Int) := of_decide_eq_true au3
          obtain ⟨ad176,A176_0,c176_0,e176,hx176_0,hl176_0,hi176_0⟩ := at_L3 HR1_1.out x5_2 p176 q176
          cases e176
          replace hx176_0 := (HB.out.cell (World.block_lt_of_cell? w _ hx176_0)).trans hx176_0
          have HR176_0 := Aside0.mk hi176_0
          have HC176_0 := Aside0.mk hl176_0
          clear hi176_0 hl176_0
          replace p176 := eq_true p176
          replace q176 := eq_true q176
          go_wp2_with (first | (go_at_call 38;(with_reducible refine (bodkinref20_SameRow.calls k2 _ _ (rd_L3 l0_1 x5_2) _ _ (rd_L3 l1_1 x5_2) false _ ?side1 ?side2 ?side3 ?side4 A21.out).mono ?_);(case side1 => repeat (first | exact (Kd.C_below HR175_0.out HB.out) | (with_reducible refine Kd.C_alloc ?_ _) | (with_reducible refine Kd.C_drewN ?_ _) | (with_reducible refine Kd.C_drew ?_)));(case side2 => exact HC175_0.out);(case side3 => repeat (first | exact (Kd.C_below HR176_0.out HB.out) | (with_reducible refine Kd.C_alloc ?_ _) | (with_reducible refine Kd.C_drewN ?_ _) | (with_reducible refine Kd.C_drew ?_)));(case side4 => exact HC176_0.out);rintro e w' ⟨rfl,⟨nd,rfl⟩⟩;(try first | exact ⟨rfl,_,World.drewN_drewN _ _ _⟩ | exact ⟨rfl,_,Eq.trans (World.drewN_drewN _ _ _) (congrArg (World.drewN _) (Nat.add_assoc _ _ _))⟩)))
          repeat (go_quiet (first | (go_at_call 38;(with_reducible refine (bodkinref20_SameRow.calls k2 _ _ (rd_L3 l0_1 x5_2) _ _ (rd_L3 l1_1 x5_2) false _ ?side1 ?side2 ?side3 ?side4 A21.out).mono ?_);(case side1 => repeat (first | exact (Kd.C_below HR175_0.out HB.out) | (with_reducible refine Kd.C_alloc ?_ _) | (with_reducible refine Kd.C_drewN ?_ _) | (with_reducible refine Kd.C_drew ?_)));(case side2 => exact HC175_0.out);(case side3 => repeat (first | exact (Kd.C_below HR176_0.out HB.out) | (with_reducible refine Kd.C_alloc ?_ _) | (with_reducible refine Kd.C_drewN ?_ _) | (with_reducible refine Kd.C_drew ?_)));(case side4 => exact HC176_0.out);rintro e w' ⟨rfl,⟨nd,rfl⟩⟩;(try first | exact ⟨rfl,_,World.drewN_drewN _ _ _⟩ | exact ⟨rfl,_,Eq.trans (World.drewN_drewN _ _ _) (congrArg (World.drewN _) (Nat.add_assoc _ _ _))⟩)));try go_wp2_with (first | (go_at_call 38;(with_reducible refine (bodkinref20_SameRow.calls k2 _ _ (rd_L3 l0_1 x5_2) _ _ (rd_L3 l1_1 x5_2) false _ ?side1 ?side2 ?side3 ?side4 A21.out).mono ?_);(case side1 => repeat (first | exact (Kd.C_below HR175_0.out HB.out) | (with_reducible refine Kd.C_alloc ?_ _) | (with_reducible refine Kd.C_drewN ?_ _) | (with_reducible refine Kd.C_drew ?_)));(case side2 => exact HC175_0.out);(case side3 => repeat (first | exact (Kd.C_below HR176_0.out HB.out) | (with_reducible refine Kd.C_alloc ?_ _) | (with_reducible refine Kd.C_drewN ?_ _) | (with_reducible refine Kd.C_drew ?_)));(case side4 => exact HC176_0.out);rintro e w' ⟨rfl,⟨nd,rfl⟩⟩;(try first | exact ⟨rfl,_,World.drewN_drewN _ _ _⟩ | exact ⟨rfl,_,Eq.trans (World.drewN_drewN _ _ _) (congrArg (World.drewN _) (Nat.add_assoc _ _ _))⟩))))
          go_ret
          exact ⟨au2,by repeat (first | (with_reducible first | exact HB.out | apply below_alloc | apply pw_below_drewN | apply below_drew1 | refine below_set ?_ GE173.out | refine below_set ?_ GE174.out) | exact HB.out)⟩
        ·rw [if_neg c20] at H
         exact absurd H (by simp)
       ·rw [if_neg c19] at H
        exact absurd H (by simp)
      ·rw [if_neg c18] at H
       have c18b0 : decide (x5_2 < (l0_1.length : Int)) = false := decide_eq_false c18
       clear c18
       obtain rfl := Option.some.inj H
       have hnb29 := NB173_174.out
       have hnc29 := NB174_173.out
       have hcz30_0 : wr.cell? ⟨gb173,0,none⟩ = some (.int .i64 a0_0) := (blk_cell BK173.out 0).trans rfl
       have hcz30_1 : wr.cell? ⟨gb173,1,none⟩ = some (.slice A0_1 l0_1.length c0_1) := (blk_cell BK173.out 1).trans rfl
       have hcz30_2 : wr.cell? ⟨gb173,2,none⟩ = some (.int .i64 a0_2) := (blk_cell BK173.out 2).trans rfl
       have hcz30_3 : wr.cell? ⟨gb173,3,none⟩ = some (.int .i64 a0_3) := (blk_cell BK173.out 3).trans rfl
       have hfz30_0 := blk_frozen BK173.out 0
       have hfz30_1 := blk_frozen BK173.out 1
       have hfz30_2 := blk_frozen BK173.out 2
       have hfz30_3 := blk_frozen BK173.out 3
       go_wp2
       repeat (go_quiet (fail);try go_wp2)
       go_ret
       exact ⟨au2,by repeat (first | (with_reducible first | exact HB.out | apply below_alloc | apply pw_below_drewN | apply below_drew1 | refine below_set ?_ GE173.out | refine below_set ?_ GE174.out) | exact HB.out)⟩
end Go.Proofs.YtnpjaaldppemlaaDoor.U
end
section
namespace Go.Proofs
open Go.Shelf
def Tryd.lays169_ren : Go.Shelf.Ren := ⟨fun | 169 => 42 | n => n,fun | 70 => 73 | 9 => 9 | 0 => 0 | 72 => 76 | 37 => 74 | 127 => 102 | 3 => 3 | 5 => 5 | n => n,fun | n => n⟩
theorem Tryd.lays169 : Go.Proofs.Lays.n169 Tryd.prog Tryd.lays169_ren := {
 mixed := by kernel_rfl
 f169 := Tryd.func42.trans (congrArg some (by kernel_rfl))
 t0 := Tryd.underlying0
 a0 := Tryd.isAgg0
 z0 := Tryd.sizeOf0
 v0 := Tryd.zeroValue0
 t3 := Tryd.underlying3
 a3 := Tryd.isAgg3
 z3 := Tryd.sizeOf3
 v3 := Tryd.zeroValue3
 t9 := Tryd.underlying9
 a9 := Tryd.isAgg9
 z9 := Tryd.sizeOf9
 v9 := Tryd.zeroValue9
 t37 := Tryd.underlying74
 a37 := Tryd.isAgg74
 z37 := Tryd.sizeOf74
 v37 := Tryd.zeroValue74
 t70 := Tryd.underlying73
 a70 := Tryd.isAgg73
 z70 := Tryd.sizeOf73
 v70 := Tryd.zeroValue73
 t72 := Tryd.underlying76
 a72 := Tryd.isAgg76
 z72 := Tryd.sizeOf76
 v72 := Tryd.zeroValue76
 t127 := Tryd.underlying102
 a127 := Tryd.isAgg102
 z127 := Tryd.sizeOf102
 v127 := Tryd.zeroValue102 }
theorem Tryd.Builder_Extra_169 : Builder.Extra Tryd.prog Tryd.lays169_ren := {
 sizeBuilder := by kernel_rfl
 liesBuilder := by kernel_rfl
 t5 := Tryd.underlying5
 a5 := Tryd.isAgg5
 z5 := Tryd.sizeOf5
 v5 := Tryd.zeroValue5
 infoByte := by kernel_rfl
 cellsByte := by kernel_rfl
 sizeByte := by kernel_rfl
 neB5 := by decide }
open Go.RowKit in
theorem Tryd.Builder_String_any_k (B b : Nat) (l : List UInt8) (w : World) (h : Lib.IsBuilderF 76 5 B b (Lib.byteCells l) w) (hBw : B ≤ w.heap.size) :
  Calls Tryd.prog 42 #[.pointer (some ⟨b,0,none⟩)] w fun e w' => e = .returned (.string ⟨l.toArray⟩) ∧ (Lib.IsBuilderF 76 5 B b (Lib.byteCells l) w' ∧ Below B w w' ∧ Lib.OthersKept 5 (some b) w w') := Any.Builder_String_any_k Tryd.lays169 Tryd.Builder_Extra_169 B b l w h hBw
def Tryd.lays206_ren : Go.Shelf.Ren := ⟨fun | 206 => 87 | n => n,fun | 9 => 9 | 4 => 4 | 3 => 3 | n => n,fun | n => n⟩
theorem Tryd.lays206 : Go.Proofs.Lays.n206 Tryd.prog Tryd.lays206_ren := {
 mixed := by kernel_rfl
 f206 := Tryd.func87.trans (congrArg some (by kernel_rfl))
 t3 := Tryd.underlying3
 a3 := Tryd.isAgg3
 z3 := Tryd.sizeOf3
 v3 := Tryd.zeroValue3
 t4 := Tryd.underlying4
 a4 := Tryd.isAgg4
 z4 := Tryd.sizeOf4
 v4 := Tryd.zeroValue4
 t9 := Tryd.underlying9
 a9 := Tryd.isAgg9
 z9 := Tryd.sizeOf9
 v9 := Tryd.zeroValue9 }
open Go.RowKit Go.Lib in
theorem Tryd.stringslite_HasPrefix (s p : ByteArray) (w : World) :
  Calls Tryd.prog 87 #[.string s,.string p] w fun e w' => e = .returned (.bool (Lib.hasPrefix s.data.toList p.data.toList)) ∧ w' = w := Any.stringslite_HasPrefix Tryd.lays206 s p w
def Tryd.lays99_ren : Go.Shelf.Ren := ⟨fun | 99 => 73 | 206 => 87 | n => n,fun | 9 => 9 | 4 => 4 | 3 => 3 | n => n,fun | n => n⟩
theorem Tryd.lays99 : Go.Proofs.Lays.n99 Tryd.prog Tryd.lays99_ren := {
 mixed := by kernel_rfl
 f99 := Tryd.func73.trans (congrArg some (by kernel_rfl))
 f206 := Tryd.func87.trans (congrArg some (by kernel_rfl))
 t3 := Tryd.underlying3
 a3 := Tryd.isAgg3
 z3 := Tryd.sizeOf3
 v3 := Tryd.zeroValue3
 t4 := Tryd.underlying4
 a4 := Tryd.isAgg4
 z4 := Tryd.sizeOf4
 v4 := Tryd.zeroValue4
 t9 := Tryd.underlying9
 a9 := Tryd.isAgg9
 z9 := Tryd.sizeOf9
 v9 := Tryd.zeroValue9 }
open Go.RowKit Go.Lib in
theorem Tryd.strings_HasPrefix (s p : ByteArray) (w : World) :
  Calls Tryd.prog 73 #[.string s,.string p] w fun e w' => e = .returned (.bool (Lib.hasPrefix s.data.toList p.data.toList)) ∧ w' = w := Any.strings_HasPrefix Tryd.lays99 s p w
def Tryd.lays197_ren : Go.Shelf.Ren := ⟨fun | 197 => 56 | 260 => 74 | n => n,fun | 9 => 9 | 21 => 21 | 3 => 3 | 4 => 4 | 5 => 5 | 105 => 95 | 119 => 121 | 0 => 0 | 46 => 122 | 139 => 125 | 138 => 124 | n => n,fun | 3 => 0 | 4 => 1 | n => n⟩
theorem Tryd.lays197 : Go.Proofs.Lays.n197 Tryd.prog Tryd.lays197_ren := {
 mixed := by kernel_rfl
 f197 := Tryd.func56.trans (congrArg some (by kernel_rfl))
 f260 := Tryd.func74.trans (congrArg some (by kernel_rfl))
 t0 := Tryd.underlying0
 a0 := Tryd.isAgg0
 z0 := Tryd.sizeOf0
 v0 := Tryd.zeroValue0
 t3 := Tryd.underlying3
 a3 := Tryd.isAgg3
 z3 := Tryd.sizeOf3
 v3 := Tryd.zeroValue3
 t4 := Tryd.underlying4
 a4 := Tryd.isAgg4
 z4 := Tryd.sizeOf4
 v4 := Tryd.zeroValue4
 t5 := Tryd.underlying5
 a5 := Tryd.isAgg5
 z5 := Tryd.sizeOf5
 v5 := Tryd.zeroValue5
 t9 := Tryd.underlying9
 a9 := Tryd.isAgg9
 z9 := Tryd.sizeOf9
 v9 := Tryd.zeroValue9
 t21 := Tryd.underlying21
 a21 := Tryd.isAgg21
 z21 := Tryd.sizeOf21
 v21 := Tryd.zeroValue21
 t46 := Tryd.underlying122
 a46 := Tryd.isAgg122
 z46 := Tryd.sizeOf122
 v46 := Tryd.zeroValue122
 t105 := Tryd.underlying95
 a105 := Tryd.isAgg95
 z105 := Tryd.sizeOf95
 v105 := Tryd.zeroValue95
 t119 := Tryd.underlying121
 a119 := Tryd.isAgg121
 z119 := Tryd.sizeOf121
 t138 := Tryd.underlying124
 a138 := Tryd.isAgg124
 z138 := Tryd.sizeOf124
 v138 := Tryd.zeroValue124
 t139 := Tryd.underlying125
 a139 := Tryd.isAgg125
 z139 := Tryd.sizeOf125
 v139 := Tryd.zeroValue125
 g3 := by kernel_rfl
 g4 := by kernel_rfl }
def Tryd.lays260_ren : Go.Shelf.Ren := ⟨fun | 260 => 74 | n => n,fun | 9 => 9 | 21 => 21 | 3 => 3 | 4 => 4 | 5 => 5 | 119 => 121 | 0 => 0 | 46 => 122 | 139 => 125 | 138 => 124 | n => n,fun | 3 => 0 | 4 => 1 | n => n⟩
theorem Tryd.lays260 : Go.Proofs.Lays.n260 Tryd.prog Tryd.lays260_ren := {
 mixed := by kernel_rfl
 f260 := Tryd.func74.trans (congrArg some (by kernel_rfl))
 t0 := Tryd.underlying0
 a0 := Tryd.isAgg0
 z0 := Tryd.sizeOf0
 v0 := Tryd.zeroValue0
 t3 := Tryd.underlying3
 a3 := Tryd.isAgg3
 z3 := Tryd.sizeOf3
 v3 := Tryd.zeroValue3
 t4 := Tryd.underlying4
 a4 := Tryd.isAgg4
 z4 := Tryd.sizeOf4
 v4 := Tryd.zeroValue4
 t5 := Tryd.underlying5
 a5 := Tryd.isAgg5
 z5 := Tryd.sizeOf5
 v5 := Tryd.zeroValue5
 t9 := Tryd.underlying9
 a9 := Tryd.isAgg9
 z9 := Tryd.sizeOf9
 v9 := Tryd.zeroValue9
 t21 := Tryd.underlying21
 a21 := Tryd.isAgg21
 z21 := Tryd.sizeOf21
 v21 := Tryd.zeroValue21
 t46 := Tryd.underlying122
 a46 := Tryd.isAgg122
 z46 := Tryd.sizeOf122
 v46 := Tryd.zeroValue122
 t119 := Tryd.underlying121
 a119 := Tryd.isAgg121
 z119 := Tryd.sizeOf121
 t138 := Tryd.underlying124
 a138 := Tryd.isAgg124
 z138 := Tryd.sizeOf124
 v138 := Tryd.zeroValue124
 t139 := Tryd.underlying125
 a139 := Tryd.isAgg125
 z139 := Tryd.sizeOf125
 v139 := Tryd.zeroValue125
 g3 := by kernel_rfl
 g4 := by kernel_rfl }
open Go.RowKit Go.Lib in
theorem Tryd.utf8_DecodeRuneInString (s : ByteArray) (w : World) (hT : Lib.Utf8Tabs 0 1 w) :
  Calls Tryd.prog 56 #[.string s] w fun e w' => e = .returned (.tuple #[.int .i32 (Lib.decodeGo s).1,.int .i64 (Lib.decodeGo s).2]) ∧ Below w.heap.size w w' := Any.utf8_DecodeRuneInString Tryd.lays197 s w hT
end Go.Proofs
end
section
namespace Go.Proofs.YtnpjaaldppemlaaDoor.U
open Go.RowKit Go.Proofs.YtnpjaaldppemlaaDoorW.PrintWords Go.Proofs.YtnpjaaldppemlaaDoorW.PrintLast Go.Proofs.YtnpjaaldppemlaaDoorW.PrintMore
set_option linter.unusedVariables false
set_option linter.unusedSimpArgs false
theorem block_of_cell {w : World} {p : Addr} {v : Value} (h : w.cell? p = some v) : p.block < w.heap.size := by
 unfold World.cell? at h
 cases hb : w.heap[p.block]? with
 | none => simp [hb] at h
 | some o => exact (Array.getElem?_eq_some_iff.1 hb).1
/-- The tables lie where nothing is turned. -/
theorem tabs_below {w0 w : World} (h : Lib.Utf8Tabs 0 1 w0) (hb : Below w0.heap.size w0 w) : Lib.Utf8Tabs 0 1 w :=
  ⟨fun c hc => (hb.cell (p := ⟨0, c, none⟩) (block_of_cell (h.1 c hc))).trans (h.1 c hc),
   fun i hi => ⟨(hb.cell (p := ⟨1, 2 * i, none⟩) (block_of_cell (h.2 i hi).1)).trans (h.2 i hi).1,
     (hb.cell (p := ⟨1, 2 * i + 1, none⟩) (block_of_cell (h.2 i hi).2)).trans (h.2 i hi).2⟩⟩
def utf8_DecodeRuneInString.f (a0 : ByteArray) : Option (Int × Int) := some (((Lib.decodeGo a0).1 : Int),((Lib.decodeGo a0).2 : Int))
theorem utf8_DecodeRuneInString.calls (a0 : ByteArray) (r1 : Int) (r2 : Int) (w : World) (hT : Lib.Utf8Tabs 0 1 w) (h : utf8_DecodeRuneInString.f a0 = some (r1,r2)) :
  Calls Tryd.prog 56 #[.string a0] w fun e w' => e = .returned (.tuple #[.int .i32 r1,.int .i64 r2]) ∧ Below w.heap.size w w' := by
 unfold utf8_DecodeRuneInString.f at h
 simp only [Option.some.injEq,Prod.mk.injEq] at h
 obtain ⟨rfl,rfl⟩ := h
 exact Tryd.utf8_DecodeRuneInString a0 w hT
def bodkinref01_size.f (a0 : Int) : Option (Int) := if a0 < 128 then (some 1) else (if a0 < 2048 then (some 2) else (if a0 < 65536 then (some 3) else (some 4)))
theorem bodkinref01_size.calls (a0 : Int) (r : Int) (w : World) (h : bodkinref01_size.f a0 = some r) :
  Calls Tryd.prog 68 #[.int .i32 a0] w fun e w' => e = .returned (.int .i64 r) ∧ Below w.heap.size w w' := by
 unfold bodkinref01_size.f at h
 by_cases c1 : a0 < 128
 ·rw [if_pos c1] at h
  obtain rfl := Option.some.inj h
  clear h
  go_enter Tryd.func68,Tryd.ntmps68
  go_wp2
  go_ret
  exact ⟨rfl,Below.refl _ _⟩
 ·rw [if_neg c1] at h
  by_cases c2 : a0 < 2048
  ·rw [if_pos c2] at h
   obtain rfl := Option.some.inj h
   clear h
   go_enter Tryd.func68,Tryd.ntmps68
   go_wp2
   go_ret
   exact ⟨rfl,Below.refl _ _⟩
  ·rw [if_neg c2] at h
   by_cases c3 : a0 < 65536
   ·rw [if_pos c3] at h
    obtain rfl := Option.some.inj h
    clear h
    go_enter Tryd.func68,Tryd.ntmps68
    go_wp2
    go_ret
    exact ⟨rfl,Below.refl _ _⟩
   ·rw [if_neg c3] at h
    obtain rfl := Option.some.inj h
    clear h
    go_enter Tryd.func68,Tryd.ntmps68
    go_wp2
    go_ret
    exact ⟨rfl,Below.refl _ _⟩
end Go.Proofs.YtnpjaaldppemlaaDoor.U
end
