/- UnitEncodes, plainly. -/
import Derived.Test.YtfhnfhgpaoddbaaDoorU11
import Derived.Test.YtfhnfhgpaoddbaaDoorPe
namespace Go.Proofs.YtfhnfhgpaoddbaaDoor.Pure
open Go Go.RowKit Go.Proofs.YtfhnfhgpaoddbaaDoor.Mu Go.Proofs.YtfhnfhgpaoddbaaDoor.Pu Go.Proofs.YtfhnfhgpaoddbaaDoor.U Go.Proofs.YtfhnfhgpaoddbaaDoorW.PrintWords Go.Proofs.YtfhnfhgpaoddbaaDoorW.PrintLast Go.Proofs.YtfhnfhgpaoddbaaDoorW.PrintMore

theorem encodes_loop (L : List Int) (hL : L.length ≤ 1048576) (t : ByteArray) (ht : t = strOfNums (L.flatMap encO)) : ∀ (n i : Nat), i + n = L.length → Ev (fun k => bodkinlaw01_UnitEncodes.l0 k L (L ++ [7, 8]) t (L.length : Int) i) true := by
  have hll : (L ++ [7, 8]).length = L.length + 2 := by simp
  intro n
  induction n with
  | zero =>
    intro i hi
    have e7 : rd (L ++ [7, 8]) (L.length : Int) = 7 := by rw [rd_nat, List.getD_eq_getElem?_getD, List.getElem?_append_right (by omega)]; simp
    have e8 : rd (L ++ [7, 8]) ((L.length + 1 : Nat) : Int) = 8 := by rw [rd_nat, List.getD_eq_getElem?_getD, List.getElem?_append_right (by omega)]; simp
    refine Ev.step (fun k => bodkinlaw01_UnitEncodes.l0.eq_2 ..) (ev_neg (by omega) (ev_pos (by omega) (ev_pos (by omega) (ev_pos e7 ?_))))
    rw [w64 (by omega) (by omega)]
    refine ev_pos (by omega) (ev_pos (by omega) (ev_pos e8 (Ev.bind (ref_encode_ans L (by omega)) (ev_pos (by rw [ht]) (Ev.bind (encode_ans [] (by simp)) (ev_now ?_))))))
    rw [Lib.strOfNums_toList]; rfl
  | succ n ih =>
    intro i hi
    refine Ev.step (fun k => bodkinlaw01_UnitEncodes.l0.eq_2 ..) (ev_pos (by omega) (ev_pos (by omega) (ev_pos (by omega) (ev_pos (by omega) (ev_pos ?_ ?_)))))
    · rw [rd_nat, rd_nat, List.getD_eq_getElem?_getD, List.getD_eq_getElem?_getD, List.getElem?_append_left (by omega)]
    · rw [w64 (by omega) (by omega)]
      exact ih (i + 1) (by omega)

theorem UnitEncodes (l0 : List Int) (u : l0.length ≤ 1048576) (_hw : ∀ x ∈ l0, (Lit.int .i32 x).wf = true) : ∃ k, bodkinlaw01_UnitEncodes.f k l0 = some true := by
  have hll : (l0 ++ [7, 8]).length = l0.length + 2 := by simp
  apply Ev.rounds
  unfold bodkinlaw01_UnitEncodes.f
  refine ev_some rfl (ev_pos rfl (Ev.bind (encode_ans _ (by simp)) ?_))
  have e : ((strOfNums (([97, 128512] : List Int).flatMap encO)).toList != ([97, 240, 159, 152, 128] : List UInt8)) = false := by
    rw [Lib.strOfNums_toList]; rfl
  rw [e]
  refine Ev.step (fun k => bodkinlaw01_UnitEncodes.j0.eq_2 ..) (ev_neg (by simp) (ev_some rfl (ev_pos (by simp; omega) (ev_some rfl (ev_some rfl (ev_pos (by simp; omega) (ev_some rfl (ev_pos (by omega) (ev_pos (by simp; omega) ?_)))))))))
  rw [List.nil_append, Int.toNat_natCast, List.take_left' rfl]
  exact Ev.bind (encode_ans l0 (by omega)) (encodes_loop l0 u _ rfl l0.length 0 (by omega))
end Go.Proofs.YtfhnfhgpaoddbaaDoor.Pure
