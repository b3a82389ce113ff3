/- What the law ClusterShows reaches of this seat's own texts, merged; what nothing uses is left out. -/
import Derived.Test.YtfhnfhgpaoddbaaDoorProg
import Derived.Below
import Derived.Deep.Draws
import Derived.Deep.AppendLies
import Derived.Maps.AppendAt
import Derived.OwnWalk
import Derived.Laws.BytesArg
import Derived.Laws.MakeOwn
import Derived.Laws.OwnMore
import Derived.Deep.OwnRows
import Derived.Tactics
import Derived.Lib.ConvBytes
import Derived.Laws.Slices
import Derived.WalkKit
import Derived.KernelRfl
import Derived.RowKit3
import Derived.Deep.LoopGhost
import Derived.Deep.QuietTactic
import Derived.BigQuiet
import Derived.WideLaws
import Derived.Deep.DeepCutAuto
import Derived.Deep.CutBlock
import Derived.Deep.RegionHeld3
import Derived.Laws.Rows
import Derived.Lib.AppendStr
import Derived.ArgAppend
import Derived.Laws.IdiomCopy
import Derived.OrdersHeld
import Derived.Laws.BitsLemmas
import Derived.RowKit
import Derived.Shelf.Strings.Builder1
import Derived.Shelf.Small.Utf8
import Derived.Shelf.Strings.BuilderF
import Derived.Shelf.Strings.BuilderK
import Derived.Shelf.Utf8.AppendRunePlain
import Derived.Shelf.Utf8.RuneCount
import Derived.Shelf.Strings.Prefix
import Derived.Shelf.Unicode.Decode
import Derived.Shelf.Strings.RuneCount
import Derived.Shelf.Unicode.DecodeSlow
import Derived.Shelf.Unicode.DecodeAny
import Derived.Shelf.Strings.BuilderCap
import Derived.Lib.LaidU8
import Derived.RangeFuncNested
import Derived.RangeFuncBound
import Derived.RangeFuncCalls
import Derived.RangeFuncLeaves
import Derived.Lib.DecodeN
import Derived.Lib.MapLaws
import Derived.Laws.DeepStrings4
import Derived.Shelf.Unicode.DecodeLastEight
import Derived.Shelf.Abstract
import Derived.Shelf.RegionOpen
import Derived.OwnWalkIn
import Derived.TacticsInMore
import Derived.LoopNIn
import Derived.LoopIn
import Derived.Lib.Hide
import Derived.Sort.BigQuietIn
import Derived.Sort.CutIn
import Derived.Lib.Builder
import Derived.Lib.FrozenHead
import Derived.Ground.NamesProg
import Derived.Shelf.Lay
import Derived.Shelf.Unicode.ValidAny
import Derived.Test.YtfhnfhgpaoddbaaDoorRows
import Derived.ProofKit
import Derived.Deep.DeepHandedRow
import Derived.LaidMore
import Derived.Lay
import Derived.Test.YtfhnfhgpaoddbaaDoorWWords
import Derived.Test.YtfhnfhgpaoddbaaDoorWLast
import Derived.Test.YtfhnfhgpaoddbaaDoorWTab
import Derived.Test.YtfhnfhgpaoddbaaDoorWQPut
import Derived.Test.YtfhnfhgpaoddbaaDoorWApart
import Derived.Test.YtfhnfhgpaoddbaaDoorWArr
import Derived.Test.YtfhnfhgpaoddbaaDoorWZeros
import Derived.Test.YtfhnfhgpaoddbaaDoorWFoot
import Derived.Test.YtfhnfhgpaoddbaaDoorWKept
import Derived.Test.YtfhnfhgpaoddbaaDoorWShare
import Derived.Test.YtfhnfhgpaoddbaaDoorWN
import Derived.Test.YtfhnfhgpaoddbaaDoorWEqStruct
import Derived.Test.YtfhnfhgpaoddbaaDoorWRepsOne
import Derived.Test.YtfhnfhgpaoddbaaDoorWInv
import Derived.Test.YtfhnfhgpaoddbaaDoorWGuard
import Derived.Test.YtfhnfhgpaoddbaaDoorWNEv
import Derived.Test.YtfhnfhgpaoddbaaDoorWMore
import Derived.Test.YtfhnfhgpaoddbaaDoorZClusterShows0
import Derived.Test.YtfhnfhgpaoddbaaDoorZClusterShows1
import Derived.Test.YtfhnfhgpaoddbaaDoorZClusterShows2
section
namespace Go.Proofs.YtfhnfhgpaoddbaaDoor.Pu
open Go Go.RowKit Go.Proofs.YtfhnfhgpaoddbaaDoor.Mu Go.Proofs.YtfhnfhgpaoddbaaDoor.U Go.Proofs.YtfhnfhgpaoddbaaDoorW.PrintWords Go.Proofs.YtfhnfhgpaoddbaaDoorW.PrintLast Go.Proofs.YtfhnfhgpaoddbaaDoorW.PrintMore
section
variable (a b : ByteArray)
theorem size_two : (a ++ b).size = a.size + b.size := ByteArray.size_append
theorem right_dec (y : Nat) : Utf8.decode (a ++ b) (a.size + y) = Utf8.decode b y := by
 rw [dec_eq,dec_eq,size_two,show a.size + b.size - (a.size + y) = b.size - y by omega,byt_append_right,show a.size + y + 1 = a.size + (y + 1) by omega,show a.size + y + 2 = a.size + (y + 2) by omega,show a.size + y + 3 = a.size + (y + 3) by omega,byt_append_right,byt_append_right,byt_append_right]
theorem right_uN (y : Nat) : uN (a ++ b) (a.size + y) = uN b y := by unfold uN;rw [right_dec]
theorem bad_or (s : ByteArray) (x : Nat) : (2 ≤ uN s x ∧ 0 ≤ uC s x ∧ 192 ≤ byt s x) ∨ (uN s x = 1 ∧ uC s x = byt s x ∧ byt s x < 128) ∨ (uN s x = 1 ∧ uC s x = -1 ∧ 128 ≤ byt s x) := by
 rcases uC_cases s x with h | h | h | h | h <;> omega
theorem left_unit (x : Nat) (hx : x < a.size) (h : x + uN (a ++ b) x ≤ a.size) : uC a x = uC (a ++ b) x ∧ uN a x = uN (a ++ b) x := by
 have hs := size_two a b
 have hb : ∀ i,i < a.size → byt (a ++ b) i = byt a i := fun i hi => byt_append_left a b i hi
 by_cases h2 : 2 ≤ uN (a ++ b) x
 ·have e := dec_prefix (a ++ b) a x x h2 (fun k hk => (hb (x + k) (by omega)).symm) (by omega)
  unfold uC uN;rw [e];exact ⟨rfl,rfl⟩
 ·by_cases h3 : 2 ≤ uN a x
  ·have hle := uN_le a x hx
   have e := dec_prefix a (a ++ b) x x h3 (fun k hk => hb (x + k) (by omega)) (by omega)
   unfold uC uN;rw [e];exact ⟨rfl,rfl⟩
  ·have e0 := hb x hx
   have h4 := bad_or a x
   have h5 := bad_or (a ++ b) x
   rw [e0] at h5
   generalize uN a x = p at *
   generalize uC a x = q at *
   generalize uN (a ++ b) x = p' at *
   generalize uC (a ++ b) x = q' at *
   omega
theorem left_over (x : Nat) (hx : x < a.size) (h : a.size < x + uN (a ++ b) x) : uN a x = 1 := by
 have hs := size_two a b
 rcases bad_or a x with h1 | h1 | h1
 ·exfalso
  have hle := uN_le a x hx
  have e := dec_prefix a (a ++ b) x x h1.1 (fun k hk => byt_append_left a b (x + k) (by omega)) (by omega)
  have : uN (a ++ b) x = uN a x := by unfold uN;rw [e]
  omega
 ·exact h1.1
 ·exact h1.1
end
end Go.Proofs.YtfhnfhgpaoddbaaDoor.Pu
end
section
namespace Go.Proofs.YtfhnfhgpaoddbaaDoor.Pu
open Go Go.RowKit Go.Proofs.YtfhnfhgpaoddbaaDoor.Mu Go.Proofs.YtfhnfhgpaoddbaaDoor.U Go.Proofs.YtfhnfhgpaoddbaaDoorW.PrintWords Go.Proofs.YtfhnfhgpaoddbaaDoorW.PrintLast Go.Proofs.YtfhnfhgpaoddbaaDoorW.PrintMore
set_option linter.unusedVariables false
def glueB (u v : Int) : Bool := decide (u = 13 ∧ v = 10) || (decide (cls v = 3) && (!decide (cls u = 1) && !decide (cls u = 2)))
theorem cls_nl : cls 10 = 1 := by unfold cls;rw [if_neg (by omega),if_pos rfl]
theorem cls_cr : cls 13 = 2 := by unfold cls;rw [if_neg (by omega),if_neg (by omega),if_pos (by omega)]
theorem glue_iff (u v : Int) : glueB u v = true ↔ (u = 13 ∧ v = 10) ∨ (cls v = 3 ∧ cls u ≠ 1 ∧ cls u ≠ 2) := by
 unfold glueB;simp
theorem glue_nl (u : Int) : glueB u 10 = true ↔ u = 13 := by
 rw [glue_iff,cls_nl];omega
def CB (s : ByteArray) (x : Nat) : Prop := Bd s x ∧ ∀ y,Bd s y → x = y + uN s y → x < s.size → glueB (uC s y) (uC s x) = false
theorem cb_zero (s : ByteArray) : CB s 0 := ⟨bd_zero s,fun y _ h _ => by have := uN_pos s y;omega⟩
theorem cb_size (s : ByteArray) : CB s s.size := ⟨bd_size s,fun y _ _ h => by omega⟩
theorem bd_prev (s : ByteArray) (x : Nat) (h : Bd s x) (hx : 0 < x) : ∃ y,Bd s y ∧ y + uN s y = x := by
 have h1 := h.1
 by_cases hb : Bd s (x - 1)
 ·refine ⟨x - 1,hb,?_⟩
  have := uN_pos s (x - 1)
  have := h.2 (x - 1) (by omega)
  omega
 ·obtain ⟨j,hj,hj2,hjb,_⟩ := within s (x - 1) (by omega) hb
  refine ⟨j,hjb,?_⟩
  have := h.2 j (by omega)
  omega
theorem bd_prev_one (s : ByteArray) (x y z : Nat) (hy : Bd s y) (hz : Bd s z) (h : y + uN s y = x) (h' : z + uN s z = x) : y = z := by
 have := uN_pos s y;have := uN_pos s z
 rcases Nat.lt_trichotomy y z with h1 | h1 | h1
 ·have := hz.2 y h1;omega
 ·exact h1
 ·have := hy.2 z h1;omega
theorem cb_iff (s : ByteArray) (x y : Nat) (hy : Bd s y) (hx : y + uN s y = x) (h : x < s.size) : CB s x ↔ glueB (uC s y) (uC s x) = false := by
 constructor
 ·intro hc;exact hc.2 y hy hx.symm h
 ·intro hg
  refine ⟨hx ▸ bd_next s y hy (by have := uN_pos s y;omega),fun z hz hzx _ => ?_⟩
  rw [← bd_prev_one s x y z hy hz hx hzx.symm];exact hg
def CBI (s : ByteArray) (a : Int) : Prop := 0 ≤ a ∧ CB s a.toNat
noncomputable def cbB (s : ByteArray) (a : Int) : Bool := @decide (CBI s a) (Classical.propDecidable _)
theorem cbB_iff (s : ByteArray) (a : Int) : cbB s a = true ↔ CBI s a := by unfold cbB;simp
theorem cbI_nat (s : ByteArray) (i : Nat) : CBI s i ↔ CB s i := by unfold CBI;simp
theorem CBI.bd {s : ByteArray} {a : Int} (h : CBI s a) : BdI s a := ⟨h.1,h.2.1⟩
theorem cbI_le {s : ByteArray} {a : Int} (h : CBI s a) : 0 ≤ a ∧ a ≤ s.size := bdI_le h.bd
theorem cbI_zero (s : ByteArray) : CBI s 0 := (cbI_nat s 0).2 (cb_zero s)
theorem cbI_size (s : ByteArray) : CBI s s.size := (cbI_nat s s.size).2 (cb_size s)
def CNextS (s : ByteArray) (a d : Int) : Prop := CBI s d ∧ (a < d ∨ d = s.size) ∧ ∀ e,CBI s e → a < e → d ≤ e
def CPrevS (s : ByteArray) (a d : Int) : Prop := CBI s d ∧ (d < a ∨ d = 0) ∧ ∀ e,CBI s e → e < a → e ≤ d
def CSnapS (s : ByteArray) (a d : Int) : Prop := CBI s d ∧ (a ≤ d ∨ d = s.size) ∧ ∀ e,CBI s e → a ≤ e → d ≤ e
theorem CPrevS.one {s : ByteArray} {a d d' : Int} (h : CPrevS s a d) (h' : CPrevS s a d') : d = d' := by
 have := cbI_le h.1;have := cbI_le h'.1
 rcases h.2.1 with h1 | h1 <;> rcases h'.2.1 with h2 | h2
 ·have := h.2.2 d' h'.1 h2;have := h'.2.2 d h.1 h1;omega
 ·have := h'.2.2 d h.1 h1;omega
 ·have := h.2.2 d' h'.1 h2;omega
 ·omega
theorem CSnapS.one {s : ByteArray} {a d d' : Int} (h : CSnapS s a d) (h' : CSnapS s a d') : d = d' := by
 have := cbI_le h.1;have := cbI_le h'.1
 rcases h.2.1 with h1 | h1 <;> rcases h'.2.1 with h2 | h2
 ·have := h.2.2 d' h'.1 h2;have := h'.2.2 d h.1 h1;omega
 ·have := h'.2.2 d h.1 h1;omega
 ·have := h.2.2 d' h'.1 h2;omega
 ·omega
theorem CNextS.one {s : ByteArray} {a d d' : Int} (h : CNextS s a d) (h' : CNextS s a d') : d = d' := by
 have := cbI_le h.1;have := cbI_le h'.1
 rcases h.2.1 with h1 | h1 <;> rcases h'.2.1 with h2 | h2
 ·have := h.2.2 d' h'.1 h2;have := h'.2.2 d h.1 h1;omega
 ·have := h'.2.2 d h.1 h1;omega
 ·have := h.2.2 d' h'.1 h2;omega
 ·omega
def nxtN (s : ByteArray) : Nat → Nat → Nat
 | 0,x => x
 | k + 1,x => if x + uN s x < s.size ∧ glueB (uC s x) (uC s (x + uN s x)) = true then nxtN s k (x + uN s x) else x + uN s x
theorem nxtN_fuel (s : ByteArray) : ∀ f g x : Nat,x < s.size → s.size - x ≤ f → s.size - x ≤ g → nxtN s f x = nxtN s g x
 | 0,_,_,hx,h,_ => by omega
 | _ + 1,0,_,hx,_,h => by omega
 | f + 1,g + 1,x,hx,h,h' => by
  have := uN_pos s x
  rw [nxtN,nxtN]
  split
  ·rename_i hc
   exact nxtN_fuel s f g _ hc.1 (by omega) (by omega)
  ·rfl
def nxt (s : ByteArray) (x : Nat) : Nat := nxtN s s.size x
theorem nxt_eq (s : ByteArray) (x : Nat) (hx : x < s.size) : nxt s x = if x + uN s x < s.size ∧ glueB (uC s x) (uC s (x + uN s x)) = true then nxt s (x + uN s x) else x + uN s x := by
 have := uN_pos s x
 unfold nxt
 obtain ⟨n,hn⟩ : ∃ n,s.size = n + 1 := ⟨s.size - 1,by omega⟩
 rw [nxtN_fuel s s.size (n + 1) x hx (by omega) (by omega),nxtN]
 split
 ·rename_i hc;exact nxtN_fuel s n s.size _ hc.1 (by omega) (by omega)
 ·rfl
theorem nxt_glue (s : ByteArray) (x : Nat) (hx : x + uN s x < s.size) (h : glueB (uC s x) (uC s (x + uN s x)) = true) : nxt s x = nxt s (x + uN s x) := by
 rw [nxt_eq s x (by omega),if_pos ⟨hx,h⟩]
theorem nxt_cut (s : ByteArray) (x : Nat) (hx : x < s.size) (h : x + uN s x < s.size → glueB (uC s x) (uC s (x + uN s x)) = false) : nxt s x = x + uN s x := by
 rw [nxt_eq s x hx,if_neg]
 rintro ⟨h1,h2⟩
 rw [h h1] at h2;cases h2
/-- The end of a cluster is the next boundary. -/
theorem nxt_spec (s : ByteArray) : ∀ n x : Nat,s.size - x ≤ n → Bd s x → x < s.size → CB s (nxt s x) ∧ x + uN s x ≤ nxt s x ∧ ∀ e,CB s e → x < e → nxt s x ≤ e := by
 intro n
 induction n with
 | zero => intro x h _ hx;omega
 | succ n ih =>
  intro x hn hb hx
  have h1 := uN_pos s x
  have hb' := bd_next s x hb hx
  have hle := hb'.1
  have hno : ∀ e,CB s e → x < e → x + uN s x ≤ e := fun e he hxe => he.1.2 x hxe
  by_cases hc : x + uN s x < s.size ∧ glueB (uC s x) (uC s (x + uN s x)) = true
  ·rw [nxt_glue s x hc.1 hc.2]
   obtain ⟨g1,g2,g3⟩ := ih (x + uN s x) (by omega) hb' hc.1
   refine ⟨g1,by omega,fun e he hxe => ?_⟩
   have h3 := hno e he hxe
   rcases Nat.lt_or_ge (x + uN s x) e with h4 | h4
   ·exact g3 e he h4
   ·obtain rfl : e = x + uN s x := by omega
    rw [(cb_iff s _ x hb rfl hc.1).1 he] at hc
    exact absurd hc.2 (by simp)
  ·have hg : x + uN s x < s.size → glueB (uC s x) (uC s (x + uN s x)) = false := fun h => by
    cases h2 : glueB (uC s x) (uC s (x + uN s x)) with
    | false => rfl
    | true => exact absurd ⟨h,h2⟩ hc
   rw [nxt_cut s x hx hg]
   refine ⟨?_,Nat.le_refl _,hno⟩
   rcases Nat.lt_or_ge (x + uN s x) s.size with h4 | h4
   ·exact (cb_iff s _ x hb rfl h4).2 (hg h4)
   ·rw [show x + uN s x = s.size by omega];exact cb_size s
theorem nxt_cb (s : ByteArray) (x : Nat) (hb : Bd s x) (hx : x < s.size) : CB s (nxt s x) := (nxt_spec s _ x (Nat.le_refl _) hb hx).1
theorem nxt_least (s : ByteArray) (x : Nat) (hb : Bd s x) (hx : x < s.size) (e : Nat) (he : CB s e) (h : x < e) : nxt s x ≤ e := (nxt_spec s _ x (Nat.le_refl _) hb hx).2.2 e he h
theorem nxt_le (s : ByteArray) (x : Nat) (hb : Bd s x) (hx : x < s.size) : nxt s x ≤ s.size := (nxt_cb s x hb hx).1.1
theorem nxtS (s : ByteArray) (x : Nat) (hb : Bd s x) (hx : x < s.size) (a : Int) (h1 : (x : Int) ≤ a) (h2 : a < nxt s x) : CNextS s a (nxt s x) := by
 refine ⟨(cbI_nat _ _).2 (nxt_cb s x hb hx),.inl h2,fun e he hae => ?_⟩
 have := cbI_le he
 have := nxt_least s x hb hx e.toNat he.2 (by omega)
 omega
def celB (c : Int) : Int := if cls c = 1 then 0 else if cls c = 4 ∨ (cls c = 2 ∧ c ≤ 127) then 2 else 1
/-- Is it a carriage return with a newline behind it? -/
def crlf (s : ByteArray) (x : Nat) : Prop := uC s x = 13 ∧ x + uN s x < s.size ∧ uC s (x + uN s x) = 10
instance (s : ByteArray) (x : Nat) : Decidable (crlf s x) := by unfold crlf;exact inferInstance
def clsAt (s : ByteArray) (x : Nat) : Int := if crlf s x then 1 else cls (uC s x)
def celAt (s : ByteArray) (x : Nat) : Int := if crlf s x then 0 else celB (uC s x)
def clAt (s : ByteArray) (x : Nat) : S53 := ⟨(x : Int),(nxt s x : Int),clsAt s x,celAt s x⟩
def cluL (s : ByteArray) : Nat → Nat → List S53
 | 0,_ => []
 | k + 1,x => if x < s.size then clAt s x :: cluL s k (nxt s x) else []
def clusL (s : ByteArray) : List S53 := cluL s s.size 0
theorem nxt_up (s : ByteArray) : ∀ n x : Nat,s.size - x ≤ n → x < s.size → x + 1 ≤ nxt s x := by
 intro n
 induction n with
 | zero => intro x h hx;omega
 | succ n ih =>
  intro x hn hx
  have h1 := uN_pos s x
  rw [nxt_eq s x hx]
  split
  ·rename_i hc;have := ih (x + uN s x) (by omega) hc.1;omega
  ·omega
theorem nxt_pos (s : ByteArray) (x : Nat) (hx : x < s.size) : x + 1 ≤ nxt s x := nxt_up s _ x (Nat.le_refl _) hx
theorem cluL_fuel (s : ByteArray) : ∀ f g x : Nat,s.size - x ≤ f → s.size - x ≤ g → cluL s f x = cluL s g x
 | 0,0,_,_,_ => rfl
 | 0,g + 1,x,h,_ => by rw [cluL,cluL,if_neg (by omega)]
 | f + 1,0,x,_,h => by rw [cluL,cluL,if_neg (by omega)]
 | f + 1,g + 1,x,h,h' => by
  rw [cluL,cluL]
  split
  ·rename_i hx
   have := nxt_pos s x hx
   rw [cluL_fuel s f g (nxt s x) (by omega) (by omega)]
  ·rfl
def ctl (s : ByteArray) (x : Nat) : List S53 := cluL s s.size x
theorem clusL_ctl (s : ByteArray) : clusL s = ctl s 0 := rfl
theorem ctl_end (s : ByteArray) (x : Nat) (h : s.size ≤ x) : ctl s x = [] := by
 unfold ctl;rw [cluL_fuel s s.size 0 x (by omega) (by omega)];rfl
theorem ctl_go (s : ByteArray) (x : Nat) (h : x < s.size) : ctl s x = clAt s x :: ctl s (nxt s x) := by
 have := nxt_pos s x h
 unfold ctl
 obtain ⟨n,hn⟩ : ∃ n,s.size = n + 1 := ⟨s.size - 1,by omega⟩
 rw [cluL_fuel s s.size (n + 1) x (by omega) (by omega),cluL,if_pos h,cluL_fuel s n s.size (nxt s x) (by omega) (by omega)]
theorem cluL_length (s : ByteArray) : ∀ k i,(cluL s k i).length ≤ k
 | 0,_ => by simp [cluL]
 | k + 1,i => by
  unfold cluL
  split
  ·have := cluL_length s k (nxt s i);simp;omega
  ·simp
theorem clusL_length (s : ByteArray) : (clusL s).length ≤ s.size := cluL_length s s.size 0
end Go.Proofs.YtfhnfhgpaoddbaaDoor.Pu
end
section
namespace Go.Proofs.YtfhnfhgpaoddbaaDoor.Pu
open Go Go.RowKit Go.Proofs.YtfhnfhgpaoddbaaDoor.Mu Go.Proofs.YtfhnfhgpaoddbaaDoor.U Go.Proofs.YtfhnfhgpaoddbaaDoorW.PrintWords Go.Proofs.YtfhnfhgpaoddbaaDoorW.PrintLast Go.Proofs.YtfhnfhgpaoddbaaDoorW.PrintMore
set_option linter.unusedVariables false
theorem glued_j0 (u v : Int) (b : Bool) : Ev (fun k => cluster_glued.j0 k u v b) (if b = true then true else (decide (cls v = 3) && (!decide (cls u = 1) && !decide (cls u = 2)))) := by
 refine Ev.step (fun k => cluster_glued.j0.eq_2 ..) (ev_val (fun hb => ev_pos hb (Ev.now _)) (fun hb => ev_neg hb ?_))
 refine Ev.bind (class_ans u) (Ev.bind (class_ans v) ?_)
 by_cases h3 : cls v = 3
 ·refine ev_pos h3 ?_
  by_cases h1 : cls u = 1
  ·exact ev_pos h1 (ev_now (by simp [h1]))
  ·exact ev_neg h1 (ev_now (by by_cases h2 : cls u = 2 <;> simp [h1,h2,h3]))
 ·exact ev_neg h3 (ev_now (by simp [h3]))
theorem glued_ans (u v : Int) : Ev (fun k => cluster_glued.f k u v) (glueB u v) := by
 unfold cluster_glued.f
 by_cases h : u = 13
 ·refine ev_pos h ?_
  have := glued_j0 u v (v == 10)
  have e : glueB u v = (if (v == 10) = true then true else (decide (cls v = 3) && (!decide (cls u = 1) && !decide (cls u = 2)))) := by
   unfold glueB
   by_cases hv : v = 10 <;> simp [h,hv]
  rw [e];exact this
 ·refine ev_neg h ?_
  have := glued_j0 u v false
  have e : glueB u v = (if false = true then true else (decide (cls v = 3) && (!decide (cls u = 1) && !decide (cls u = 2)))) := by
   unfold glueB
   simp [h]
  rw [e];exact this
theorem atA_nat {s : ByteArray} {x : Nat} (hb : Bd s x) (hx : x < s.size) : atA s x = (uC s x,(uN s x : Int),true) := by
 unfold atA
 rw [if_pos ⟨(bdB_iff s x).2 ((bdI_nat s x).2 hb),by omega⟩,Int.toNat_natCast]
theorem prevS_of {s : ByteArray} {x y : Nat} (hy : Bd s y) (h : y + uN s y = x) : PrevS s x y := by
 have := uN_pos s y
 exact prevS_in hy (by omega) (by omega)
theorem cboundary_j0 (s : ByteArray) (hs : s.size ≤ 1099511627776) (a : Int) (b : Bool) (hb : b = true ↔ (a ≤ 0 ∨ (s.size : Int) ≤ a)) : Ev (fun k => cluster_Boundary.j0 k s a b) (cbB s a) := by
 have hc := cbB_iff s a
 refine Ev.step (fun k => cluster_Boundary.j0.eq_2 ..) ?_
 by_cases h : b = true
 ·refine ev_pos h ?_
  have h1 := hb.1 h
  by_cases h0 : a = 0
  ·refine ev_pos h0 (ev_now ?_)
   subst h0
   exact (hc.2 (cbI_zero s)).symm
  ·refine ev_neg h0 (ev_now ?_)
   rw [Bool.eq_iff_iff,hc,beq_iff_eq]
   constructor
   ·intro e;rw [e];exact cbI_size s
   ·intro hC;have := cbI_le hC;omega
 ·have h1 : ¬ (a ≤ 0 ∨ (s.size : Int) ≤ a) := fun h2 => h (hb.2 h2)
  refine ev_neg h (Ev.bind (boundary_ans s hs a) ?_)
  by_cases hB : bdB s a = true
  ·refine ev_pos hB ?_
   obtain ⟨x,rfl⟩ : ∃ x : Nat,a = x := ⟨a.toNat,by omega⟩
   have hbx : Bd s x := (bdI_nat s x).1 ((bdB_iff s x).1 hB)
   obtain ⟨y,hy,hyx⟩ := bd_prev s x hbx (by omega)
   have hp := uN_pos s y
   refine Ev.bind (prev_ev hs (by omega) (prevS_of hy hyx)) (Ev.bind (at_ans s hs y) (Ev.bind (at_ans s hs x) ?_))
   rw [atA_nat hy (by omega),atA_nat hbx (by omega)]
   refine Ev.bind (glued_ans (uC s y) (uC s x)) (ev_now ?_)
   rw [Bool.eq_iff_iff,hc,cbI_nat,cb_iff s x y hy hyx (by omega)]
   cases glueB (uC s y) (uC s x) <;> simp
  ·refine ev_neg hB (ev_now ?_)
   symm
   rw [← Bool.not_eq_true,hc]
   exact fun h2 => hB ((bdB_iff s a).2 h2.bd)
theorem cboundary_ans (s : ByteArray) (hs : s.size ≤ 1099511627776) (a : Int) : Ev (fun k => cluster_Boundary.f k s a) (cbB s a) := by
 unfold cluster_Boundary.f
 by_cases h : a ≤ 0
 ·exact ev_pos h (cboundary_j0 s hs a _ ⟨fun _ => .inl h,fun _ => rfl⟩)
 ·exact ev_neg h (cboundary_j0 s hs a _ (by rw [decide_eq_true_eq];omega))
theorem cboundary_yes {s : ByteArray} (hs : s.size ≤ 1099511627776) {a : Int} (h : CBI s a) : Ev (fun k => cluster_Boundary.f k s a) true := (cbB_iff s a).2 h ▸ cboundary_ans s hs a
theorem cboundary_no {s : ByteArray} (hs : s.size ≤ 1099511627776) {a : Int} (h : ¬ CBI s a) : Ev (fun k => cluster_Boundary.f k s a) false := by
 have : cbB s a = false := by rw [← Bool.not_eq_true,cbB_iff];exact h
 exact this ▸ cboundary_ans s hs a
theorem cnext_loop (s : ByteArray) (hs : s.size ≤ 1099511627776) : ∀ (n : Nat) (a : Int),(s.size : Int) - a ≤ n → 0 ≤ a → ∃ d,Ev (fun k => cluster_Next.l0 k s a) d ∧ CNextS s a d := by
 have hend : ∀ a : Int,(s.size : Int) ≤ a → ∃ d,Ev (fun k => cluster_Next.l0 k s a) d ∧ CNextS s a d := fun a h =>
  ⟨s.size,Ev.step (fun k => cluster_Next.l0.eq_2 ..) (ev_neg (by omega) (Ev.now _)),cbI_size s,.inr rfl,fun e he hae => by have := cbI_le he;omega⟩
 intro n
 induction n with
 | zero => intro a hn h0;exact hend a (by omega)
 | succ n ih =>
  intro a hn h0
  by_cases ha : a < (s.size : Int)
  ·obtain ⟨d,hE,hD⟩ := next_ans s hs a
   have hd := bdI_le hD.1
   have hda : a < d := by rcases hD.2.1 with h | h <;> omega
   by_cases hc : CBI s d
   ·refine ⟨d,Ev.step (fun k => cluster_Next.l0.eq_2 ..) (ev_pos ha (Ev.bind hE (Ev.bind (cboundary_yes hs hc) (ev_pos rfl (Ev.now _))))),hc,.inl hda,fun e he hae => hD.2.2 e he.bd hae⟩
   ·obtain ⟨d',hE',hD'⟩ := ih d (by omega) (by omega)
    refine ⟨d',Ev.step (fun k => cluster_Next.l0.eq_2 ..) (ev_pos ha (Ev.bind hE (Ev.bind (cboundary_no hs hc) (ev_neg (by simp) hE')))),hD'.1,?_,fun e he hae => ?_⟩
    ·rcases hD'.2.1 with h | h
     ·exact .inl (by omega)
     ·exact .inr h
    ·have h1 := hD.2.2 e he.bd hae
     refine hD'.2.2 e he ?_
     by_cases h2 : e = d
     ·subst h2;exact absurd he hc
     ·omega
  ·exact hend a (by omega)
theorem cnext_ans (s : ByteArray) (hs : s.size ≤ 1099511627776) (a : Int) : ∃ d,Ev (fun k => cluster_Next.f k s a) d ∧ CNextS s a d := by
 unfold cluster_Next.f
 by_cases h : a < 0
 ·exact ⟨0,ev_pos h (Ev.now _),cbI_zero s,.inl h,fun e he _ => (cbI_le he).1⟩
 ·obtain ⟨d,hE,hD⟩ := cnext_loop s hs s.size a (by omega) (by omega)
  exact ⟨d,ev_neg h hE,hD⟩
theorem cnext_ev {s : ByteArray} (hs : s.size ≤ 1099511627776) {a d : Int} (h : CNextS s a d) : Ev (fun k => cluster_Next.f k s a) d := by
 obtain ⟨d',hE,h'⟩ := cnext_ans s hs a;exact h.one h' ▸ hE
theorem cells_ans (c : Int) : Ev (fun k => width_Cells.f k c) (celB c) := by
 have hC : celB c = if cls c = 1 then 0 else if cls c = 4 ∨ (cls c = 2 ∧ c ≤ 127) then 2 else 1 := rfl
 unfold width_Cells.f
 refine Ev.bind (class_ans c) ?_
 by_cases h1 : cls c = 1
 ·exact ev_pos h1 (ev_now (by rw [hC,if_pos h1]))
 ·refine ev_neg h1 ?_
  by_cases h4 : cls c = 4
  ·exact ev_pos h4 (ev_now (by rw [hC,if_neg h1,if_pos (.inl h4)]))
  ·refine ev_neg h4 ?_
   by_cases h2 : cls c = 2
   ·refine ev_pos h2 ?_
    by_cases h5 : c ≤ 127
    ·exact ev_pos h5 (ev_now (by rw [hC,if_neg h1,if_pos (.inr ⟨h2,h5⟩)]))
    ·exact ev_neg h5 (ev_now (by rw [hC,if_neg h1,if_neg (by omega)]))
   ·exact ev_neg h2 (ev_now (by rw [hC,if_neg h1,if_neg (by omega)]))
theorem toList_bytes (s : ByteArray) : s.toList = s.data.toList := Lib.toList_data s
theorem uC_low (s : ByteArray) (x : Nat) (c : Nat) (hc : c < 128) : uC s x = c ↔ byt s x = c := by
 rcases uC_cases s x with h | h | h | h | h <;> omega
theorem uN_low (s : ByteArray) (x : Nat) (c : Nat) (hc : c < 128) (h : uC s x = c) : uN s x = 1 := by
 rcases uC_cases s x with h | h | h | h | h <;> omega
theorem prefix_nl (s : ByteArray) (x : Nat) (hx : x < s.size) : strings_HasPrefix.f (s.extract (x + 1) s.size) (⟨#[10]⟩ : ByteArray) = some (decide (x + 1 < s.size ∧ byt s (x + 1) = 10)) := by
 have hsz : (s.extract (x + 1) s.size).size = s.size - (x + 1) := size_extract _ _ _ (Nat.le_refl _)
 unfold strings_HasPrefix.f stringslite_HasPrefix.f
 rw [hsz]
 by_cases h : x + 1 < s.size
 ·rw [if_pos (by show ((s.size - (x + 1) : Nat) : Int) ≥ ((1 : Nat) : Int);omega),if_pos (by omega),if_pos (by show ((1 : Nat) : Int) ≤ _;omega)]
  show some _ = some _
  congr 1
  rw [Bool.eq_iff_iff,beq_iff_eq,decide_eq_true_eq,toList_bytes,toList_bytes,Lib.extract_data]
  have e : (s.extract (x + 1) s.size).data.toList = s.data.toList.drop (x + 1) := by
   rw [Lib.extract_data,List.take_of_length_le (by rw [List.length_drop,← Lib.size_eq];omega)]
  rw [e,List.drop_zero]
  have hl : x + 1 < s.data.toList.length := by rw [← Lib.size_eq];exact h
  rw [List.drop_eq_getElem_cons hl]
  show [s.data.toList[x + 1]] = [10] ↔ _
  have hb : byt s (x + 1) = (s.data.toList[x + 1]).toNat := by
   unfold byt
   rw [get!_eq,List.getD_eq_getElem?_getD,List.getElem?_eq_getElem hl];rfl
  rw [hb,List.cons.injEq]
  constructor
  ·rintro ⟨h1,_⟩;exact ⟨h,by rw [h1];rfl⟩
  ·rintro ⟨_,h1⟩;exact ⟨UInt8.toNat_inj.1 (by rw [h1];rfl),rfl⟩
 ·rw [if_neg (by show ¬ ((s.size - (x + 1) : Nat) : Int) ≥ ((1 : Nat) : Int);omega)]
  show some _ = some _
  congr 1
  symm
  rw [decide_eq_false_iff_not]
  omega
theorem made_ans (s : ByteArray) (hs : s.size ≤ 1099511627776) (x : Nat) (hb : Bd s x) (hx : x < s.size) (t : Int) : Ev (fun k => cluster_made.f k s x t) ((x : Int),t,clsAt s x,celAt s x) := by
 unfold cluster_made.f
 refine Ev.bind (at_ans s hs x) ?_
 rw [atA_nat hb hx]
 refine Ev.bind (class_ans (uC s x)) (Ev.bind (cells_ans (uC s x)) ?_)
 by_cases h : uC s x = 13
 ·have h1 := uN_low s x 13 (by omega) h
  have hw : wrap64 ((x : Int) + 1) = ((x + 1 : Nat) : Int) := by rw [w64 (by omega) (by omega)];omega
  refine ev_pos h ?_
  rw [hw]
  refine ev_pos (by omega) (ev_pos (by omega) (ev_some (prefix_nl s x hx) ?_))
  have hc : crlf s x ↔ (x + 1 < s.size ∧ byt s (x + 1) = 10) := by
   unfold crlf
   rw [h1,← uC_low s (x + 1) 10 (by omega)]
   exact ⟨fun h => h.2,fun h2 => ⟨h,h2⟩⟩
  unfold clsAt celAt
  by_cases hq : crlf s x
  ·rw [if_pos hq,if_pos hq]
   exact ev_pos (by rw [decide_eq_true_eq];exact hc.1 hq) (Ev.now _)
  ·rw [if_neg hq,if_neg hq]
   exact ev_neg (by rw [decide_eq_true_eq];exact fun h => hq (hc.2 h)) (Ev.now _)
 ·refine ev_neg h (ev_now ?_)
  unfold clsAt celAt
  rw [if_neg (fun hq => h hq.1),if_neg (fun hq => h hq.1)]
end Go.Proofs.YtfhnfhgpaoddbaaDoor.Pu
end
section
namespace Go.Proofs.YtfhnfhgpaoddbaaDoor.U
open Go.RowKit Go.Shelf Go.Proofs.YtfhnfhgpaoddbaaDoor.Mu Go.Proofs.YtfhnfhgpaoddbaaDoor.Pu Go.Proofs.YtfhnfhgpaoddbaaDoor.Rg Go.Proofs.YtfhnfhgpaoddbaaDoorW.PrintWords Go.Proofs.YtfhnfhgpaoddbaaDoorW.PrintLast Go.Proofs.YtfhnfhgpaoddbaaDoorW.PrintMore
attribute [local go_sem] Oper.semAt_some
set_option linter.unusedVariables false
set_option linter.unusedSimpArgs false
abbrev encC (c : S53) : Array Value := #[.agg #[.int .i64 c.f0,.int .i64 c.f1,.int .i64 c.f2,.int .i64 c.f3]]
set_option maxRecDepth 100000 in
set_option maxHeartbeats 2000000 in
/-- cluster.Walk's inner function: its contract. -/
theorem cwalk1_seq (n : Nat) (hn : 1 ≤ n) (w₀ w : World) (s : ByteArray) (Bs : Nat) (hs : s.size ≤ 1099511627776) (hT : Lib.Utf8Tabs 0 1 w₀) (hb : Below w₀.heap.size w₀ w) (hc : Boxed w Bs 9 (.string s)) :
  SeqB Fence.wide n Tryd.prog 83 #[.pointer (some ⟨Bs,0,none⟩)] encC w₀.heap.size (fun k => k = Bs) (fun xs => Hid (xs = clusL s)) (fun pre => pre <+: clusL s) (clusL s).length w := by
 intro l J Jx W hW hJ hJx hY h0
 refine callsIn_of_wp Tryd.func83 rfl trivial ?_ rfl
 simp only [Tryd.ntmps83,List.size_toArray,List.length_cons,List.length_nil,Nat.reduceAdd,Nat.reduceSub,Array.replicate_succ,Array.replicate_zero,List.push_toArray,List.append_toArray,List.nil_append,List.cons_append]
 gi_wp2
 gi_loopw [3] (fun v wr => ∃ (i : Nat) (pre : List S53),v = .int .i64 i ∧ i ≤ s.size ∧ Hid (CB s i) ∧ Hid (clusL s = pre ++ ctl s i) ∧ J pre wr ∧ Boxed wr Bs 9 (.string s) ∧ Below w₀.heap.size w₀ wr)
  (fun v _ => s.size - (intOf v).toNat)
 case atStart =>
  exact ⟨0,[],rfl,Nat.zero_le _,Lib.hid (cb_zero s),Lib.hid rfl,h0,(hW.block Bs hc.lt).trans hc,hb.trans (hW.mono hb.size)⟩
 case round =>
  obtain ⟨i,pre,rfl,hi,hcb0,hx,hJs,hbx,hbl⟩ := hrel
  have hcb := hbx.cell
  by_cases hlt : i < s.size
  ·have hlt' : (i : Int) < (s.size : Int) := by omega
   obtain ⟨t,ht⟩ : ∃ t,nxt s i = t := ⟨_,rfl⟩
   have ht1 : i < t := ht ▸ nxt_pos s i hlt
   have ht2 : t ≤ s.size := ht ▸ nxt_le s i hcb0.out.1 hlt
   obtain ⟨k1,hk1⟩ := Ev.rounds (cnext_ev hs (nxtS s i hcb0.out.1 hlt i (Int.le_refl _) (by rw [ht];omega)))
   rw [ht] at hk1
   have hk1 := Lib.hid hk1
   obtain ⟨k2,hk2⟩ := Ev.rounds (made_ans s hs i hcb0.out.1 hlt (t : Int))
   have hcl : Hid (clAt s i = ⟨(i : Int),(t : Int),clsAt s i,celAt s i⟩) := Lib.hid (by unfold clAt;rw [ht])
   obtain ⟨q2,hq2⟩ : ∃ q2,clsAt s i = q2 := ⟨_,rfl⟩
   obtain ⟨q3,hq3⟩ : ∃ q3,celAt s i = q3 := ⟨_,rfl⟩
   rw [hq2,hq3] at hk2 hcl
   have hk2 := Lib.hid hk2
   have hcbt : Hid (CB s t) := Lib.hid (ht ▸ nxt_cb s i hcb0.out.1 hlt)
   have hx2 : Hid (clusL s = pre ++ (⟨(i : Int),(t : Int),q2,q3⟩ : S53) :: ctl s t) := Lib.hid (by
    have := hx.out;rw [ctl_go s i hlt,hcl.out,ht] at this;exact this)
   clear hx hcl hq2 hq3 ht hcb0
   have hTw := tabs_below hT hbl
   gi_wp2_with (refine ⟨trivial,?_⟩;gi_at_call 46;refine (callsIn_wide.2 (cluster_Next.calls k1 s i t wr hTw hk1.out)).mono ?_;rintro e w1 ⟨rfl,hb1⟩;have hbx1 : Boxed w1 Bs 9 (.string s) := (hb1.block Bs hbx.lt).trans hbx;have hcb1 := hbx1.cell;have hT1 := tabs_below hTw hb1)
   gi_wp2_with (refine ⟨trivial,?_⟩;gi_at_call 84;refine (callsIn_wide.2 (cluster_made.calls k2 s i t i t q2 q3 w1 hT1 hk2.out)).mono ?_;rintro e w2 ⟨rfl,hb2⟩;have hb12 : Below wr.heap.size wr w2 := hb1.trans (hb2.mono hb1.size);obtain ⟨fn,tmps,assign,body,hy,hR⟩ := hY pre (⟨(i : Int),(t : Int),q2,q3⟩ : S53) wr w2 hJs hb12 (by rw [hx2.out];simp) ⟨ctl s t,by rw [hx2.out];simp⟩)
   refine hR.mono ?_
   rintro e W3 (⟨rfl,hJ3,hk3⟩ | ⟨rfl,hJx3⟩)
   ·have hbx3 : Boxed W3 Bs 9 (.string s) := hk3.2 Bs _ (.inl rfl) ((hb12.block Bs hbx.lt).trans hbx) rfl
    have hbl3 : Below w₀.heap.size w₀ W3 := (hbl.trans (hb12.mono hbl.size)).trans hk3.1
    gi_wp2
    go_roundw
    case rel => exact ⟨t,pre ++ [(⟨(i : Int),(t : Int),q2,q3⟩ : S53)],rfl,ht2,hcbt,Lib.hid (by rw [hx2.out];simp),hJ3,hbx3,hbl3⟩
    case measure => simp [intOf];omega
   ·gi_wp2
    refine bodyPost_ret (results_none rfl _ _ _) rfl ?_
    exact ⟨⟨_,rfl⟩,.inr ⟨_,⟨ctl s t,by rw [hx2.out];simp⟩,hJx3⟩⟩
  ·have hge : ¬ ((i : Int) < (s.size : Int)) := by omega
   gi_wp2
   go_end0
   have hz : ctl s i = [] := ctl_end s i (by omega)
   exact ⟨⟨_,rfl⟩,.inl ⟨pre,Lib.hid (by rw [hx.out,hz,List.append_nil]),hJs⟩⟩
theorem cwalk_calls (s : ByteArray) (w : World) :
  Calls Tryd.prog 41 #[.string s] w fun e w' => e = .returned (.func (.func 83) #[] #[.pointer (some ⟨w.heap.size,0,none⟩)]) ∧ w' = w.alloc (.cells #[.string s] 9) := by
 go_enter Tryd.func41,Tryd.ntmps41
 go_wp2
 go_ret
 exact ⟨rfl,rfl⟩
def cellsC : List S53 → List Value
 | [] => []
 | c :: cs => .int .i64 c.f0 :: .int .i64 c.f1 :: .int .i64 c.f2 :: .int .i64 c.f3 :: cellsC cs
theorem cellsC_snoc (cs : List S53) (c : S53) : cellsC (cs ++ [c]) = cellsC cs ++ [.int .i64 c.f0,.int .i64 c.f1,.int .i64 c.f2,.int .i64 c.f3] := by
 induction cs with
 | nil => rfl
 | cons x xs ih => simp [cellsC,ih]
theorem reps_cellsC (w : World) (base : Nat) (ok : Nat → Prop) : ∀ cs : List S53,Reps (k53.M w base ok) 4 cs (cellsC cs)
 | [] => Reps.none _ _
 | c :: cs => Reps.c4 (k53_mkM w base ok c) (reps_cellsC w base ok cs)
theorem cells_four_new (w : World) (x y z v : Value) (t : TypeId) : ∀ j u,[x,y,z,v][j]? = some u → (w.alloc (.cells #[x,y,z,v] t)).cell? ((⟨w.heap.size,0,none⟩ : Addr).add j) = some u := by
 intro j u hj
 match j,hj with
 | 0,hj => simp at hj;subst hj;simp [Addr.add]
 | 1,hj => simp at hj;subst hj;simp [Addr.add]
 | 2,hj => simp at hj;subst hj;simp [Addr.add]
 | 3,hj => simp at hj;subst hj;simp [Addr.add]
 | (j + 4),hj => simp at hj
set_option maxRecDepth 100000 in
set_option maxHeartbeats 4000000 in
theorem clist_any (s : ByteArray) (w : World) (hs : s.size ≤ 1099511627776) (hT : Lib.Utf8Tabs 0 1 w) :
  Calls Tryd.prog 43 #[.string s] w fun e w' => ∃ v0_ : Value,e = .returned v0_ ∧ Kd.R k53 53 w' w.heap.size (fun _ => True) v0_ (clusL s) ∧ Below w.heap.size w w' := by
 have hlen : (clusL s).length ≤ s.size := clusL_length s
 obtain ⟨i0,hi,hz0,hz1,hz2⟩ := info_parts info53
 refine (callsIn_wide (n := 6)).1 ?_
 refine callsIn_of_wp_marks Tryd.func43 rfl trivial ?_ rfl
 simp only [Tryd.ntmps43,List.size_toArray,List.length_cons,List.length_nil,Nat.reduceAdd,Nat.reduceSub,Array.replicate_succ,Array.replicate_zero,List.push_toArray,List.append_toArray,List.nil_append,List.cons_append]
 gi_wp2_with (refine ⟨trivial,?_⟩;gi_at_call 41;refine (callsIn_wide.2 (cwalk_calls s _)).mono ?_;rintro e w' ⟨rfl,rfl⟩)
 have bO := (Boxed.new w 46 (.slice none 0 0)).alloc (.cells #[.string s] 9)
 have bS := Boxed.new (w.alloc (.cells #[.slice none 0 0] 46)) 9 (.string s)
 rw [World.size_alloc] at bS
 have hB0 : Below w.heap.size w ((w.alloc (.cells #[.slice none 0 0] 46)).alloc (.cells #[.string s] 9)) := ((Below.refl _ w).alloc (Nat.le_refl _) _).alloc (by simp) _
 have hsz : ((w.alloc (.cells #[.slice none 0 0] 46)).alloc (.cells #[.string s] 9)).heap.size = w.heap.size + 2 := by simp
 obtain ⟨W0,hW0⟩ : ∃ W0,(w.alloc (.cells #[.slice none 0 0] 46)).alloc (.cells #[.string s] 9) = W0 := ⟨_,rfl⟩
 rw [hW0] at bO bS hB0 hsz ⊢
 clear hW0
 refine range_outer (α := S53) rfl (by omega) (gf := 83) (lb := #[.pointer (some ⟨w.heap.size + 1,0,none⟩)]) rfl trivial (enters_of Tryd.func83 (by kernel_rfl) rfl)
  (cwalk1_seq 5 (by omega) w W0 s (w.heap.size + 1) hs hT hB0 bS) (Below.refl _ _) (fun _ => rfl) (by omega)
  (fun (B : Nat) (pre : List S53) (W : World) => (((∃ v,Boxed W w.heap.size 46 v ∧ W.ownsRow w.heap.size 53 4 v pre.length (cellsC pre) ∧ (∀ g,v.ownBlock = some g → g < B)) ∧ Boxed W (w.heap.size + 1) 9 (.string s)) ∧ Below w.heap.size w W) ∧ w.heap.size < B)
  (fun _ _ _ => False)
  (fun B => OwnFrom.and (OwnFrom.and (OwnFrom.and (Own.from (holdsRow_own w.heap.size w.heap.size 46 53 4 (fun (pre : List S53) => pre.length) (fun pre => cellsC pre) (fun _ v => ∀ g,v.ownBlock = some g → g < B)) _) (Own.from (boxed_own _ _ _) _)) (ownFrom_below (Nat.le_refl _) (by omega))) (ownFrom_pure _ (fun _ => w.heap.size < B)))
  (fun B B' pre W hBB h => ⟨⟨⟨by obtain ⟨v,h1,h2,h3⟩ := h.1.1.1;exact ⟨v,h1,h2,fun g hg => Nat.lt_of_lt_of_le (h3 g hg) hBB⟩,h.1.1.2⟩,h.1.2⟩,Nat.lt_of_lt_of_le h.2 hBB⟩)
  (fun _ _ _ _ _ hs _ _ => hs)
  ⟨⟨⟨⟨_,bO,World.ownsRow_nil _ _ _ _,by simp [Value.ownBlock]⟩,bS⟩,hB0⟩,by omega⟩
  (fun (x : S53) (a' : Act) (W : World) => ∃ Bx,Hid (W.heap[Bx]? = some (.cells #[.int .i64 x.f0,.int .i64 x.f1,.int .i64 x.f2,.int .i64 x.f3] 53 (0,0))) ∧ a' = { tmps := #[.string s,undef,.slice none 0 0,.pointer (some ⟨w.heap.size,0,none⟩),.pointer (some ⟨Bx,0,none⟩),.string s,.func (.func 83) #[] #[.pointer (some ⟨w.heap.size + 1,0,none⟩)],.agg #[.int .i64 x.f0,.int .i64 x.f1,.int .i64 x.f2,.int .i64 x.f3],undef,undef,undef,undef,undef],defers := [] })
  (fun x a' _ X Y row hs hg hr => by
   obtain ⟨Bx,h1,h2⟩ := hs
   refine ⟨Bx,?_,h2⟩
   refine (hg.block Bx (Array.getElem?_eq_some_iff.1 h1).1 (fun e => ?_)).trans h1
   obtain ⟨_,o,ho,hc⟩ := hr Bx e.symm
   rw [show X.heap[Bx]? = _ from h1] at ho;cases ho;cases hc)
  ?assign ?body ?done ?stop
 case assign =>
  rintro l B pre x W K hCW hBW hI hK
  have hsz1 := hI.1.2.size
  gi_wp2
  exact hK _ _ ((KeepsOthers.alloc _ _).from _) (KeepB.of_below hsz1 ((Below.refl _ W).alloc (Nat.le_refl _) _)) ⟨⟨⟨by obtain ⟨v,h1,h2,h3⟩ := hI.1.1.1;exact ⟨v,h1.alloc _,h2.alloc _,h3⟩,hI.1.1.2.alloc _⟩,hI.1.2.alloc hsz1 _⟩,hI.2⟩ ⟨W.heap.size,Lib.hid (World.alloc_heap_new W _),rfl⟩
 case body =>
  rintro l B pre x a' W hl hCW hr hBW ⟨⟨⟨⟨v,hv,hrow,hvB⟩,hbs⟩,hB⟩,hoB⟩ ⟨Bx,hBx,rfl⟩ hlt hpx
  have hc := hv.cell
  have hsz1 := hB.size
  have hcx0 : W.cell? ⟨Bx,0,none⟩ = some (.int .i64 x.f0) := by simp [World.cell?,show W.heap[Bx]? = _ from hBx]
  have hcx1 : W.cell? ⟨Bx,1,none⟩ = some (.int .i64 x.f1) := by simp [World.cell?,show W.heap[Bx]? = _ from hBx]
  have hcx2 : W.cell? ⟨Bx,2,none⟩ = some (.int .i64 x.f2) := by simp [World.cell?,show W.heap[Bx]? = _ from hBx]
  have hcx3 : W.cell? ⟨Bx,3,none⟩ = some (.int .i64 x.f3) := by simp [World.cell?,show W.heap[Bx]? = _ from hBx]
  have hu := Tryd.underlying53
  gi_wp2_with (gi_at_builtin;refine wpListIn_append_own _ rfl _ _ 46 rfl w.heap.size 53 i0 _ 4 32 Tryd.underlying46 hi hz0 hz1 hz2 rfl (by decide) _ _ _ rfl (hrow.alloc _) ⟨W.heap.size,0,none⟩ 1 1 [.int .i64 x.f0,.int .i64 x.f1,.int .i64 x.f2,.int .i64 x.f3] rfl rfl (cells_four_new _ _ _ _ _ _) (by simp [Value.oneCell']) (by unfold maxLen;omega) (by omega) (by simp;omega) ?_;intro v' w1 hown' hgrow _;obtain ⟨g',cap',rfl⟩ := ownsRow_succ hown';obtain ⟨hv1,hv2,hr2,hk2,hb2⟩ := hv.appended (by decide) hrow hsz1 (Nat.le_refl _) hown' hgrow;have hkb := appended_keepB (v' := .slice (some ⟨g',0,none⟩) (pre.length + 1) cap') (Pr := fun k => k = w.heap.size + 1) hgrow hoB (fun k hk => ⟨by omega,by rw [hk];exact hbs.not_row (by decide) hrow⟩) hvB;have hbs2 : Boxed (w1.setCell ⟨w.heap.size,0,none⟩ (.slice (some ⟨g',0,none⟩) (pre.length + 1) cap')) (w.heap.size + 1) 9 (.string s) := hkb _ _ (.inl rfl) hbs rfl;have hc1 := hv1.cell;have hf1 := hv1.frozen)
  have hsz2 : w.heap.size < (w1.setCell ⟨w.heap.size,0,none⟩ (.slice (some ⟨g',0,none⟩) (pre.length + 1) cap')).heap.size := hv2.lt
  exact ⟨hk2.from _,⟨hb2,hkb⟩,⟨⟨⟨_,hv2,by rw [cellsC_snoc,List.length_append];exact hr2,fun g hg => own_lt hr2 g hg⟩,hbs2⟩,hB.trans hb2⟩,hsz2⟩
 case done =>
  rintro D ys W hD hys ⟨⟨⟨⟨v,hv,hrow,_⟩,_⟩,hB⟩,_⟩ hK
  have hc := hv.cell
  gi_wp2
  refine ⟨by simp,.inl ⟨_,_,rfl,run_takeDeferred hK,?_⟩⟩
  refine ⟨_,results_tmp rfl _ _ _,v,rfl,⟨fun _ _ => trivial,cellsC (clusL s),?_,reps_cellsC _ _ _ _⟩,hB.trans (belowK_b (w := w) (Nat.le_refl _) W D _ _ (by omega) hK rfl rfl)⟩
  have e : ys = clusL s := hys
  have h2 := ownsRow_putObj hrow (.deferred none) hK rfl
  rw [e] at h2
  exact h2
 case stop =>
  rintro D c pre W _ _ h _
  exact h.elim
def cluster_List.f (a0 : ByteArray) : Option (List (S53)) := if a0.size ≤ 1099511627776 then some (clusL a0) else none
theorem cluster_List.calls (a0 : ByteArray) (r : List (S53)) (w : World) (hT : Lib.Utf8Tabs 0 1 w) (h : cluster_List.f a0 = some r) :
  Calls Tryd.prog 43 #[.string a0] w fun e w' => ∃ v0_ : Value,e = .returned (v0_) ∧ Kd.R k53 53 w' w.heap.size (fun _ => True) v0_ r ∧ Below w.heap.size w w' := by
 unfold cluster_List.f at h
 split at h
 ·obtain rfl := Option.some.inj h
  rename_i hs
  exact clist_any a0 w hs hT
 ·cases h
end Go.Proofs.YtfhnfhgpaoddbaaDoor.U
end
section
namespace Go.Proofs.YtfhnfhgpaoddbaaDoor.U
open Go.RowKit Go.Shelf Go.Proofs.YtfhnfhgpaoddbaaDoor.Mu Go.Proofs.YtfhnfhgpaoddbaaDoor.Pu Go.Proofs.YtfhnfhgpaoddbaaDoor.Rg Go.Proofs.YtfhnfhgpaoddbaaDoorW.PrintWords Go.Proofs.YtfhnfhgpaoddbaaDoorW.PrintLast Go.Proofs.YtfhnfhgpaoddbaaDoorW.PrintMore
attribute [local go_sem] Oper.semAt_some
set_option linter.unusedVariables false
set_option linter.unusedSimpArgs false
def sumC : List S53 → Int
 | [] => 0
 | c :: cs => c.f3 + sumC cs
theorem sumC_app (a b : List S53) : sumC (a ++ b) = sumC a + sumC b := by
 induction a with
 | nil => simp [sumC]
 | cons c cs ih => simp only [List.cons_append,sumC,ih];omega
theorem celB_range (c : Int) : 0 ≤ celB c ∧ celB c ≤ 2 := by unfold celB;repeat' split <;> omega
theorem celAt_range (s : ByteArray) (x : Nat) : 0 ≤ celAt s x ∧ celAt s x ≤ 2 := by
 unfold celAt
 split
 ·omega
 ·exact celB_range _
theorem cluL_cells (s : ByteArray) : ∀ k x,∀ c ∈ cluL s k x,0 ≤ c.f3 ∧ c.f3 ≤ 2
 | 0,_,c,h => by simp [cluL] at h
 | k + 1,x,c,h => by
  rw [cluL] at h
  split at h
  ·rcases List.mem_cons.1 h with rfl | h
   ·exact celAt_range s x
   ·exact cluL_cells s k _ c h
  ·simp at h
theorem sumC_range (cs : List S53) (h : ∀ c ∈ cs,0 ≤ c.f3 ∧ c.f3 ≤ 2) : 0 ≤ sumC cs ∧ sumC cs ≤ 2 * (cs.length : Int) := by
 induction cs with
 | nil => simp [sumC]
 | cons c cs ih =>
  have h1 := h c (by simp)
  have h2 := ih (fun c hc => h c (List.mem_cons_of_mem _ hc))
  simp only [sumC,List.length_cons]
  omega
theorem sumC_pre (s : ByteArray) (pre : List S53) (h : pre <+: clusL s) : 0 ≤ sumC pre ∧ sumC pre ≤ 2 * (s.size : Int) := by
 have h1 := sumC_range pre (fun c hc => cluL_cells s s.size 0 c (h.subset hc))
 have h2 := h.length_le
 have h3 := clusL_length s
 omega
set_option maxRecDepth 100000 in
set_option maxHeartbeats 4000000 in
theorem ccells_any (s : ByteArray) (w : World) (hs : s.size ≤ 1099511627776) (hT : Lib.Utf8Tabs 0 1 w) :
  Calls Tryd.prog 54 #[.string s] w fun e w' => e = .returned (.int .i64 (sumC (clusL s))) ∧ Below w.heap.size w w' := by
 have hlen : (clusL s).length ≤ s.size := clusL_length s
 refine (callsIn_wide (n := 6)).1 ?_
 refine callsIn_of_wp_marks Tryd.func54 rfl trivial ?_ rfl
 simp only [Tryd.ntmps54,List.size_toArray,List.length_cons,List.length_nil,Nat.reduceAdd,Nat.reduceSub,Array.replicate_succ,Array.replicate_zero,List.push_toArray,List.append_toArray,List.nil_append,List.cons_append]
 gi_wp2_with (refine ⟨trivial,?_⟩;gi_at_call 41;refine (callsIn_wide.2 (cwalk_calls s _)).mono ?_;rintro e w' ⟨rfl,rfl⟩)
 have bO := (Boxed.new w 3 (.int .i64 0)).alloc (.cells #[.string s] 9)
 have bS := Boxed.new (w.alloc (.cells #[.int .i64 0] 3)) 9 (.string s)
 rw [World.size_alloc] at bS
 have hB0 : Below w.heap.size w ((w.alloc (.cells #[.int .i64 0] 3)).alloc (.cells #[.string s] 9)) := ((Below.refl _ w).alloc (Nat.le_refl _) _).alloc (by simp) _
 have hsz : ((w.alloc (.cells #[.int .i64 0] 3)).alloc (.cells #[.string s] 9)).heap.size = w.heap.size + 2 := by simp
 obtain ⟨W0,hW0⟩ : ∃ W0,(w.alloc (.cells #[.int .i64 0] 3)).alloc (.cells #[.string s] 9) = W0 := ⟨_,rfl⟩
 simp only [hW0]
 rw [hW0] at bO bS hB0 hsz
 clear hW0
 refine range_outer (α := S53) rfl (by omega) (gf := 83) (lb := #[.pointer (some ⟨w.heap.size + 1,0,none⟩)]) rfl trivial (enters_of Tryd.func83 (by kernel_rfl) rfl)
  (cwalk1_seq 5 (by omega) w W0 s (w.heap.size + 1) hs hT hB0 bS) (Below.refl _ _) (fun _ => rfl) (by omega)
  (fun (B : Nat) (pre : List S53) (W : World) => (Boxed W w.heap.size 3 (.int .i64 (sumC pre)) ∧ Below w.heap.size w W) ∧ (w.heap.size + 1 < B))
  (fun _ _ _ => False)
  (fun B => OwnFrom.and (OwnFrom.and (Own.from (boxed_own w.heap.size 3 (fun (pre : List S53) => .int .i64 (sumC pre))) _) (ownFrom_below (Nat.le_refl _) (by omega))) (ownFrom_pure _ (fun (pre : List S53) => w.heap.size + 1 < B)))
  (fun B B' pre W hBB h => ⟨h.1,by omega⟩)
  (fun _ _ _ _ _ hs _ _ => hs)
  ⟨⟨bO,hB0⟩,by omega⟩
  (fun (x : S53) (a' : Act) (W : World) => ∃ Bx,Hid (W.heap[Bx]? = some (.cells #[.int .i64 x.f0,.int .i64 x.f1,.int .i64 x.f2,.int .i64 x.f3] 53 (0,0))) ∧ a' = { tmps := #[.string s,undef,.int .i64 0,.pointer (some ⟨w.heap.size,0,none⟩),.pointer (some ⟨Bx,0,none⟩),.string s,.func (.func 83) #[] #[.pointer (some ⟨w.heap.size + 1,0,none⟩)],.agg #[.int .i64 x.f0,.int .i64 x.f1,.int .i64 x.f2,.int .i64 x.f3],undef,undef,undef,undef,undef],defers := [] })
  (fun x a' _ X Y row hs hg hr => by
   obtain ⟨Bx,h1,h2⟩ := hs
   refine ⟨Bx,?_,h2⟩
   refine (hg.block Bx (Array.getElem?_eq_some_iff.1 h1).1 (fun e => ?_)).trans h1
   obtain ⟨_,o,ho,hc⟩ := hr Bx e.symm
   rw [show X.heap[Bx]? = _ from h1] at ho;cases ho;cases hc)
  ?assign ?body ?done ?stop
 case assign =>
  rintro l B pre x W K hCW hBW hI hK
  have hsz1 := hI.1.2.size
  gi_wp2
  exact hK _ _ ((KeepsOthers.alloc _ _).from _) (KeepB.of_below hsz1 ((Below.refl _ W).alloc (Nat.le_refl _) _)) ⟨⟨hI.1.1.alloc _,hI.1.2.alloc hsz1 _⟩,hI.2⟩ ⟨W.heap.size,Lib.hid (World.alloc_heap_new W _),rfl⟩
 case body =>
  rintro l B pre x a' W hl hCW hr hBW ⟨⟨hb,hB⟩,hoB⟩ ⟨Bx,hBx,rfl⟩ hlt hpx
  have hs1 := sumC_pre s pre ((List.prefix_append pre [x]).trans hpx)
  have hs2 := sumC_pre s (pre ++ [x]) hpx
  have e1 : sumC (pre ++ [x]) = sumC pre + x.f3 := by rw [sumC_app];simp [sumC]
  rw [e1] at hs2
  have hw : IntKind.i64.wrap (sumC pre + x.f3) = sumC pre + x.f3 := (i64_w _).trans (w64 (by omega) (by omega))
  have hc := hb.cell
  have hf := hb.frozen
  have hcx3 : W.cell? ⟨Bx,3,none⟩ = some (.int .i64 x.f3) := by simp [World.cell?,show W.heap[Bx]? = _ from hBx]
  have hu := Tryd.underlying53
  clear hs1 hs2
  try dsimp only
  gi_wp2
  refine ⟨(KeepsOthers.setCell W _ _).from _,⟨belowAt w.heap.size w.heap.size _ hB.size (Nat.le_refl _),fun k o hk ho _ => (Below.heap_setCell W ⟨w.heap.size,0,none⟩ _ k (show k ≠ w.heap.size by rcases hk with hk | hk;have hk : k = w.heap.size + 1 := hk;omega;omega)).trans ho⟩,⟨by rw [e1];exact hb.set _,hB.trans (belowAt w.heap.size w.heap.size _ hB.size (Nat.le_refl _))⟩,by simp;omega⟩
 case done =>
  rintro D ys W hD hys ⟨⟨hb,hB⟩,_⟩ hK
  have hc := hb.cell
  obtain rfl : ys = clusL s := hys
  gi_wp2
  refine ⟨by simp,.inl ⟨_,_,rfl,run_takeDeferred hK,?_⟩⟩
  exact ⟨_,results_tmp rfl _ _ _,rfl,hB.trans (belowK_b (w := w) (Nat.le_refl _) W D _ _ (by omega) hK rfl rfl)⟩
 case stop =>
  rintro D c pre W _ _ h _
  exact h.elim
def cluster_Cells.f (a0 : ByteArray) : Option Int := if a0.size ≤ 1099511627776 then some (sumC (clusL a0)) else none
theorem cluster_Cells.calls (a0 : ByteArray) (r : Int) (w : World) (hT : Lib.Utf8Tabs 0 1 w) (h : cluster_Cells.f a0 = some r) :
  Calls Tryd.prog 54 #[.string a0] w fun e w' => e = .returned (.int .i64 r) ∧ Below w.heap.size w w' := by
 unfold cluster_Cells.f at h
 split at h
 ·obtain rfl := Option.some.inj h
  rename_i hs
  exact ccells_any a0 w hs hT
 ·cases h
end Go.Proofs.YtfhnfhgpaoddbaaDoor.U
end
section
namespace Go.Proofs.YtfhnfhgpaoddbaaDoor.U
open Go.RowKit Go.Shelf Go.Proofs.YtfhnfhgpaoddbaaDoor.Mu Go.Proofs.YtfhnfhgpaoddbaaDoor.Pu Go.Proofs.YtfhnfhgpaoddbaaDoor.Rg Go.Proofs.YtfhnfhgpaoddbaaDoorW.PrintWords Go.Proofs.YtfhnfhgpaoddbaaDoorW.PrintLast Go.Proofs.YtfhnfhgpaoddbaaDoorW.PrintMore
set_option linter.unusedVariables false
set_option linter.unusedSimpArgs false
theorem bld_size : (Tryd.prog.info? 85).map (·.size) = some 2 := by kernel_rfl
theorem bld_lies : liesAt Tryd.prog Tryd.prog.depth 85 (2 / Tryd.prog.cellsOf 85) 0 85 1 = true := by kernel_rfl
theorem byte_info : (Tryd.prog.info? 5).map (fun i => (i.zero,i.size,i.bytes)) = some (some (.int .u8 0),1,1) := by kernel_rfl
set_option maxHeartbeats 1000000 in
set_option maxRecDepth 100000 in
theorem copyCheck_used (b : Nat) (w : World) (h0 : w.cell? ⟨b,0,none⟩ = some (.pointer (some ⟨b,0,none⟩))) :
  Calls Tryd.prog 99 #[.pointer (some ⟨b,0,none⟩)] w fun e w' => e = .returned (.tuple #[]) ∧ w' = w := by
 obtain ⟨j,hj,_⟩ := Option.map_eq_some_iff.1 bld_size
 have hu := Tryd.underlying85
 go_enter Tryd.func99,Tryd.ntmps99
 go_wp2
 rw [Lib.run_neq_ptr_same w _ Tryd.underlying83 hj]
 go_wp2
 go_end0
 exact ⟨rfl,rfl⟩
set_option maxHeartbeats 1000000 in
set_option maxRecDepth 100000 in
theorem copyCheck_fresh (b : Nat) (w : World) (h0 : w.cell? ⟨b,0,none⟩ = some (.pointer none)) (hsh : w.shape? b = some (85,2)) (hfz : w.frozen? ⟨b,0,none⟩ = false) :
  Calls Tryd.prog 99 #[.pointer (some ⟨b,0,none⟩)] w fun e w' => e = .returned (.tuple #[]) ∧ w' = w.setCell ⟨b,0,none⟩ (.pointer (some ⟨b,0,none⟩)) := by
 obtain ⟨j,hj,hjs⟩ := Option.map_eq_some_iff.1 bld_size
 have hu := Tryd.underlying85
 go_enter Tryd.func99,Tryd.ntmps99
 go_wp2
 rw [Lib.run_to_unsafe w ⟨b,0,none⟩ Tryd.underlying83 Tryd.underlying110 hj (by rw [hjs];decide) hsh (Nat.zero_lt_succ 1)]
 simp only [Result.andThen]
 rw [Oper.upon_value]
 go_wp2
 rw [run_callFunc_extern Tryd.func106 (by kernel_rfl) (by kernel_rfl) (by kernel_rfl) (e := Extern.AbiNoEscape.same) (by kernel_rfl)]
 rw [Lib.run_noEscape]
 simp only [Result.andThen]
 rw [Oper.upon_value]
 go_wp2
 rw [Lib.run_from_unsafe w ⟨b,0,none⟩ Tryd.underlying110 Tryd.underlying83 hj hsh bld_lies]
 simp only [Result.andThen]
 rw [Oper.upon_value]
 go_wp2
 go_end0
 exact ⟨rfl,rfl⟩
/-- The builder in block b holds bs;v is its buffer. -/
def BldAt (n₀ b : Nat) (bs : List Value) (v : Value) (W : World) : Prop :=
 ∃ p,(p = .pointer none ∨ p = .pointer (some ⟨b,0,none⟩)) ∧ W.heap[b]? = some (.cells #[p,v] 85 (0,0)) ∧ W.ownsRowF n₀ 5 1 v bs.length bs ∧ v.ownBlock ≠ some b
/-- What a write turns. -/
structure Wrote (n₀ b : Nat) (v : Value) (W W' : World) : Prop where
 below : Below n₀ W W'
 others : KeepsOthers W W'
 keep : ∀ (k : Nat),k < W.heap.size → k ≠ b → some k ≠ v.ownBlock → W'.heap[k]? = W.heap[k]?
theorem ownsRowF_cells {w : World} {B : Nat} {e : TypeId} {v : Value} {n : Nat} {xs : List Value} (h : w.ownsRowF B e 1 v n xs) : ∀ g,v.ownBlock = some g → ∃ o,w.heap[g]? = some o ∧ o.isCells = true := by
 intro g hg
 obtain ⟨c,fz,hc⟩ := Lib.ownsRowF_kind h g hg
 exact ⟨_,hc,rfl⟩
theorem BldAt.kept {n₀ b : Nat} {bs : List Value} {v : Value} {X Y : World} {row : Option Nat} (h : BldAt n₀ b bs v X) (hg : X.grownBy Y row) (hb : row ≠ some b) (hv : v.ownBlock = none ∨ v.ownBlock ≠ row) : BldAt n₀ b bs v Y := by
 obtain ⟨p,hp,hk,hr,hne⟩ := h
 exact ⟨p,hp,(hg.block b (Array.getElem?_eq_some_iff.1 hk).1 (fun e => hb e.symm)).trans hk,hr.kept hg hv,hne⟩
theorem BldAt.grow {n₀ b : Nat} {bs : List Value} {v : Value} {X Y : World} {row : Option Nat} (h : BldAt n₀ b bs v X) (hg : X.grownBy Y row) (hr : ∀ r,row = some r → ∃ o : Obj,X.heap[r]? = some o ∧ o.isCells = false) : BldAt n₀ b bs v Y := by
 refine h.kept hg (fun e => ?_) ?_
 ·obtain ⟨p,_,hk,_⟩ := h
  obtain ⟨o,ho,hc⟩ := hr b e
  rw [hk] at ho;cases ho;cases hc
 ·cases hv : v.ownBlock with
  | none => exact .inl rfl
  | some g =>
   refine .inr (fun e => ?_)
   obtain ⟨p,_,_,hrow,_⟩ := h
   obtain ⟨o,ho,hc⟩ := ownsRowF_cells hrow g hv
   obtain ⟨o',ho',hc'⟩ := hr g e.symm
   rw [ho] at ho';cases ho';rw [hc] at hc';cases hc'
theorem BldAt.is {n₀ b : Nat} {bs : List Value} {v : Value} {W : World} (h : BldAt n₀ b bs v W) (hb : n₀ ≤ b) : Lib.IsBuilderF 85 5 n₀ b bs W := by
 obtain ⟨p,hp | hp,hk,hr,hne⟩ := h
 ·exact .inl ⟨hb,v,hp ▸ hk,hr,hne⟩
 ·exact .inr ⟨hb,v,hp ▸ hk,hr,hne⟩
theorem BldAt.lt {n₀ b : Nat} {bs : List Value} {v : Value} {W : World} (h : BldAt n₀ b bs v W) : b < W.heap.size := by
 obtain ⟨p,_,hk,_⟩ := h;exact (Array.getElem?_eq_some_iff.1 hk).1
theorem Wrote.setCell {n₀ b j : Nat} {v : Value} {W W' : World} (h : Wrote n₀ b v W W') (hb : n₀ ≤ b) (u : Value) : Wrote n₀ b v W (W'.setCell ⟨b,j,none⟩ u) :=
 ⟨h.below.setCell (p := ⟨b,j,none⟩) hb u,h.others.trans (KeepsOthers.setCell W' _ u),fun k hk hb hv => (Below.heap_setCell W' ⟨b,j,none⟩ u k hb).trans (h.keep k hk hb hv)⟩
theorem Wrote.refl (n₀ b : Nat) (v : Value) (W : World) : Wrote n₀ b v W W := ⟨Below.refl _ _,KeepsOthers.refl _,fun _ _ _ _ => rfl⟩
set_option maxHeartbeats 2000000 in
set_option maxRecDepth 100000 in
theorem writeString_calls (n₀ b : Nat) (bs : List Value) (v : Value) (s : ByteArray) (w : World) (h : BldAt n₀ b bs v w) (hn : n₀ ≤ w.heap.size) (hb : n₀ ≤ b) (hlen : bs.length + s.size ≤ 140737488355328) :
  Calls Tryd.prog 87 #[.pointer (some ⟨b,0,none⟩),.string s] w fun e w' => e = .returned (.tuple #[.int .i64 s.size,.nilIface]) ∧ ∃ v',BldAt n₀ b (bs ++ Lib.strCells s) v' w' ∧ Wrote n₀ b v w w' := by
 obtain ⟨i0,hi,hz0,hz1,hz2⟩ := info_parts byte_info
 have hu := Tryd.underlying85
 obtain ⟨p,hp,hk,hr,hne⟩ := h
 have hcc : Calls Tryd.prog 99 #[.pointer (some ⟨b,0,none⟩)] w fun e w' => e = .returned (.tuple #[]) ∧ (w'.heap[b]? = some (.cells #[.pointer (some ⟨b,0,none⟩),v] 85 (0,0)) ∧ w'.ownsRowF n₀ 5 1 v bs.length bs ∧ Wrote n₀ b v w w') := by
  rcases hp with rfl | rfl
  ·have h0 : w.cell? ⟨b,0,none⟩ = some (.pointer none) := (blk_cell hk 0).trans rfl
   refine (copyCheck_fresh b w h0 (by simp [World.shape?,hk]) (blk_frozen hk 0)).mono ?_
   rintro e w' ⟨rfl,rfl⟩
   exact ⟨rfl,blk_put hk 0 _ rfl,hr.kept (grownBy_setCell' w b _) (.inr hne),(Wrote.refl _ _ _ _).setCell hb _⟩
  ·have h0 : w.cell? ⟨b,0,none⟩ = some (.pointer (some ⟨b,0,none⟩)) := (blk_cell hk 0).trans rfl
   refine (copyCheck_used b w h0).mono ?_
   rintro e w' ⟨rfl,rfl⟩
   exact ⟨rfl,hk,hr,Wrote.refl _ _ _ _⟩
 clear hk hr hp
 go_enter Tryd.func87,Tryd.ntmps87
 go_wp2_with (go_at_call 99;refine hcc.mono ?_)
 rintro e w1 ⟨rfl,hbk,hown,hW⟩
 have c0 : w1.cell? ⟨b,0,none⟩ = some (.pointer (some ⟨b,0,none⟩)) := (blk_cell hbk 0).trans rfl
 have c1 : w1.cell? ⟨b,1,none⟩ = some v := (blk_cell hbk 1).trans rfl
 go_wp2_with (at_builtin;go_must (refine Lib.wpList_append_own_stringF _ rfl _ _ 73 9 rfl n₀ 5 i0 Tryd.underlying73 Tryd.underlying9 hi hz0 hz1 hz2 _ _ _ rfl hown s rfl ?c3 ?c4 ?c5 ?_))
 case c3 => unfold maxLen;omega
 case c4 => omega
 case c5 => have := hW.below.size;omega
 intro v' w2 hown' hgrow _
 have hlt : b < w1.heap.size := (Array.getElem?_eq_some_iff.1 hbk).1
 have hb2 : w2.heap[b]? = some (.cells #[.pointer (some ⟨b,0,none⟩),v] 85 (0,0)) := by
  rw [hgrow.block b hlt (fun e => hne e.symm)]
  exact hbk
 have d0 : w2.cell? ⟨b,0,none⟩ = some (.pointer (some ⟨b,0,none⟩)) := (blk_cell hb2 0).trans rfl
 have d1 : w2.cell? ⟨b,1,none⟩ = some v := (blk_cell hb2 1).trans rfl
 have f1 : w2.frozen? ⟨b,1,none⟩ = false := blk_frozen hb2 1
 have hne' : v'.ownBlock ≠ some b := Lib.ownBlock_neF hown' hb2 (by decide)
 have hW2 : Wrote n₀ b v w w2 := by
  refine ⟨hW.below.trans (((Below.refl n₀ w1).grown hgrow (by have := hW.below.size;omega) (fun k hk => (hown.lt k hk).1))),hW.others.trans (KeepsOthers.of_grownBy hgrow fun j o ej hj => ?_),fun k hk h1 h2 => ?_⟩
  ·obtain ⟨o',ho',hc'⟩ := ownsRowF_cells hown j ej
   rw [hj] at ho';cases ho';exact hc'
  ·exact (hgrow.block k (Nat.lt_of_lt_of_le hk hW.below.size) h2).trans (hW.keep k hk h1 h2)
 obtain ⟨ao,n',cap,rfl⟩ : ∃ ao n' cap,v' = .slice ao n' cap := by
  rcases hown'.2 with ⟨hv,_⟩ | ⟨g,cap,cur,fz,hv,_⟩
  ·exact ⟨_,_,_,hv⟩
  ·exact ⟨_,_,_,hv⟩
 go_wp2
 go_ret2
 refine ⟨rfl,_,⟨_,.inr rfl,blk_put hb2 1 _ rfl,?_,hne'⟩,hW2.setCell hb _⟩
 have hg1 : w2.grownBy (w2.setCell ⟨b,1,none⟩ (.slice ao n' cap)) (some b) := ⟨rfl,rfl,rfl,by simp [World.setCell],fun k _ hk => Below.heap_setCell _ _ _ _ (fun e => hk (by simp [e]))⟩
 have := hown'.kept hg1 (.inr hne')
 rw [List.length_append,Lib.strCells_length]
 exact this
end Go.Proofs.YtfhnfhgpaoddbaaDoor.U
end
section
namespace Go.Proofs.YtfhnfhgpaoddbaaDoor.Pu
open Go Go.RowKit Go.Proofs.YtfhnfhgpaoddbaaDoor.Mu Go.Proofs.YtfhnfhgpaoddbaaDoor.U Go.Proofs.YtfhnfhgpaoddbaaDoorW.PrintWords Go.Proofs.YtfhnfhgpaoddbaaDoorW.PrintLast Go.Proofs.YtfhnfhgpaoddbaaDoorW.PrintMore
theorem bt_byt (t : ByteArray) (i : Nat) (h : i < t.size) : bt t i = (byt t i : Int) := by
 unfold bt byt
 rw [dif_pos (by simpa using h)]
 simp only [Int.toNat_natCast]
 rw [get!_eq,List.getD_eq_getElem?_getD,List.getElem?_eq_getElem (by rw [← Lib.size_eq];exact h)]
 rfl
section
variable (t : ByteArray) (ht : t.size ≤ 1099511627776)
include ht
omit ht
include ht
end
end Go.Proofs.YtfhnfhgpaoddbaaDoor.Pu
end
section
namespace Go.Proofs.YtfhnfhgpaoddbaaDoor.U
open Go.RowKit Go.Shelf Go.Proofs.YtfhnfhgpaoddbaaDoor.Mu Go.Proofs.YtfhnfhgpaoddbaaDoor.Pu Go.Proofs.YtfhnfhgpaoddbaaDoor.Rg Go.Proofs.YtfhnfhgpaoddbaaDoorW.PrintWords Go.Proofs.YtfhnfhgpaoddbaaDoorW.PrintLast Go.Proofs.YtfhnfhgpaoddbaaDoorW.PrintMore
attribute [local go_sem] Oper.semAt_some
set_option linter.unusedVariables false
set_option linter.unusedSimpArgs false
/-- What is drawn of a cluster. -/
def drawB (s : ByteArray) (c : S53) : ByteArray :=
 if c.f2 = 1 then ⟨#[]⟩ else if c.f2 = 2 then (if byt s c.f0.toNat = 127 then ⟨#[94,63]⟩ else if byt s c.f0.toNat < 128 then (⟨#[94]⟩ : ByteArray) ++ Utf8.encode ((byt s c.f0.toNat : Int) + 64) else ⟨#[239,191,189]⟩)
 else if c.f2 = 3 then (⟨#[32]⟩ : ByteArray) ++ s.extract c.f0.toNat c.f1.toNat else if c.f2 = 5 then (⟨#[239,191,189]⟩ : ByteArray) ++ (s.extract c.f0.toNat c.f1.toNat).extract 1 (s.extract c.f0.toNat c.f1.toNat).size
 else s.extract c.f0.toNat c.f1.toNat
def drawU (s : ByteArray) (cs : List S53) : List UInt8 := cs.flatMap fun c => (drawB s c).data.toList
def drawnS (s : ByteArray) : ByteArray := ⟨(drawU s (clusL s)).toArray⟩
theorem drawU_snoc (s : ByteArray) (cs : List S53) (c : S53) : drawU s (cs ++ [c]) = drawU s cs ++ (drawB s c).data.toList := by simp [drawU]
theorem clus_mem (s : ByteArray) : ∀ k x,CB s x → ∀ c ∈ cluL s k x,∃ i,CB s i ∧ i < s.size ∧ c = clAt s i
 | 0,_,_,c,h => by simp [cluL] at h
 | k + 1,x,hx,c,h => by
  rw [cluL] at h
  split at h
  ·rename_i hlt
   rcases List.mem_cons.1 h with rfl | h
   ·exact ⟨x,hx,hlt,rfl⟩
   ·exact clus_mem s k _ (nxt_cb s x hx.1 hlt) c h
  ·simp at h
theorem encode_low (k : Nat) (h : k < 128) : (Utf8.encode ((k : Int) + 64)).size ≤ 2 := by
 have hv : Utf8.valid ((k : Int) + 64) = true := by unfold Utf8.valid;simp;omega
 unfold Utf8.encode
 simp only [hv,if_true]
 have : ((k : Int) + 64).toNat = k + 64 := by omega
 rw [this]
 split
 ·exact Nat.le_succ 1
 ·rw [if_pos (by omega)];exact Nat.le_refl 2
theorem drawB_size (s : ByteArray) (i : Nat) (hc : CB s i) (hi : i < s.size) : (drawB s (clAt s i)).size + 3 * i ≤ 3 * nxt s i := by
 have h1 := nxt_pos s i hi
 have h2 := nxt_le s i hc.1 hi
 have h3 : (s.extract i (nxt s i)).size = nxt s i - i := size_extract _ _ _ h2
 have e0 : (clAt s i).f0.toNat = i := by unfold clAt;exact Int.toNat_natCast i
 have e1 : (clAt s i).f1.toNat = nxt s i := by unfold clAt;exact Int.toNat_natCast _
 have hl := encode_low (byt s i)
 unfold drawB
 rw [e0,e1]
 split
 ·show 0 + _ ≤ _;omega
 split
 ·split
  ·show 2 + _ ≤ _;omega
  split
  ·rw [ByteArray.size_append];have := hl (by assumption);show 1 + _ + _ ≤ _;omega
  ·show 3 + _ ≤ _;omega
 split
 ·rw [ByteArray.size_append,h3];show 1 + _ + _ ≤ _;omega
 split
 ·rw [ByteArray.size_append,size_extract _ _ _ (Nat.le_refl _),h3];show 3 + _ + _ ≤ _;omega
 ·omega
theorem draw_size (s : ByteArray) : ∀ (pre : List S53) (i : Nat),CB s i → i ≤ s.size → pre <+: ctl s i → (drawU s pre).length + 3 * i ≤ 3 * s.size
 | [],i,_,hi,_ => by simp [drawU];omega
 | c :: pre,i,hc,hi,h => by
  by_cases hlt : i < s.size
  ·rw [ctl_go s i hlt,List.cons_prefix_cons] at h
   obtain ⟨rfl,h⟩ := h
   have h1 := draw_size s pre (nxt s i) (nxt_cb s i hc.1 hlt) (nxt_le s i hc.1 hlt) h
   have h2 := drawB_size s i hc hlt
   have e : (drawU s (clAt s i :: pre)).length = (drawB s (clAt s i)).size + (drawU s pre).length := by
    simp only [drawU,List.flatMap_cons,List.length_append];rfl
   omega
  ·rw [ctl_end s i (by omega)] at h
   have := h.length_le
   simp at this
theorem cells_app (l : List UInt8) (t : ByteArray) : Lib.byteCells l ++ Lib.strCells t = Lib.byteCells (l ++ t.data.toList) := by
 rw [Lib.strCells_eq];unfold Lib.byteCells;rw [List.map_append]
theorem ctl_low (s : ByteArray) (i : Nat) (h : clsAt s i = 2) : byt s i < 32 ∨ 127 ≤ byt s i := by
 unfold clsAt at h
 split at h
 ·omega
 ·have hr := uC_cases s i
  unfold cls at h
  split at h
  ·omega
  split at h
  ·omega
  split at h
  ·have := byt_lt s i
   omega
  split at h
  ·omega
  split at h <;> omega
set_option maxRecDepth 100000 in
set_option maxHeartbeats 2000000 in
theorem cdrawn_any (s : ByteArray) (w : World) (hs : s.size ≤ 1099511627776) (hT : Lib.Utf8Tabs 0 1 w) :
  Calls Tryd.prog 56 #[.string s] w fun e w' => e = .returned (.string (drawnS s)) ∧ Below w.heap.size w w' := by
 have hlen : (clusL s).length ≤ s.size := clusL_length s
 have hu := Tryd.underlying53
 have hub := Tryd.underlying85
 refine (callsIn_wide (n := 6)).1 ?_
 refine callsIn_of_wp_marks Tryd.func56 rfl trivial ?_ rfl
 simp only [Tryd.ntmps56,List.size_toArray,List.length_cons,List.length_nil,Nat.reduceAdd,Nat.reduceSub,Array.replicate_succ,Array.replicate_zero,List.push_toArray,List.append_toArray,List.nil_append,List.cons_append]
 gi_wp2_with (refine ⟨trivial,?_⟩;gi_at_call 41;refine (callsIn_wide.2 (cwalk_calls s _)).mono ?_;rintro e w' ⟨rfl,rfl⟩)
 simp only [Nat.add_assoc,Nat.reduceAdd]
 have bS0 := ((Boxed.new w 9 (.string s)).alloc (.cells #[.pointer none,.slice none 0 0] 85)).alloc (.cells #[.string s] 9)
 have bS := Boxed.new ((w.alloc (.cells #[.string s] 9)).alloc (.cells #[.pointer none,.slice none 0 0] 85)) 9 (.string s)
 rw [World.size_alloc,World.size_alloc] at bS
 have bB : (((w.alloc (.cells #[.string s] 9)).alloc (.cells #[.pointer none,.slice none 0 0] 85)).alloc (.cells #[.string s] 9)).heap[w.heap.size + 1]? = some (.cells #[.pointer none,.slice none 0 0] 85 (0,0)) := by
  have := World.alloc_heap_new (w.alloc (.cells #[.string s] 9)) (.cells #[.pointer none,.slice none 0 0] 85)
  rw [World.size_alloc] at this
  exact (Below.heap_alloc _ _ _ (by simp)).trans this
 have hB0 : Below w.heap.size w (((w.alloc (.cells #[.string s] 9)).alloc (.cells #[.pointer none,.slice none 0 0] 85)).alloc (.cells #[.string s] 9)) := (((Below.refl _ w).alloc (Nat.le_refl _) _).alloc (by simp) _).alloc (by simp;omega) _
 have hsz : (((w.alloc (.cells #[.string s] 9)).alloc (.cells #[.pointer none,.slice none 0 0] 85)).alloc (.cells #[.string s] 9)).heap.size = w.heap.size + 3 := by simp
 obtain ⟨W0,hW0⟩ : ∃ W0,((w.alloc (.cells #[.string s] 9)).alloc (.cells #[.pointer none,.slice none 0 0] 85)).alloc (.cells #[.string s] 9) = W0 := ⟨_,rfl⟩
 rw [hW0] at bS0 bS bB hB0 hsz ⊢
 clear hW0
 refine range_outer (α := S53) rfl (by omega) (gf := 83) (lb := #[.pointer (some ⟨w.heap.size + 2,0,none⟩)]) rfl trivial (enters_of Tryd.func83 (by kernel_rfl) rfl)
  (cwalk1_seq 5 (by omega) w W0 s (w.heap.size + 2) hs hT hB0 bS) (Below.refl _ _) (fun _ => rfl) (by omega)
  (fun (B : Nat) (pre : List S53) (W : World) => (((∃ v,BldAt w.heap.size (w.heap.size + 1) (Lib.byteCells (drawU s pre)) v W ∧ (∀ g,v.ownBlock = some g → g < B)) ∧ Boxed W w.heap.size 9 (.string s)) ∧ Boxed W (w.heap.size + 2) 9 (.string s)) ∧ Below w.heap.size w W ∧ (w.heap.size + 2 < B ∧ pre <+: clusL s))
  (fun _ _ _ => False)
  (fun B pre X Y row h hg hr => ⟨⟨⟨by obtain ⟨v,h1,h2⟩ := h.1.1.1;exact ⟨v,h1.grow hg (fun r e => (hr r e).2),h2⟩,boxed_grow h.1.1.2 hg (fun r e => (hr r e).2)⟩,boxed_grow h.1.2 hg (fun r e => (hr r e).2)⟩,h.2.1.grown hg h.2.1.size (fun k e => by have := (hr k e).1;omega),h.2.2⟩)
  (fun B B' pre W hBB h => ⟨⟨⟨by obtain ⟨v,h1,h2⟩ := h.1.1.1;exact ⟨v,h1,fun g hg => Nat.lt_of_lt_of_le (h2 g hg) hBB⟩,h.1.1.2⟩,h.1.2⟩,h.2.1,by omega,h.2.2.2⟩)
  (fun _ _ _ _ _ hs _ _ => hs)
  ⟨⟨⟨⟨_,⟨_,.inl rfl,bB,World.ownsRowF_of (World.ownsRow_nil _ _ _ _),by simp [Value.ownBlock]⟩,by simp [Value.ownBlock]⟩,bS0⟩,bS⟩,hB0,by omega,List.nil_prefix⟩
  (fun (x : S53) (a' : Act) (W : World) => ∃ Bx,Hid (W.heap[Bx]? = some (.cells #[.int .i64 x.f0,.int .i64 x.f1,.int .i64 x.f2,.int .i64 x.f3] 53 (0,0))) ∧ a' = { tmps := #[.string s,.pointer (some ⟨w.heap.size,0,none⟩),.string ⟨#[]⟩,.pointer (some ⟨w.heap.size + 1,0,none⟩),.pointer (some ⟨Bx,0,none⟩),undef,undef,.string s,.func (.func 83) #[] #[.pointer (some ⟨w.heap.size + 2,0,none⟩)],.agg #[.int .i64 x.f0,.int .i64 x.f1,.int .i64 x.f2,.int .i64 x.f3],undef,undef,undef,undef,undef,undef,undef,undef,undef,undef,undef,undef,undef,undef,undef,undef,undef,undef,undef,undef,undef,undef,undef,undef,undef,undef,undef,undef,undef,undef,undef,undef,undef,undef,undef,undef,undef,undef,undef,undef,undef,undef],defers := [] })
  (fun x a' _ X Y row hs hg hr => by
   obtain ⟨Bx,h1,h2⟩ := hs
   refine ⟨Bx,?_,h2⟩
   refine (hg.block Bx (Array.getElem?_eq_some_iff.1 h1).1 (fun e => ?_)).trans h1
   obtain ⟨_,o,ho,hc⟩ := hr Bx e.symm
   rw [show X.heap[Bx]? = _ from h1] at ho;cases ho;cases hc)
  ?assign ?body ?done ?stop
 case assign =>
  rintro l B pre x W K hCW hBW hI hK
  have hsz1 := hI.2.1.size
  gi_wp2
  exact hK _ _ ((KeepsOthers.alloc _ _).from _) (KeepB.of_below hsz1 ((Below.refl _ W).alloc (Nat.le_refl _) _)) ⟨⟨⟨by obtain ⟨v,h1,h2⟩ := hI.1.1.1;exact ⟨v,h1.grow (World.grownBy_alloc W _ none) (fun r e => by cases e),h2⟩,hI.1.1.2.alloc _⟩,hI.1.2.alloc _⟩,hI.2.1.alloc hsz1 _,hI.2.2⟩ ⟨W.heap.size,Lib.hid (World.alloc_heap_new W _),rfl⟩
 case body =>
  rintro l B pre x a' W hl hCW hr hBW ⟨⟨⟨⟨v,hv,hvB⟩,hb0⟩,hb2⟩,hB,hoB,hpp⟩ ⟨Bx,hBx,rfl⟩ hlt hpx
  have hsz1 := hB.size
  have hrun : (drawU s (pre ++ [x])).length ≤ 3 * s.size := by have := draw_size s (pre ++ [x]) 0 (cb_zero s) (Nat.zero_le _) hpx;omega
  rw [drawU_snoc,List.length_append] at hrun
  have hfin : ∀ (C : Nat) (t : ByteArray) (v' : Value) (W' : World),drawB s x = t → BldAt w.heap.size (w.heap.size + 1) (Lib.byteCells (drawU s pre) ++ Lib.strCells t) v' W' → Wrote w.heap.size (w.heap.size + 1) v W W' →
    KeepsFrom C W W' ∧ KeepB w.heap.size (fun k => k = w.heap.size + 2) B W W' ∧ (((∃ v,BldAt w.heap.size (w.heap.size + 1) (Lib.byteCells (drawU s (pre ++ [x]))) v W' ∧ (∀ g,v.ownBlock = some g → g < W'.heap.size)) ∧ Boxed W' w.heap.size 9 (.string s)) ∧ Boxed W' (w.heap.size + 2) 9 (.string s)) ∧ Below w.heap.size w W' ∧ (w.heap.size + 2 < W'.heap.size ∧ (pre ++ [x]) <+: clusL s) := by
   rintro C t v' W' rfl hb' hw
   obtain ⟨_,_,_,hrow,_⟩ := hv
   have hkeep : ∀ (k : Nat) (o : Obj),(k = w.heap.size + 2 ∨ k = w.heap.size ∨ B ≤ k) → W.heap[k]? = some o → (∀ g,v.ownBlock = some g → k ≠ g) → W'.heap[k]? = some o := fun k o hk ho hne =>
    (hw.keep k (Array.getElem?_eq_some_iff.1 ho).1 (by omega) (fun e => hne k e.symm rfl)).trans ho
   have hnot : ∀ k,Boxed W k 9 (.string s) → ∀ g,v.ownBlock = some g → k ≠ g := by
    rintro k hk g hg rfl
    obtain ⟨c,fz,hc⟩ := Lib.ownsRowF_kind hrow k hg
    rw [show W.heap[k]? = _ from hk] at hc
    injection hc with hc;injection hc with _ h2 _
    exact absurd h2 (by decide)
   refine ⟨hw.others.from _,⟨hw.below,fun k o hk ho _ => ?_⟩,⟨⟨⟨v',?_,?_⟩,?_⟩,?_⟩,hB.trans hw.below,?_,hpx⟩
   ·rcases hk with hk | hk
    ·have hk : k = w.heap.size + 2 := hk
     exact hkeep k o (.inl hk) ho (by rw [hk];exact hnot _ hb2)
    ·exact hkeep k o (.inr (.inr hk)) ho (fun g hg => by have := hvB g hg;omega)
   ·rw [drawU_snoc,← cells_app];exact hb'
   ·intro g hg;obtain ⟨_,_,_,hrow',_⟩ := hb';exact (hrow'.lt g hg).2
   ·exact hkeep _ _ (.inr (.inl rfl)) hb0 (hnot _ hb0)
   ·exact hkeep _ _ (.inl rfl) hb2 (hnot _ hb2)
   ·have := hw.below.size;have := hw.others.size;omega
  have hwr : ∀ t : ByteArray,drawB s x = t → Calls Tryd.prog 87 #[.pointer (some ⟨w.heap.size + 1,0,none⟩),.string t] W fun e w' => e = .returned (.tuple #[.int .i64 t.size,.nilIface]) ∧ ∃ v',BldAt w.heap.size (w.heap.size + 1) (Lib.byteCells (drawU s pre) ++ Lib.strCells t) v' w' ∧ Wrote w.heap.size (w.heap.size + 1) v W w' := by
   rintro t rfl
   refine writeString_calls w.heap.size (w.heap.size + 1) _ v _ W hv hsz1 (by omega) ?_
   rw [Lib.byteCells_length]
   have e : (drawB s x).data.toList.length = (drawB s x).size := rfl
   omega
  obtain ⟨i,hci,hilt,hxi⟩ := clus_mem s s.size 0 (cb_zero s) x (hpx.subset (by simp))
  have hcl : x.f2 = 2 → byt s i < 32 ∨ 127 ≤ byt s i := by rw [hxi];exact ctl_low s i
  obtain ⟨t,ht⟩ : ∃ t,nxt s i = t := ⟨_,rfl⟩
  have ht1 : i < t := ht ▸ nxt_pos s i hilt
  have ht2 : t ≤ s.size := ht ▸ nxt_le s i hci.1 hilt
  obtain ⟨x0,x1,x2,x3⟩ := x
  injection hxi with e0 e1 e2 e3
  subst e0
  rw [ht] at e1
  subst e1
  clear e2 e3 ht
  have hd : drawB s ⟨(i : Int),(t : Int),x2,x3⟩ = (if x2 = 1 then ⟨#[]⟩ else if x2 = 2 then (if byt s i = 127 then ⟨#[94,63]⟩ else if byt s i < 128 then (⟨#[94]⟩ : ByteArray) ++ Utf8.encode ((byt s i : Int) + 64) else ⟨#[239,191,189]⟩)
   else if x2 = 3 then (⟨#[32]⟩ : ByteArray) ++ s.extract i t else if x2 = 5 then (⟨#[239,191,189]⟩ : ByteArray) ++ (s.extract i t).extract 1 (s.extract i t).size else s.extract i t) := by unfold drawB;rw [Int.toNat_natCast,Int.toNat_natCast]
  have c0 := hb0.cell
  have hcx0 : W.cell? ⟨Bx,0,none⟩ = some (.int .i64 (i : Int)) := by simp [World.cell?,show W.heap[Bx]? = _ from hBx]
  have hcx1 : W.cell? ⟨Bx,1,none⟩ = some (.int .i64 (t : Int)) := by simp [World.cell?,show W.heap[Bx]? = _ from hBx]
  have hcx2 : W.cell? ⟨Bx,2,none⟩ = some (.int .i64 x2) := by simp [World.cell?,show W.heap[Bx]? = _ from hBx]
  have hv' := Lib.hid hv
  have hl0 : (i : Int) ≤ (t : Int) := by omega
  have hl1 : (t : Int) ≤ (s.size : Int) := by omega
  have hl2 : (0 : Int) ≤ (i : Int) := by omega
  obtain ⟨c,hc⟩ : ∃ c,s.extract i t = c := ⟨_,rfl⟩
  have hcs : c.size = t - i := by rw [← hc];exact size_extract _ _ _ ht2
  have hkb : byt c 0 = byt s i := by rw [← hc];exact byt_extract s i t 0 (by omega) ht2
  obtain ⟨kk,hkk⟩ : ∃ kk : Int,(byt s i : Int) = kk := ⟨_,rfl⟩
  have hk0 : 0 ≤ kk ∧ kk ≤ 255 := by have := byt_lt s i;omega
  have hx6 : ∀ h : 0 < c.size,((c[0]'h).toNat : Int) = kk := fun h => by rw [← hkk,← hkb,← bt_byt c 0 h];exact bt_at c 0 h
  have hq0 : (0 < (c.size : Int)) = True := eq_true (by omega)
  have hq1 : (0 < c.size) = True := eq_true (by omega)
  have hq2 : (1 ≤ (c.size : Int)) = True := eq_true (by omega)
  rw [hc] at hd
  have hdk : Hid (byt s i = 127 ↔ kk = 127) := Lib.hid (by omega)
  have hdl : Hid (byt s i < 128 ↔ kk < 128) := Lib.hid (by omega)
  have hde : Hid ((byt s i : Int) = kk) := Lib.hid hkk
  have hs1 : decide (1 + c.size ≤ 9223372036854775807) = true := decide_eq_true (by omega)
  have hs1b : (9223372036854775807 < 1 + c.size) = False := eq_false (by omega)
  obtain ⟨c1,hc1⟩ : ∃ c1,c.extract 1 c.size = c1 := ⟨_,rfl⟩
  have hcs1 : c1.size = c.size - 1 := by rw [← hc1];exact size_extract _ _ _ (Nat.le_refl _)
  rw [hc1] at hd
  have hs3 : decide (3 + c1.size ≤ 9223372036854775807) = true := decide_eq_true (by omega)
  have hs3b : (9223372036854775807 < 3 + c1.size) = False := eq_false (by omega)
  have hd := Lib.hid hd
  have hfin := Lib.hid hfin
  have hwr := Lib.hid hwr
  clear hrun hBx hv hvB hb0 hb2 hB hpp hpx hlt hr hci hkk hkb hilt ht1 ht2 hcs hcs1
  by_cases h1 : x2 = 1
  ·have h1b : (x2 == 1) = true := by simpa using h1
   have hq := Lib.hid (hd.out.trans (if_pos h1))
   clear h1
   gi_wp2
   exact hfin.out _ ⟨#[]⟩ v W hq.out (by rw [show Lib.strCells ⟨#[]⟩ = [] from rfl,List.append_nil];exact hv'.out) (Wrote.refl _ _ _ _)
  ·have h1b : (x2 == 1) = false := by simpa using h1
   have hd1 := Lib.hid (hd.out.trans (if_neg h1))
   clear h1
   by_cases h2 : x2 = 2
   ·have h2b : (x2 == 2) = true := by simpa using h2
    have hd2 := Lib.hid (hd1.out.trans (if_pos h2))
    clear h2 hcl
    by_cases h7 : kk = 127
    ·have h7b : (kk == 127) = true := by simpa using h7
     have hq := Lib.hid (hd2.out.trans (if_pos (hdk.out.2 h7)))
     clear h7 hk0
     gi_wp2_with (refine ⟨trivial,?_⟩;gi_at_call 87;refine (callsIn_wide.2 (hwr.out (⟨#[94,63]⟩) hq.out)).mono ?_;rintro e W' ⟨rfl,v',hb',hw'⟩)
     exact hfin.out _ (⟨#[94,63]⟩) v' W' hq.out hb' hw'
    ·have h7b : (kk == 127) = false := by simpa using h7
     have hd3 := Lib.hid (hd2.out.trans (if_neg (fun h => h7 (hdk.out.1 h))))
     clear h7
     by_cases h8 : kk < 128
     ·have h8b : decide (kk < 128) = true := decide_eq_true h8
      have hq := Lib.hid (hd3.out.trans (if_pos (hdl.out.2 h8)))
      rw [hde.out] at hq
      have hw1 : IntKind.i32.wrap kk = kk := (i32_w _).trans (w32 (by omega) (by omega))
      have hw2 : IntKind.i32.wrap (kk + 64) = kk + 64 := (i32_w _).trans (w32 (by omega) (by omega))
      have hes2 : (Utf8.encode (kk + 64)).size ≤ 2 := by have := encode_low (byt s i) (hdl.out.2 h8);rwa [hde.out] at this
      obtain ⟨es,hes⟩ : ∃ es,Utf8.encode (kk + 64) = es := ⟨_,rfl⟩
      rw [hes] at hq hes2
      have he1 : decide (1 + es.size ≤ 9223372036854775807) = true := decide_eq_true (by omega)
      have he2 : (9223372036854775807 < 1 + es.size) = False := eq_false (by omega)
      have hq := Lib.hid hq
      clear h8 hk0 hes2
      gi_wp2_with (refine ⟨trivial,?_⟩;gi_at_call 87;refine (callsIn_wide.2 (hwr.out ((⟨#[94]⟩ : ByteArray) ++ es) hq.out)).mono ?_;rintro e W' ⟨rfl,v',hb',hw'⟩)
      exact hfin.out _ ((⟨#[94]⟩ : ByteArray) ++ es) v' W' hq.out hb' hw'
     ·have h8b : decide (kk < 128) = false := decide_eq_false h8
      have hq := Lib.hid (hd3.out.trans (if_neg (fun h => h8 (hdl.out.1 h))))
      clear h8 hk0
      gi_wp2_with (refine ⟨trivial,?_⟩;gi_at_call 87;refine (callsIn_wide.2 (hwr.out (⟨#[239,191,189]⟩) hq.out)).mono ?_;rintro e W' ⟨rfl,v',hb',hw'⟩)
      exact hfin.out _ (⟨#[239,191,189]⟩) v' W' hq.out hb' hw'
   ·have h2b : (x2 == 2) = false := by simpa using h2
    have hd2 := Lib.hid (hd1.out.trans (if_neg h2))
    clear h2 hcl hk0
    by_cases h3 : x2 = 3
    ·have h3b : (x2 == 3) = true := by simpa using h3
     have hq := Lib.hid (hd2.out.trans (if_pos h3))
     clear h3
     gi_wp2_with (refine ⟨trivial,?_⟩;gi_at_call 87;refine (callsIn_wide.2 (hwr.out ((⟨#[32]⟩ : ByteArray) ++ c) hq.out)).mono ?_;rintro e W' ⟨rfl,v',hb',hw'⟩)
     exact hfin.out _ ((⟨#[32]⟩ : ByteArray) ++ c) v' W' hq.out hb' hw'
    ·have h3b : (x2 == 3) = false := by simpa using h3
     have hd3 := Lib.hid (hd2.out.trans (if_neg h3))
     clear h3
     by_cases h5 : x2 = 5
     ·have h5b : (x2 == 5) = true := by simpa using h5
      have hq := Lib.hid (hd3.out.trans (if_pos h5))
      clear h5
      gi_wp2_with (refine ⟨trivial,?_⟩;gi_at_call 87;refine (callsIn_wide.2 (hwr.out ((⟨#[239,191,189]⟩ : ByteArray) ++ c1) hq.out)).mono ?_;rintro e W' ⟨rfl,v',hb',hw'⟩)
      exact hfin.out _ ((⟨#[239,191,189]⟩ : ByteArray) ++ c1) v' W' hq.out hb' hw'
     ·have h5b : (x2 == 5) = false := by simpa using h5
      have hq := Lib.hid (hd3.out.trans (if_neg h5))
      clear h5
      gi_wp2_with (refine ⟨trivial,?_⟩;gi_at_call 87;refine (callsIn_wide.2 (hwr.out (c) hq.out)).mono ?_;rintro e W' ⟨rfl,v',hb',hw'⟩)
      exact hfin.out _ (c) v' W' hq.out hb' hw'
 case done =>
  rintro D ys W hD hys ⟨⟨⟨⟨v,hv,_⟩,_⟩,_⟩,hB,_⟩ hK
  obtain rfl : ys = clusL s := hys
  have hsz1 := hB.size
  gi_wp2_with (refine ⟨trivial,?_⟩;gi_at_call 88;refine (callsIn_wide.2 (Tryd.Builder_String_any_k w.heap.size (w.heap.size + 1) (drawU s (clusL s)) W (hv.is (by omega)) hsz1)).mono ?_;rintro e W' ⟨rfl,_,hbw,hok⟩)
  have hK' : W'.heap[D]? = some (.deferred (some [])) := hok D _ hK (fun e => by injection e with e;omega) (fun c fz e => by cases e)
  refine ⟨by simp,.inl ⟨_,_,rfl,run_takeDeferred hK',?_⟩⟩
  exact ⟨_,results_tmp rfl _ _ _,rfl,(hB.trans hbw).trans (belowK_b (w := w) (Nat.le_refl _) W' D _ _ (by omega) hK' rfl rfl)⟩
 case stop =>
  rintro D c pre W _ _ h _
  exact h.elim
def cluster_Drawn.f (a0 : ByteArray) : Option ByteArray := if a0.size ≤ 1099511627776 then some (drawnS a0) else none
theorem cluster_Drawn.calls (a0 : ByteArray) (r : ByteArray) (w : World) (hT : Lib.Utf8Tabs 0 1 w) (h : cluster_Drawn.f a0 = some r) :
  Calls Tryd.prog 56 #[.string a0] w fun e w' => e = .returned (.string r) ∧ Below w.heap.size w w' := by
 unfold cluster_Drawn.f at h
 split at h
 ·obtain rfl := Option.some.inj h
  rename_i hs
  exact cdrawn_any a0 w hs hT
 ·cases h
end Go.Proofs.YtfhnfhgpaoddbaaDoor.U
end
section
namespace Go.Proofs.YtfhnfhgpaoddbaaDoor.U
open Go.RowKit Go.Proofs.YtfhnfhgpaoddbaaDoorW.PrintWords Go.Proofs.YtfhnfhgpaoddbaaDoorW.PrintLast Go.Proofs.YtfhnfhgpaoddbaaDoorW.PrintMore
set_option linter.unusedVariables false
set_option linter.unusedSimpArgs false
theorem steps_next : cluster_Next.f 100 ⟨#[97]⟩ 0 = some 1 := by kernel_rfl
theorem steps_snap : cluster_Snap.f 100 ⟨#[97]⟩ 1 = some 1 := by kernel_rfl
theorem cwalk_not_nil (a : Addr) (W : World) : (binOp .neq 49 (.func (.func 83) #[] #[.pointer (some a)]) .nilFunc).run Tryd.prog W = .ok (.bool true) W := by kernel_rfl
set_option maxRecDepth 100000 in
set_option maxHeartbeats 2000000 in
theorem steps_any (w : World) (hT : Lib.Utf8Tabs 0 1 w) :
  Calls Tryd.prog 79 #[] w fun e w' => e = .returned (.bool true) ∧ Below w.heap.size w w' := by
 have hnn := cwalk_not_nil
 go_enter Tryd.func79,Tryd.ntmps79
 go_wp2_with (go_at_call 46;refine (cluster_Next.calls 100 ⟨#[97]⟩ 0 1 _ hT steps_next).mono ?_)
 rintro e w1 ⟨rfl,hb1⟩
 have hT1 := tabs_below hT hb1
 go_wp2_with (go_at_call 50;refine (cluster_Snap.calls 100 ⟨#[97]⟩ 1 1 _ hT1 steps_snap).mono ?_)
 rintro e w2 ⟨rfl,hb2⟩
 have hB := hb1.trans (hb2.mono hb1.size)
 go_wp2_with (go_at_call 41;refine (cwalk_calls _ _).mono ?_;rintro e w' ⟨rfl,rfl⟩)
 go_ret
 exact ⟨rfl,hB.alloc hB.size _⟩
def bodkinlaw03_steps.f : Option (Bool) := some true
theorem bodkinlaw03_steps.calls (r : Bool) (w : World) (hT : Lib.Utf8Tabs 0 1 w) (h : bodkinlaw03_steps.f = some r) :
  Calls Tryd.prog 79 #[] w fun e w' => e = .returned (.bool r) ∧ Below w.heap.size w w' := by
 obtain rfl := Option.some.inj h
 exact steps_any w hT
end Go.Proofs.YtfhnfhgpaoddbaaDoor.U
end
section
namespace Go.Proofs.YtfhnfhgpaoddbaaDoor.U
open Go.RowKit Go.Proofs.YtfhnfhgpaoddbaaDoorW.PrintWords Go.Proofs.YtfhnfhgpaoddbaaDoorW.PrintLast Go.Proofs.YtfhnfhgpaoddbaaDoorW.PrintMore
attribute [local go_sem] max2_int min2_int max_two min_two max_three min_three max_four min_four   -- for this text's walks alone
set_option linter.unusedVariables false
set_option linter.unusedSimpArgs false
attribute [local go_sem high] eqA53
def bodkinlaw03_fixed.f (k : Nat)  : Option (Bool) := (bodkinlaw03_steps.f).bind fun t258 => (if t258 = true then ((cluster_List.f (⟨#[97,204,129,13,10,228,184,128,255]⟩ : ByteArray)).bind fun t259 => (if (t259.length : Int) = 4 then (if 0 < (t259.length : Int) then (if (((rd_T53 t259 0).f0) == 0 && (((rd_T53 t259 0).f1) == 3 && (((rd_T53 t259 0).f2) == 0 && (((rd_T53 t259 0).f3) == 1)))) = true then (if 1 < (t259.length : Int) then (if (((rd_T53 t259 1).f0) == 3 && (((rd_T53 t259 1).f1) == 5 && (((rd_T53 t259 1).f2) == 1 && (((rd_T53 t259 1).f3) == 0)))) = true then (if 2 < (t259.length : Int) then (if (((rd_T53 t259 2).f0) == 5 && (((rd_T53 t259 2).f1) == 8 && (((rd_T53 t259 2).f2) == 4 && (((rd_T53 t259 2).f3) == 2)))) = true then (if 3 < (t259.length : Int) then (if (((rd_T53 t259 3).f0) == 8 && (((rd_T53 t259 3).f1) == 9 && (((rd_T53 t259 3).f2) == 5 && (((rd_T53 t259 3).f3) == 1)))) = true then ((cluster_Next.f k (⟨#[97,204,129,98]⟩ : ByteArray) 0).bind fun t266 => (if t266 = 3 then ((cluster_Boundary.f k (⟨#[97,204,129,98]⟩ : ByteArray) 1).bind fun t267 => (if t267 = true then (some false) else ((cluster_Boundary.f k (⟨#[]⟩ : ByteArray) 0).bind fun t268 => (if t268 = true then ((cluster_Drawn.f (⟨#[1]⟩ : ByteArray)).bind fun t269 => (some (t269.toList == ([94,65] : List UInt8)))) else (some false))))) else (some false))) else (some false)) else (none)) else (some false)) else (none)) else (some false)) else (none)) else (some false)) else (none)) else (some false))) else (some false))
theorem bodkinlaw03_fixed.mono : ∀ k,LeO (bodkinlaw03_fixed.f k ) (bodkinlaw03_fixed.f (k + 1) ) := by
 intro  k
 unfold bodkinlaw03_fixed.f
 repeat' first
   | (with_reducible exact cluster_Boundary.mono _ _ _)
   | (with_reducible exact cluster_Next.mono _ _ _)
   | (with_reducible exact LeO.refl _)
   | (with_reducible exact LeO.none _)
   | (with_reducible refine LeO.ite ?_ ?_)
   | (with_reducible refine LeO.bind ?_ (fun _ => ?_))
   | exact cluster_Boundary.mono _ _ _
   | exact cluster_Next.mono _ _ _
   | exact LeO.none _
   | refine LeO.ite ?_ ?_
   | refine LeO.bind ?_ (fun _ => ?_)
set_option maxHeartbeats 8000000 in
set_option maxRecDepth 100000 in
theorem bodkinlaw03_fixed.calls (k : Nat)  (r : Bool) (hr_ : r = true) (w : World) (hT : Lib.Utf8Tabs 0 1 w) (h : bodkinlaw03_fixed.f k  = some r) :
  Calls Tryd.prog 39 #[] w fun e w' => e = .returned (.bool r) ∧ Below w.heap.size w w' := by
 have hu53 := Tryd.underlying53
 have HT := Aside0.mk hT
 clear hT
 have HB := Aside0.mk (Below.refl w.heap.size w)
 have H : ((bodkinlaw03_steps.f).bind fun t258 => (if t258 = true then ((cluster_List.f (⟨#[97,204,129,13,10,228,184,128,255]⟩ : ByteArray)).bind fun t259 => (if (t259.length : Int) = 4 then (if 0 < (t259.length : Int) then (if (((rd_T53 t259 0).f0) == 0 && (((rd_T53 t259 0).f1) == 3 && (((rd_T53 t259 0).f2) == 0 && (((rd_T53 t259 0).f3) == 1)))) = true then (if 1 < (t259.length : Int) then (if (((rd_T53 t259 1).f0) == 3 && (((rd_T53 t259 1).f1) == 5 && (((rd_T53 t259 1).f2) == 1 && (((rd_T53 t259 1).f3) == 0)))) = true then (if 2 < (t259.length : Int) then (if (((rd_T53 t259 2).f0) == 5 && (((rd_T53 t259 2).f1) == 8 && (((rd_T53 t259 2).f2) == 4 && (((rd_T53 t259 2).f3) == 2)))) = true then (if 3 < (t259.length : Int) then (if (((rd_T53 t259 3).f0) == 8 && (((rd_T53 t259 3).f1) == 9 && (((rd_T53 t259 3).f2) == 5 && (((rd_T53 t259 3).f3) == 1)))) = true then ((cluster_Next.f k (⟨#[97,204,129,98]⟩ : ByteArray) 0).bind fun t266 => (if t266 = 3 then ((cluster_Boundary.f k (⟨#[97,204,129,98]⟩ : ByteArray) 1).bind fun t267 => (if t267 = true then (some false) else ((cluster_Boundary.f k (⟨#[]⟩ : ByteArray) 0).bind fun t268 => (if t268 = true then ((cluster_Drawn.f (⟨#[1]⟩ : ByteArray)).bind fun t269 => (some (t269.toList == ([94,65] : List UInt8)))) else (some false))))) else (some false))) else (some false)) else (none)) else (some false)) else (none)) else (some false)) else (none)) else (some false)) else (none)) else (some false))) else (some false))) = some r := h
 clear h
 replace H := Option.bind_eq_some_iff.mp H
 obtain ⟨t258,A10,H⟩ := H
 replace H : (if t258 = true then ((cluster_List.f (⟨#[97,204,129,13,10,228,184,128,255]⟩ : ByteArray)).bind fun t259 => (if (t259.length : Int) = 4 then (if 0 < (t259.length : Int) then (if (((rd_T53 t259 0).f0) == 0 && (((rd_T53 t259 0).f1) == 3 && (((rd_T53 t259 0).f2) == 0 && (((rd_T53 t259 0).f3) == 1)))) = true then (if 1 < (t259.length : Int) then (if (((rd_T53 t259 1).f0) == 3 && (((rd_T53 t259 1).f1) == 5 && (((rd_T53 t259 1).f2) == 1 && (((rd_T53 t259 1).f3) == 0)))) = true then (if 2 < (t259.length : Int) then (if (((rd_T53 t259 2).f0) == 5 && (((rd_T53 t259 2).f1) == 8 && (((rd_T53 t259 2).f2) == 4 && (((rd_T53 t259 2).f3) == 2)))) = true then (if 3 < (t259.length : Int) then (if (((rd_T53 t259 3).f0) == 8 && (((rd_T53 t259 3).f1) == 9 && (((rd_T53 t259 3).f2) == 5 && (((rd_T53 t259 3).f3) == 1)))) = true then ((cluster_Next.f k (⟨#[97,204,129,98]⟩ : ByteArray) 0).bind fun t266 => (if t266 = 3 then ((cluster_Boundary.f k (⟨#[97,204,129,98]⟩ : ByteArray) 1).bind fun t267 => (if t267 = true then (some false) else ((cluster_Boundary.f k (⟨#[]⟩ : ByteArray) 0).bind fun t268 => (if t268 = true then ((cluster_Drawn.f (⟨#[1]⟩ : ByteArray)).bind fun t269 => (some (t269.toList == ([94,65] : List UInt8)))) else (some false))))) else (some false))) else (some false)) else (none)) else (some false)) else (none)) else (some false)) else (none)) else (some false)) else (none)) else (some false))) else (some false)) = some r := H
 have A1 := Aside0.mk A10
 clear A10
 by_cases c2 : t258 = true
 ·subst c2
  have H1 : ((cluster_List.f (⟨#[97,204,129,13,10,228,184,128,255]⟩ : ByteArray)).bind fun t259 => (if (t259.length : Int) = 4 then (if 0 < (t259.length : Int) then (if (((rd_T53 t259 0).f0) == 0 && (((rd_T53 t259 0).f1) == 3 && (((rd_T53 t259 0).f2) == 0 && (((rd_T53 t259 0).f3) == 1)))) = true then (if 1 < (t259.length : Int) then (if (((rd_T53 t259 1).f0) == 3 && (((rd_T53 t259 1).f1) == 5 && (((rd_T53 t259 1).f2) == 1 && (((rd_T53 t259 1).f3) == 0)))) = true then (if 2 < (t259.length : Int) then (if (((rd_T53 t259 2).f0) == 5 && (((rd_T53 t259 2).f1) == 8 && (((rd_T53 t259 2).f2) == 4 && (((rd_T53 t259 2).f3) == 2)))) = true then (if 3 < (t259.length : Int) then (if (((rd_T53 t259 3).f0) == 8 && (((rd_T53 t259 3).f1) == 9 && (((rd_T53 t259 3).f2) == 5 && (((rd_T53 t259 3).f3) == 1)))) = true then ((cluster_Next.f k (⟨#[97,204,129,98]⟩ : ByteArray) 0).bind fun t266 => (if t266 = 3 then ((cluster_Boundary.f k (⟨#[97,204,129,98]⟩ : ByteArray) 1).bind fun t267 => (if t267 = true then (some false) else ((cluster_Boundary.f k (⟨#[]⟩ : ByteArray) 0).bind fun t268 => (if t268 = true then ((cluster_Drawn.f (⟨#[1]⟩ : ByteArray)).bind fun t269 => (some (t269.toList == ([94,65] : List UInt8)))) else (some false))))) else (some false))) else (some false)) else (none)) else (some false)) else (none)) else (some false)) else (none)) else (some false)) else (none)) else (some false))) = some r := by rw [if_pos rfl] at H;exact H
  clear H
  have H := H1
  clear H1
  replace H := Option.bind_eq_some_iff.mp H
  obtain ⟨t259,A30,H⟩ := H
  replace H : (if (t259.length : Int) = 4 then (if 0 < (t259.length : Int) then (if (((rd_T53 t259 0).f0) == 0 && (((rd_T53 t259 0).f1) == 3 && (((rd_T53 t259 0).f2) == 0 && (((rd_T53 t259 0).f3) == 1)))) = true then (if 1 < (t259.length : Int) then (if (((rd_T53 t259 1).f0) == 3 && (((rd_T53 t259 1).f1) == 5 && (((rd_T53 t259 1).f2) == 1 && (((rd_T53 t259 1).f3) == 0)))) = true then (if 2 < (t259.length : Int) then (if (((rd_T53 t259 2).f0) == 5 && (((rd_T53 t259 2).f1) == 8 && (((rd_T53 t259 2).f2) == 4 && (((rd_T53 t259 2).f3) == 2)))) = true then (if 3 < (t259.length : Int) then (if (((rd_T53 t259 3).f0) == 8 && (((rd_T53 t259 3).f1) == 9 && (((rd_T53 t259 3).f2) == 5 && (((rd_T53 t259 3).f3) == 1)))) = true then ((cluster_Next.f k (⟨#[97,204,129,98]⟩ : ByteArray) 0).bind fun t266 => (if t266 = 3 then ((cluster_Boundary.f k (⟨#[97,204,129,98]⟩ : ByteArray) 1).bind fun t267 => (if t267 = true then (some false) else ((cluster_Boundary.f k (⟨#[]⟩ : ByteArray) 0).bind fun t268 => (if t268 = true then ((cluster_Drawn.f (⟨#[1]⟩ : ByteArray)).bind fun t269 => (some (t269.toList == ([94,65] : List UInt8)))) else (some false))))) else (some false))) else (some false)) else (none)) else (some false)) else (none)) else (some false)) else (none)) else (some false)) else (none)) else (some false)) = some r := H
  have A3 := Aside0.mk A30
  clear A30
  by_cases c4 : (t259.length : Int) = 4
  ·rw [if_pos c4] at H
   have c4b0 : ((t259.length : Int) == 4) = true := beq_iff_eq.mpr c4
   have c4b1 : ((t259.length : Int) != 4) = false := bne_eq_false_iff_eq.mpr c4
   clear c4
   by_cases c5 : 0 < (t259.length : Int)
   ·rw [if_pos c5] at H
    have c5b0 : decide (0 < (t259.length : Int)) = true := decide_eq_true c5
    have c5b1 : decide (0 < t259.length) = true := decide_eq_true (by omega)
    clear c5
    by_cases c6 : (((rd_T53 t259 0).f0) == 0 && (((rd_T53 t259 0).f1) == 3 && (((rd_T53 t259 0).f2) == 0 && (((rd_T53 t259 0).f3) == 1)))) = true
    ·rw [if_pos c6] at H
     have c6b0 : (((rd_T53 t259 0).f0) == 0 && (((rd_T53 t259 0).f1) == 3 && (((rd_T53 t259 0).f2) == 0 && (((rd_T53 t259 0).f3) == 1)))) = true := c6
     (try (have c6b1 : decide (((rd_T53 t259 0).f0) = 0 && (((rd_T53 t259 0).f1) == 3 && (((rd_T53 t259 0).f2) == 0 && (((rd_T53 t259 0).f3) == 1)))) = true := by simpa using c6))
     (try (have c6b2 : (((rd_T53 t259 0).f0) == 0 && (((rd_T53 t259 0).f1) == 3 && (((rd_T53 t259 0).f2) == 0 && (((rd_T53 t259 0).f3) == 1)))) = true := by simpa using c6))
     clear c6
     by_cases c7 : 1 < (t259.length : Int)
     ·rw [if_pos c7] at H
      have c7b0 : decide (1 < (t259.length : Int)) = true := decide_eq_true c7
      have c7b1 : decide (1 < t259.length) = true := decide_eq_true (by omega)
      clear c7
      by_cases c8 : (((rd_T53 t259 1).f0) == 3 && (((rd_T53 t259 1).f1) == 5 && (((rd_T53 t259 1).f2) == 1 && (((rd_T53 t259 1).f3) == 0)))) = true
      ·rw [if_pos c8] at H
       have c8b0 : (((rd_T53 t259 1).f0) == 3 && (((rd_T53 t259 1).f1) == 5 && (((rd_T53 t259 1).f2) == 1 && (((rd_T53 t259 1).f3) == 0)))) = true := c8
       (try (have c8b1 : decide (((rd_T53 t259 1).f0) = 3 && (((rd_T53 t259 1).f1) == 5 && (((rd_T53 t259 1).f2) == 1 && (((rd_T53 t259 1).f3) == 0)))) = true := by simpa using c8))
       (try (have c8b2 : (((rd_T53 t259 1).f0) == 3 && (((rd_T53 t259 1).f1) == 5 && (((rd_T53 t259 1).f2) == 1 && (((rd_T53 t259 1).f3) == 0)))) = true := by simpa using c8))
       clear c8
       by_cases c9 : 2 < (t259.length : Int)
       ·rw [if_pos c9] at H
        have c9b0 : decide (2 < (t259.length : Int)) = true := decide_eq_true c9
        have c9b1 : decide (2 < t259.length) = true := decide_eq_true (by omega)
        clear c9
        by_cases c10 : (((rd_T53 t259 2).f0) == 5 && (((rd_T53 t259 2).f1) == 8 && (((rd_T53 t259 2).f2) == 4 && (((rd_T53 t259 2).f3) == 2)))) = true
        ·rw [if_pos c10] at H
         have c10b0 : (((rd_T53 t259 2).f0) == 5 && (((rd_T53 t259 2).f1) == 8 && (((rd_T53 t259 2).f2) == 4 && (((rd_T53 t259 2).f3) == 2)))) = true := c10
         (try (have c10b1 : decide (((rd_T53 t259 2).f0) = 5 && (((rd_T53 t259 2).f1) == 8 && (((rd_T53 t259 2).f2) == 4 && (((rd_T53 t259 2).f3) == 2)))) = true := by simpa using c10))
         (try (have c10b2 : (((rd_T53 t259 2).f0) == 5 && (((rd_T53 t259 2).f1) == 8 && (((rd_T53 t259 2).f2) == 4 && (((rd_T53 t259 2).f3) == 2)))) = true := by simpa using c10))
         clear c10
         by_cases c11 : 3 < (t259.length : Int)
         ·rw [if_pos c11] at H
          have c11b0 : decide (3 < (t259.length : Int)) = true := decide_eq_true c11
          have c11b1 : decide (3 < t259.length) = true := decide_eq_true (by omega)
          clear c11
          by_cases c12 : (((rd_T53 t259 3).f0) == 8 && (((rd_T53 t259 3).f1) == 9 && (((rd_T53 t259 3).f2) == 5 && (((rd_T53 t259 3).f3) == 1)))) = true
          ·rw [if_pos c12] at H
           have c12b0 : (((rd_T53 t259 3).f0) == 8 && (((rd_T53 t259 3).f1) == 9 && (((rd_T53 t259 3).f2) == 5 && (((rd_T53 t259 3).f3) == 1)))) = true := c12
           (try (have c12b1 : decide (((rd_T53 t259 3).f0) = 8 && (((rd_T53 t259 3).f1) == 9 && (((rd_T53 t259 3).f2) == 5 && (((rd_T53 t259 3).f3) == 1)))) = true := by simpa using c12))
           (try (have c12b2 : (((rd_T53 t259 3).f0) == 8 && (((rd_T53 t259 3).f1) == 9 && (((rd_T53 t259 3).f2) == 5 && (((rd_T53 t259 3).f3) == 1)))) = true := by simpa using c12))
           clear c12
           replace H := Option.bind_eq_some_iff.mp H
           obtain ⟨t266,A130,H⟩ := H
           replace H : (if t266 = 3 then ((cluster_Boundary.f k (⟨#[97,204,129,98]⟩ : ByteArray) 1).bind fun t267 => (if t267 = true then (some false) else ((cluster_Boundary.f k (⟨#[]⟩ : ByteArray) 0).bind fun t268 => (if t268 = true then ((cluster_Drawn.f (⟨#[1]⟩ : ByteArray)).bind fun t269 => (some (t269.toList == ([94,65] : List UInt8)))) else (some false))))) else (some false)) = some r := H
           have A13 := Aside0.mk A130
           clear A130
           by_cases c14 : t266 = 3
           ·rw [if_pos c14] at H
            have c14b0 : (t266 == 3) = true := beq_iff_eq.mpr c14
            have c14b1 : (t266 != 3) = false := bne_eq_false_iff_eq.mpr c14
            clear c14
            replace H := Option.bind_eq_some_iff.mp H
            obtain ⟨t267,A150,H⟩ := H
            replace H : (if t267 = true then (some false) else ((cluster_Boundary.f k (⟨#[]⟩ : ByteArray) 0).bind fun t268 => (if t268 = true then ((cluster_Drawn.f (⟨#[1]⟩ : ByteArray)).bind fun t269 => (some (t269.toList == ([94,65] : List UInt8)))) else (some false)))) = some r := H
            have A15 := Aside0.mk A150
            clear A150
            by_cases c16 : t267 = true
            ·subst c16
             have H1 : (some false) = some r := by rw [if_pos rfl] at H;exact H
             clear H
             have H := H1
             clear H1
             obtain rfl := Option.some.inj H
             cases hr_
            ·replace c16 := Bool.eq_false_iff.mpr c16
             subst c16
             have H1 : ((cluster_Boundary.f k (⟨#[]⟩ : ByteArray) 0).bind fun t268 => (if t268 = true then ((cluster_Drawn.f (⟨#[1]⟩ : ByteArray)).bind fun t269 => (some (t269.toList == ([94,65] : List UInt8)))) else (some false))) = some r := by rw [if_neg (show ¬ (false = true) by decide)] at H;exact H
             clear H
             have H := H1
             clear H1
             replace H := Option.bind_eq_some_iff.mp H
             obtain ⟨t268,A220,H⟩ := H
             replace H : (if t268 = true then ((cluster_Drawn.f (⟨#[1]⟩ : ByteArray)).bind fun t269 => (some (t269.toList == ([94,65] : List UInt8)))) else (some false)) = some r := H
             have A22 := Aside0.mk A220
             clear A220
             by_cases c23 : t268 = true
             ·subst c23
              have H1 : ((cluster_Drawn.f (⟨#[1]⟩ : ByteArray)).bind fun t269 => (some (t269.toList == ([94,65] : List UInt8)))) = some r := by rw [if_pos rfl] at H;exact H
              clear H
              have H := H1
              clear H1
              replace H := Option.bind_eq_some_iff.mp H
              obtain ⟨t269,A240,H⟩ := H
              replace H : (some (t269.toList == ([94,65] : List UInt8))) = some r := H
              have A24 := Aside0.mk A240
              clear A240
              obtain rfl := Option.some.inj H
              go_enter Tryd.func39,Tryd.ntmps39
              go_wp2_with (first | ((with_reducible refine gate_callee (f := 79) rfl ?_);refine goesL_ (some 2) rfl rfl Tryd.func79 (by kernel_rfl) rfl #[] rfl (by (try simp only [List.map_toArray,List.map_cons,List.map_nil]);first | done | rfl | (simp only [List.length_drop,List.length_take];rfl)) ?_;(with_reducible refine (bodkinlaw03_steps.calls  true _ ?side1 A1.out).mono ?_);(case side1 => exact tabs_below HT.out (by repeat (first | (with_reducible first | exact HB.out | apply below_alloc | apply pw_below_drewN | apply below_drew1) | exact HB.out)));rintro e w25 ⟨rfl,hb⟩;refine ⟨_,rfl,?_⟩;have n0_ := Aside0.mk (below_step (by repeat (first | (with_reducible first | exact HB.out | apply below_alloc | apply pw_below_drewN | apply below_drew1) | exact HB.out)) hb);clear HB;have HB := n0_;clear n0_;(try clear hb);(try clear hb2);(try clear hk);(try clear hi)) | ((with_reducible refine gate_callee (f := 43) rfl ?_);refine goesL_ (some 4) rfl rfl Tryd.func43 (by kernel_rfl) rfl #[.string (⟨#[97,204,129,13,10,228,184,128,255]⟩ : ByteArray)] rfl (by (try simp only [List.map_toArray,List.map_cons,List.map_nil]);first | done | rfl | (simp only [List.length_drop,List.length_take];rfl)) ?_;(with_reducible refine (cluster_List.calls (⟨#[97,204,129,13,10,228,184,128,255]⟩ : ByteArray) t259 _ ?side1 A3.out).mono ?_);(case side1 => exact tabs_below HT.out (by repeat (first | (with_reducible first | exact HB.out | apply below_alloc | apply pw_below_drewN | apply below_drew1) | exact HB.out)));rintro e w26 ⟨v260,rfl,ho0,hb⟩;refine ⟨_,rfl,?_⟩;have n0_ := Aside0.mk (Kd.R_lower ho0 (below_size (by repeat (first | (with_reducible first | exact HB.out | apply below_alloc | apply pw_below_drewN | apply below_drew1) | exact HB.out))));have n1_ := Aside0.mk (below_step (by repeat (first | (with_reducible first | exact HB.out | apply below_alloc | apply pw_below_drewN | apply below_drew1) | exact HB.out)) hb);clear HB;have HO261 := n0_;have HB := n1_;clear n0_ n1_;(try clear hb);(try clear hb2);(try clear hk);(try clear hi);(try clear ho0);obtain ⟨Ao27,co27,eo27⟩ := Kd.R_slice HO261.out;subst eo27;have p262 : 0 ≤ (0 : Int) := (by omega);have q262 : 0 < (t259.length : Int) := of_decide_eq_true (by first | (with_reducible assumption) | assumption);obtain ⟨ad262,e262,hx262_0,hx262_1,hx262_2,hx262_3⟩ := at_T53 (Kd.R_reads' HO261.out).2.2 0 p262 q262;cases e262;have qi262 : (0 < t259.length) = True := eq_true (by omega);(try rw [show ((0 : Int)).toNat = 0 from rfl] at hx262_0);(try rw [show 0 * 4 = 0 from rfl] at hx262_0);(try rw [Addr.add_zero'] at hx262_0);(try rw [show ((0 : Int)).toNat = 0 from rfl] at hx262_1);(try rw [show 0 * 4 = 0 from rfl] at hx262_1);(try rw [Addr.add_zero'] at hx262_1);(try rw [show ((0 : Int)).toNat = 0 from rfl] at hx262_2);(try rw [show 0 * 4 = 0 from rfl] at hx262_2);(try rw [Addr.add_zero'] at hx262_2);(try rw [show ((0 : Int)).toNat = 0 from rfl] at hx262_3);(try rw [show 0 * 4 = 0 from rfl] at hx262_3);(try rw [Addr.add_zero'] at hx262_3);replace p262 := eq_true p262;replace q262 := eq_true q262;have p263 : 0 ≤ (1 : Int) := (by omega);have q263 : 1 < (t259.length : Int) := of_decide_eq_true (by first | (with_reducible assumption) | assumption);obtain ⟨ad263,e263,hx263_0,hx263_1,hx263_2,hx263_3⟩ := at_T53 (Kd.R_reads' HO261.out).2.2 1 p263 q263;obtain rfl : ad262 = ad263 := (by injection e263);(try simp only [show (1 : Int).toNat = 1 from rfl,Nat.reduceMul,Nat.reduceEqDiff,Go.Addr.add,↓reduceIte] at hx263_0);(try simp only [show (1 : Int).toNat = 1 from rfl,Nat.reduceMul,Nat.reduceEqDiff,Go.Addr.add,↓reduceIte] at hx263_1);(try simp only [show (1 : Int).toNat = 1 from rfl,Nat.reduceMul,Nat.reduceEqDiff,Go.Addr.add,↓reduceIte] at hx263_2);(try simp only [show (1 : Int).toNat = 1 from rfl,Nat.reduceMul,Nat.reduceEqDiff,Go.Addr.add,↓reduceIte] at hx263_3);have qi263 : (1 < t259.length) = True := eq_true (by omega);(try rw [show ((1 : Int)).toNat = 1 from rfl] at hx263_0);(try rw [show 1 * 4 = 4 from rfl] at hx263_0);(try rw [show ((1 : Int)).toNat = 1 from rfl] at hx263_1);(try rw [show 1 * 4 = 4 from rfl] at hx263_1);(try rw [show ((1 : Int)).toNat = 1 from rfl] at hx263_2);(try rw [show 1 * 4 = 4 from rfl] at hx263_2);(try rw [show ((1 : Int)).toNat = 1 from rfl] at hx263_3);(try rw [show 1 * 4 = 4 from rfl] at hx263_3);replace p263 := eq_true p263;replace q263 := eq_true q263;have p264 : 0 ≤ (2 : Int) := (by omega);have q264 : 2 < (t259.length : Int) := of_decide_eq_true (by first | (with_reducible assumption) | assumption);obtain ⟨ad264,e264,hx264_0,hx264_1,hx264_2,hx264_3⟩ := at_T53 (Kd.R_reads' HO261.out).2.2 2 p264 q264;obtain rfl : ad262 = ad264 := (by injection e264);(try simp only [show (2 : Int).toNat = 2 from rfl,Nat.reduceMul,Nat.reduceEqDiff,Go.Addr.add,↓reduceIte] at hx264_0);(try simp only [show (2 : Int).toNat = 2 from rfl,Nat.reduceMul,Nat.reduceEqDiff,Go.Addr.add,↓reduceIte] at hx264_1);(try simp only [show (2 : Int).toNat = 2 from rfl,Nat.reduceMul,Nat.reduceEqDiff,Go.Addr.add,↓reduceIte] at hx264_2);(try simp only [show (2 : Int).toNat = 2 from rfl,Nat.reduceMul,Nat.reduceEqDiff,Go.Addr.add,↓reduceIte] at hx264_3);have qi264 : (2 < t259.length) = True := eq_true (by omega);(try rw [show ((2 : Int)).toNat = 2 from rfl] at hx264_0);(try rw [show 2 * 4 = 8 from rfl] at hx264_0);(try rw [show ((2 : Int)).toNat = 2 from rfl] at hx264_1);(try rw [show 2 * 4 = 8 from rfl] at hx264_1);(try rw [show ((2 : Int)).toNat = 2 from rfl] at hx264_2);(try rw [show 2 * 4 = 8 from rfl] at hx264_2);(try rw [show ((2 : Int)).toNat = 2 from rfl] at hx264_3);(try rw [show 2 * 4 = 8 from rfl] at hx264_3);replace p264 := eq_true p264;replace q264 := eq_true q264;have p265 : 0 ≤ (3 : Int) := (by omega);have q265 : 3 < (t259.length : Int) := of_decide_eq_true (by first | (with_reducible assumption) | assumption);obtain ⟨ad265,e265,hx265_0,hx265_1,hx265_2,hx265_3⟩ := at_T53 (Kd.R_reads' HO261.out).2.2 3 p265 q265;obtain rfl : ad262 = ad265 := (by injection e265);(try simp only [show (3 : Int).toNat = 3 from rfl,Nat.reduceMul,Nat.reduceEqDiff,Go.Addr.add,↓reduceIte] at hx265_0);(try simp only [show (3 : Int).toNat = 3 from rfl,Nat.reduceMul,Nat.reduceEqDiff,Go.Addr.add,↓reduceIte] at hx265_1);(try simp only [show (3 : Int).toNat = 3 from rfl,Nat.reduceMul,Nat.reduceEqDiff,Go.Addr.add,↓reduceIte] at hx265_2);(try simp only [show (3 : Int).toNat = 3 from rfl,Nat.reduceMul,Nat.reduceEqDiff,Go.Addr.add,↓reduceIte] at hx265_3);have qi265 : (3 < t259.length) = True := eq_true (by omega);(try rw [show ((3 : Int)).toNat = 3 from rfl] at hx265_0);(try rw [show 3 * 4 = 12 from rfl] at hx265_0);(try rw [show ((3 : Int)).toNat = 3 from rfl] at hx265_1);(try rw [show 3 * 4 = 12 from rfl] at hx265_1);(try rw [show ((3 : Int)).toNat = 3 from rfl] at hx265_2);(try rw [show 3 * 4 = 12 from rfl] at hx265_2);(try rw [show ((3 : Int)).toNat = 3 from rfl] at hx265_3);(try rw [show 3 * 4 = 12 from rfl] at hx265_3);replace p265 := eq_true p265;replace q265 := eq_true q265) | (go_at_call 46;(with_reducible refine (cluster_Next.calls k (⟨#[97,204,129,98]⟩ : ByteArray) 0 t266 _ ?side1 A13.out).mono ?_);(case side1 => exact tabs_below HT.out (by repeat (first | (with_reducible first | exact HB.out | apply below_alloc | apply pw_below_drewN | apply below_drew1) | exact HB.out)));rintro e w28 ⟨rfl,hb⟩;have n0_ := Aside0.mk (Kd.R_below (by (with_reducible repeat (first | apply Kd.R_alloc | apply Kd.R_drewN | apply Kd.R_drew));exact HO261.out) hb);have n1_ := Aside0.mk (below_step (by repeat (first | (with_reducible first | exact HB.out | apply below_alloc | apply pw_below_drewN | apply below_drew1) | exact HB.out)) hb);clear HO261;clear HB;have HO261 := n0_;have HB := n1_;clear n0_ n1_;(try clear hb);(try clear hb2);(try clear hk);(try clear hi)) | (go_at_call 42;(with_reducible refine (cluster_Boundary.calls k (⟨#[97,204,129,98]⟩ : ByteArray) 1 false _ ?side1 A15.out).mono ?_);(case side1 => exact tabs_below HT.out (by repeat (first | (with_reducible first | exact HB.out | apply below_alloc | apply pw_below_drewN | apply below_drew1) | exact HB.out)));rintro e w29 ⟨rfl,hb⟩;have n0_ := Aside0.mk (Kd.R_below (by (with_reducible repeat (first | apply Kd.R_alloc | apply Kd.R_drewN | apply Kd.R_drew));exact HO261.out) hb);have n1_ := Aside0.mk (below_step (by repeat (first | (with_reducible first | exact HB.out | apply below_alloc | apply pw_below_drewN | apply below_drew1) | exact HB.out)) hb);clear HO261;clear HB;have HO261 := n0_;have HB := n1_;clear n0_ n1_;(try clear hb);(try clear hb2);(try clear hk);(try clear hi)) | (go_at_call 42;(with_reducible refine (cluster_Boundary.calls k (⟨#[]⟩ : ByteArray) 0 true _ ?side1 A22.out).mono ?_);(case side1 => exact tabs_below HT.out (by repeat (first | (with_reducible first | exact HB.out | apply below_alloc | apply pw_below_drewN | apply below_drew1) | exact HB.out)));rintro e w30 ⟨rfl,hb⟩;have n0_ := Aside0.mk (Kd.R_below (by (with_reducible repeat (first | apply Kd.R_alloc | apply Kd.R_drewN | apply Kd.R_drew));exact HO261.out) hb);have n1_ := Aside0.mk (below_step (by repeat (first | (with_reducible first | exact HB.out | apply below_alloc | apply pw_below_drewN | apply below_drew1) | exact HB.out)) hb);clear HO261;clear HB;have HO261 := n0_;have HB := n1_;clear n0_ n1_;(try clear hb);(try clear hb2);(try clear hk);(try clear hi)) | (go_at_call 56;(with_reducible refine (cluster_Drawn.calls (⟨#[1]⟩ : ByteArray) t269 _ ?side1 A24.out).mono ?_);(case side1 => exact tabs_below HT.out (by repeat (first | (with_reducible first | exact HB.out | apply below_alloc | apply pw_below_drewN | apply below_drew1) | exact HB.out)));rintro e w31 ⟨rfl,hb⟩;have n0_ := Aside0.mk (Kd.R_below (by (with_reducible repeat (first | apply Kd.R_alloc | apply Kd.R_drewN | apply Kd.R_drew));exact HO261.out) hb);have n1_ := Aside0.mk (below_step (by repeat (first | (with_reducible first | exact HB.out | apply below_alloc | apply pw_below_drewN | apply below_drew1) | exact HB.out)) hb);clear HO261;clear HB;have HO261 := n0_;have HB := n1_;clear n0_ n1_;(try clear hb);(try clear hb2);(try clear hk);(try clear hi)))
              go_ret
              exact ⟨by first | rfl | (simp [errW_none,errW_some] <;> rfl) | (simp [*,errW_none,errW_some] <;> rfl),by repeat (first | (with_reducible first | exact HB.out | apply below_alloc | apply pw_below_drewN | apply below_drew1) | exact HB.out)⟩
             ·replace c23 := Bool.eq_false_iff.mpr c23
              subst c23
              have H1 : (some false) = some r := by rw [if_neg (show ¬ (false = true) by decide)] at H;exact H
              clear H
              have H := H1
              clear H1
              obtain rfl := Option.some.inj H
              cases hr_
           ·rw [if_neg c14] at H
            have c14b0 : (t266 == 3) = false := beq_eq_false_iff_ne.mpr c14
            have c14b1 : (t266 != 3) = true := bne_iff_ne.mpr c14
            obtain rfl := Option.some.inj H
            cases hr_
          ·rw [if_neg c12] at H
           have c12b0 : (((rd_T53 t259 3).f0) == 8 && (((rd_T53 t259 3).f1) == 9 && (((rd_T53 t259 3).f2) == 5 && (((rd_T53 t259 3).f3) == 1)))) = false := by simpa using c12
           (try (have c12b1 : decide (((rd_T53 t259 3).f0) = 8 && (((rd_T53 t259 3).f1) == 9 && (((rd_T53 t259 3).f2) == 5 && (((rd_T53 t259 3).f3) == 1)))) = false := by simpa using c12))
           (try (have c12b2 : (((rd_T53 t259 3).f0) == 8 && (((rd_T53 t259 3).f1) == 9 && (((rd_T53 t259 3).f2) == 5 && (((rd_T53 t259 3).f3) == 1)))) = false := by simpa using c12))
           (try (have c12b3 : ¬ (((rd_T53 t259 3).f0) = 8 && (((rd_T53 t259 3).f1) == 9 && (((rd_T53 t259 3).f2) == 5 && (((rd_T53 t259 3).f3) == 1)))) := by simpa using c12))
           clear c12
           obtain rfl := Option.some.inj H
           cases hr_
         ·rw [if_neg c11] at H
          exact absurd H (by simp)
        ·rw [if_neg c10] at H
         have c10b0 : (((rd_T53 t259 2).f0) == 5 && (((rd_T53 t259 2).f1) == 8 && (((rd_T53 t259 2).f2) == 4 && (((rd_T53 t259 2).f3) == 2)))) = false := by simpa using c10
         (try (have c10b1 : decide (((rd_T53 t259 2).f0) = 5 && (((rd_T53 t259 2).f1) == 8 && (((rd_T53 t259 2).f2) == 4 && (((rd_T53 t259 2).f3) == 2)))) = false := by simpa using c10))
         (try (have c10b2 : (((rd_T53 t259 2).f0) == 5 && (((rd_T53 t259 2).f1) == 8 && (((rd_T53 t259 2).f2) == 4 && (((rd_T53 t259 2).f3) == 2)))) = false := by simpa using c10))
         (try (have c10b3 : ¬ (((rd_T53 t259 2).f0) = 5 && (((rd_T53 t259 2).f1) == 8 && (((rd_T53 t259 2).f2) == 4 && (((rd_T53 t259 2).f3) == 2)))) := by simpa using c10))
         clear c10
         obtain rfl := Option.some.inj H
         cases hr_
       ·rw [if_neg c9] at H
        exact absurd H (by simp)
      ·rw [if_neg c8] at H
       have c8b0 : (((rd_T53 t259 1).f0) == 3 && (((rd_T53 t259 1).f1) == 5 && (((rd_T53 t259 1).f2) == 1 && (((rd_T53 t259 1).f3) == 0)))) = false := by simpa using c8
       (try (have c8b1 : decide (((rd_T53 t259 1).f0) = 3 && (((rd_T53 t259 1).f1) == 5 && (((rd_T53 t259 1).f2) == 1 && (((rd_T53 t259 1).f3) == 0)))) = false := by simpa using c8))
       (try (have c8b2 : (((rd_T53 t259 1).f0) == 3 && (((rd_T53 t259 1).f1) == 5 && (((rd_T53 t259 1).f2) == 1 && (((rd_T53 t259 1).f3) == 0)))) = false := by simpa using c8))
       (try (have c8b3 : ¬ (((rd_T53 t259 1).f0) = 3 && (((rd_T53 t259 1).f1) == 5 && (((rd_T53 t259 1).f2) == 1 && (((rd_T53 t259 1).f3) == 0)))) := by simpa using c8))
       clear c8
       obtain rfl := Option.some.inj H
       cases hr_
     ·rw [if_neg c7] at H
      exact absurd H (by simp)
    ·rw [if_neg c6] at H
     have c6b0 : (((rd_T53 t259 0).f0) == 0 && (((rd_T53 t259 0).f1) == 3 && (((rd_T53 t259 0).f2) == 0 && (((rd_T53 t259 0).f3) == 1)))) = false := by simpa using c6
     (try (have c6b1 : decide (((rd_T53 t259 0).f0) = 0 && (((rd_T53 t259 0).f1) == 3 && (((rd_T53 t259 0).f2) == 0 && (((rd_T53 t259 0).f3) == 1)))) = false := by simpa using c6))
     (try (have c6b2 : (((rd_T53 t259 0).f0) == 0 && (((rd_T53 t259 0).f1) == 3 && (((rd_T53 t259 0).f2) == 0 && (((rd_T53 t259 0).f3) == 1)))) = false := by simpa using c6))
     (try (have c6b3 : ¬ (((rd_T53 t259 0).f0) = 0 && (((rd_T53 t259 0).f1) == 3 && (((rd_T53 t259 0).f2) == 0 && (((rd_T53 t259 0).f3) == 1)))) := by simpa using c6))
     clear c6
     obtain rfl := Option.some.inj H
     cases hr_
   ·rw [if_neg c5] at H
    exact absurd H (by simp)
  ·rw [if_neg c4] at H
   have c4b0 : ((t259.length : Int) == 4) = false := beq_eq_false_iff_ne.mpr c4
   have c4b1 : ((t259.length : Int) != 4) = true := bne_iff_ne.mpr c4
   obtain rfl := Option.some.inj H
   cases hr_
 ·replace c2 := Bool.eq_false_iff.mpr c2
  subst c2
  have H1 : (some false) = some r := by rw [if_neg (show ¬ (false = true) by decide)] at H;exact H
  clear H
  have H := H1
  clear H1
  obtain rfl := Option.some.inj H
  cases hr_
end Go.Proofs.YtfhnfhgpaoddbaaDoor.U
end
section
namespace Go.Proofs
open Go.RowKit Go.Shelf Go.Lib
shelf_lay Lays.n196 Nm 196 at Tryd as Tryd.laysValid
end Go.Proofs
namespace Go.Proofs.YtfhnfhgpaoddbaaDoor.U
open Go.RowKit Go.Proofs.YtfhnfhgpaoddbaaDoorW.PrintWords Go.Proofs.YtfhnfhgpaoddbaaDoorW.PrintLast Go.Proofs.YtfhnfhgpaoddbaaDoorW.PrintMore
set_option linter.unusedVariables false
def utf8_ValidString.f (a0 : ByteArray) : Option (Bool) := if a0.size ≤ 9223372036854775807 then some (Lib.validD a0.data.toList) else none
theorem utf8_ValidString.calls (a0 : ByteArray) (r : Bool) (w : World) (hT : Lib.Utf8Tabs 0 1 w) (h : utf8_ValidString.f a0 = some r) :
  Calls Tryd.prog 58 #[.string a0] w fun e w' => e = .returned (.bool r) ∧ Below w.heap.size w w' := by
 unfold utf8_ValidString.f at h
 split at h
 ·rename_i hs
  simp only [Option.some.injEq] at h
  subst h
  exact Any.utf8_ValidString Tryd.laysValid a0 w hs hT
 ·cases h
end Go.Proofs.YtfhnfhgpaoddbaaDoor.U
end
