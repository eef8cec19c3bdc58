/- The iterator of strings.SplitSeq at a semicolon: its contract towards a loop over it: all pieces come, one by one, in their order, or a beginning of them where a round says 'no more'. -/
import Derived.RangeFuncBox
import Derived.RangeFuncNested
import Derived.RangeFuncBound
import Derived.RangeFuncCalls
import Derived.RangeFuncLeaves
import Derived.Shelf.Abstract
import Derived.Shelf.RegionOpen
import Derived.WalkKit
import Derived.OwnWalkIn
import Derived.TacticsInMore
import Derived.LoopNIn
import Derived.LoopIn
import Derived.Maps.AppendAt
import Derived.Test.YtajndnaeknfogaaDoorGq
namespace Go.Proofs.YtajndnaeknfogaaDoor.Q
open Go.RowKit Go.Shelf Go.Proofs.YtajndnaeknfogaaDoorW.PrintWords Go.Proofs.YtajndnaeknfogaaDoorW.PrintLast Go.Proofs.YtajndnaeknfogaaDoorW.PrintMore
set_option linter.unusedVariables false
set_option linter.unusedSimpArgs false
attribute [local go_sem] Oper.semAt_some

/-- The pieces of a text between semicolons. -/
def semiF : Nat → ByteArray → List ByteArray
  | 0, s => [s]
  | n + 1, s => if Lib.indexByte s.data.toList 59 = -1 then [s] else s.extract 0 (Lib.indexByte s.data.toList 59).toNat :: semiF n (s.extract ((Lib.indexByte s.data.toList 59).toNat + 1) s.size)

theorem semi_none {n : Nat} {s : ByteArray} (h : Lib.indexByte s.data.toList 59 = -1) : semiF n s = [s] := by
  cases n with
  | zero => rfl
  | succ n => unfold semiF; rw [if_pos h]
theorem semi_some {n i : Nat} {s : ByteArray} (h : Lib.indexByte s.data.toList 59 = i) (hn : s.size ≤ n) (hi : i < s.size) : semiF n s = s.extract 0 i :: semiF (n - 1) (s.extract (i + 1) s.size) := by
  cases n with
  | zero => omega
  | succ n => rw [semiF, if_neg (by omega), h]; rfl

def KeepsThree (a b c : Nat) (W W' : World) : Prop := W'.heap[a]? = W.heap[a]? ∧ W'.heap[b]? = W.heap[b]? ∧ W'.heap[c]? = W.heap[c]?
def SemiPost (N : Nat) (s : ByteArray) (J Jx : List ByteArray → World → Prop) (e : Ending) (W' : World) : Prop :=
  (∃ v, e = .returned v) ∧ (J (semiF N s) W' ∨ (∃ pre, pre <+: semiF N s ∧ Jx pre W'))

theorem slash' (l : List UInt8) : Lib.indexByte l 59 = -1 ∨ ∃ i : Nat, i < l.length ∧ Lib.indexByte l 59 = i := by
  have h1 := Lib.indexByte_ge l 59
  by_cases h : Lib.indexByte l 59 < 0
  · exact .inl (by omega)
  · have h : 0 ≤ Lib.indexByte l 59 := by omega
    obtain ⟨i, hi⟩ := Int.eq_ofNat_of_zero_le h
    have := (Lib.indexByte_some hi).1
    refine .inr ⟨i, ?_, hi⟩
    rcases Nat.lt_or_ge i l.length with h | h
    · exact h
    · rw [List.getElem?_eq_none h] at this; cases this

def restSize (Bs : Nat) (W : World) : Nat := match W.cell? ⟨Bs, 0, none⟩ with | some (.string b) => b.size | _ => 0
theorem restSize_eq {Bs : Nat} {W : World} {b : ByteArray} (h : Boxed W Bs 9 (.string b)) : restSize Bs W = b.size := by unfold restSize; rw [h.cell]

set_option maxRecDepth 100000 in
set_option maxHeartbeats 4000000 in
theorem semi_in (n : Nat) (hn : 1 ≤ n) (l Bs Bp Bv : Nat) (s : ByteArray) (hs : s.size ≤ 4611686018427387904) (J Jx : List ByteArray → World → Prop) (hsp : Bs ≠ Bp) (hsv : Bs ≠ Bv)
    (hSet : ∀ pre W v, J pre W → J pre (W.setCell ⟨Bs, 0, none⟩ v))
    (hY : ∀ pre x W, J pre W → x.size ≤ s.size → YieldAt Fence.wide (n - 1) Tryd.prog l #[.string x] W fun e W' =>
      (e = .returned (.bool true) ∧ J (pre ++ [x]) W' ∧ KeepsThree Bs Bp Bv W W') ∨ (e = .returned (.bool false) ∧ Jx (pre ++ [x]) W'))
    (W : World) (b1 : Boxed W Bs 9 (.string s)) (b2 : Boxed W Bp 9 (.string ⟨#[59]⟩)) (b3 : Boxed W Bv 3 (.int .i64 0)) (h0 : J [] W) :
    CallsIn Fence.wide n Tryd.prog 65 #[.func (.yield l) #[] #[], .pointer (some ⟨Bp, 0, none⟩), .pointer (some ⟨Bs, 0, none⟩), .pointer (some ⟨Bv, 0, none⟩)] W (SemiPost s.size s J Jx) := by
  refine callsIn_of_wp Tryd.func65 rfl trivial ?_ rfl
  simp only [Tryd.ntmps65, List.size_toArray, List.length_cons, List.length_nil, Nat.reduceAdd, Nat.reduceSub, Array.replicate_succ, Array.replicate_zero, List.push_toArray, List.append_toArray, List.nil_append, List.cons_append]
  have c1 := b1.cell
  have c2 := b2.cell
  have c3 := b3.cell
  have HY := Aside0.mk hY
  have HSet := Aside0.mk hSet
  clear hY hSet
  gi_wp2
  gi_loopw [7] (fun v7 wr => ∃ (pre : List ByteArray) (rest : ByteArray) (N : Nat), semiF s.size s = pre ++ semiF N rest ∧ rest.size ≤ N ∧ rest.size ≤ s.size ∧ Boxed wr Bs 9 (.string rest) ∧ Boxed wr Bp 9 (.string ⟨#[59]⟩) ∧ Boxed wr Bv 3 (.int .i64 0) ∧ J pre wr)
    (fun _ wr => restSize Bs wr)
  case atStart => exact ⟨[], s, s.size, rfl, Nat.le_refl _, Nat.le_refl _, b1, b2, b3, h0⟩
  case round =>
    obtain ⟨pre, rest, N, hx, hN, hle, d1, d2, d3, hJ⟩ := hrel
    have e1 := d1.cell
    have e2 := d2.cell
    have e3 := d3.cell
    have f1 := d1.frozen
    have hI := Aside0.mk (Tryd.strings_Index_one rest 59 wr)
    have hl := size_list rest
    rcases slash' rest.data.toList with hno | ⟨i, hi, hix⟩
    · rw [hno] at hI
      have HX : Aside0 (semiF s.size s = pre ++ [rest]) := ⟨by rw [hx, semi_none hno]⟩
      obtain ⟨fn, tm, asg, bd, hy, hR⟩ := HY.out pre rest wr hJ hle
      clear hx hno
      gi_wp2_with (refine ⟨trivial, ?_⟩; gi_at_call 67; refine (callsIn_wide.2 hI.out).mono ?_; rintro e w' ⟨rfl, rfl⟩)
      refine hR.mono ?_
      rintro e W' (⟨rfl, hJ', hk⟩ | ⟨rfl, hJx'⟩)
      · gi_wp2
        go_end0
        exact ⟨⟨_, rfl⟩, .inl (by rw [HX.out]; exact hJ')⟩
      · gi_wp2
        go_end0
        exact ⟨⟨_, rfl⟩, .inr ⟨pre ++ [rest], by rw [HX.out]; exact List.prefix_refl _, hJx'⟩⟩
    · rw [hix] at hI
      have hi' : i < rest.size := by omega
      have HX : Aside0 (semiF s.size s = (pre ++ [rest.extract 0 i]) ++ semiF (N - 1) (rest.extract (i + 1) rest.size)) := ⟨by rw [hx, semi_some hix hN hi']; simp⟩
      have hsz : (rest.extract (i + 1) rest.size).size = rest.size - (i + 1) := by rw [← size_list, Lib.extract_to_end, List.length_drop, hl]
      obtain ⟨fn, tm, asg, bd, hy, hR⟩ := HY.out pre (rest.extract 0 i) wr hJ (by rw [← size_list, Lib.extract_data, List.length_take, List.length_drop, hl]; omega)
      have HS := Aside0.mk hsz
      have i0 : (0 : Int) ≤ (i : Int) := by omega
      have i1 : (i : Int) ≤ (rest.size : Int) := by omega
      have i2 : (i : Int) + 1 ≤ (rest.size : Int) := by omega
      clear hx hix hsz
      gi_wp2_with (refine ⟨trivial, ?_⟩; gi_at_call 67; refine (callsIn_wide.2 hI.out).mono ?_; rintro e w' ⟨rfl, rfl⟩)
      refine hR.mono ?_
      rintro e W' (⟨rfl, hJ', hk⟩ | ⟨rfl, hJx'⟩)
      · have g1 : Boxed W' Bs 9 (.string rest) := hk.1.trans d1
        have g2 : Boxed W' Bp 9 (.string ⟨#[59]⟩) := hk.2.1.trans d2
        have g3 : Boxed W' Bv 3 (.int .i64 0) := hk.2.2.trans d3
        have e1' := g1.cell
        have e2' := g2.cell
        have f1' := g1.frozen
        have hset := Aside0.mk (HSet.out (pre ++ [rest.extract 0 i]) W' (.string (rest.extract (i + 1) rest.size)) hJ')
        gi_wp2
        go_roundw
        case rel => exact ⟨pre ++ [rest.extract 0 i], rest.extract (i + 1) rest.size, N - 1, HX.out, by rw [HS.out]; omega, by rw [HS.out]; omega, g1.set _, g2.kept (grownBy_setCell' _ _ _) (by simpa using Ne.symm hsp), g3.kept (grownBy_setCell' _ _ _) (by simpa using Ne.symm hsv), hset.out⟩
        case measure => rw [restSize_eq (g1.set _), restSize_eq d1, HS.out]; omega
      · gi_wp2
        refine bodyPost_ret (results_none rfl _ _ _) rfl ?_
        exact ⟨⟨_, rfl⟩, .inr ⟨pre ++ [rest.extract 0 i], by rw [HX.out]; exact List.prefix_append _ _, hJx'⟩⟩
end Go.Proofs.YtajndnaeknfogaaDoor.Q
