/- Contracts of library functions (IndexByte, Index and Count at one byte, indexFunc, IndexFunc and ContainsFunc at an ASCII text), in the form in which the printed callers take them; 'none' of a '.f' says that the case is not told. -/
import Derived.Test.YtajndnaeknfogaaDoorQ0
import Derived.Test.YtajndnaeknfogaaDoorShelf
import Derived.Lib.OthersKept
import Derived.Lib.TrimU
import Derived.Laws.RangeString
namespace Go.Proofs.YtajndnaeknfogaaDoor.Q
open Go.RowKit Go.Proofs.YtajndnaeknfogaaDoorW.PrintWords Go.Proofs.YtajndnaeknfogaaDoorW.PrintLast Go.Proofs.YtajndnaeknfogaaDoorW.PrintMore
set_option linter.unusedVariables false
set_option linter.unusedSimpArgs false

def strings_IndexByte.f (a0 : ByteArray) (a1 : Int) : Option Int := some (Lib.indexByte a0.data.toList a1.toNat.toUInt8)
theorem strings_IndexByte.calls (a0 : ByteArray) (a1 : Int) (r : Int) (w : World) (h : strings_IndexByte.f a0 a1 = some r) :
    Calls Tryd.prog 69 #[.string a0, .int .u8 a1] w fun e w' => e = .returned (.int .i64 r) ∧ Drawn0 w w' := by
  obtain rfl := Option.some.inj h
  exact (Tryd.strings_IndexByte a0 a1 w).mono fun e w' ⟨he, hw⟩ => ⟨he, hw ▸ Drawn0.refl _⟩

theorem one_byte {s : ByteArray} (h : s.size = 1) : s = ⟨#[s.data[0]!]⟩ := by
  obtain ⟨⟨l⟩⟩ := s
  match l, h with
  | [x], _ => rfl

def stringslite_Index.f (a0 a1 : ByteArray) : Option Int := if a1.size = 1 then some (Lib.indexByte a0.data.toList a1.data[0]!) else none
theorem stringslite_Index.calls (a0 a1 : ByteArray) (r : Int) (w : World) (h : stringslite_Index.f a0 a1 = some r) :
    Calls Tryd.prog 80 #[.string a0, .string a1] w fun e w' => e = .returned (.int .i64 r) ∧ Drawn0 w w' := by
  unfold stringslite_Index.f at h
  by_cases h1 : a1.size = 1
  · rw [if_pos h1] at h
    obtain rfl := Option.some.inj h
    have := (Tryd.stringslite_Index_one a0 a1.data[0]! w).mono (R' := fun e w' => e = .returned (.int .i64 (Lib.indexByte a0.data.toList a1.data[0]!)) ∧ Drawn0 w w') fun e w' ⟨he, hw⟩ => ⟨he, hw ▸ Drawn0.refl _⟩
    rwa [← one_byte h1] at this
  · rw [if_neg h1] at h; cases h

def strings_Count.f (a0 a1 : ByteArray) : Option Int := if a1.size = 1 then some (Lib.countByte a0.data.toList a1.data[0]!) else none
theorem strings_Count.calls (a0 a1 : ByteArray) (r : Int) (w : World) (h : strings_Count.f a0 a1 = some r) :
    Calls Tryd.prog 82 #[.string a0, .string a1] w fun e w' => e = .returned (.int .i64 r) ∧ Drawn0 w w' := by
  unfold strings_Count.f at h
  by_cases h1 : a1.size = 1
  · rw [if_pos h1] at h
    obtain rfl := Option.some.inj h
    have := (Tryd.strings_Count_one a0 a1.data[0]! w).mono (R' := fun e w' => e = .returned (.int .i64 (Lib.countByte a0.data.toList a1.data[0]!)) ∧ Drawn0 w w') fun e w' ⟨he, hw⟩ => ⟨he, hw ▸ Drawn0.refl _⟩
    rwa [← one_byte h1] at this
  · rw [if_neg h1] at h; cases h

def strings_explode.f (_ : ByteArray) (_ : Int) : Option (List ByteArray) := none
theorem strings_explode.calls (a0 : ByteArray) (a1 : Int) (r : List ByteArray) (w : World) (h : strings_explode.f a0 a1 = some r) :
    Calls Tryd.prog 81 #[.string a0, .int .i64 a1] w fun e w' => ∃ v0_ : Value, e = .returned (v0_) ∧ Kd.R Kd.string 9 w' w.heap.size (fun _ => True) v0_ r ∧ Below w.heap.size w w' := by
  cases h

/-! ### a function value that is asked at the bytes of an ASCII text -/
def AskedAt (g : Nat) (lb : Array Value) (p : Nat → Bool) (w : World) : Prop :=
  ∀ (W : World) (x : Nat), x < 128 → Below w.heap.size w W → Calls Tryd.prog g (#[.int .i32 x] ++ lb) W fun e w' => e = .returned (.bool (p x)) ∧ Below W.heap.size W w'
def IdxPost (l : List UInt8) (p : Nat → Bool) (w : World) (e : Ending) (w' : World) : Prop :=
  ∃ i : Int, e = .returned (.int .i64 i) ∧ decide (0 ≤ i) = l.any (fun b => p b.toNat) ∧ Below w.heap.size w w'

theorem any_at {l : List UInt8} {p : UInt8 → Bool} {k : Nat} (h : k < l.length) (hp : p l[k] = true) : l.any p = true := List.any_eq_true.mpr ⟨_, List.getElem_mem h, hp⟩
theorem take_next {l : List UInt8} {p : UInt8 → Bool} {k : Nat} (h : k < l.length) (h0 : (l.take k).any p = false) (hp : p l[k] = false) : (l.take (k + 1)).any p = false := by
  rw [List.take_succ_eq_append_getElem h, List.any_append, h0]; simp [hp]

set_option maxHeartbeats 2000000 in
set_option maxRecDepth 100000 in
theorem indexFunc_asc (g : Nat) (lb : Array Value) (eg : ∀ args w, (callFunc g args).run Tryd.prog w = .ok (.enter g args) w) (p : Nat → Bool) (s : ByteArray) (w : World)
    (hs : ∀ k (h : k < s.size), (s[k]'h).toNat < 128) (hp : AskedAt g lb p w) :
    Calls Tryd.prog 73 #[.string s, .func (.func g) #[] lb, .bool true] w (IdxPost s.data.toList p w) := by
  go_enter Tryd.func73, Tryd.ntmps73
  go_wp2
  go_loopg [] s.size (fun gf wx => ∃ pos : Nat, wx.heap[w.heap.size]? = some (.stringIter s pos) ∧ Below w.heap.size w wx ∧ Aside0 ((s.data.toList.take pos).any (fun b => p b.toNat) = false) ∧ s.size ≤ pos + gf)
  case atStart => exact ⟨0, World.iter_heap w s 0, (Below.refl _ w).alloc (Nat.le_refl _) _, ⟨rfl⟩, by omega⟩
  case round =>
    obtain ⟨pos, hit, hbw, hleft, hfu⟩ := hrel
    by_cases hps : pos < s.size
    · obtain ⟨g', rfl⟩ : ∃ g', gk = g' + 1 := ⟨gk - 1, by omega⟩
      have hnx : ∀ ty, (Instr.next (.pointer (some ⟨w.heap.size, 0, none⟩)) true ty).run Tryd.prog wr = _ := fun ty => Lib.run_next_any_at wr w.heap.size s pos ty hit hps
      have hx := hs pos hps
      rw [decode_ascii s pos hps hx] at hnx
      simp only at hnx
      have hX : s.data.toList[pos]'(by simpa using hps) = s[pos] := by simp; rfl
      have hany : p s[pos].toNat = true → s.data.toList.any (fun b => p b.toNat) = true := fun h => any_at (k := pos) (by simpa using hps) (by rw [hX]; exact h)
      have hnxt : p s[pos].toNat = false → (s.data.toList.take (pos + 1)).any (fun b => p b.toNat) = false := fun h => take_next (by simpa using hps) hleft.out (by rw [hX]; exact h)
      obtain ⟨R, hR⟩ : ∃ R, s[pos].toNat = R := ⟨_, rfl⟩
      rw [hR] at hnx hx hany hnxt
      have hit2 := Lib.iterAt_heap wr w.heap.size s pos (pos + 1) hit
      have hbw2 := Lib.below_iterAt hbw (k := w.heap.size) (Nat.le_refl _) s (pos + 1)
      obtain ⟨W, hWd⟩ : ∃ W, wr.iterAt w.heap.size s (pos + 1) = W := ⟨_, rfl⟩
      rw [hWd] at hnx hit2 hbw2
      have hltW : w.heap.size < W.heap.size := (Array.getElem?_eq_some_iff.1 hit2).1
      have cS : Calls Tryd.prog g (#[.int .i32 (R : Int)] ++ lb) W _ := hp W R hx hbw2
      clear hp hR hX hx hleft
      have HA := Aside0.mk hany
      have HN := Aside0.mk hnxt
      clear hany hnxt
      cases hsp : p R <;> rw [hsp] at cS
      · have HN' := Aside0.mk (HN.out hsp)
        clear HA HN hsp
        go_wp2_with (go_at_fn g; refine cS.mono ?_; rintro e W' ⟨rfl, hbc⟩)
        go_roundg g'
        case measure => omega
        case rel => exact ⟨pos + 1, (hbc.block _ hltW).trans hit2, (hbw2.trans (hbc.mono hbw2.size)), HN', by omega⟩
      · have HA' := Aside0.mk (HA.out hsp)
        clear HA HN hsp
        go_wp2_with (go_at_fn g; refine cS.mono ?_; rintro e W' ⟨rfl, hbc⟩)
        go_ret
        exact ⟨pos, rfl, by rw [HA'.out]; simp, (hbw2.trans (hbc.mono hbw2.size))⟩
    · have hnx : ∀ ty, (Instr.next (.pointer (some ⟨w.heap.size, 0, none⟩)) true ty).run Tryd.prog wr = _ := fun ty => Lib.run_next_end_at wr w.heap.size s pos ty hit hps
      have hall : s.data.toList.any (fun b => p b.toNat) = false := by
        have := hleft.out
        rwa [List.take_of_length_le (by simp; omega)] at this
      have HA := Aside0.mk hall
      clear hall hleft hp
      go_wp2
      go_ret
      exact ⟨-1, rfl, by rw [HA.out]; rfl, hbw⟩

set_option maxHeartbeats 400000 in
theorem IndexFunc_asc (g : Nat) (lb : Array Value) (eg : ∀ args w, (callFunc g args).run Tryd.prog w = .ok (.enter g args) w) (p : Nat → Bool) (s : ByteArray) (w : World)
    (hs : ∀ k (h : k < s.size), (s[k]'h).toNat < 128) (hp : AskedAt g lb p w) :
    Calls Tryd.prog 60 #[.string s, .func (.func g) #[] lb] w (IdxPost s.data.toList p w) := by
  have c := indexFunc_asc g lb eg p s w hs hp
  have H := Aside0.mk c
  clear c hs hp eg
  go_enter Tryd.func60, Tryd.ntmps60
  go_wp2_with (go_at_call 73; refine H.out.mono ?_; rintro e w' ⟨i, rfl, hi, hb⟩; have HI := Aside0.mk hi; clear hi)
  go_ret
  exact ⟨i, rfl, HI.out, hb⟩

set_option maxHeartbeats 400000 in
theorem ContainsFunc_asc (g : Nat) (lb : Array Value) (eg : ∀ args w, (callFunc g args).run Tryd.prog w = .ok (.enter g args) w) (p : Nat → Bool) (s : ByteArray) (w : World)
    (hs : ∀ k (h : k < s.size), (s[k]'h).toNat < 128) (hp : AskedAt g lb p w) :
    Calls Tryd.prog 43 #[.string s, .func (.func g) #[] lb] w fun e w' => e = .returned (.bool (s.data.toList.any (fun b => p b.toNat))) ∧ Below w.heap.size w w' := by
  have c := IndexFunc_asc g lb eg p s w hs hp
  have H := Aside0.mk c
  clear c hs hp eg
  go_enter Tryd.func43, Tryd.ntmps43
  go_wp2_with (go_at_call 60; refine H.out.mono ?_; rintro e w' ⟨i, rfl, hi, hb⟩; have HI := Aside0.mk hi; clear hi)
  go_ret
  exact ⟨congrArg (fun b => Ending.returned (.bool b)) HI.out, hb⟩
end Go.Proofs.YtajndnaeknfogaaDoor.Q
