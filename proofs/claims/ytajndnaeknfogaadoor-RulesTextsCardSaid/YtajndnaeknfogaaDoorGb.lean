/- The contract of stanza.User: of every text it says whether it is 1 to 16 bytes, each a small letter or a digit; no condition. -/
import Derived.Test.YtajndnaeknfogaaDoorGa
import Derived.Test.YtajndnaeknfogaaDoorGp
import Derived.Lib.SlTrimSet
import Derived.Lib.IndexAny
import Derived.Shelf.Strings.SlTrimAscii
namespace Go.Proofs.YtajndnaeknfogaaDoor.Q
open Go.RowKit Go.Proofs.YtajndnaeknfogaaDoorW.PrintWords Go.Proofs.YtajndnaeknfogaaDoorW.PrintLast Go.Proofs.YtajndnaeknfogaaDoorW.PrintMore
set_option linter.unusedVariables false
set_option linter.unusedSimpArgs false

def lowsA : Array UInt8 := #[97, 98, 99, 100, 101, 102, 103, 104, 105, 106, 107, 108, 109, 110, 111, 112, 113, 114, 115, 116, 117, 118, 119, 120, 121, 122, 48, 49, 50, 51, 52, 53, 54, 55, 56, 57]
def userB (s : ByteArray) : Bool := userL s.data.toList

theorem lows_low (b : UInt8) : lowsA.toList.contains b = isLow b := by
  have h : ∀ n : Fin 256, lowsA.toList.contains (UInt8.ofNat n.val) = isLow (UInt8.ofNat n.val) := by decide +kernel
  have := h ⟨b.toNat, b.toNat_lt⟩
  simpa using this
theorem low_asc (b : UInt8) (h : isLow b = true) : b.toNat < 128 := by
  unfold isLow at h
  simp [UInt8.le_iff_toNat_le] at h
  omega

theorem dropWhile_nil {p : UInt8 → Bool} {l : List UInt8} : l.dropWhile p = [] ↔ l.all p = true := by
  induction l with
  | nil => simp
  | cons a l ih => by_cases h : p a = true <;> simp [List.dropWhile_cons, h, ih]
theorem dropWhile_nil2 {p : UInt8 → Bool} (l : List UInt8) (h : (l.dropWhile p).all p = true) : l.dropWhile p = [] := by
  induction l with
  | nil => rfl
  | cons a l ih =>
    by_cases ha : p a = true
    · rw [List.dropWhile_cons_of_pos ha] at h ⊢; exact ih h
    · rw [List.dropWhile_cons_of_neg ha] at h; simp [ha] at h
theorem all_rev {p : UInt8 → Bool} (l : List UInt8) : l.reverse.all p = l.all p := by simp
theorem trimS_nil (l cs : List UInt8) : (Lib.trimS l cs).isEmpty = l.all (cs.contains ·) := by
  unfold Lib.trimS Lib.trimLeftS Lib.trimRightS
  rw [Bool.eq_iff_iff, List.isEmpty_iff, dropWhile_nil, all_rev]
  constructor
  · intro h; have := dropWhile_nil2 _ h; rw [dropWhile_nil, all_rev] at this; exact this
  · intro h; rw [← all_rev] at h; rw [dropWhile_nil.mpr h]; rfl

set_option maxHeartbeats 400000 in
theorem user1_calls (w : World) (x : Nat) (hx : x < 128) :
    Calls Tryd.prog 76 #[.int .i32 x] w fun e w' => e = .returned (.bool (!(isLow x.toUInt8))) ∧ Below w.heap.size w w' := by
  have c := Tryd.strings_ContainsRune_ascii ⟨lowsA⟩ x w (by omega) (by omega)
  rw [← Lib.contains_iff_indexByte] at c
  have e1 : ((x : Int).toNat.toUInt8) = x.toUInt8 := by simp
  rw [e1, lows_low] at c
  generalize isLow x.toUInt8 = B at *
  have H := Aside0.mk c
  clear c e1
  unfold lowsA at H
  go_enter Tryd.func76, Tryd.ntmps76
  go_wp2_with (go_at_call 77; refine H.out.mono ?_; rintro e w' ⟨rfl, rfl⟩)
  go_ret
  exact ⟨rfl, Below.refl _ _⟩

def stanza_User.f (a0 : ByteArray) : Option Bool := some (userB a0)

theorem userB_of {s : ByteArray} {b : Bool} (h1 : 1 ≤ s.size) (h2 : s.size ≤ 16) (h3 : s.data.toList.all isLow = b) : userB s = b := by
  unfold userB userL; rw [h3, Array.length_toList]; have e : s.data.size = s.size := rfl; rw [e]; simp [h1, h2]

set_option maxHeartbeats 2000000 in
set_option maxRecDepth 100000 in
theorem stanza_User.calls (a0 : ByteArray) (r : Bool) (w : World) (h : stanza_User.f a0 = some r) :
    Calls Tryd.prog 62 #[.string a0] w fun e w' => e = .returned (.bool r) ∧ Below w.heap.size w w' := by
  obtain rfl := Option.some.inj h
  clear h
  by_cases h1 : 1 ≤ a0.size
  · have hne : ¬ a0.toList = [] := by
      rw [Lib.toList_data]; intro hl; have h0 : a0.data.toList.length = 0 := by rw [hl]; rfl
      rw [Array.length_toList] at h0; have : a0.data.size = a0.size := rfl; omega
    have hb1 : (!a0.toList.isEmpty) = true := by cases hl : a0.toList with
      | nil => exact absurd hl hne
      | cons => rfl
    by_cases h2 : a0.size ≤ 16
    · have hT := Tryd.strings_Trim_laid a0 ⟨lowsA⟩ w (by omega) (by decide) (ascii_of_all (by decide))
      have hn := trimS_nil a0.data.toList lowsA.toList
      rw [show (lowsA.toList.contains · : UInt8 → Bool) = isLow from funext lows_low] at hn
      change Calls Tryd.prog 75 _ _ (fun e w' => e = .returned (.string ⟨(Lib.trimS a0.data.toList lowsA.toList).toArray⟩) ∧ Below w.heap.size w w') at hT
      generalize hr : Lib.trimS a0.data.toList lowsA.toList = t at *
      clear hr
      have htl : (⟨t.toArray⟩ : ByteArray).toList = t := by rw [Lib.toList_data]
      generalize hq : (⟨t.toArray⟩ : ByteArray) = T at *
      clear hq
      cases ha : a0.data.toList.all isLow
      · rw [userB_of h1 h2 ha]
        rw [ha, ← htl] at hn
        have hT2 : ¬ T.toList = [] := by intro h0; rw [h0] at hn; simp at hn
        have H := Aside0.mk hT
        clear hT ha hn htl
        unfold lowsA at H
        go_enter Tryd.func62, Tryd.ntmps62
        go_wp2_with (first | (go_at_call 75; refine H.out.mono ?_; rintro e w' ⟨rfl, hb⟩))
        go_ret
        exact ⟨rfl, hb⟩
      · rw [userB_of h1 h2 ha]
        rw [ha, ← htl] at hn
        have hT2 : T.toList = [] := by simpa using hn
        have hasc : ∀ k (h : k < a0.size), (a0[k]'h).toNat < 128 := fun k h => low_asc _ (List.all_eq_true.mp ha _ (Array.mem_toList_iff.mpr (Array.getElem_mem (xs := a0.data) h)))
        have hany : a0.data.toList.any (fun b => !(isLow (b.toNat.toUInt8))) = false := by
          rw [List.any_eq_false]; intro b hb; simp only [UInt8.ofNat_toNat, Nat.toUInt8_eq]; have := List.all_eq_true.mp ha b hb; simp [this]
        have H := Aside0.mk hT
        have c2 := fun (W : World) => ContainsFunc_asc 76 #[] (enters_of Tryd.func76 (by kernel_rfl) rfl) (fun x => !(isLow x.toUInt8)) a0 W hasc (fun W' x hx _ => user1_calls W' x hx)
        simp only [hany] at c2
        have H2 := Aside0.mk c2
        clear hT ha hn htl c2 hasc hany
        unfold lowsA at H
        go_enter Tryd.func62, Tryd.ntmps62
        go_wp2_with (first | (go_at_call 75; refine H.out.mono ?_; rintro e w' ⟨rfl, hb⟩) | (go_at_call 43; refine (H2.out _).mono ?_; rintro e w2 ⟨rfl, hb2⟩))
        go_ret
        exact ⟨rfl, hb.trans (hb2.mono hb.size)⟩
    · have hf : userB a0 = false := by unfold userB userL; rw [Array.length_toList]; have e : a0.data.size = a0.size := rfl; rw [e]; simp [h2]
      have hlt : (16 : Int) < a0.size := by omega
      rw [hf]
      go_enter Tryd.func62, Tryd.ntmps62
      go_wp2_with fail
      go_ret
      exact ⟨rfl, Below.refl _ _⟩
  · have hf : userB a0 = false := by unfold userB userL; rw [Array.length_toList]; have e : a0.data.size = a0.size := rfl; rw [e]; simp [h1]
    have he : a0.toList = [] := by
      rw [Lib.toList_data]; apply List.eq_nil_of_length_eq_zero; rw [Array.length_toList]; have : a0.data.size = a0.size := rfl; omega
    rw [hf]
    go_enter Tryd.func62, Tryd.ntmps62
    go_wp2_with fail
    go_ret
    exact ⟨rfl, Below.refl _ _⟩
end Go.Proofs.YtajndnaeknfogaaDoor.Q
