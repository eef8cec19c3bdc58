/- The contract of rules.kinds: of every text whether it is letters of psq, in this order, each once; no condition. -/
import Derived.Test.YtajndnaeknfogaaDoorGa
import Derived.Lib.ConvBytes
namespace Go.Proofs.YtajndnaeknfogaaDoor.Q
open Go.RowKit Go.Proofs.YtajndnaeknfogaaDoorW.PrintWords Go.Proofs.YtajndnaeknfogaaDoorW.PrintLast Go.Proofs.YtajndnaeknfogaaDoorW.PrintMore
set_option linter.unusedVariables false
set_option linter.unusedSimpArgs false

def kFrom : List UInt8 → Int → Bool
  | [], _ => true
  | c :: l, a => if Lib.indexByte [112, 115, 113] c ≤ a then false else kFrom l (Lib.indexByte [112, 115, 113] c)
def rules_kinds.f (a0 : ByteArray) : Option Bool := some (kFrom a0.data.toList (-1))

theorem psq_le (c : UInt8) : Lib.indexByte [112, 115, 113] c ≤ 2 := by
  have h : ∀ n : Fin 256, Lib.indexByte [112, 115, 113] (UInt8.ofNat n.val) ≤ 2 := by decide +kernel
  have := h ⟨c.toNat, c.toNat_lt⟩
  simpa using this
theorem kFrom_drop {l : List UInt8} {k : Nat} (h : k < l.length) (a : Int) : kFrom (l.drop k) a = if Lib.indexByte [112, 115, 113] l[k] ≤ a then false else kFrom (l.drop (k + 1)) (Lib.indexByte [112, 115, 113] l[k]) := by
  rw [List.drop_eq_getElem_cons h]; rfl
theorem below_bytes (w : World) (s : ByteArray) : Below w.heap.size w (Lib.bytesWorld w 5 s) :=
  ⟨rfl, rfl, rfl, by rw [Lib.bytesWorld_size]; omega, fun k hk => Lib.bytesWorld_at_old w 5 s k hk⟩

set_option maxHeartbeats 2000000 in
set_option maxRecDepth 100000 in
theorem rules_kinds.calls (a0 : ByteArray) (r : Bool) (w : World) (h : rules_kinds.f a0 = some r) :
    Calls Tryd.prog 53 #[.string a0] w fun e w' => e = .returned (.bool r) ∧ Below w.heap.size w w' := by
  obtain rfl := Option.some.inj h
  clear h
  have hcv := Lib.run_convert_string_bytes (P := Tryd.prog) w 9 88 5 a0 Tryd.underlying9 Tryd.underlying88 Tryd.underlying5
  have hcl : ∀ j, j < a0.size → (Lib.bytesWorld w 5 a0).cell? ⟨w.heap.size, j, none⟩ = some (.int .u8 (a0.data.toList.getD j 0).toNat) := fun j hj => Lib.bytesWorld_cell w 5 a0 j hj
  have hb := below_bytes w a0
  generalize grownCap w a0.size 0 5 = C at *
  obtain ⟨W, hW⟩ : ∃ W, Lib.bytesWorld w 5 a0 = W := ⟨_, rfl⟩
  rw [hW] at hcv hcl hb
  clear hW
  have HC := Aside0.mk hcl
  clear hcl
  generalize hF : kFrom a0.data.toList (-1) = F
  have hF' := Aside0.mk hF
  clear hF
  go_enter Tryd.func53, Tryd.ntmps53
  go_wp2
  go_loop [3, 10] (fun v3 v10 => ∃ (k : Nat) (a : Int), v3 = .int .i64 a ∧ v10 = .int .i64 k ∧ k ≤ a0.size ∧ (k : Int) ≤ a + 1 ∧ a ≤ 2 ∧ Aside0 (kFrom (a0.data.toList.drop k) a = F)) (fun _ v10 => a0.size - (intOf v10).toNat)
  case atStart => exact ⟨0, -1, rfl, rfl, by omega, by omega, by omega, hF'⟩
  case round =>
    obtain ⟨k, a, rfl, rfl, hk, hka, ha, hrel⟩ := hrel
    clear hF'
    by_cases hlt : k < a0.size
    · have hl : k < a0.data.toList.length := by simpa using hlt
      have hd := kFrom_drop hl a
      have hp := psq_le a0.data.toList[k]
      rw [hrel.out] at hd
      have hcell := HC.out k hlt
      rw [show a0.data.toList.getD k 0 = a0.data.toList[k] from by rw [List.getD_eq_getElem?_getD, List.getElem?_eq_getElem hl]; rfl] at hcell
      generalize a0.data.toList[k] = c at *
      have hi := Tryd.strings_IndexByte ⟨#[112, 115, 113]⟩ c.toNat W
      rw [show ((c.toNat : Int).toNat.toUInt8) = c by simp] at hi
      change Calls Tryd.prog 69 _ _ (fun e w' => e = .returned (.int .i64 (Lib.indexByte [112, 115, 113] c)) ∧ w' = W) at hi
      generalize Lib.indexByte [112, 115, 113] c = m at *
      have HI := Aside0.mk hi
      clear hi hrel
      by_cases hma : m ≤ a
      · rw [if_pos hma] at hd
        have HD := Aside0.mk hd
        clear hd
        go_wp2_with (go_at_call 69; refine HI.out.mono ?_; rintro e w' ⟨rfl, rfl⟩)
        go_ret
        exact ⟨by rw [HD.out]; rfl, hb⟩
      · rw [if_neg hma] at hd
        have HD := Aside0.mk hd.symm
        have hma' : a < m := by omega
        clear hd hma
        go_wp2_with (go_at_call 69; refine HI.out.mono ?_; rintro e w' ⟨rfl, rfl⟩)
        go_round
        case rel => exact ⟨k + 1, m, rfl, by go_num, by omega, by omega, hp, HD⟩
        case measure => simp [intOf]; omega
    · have hn : kFrom (a0.data.toList.drop k) a = true := by rw [List.drop_of_length_le (by simp; omega)]; rfl
      rw [hrel.out] at hn
      have HD := Aside0.mk hn
      clear hn hrel
      go_wp2
      go_ret
      exact ⟨by rw [HD.out]; rfl, hb⟩
end Go.Proofs.YtajndnaeknfogaaDoor.Q
