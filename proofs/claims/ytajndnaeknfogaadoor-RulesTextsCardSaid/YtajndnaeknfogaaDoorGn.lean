/- What the laws' arguments are: a list of rules, a stanza with its items, texts of at most 2^63 - 1 bytes. -/
import Derived.Test.YtajndnaeknfogaaDoorGm
import Derived.Test.YtajndnaeknfogaaDoorGu
namespace Go.Proofs.YtajndnaeknfogaaDoor.Q
open Go.RowKit Go.Deep Go.ChangeShapes Go.WideShapes Go.Proofs.YtajndnaeknfogaaDoorW.PrintWords Go.Proofs.YtajndnaeknfogaaDoorW.PrintLast Go.Proofs.YtajndnaeknfogaaDoorW.PrintMore
set_option linter.unusedVariables false
set_option linter.unusedSimpArgs false
set_option maxRecDepth 100000

section
variable {H : Type} {enc : TypeId × Value → H} {W : World} {sp : Nat → Bool}

theorem cells35 : Tryd.prog.cellsOf 35 = 3 := by kernel_rfl
theorem cells142 : Tryd.prog.cellsOf 142 = 4 := by kernel_rfl
theorem cells26 : Tryd.prog.cellsOf 26 = 12 := by kernel_rfl
theorem cells9 : Tryd.prog.cellsOf 9 = 1 := by kernel_rfl
theorem cells4 : Tryd.prog.cellsOf 4 = 1 := by kernel_rfl
theorem cells3 : Tryd.prog.cellsOf 3 = 1 := by kernel_rfl
theorem cells23 : Tryd.prog.cellsOf 23 = 1 := by kernel_rfl
theorem cells24 : Tryd.prog.cellsOf 24 = 1 := by kernel_rfl
theorem max_len : maxLen = 9223372036854775807 := by unfold maxLen; rfl

theorem open_rule {fuel : Nat} {cs : List Value} {x : DataW H × List MemPlace} (h : DataW.trod enc Tryd.prog W 0 sp true fuel 35 cs = some x) :
    ∃ r : S35, cs = [.bool r.f0, .string r.f1, .string r.f2] ∧ r.f1.size ≤ 9223372036854775807 ∧ r.f2.size ≤ 9223372036854775807 := by
  obtain ⟨y0, y1, y2, n, _, hl, h0, h1, h2⟩ := trod_struct3 Tryd.underlying35 h
  rw [cells35] at hl
  match cs, hl with
  | [c0, c1, c2], _ =>
  simp only [cells4, cells9, List.drop_zero, List.drop_succ_cons, List.take_succ_cons, List.take_zero] at h0 h1 h2
  obtain ⟨b, e0, _⟩ := DataW.trod_bool Tryd.underlying4 h0
  obtain ⟨s, e1, _, hs⟩ := DataW.trod_string Tryd.underlying9 h1
  obtain ⟨t, e2, _, ht⟩ := DataW.trod_string Tryd.underlying9 h2
  cases e0; cases e1; cases e2
  rw [max_len] at hs ht
  exact ⟨⟨b, s, t⟩, rfl, hs, ht⟩
theorem open_item {fuel : Nat} {cs : List Value} {x : DataW H × List MemPlace} (h : DataW.trod enc Tryd.prog W 0 sp true fuel 142 cs = some x) :
    ∃ r : S142, cs = [.string r.f0, .string r.f1, .int .i64 r.f2, .bool r.f3] := by
  obtain ⟨xs, n, _, _, hl, hlen, hf⟩ := DataW.trod_struct Tryd.underlying142 h
  rw [cells142] at hl
  match cs, hl with
  | [c0, c1, c2, c3], _ =>
  match xs, hlen with
  | [y0, y1, y2, y3], _ =>
  have h0 := hf 0 ⟨ "User", 9, 0, false, "", "", 0⟩ rfl
  have h1 := hf 1 ⟨ "Name", 9, 1, false, "", "", 16⟩ rfl
  have h2 := hf 2 ⟨ "Sub", 3, 2, false, "", "", 32⟩ rfl
  have h3 := hf 3 ⟨ "Asked", 4, 3, false, "", "", 40⟩ rfl
  simp only [cells4, cells9, cells3, List.drop_zero, List.drop_succ_cons, List.take_succ_cons, List.take_zero] at h0 h1 h2 h3
  obtain ⟨a, e0, _⟩ := DataW.trod_string Tryd.underlying9 h0
  obtain ⟨b, e1, _⟩ := DataW.trod_string Tryd.underlying9 h1
  obtain ⟨c, e2, _⟩ := DataW.trod_int Tryd.underlying3 h2
  obtain ⟨d, e3, _⟩ := DataW.trod_bool Tryd.underlying4 h3
  cases e0; cases e1; cases e2; cases e3
  exact ⟨⟨a, b, c, d⟩, rfl⟩

/-- A slice whose elements are read by a kind. -/
theorem open_kind {α : Type} [Inhabited α] {k : Kd α} {t e : TypeId} (ht : Tryd.prog.underlying t = some (.slice e)) (hc : Tryd.prog.cellsOf e = k.sz) {p : α → Prop}
    (hel : ∀ (fuel : Nat) (cs : List Value) (x : DataW H × List MemPlace), DataW.trod enc Tryd.prog W 0 (fun _ => true) true fuel e cs = some x → ∃ r : α, k.K W r cs ∧ p r)
    {fuel : Nat} {cs : List Value} {x : DataW H × List MemPlace} (h : DataW.trod enc Tryd.prog W 0 (fun _ => true) true fuel t cs = some x) :
    ∃ (A : Option Addr) (c : Nat) (l : List α), cs = [.slice A l.length c] ∧ l.length ≤ c ∧ Kd.C k W A l.length l ∧ (∀ r ∈ l, p r) := by
  rcases open_slice ht h with ⟨rfl, _⟩ | ⟨a, len, cap, m, n, D, Pl, rfl, _, hl, hm, hmm, _, hx⟩
  · exact ⟨none, 0, [], rfl, Nat.le_refl _, Kd.C_nil _ _, by simp⟩
  · have hle : len ≤ m := by rw [hmm]; simp; exact hl
    obtain ⟨f, hf⟩ := choose_lt (n := len) (p := fun i (r : α) => ∃ cs', W.cells? 0 (a.add (i * Tryd.prog.cellsOf e)) (Tryd.prog.cellsOf e) = some cs' ∧ k.K W r cs' ∧ p r) (fun i hi => by
      obtain ⟨cs', h1, h2⟩ := hx i (by omega)
      obtain ⟨r, hr, hp⟩ := hel _ _ _ h2
      exact ⟨r, cs', h1, hr, hp⟩)
    have hlen : ((List.range len).map f).length = len := by simp
    refine ⟨some a, cap, (List.range len).map f, by rw [hlen], by rw [hlen]; exact hl, ?_, ?_⟩
    · rw [hlen]
      refine ⟨hlen, by rw [max_len] at hm; omega, fun _ => ⟨a, rfl, fun j q hj => ?_⟩⟩
      obtain ⟨hjl, rfl⟩ := List.getElem?_eq_some_iff.1 hj
      rw [hlen] at hjl
      obtain ⟨cs', h1, h2, _⟩ := hf j hjl
      have hK : k.K W ((List.range len).map f)[j] cs' := by simpa using h2
      refine ⟨cs', k.K_len h2, hK, fun i u hu => ?_⟩
      obtain ⟨_, hcl, hcell⟩ := World.cells?_some h1
      have hi : i < Tryd.prog.cellsOf e := by
        obtain ⟨hi, _⟩ := List.getElem?_eq_some_iff.1 hu
        omega
      have := hcell i hi
      rw [Deep.add_add, hu] at this
      rw [← hc]
      exact this
    · intro r hr
      obtain ⟨i, hi, rfl⟩ := List.mem_map.1 hr
      exact (hf i (List.mem_range.1 hi)).choose_spec.2.2

instance : Inhabited S35 := ⟨⟨false, ⟨#[]⟩, ⟨#[]⟩⟩⟩
instance : Inhabited S142 := ⟨⟨⟨#[]⟩, ⟨#[]⟩, 0, false⟩⟩

theorem open_rules {v : Value} {d : DataW H} {ps : List MemPlace} (hval : Value.okWide Tryd.prog W .any 0 22 v) (h : DataW.Trod enc Tryd.prog W 0 (fun _ => true) true 22 v d ps) :
    ∃ (A : Option Addr) (c : Nat) (l : List S35), v = .slice A l.length c ∧ l.length ≤ c ∧ Kd.C k35 W A l.length l ∧ FitR l := by
  obtain ⟨a, len, cap, rfl⟩ := okWide_slice Tryd.underlying22 hval
  obtain ⟨fuel, hf⟩ := h
  obtain ⟨A, c, l, hcs, h1, h2, h3⟩ := open_kind (k := k35) (p := fun r => r.f1.size ≤ 9223372036854775807 ∧ r.f2.size ≤ 9223372036854775807) Tryd.underlying22 (by rw [cells35]; rfl) (fun fuel cs x hx => by
    obtain ⟨r, rfl, hr⟩ := open_rule hx
    exact ⟨r, k35_mk W r, hr⟩) hf
  simp [Value.cells] at hcs
  obtain ⟨rfl, rfl, rfl⟩ := hcs
  exact ⟨_, _, l, rfl, h1, h2, h3⟩

theorem open_stanza {v : Value} {d : DataW H} {ps : List MemPlace} (hval : Value.okWide Tryd.prog W .any 0 26 v) (h : DataW.Trod enc Tryd.prog W 0 (fun _ => true) true 26 v d ps) :
    ∃ (a0 : Int) (a1 a2 a3 a4 a5 a6 a7 : ByteArray) (a8 a9 : Int) (a10 : Bool) (A : Option Addr) (c : Nat) (l : List S142),
      v = .agg #[.int .i64 a0, .string a1, .string a2, .string a3, .string a4, .string a5, .string a6, .string a7, .int .u32 a8, .int .i64 a9, .bool a10, .slice A l.length c] ∧ l.length ≤ c ∧ Kd.C k142 W A l.length l := by
  obtain ⟨vs, rfl, hvs⟩ := okWide_struct Tryd.underlying26 hval
  obtain ⟨fuel, hf0⟩ := h
  obtain ⟨xs, n, _, _, hl, hlen, hf⟩ := DataW.trod_struct Tryd.underlying26 hf0
  obtain ⟨vs⟩ := vs
  have hcells : (Value.agg ⟨vs⟩).cells.toList = vs := rfl
  rw [hcells] at hf hl
  rw [cells26] at hl
  match vs, hl with
  | [c0, c1, c2, c3, c4, c5, c6, c7, c8, c9, c10, c11], _ =>
  match xs, hlen with
  | [y0, y1, y2, y3, y4, y5, y6, y7, y8, y9, y10, y11], _ =>
  have h0 := hf 0 ⟨ "Kind", 3, 0, false, "", "", 0⟩ rfl
  have h1 := hf 1 ⟨ "Type", 9, 1, false, "", "", 8⟩ rfl
  have h2 := hf 2 ⟨ "Id", 9, 2, false, "", "", 24⟩ rfl
  have h3 := hf 3 ⟨ "From", 9, 3, false, "", "", 40⟩ rfl
  have h4 := hf 4 ⟨ "To", 9, 4, false, "", "", 56⟩ rfl
  have h5 := hf 5 ⟨ "Show", 9, 5, false, "", "", 72⟩ rfl
  have h6 := hf 6 ⟨ "Token", 9, 6, false, "", "", 88⟩ rfl
  have h7 := hf 7 ⟨ "Reason", 9, 7, false, "", "", 104⟩ rfl
  have h8 := hf 8 ⟨ "H", 23, 8, false, "", "", 120⟩ rfl
  have h9 := hf 9 ⟨ "Ver", 3, 9, false, "", "", 128⟩ rfl
  have h10 := hf 10 ⟨ "Remove", 4, 10, false, "", "", 136⟩ rfl
  have h11 := hf 11 ⟨ "Items", 24, 11, false, "", "", 144⟩ rfl
  simp only [cells4, cells9, cells3, cells23, cells24, List.drop_zero, List.drop_succ_cons, List.take_succ_cons, List.take_zero] at h0 h1 h2 h3 h4 h5 h6 h7 h8 h9 h10 h11
  obtain ⟨a0, e0, _⟩ := DataW.trod_int Tryd.underlying3 h0
  obtain ⟨a1, e1, _⟩ := DataW.trod_string Tryd.underlying9 h1
  obtain ⟨a2, e2, _⟩ := DataW.trod_string Tryd.underlying9 h2
  obtain ⟨a3, e3, _⟩ := DataW.trod_string Tryd.underlying9 h3
  obtain ⟨a4, e4, _⟩ := DataW.trod_string Tryd.underlying9 h4
  obtain ⟨a5, e5, _⟩ := DataW.trod_string Tryd.underlying9 h5
  obtain ⟨a6, e6, _⟩ := DataW.trod_string Tryd.underlying9 h6
  obtain ⟨a7, e7, _⟩ := DataW.trod_string Tryd.underlying9 h7
  obtain ⟨a8, e8, _⟩ := DataW.trod_int Tryd.underlying23 h8
  obtain ⟨a9, e9, _⟩ := DataW.trod_int Tryd.underlying3 h9
  obtain ⟨a10, e10, _⟩ := DataW.trod_bool Tryd.underlying4 h10
  obtain ⟨A, c, l, e11, q1, q2, _⟩ := open_kind (k := k142) (p := fun _ => True) Tryd.underlying24 (by rw [cells142]; rfl) (fun fuel cs x hx => by
    obtain ⟨r, rfl⟩ := open_item hx
    exact ⟨r, k142_mk W r, trivial⟩) h11
  cases e0; cases e1; cases e2; cases e3; cases e4; cases e5; cases e6; cases e7; cases e8; cases e9; cases e10; cases e11
  exact ⟨_, _, _, _, _, _, _, _, _, _, _, A, c, l, rfl, q1, q2⟩
end
end Go.Proofs.YtajndnaeknfogaaDoor.Q
