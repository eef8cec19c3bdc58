/- RulesTexts returns true, for every text and every list of rules: its row and its tied card; no condition. -/
import Derived.Test.YtajndnaeknfogaaDoorLtexts
import Derived.Test.YtajndnaeknfogaaDoorGy
namespace Go.Proofs.YtajndnaeknfogaaDoor.Q
open Go.RowKit Go.ChangeShapes Go.WideShapes Go.Proofs.YtajndnaeknfogaaDoorW.PrintWords
set_option linter.unusedVariables false

theorem plainS : ∀ t ∈ ([9, 22] : List Nat), Plain t := by
  intro t ht
  simp only [List.mem_cons, List.not_mem_nil, or_false] at ht
  rcases ht with rfl | rfl <;> simp [Plain]
def argsT : Array Value := #[.string ⟨#[]⟩, .slice none 0 0]
set_option maxRecDepth 100000 in
theorem laid_metT (os : Os) : laidMet Tryd.prog laidRow ((laidWorld os).forCall (fun _ _ => 0) ⟨#[], argsT, []⟩).memory :=
  laidMet_of_run' 8 (by kernel_rfl) (by kernel_rfl)
set_option maxRecDepth 100000 in
theorem readsT (os : Os) {H : Type} (enc : TypeId × Value → H) : ∃ places ds, DataW.whole enc Tryd.prog ((laidWorld os).forCall (fun _ _ => 0) ⟨#[], argsT, []⟩).memory [9, 22] [] false argsT.toList 8 = some (ds, [], places) :=
  ⟨[], [.lit (.string []), .nil], by kernel_rfl⟩
set_option maxRecDepth 100000 in
theorem open_text {H : Type} {enc : TypeId × Value → H} {W : World} {v : Value} {d : DataW H} {ps : List MemPlace} (hval : Value.okWide Tryd.prog W .any 0 9 v) (h : DataW.Trod enc Tryd.prog W 0 (fun _ => true) true 9 v d ps) :
    ∃ s : ByteArray, v = .string s ∧ s.size ≤ 9223372036854775807 := by
  obtain ⟨s, rfl⟩ := okWide_string Tryd.underlying9 hval
  obtain ⟨fuel, hf⟩ := h
  obtain ⟨s', h, hx, hs⟩ := DataW.trod_string Tryd.underlying9 hf
  simp [Value.cells] at h
  subst h
  rw [max_len] at hs
  exact ⟨s, rfl, hs⟩
set_option maxRecDepth 100000 in
theorem texts_contract (H : Type) (enc : TypeId × Value → H) (W : World) (args : Array Value) (ds gs : List (DataW H)) (before : List MemPlace)
    (hval : ∀ (j : Nat) t v, Tryd.f7.params[j]? = some t → args[j]? = some v → Value.okWide Tryd.prog W .any 0 t v)
    (hW : DataW.Whole enc Tryd.prog Tryd.f7.params.toList Rows.rulesTextsSpec.vars false W args.toList ds gs before) :
    Calls Tryd.prog 7 args W fun e W' => ∃ v, e = .returned v ∧ Rows.rulesTextsSpec.post enc Tryd.prog Tryd.f7 false true false false W args v W' := by
  have hW' := hW
  obtain ⟨p, q, hA0, hV, rfl, hfz, hnd⟩ := hW
  have hA : DataW.TrodAll enc Tryd.prog W 0 (fun _ => true) true Tryd.f7.params.toList args.toList ds p := hA0
  rw [Tryd.params7] at hA hval
  obtain ⟨v0, vs0, d0, ds0, p0, q0, hargs, rfl, rfl, h0, r0⟩ := trodAll_cons hA
  obtain ⟨v1, vs1, d1, ds1, p1, q1, hargs1, rfl, rfl, h1, r1⟩ := trodAll_cons r0
  obtain ⟨rfl, rfl, rfl⟩ := trodAll_nil r1
  obtain rfl : args = #[v0, v1] := by cases args; simp_all
  obtain ⟨s, rfl, hs⟩ := open_text (hval 0 9 v0 rfl rfl) h0
  obtain ⟨A0, c0, l0, rfl, hl0, hC0, hfit⟩ := open_rules (hval 1 22 v1 rfl rfl) h1
  refine (texts_calls s A0 c0 l0 W hC0 hl0 hfit hs).mono ?_
  rintro e W' ⟨rfl, hb⟩
  exact ⟨_, rfl, law_true plainS rfl rfl rfl hW' hb⟩

set_option maxRecDepth 100000 in
theorem texts_lifted (os : Os) (started : os.Started) (H : Type) (enc : TypeId × Value → H) (F : Stop.Interp) :
    ReturnsInHanded {} Tryd.checked os 7 .any ((OpenSpec.ofChange Rows.rulesTextsSpec).preRow enc Tryd.prog Tryd.f7 Rows.rulesTextsRow.domain false Rows.rulesTextsRow.laid) (((OpenSpec.ofChange Rows.rulesTextsSpec).at F).post enc Tryd.prog Tryd.f7 false true false false) := by
  obtain ⟨places, dz, hx⟩ := readsT os enc
  refine returnsInHanded_of_row (C := Tryd.checked) (s := OpenSpec.ofChange Rows.rulesTextsSpec) own started (by kernel_rfl) Tryd.func7
    (witness_row_at (enc := enc) (C := Tryd.checked) false (laidWorld os) argsT rfl (by kernel_rfl) (by kernel_rfl) (by kernel_rfl)
      (OpenSpec.preRow_of_cond 8 hx (by kernel_rfl) (fun k hk => by cases hk) (by kernel_rfl) (laid_metT os))) ?_
  intro W base args ds gs before hval hW _ _ _ hL _ _
  exact texts_contract H enc W args ds gs before hval hW

set_option maxRecDepth 100000 in
theorem texts_said : Rows.RulesTextsSaid :=
  OpenClaim.holds_of_cond 7 Tryd.f7 rfl rfl rfl rfl rfl rfl rfl ⟨rfl, rfl, rfl, rfl, rfl⟩ rfl rfl rfl rfl rfl (by kernel_rfl) Tryd.func7 (by kernel_rfl)
    (of_decide_eq_true (by kernel_rfl)) (by unfold Func.isWrapper; first | (rw [if_pos (by decide +kernel)]; kernel_rfl) | (rw [if_neg (by decide +kernel)]; exact ⟨rfl, rfl⟩))
    (fun os started H enc _ F => by rw [OpenClaim.pre_eq_preRow]; exact texts_lifted os started H enc F)

set_option maxRecDepth 100000 in
theorem texts_plain (f : FuncId) (fn : Func) (hf : Tryd.pinned.checked.prog.funcNamed "tidewater/tidewaterlaw24.RulesTexts" = some f) (hfn : Tryd.pinned.checked.prog.funcs[f]? = some fn) :
    false = Tryd.pinned.checked.prog.looks [] ∧ ∀ (j : Nat) t, fn.params[j]? = some t → Tryd.pinned.checked.prog.wantsStandIn t = false := by
  obtain rfl : f = 7 := Option.some.inj ((show Tryd.prog.funcNamed "tidewater/tidewaterlaw24.RulesTexts" = some 7 by kernel_rfl).symm.trans hf) |>.symm
  obtain rfl : fn = Tryd.f7 := (Option.some.inj (Tryd.func7.symm.trans hfn)).symm
  refine ⟨by kernel_rfl, fun j t ht => ?_⟩
  rw [Tryd.params7] at ht
  have hm := Array.mem_of_getElem? ht
  simp only [List.mem_toArray, List.mem_cons, List.not_mem_nil, or_false] at hm
  rcases hm with rfl | rfl
  · exact (show Tryd.prog.wantsStandIn 9 = false by kernel_rfl)
  · exact (show Tryd.prog.wantsStandIn 22 = false by kernel_rfl)
end Go.Proofs.YtajndnaeknfogaaDoor.Q
namespace Go.Proofs.YtajndnaeknfogaaDoor
/-- ████ THE CARD ████ -/
theorem rulesTextsCard_holds : Rows.RulesTextsCardSaid :=
  Claim7.holds_tied_plain_at .later [] _ _ _ _ Q.texts_said (fun _ h => by cases h) (by kernel_rfl) (fun _ h => by cases h) rulesTexts_row_tie rfl ⟨rfl, rfl⟩ (by kernel_rfl) rfl Q.texts_plain (by kernel_rfl)
#print axioms rulesTextsCard_holds
end Go.Proofs.YtajndnaeknfogaaDoor
