/- RulesIdle returns true, for every list of rules, every stanza and every address: its row and its tied card; no condition. -/
import Derived.Test.YtajndnaeknfogaaDoorLidle
import Derived.Test.YtajndnaeknfogaaDoorGy
namespace Go.Proofs.YtajndnaeknfogaaDoor.Q
open Go.RowKit Go.ChangeShapes Go.WideShapes Go.Proofs.YtajndnaeknfogaaDoorW.PrintWords
set_option linter.unusedVariables false

theorem plainS : ∀ t ∈ ([22, 26, 9] : List Nat), Plain t := by
  intro t ht
  simp only [List.mem_cons, List.not_mem_nil, or_false] at ht
  rcases ht with rfl | rfl | rfl <;> simp [Plain]
set_option maxRecDepth 100000 in
theorem open_text {H : Type} {enc : TypeId × Value → H} {W : World} {v : Value} {d : DataW H} {ps : List MemPlace} (hval : Value.okWide Tryd.prog W .any 0 9 v) (h : DataW.Trod enc Tryd.prog W 0 (fun _ => true) true 9 v d ps) :
    ∃ s : ByteArray, v = .string s ∧ s.size ≤ 9223372036854775807 := by
  obtain ⟨s, rfl⟩ := okWide_string Tryd.underlying9 hval
  obtain ⟨fuel, hf⟩ := h
  obtain ⟨s', h, hx, hs⟩ := DataW.trod_string Tryd.underlying9 hf
  simp [Value.cells] at h
  subst h
  rw [max_len] at hs
  exact ⟨s, rfl, hs⟩
set_option maxRecDepth 100000 in
theorem idle_contract (H : Type) (enc : TypeId × Value → H) (W : World) (args : Array Value) (ds gs : List (DataW H)) (before : List MemPlace)
    (hval : ∀ (j : Nat) t v, Tryd.f6.params[j]? = some t → args[j]? = some v → Value.okWide Tryd.prog W .any 0 t v)
    (hW : DataW.Whole enc Tryd.prog Tryd.f6.params.toList Rows.rulesIdleSpec.vars false W args.toList ds gs before) :
    Calls Tryd.prog 6 args W fun e W' => ∃ v, e = .returned v ∧ Rows.rulesIdleSpec.post enc Tryd.prog Tryd.f6 false true false false W args v W' := by
  have hW' := hW
  obtain ⟨p, q, hA0, hV, rfl, hfz, hnd⟩ := hW
  have hA : DataW.TrodAll enc Tryd.prog W 0 (fun _ => true) true Tryd.f6.params.toList args.toList ds p := hA0
  rw [Tryd.params6] at hA hval
  obtain ⟨v0, vs0, d0, ds0, p0, q0, hargs, rfl, rfl, h0, r0⟩ := trodAll_cons hA
  obtain ⟨v1, vs1, d1, ds1, p1, q1, hargs1, rfl, rfl, h1, r1⟩ := trodAll_cons r0
  obtain ⟨v2, vs2, d2, ds2, p2, q2, hargs2, rfl, rfl, h2, r2⟩ := trodAll_cons r1
  obtain ⟨rfl, rfl, rfl⟩ := trodAll_nil r2
  obtain rfl : args = #[v0, v1, v2] := by cases args; simp_all
  obtain ⟨A0, c0, l0, rfl, hl0, hC0, hfit⟩ := open_rules (hval 0 22 v0 rfl rfl) h0
  obtain ⟨a0, a1, a2, a3, a4, a5, a6, a7, a8, a9, a10, A1, c1, l1, rfl, hl1, hC1⟩ := open_stanza (hval 1 26 v1 rfl rfl) h1
  obtain ⟨s, rfl, hs⟩ := open_text (hval 2 9 v2 rfl rfl) h2
  obtain ⟨k, hk⟩ := (idle_ev l0 a0 a1 a2 a3 a4 a5 a6 a7 a8 a9 a10 l1 s hfit hs).rounds
  refine (tidewaterlaw24_RulesIdle.calls k A0 c0 l0 a0 a1 a2 a3 a4 a5 a6 a7 a8 a9 a10 A1 c1 l1 s true W hC0 hl0 hC1 hl1 hk).mono ?_
  rintro e W' ⟨rfl, hb⟩
  exact ⟨_, rfl, law_true plainS rfl rfl rfl hW' hb⟩

set_option maxRecDepth 100000 in
theorem idle_lifted (os : Os) (started : os.Started) (H : Type) (enc : TypeId × Value → H) (F : Stop.Interp) :
    ReturnsInHanded {} Tryd.checked os 6 .any ((OpenSpec.ofChange Rows.rulesIdleSpec).preRow enc Tryd.prog Tryd.f6 Rows.rulesIdleRow.domain false Rows.rulesIdleRow.laid) (((OpenSpec.ofChange Rows.rulesIdleSpec).at F).post enc Tryd.prog Tryd.f6 false true false false) := by
  obtain ⟨places, dz, hx⟩ := readsS os enc
  refine returnsInHanded_of_row (C := Tryd.checked) (s := OpenSpec.ofChange Rows.rulesIdleSpec) own started (by kernel_rfl) Tryd.func6
    (witness_row_at (enc := enc) (C := Tryd.checked) false (laidWorld os) argsS rfl (by kernel_rfl) (by kernel_rfl) (by kernel_rfl)
      (OpenSpec.preRow_of_cond 8 hx (by kernel_rfl) (fun k hk => by cases hk) (by kernel_rfl) (laid_metS os))) ?_
  intro W base args ds gs before hval hW _ _ _ hL _ _
  exact idle_contract H enc W args ds gs before hval hW

set_option maxRecDepth 100000 in
theorem idle_said : Rows.RulesIdleSaid :=
  OpenClaim.holds_of_cond 6 Tryd.f6 rfl rfl rfl rfl rfl rfl rfl ⟨rfl, rfl, rfl, rfl, rfl⟩ rfl rfl rfl rfl rfl (by kernel_rfl) Tryd.func6 (by kernel_rfl)
    (of_decide_eq_true (by kernel_rfl)) (by unfold Func.isWrapper; first | (rw [if_pos (by decide +kernel)]; kernel_rfl) | (rw [if_neg (by decide +kernel)]; exact ⟨rfl, rfl⟩))
    (fun os started H enc _ F => by rw [OpenClaim.pre_eq_preRow]; exact idle_lifted os started H enc F)

set_option maxRecDepth 100000 in
theorem idle_plain (f : FuncId) (fn : Func) (hf : Tryd.pinned.checked.prog.funcNamed "tidewater/tidewaterlaw24.RulesIdle" = some f) (hfn : Tryd.pinned.checked.prog.funcs[f]? = some fn) :
    false = Tryd.pinned.checked.prog.looks [] ∧ ∀ (j : Nat) t, fn.params[j]? = some t → Tryd.pinned.checked.prog.wantsStandIn t = false := by
  obtain rfl : f = 6 := Option.some.inj ((show Tryd.prog.funcNamed "tidewater/tidewaterlaw24.RulesIdle" = some 6 by kernel_rfl).symm.trans hf) |>.symm
  obtain rfl : fn = Tryd.f6 := (Option.some.inj (Tryd.func6.symm.trans hfn)).symm
  refine ⟨by kernel_rfl, fun j t ht => ?_⟩
  rw [Tryd.params6] at ht
  have hm := Array.mem_of_getElem? ht
  simp only [List.mem_toArray, List.mem_cons, List.not_mem_nil, or_false] at hm
  rcases hm with rfl | rfl | rfl
  · exact (show Tryd.prog.wantsStandIn 22 = false by kernel_rfl)
  · exact (show Tryd.prog.wantsStandIn 26 = false by kernel_rfl)
  · exact (show Tryd.prog.wantsStandIn 9 = false by kernel_rfl)
end Go.Proofs.YtajndnaeknfogaaDoor.Q
namespace Go.Proofs.YtajndnaeknfogaaDoor
/-- ████ THE CARD ████ -/
theorem rulesIdleCard_holds : Rows.RulesIdleCardSaid :=
  Claim7.holds_tied_plain_at .later [] _ _ _ _ Q.idle_said (fun _ h => by cases h) (by kernel_rfl) (fun _ h => by cases h) rulesIdle_row_tie rfl ⟨rfl, rfl⟩ (by kernel_rfl) rfl Q.idle_plain (by kernel_rfl)
#print axioms rulesIdleCard_holds
end Go.Proofs.YtajndnaeknfogaaDoor
