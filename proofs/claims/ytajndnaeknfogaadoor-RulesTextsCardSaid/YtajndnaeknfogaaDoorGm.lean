/- From a walk of a law to its row: what the arguments are, and that they read behind the call as before. -/
import Derived.Test.YtajndnaeknfogaaDoorQ0
import Derived.Deep.Strs
import Derived.OpenShut
namespace Go.Proofs.YtajndnaeknfogaaDoor.Q
open Go.RowKit Go.Deep Go.ChangeShapes Go.WideShapes Go.Proofs.YtajndnaeknfogaaDoorW.PrintWords Go.Proofs.YtajndnaeknfogaaDoorW.PrintLast Go.Proofs.YtajndnaeknfogaaDoorW.PrintMore
set_option linter.unusedVariables false
set_option linter.unusedSimpArgs false

/-- The types that the laws' arguments are made of. -/
def Plain (t : TypeId) : Prop := t ∈ ([22, 35, 26, 24, 142, 3, 4, 9, 23] : List Nat)
theorem plain_all {t : TypeId} (h : Plain t) : (∃ e, Tryd.prog.underlying t = some (.slice e) ∧ 0 < Tryd.prog.cellsOf e ∧ Plain e) ∨ (∃ fs : Array Field, Tryd.prog.underlying t = some (.struct fs) ∧ ∀ f ∈ fs.toList, Plain f.type) ∨
    Tryd.prog.underlying t = some .bool ∨ (∃ k, Tryd.prog.underlying t = some (.int k)) ∨ Tryd.prog.underlying t = some .string := by
  unfold Plain at h
  simp only [List.mem_cons, List.not_mem_nil, or_false] at h
  rcases h with rfl | rfl | rfl | rfl | rfl | rfl | rfl | rfl | rfl
  · exact .inl ⟨_, Tryd.underlying22, by rw [show Tryd.prog.cellsOf 35 = 3 by kernel_rfl]; decide, by simp [Plain]⟩
  · exact .inr (.inl ⟨_, Tryd.underlying35, by simp [Plain]⟩)
  · exact .inr (.inl ⟨_, Tryd.underlying26, by simp [Plain]⟩)
  · exact .inl ⟨_, Tryd.underlying24, by rw [show Tryd.prog.cellsOf 142 = 4 by kernel_rfl]; decide, by simp [Plain]⟩
  · exact .inr (.inl ⟨_, Tryd.underlying142, by simp [Plain]⟩)
  · exact .inr (.inr (.inr (.inl ⟨_, Tryd.underlying3⟩)))
  · exact .inr (.inr (.inl Tryd.underlying4))
  · exact .inr (.inr (.inr (.inr Tryd.underlying9)))
  · exact .inr (.inr (.inr (.inl ⟨_, Tryd.underlying23⟩)))

/-- Reading with all the spare is reading with the spare of the blocks that are met. -/
theorem spare_trod {H : Type} {enc : TypeId × Value → H} {w : World} {base : Nat} {held : Bool} {sp : Nat → Bool} : ∀ (n : Nat) (t : TypeId) (cs : List Value) (x : DataW H × List MemPlace), Plain t →
    DataW.trod enc Tryd.prog w base (fun _ => true) held n t cs = some x → (∀ p ∈ x.2, sp p.block = true) → DataW.trod enc Tryd.prog w base sp held n t cs = some x := by
  intro n
  induction n with
  | zero => intro t cs x _ h; simp [DataW.trod] at h
  | succ n ih =>
    intro t cs x hT h hs
    rw [DataW.trod_step] at h ⊢
    rcases plain_all hT with ⟨e, ht, hpos, he⟩ | ⟨fs, ht, hfs⟩ | ht | ⟨k, ht⟩ | ht
    · have hcs : cs = [.slice none 0 0] ∨ ∃ a len cap, cs = [.slice (some a) len cap] := by
        rw [← DataW.trod_step] at h
        rcases DataW.trod_slice ht h with ⟨h1, _⟩ | ⟨a, len, cap, _, _, _, _, h1, _⟩
        · exact .inl h1
        · exact .inr ⟨a, len, cap, h1⟩
      unfold DataW.trodStep at h ⊢
      rw [ht] at h ⊢
      rcases hcs with rfl | ⟨a, len, cap, rfl⟩
      · exact h
      · simp only at h ⊢
        split at h
        · rename_i hc
          rw [if_pos hc]
          simp only [Option.map_eq_some_iff, Option.bind_eq_some_iff] at h ⊢
          obtain ⟨elems, hel, rest, hrest, rfl⟩ := h
          have hlen : elems.length = len := by simpa using mapM_some_length hel
          have one : ∀ (i : Nat) (y : DataW H × List MemPlace), y ∈ elems ++ rest →
              (w.cells? base (a.add (i * Tryd.prog.cellsOf e)) (Tryd.prog.cellsOf e)).bind (DataW.trod enc Tryd.prog w base (fun _ => true) held n e) = some y → (w.cells? base (a.add (i * Tryd.prog.cellsOf e)) (Tryd.prog.cellsOf e)).bind (DataW.trod enc Tryd.prog w base sp held n e) = some y := by
            intro i y hy hv
            simp only [Option.bind_eq_some_iff] at hv ⊢
            obtain ⟨cs', hc', hy'⟩ := hv
            refine ⟨cs', hc', ih _ _ _ he hy' (fun p hp => hs p ?_)⟩
            simp only [List.mem_append, List.mem_flatMap]
            right
            exact ⟨y, by simpa using hy, hp⟩
          refine ⟨elems, mapM_carry hel (fun i y hi hy => one i y (by simp [hy])), rest, ?_, rfl⟩
          rw [if_pos trivial] at hrest
          have hrl : rest.length = cap - len := by simpa using mapM_some_length hrest
          by_cases h0 : cap = len
          · have : rest = [] := List.eq_nil_of_length_eq_zero (by omega)
            subst this
            split
            · rw [h0, Nat.sub_self]; rfl
            · rfl
          · have hsp : sp a.block = true := by
              refine hs (.cell a.block (a.off + 0)) ?_
              simp only [List.mem_append]
              left
              refine MemPlace.mem_row.2 ⟨0, ?_, rfl⟩
              exact Nat.mul_pos (by have := hc.2.1; omega) hpos
            rw [if_pos hsp]
            exact mapM_carry hrest (fun j y hj hy => one (len + j) y (by simp [hy]))
        · cases h
    · unfold DataW.trodStep at h ⊢
      rw [ht] at h ⊢
      simp only at h ⊢
      split at h
      · rename_i hc
        rw [if_pos hc]
        simp only [Option.map_eq_some_iff] at h ⊢
        obtain ⟨xs, hx, rfl⟩ := h
        exact ⟨xs, mapM_carry hx (fun f y hf hy hv => ih _ _ _ (hfs f hf) hv (fun p hp => hs p (List.mem_flatMap.2 ⟨y, hy, hp⟩))), rfl⟩
      · cases h
    · obtain ⟨b, rfl, rfl⟩ := DataW.trod_bool ht ((DataW.trod_step ..).trans h)
      unfold DataW.trodStep at h ⊢
      rw [ht] at h ⊢
    · obtain ⟨b, rfl, rfl, _⟩ := DataW.trod_int ht ((DataW.trod_step ..).trans h)
      unfold DataW.trodStep at h ⊢
      rw [ht] at h ⊢
      exact h
    · obtain ⟨b, rfl, rfl, _⟩ := DataW.trod_string ht ((DataW.trod_step ..).trans h)
      unfold DataW.trodStep at h ⊢
      rw [ht] at h ⊢
      exact h

theorem trodAll_again {H : Type} {enc : TypeId × Value → H} {w w' : World} {base : Nat} {held : Bool} {sp : Nat → Bool} : ∀ {ts : List TypeId} {vs : List Value} {ds : List (DataW H)} {ps : List MemPlace}, (∀ t ∈ ts, Plain t) →
    DataW.TrodAll enc Tryd.prog w base (fun _ => true) held ts vs ds ps → (∀ p ∈ ps, w.sameAt w' p) → (∀ p ∈ ps, sp p.block = true) → DataW.TrodAll enc Tryd.prog w' base sp held ts vs ds ps
  | [], [], [], _, _, h, _, _ => h
  | _ :: _, _ :: _, _ :: _, _, hT, ⟨p, q, ⟨fuel, h⟩, hs, e⟩, h1, h2 => by
    subst e
    exact ⟨p, q, ⟨fuel, spare_trod _ _ _ _ (hT _ (by simp)) (DataW.trod_carry _ _ _ _ h (fun x hx => h1 x (by simp [hx]))) (fun x hx => h2 x (by simp [hx]))⟩, trodAll_again (fun t ht => hT t (by simp [ht])) hs (fun x hx => h1 x (by simp [hx])) (fun x hx => h2 x (by simp [hx])), rfl⟩

theorem same_below {W W' : World} (hb : Below W.heap.size W W') {p : MemPlace} (hp : p.block < W.heap.size) : W.sameAt W' p := by
  cases p with
  | cell b off => exact hb.cell (p := ⟨b, off, none⟩) hp
  | map b => exact hb.block b hp
theorem kept_below {W W' : World} (hb : Below W.heap.size W W') (may : MemPlace → Prop) : W.keptBut W' may := by
  refine ⟨hb.os, hb.output, fun i hi => ?_⟩
  rw [hb.block i hi]
  split
  · rename_i h1 h2
    rw [h1] at h2
    cases h2
    exact ⟨rfl, rfl, rfl, fun _ _ => rfl⟩
  · rename_i h1 h2
    rw [h1] at h2
    cases h2
    exact .inr ⟨rfl, rfl⟩
  · rfl

set_option maxRecDepth 100000 in
/-- A law that says true and turns nothing that lay answers its row. -/
theorem law_true {H : Type} {enc : TypeId × Value → H} {f : Func} {s : ChangeSpec} {W W' : World} {args : Array Value} {ds gs : List (DataW H)} {before : List MemPlace}
    (hT : ∀ t ∈ f.params.toList, Plain t) (hres : f.resultTypes = #[4]) (hv : s.vars = []) (hs : s.fn H ds = { results := [.lit (.bool true)], args := ds })
    (hW : DataW.Whole enc Tryd.prog f.params.toList s.vars false W args.toList ds gs before) (hb : Below W.heap.size W W') : s.post enc Tryd.prog f false true false false W args (.bool true) W' := by
  have hlt := hW.lt
  have hW' := hW
  obtain ⟨p, q, hA, hV, hpq, hz, hn⟩ := hW
  rw [hv] at hV
  obtain ⟨rfl, rfl⟩ := trodVars_none hV
  rw [List.append_nil] at hpq
  subst hpq
  have args' : ∀ sp : Nat → Bool, (∀ x ∈ before, sp x.block = true) → DataW.TrodAll enc Tryd.prog W' 0 sp true f.params.toList args.toList ds before := fun sp hsp =>
    trodAll_again hT hA (fun x hx => same_below hb (hlt x hx)) hsp
  have vars' : ∀ sp : Nat → Bool, DataW.TrodVars enc Tryd.prog W' sp s.vars (s.fn H (ds ++ [])).vars [] := fun sp => by
    rw [List.append_nil, hs, hv]; rfl
  have res' : ∀ (b : Nat) (sp : Nat → Bool) (hd : Bool), DataW.TrodAll enc Tryd.prog W' b sp hd f.resultTypes.toList ((Value.bool true).resultList f.resultTypes.size) (s.fn H (ds ++ [])).results [] := fun b sp hd => by
    rw [List.append_nil, hs, hres]
    exact trodAll_cons_mk (shut_bool Tryd.underlying4 _) trodAll_mk0
  have hold : ∀ x ∈ before, (fun b => decide (b < W.heap.size)) x.block = true := fun x hx => by simpa using hlt x hx
  have ha : (s.fn H (ds ++ [])).args = ds := by rw [List.append_nil, hs]
  refine ⟨ds, [], before, [], before, [], hW', res' _ _ _, by rw [ha]; exact args' _ hold, vars' _, World.keptBut_mono (fun x hx => ⟨hx, by simpa using hx⟩) (kept_below hb _), fun _ => ?_⟩
  refine ⟨?_, _, _, ([] ++ before) ++ [], ⟨[] ++ before, [], trodAll_append (args' _ (fun _ _ => rfl)) (res' _ _ _), vars' _, rfl, ?_, ?_⟩, ?_⟩
  · exact ok_one hres rfl (okWide_bool_mk Tryd.underlying4 _)
  · intro b off hp
    have hp' : MemPlace.cell b off ∈ before := by simpa using hp
    rw [hb.frozen (p := ⟨b, off, none⟩) (hlt _ hp')]
    exact hz b off hp'
  · intro hf
    cases hf
  · intro x hx _
    simpa using hx
end Go.Proofs.YtajndnaeknfogaaDoor.Q
