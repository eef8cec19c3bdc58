/- The contract of rules.Read: the rules of a text, or that it is none; condition: a text shorter than 4294967281 bytes. -/
import Derived.Test.YtajndnaeknfogaaDoorGra
import Derived.Test.YtajndnaeknfogaaDoorGo
namespace Go.Proofs.YtajndnaeknfogaaDoor.Q
open Go.RowKit Go.Shelf Go.Proofs.YtajndnaeknfogaaDoorW.PrintWords Go.Proofs.YtajndnaeknfogaaDoorW.PrintLast Go.Proofs.YtajndnaeknfogaaDoorW.PrintMore
set_option linter.unusedVariables false
set_option linter.unusedSimpArgs false
attribute [local go_sem] Oper.semAt_some

def goRead : List S37 → List ByteArray → Option (List S37)
  | acc, [] => some acc
  | acc, x :: xs => if (oneP x).2.2.2 = false ∨ acc.length = 32 then none else goRead (acc ++ [⟨(oneP x).1, (oneP x).2.1, (oneP x).2.2.1⟩]) xs
def readP (s : ByteArray) : List S37 × Int :=
  if s.data.toList = [] then ([], 0) else match goRead [] (semiF s.size s) with
    | some l => (l, 0)
    | none => ([], 3)
def rules_Read.f (a0 : ByteArray) : Option (List S37 × Int) := if a0.size < 4294967281 then some (readP a0) else none

theorem goRead_append (acc : List S37) (xs ys : List ByteArray) : goRead acc (xs ++ ys) = (goRead acc xs).bind fun a => goRead a ys := by
  induction xs generalizing acc with
  | nil => rfl
  | cons x xs ih =>
    simp only [List.cons_append, goRead]
    split
    · rfl
    · exact ih _
theorem goRead_prefix {acc : List S37} {xs ys : List ByteArray} (h : xs <+: ys) (hn : goRead acc xs = none) : goRead acc ys = none := by
  obtain ⟨t, rfl⟩ := h
  rw [goRead_append, hn]; rfl
theorem goRead_len {acc : List S37} {xs : List ByteArray} {l : List S37} (h : goRead acc xs = some l) (ha : acc.length ≤ 32) : l.length ≤ 32 := by
  induction xs generalizing acc with
  | nil => simp only [goRead, Option.some.injEq] at h; subst h; exact ha
  | cons x xs ih =>
    simp only [goRead] at h
    split at h
    · cases h
    · rename_i hc
      refine ih h ?_
      simp only [List.length_append, List.length_cons, List.length_nil]
      have : acc.length ≠ 32 := fun e => hc (.inr e)
      omega

def cells37 (x : S37) : List Value := [.bool x.f0, .string x.f1, .string x.f2]
def rowOf (l : List S37) : List Value := l.flatMap cells37
theorem rowOf_snoc (l : List S37) (x : S37) : rowOf (l ++ [x]) = rowOf l ++ cells37 x := by simp [rowOf]
theorem reps_rowOf {R : S37 → List Value → Prop} (hR : ∀ x, R x (cells37 x)) (l : List S37) : Reps R 3 l (rowOf l) := by
  have key : ∀ (rest done : List S37), Reps R 3 done (rowOf done) → Reps R 3 (done ++ rest) (rowOf (done ++ rest)) := by
    intro rest
    induction rest with
    | nil => intro done h; simpa using h
    | cons x rest ih =>
      intro done h
      have := ih (done ++ [x]) (by rw [rowOf_snoc]; exact h.snoc (hR x) rfl)
      simpa using this
  exact key l [] (Reps.none _ _)

structure RInv (w : World) (rec : Loop) (rv u3 : Value) (ev : Int) (acc : List S37) (W : World) : Prop where
  h0 : Boxed W w.heap.size 31 rv
  h1 : Boxed W (w.heap.size + 1) 44 (.int .i64 ev)
  h2 : ∃ v, Boxed W (w.heap.size + 2) 31 v ∧ W.ownsRow w.heap.size 37 3 v acc.length (rowOf acc)
  h3 : Boxed W (w.heap.size + 3) 9 u3
  h4 : Boxed W (w.heap.size + 4) 9 (.string ⟨#[59]⟩)
  h5 : Boxed W (w.heap.size + 5) 3 (.int .i64 0)
  hD : W.heap[w.heap.size + 6]? = some (.deferred (some []))
  hL : W.heap[w.heap.size + 7]? = some (.loop rec)
  hb : Below w.heap.size w W

theorem RInv.keeps {w : World} {rec rec' : Loop} {rv rv' u3 : Value} {ev ev' : Int} {acc acc' : List S37} {W W' : World} (h : RInv w rec rv u3 ev acc W) (h' : RInv w rec' rv' u3 ev' acc' W') :
    KeepsThree (w.heap.size + 3) (w.heap.size + 4) (w.heap.size + 5) W W' := ⟨Eq.trans h'.h3 (Eq.symm h.h3), Eq.trans h'.h4 (Eq.symm h.h4), Eq.trans h'.h5 (Eq.symm h.h5)⟩

/-- All of it lies on where a block that is none of its own turns. -/
theorem RInv.moved {w : World} {rec rec' : Loop} {rv u3 : Value} {ev : Int} {acc : List S37} {W W' : World} (h : RInv w rec rv u3 ev acc W) {row : Option Nat} (hg : W.grownBy W' row)
    (hr : ∀ r, row = some r → w.heap.size ≤ r ∧ (r = w.heap.size + 7 ∨ W.heap.size ≤ r)) (hL : W'.heap[w.heap.size + 7]? = some (.loop rec')) : RInv w rec' rv u3 ev acc W' := by
  have hlt : w.heap.size + 7 < W.heap.size := (Array.getElem?_eq_some_iff.1 h.hL).1
  have ne : ∀ k, k < w.heap.size + 7 → some k ≠ row := fun k hk e => by have := (hr k e.symm).2; omega
  refine ⟨h.h0.kept hg (ne _ (by omega)), h.h1.kept hg (ne _ (by omega)), ?_, h.h3.kept hg (ne _ (by omega)), h.h4.kept hg (ne _ (by omega)), h.h5.kept hg (ne _ (by omega)), (hg.block _ (by omega) (ne _ (by omega))).trans h.hD, hL, h.hb.grown hg h.hb.size (fun k e => (hr k e).1)⟩
  obtain ⟨v, hv, hrow⟩ := h.h2
  refine ⟨v, hv.kept hg (ne _ (by omega)), hrow.kept hg ?_⟩
  rcases hrow.2 with ⟨rfl, _⟩ | ⟨g, cap, cur, rfl, hgb, hgh, _⟩
  · exact .inl rfl
  · refine .inr fun e => ?_
    have e' : row = some g := by rw [← e]; rfl
    rcases (hr g e').2 with h7 | h8
    · have := h.hL; rw [← h7, hgh] at this; cases this
    · have := (Array.getElem?_eq_some_iff.1 hgh).1; omega
theorem RInv.putL {w : World} {rec : Loop} (rec' : Loop) {rv u3 : Value} {ev : Int} {acc : List S37} {W : World} (h : RInv w rec rv u3 ev acc W) : RInv w rec' rv u3 ev acc (W.putObj (w.heap.size + 7) (.loop rec')) :=
  h.moved (grownBy_putObj' W _ _) (fun r e => by cases e; exact ⟨by omega, .inl rfl⟩) (World.putObj_heap_same (Array.getElem?_eq_some_iff.1 h.hL).1)
theorem RInv.below {w : World} {rec : Loop} {rv u3 : Value} {ev : Int} {acc : List S37} {W W' : World} (h : RInv w rec rv u3 ev acc W) (hb : Below W.heap.size W W') : RInv w rec rv u3 ev acc W' :=
  h.moved (row := none) ⟨hb.os, hb.tape, hb.output, hb.size, fun k hk _ => hb.block k hk⟩ (fun r e => by cases e) ((hb.block _ (Array.getElem?_eq_some_iff.1 h.hL).1).trans h.hL)
theorem kept_ne {W : World} {b k : Nat} {v : Value} {o : Obj} (h : W.heap[k]? = some o) (hne : k ≠ b) : (W.setCell ⟨b, 0, none⟩ v).heap[k]? = some o := (Below.heap_setCell W ⟨b, 0, none⟩ v k hne).trans h
theorem RInv.set3 {w : World} {rec : Loop} {rv u3 : Value} (u : Value) {ev : Int} {acc : List S37} {W : World} (h : RInv w rec rv u3 ev acc W) : RInv w rec rv u ev acc (W.setCell ⟨w.heap.size + 3, 0, none⟩ u) := by
  obtain ⟨v, hv, hrow⟩ := h.h2
  exact ⟨kept_ne h.h0 (by omega), kept_ne h.h1 (by omega), ⟨v, kept_ne hv (by omega), hrow.kept (grownBy_setCell' _ _ _) (.inr (h.h3.not_row (by decide) hrow).symm)⟩, h.h3.set u, kept_ne h.h4 (by omega), kept_ne h.h5 (by omega),
    kept_ne h.hD (by omega), kept_ne h.hL (by omega), h.hb.setCell (p := ⟨w.heap.size + 3, 0, none⟩) (by show _ ≤ w.heap.size + 3; omega) u⟩
theorem RInv.set0 {w : World} {rec : Loop} {rv u3 : Value} (u : Value) {ev : Int} {acc : List S37} {W : World} (h : RInv w rec rv u3 ev acc W) : RInv w rec u u3 ev acc (W.setCell ⟨w.heap.size, 0, none⟩ u) := by
  obtain ⟨v, hv, hrow⟩ := h.h2
  exact ⟨h.h0.set u, kept_ne h.h1 (by omega), ⟨v, kept_ne hv (by omega), hrow.kept (grownBy_setCell' _ _ _) (.inr (h.h0.not_row (by decide) hrow).symm)⟩, kept_ne h.h3 (by omega), kept_ne h.h4 (by omega), kept_ne h.h5 (by omega),
    kept_ne h.hD (by omega), kept_ne h.hL (by omega), h.hb.setCell (p := ⟨w.heap.size, 0, none⟩) (Nat.le_refl _) u⟩
theorem RInv.set1 {w : World} {rec : Loop} {rv u3 : Value} (e' : Int) {ev : Int} {acc : List S37} {W : World} (h : RInv w rec rv u3 ev acc W) : RInv w rec rv u3 e' acc (W.setCell ⟨w.heap.size + 1, 0, none⟩ (.int .i64 e')) := by
  obtain ⟨v, hv, hrow⟩ := h.h2
  exact ⟨kept_ne h.h0 (by omega), h.h1.set _, ⟨v, kept_ne hv (by omega), hrow.kept (grownBy_setCell' _ _ _) (.inr (h.h1.not_row (by decide) hrow).symm)⟩, kept_ne h.h3 (by omega), kept_ne h.h4 (by omega), kept_ne h.h5 (by omega),
    kept_ne h.hD (by omega), kept_ne h.hL (by omega), h.hb.setCell (p := ⟨w.heap.size + 1, 0, none⟩) (by show _ ≤ w.heap.size + 1; omega) _⟩

/-- Behind 'l = append(l, r)'. -/
theorem RInv.appended {w : World} {rec : Loop} {rv u3 v v' : Value} {ev : Int} {acc acc' : List S37} {W w1 : World} {tmp : Obj} (h : RInv w rec rv u3 ev acc W) (hv : Boxed W (w.heap.size + 2) 31 v)
    (hrow : W.ownsRow w.heap.size 37 3 v acc.length (rowOf acc)) (hown' : w1.ownsRow w.heap.size 37 3 v' acc'.length (rowOf acc')) (hgrow : (W.alloc tmp).grownBy w1 v.ownBlock) :
    RInv w rec rv u3 ev acc' (w1.setCell ⟨w.heap.size + 2, 0, none⟩ v') := by
  obtain ⟨hv1, hv2, hr2, hk2, hb2⟩ := hv.appended (by decide) hrow h.hb.size (by omega) hown' hgrow
  have bx : ∀ {b : Nat} {t : TypeId} {u : Value}, t ≠ 37 → b ≠ w.heap.size + 2 → Boxed W b t u → Boxed (w1.setCell ⟨w.heap.size + 2, 0, none⟩ v') b t u := fun ht hne hB => kept_ne ((hB.alloc tmp).kept hgrow (hB.not_row ht hrow)) hne
  exact ⟨bx (by decide) (by omega) h.h0, bx (by decide) (by omega) h.h1, ⟨v', hv2, hr2⟩, bx (by decide) (by omega) h.h3, bx (by decide) (by omega) h.h4, bx (by decide) (by omega) h.h5, hk2.same _ _ h.hD rfl, hk2.same _ _ h.hL rfl, h.hb.trans hb2⟩

theorem info37' : (Tryd.prog.info? 37).map (fun i => (i.zero, i.size, i.bytes)) = some (some (.agg #[.bool false, .string ⟨#[]⟩, .string ⟨#[]⟩]), 3, 40) := by kernel_rfl

theorem splitSeq_calls (s sep : ByteArray) (w : World) : Calls Tryd.prog 51 #[.string s, .string sep, .int .i64 0] w fun e w' =>
    e = .returned (.func (.func 65) #[] #[.pointer (some ⟨w.heap.size + 1, 0, none⟩), .pointer (some ⟨w.heap.size, 0, none⟩), .pointer (some ⟨w.heap.size + 1 + 1, 0, none⟩)]) ∧
      w' = ((w.alloc (.cells #[.string s] 9)).alloc (.cells #[.string sep] 9)).alloc (.cells #[.int .i64 0] 3) := by
  go_enter Tryd.func51, Tryd.ntmps51
  go_wp2
  go_ret
  exact ⟨rfl, rfl⟩
theorem SplitSeq_calls (s sep : ByteArray) (w : World) : Calls Tryd.prog 31 #[.string s, .string sep] w fun e w' =>
    e = .returned (.func (.func 65) #[] #[.pointer (some ⟨w.heap.size + 1, 0, none⟩), .pointer (some ⟨w.heap.size, 0, none⟩), .pointer (some ⟨w.heap.size + 1 + 1, 0, none⟩)]) ∧
      w' = ((w.alloc (.cells #[.string s] 9)).alloc (.cells #[.string sep] 9)).alloc (.cells #[.int .i64 0] 3) := by
  go_enter Tryd.func31, Tryd.ntmps31
  go_wp2_with (go_at_call 51; refine (splitSeq_calls _ _ _).mono ?_; rintro e w' ⟨rfl, rfl⟩)
  go_ret
  exact ⟨rfl, rfl⟩
def readW (w : World) (s : ByteArray) : World :=
  (((((w.alloc (.cells #[.slice none 0 0] 31)).alloc (.cells #[.int .i64 0] 44)).alloc (.cells #[.slice none 0 0] 31)).alloc (.cells #[.string s] 9)).alloc (.cells #[.string ⟨#[59]⟩] 9)).alloc (.cells #[.int .i64 0] 3)
theorem read_start (w : World) (s : ByteArray) : (readW w s).heap.size = w.heap.size + 6 ∧ Boxed (readW w s) w.heap.size 31 (.slice none 0 0) ∧ Boxed (readW w s) (w.heap.size + 1) 44 (.int .i64 0) ∧
    Boxed (readW w s) (w.heap.size + 2) 31 (.slice none 0 0) ∧ Boxed (readW w s) (w.heap.size + 3) 9 (.string s) ∧ Boxed (readW w s) (w.heap.size + 4) 9 (.string ⟨#[59]⟩) ∧ Boxed (readW w s) (w.heap.size + 5) 3 (.int .i64 0) ∧ Below w.heap.size w (readW w s) := by
  unfold readW
  have n : ∀ (W : World) (k : Nat) (t : TypeId) (v : Value), W.heap.size = k → Boxed (W.alloc (.cells #[v] t)) k t v := fun W k t v e => e ▸ Boxed.new W t v
  refine ⟨by simp only [World.size_alloc], (((((n _ _ _ _ rfl).alloc _).alloc _).alloc _).alloc _).alloc _, ((((n _ _ _ _ (by simp only [World.size_alloc])).alloc _).alloc _).alloc _).alloc _, (((n _ _ _ _ (by simp only [World.size_alloc])).alloc _).alloc _).alloc _,
    ((n _ _ _ _ (by simp only [World.size_alloc])).alloc _).alloc _, (n _ _ _ _ (by simp only [World.size_alloc])).alloc _, n _ _ _ _ (by simp only [World.size_alloc]), ?_⟩
  repeat (first | (with_reducible exact Below.refl _ _) | apply below_alloc)

def ruleOf (x : ByteArray) : S37 := ⟨(oneP x).1, (oneP x).2.1, (oneP x).2.2.1⟩
/-- How the loop's body may be left. -/
def bodyQ (w : World) (rec : Loop) (u3 : Value) (acc : List S37) (x : ByteArray) : Exit → Act → World → Prop
  | .normal, _, W' => goRead acc [x] = some (acc ++ [ruleOf x]) ∧ RInv w rec (.slice none 0 0) u3 0 (acc ++ [ruleOf x]) W'
  | .ret, _, W' => goRead acc [x] = none ∧ RInv w rec (.slice none 0 0) u3 3 acc W'
  | _, _, _ => False

/-- The loop over the pieces: what its body and what follows it owe. -/
theorem range_semi {g : Operand} {assign body : Code} {Q : Exit → Act → World → Prop} {a : Act} {w W0 : World} {s : ByteArray} (hs : s.size ≤ 4611686018427387904)
    (hg : a.eval g = .func (.func 65) #[] #[.pointer (some ⟨w.heap.size + 4, 0, none⟩), .pointer (some ⟨w.heap.size + 3, 0, none⟩), .pointer (some ⟨w.heap.size + 5, 0, none⟩)])
    (hsz : W0.heap.size = w.heap.size + 6) (b0 : Boxed W0 w.heap.size 31 (.slice none 0 0)) (b1 : Boxed W0 (w.heap.size + 1) 44 (.int .i64 0)) (b2 : Boxed W0 (w.heap.size + 2) 31 (.slice none 0 0))
    (b3 : Boxed W0 (w.heap.size + 3) 9 (.string s)) (b4 : Boxed W0 (w.heap.size + 4) 9 (.string ⟨#[59]⟩)) (b5 : Boxed W0 (w.heap.size + 5) 3 (.int .i64 0)) (hbw : Below w.heap.size w W0) (a₁ : ByteArray → Act)
    (hassign : ∀ (x : ByteArray) (W : World) (K : Act → World → Prop), K (a₁ x) W →
      assign.wpIn (Fence.wide.inRound (w.heap.size + 7)) 4 Tryd.prog (Exit.then K (fun _ _ _ => False)) { tmps := ((#[12] : Array Tmp).zip #[Value.string x]).foldl (fun t (p, v) => t.setIfInBounds p v) a.tmps, defers := [] } W)
    (hbody : ∀ (rec : Loop) (acc : List S37) (x : ByteArray) (u3 : Value) (W : World), acc.length ≤ 32 → x.size ≤ s.size → RInv w rec (.slice none 0 0) u3 0 acc W → body.wpIn (Fence.wide.inRound (w.heap.size + 7)) 4 Tryd.prog (bodyQ w rec u3 acc x) (a₁ x) W)
    (hdone : ∀ (rec : Loop) (acc : List S37) (u3 : Value) (W : World), goRead [] (semiF s.size s) = some acc → RInv w rec (.slice none 0 0) u3 0 acc W → Q .normal { a with defers := { target := .collected (w.heap.size + 6), args := #[] } :: a.defers } W)
    (hstop : ∀ (rec : Loop) (acc : List S37) (u3 : Value) (W : World), goRead [] (semiF s.size s) = none → RInv w rec (.slice none 0 0) u3 3 acc W → Code.ret.wpIn Fence.wide 6 Tryd.prog Q { a with defers := { target := .collected (w.heap.size + 6), args := #[] } :: a.defers } W) :
    (Code.rangeFunc g #[12] assign body).wpIn Fence.wide 6 Tryd.prog Q a W0 := by
  refine wpIn_rangeFunc fun fn _ => ?_
  obtain ⟨rec, hrec⟩ : ∃ rec : LoopState → Option Code → Loop, rec = fun st pe => { state := st, pending := pe, fn, tmps := a.tmps, params := #[12], assign, body, defers := W0.heap.size } := ⟨_, rfl⟩
  obtain ⟨W1, hW1⟩ : ∃ W1, (W0.alloc (.deferred (some []))).alloc (.loop (rec .ready none)) = W1 := ⟨_, rfl⟩
  have hI : RInv w (rec .ready none) (.slice none 0 0) (.string s) 0 [] W1 := by
    rw [← hW1]
    refine ⟨(b0.alloc _).alloc _, (b1.alloc _).alloc _, ⟨_, (b2.alloc _).alloc _, World.ownsRow_nil _ _ _ _⟩, (b3.alloc _).alloc _, (b4.alloc _).alloc _, (b5.alloc _).alloc _, ?_, ?_, (hbw.alloc (by omega) _).alloc (by simp; omega) _⟩
    · rw [← hsz]; exact (Below.heap_alloc _ _ _ (by simp)).trans (World.alloc_heap_new W0 _)
    · have := World.alloc_heap_new (W0.alloc (.deferred (some []))) (.loop (rec .ready none))
      rwa [World.size_alloc, hsz] at this
  have hst : ∀ st pe, (rec st pe).state = st ∧ (rec st pe).pending = pe := fun st pe => by rw [hrec]; exact ⟨rfl, rfl⟩
  refine ⟨W0.heap.size + 1, [{ target := .collected W0.heap.size, args := #[] }], W1, { target := .fn (.func 65) #[.pointer (some ⟨w.heap.size + 4, 0, none⟩), .pointer (some ⟨w.heap.size + 3, 0, none⟩), .pointer (some ⟨w.heap.size + 5, 0, none⟩)], args := #[.func (.yield (W0.heap.size + 1)) #[] #[]] }, W1, 65, #[.func (.yield (W0.heap.size + 1)) #[] #[], .pointer (some ⟨w.heap.size + 4, 0, none⟩), .pointer (some ⟨w.heap.size + 3, 0, none⟩), .pointer (some ⟨w.heap.size + 5, 0, none⟩)], W1, ?_, ?_, fun _ _ => trivial, ?_, (fun h => by cases h), ?_⟩
  · rw [← hW1, hrec]; exact run_enterLoop_outer _ _ _ _ _
  · simp only [resolve, hg]; simp [go_sem]
  · simp [invoke, go_sem, enters_of Tryd.func65 (by kernel_rfl) rfl]
  rw [hsz]
  refine (semi_in 5 (by omega) (w.heap.size + 7) (w.heap.size + 3) (w.heap.size + 4) (w.heap.size + 5) s hs
    (fun pre W => ∃ acc u3, goRead [] pre = some acc ∧ RInv w (rec .ready none) (.slice none 0 0) u3 0 acc W) (fun pre W => ∃ acc u3, goRead [] pre = none ∧ RInv w (rec .done (some .ret)) (.slice none 0 0) u3 3 acc W)
    (by omega) (by omega) ?_ ?_ W1 hI.h3 hI.h4 hI.h5 ⟨[], _, rfl, hI⟩).mono ?_
  · rintro pre W v ⟨acc, u3, h1, h2⟩
    exact ⟨acc, v, h1, h2.set3 v⟩
  · rintro pre x W ⟨acc, u3, h1, h2⟩ hx
    have hy := run_yield (P := Tryd.prog) (args := #[Value.string x]) h2.hL (by rw [hrec]; rfl)
    rw [hrec] at hy
    refine ⟨fn, _, assign, body, hy, roundIn_of_wpIn trivial (hassign x W _ ⟨_, run_beginRound h2.hL (hst _ _).1, ?_⟩)⟩
    have h3 := h2.putL { rec .ready none with state := .busy }
    refine wpIn_mono (hbody _ acc x u3 _ (goRead_len h1 (by decide)) hx h3) ?_
    rintro e a3 W3 hp
    cases e with
    | normal =>
      obtain ⟨g1, g2⟩ := hp
      have he := run_endRound (P := Tryd.prog) none g2.hL
      refine ⟨_, _, he, .inl ⟨rfl, ⟨_, u3, by rw [goRead_append, h1]; exact g1, ?_⟩, h2.keeps (g2.putL _)⟩⟩
      have h4 := g2.putL (rec .ready none)
      rw [hrec] at h4 ⊢
      exact h4
    | ret =>
      obtain ⟨g1, g2⟩ := hp
      have he := run_endRound (P := Tryd.prog) (some .ret) g2.hL
      refine ⟨_, _, he, .inr ⟨rfl, acc, u3, by rw [goRead_append, h1]; exact g1, ?_⟩⟩
      have h4 := g2.putL (rec .done (some .ret))
      rw [hrec] at h4 ⊢
      exact h4
    | exit id => exact hp.elim
    | goto t => exact hp.elim
    | panic ch => exact hp.elim
    | outgrown => exact hp.elim
  · rintro e W' ⟨⟨v, rfl⟩, (⟨acc, u3, h1, h2⟩ | ⟨pre, hp, acc, u3, h1, h2⟩)⟩
    · have he := run_endLoop (P := Tryd.prog) h2.hL (by rw [(hst _ _).1]; simp)
      rw [(hst _ _).2] at he
      exact ⟨none, _, he, hdone _ acc u3 _ h1 (h2.putL _)⟩
    · have he := run_endLoop (P := Tryd.prog) h2.hL (by rw [(hst _ _).1]; simp)
      rw [(hst _ _).2] at he
      exact ⟨some .ret, _, he, hstop _ acc u3 _ (goRead_prefix hp h1) (h2.putL _)⟩

theorem read_err {w : World} {rec : Loop} {rv u3 : Value} {ev : Int} {acc : List S37} {W : World} (h : RInv w rec rv u3 ev acc W) :
    W.cell? ⟨w.heap.size, 0, none⟩ = some rv ∧ W.cell? ⟨w.heap.size + 1, 0, none⟩ = some (.int .i64 ev) ∧ W.frozen? ⟨w.heap.size, 0, none⟩ = false ∧ W.frozen? ⟨w.heap.size + 1, 0, none⟩ = false ∧ w.heap.size < W.heap.size ∧ w.heap.size + 1 < W.heap.size :=
  ⟨h.h0.cell, h.h1.cell, h.h0.frozen, h.h1.frozen, h.h0.lt, h.h1.lt⟩

theorem row_shape {W : World} {base size n : Nat} {e : TypeId} {v : Value} {xs : List Value} (h : W.ownsRow base e size v n xs) : ∃ A c, v = .slice A n c := by
  rcases h.2 with ⟨rfl, rfl⟩ | ⟨g, cap, cur, rfl, _⟩
  · exact ⟨none, 0, rfl⟩
  · exact ⟨_, _, rfl⟩
theorem row_at {W W' : World} {base size n : Nat} {e : TypeId} {v : Value} {xs : List Value} (h : W.ownsRow base e size v n xs) (hb : Below W.heap.size W W') : W'.ownsRow base e size v n xs := by
  refine h.kept (row := none) ⟨hb.os, hb.tape, hb.output, hb.size, fun k hk _ => hb.block k hk⟩ ?_
  rcases h.2 with ⟨rfl, _⟩ | ⟨g, cap, cur, rfl, _⟩
  · exact .inl rfl
  · exact .inr (by simp [Value.ownBlock])
theorem row_box {W W' : World} {b : Nat} {t : TypeId} {v : Value} (h : Boxed W b t v) (hb : Below W.heap.size W W') : Boxed W' b t v := (hb.block _ h.lt).trans h
theorem cells_three_new (w : World) (a b c : Value) (t : TypeId) : ∀ j u, [a, b, c][j]? = some u → (w.alloc (.cells #[a, b, c] t)).cell? ((⟨w.heap.size, 0, none⟩ : Addr).add j) = some u := by
  intro j u hj
  match j, hj with
  | 0, hj => simp at hj; subst hj; simp [Addr.add]
  | 1, hj => simp at hj; subst hj; simp [Addr.add]
  | 2, hj => simp at hj; subst hj; simp [Addr.add]
theorem M37 (w : World) (base : Nat) (ok : Nat → Prop) (x : S37) : k37.M w base ok x (cells37 x) := k37_mkM w base ok x

set_option maxHeartbeats 8000000 in
set_option maxRecDepth 100000 in
theorem rules_Read.calls (a0 : ByteArray) (r1 : List S37) (r2 : Int) (w : World) (h : rules_Read.f a0 = some (r1, r2)) :
    Calls Tryd.prog 17 #[.string a0] w fun e w' => ∃ v0_ : Value, e = .returned (.tuple #[v0_, .int .i64 r2]) ∧ Kd.R k37 37 w' w.heap.size (fun _ => True) v0_ r1 ∧ Below w.heap.size w w' := by
  unfold rules_Read.f at h
  by_cases hs : a0.size < 4294967281
  · rw [if_pos hs] at h
    have hres := Option.some.inj h
    clear h
    unfold readP at hres
    by_cases h0 : a0.data.toList = []
    · rw [if_pos h0] at hres
      obtain ⟨rfl, rfl⟩ := Prod.mk.inj hres
      have h0' : a0.toList = [] := by rw [Lib.toList_data]; exact h0
      clear h0 hres hs
      go_enter Tryd.func17, Tryd.ntmps17
      go_wp2
      exact bodyPost_ret (v := .tuple #[.slice none 0 0, .int .i64 0]) (by simp [results, Tryd.results17, go_sem]) rfl ⟨_, rfl, Kd.R_nil _ _ _ _ _, ((Below.refl _ _).alloc (Nat.le_refl _) _).alloc (by simp) _⟩
    · rw [if_neg h0] at hres
      have h0' : ¬ a0.toList = [] := by rw [Lib.toList_data]; exact h0
      have h0'' : a0.toList.isEmpty = false := by cases hl : a0.toList with
        | nil => exact absurd hl h0'
        | cons => rfl
      have HRES := Aside0.mk hres
      have HS := Aside0.mk hs
      clear h0 hres hs
      refine (callsIn_wide (n := 6)).1 ?_
      refine callsIn_of_wp_marks Tryd.func17 rfl trivial ?_ rfl
      simp only [Tryd.ntmps17, List.size_toArray, List.length_cons, List.length_nil, Nat.reduceAdd, Nat.reduceSub, Array.replicate_succ, Array.replicate_zero, List.push_toArray, List.append_toArray, List.nil_append, List.cons_append]
      gi_wp2_with (refine ⟨trivial, ?_⟩; gi_at_call 31; refine (callsIn_wide.2 (SplitSeq_calls a0 ⟨#[59]⟩ _)).mono ?_; rintro e w' ⟨rfl, rfl⟩)
      have hstart := read_start w a0
      obtain ⟨W0, hW0⟩ : ∃ W0, readW w a0 = W0 := ⟨_, rfl⟩
      rw [hW0] at hstart
      unfold readW at hW0
      rw [hW0]
      clear hW0
      obtain ⟨hsz, b0, b1, b2, b3, b4, b5, hbw⟩ := hstart
      have hs' := HS.out
      refine range_semi (w := w) (s := a0) (by omega) rfl hsz b0 b1 b2 b3 b4 b5 hbw
        (fun x => { tmps := #[.string a0, undef, .pointer (some ⟨w.heap.size, 0, none⟩), .pointer (some ⟨w.heap.size + 1, 0, none⟩), .pointer (some ⟨w.heap.size + 1 + 1, 0, none⟩), .string x, undef, undef, .string a0, .bool false, .string a0,
          .func (.func 65) #[] #[.pointer (some ⟨w.heap.size + 1 + 1 + 1 + 1, 0, none⟩), .pointer (some ⟨w.heap.size + 1 + 1 + 1, 0, none⟩), .pointer (some ⟨w.heap.size + 1 + 1 + 1 + 1 + 1, 0, none⟩)], .string x,
          undef, undef, undef, undef, undef, undef, undef, undef, undef, undef, undef, undef, undef, undef, undef, undef, undef], defers := [] }) ?assign ?body ?done ?stop
      case assign =>
        intro x W K hK
        gi_wp2
        exact hK
      case body =>
        rintro rec acc x u3 W hacc hx hI
        have hone : rules_one.f x = some (oneP x) := by unfold rules_one.f; rw [if_pos (by omega)]
        obtain ⟨o1, o2, o3, o4, hop⟩ : ∃ o1 o2 o3 o4, oneP x = (o1, o2, o3, o4) := ⟨_, _, _, _, rfl⟩
        rw [hop] at hone
        have HO := Aside0.mk (rules_one.calls x o1 o2 o3 o4 W hone)
        have hru : ruleOf x = ⟨o1, o2, o3⟩ := by unfold ruleOf; rw [hop]
        have hgo : goRead acc [x] = if o4 = false ∨ acc.length = 32 then none else some (acc ++ [ruleOf x]) := by
          simp only [goRead, hop, hru]
        have HRU := Aside0.mk hru
        have HGO := Aside0.mk hgo
        have HI := Aside0.mk hI
        clear hone hop hru hgo hI
        obtain ⟨v, hv, hrow⟩ := HI.out.h2
        obtain ⟨A, c, rfl⟩ := row_shape hrow
        cases o4
        · have HN : Aside0 (goRead acc [x] = none) := ⟨by rw [HGO.out]; simp⟩
          gi_wp2_with (refine ⟨trivial, ?_⟩; gi_at_call 32; refine (CallsIn.inRound _ (callsIn_wide.2 HO.out)).mono ?_; rintro e W2 ⟨rfl, hb2⟩; obtain ⟨q0, q1, q2, q3, l0, l1⟩ := read_err (HI.out.below hb2))
          exact ⟨HN.out, (((HI.out.below hb2).set0 _).set1 3).below ((Below.refl _ _).alloc (Nat.le_refl _) _)⟩
        · by_cases h32 : acc.length = 32
          · have HN : Aside0 (goRead acc [x] = none) := ⟨by rw [HGO.out, if_pos (.inr h32)]⟩
            have h32' : ((acc.length : Int) == 32) = true := by simp [h32]
            gi_wp2_with (refine ⟨trivial, ?_⟩; gi_at_call 32; refine (CallsIn.inRound _ (callsIn_wide.2 HO.out)).mono ?_; rintro e W2 ⟨rfl, hb2⟩; obtain ⟨q0, q1, q2, q3, l0, l1⟩ := read_err (HI.out.below hb2); have hc2 : W2.cell? ⟨w.heap.size + 1 + 1, 0, none⟩ = some (.slice A acc.length c) := (row_box hv hb2).cell; have l2 : w.heap.size + 1 + 1 < W2.heap.size := (row_box hv hb2).lt)
            exact ⟨HN.out, (((HI.out.below hb2).set0 _).set1 3).below ((Below.refl _ _).alloc (Nat.le_refl _) _)⟩
          · have HN : Aside0 (goRead acc [x] = some (acc ++ [ruleOf x])) := ⟨by rw [HGO.out, if_neg (by simp [h32])]⟩
            have h32' : ((acc.length : Int) == 32) = false := by simp; omega
            obtain ⟨i0, hi, hz0, hz1, hz2⟩ := info_parts info37'
            gi_wp2_with (first | (gi_at_builtin; refine wpListIn_append_own _ rfl _ _ 31 rfl w.heap.size 37 i0 (.agg #[.bool false, .string ⟨#[]⟩, .string ⟨#[]⟩]) 3 40 Tryd.underlying31 hi hz0 hz1 hz2 rfl (by decide) _ _ _ rfl (hr3.alloc _) ⟨W2.heap.size + 1, 0, none⟩ 1 1 [.bool o1, .string o2, .string o3] rfl rfl (by have h4c := cells_three_new (W2.alloc (.cells #[.bool o1, .string o2, .string o3] 37)) (.bool o1) (.string o2) (.string o3) 37; rw [World.size_alloc] at h4c; exact h4c) (by simp [Value.oneCell']) (by unfold maxLen; omega) (by omega) (by have := h3.hb.size; simp at this ⊢; omega) ?_; intro v' w1 hown' hgrow _; obtain ⟨g', cap', rfl⟩ := ownsRow_succ hown'; obtain ⟨hv1, hv2, hr2, hk2, hb3⟩ := hv3.appended (by decide) hr3 h3.hb.size (by omega) hown' hgrow; have hc1 : w1.cell? ⟨w.heap.size + 1 + 1, 0, none⟩ = _ := hv1.cell; have hf1 : w1.frozen? ⟨w.heap.size + 1 + 1, 0, none⟩ = false := hv1.frozen) | (refine ⟨trivial, ?_⟩; gi_at_call 32; refine (CallsIn.inRound _ (callsIn_wide.2 HO.out)).mono ?_; rintro e W2 ⟨rfl, hb2⟩; have h3 := (HI.out.below hb2).below ((Below.refl _ W2).alloc (Nat.le_refl _) (.cells #[.bool o1, .string o2, .string o3] 37)); have hv2' := row_box hv hb2; have hc2 : W2.cell? ⟨w.heap.size + 1 + 1, 0, none⟩ = some (.slice A acc.length c) := hv2'.cell; have l2 : w.heap.size + 1 + 1 < W2.heap.size := hv2'.lt; have hv3 := hv2'.alloc (.cells #[.bool o1, .string o2, .string o3] 37); have hr3 := row_at (row_at hrow hb2) ((Below.refl _ W2).alloc (Nat.le_refl _) (.cells #[.bool o1, .string o2, .string o3] 37))))
            refine ⟨HN.out, ?_⟩
            have hl : (acc ++ [ruleOf x]).length = acc.length + 1 := by simp
            have hz : rowOf (acc ++ [ruleOf x]) = rowOf acc ++ [.bool o1, .string o2, .string o3] := by rw [rowOf_snoc, HRU.out]; rfl
            exact h3.appended hv3 hr3 (by rw [hl, hz]; exact hown') hgrow
      case done =>
        rintro rec acc u3 W hgo hI
        have hr : r1 = acc ∧ r2 = 0 := by
          have := HRES.out
          rw [hgo] at this
          exact ⟨(congrArg Prod.fst this).symm, (congrArg Prod.snd this).symm⟩
        obtain ⟨rfl, rfl⟩ := hr
        obtain ⟨v, hv, hrow⟩ := hI.h2
        obtain ⟨A, c, rfl⟩ := row_shape hrow
        have HI := Aside0.mk hI
        obtain ⟨q0, q1, q2, q3, l0, l1⟩ := read_err hI
        have hc : W.cell? ⟨w.heap.size + 1 + 1, 0, none⟩ = some (.slice A r1.length c) := hv.cell
        clear hI
        gi_wp2
        have h6 := (HI.out.set0 (.slice A r1.length c)).set1 0
        refine ⟨by simp, .inl ⟨_, _, rfl, run_takeDeferred h6.hD, ?_⟩⟩
        have hr0 := hrow.kept (grownBy_setCell' _ w.heap.size (.slice A r1.length c)) (.inr (HI.out.h0.not_row (by decide) hrow).symm)
        have hr6 := hr0.kept (grownBy_setCell' _ (w.heap.size + 1) (.int .i64 0)) (.inr ((HI.out.set0 (.slice A r1.length c)).h1.not_row (by decide) hr0).symm)
        have k0 := cell_kept h6.h0.cell (grownBy_putObj' _ (w.heap.size + 6) (.deferred none)) (fun r e => by cases e; exact ⟨_, h6.hD, rfl⟩)
        have k1 := cell_kept h6.h1.cell (grownBy_putObj' _ (w.heap.size + 6) (.deferred none)) (fun r e => by cases e; exact ⟨_, h6.hD, rfl⟩)
        refine ⟨.tuple #[.slice A r1.length c, .int .i64 0], by simp [results, Tryd.results17, go_sem, k0, k1], _, rfl, ⟨fun _ _ => trivial, rowOf r1, ownsRow_putObj hr6 _ h6.hD rfl, reps_rowOf (fun x => M37 _ _ _ x) r1⟩, h6.hb.trans (belowK_b (w := w) (Nat.le_refl _) _ _ _ _ (by omega) h6.hD rfl rfl)⟩
      case stop =>
        rintro rec acc u3 W hgo hI
        have hr : r1 = [] ∧ r2 = 3 := by
          have := HRES.out
          rw [hgo] at this
          exact ⟨(congrArg Prod.fst this).symm, (congrArg Prod.snd this).symm⟩
        obtain ⟨rfl, rfl⟩ := hr
        have HI := Aside0.mk hI
        obtain ⟨q0, q1, q2, q3, l0, l1⟩ := read_err hI
        clear hI
        gi_wp2
        have h6 := HI.out
        refine ⟨by simp, .inl ⟨_, _, rfl, run_takeDeferred h6.hD, ?_⟩⟩
        have k0 := cell_kept h6.h0.cell (grownBy_putObj' _ (w.heap.size + 6) (.deferred none)) (fun r e => by cases e; exact ⟨_, h6.hD, rfl⟩)
        have k1 := cell_kept h6.h1.cell (grownBy_putObj' _ (w.heap.size + 6) (.deferred none)) (fun r e => by cases e; exact ⟨_, h6.hD, rfl⟩)
        exact ⟨.tuple #[.slice none 0 0, .int .i64 3], by simp [results, Tryd.results17, go_sem, k0, k1], _, rfl, Kd.R_nil _ _ _ _ _, h6.hb.trans (belowK_b (w := w) (Nat.le_refl _) _ _ _ _ (by omega) h6.hD rfl rfl)⟩
  · rw [if_neg hs] at h; cases h
end Go.Proofs.YtajndnaeknfogaaDoor.Q
