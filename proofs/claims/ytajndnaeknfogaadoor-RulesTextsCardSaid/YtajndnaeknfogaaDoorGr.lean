/- Words for a region that draws its order, walked in the order of the text; the contract of the reference's Read: the rules of a text, or that it is none; condition: a text shorter than 4294967281 bytes. -/
import Derived.Test.YtajndnaeknfogaaDoorQ0
import Derived.Test.YtajndnaeknfogaaDoorGw
namespace Go.Proofs.YtajndnaeknfogaaDoor.Q
open Go.RowKit Go.Proofs.YtajndnaeknfogaaDoorW.PrintWords Go.Proofs.YtajndnaeknfogaaDoorW.PrintLast Go.Proofs.YtajndnaeknfogaaDoorW.PrintMore
set_option linter.unusedVariables false

/-- What has come up, with f operations of n left. -/
def fz (n f : Nat) : Array Bool := ((List.range n).map (fun j => decide (j + f < n))).toArray
structure Good (md : Region.Mode) (ops : Array Oper) (n : Nat) (cs : List Nat) : Prop where
  take : ∀ f, f < n → cs.contains (n - (f + 1)) = false → takeB md ops [] (fz n (f + 1)) (fz n f) (n - (f + 1)) = true
  one : ∀ f, f < n → cs.contains (n - (f + 1)) = true → readyB md ops (fz n (f + 1)) (fz n f) (n - (f + 1)) = true
  done : (Region.ready md ops (fz n 0) == []) = true
  size : ops.size = n
def goodT (T : Bool × List (List Nat × List Nat)) (B : List Nat) (n : Nat) (cs : List Nat) : Bool :=
  ((List.range n).all fun f => if cs.contains (n - (f + 1)) = true then readyT T.2 (fz n (f + 1)).toList == [n - (f + 1)] && (fz n (f + 1)).toList.set (n - (f + 1)) true == (fz n f).toList
    else takeW T B [] (fz n (f + 1)).toList (fz n f).toList (n - (f + 1))) && (readyT T.2 (fz n 0).toList == [])
section
variable {md : Region.Mode} {ops : Array Oper} {T : Bool × List (List Nat × List Nat)} {B : List Nat} {n : Nat} {cs : List Nat}
theorem good_of (hT : rtab md ops = T) (hB : waitsOk T.2 B = true) (hn : ops.size = n) (h : goodT T B n cs = true) : Good md ops n cs := by
  unfold goodT at h
  rw [Bool.and_eq_true, List.all_eq_true] at h
  obtain ⟨h1, h2⟩ := h
  refine ⟨fun f hf hc => ?_, fun f hf hc => ?_, done_of hT h2, hn⟩
  · have := h1 f (List.mem_range.2 hf)
    rw [hc, if_neg (by decide)] at this
    exact take_ofW hT hB this
  · have := h1 f (List.mem_range.2 hf)
    rw [if_pos hc] at this
    exact one_of hT this
variable {P : Program} {Q : Exit → Act → World → Prop} {S : World → Prop}
theorem rep_fz (n : Nat) : Array.replicate n false = fz n n := by
  apply Array.ext'
  unfold fz
  simp only [Array.toList_replicate]
  apply List.ext_getElem
  · simp
  · intro i h1 h2
    simp
theorem rs_ {id : Nat} {a : Act} {w : World} (n : Nat) (cs : List Nat) (hg : Good .any ops n cs) (hm : P.follows .mixedOrders = true) (hS : S w.drew)
    (h : Aside0 (Good .any ops n cs) → S w.drew → wpAnyLast P .any ops Q S [] n (fz n n) a w.drew) : (Code.region id ops true).wp P Q a w :=
  start_ (fz n n) hm hg.size (rep_fz n) hS (h ⟨hg⟩)
/-- One that yields, taken first. -/
theorem rt_ {f : Nat} {N : Option Tmp} {oi : Oper} {v : Value} {a : Act} {w : World} (hg : Good md ops n cs) (hi : ops[n - (f + 1)]? = some oi) (hN : oi.dst = N) (hlt : decide (f < n) = true) (hc : cs.contains (n - (f + 1)) = false)
    (hQ : ∀ c a w, Q (.panic c) (a.put oi.dst v) w → Q (.panic c) a w) (hy : YieldsIf P ops S oi v a) (hS : S w) {a' : Act} (ha : a.put N v = a')
    (h : wpAnyLast P md ops Q S [] f (fz n f) a' w) : wpAnyLast P md ops Q S [] (f + 1) (fz n (f + 1)) a w :=
  take_ (fz n f) hi hN (hg.take f (of_decide_eq_true hlt) hc) hQ hy hS ha h
/-- A call (or another operation that makes memory) whose guard is off. -/
theorem roff_ {f : Nat} {N : Option Tmp} {oi : Oper} {a : Act} {w : World} (hg : Good md ops n cs) (hi : ops[n - (f + 1)]? = some oi) (hN : oi.dst = N) (hlt : decide (f < n) = true) (hc : cs.contains (n - (f + 1)) = true)
    (hw : Region.wanted oi (yielded ops a.tmps) = false) (hS : S w) {a' : Act} (ha : a.put N undef = a')
    (h : wpAnyLast P md ops Q S [] f (fz n f) a' w) : wpAnyLast P md ops Q S [] (f + 1) (fz n (f + 1)) a w := by
  subst ha
  refine one_ (fz n f) hi hN (hg.one f (of_decide_eq_true hlt) hc) (by simp) (fun K hK => off_ hw (hK.out _ _ hS (fun _ => h)))
/-- A call whose guard is on. -/
theorem rcall_ {k : Nat} {N : Option Tmp} {oi : Oper} {a : Act} {w : World} (hg : Good md ops n cs) (hi : ops[n - (k + 1)]? = some oi) (hN : oi.dst = N) (hlt : decide (k < n) = true) (hc : cs.contains (n - (k + 1)) = true)
    {f : FuncId} {fn : Func} {as_ : Array Operand} {ts : Array TypeId} (hf : P.funcs[f]? = some fn) (hname : (fn.name == "runtime.NumGoroutine") = false) (hb : fn.body.isSome = true) (args : Array Value)
    (hw : Region.wanted oi (yielded ops a.tmps) = true) (hop : oi.op = .call { callee := .value (.func f), args := as_, argTypes := ts }) (hargs : as_.map a.eval = args)
    (h : Calls P f args w fun e w' => ∃ v, e = .returned v ∧ S w' ∧ (S w' → wpAnyLast P md ops Q S [] k (fz n k) (a.put N v) w')) : wpAnyLast P md ops Q S [] (k + 1) (fz n (k + 1)) a w := by
  refine one_ (fz n k) hi hN (hg.one k (of_decide_eq_true hlt) hc) (by simp) (fun K hK => goes_ hf hname hb args hw hN hop hargs (h.mono ?_))
  rintro e w' ⟨v, rfl, hS, hh⟩
  exact ⟨v, rfl, hK.out _ _ hS hh⟩
/-- Another operation alone, by hand. -/
theorem ro_ {f : Nat} {N : Option Tmp} {oi : Oper} {a : Act} {w : World} (hg : Good md ops n cs) (hi : ops[n - (f + 1)]? = some oi) (hN : oi.dst = N) (hlt : decide (f < n) = true) (hc : cs.contains (n - (f + 1)) = true)
    (h : ∀ K : Act → World → Prop, Shut (∀ a' w', S w' → (S w' → wpAnyLast P md ops Q S [] f (fz n f) a' w') → K a' w') → if Region.wanted oi (yielded ops a.tmps) = true then Oper.wp P oi a w K Q else K (a.put N undef) w) :
    wpAnyLast P md ops Q S [] (f + 1) (fz n (f + 1)) a w :=
  one_ (fz n f) hi hN (hg.one f (of_decide_eq_true hlt) hc) (by simp) h
end
end Go.Proofs.YtajndnaeknfogaaDoor.Q

namespace Go.Proofs.YtajndnaeknfogaaDoor.Q
open Go.RowKit Go.Proofs.YtajndnaeknfogaaDoorW.PrintWords Go.Proofs.YtajndnaeknfogaaDoorW.PrintLast Go.Proofs.YtajndnaeknfogaaDoorW.PrintMore
set_option linter.unusedVariables false
set_option linter.unusedSimpArgs false

/-- The pieces of a text between semicolons. -/
def piecesL : List UInt8 → List UInt8 → List (List UInt8)
  | cur, [] => [cur]
  | cur, c :: r => if c = 59 then cur :: piecesL [] r else piecesL (cur ++ [c]) r
def refOne : List UInt8 → Option S35
  | a :: b :: r => if (a = 97 ∨ a = 100) ∧ b = 58 ∧ r.contains 58 = true then some ⟨decide (a = 97), ofL (r.takeWhile (· != 58)), ofL ((r.dropWhile (· != 58)).tail)⟩ else none
  | _ => none
def goRef : List S35 → List (List UInt8) → Option (List S35)
  | acc, [] => some acc
  | acc, t :: ts => match refOne t with
    | none => none
    | some r => goRef (acc ++ [r]) ts
theorem refOne_cons (a b : UInt8) (r : List UInt8) : refOne (a :: b :: r) = if (a = 97 ∨ a = 100) ∧ b = 58 ∧ r.contains 58 = true then some ⟨decide (a = 97), ofL (r.takeWhile (· != 58)), ofL ((r.dropWhile (· != 58)).tail)⟩ else none := rfl
def refOut : Option (List S35) → List S35 × Int
  | none => ([], 3)
  | some l => if rightW l then (l, 0) else ([], 3)
def refRead (s : List UInt8) : List S35 × Int := if s = [] then ([], 0) else refOut (goRef [] (piecesL [] s))
def tidewaterref24_Read.f (a0 : ByteArray) : Option (List S35 × Int) := if a0.size < 4294967281 then some (refRead a0.data.toList) else none

def RSt (L : List UInt8) (G : Option (List S35)) (i fr : Nat) (acc : List S35) : Prop :=
  (i ≤ L.length ∧ fr ≤ i ∧ goRef acc (piecesL ((L.drop fr).take (i - fr)) (L.drop i)) = G) ∨ (i = L.length + 1 ∧ some acc = G)
theorem st_next {L : List UInt8} {G : Option (List S35)} {i fr : Nat} {acc : List S35} (h : RSt L G i fr acc) (hi : i < L.length) (hc : L[i] ≠ 59) : RSt L G (i + 1) fr acc := by
  rcases h with ⟨_, hf, hg⟩ | ⟨h1, _⟩
  · left
    refine ⟨by omega, by omega, ?_⟩
    rw [List.drop_eq_getElem_cons hi] at hg
    unfold piecesL at hg
    rw [if_neg hc] at hg
    rw [show i + 1 - fr = (i - fr) + 1 by omega, List.take_succ_eq_append_getElem (by rw [List.length_drop]; omega)]
    simp only [List.getElem_drop, show fr + (i - fr) = i by omega]
    exact hg
  · omega
theorem st_cur {L : List UInt8} {G : Option (List S35)} {i fr : Nat} {acc : List S35} (h : RSt L G i fr acc) (hi : i ≤ L.length) (hc : ∀ hl : i < L.length, L[i] = 59) :
    fr ≤ i ∧ ∃ ps, goRef acc ((L.drop fr).take (i - fr) :: ps) = G ∧ ∀ R, refOne ((L.drop fr).take (i - fr)) = some R → RSt L G (i + 1) (i + 1) (acc ++ [R]) := by
  rcases h with ⟨_, hf, hg⟩ | ⟨h1, _⟩
  · refine ⟨hf, ?_⟩
    by_cases hl : i < L.length
    · rw [List.drop_eq_getElem_cons hl] at hg
      unfold piecesL at hg
      rw [if_pos (hc hl)] at hg
      refine ⟨_, hg, fun R hR => .inl ⟨by omega, by omega, ?_⟩⟩
      unfold goRef at hg
      rw [hR] at hg
      simpa using hg
    · rw [show L.drop i = [] from List.drop_of_length_le (by omega)] at hg
      unfold piecesL at hg
      refine ⟨_, hg, fun R hR => .inr ⟨by omega, ?_⟩⟩
      unfold goRef at hg
      rw [hR] at hg
      exact hg
  · omega
theorem ref_bad {acc : List S35} {t : List UInt8} {ps : List (List UInt8)} {G : Option (List S35)} (h : goRef acc (t :: ps) = G) (ho : refOne t = none) : G = none := by
  unfold goRef at h
  rw [ho] at h
  exact h.symm
theorem one_short {l : List UInt8} (h : l.length < 3) : refOne l = none := by
  match l with
  | [] => rfl
  | [a] => rfl
  | [a, b] => simp [refOne]
  | a :: b :: c :: r => simp only [List.length_cons] at h; omega
theorem bt_get {T : ByteArray} {j : Nat} {c : UInt8} (hj : j < T.size) : bt T (j : Int) = (c.toNat : Int) ↔ T.data.toList[j]? = some c := by
  rw [bt_nat hj, List.getElem?_eq_getElem (by rw [size_list]; exact hj), Option.some.injEq]
  constructor
  · intro h
    exact UInt8.toNat_inj.mp (by omega)
  · intro h; rw [h]
theorem one_bad0 {T : ByteArray} (h3 : 3 ≤ T.size) (h1 : ¬ bt T 0 = 97) (h2 : ¬ bt T 0 = 100) : refOne T.data.toList = none := by
  have e1 := bt_get (T := T) (j := 0) (c := 97) (by omega)
  have e2 := bt_get (T := T) (j := 0) (c := 100) (by omega)
  have a1 : ¬ T.data.toList[0]? = some 97 := fun h => h1 (e1.2 h)
  have a2 : ¬ T.data.toList[0]? = some 100 := fun h => h2 (e2.2 h)
  generalize T.data.toList = l at *
  match l with
  | [] => rfl
  | [a] => rfl
  | a :: b :: r =>
    simp at a1 a2
    rw [refOne_cons, if_neg (by simp [a1, a2])]
theorem one_bad1 {T : ByteArray} (h3 : 3 ≤ T.size) (h1 : ¬ bt T 1 = 58) : refOne T.data.toList = none := by
  have e1 := bt_get (T := T) (j := 1) (c := 58) (by omega)
  have a1 : ¬ T.data.toList[1]? = some 58 := fun h => h1 (e1.2 h)
  generalize T.data.toList = l at *
  match l with
  | [] => rfl
  | [a] => rfl
  | a :: b :: r =>
    simp at a1
    rw [refOne_cons, if_neg (by simp [a1])]
theorem one_none {T : ByteArray} (h3 : 3 ≤ T.size) (h : ((T.data.toList.drop 2).take (T.size - 2)).contains 58 = false) : refOne T.data.toList = none := by
  rw [List.take_of_length_le (by rw [List.length_drop, size_list]; omega)] at h
  generalize T.data.toList = l at *
  match l with
  | [] => rfl
  | [a] => rfl
  | a :: b :: r =>
    simp only [List.drop_succ_cons, List.drop_zero] at h
    rw [refOne_cons, if_neg (by rw [h]; simp)]
theorem cut_colon : ∀ (r : List UInt8) (k : Nat), r[k]? = some 58 → (r.take k).contains 58 = false → r.contains 58 = true ∧ r.takeWhile (· != 58) = r.take k ∧ (r.dropWhile (· != 58)).tail = r.drop (k + 1)
  | [], k, h, _ => by simp at h
  | c :: r, 0, h, _ => by
    simp at h
    subst h
    exact ⟨by simp, by simp, by simp⟩
  | c :: r, k + 1, h, hn => by
    rw [List.take_succ_cons, List.contains_cons, Bool.or_eq_false_iff] at hn
    have hc : (c != 58) = true := by
      have h1 := hn.1
      simp only [bne_iff_ne, ne_eq]
      intro e
      rw [e] at h1
      simp at h1
    obtain ⟨h1, h2, h3⟩ := cut_colon r k (by simpa using h) hn.2
    refine ⟨by rw [List.contains_cons, h1, Bool.or_true], ?_, ?_⟩
    · rw [List.takeWhile_cons_of_pos (p := fun x => x != 58) hc, h2, List.take_succ_cons]
    · rw [List.dropWhile_cons_of_pos (p := fun x => x != 58) hc, h3, List.drop_succ_cons]
theorem one_some {T : ByteArray} {k : Nat} (hk : 2 ≤ k) (hks : k < T.size) (h0 : bt T 0 = 97 ∨ bt T 0 = 100) (h1 : bt T 1 = 58) (h2 : bt T (k : Int) = 58) (hn : ((T.data.toList.drop 2).take (k - 2)).contains 58 = false) :
    refOne T.data.toList = some ⟨decide (bt T 0 = 97), T.extract 2 k, T.extract (k + 1) T.size⟩ := by
  have e1 := (bt_get (T := T) (j := 1) (c := 58) (by omega)).1 h1
  have e2 := (bt_get (T := T) (j := k) (c := 58) hks).1 h2
  have e97 := bt_get (T := T) (j := 0) (c := 97) (by omega)
  have e100 := bt_get (T := T) (j := 0) (c := 100) (by omega)
  have x1 : T.extract 2 k = ofL ((T.data.toList.drop 2).take (k - 2)) := ext_of (by rw [Lib.extract_data])
  have x2 : T.extract (k + 1) T.size = ofL (T.data.toList.drop (k + 1)) := ext_of (by rw [Lib.extract_to_end])
  rw [x1, x2]
  have hd : decide (bt T 0 = 97) = decide (T.data.toList[0]? = some 97) := decide_eq_decide.2 e97
  rw [hd]
  have h0' : T.data.toList[0]? = some 97 ∨ T.data.toList[0]? = some 100 := by
    rcases h0 with h | h
    · exact .inl (e97.1 h)
    · exact .inr (e100.1 h)
  generalize T.data.toList = l at *
  match l with
  | [] => simp at e1
  | [a] => simp at e1
  | a :: b :: r =>
    simp only [List.getElem?_cons_zero, Option.some.injEq, List.getElem?_cons_succ, List.drop_succ_cons, List.drop_zero] at h0' e1 e2 hn ⊢
    obtain ⟨q, rfl⟩ : ∃ q, k = q + 2 := ⟨k - 2, by omega⟩
    simp only [Nat.add_sub_cancel] at hn ⊢
    obtain ⟨c1, c2, c3⟩ := cut_colon r q (by simpa using e2) hn
    rw [refOne_cons, if_pos ⟨h0', e1, c1⟩, c2, c3]
    simp
theorem no_next {T : ByteArray} {k : Nat} (hk : 2 ≤ k) (hks : k < T.size) (h : ¬ bt T (k : Int) = 58) (hn : ((T.data.toList.drop 2).take (k - 2)).contains 58 = false) : ((T.data.toList.drop 2).take (k + 1 - 2)).contains 58 = false := by
  have hl : k - 2 < (T.data.toList.drop 2).length := by rw [List.length_drop, size_list]; omega
  have hx : ¬ T.data.toList[k]'(by rw [size_list]; exact hks) = 58 := fun e => h (by rw [bt_nat hks, e]; rfl)
  rw [show k + 1 - 2 = (k - 2) + 1 by omega, List.take_succ_eq_append_getElem hl]
  simp only [List.getElem_drop, show 2 + (k - 2) = k by omega]
  rw [Bool.eq_false_iff]
  intro hc
  rw [List.contains_iff_mem] at hc
  rcases List.mem_append.1 hc with hc | hc
  · rw [← List.contains_iff_mem] at hc; rw [hn] at hc; cases hc
  · rw [List.mem_singleton] at hc; exact hx hc.symm
def tidewaterref24_Read.T18 : Bool × List (List Nat × List Nat) := (true, [([], []), ([], []), ([1], [1]), ([2], [2]), ([], []), ([], []), ([4, 5], [4, 5]), ([], []), ([], []), ([8], [8]), ([7, 9], [7, 9]), ([3, 6, 10], [3, 6, 10]), ([11], [11]), ([0, 12], [0, 12]), ([13, 13, 0, 1, 2, 3, 4, 5, 6, 7, 8, 9, 10, 11, 12, 13], [0, 13])])
def tidewaterref24_Read.B18 : List Nat := [0, 0, 2, 6, 0, 0, 48, 0, 0, 256, 896, 2046, 4094, 8191, 16383]
theorem tidewaterref24_Read.tab18 : rtab .any (opsOf Tryd.f18 18) = tidewaterref24_Read.T18 := by kernel_rfl
theorem tidewaterref24_Read.bits18 : waitsOk tidewaterref24_Read.T18.2 tidewaterref24_Read.B18 = true := by kernel_rfl
theorem good18 : Good .any (opsOf Tryd.f18 18) 15 [12, 13] := good_of tidewaterref24_Read.tab18 tidewaterref24_Read.bits18 (by kernel_rfl) (by kernel_rfl)

theorem fine_snoc {l : List S35} {b : Bool} {kk wh : ByteArray} (h : fineW l = true) (hw : wh.size ≤ 9223372036854775807) : fineW (l ++ [⟨b, kk, wh⟩]) = true := by
  unfold fineW at h ⊢
  rw [List.all_append, h]
  simp [hw]
theorem ext_size (T : ByteArray) (a b : Nat) (h : T.size ≤ 9223372036854775807) : (T.extract a b).size ≤ 9223372036854775807 := by
  rw [← size_list, Lib.extract_data, List.length_take, List.length_drop, size_list]; omega

set_option maxHeartbeats 8000000 in
set_option maxRecDepth 100000 in
theorem tidewaterref24_Read.calls (a0 : ByteArray) (r1 : List S35) (r2 : Int) (w : World) (h : tidewaterref24_Read.f a0 = some (r1, r2)) :
    Calls Tryd.prog 18 #[.string a0] w fun e w' => ∃ v0_ : Value, e = .returned (.tuple #[v0_, .int .i64 r2]) ∧ Kd.R k35 35 w' w.heap.size (fun _ => True) v0_ r1 ∧ Below w.heap.size w w' := by
  unfold tidewaterref24_Read.f at h
  by_cases hc : a0.size < 4294967281
  · rw [if_pos hc] at h
    have h := Option.some.inj h
    unfold refRead at h
    have hu35 := Tryd.underlying35
    by_cases hs : a0.data.toList = []
    · rw [if_pos hs] at h
      obtain ⟨rfl, rfl⟩ := Prod.mk.inj h
      have h1 : a0.toList = [] := by rw [Lib.toList_data]; exact hs
      have h2 : (a0.toList == ([] : List UInt8)) = true := beq_iff_eq.mpr h1
      have h3 : a0.toList.isEmpty = true := by rw [h1]; rfl
      clear h hs
      go_enter Tryd.func18, Tryd.ntmps18
      go_wp2
      go_ret2
      exact ⟨_, rfl, Kd.R_nil _ _ _ _ _, Below.refl _ _⟩
    · rw [if_neg hs] at h
      obtain ⟨G, hG⟩ : ∃ G, G = goRef [] (piecesL [] a0.data.toList) := ⟨_, rfl⟩
      rw [← hG] at h
      have HRES := Aside0.mk h
      have HG := Aside0.mk hG
      have h1 : ¬ a0.toList = [] := by rw [Lib.toList_data]; exact hs
      have h2 : (a0.toList == ([] : List UInt8)) = false := beq_eq_false_iff_ne.mpr h1
      have h3 : a0.toList.isEmpty = false := by rw [List.isEmpty_eq_false_iff]; exact h1
      clear h hs h1 hG
      go_enter Tryd.func18, Tryd.ntmps18
      go_wp2
      go_loopw [4, 5, 6] (fun v4 v5 v6 wr => ∃ (i fr : Nat) (acc : List S35), v5 = .int .i64 fr ∧ v6 = .int .i64 i ∧ acc.length ≤ i ∧ Aside0 (RSt a0.data.toList G i fr acc) ∧ Aside0 (fineW acc = true) ∧ Aside0 (Kd.R k35 35 wr w.heap.size (fun _ => True) v4 acc) ∧ Aside0 (Below w.heap.size w wr)) (fun _ _ v6 _ => a0.size + 1 - (intOf v6).toNat)
      case atStart => exact ⟨0, 0, [], rfl, rfl, by simp, ⟨.inl ⟨by omega, by omega, by rw [HG.out]; simp⟩⟩, ⟨rfl⟩, ⟨Kd.R_nil _ _ _ _ _⟩, ⟨Below.refl _ _⟩⟩
      case round =>
        clear h2 h3
        obtain ⟨i, fr, acc, rfl, rfl, hacc, HST, HFW, HO, HB⟩ := hrel
        have hi0 : (0 : Int) ≤ (i : Int) := by omega
        by_cases hin : i ≤ a0.size
        · have hin' : (i : Int) ≤ (a0.size : Int) := by omega
          by_cases hlt : i < a0.size
          · have hlt' : (i : Int) < (a0.size : Int) := by omega
            have hxi : ∀ h : i < a0.size, ((a0[i]'h).toNat : Int) = bt a0 (i : Int) := fun h => bt_at a0 (i : Int) h
            have hbn := bt_nat hlt
            have hll : i < a0.data.toList.length := by rw [size_list]; exact hlt
            by_cases h59 : bt a0 (i : Int) = 59
            · have hcur := st_cur HST.out (by omega) (fun hl => UInt8.toNat_inj.mp (by rw [h59] at hbn; show _ = 59; omega))
              clear hbn
              obtain ⟨hfr, ps, hps, hpc⟩ := hcur
              have hfr' : (fr : Int) ≤ (i : Int) := by omega
              have hfr0 : (0 : Int) ≤ (fr : Int) := by omega
              obtain ⟨T, hTe⟩ : ∃ T, a0.extract fr i = T := ⟨_, rfl⟩
              have htl : T.data.toList = (a0.data.toList.drop fr).take (i - fr) := by rw [← hTe, Lib.extract_data]
              rw [← htl] at hps hpc
              have htz : T.size ≤ a0.size := by rw [← size_list, htl, List.length_take, List.length_drop, size_list]; omega
              have HPS := Aside0.mk hps
              have HPC := Aside0.mk hpc
              clear hps hpc htl
              by_cases h3 : T.size < 3
              · have h3' : (T.size : Int) < 3 := by omega
                have hgn := ref_bad HPS.out (one_short (by rw [size_list]; omega))
                have hres := HRES.out
                rw [hgn] at hres
                obtain ⟨rfl, rfl⟩ := Prod.mk.inj hres
                clear hres hgn
                go_wp2
                go_ret2
                exact ⟨_, rfl, Kd.R_nil _ _ _ _ _, HB.out⟩
              · have h3' : (3 : Int) ≤ (T.size : Int) := by omega
                have h3a : (0 : Int) < (T.size : Int) := by omega
                have h3b : (1 : Int) < (T.size : Int) := by omega
                have hx0 : ∀ h : 0 < T.size, ((T[0]'h).toNat : Int) = bt T 0 := fun h => bt_at T 0 h
                have hx1 : ∀ h : 1 < T.size, ((T[1]'h).toNat : Int) = bt T 1 := fun h => bt_at T 1 h
                have h3c : 0 < T.size := by omega
                have h3d : 1 < T.size := by omega
                by_cases h97 : bt T 0 = 97
                · by_cases hb1 : bt T 1 = 58
                  · skip
                    go_wp2
                    go_loopw [8] (fun v8 wr => ∃ k : Nat, v8 = .int .i64 k ∧ 2 ≤ k ∧ k ≤ T.size ∧ Aside0 (((T.data.toList.drop 2).take (k - 2)).contains 58 = false) ∧ Aside0 (Kd.R k35 35 wr w.heap.size (fun _ => True) u4 acc) ∧ Aside0 (Below w.heap.size w wr)) (fun v8 _ => T.size - (intOf v8).toNat)
                    case atStart => exact ⟨2, rfl, by omega, by omega, ⟨by simp⟩, HO, HB⟩
                    case round =>
                      clear HO HB
                      obtain ⟨k, rfl, hk2, hkT, HNO, HO, HB⟩ := hrel
                      have hk0 : (0 : Int) ≤ (k : Int) := by omega
                      have hxk : ∀ h : k < T.size, ((T[k]'h).toNat : Int) = bt T (k : Int) := fun h => bt_at T (k : Int) h
                      by_cases hkt : k < T.size
                      · have hk1 : (k : Int) < (T.size : Int) := by omega
                        by_cases h58 : bt T (k : Int) = 58
                        · have hk2' : (2 : Int) ≤ (k : Int) := by omega
                          have hkne : ((k : Int) == (T.size : Int)) = false := beq_eq_false_iff_ne.mpr (by omega)
                          have HR1 := Aside0.mk (HPC.out _ (by have := one_some hk2 hkt (.inl h97) hb1 h58 HNO.out; rw [decide_eq_true h97] at this; exact this))
                          have hw1 : IntKind.i64.wrap ((k : Int) + 1) = (k : Int) + 1 := by rw [i64_w]; exact wrap_in (by omega) (by omega)
                          have hw2 : (0 : Int) ≤ (k : Int) + 1 := by omega
                          have hw3 : ((k : Int) + 1).toNat = k + 1 := by omega
                          have hw4 : (k : Int) + 1 ≤ (T.size : Int) := by omega
                          have hw5 : (k : Int) ≤ (T.size : Int) := by omega
                          have HFN := Aside0.mk (fine_snoc HFW.out (b := true) (kk := T.extract 2 k) (ext_size T (k + 1) T.size (by omega)))
                          go_wp2
                          skip
                          refine rs_ (S := fun _ => True) 15 [12, 13] good18 (by kernel_rfl) trivial (fun HGO hS => ?_)
                          have HBD := Aside0.mk (below_drew1 HB.out)
                          have HOD := Aside0.mk (Kd.R_drew HO.out)
                          generalize wr.drew = wd at HBD HOD ⊢
                          iterate 12
                            refine rt_ (v := ?_) (a' := ?_) HGO.out rfl (by conv => lhs; whnf) (by decide) (by decide) (fun _ _ _ h => h) (Or.inl ⟨by rfl, ?_⟩) trivial ?_ ?_
                            rotate_left
                            · intro w' hS
                              go_simp
                              with_reducible rfl
                            rotate_left
                            · simp only [Act.put, List.setIfInBounds_toArray, List.set_cons_zero, List.set_cons_succ, i64_w, i32_w]
                              rfl
                          refine ro_ HGO.out rfl (by conv => lhs; whnf) (by decide) (by decide) (fun K hK => ?_)
                          refine value_ (w1 := ?_) (v := ?_) (by rfl) rfl ?_ ?_
                          rotate_left 2
                          · go_simp
                            constructor
                            · rfl
                            · rfl
                          refine hK.out _ _ trivial (fun _ => ?_)
                          clear hK K
                          refine norm_ (a' := ?_) ?_ ?_
                          rotate_left
                          · simp only [Act.put, List.setIfInBounds_toArray, List.set_cons_zero, List.set_cons_succ, i64_w, i32_w]
                            rfl
                          refine ro_ HGO.out rfl (by conv => lhs; whnf) (by decide) (by decide) (fun K hK => ?_)
                          refine Kd.R_append_step k35 (w0 := w) w.heap.size (by rfl) (.tmp 69) (.tmp 81) 22 35 (.agg #[(.bool false), (.string ⟨#[]⟩), (.string ⟨#[]⟩)]) 40 rfl Tryd.underlying22 info35 rfl (by decide) (by omega) u4 acc (⟨true, T.extract 2 k, T.extract (k + 1) T.size⟩ : S35) [.bool true, .string (T.extract 2 k), .string (T.extract (k + 1) T.size)] (fun _ => True) (fun _ => False) rfl rfl (k35_mkM _ _ _ (⟨true, T.extract 2 k, T.extract (k + 1) T.size⟩ : S35)) (fun _ hk => hk.elim) (fun _ _ => trivial) HOD.out HBD.out (below_size HBD.out) (by omega) ?_
                          intro v4 w4 ho4 hb4 hg4 hat4
                          have HO4 := Aside0.mk ho4
                          have HB4 := Aside0.mk hb4
                          clear ho4 hb4 hg4 hat4
                          refine hK.out _ _ trivial (fun _ => ?_)
                          clear hK K
                          refine norm_ (a' := ?_) ?_ ?_
                          rotate_left
                          · simp only [Act.put, List.setIfInBounds_toArray, List.set_cons_zero, List.set_cons_succ, i64_w, i32_w]
                            rfl
                          iterate 1
                            refine rt_ (v := ?_) (a' := ?_) HGO.out rfl (by conv => lhs; whnf) (by decide) (by decide) (fun _ _ _ h => h) (Or.inl ⟨by rfl, ?_⟩) trivial ?_ ?_
                            rotate_left
                            · intro w' hS
                              go_simp
                              with_reducible rfl
                            rotate_left
                            · simp only [Act.put, List.setIfInBounds_toArray, List.set_cons_zero, List.set_cons_succ, i64_w, i32_w]
                              rfl
                          refine done_ HGO.out.done ?_
                          try go_wp2
                          go_roundw
                          case rel => exact ⟨i + 1, i + 1, acc ++ [⟨true, T.extract 2 k, T.extract (k + 1) T.size⟩], by go_num, by go_num, by simp only [List.length_append, List.length_cons, List.length_nil]; omega, HR1, HFN, HO4, HB4⟩
                          case measure => simp [intOf] <;> omega
                        · have h58b : (bt T (k : Int) == 58) = false := beq_eq_false_iff_ne.mpr h58
                          have h58c : (bt T (k : Int) != 58) = true := bne_iff_ne.mpr h58
                          have HN2 := Aside0.mk (no_next hk2 hkt h58 HNO.out)
                          go_wp2
                          go_roundw
                          case rel => exact ⟨k + 1, by go_num, by omega, by omega, HN2, HO, HB⟩
                          case measure => simp [intOf]; omega
                      · obtain rfl : k = T.size := by omega
                        have hkk : (T.size : Int) ≤ (T.size : Int) := Int.le_refl _
                        have hgn := ref_bad HPS.out (one_none (by omega) HNO.out)
                        have hres := HRES.out
                        rw [hgn] at hres
                        obtain ⟨rfl, rfl⟩ := Prod.mk.inj hres
                        clear hres hgn
                        go_wp2
                        go_ret2
                        exact ⟨_, rfl, Kd.R_nil _ _ _ _ _, HB.out⟩
                  · have hb1b : (bt T 1 == 58) = false := beq_eq_false_iff_ne.mpr hb1
                    have hb1c : (bt T 1 != 58) = true := bne_iff_ne.mpr hb1
                    have hgn := ref_bad HPS.out (one_bad1 (by omega) hb1)
                    have hres := HRES.out
                    rw [hgn] at hres
                    obtain ⟨rfl, rfl⟩ := Prod.mk.inj hres
                    clear hres hgn
                    go_wp2
                    go_ret2
                    exact ⟨_, rfl, Kd.R_nil _ _ _ _ _, HB.out⟩
                · have h97b : (bt T 0 == 97) = false := beq_eq_false_iff_ne.mpr h97
                  have h97c : (bt T 0 != 97) = true := bne_iff_ne.mpr h97
                  by_cases h100 : bt T 0 = 100
                  · by_cases hb1 : bt T 1 = 58
                    · clear h97 h97b h97c
                      go_wp2
                      go_loopw [8] (fun v8 wr => ∃ k : Nat, v8 = .int .i64 k ∧ 2 ≤ k ∧ k ≤ T.size ∧ Aside0 (((T.data.toList.drop 2).take (k - 2)).contains 58 = false) ∧ Aside0 (Kd.R k35 35 wr w.heap.size (fun _ => True) u4 acc) ∧ Aside0 (Below w.heap.size w wr)) (fun v8 _ => T.size - (intOf v8).toNat)
                      case atStart => exact ⟨2, rfl, by omega, by omega, ⟨by simp⟩, HO, HB⟩
                      case round =>
                        clear HO HB
                        obtain ⟨k, rfl, hk2, hkT, HNO, HO, HB⟩ := hrel
                        have hk0 : (0 : Int) ≤ (k : Int) := by omega
                        have hxk : ∀ h : k < T.size, ((T[k]'h).toNat : Int) = bt T (k : Int) := fun h => bt_at T (k : Int) h
                        by_cases hkt : k < T.size
                        · have hk1 : (k : Int) < (T.size : Int) := by omega
                          by_cases h58 : bt T (k : Int) = 58
                          · have hk2' : (2 : Int) ≤ (k : Int) := by omega
                            have hkne : ((k : Int) == (T.size : Int)) = false := beq_eq_false_iff_ne.mpr (by omega)
                            have HR1 := Aside0.mk (HPC.out _ (by have := one_some hk2 hkt (.inr h100) hb1 h58 HNO.out; rw [decide_eq_false (show ¬ bt T 0 = 97 by rw [h100]; decide)] at this; exact this))
                            have hw1 : IntKind.i64.wrap ((k : Int) + 1) = (k : Int) + 1 := by rw [i64_w]; exact wrap_in (by omega) (by omega)
                            have hw2 : (0 : Int) ≤ (k : Int) + 1 := by omega
                            have hw3 : ((k : Int) + 1).toNat = k + 1 := by omega
                            have hw4 : (k : Int) + 1 ≤ (T.size : Int) := by omega
                            have hw5 : (k : Int) ≤ (T.size : Int) := by omega
                            have HFN := Aside0.mk (fine_snoc HFW.out (b := false) (kk := T.extract 2 k) (ext_size T (k + 1) T.size (by omega)))
                            go_wp2
                            skip
                            refine rs_ (S := fun _ => True) 15 [12, 13] good18 (by kernel_rfl) trivial (fun HGO hS => ?_)
                            have HBD := Aside0.mk (below_drew1 HB.out)
                            have HOD := Aside0.mk (Kd.R_drew HO.out)
                            generalize wr.drew = wd at HBD HOD ⊢
                            iterate 12
                              refine rt_ (v := ?_) (a' := ?_) HGO.out rfl (by conv => lhs; whnf) (by decide) (by decide) (fun _ _ _ h => h) (Or.inl ⟨by rfl, ?_⟩) trivial ?_ ?_
                              rotate_left
                              · intro w' hS
                                go_simp
                                with_reducible rfl
                              rotate_left
                              · simp only [Act.put, List.setIfInBounds_toArray, List.set_cons_zero, List.set_cons_succ, i64_w, i32_w]
                                rfl
                            refine ro_ HGO.out rfl (by conv => lhs; whnf) (by decide) (by decide) (fun K hK => ?_)
                            refine value_ (w1 := ?_) (v := ?_) (by rfl) rfl ?_ ?_
                            rotate_left 2
                            · go_simp
                              constructor
                              · rfl
                              · rfl
                            refine hK.out _ _ trivial (fun _ => ?_)
                            clear hK K
                            refine norm_ (a' := ?_) ?_ ?_
                            rotate_left
                            · simp only [Act.put, List.setIfInBounds_toArray, List.set_cons_zero, List.set_cons_succ, i64_w, i32_w]
                              rfl
                            refine ro_ HGO.out rfl (by conv => lhs; whnf) (by decide) (by decide) (fun K hK => ?_)
                            refine Kd.R_append_step k35 (w0 := w) w.heap.size (by rfl) (.tmp 69) (.tmp 81) 22 35 (.agg #[(.bool false), (.string ⟨#[]⟩), (.string ⟨#[]⟩)]) 40 rfl Tryd.underlying22 info35 rfl (by decide) (by omega) u4 acc (⟨false, T.extract 2 k, T.extract (k + 1) T.size⟩ : S35) [.bool false, .string (T.extract 2 k), .string (T.extract (k + 1) T.size)] (fun _ => True) (fun _ => False) rfl rfl (k35_mkM _ _ _ (⟨false, T.extract 2 k, T.extract (k + 1) T.size⟩ : S35)) (fun _ hk => hk.elim) (fun _ _ => trivial) HOD.out HBD.out (below_size HBD.out) (by omega) ?_
                            intro v4 w4 ho4 hb4 hg4 hat4
                            have HO4 := Aside0.mk ho4
                            have HB4 := Aside0.mk hb4
                            clear ho4 hb4 hg4 hat4
                            refine hK.out _ _ trivial (fun _ => ?_)
                            clear hK K
                            refine norm_ (a' := ?_) ?_ ?_
                            rotate_left
                            · simp only [Act.put, List.setIfInBounds_toArray, List.set_cons_zero, List.set_cons_succ, i64_w, i32_w]
                              rfl
                            iterate 1
                              refine rt_ (v := ?_) (a' := ?_) HGO.out rfl (by conv => lhs; whnf) (by decide) (by decide) (fun _ _ _ h => h) (Or.inl ⟨by rfl, ?_⟩) trivial ?_ ?_
                              rotate_left
                              · intro w' hS
                                go_simp
                                with_reducible rfl
                              rotate_left
                              · simp only [Act.put, List.setIfInBounds_toArray, List.set_cons_zero, List.set_cons_succ, i64_w, i32_w]
                                rfl
                            refine done_ HGO.out.done ?_
                            try go_wp2
                            go_roundw
                            case rel => exact ⟨i + 1, i + 1, acc ++ [⟨false, T.extract 2 k, T.extract (k + 1) T.size⟩], by go_num, by go_num, by simp only [List.length_append, List.length_cons, List.length_nil]; omega, HR1, HFN, HO4, HB4⟩
                            case measure => simp [intOf] <;> omega
                          · have h58b : (bt T (k : Int) == 58) = false := beq_eq_false_iff_ne.mpr h58
                            have h58c : (bt T (k : Int) != 58) = true := bne_iff_ne.mpr h58
                            have HN2 := Aside0.mk (no_next hk2 hkt h58 HNO.out)
                            go_wp2
                            go_roundw
                            case rel => exact ⟨k + 1, by go_num, by omega, by omega, HN2, HO, HB⟩
                            case measure => simp [intOf]; omega
                        · obtain rfl : k = T.size := by omega
                          have hkk : (T.size : Int) ≤ (T.size : Int) := Int.le_refl _
                          have hgn := ref_bad HPS.out (one_none (by omega) HNO.out)
                          have hres := HRES.out
                          rw [hgn] at hres
                          obtain ⟨rfl, rfl⟩ := Prod.mk.inj hres
                          clear hres hgn
                          go_wp2
                          go_ret2
                          exact ⟨_, rfl, Kd.R_nil _ _ _ _ _, HB.out⟩
                    · have hb1b : (bt T 1 == 58) = false := beq_eq_false_iff_ne.mpr hb1
                      have hb1c : (bt T 1 != 58) = true := bne_iff_ne.mpr hb1
                      clear h97 h97b h97c
                      have hgn := ref_bad HPS.out (one_bad1 (by omega) hb1)
                      have hres := HRES.out
                      rw [hgn] at hres
                      obtain ⟨rfl, rfl⟩ := Prod.mk.inj hres
                      clear hres hgn
                      go_wp2
                      go_ret2
                      exact ⟨_, rfl, Kd.R_nil _ _ _ _ _, HB.out⟩
                  · have h100b : (bt T 0 == 100) = false := beq_eq_false_iff_ne.mpr h100
                    have h100c : (bt T 0 != 100) = true := bne_iff_ne.mpr h100
                    have hgn := ref_bad HPS.out (one_bad0 (by omega) h97 h100)
                    have hres := HRES.out
                    rw [hgn] at hres
                    obtain ⟨rfl, rfl⟩ := Prod.mk.inj hres
                    clear hres hgn
                    go_wp2
                    go_ret2
                    exact ⟨_, rfl, Kd.R_nil _ _ _ _ _, HB.out⟩
            · have h59b : (bt a0 (i : Int) == 59) = false := beq_eq_false_iff_ne.mpr h59
              have h59c : (bt a0 (i : Int) != 59) = true := bne_iff_ne.mpr h59
              have HN2 := Aside0.mk (st_next HST.out hll (fun e => h59 (by rw [hbn, e]; rfl)))
              clear hbn
              go_wp2
              go_roundw
              case rel => exact ⟨i + 1, fr, acc, rfl, by go_num, by omega, HN2, HFW, HO, HB⟩
              case measure => simp [intOf]; omega
          · obtain rfl : i = a0.size := by omega
            have hcur := st_cur HST.out (by rw [size_list]; omega) (fun hl => absurd hl (by rw [size_list]; omega))
            clear hlt
            have hlt' : (a0.size : Int) ≤ (a0.size : Int) := Int.le_refl _
            obtain ⟨hfr, ps, hps, hpc⟩ := hcur
            have hfr' : (fr : Int) ≤ (a0.size : Int) := by omega
            have hfr0 : (0 : Int) ≤ (fr : Int) := by omega
            obtain ⟨T, hTe⟩ : ∃ T, a0.extract fr a0.size = T := ⟨_, rfl⟩
            have htl : T.data.toList = (a0.data.toList.drop fr).take (a0.size - fr) := by rw [← hTe, Lib.extract_data]
            rw [← htl] at hps hpc
            have htz : T.size ≤ a0.size := by rw [← size_list, htl, List.length_take, List.length_drop, size_list]; omega
            have HPS := Aside0.mk hps
            have HPC := Aside0.mk hpc
            clear hps hpc htl
            by_cases h3 : T.size < 3
            · have h3' : (T.size : Int) < 3 := by omega
              have hgn := ref_bad HPS.out (one_short (by rw [size_list]; omega))
              have hres := HRES.out
              rw [hgn] at hres
              obtain ⟨rfl, rfl⟩ := Prod.mk.inj hres
              clear hres hgn
              go_wp2
              go_ret2
              exact ⟨_, rfl, Kd.R_nil _ _ _ _ _, HB.out⟩
            · have h3' : (3 : Int) ≤ (T.size : Int) := by omega
              have h3a : (0 : Int) < (T.size : Int) := by omega
              have h3b : (1 : Int) < (T.size : Int) := by omega
              have hx0 : ∀ h : 0 < T.size, ((T[0]'h).toNat : Int) = bt T 0 := fun h => bt_at T 0 h
              have hx1 : ∀ h : 1 < T.size, ((T[1]'h).toNat : Int) = bt T 1 := fun h => bt_at T 1 h
              have h3c : 0 < T.size := by omega
              have h3d : 1 < T.size := by omega
              by_cases h97 : bt T 0 = 97
              · by_cases hb1 : bt T 1 = 58
                · skip
                  go_wp2
                  go_loopw [8] (fun v8 wr => ∃ k : Nat, v8 = .int .i64 k ∧ 2 ≤ k ∧ k ≤ T.size ∧ Aside0 (((T.data.toList.drop 2).take (k - 2)).contains 58 = false) ∧ Aside0 (Kd.R k35 35 wr w.heap.size (fun _ => True) u4 acc) ∧ Aside0 (Below w.heap.size w wr)) (fun v8 _ => T.size - (intOf v8).toNat)
                  case atStart => exact ⟨2, rfl, by omega, by omega, ⟨by simp⟩, HO, HB⟩
                  case round =>
                    clear HO HB
                    obtain ⟨k, rfl, hk2, hkT, HNO, HO, HB⟩ := hrel
                    have hk0 : (0 : Int) ≤ (k : Int) := by omega
                    have hxk : ∀ h : k < T.size, ((T[k]'h).toNat : Int) = bt T (k : Int) := fun h => bt_at T (k : Int) h
                    by_cases hkt : k < T.size
                    · have hk1 : (k : Int) < (T.size : Int) := by omega
                      by_cases h58 : bt T (k : Int) = 58
                      · have hk2' : (2 : Int) ≤ (k : Int) := by omega
                        have hkne : ((k : Int) == (T.size : Int)) = false := beq_eq_false_iff_ne.mpr (by omega)
                        have HR1 := Aside0.mk (HPC.out _ (by have := one_some hk2 hkt (.inl h97) hb1 h58 HNO.out; rw [decide_eq_true h97] at this; exact this))
                        have hw1 : IntKind.i64.wrap ((k : Int) + 1) = (k : Int) + 1 := by rw [i64_w]; exact wrap_in (by omega) (by omega)
                        have hw2 : (0 : Int) ≤ (k : Int) + 1 := by omega
                        have hw3 : ((k : Int) + 1).toNat = k + 1 := by omega
                        have hw4 : (k : Int) + 1 ≤ (T.size : Int) := by omega
                        have hw5 : (k : Int) ≤ (T.size : Int) := by omega
                        have HFN := Aside0.mk (fine_snoc HFW.out (b := true) (kk := T.extract 2 k) (ext_size T (k + 1) T.size (by omega)))
                        go_wp2
                        skip
                        refine rs_ (S := fun _ => True) 15 [12, 13] good18 (by kernel_rfl) trivial (fun HGO hS => ?_)
                        have HBD := Aside0.mk (below_drew1 HB.out)
                        have HOD := Aside0.mk (Kd.R_drew HO.out)
                        generalize wr.drew = wd at HBD HOD ⊢
                        iterate 12
                          refine rt_ (v := ?_) (a' := ?_) HGO.out rfl (by conv => lhs; whnf) (by decide) (by decide) (fun _ _ _ h => h) (Or.inl ⟨by rfl, ?_⟩) trivial ?_ ?_
                          rotate_left
                          · intro w' hS
                            go_simp
                            with_reducible rfl
                          rotate_left
                          · simp only [Act.put, List.setIfInBounds_toArray, List.set_cons_zero, List.set_cons_succ, i64_w, i32_w]
                            rfl
                        refine ro_ HGO.out rfl (by conv => lhs; whnf) (by decide) (by decide) (fun K hK => ?_)
                        refine value_ (w1 := ?_) (v := ?_) (by rfl) rfl ?_ ?_
                        rotate_left 2
                        · go_simp
                          constructor
                          · rfl
                          · rfl
                        refine hK.out _ _ trivial (fun _ => ?_)
                        clear hK K
                        refine norm_ (a' := ?_) ?_ ?_
                        rotate_left
                        · simp only [Act.put, List.setIfInBounds_toArray, List.set_cons_zero, List.set_cons_succ, i64_w, i32_w]
                          rfl
                        refine ro_ HGO.out rfl (by conv => lhs; whnf) (by decide) (by decide) (fun K hK => ?_)
                        refine Kd.R_append_step k35 (w0 := w) w.heap.size (by rfl) (.tmp 69) (.tmp 81) 22 35 (.agg #[(.bool false), (.string ⟨#[]⟩), (.string ⟨#[]⟩)]) 40 rfl Tryd.underlying22 info35 rfl (by decide) (by omega) u4 acc (⟨true, T.extract 2 k, T.extract (k + 1) T.size⟩ : S35) [.bool true, .string (T.extract 2 k), .string (T.extract (k + 1) T.size)] (fun _ => True) (fun _ => False) rfl rfl (k35_mkM _ _ _ (⟨true, T.extract 2 k, T.extract (k + 1) T.size⟩ : S35)) (fun _ hk => hk.elim) (fun _ _ => trivial) HOD.out HBD.out (below_size HBD.out) (by omega) ?_
                        intro v4 w4 ho4 hb4 hg4 hat4
                        have HO4 := Aside0.mk ho4
                        have HB4 := Aside0.mk hb4
                        clear ho4 hb4 hg4 hat4
                        refine hK.out _ _ trivial (fun _ => ?_)
                        clear hK K
                        refine norm_ (a' := ?_) ?_ ?_
                        rotate_left
                        · simp only [Act.put, List.setIfInBounds_toArray, List.set_cons_zero, List.set_cons_succ, i64_w, i32_w]
                          rfl
                        iterate 1
                          refine rt_ (v := ?_) (a' := ?_) HGO.out rfl (by conv => lhs; whnf) (by decide) (by decide) (fun _ _ _ h => h) (Or.inl ⟨by rfl, ?_⟩) trivial ?_ ?_
                          rotate_left
                          · intro w' hS
                            go_simp
                            with_reducible rfl
                          rotate_left
                          · simp only [Act.put, List.setIfInBounds_toArray, List.set_cons_zero, List.set_cons_succ, i64_w, i32_w]
                            rfl
                        refine done_ HGO.out.done ?_
                        try go_wp2
                        go_roundw
                        case rel => exact ⟨a0.size + 1, a0.size + 1, acc ++ [⟨true, T.extract 2 k, T.extract (k + 1) T.size⟩], by go_num, by go_num, by simp only [List.length_append, List.length_cons, List.length_nil]; omega, HR1, HFN, HO4, HB4⟩
                        case measure => simp [intOf] <;> omega
                      · have h58b : (bt T (k : Int) == 58) = false := beq_eq_false_iff_ne.mpr h58
                        have h58c : (bt T (k : Int) != 58) = true := bne_iff_ne.mpr h58
                        have HN2 := Aside0.mk (no_next hk2 hkt h58 HNO.out)
                        go_wp2
                        go_roundw
                        case rel => exact ⟨k + 1, by go_num, by omega, by omega, HN2, HO, HB⟩
                        case measure => simp [intOf]; omega
                    · obtain rfl : k = T.size := by omega
                      have hkk : (T.size : Int) ≤ (T.size : Int) := Int.le_refl _
                      have hgn := ref_bad HPS.out (one_none (by omega) HNO.out)
                      have hres := HRES.out
                      rw [hgn] at hres
                      obtain ⟨rfl, rfl⟩ := Prod.mk.inj hres
                      clear hres hgn
                      go_wp2
                      go_ret2
                      exact ⟨_, rfl, Kd.R_nil _ _ _ _ _, HB.out⟩
                · have hb1b : (bt T 1 == 58) = false := beq_eq_false_iff_ne.mpr hb1
                  have hb1c : (bt T 1 != 58) = true := bne_iff_ne.mpr hb1
                  have hgn := ref_bad HPS.out (one_bad1 (by omega) hb1)
                  have hres := HRES.out
                  rw [hgn] at hres
                  obtain ⟨rfl, rfl⟩ := Prod.mk.inj hres
                  clear hres hgn
                  go_wp2
                  go_ret2
                  exact ⟨_, rfl, Kd.R_nil _ _ _ _ _, HB.out⟩
              · have h97b : (bt T 0 == 97) = false := beq_eq_false_iff_ne.mpr h97
                have h97c : (bt T 0 != 97) = true := bne_iff_ne.mpr h97
                by_cases h100 : bt T 0 = 100
                · by_cases hb1 : bt T 1 = 58
                  · clear h97 h97b h97c
                    go_wp2
                    go_loopw [8] (fun v8 wr => ∃ k : Nat, v8 = .int .i64 k ∧ 2 ≤ k ∧ k ≤ T.size ∧ Aside0 (((T.data.toList.drop 2).take (k - 2)).contains 58 = false) ∧ Aside0 (Kd.R k35 35 wr w.heap.size (fun _ => True) u4 acc) ∧ Aside0 (Below w.heap.size w wr)) (fun v8 _ => T.size - (intOf v8).toNat)
                    case atStart => exact ⟨2, rfl, by omega, by omega, ⟨by simp⟩, HO, HB⟩
                    case round =>
                      clear HO HB
                      obtain ⟨k, rfl, hk2, hkT, HNO, HO, HB⟩ := hrel
                      have hk0 : (0 : Int) ≤ (k : Int) := by omega
                      have hxk : ∀ h : k < T.size, ((T[k]'h).toNat : Int) = bt T (k : Int) := fun h => bt_at T (k : Int) h
                      by_cases hkt : k < T.size
                      · have hk1 : (k : Int) < (T.size : Int) := by omega
                        by_cases h58 : bt T (k : Int) = 58
                        · have hk2' : (2 : Int) ≤ (k : Int) := by omega
                          have hkne : ((k : Int) == (T.size : Int)) = false := beq_eq_false_iff_ne.mpr (by omega)
                          have HR1 := Aside0.mk (HPC.out _ (by have := one_some hk2 hkt (.inr h100) hb1 h58 HNO.out; rw [decide_eq_false (show ¬ bt T 0 = 97 by rw [h100]; decide)] at this; exact this))
                          have hw1 : IntKind.i64.wrap ((k : Int) + 1) = (k : Int) + 1 := by rw [i64_w]; exact wrap_in (by omega) (by omega)
                          have hw2 : (0 : Int) ≤ (k : Int) + 1 := by omega
                          have hw3 : ((k : Int) + 1).toNat = k + 1 := by omega
                          have hw4 : (k : Int) + 1 ≤ (T.size : Int) := by omega
                          have hw5 : (k : Int) ≤ (T.size : Int) := by omega
                          have HFN := Aside0.mk (fine_snoc HFW.out (b := false) (kk := T.extract 2 k) (ext_size T (k + 1) T.size (by omega)))
                          go_wp2
                          skip
                          refine rs_ (S := fun _ => True) 15 [12, 13] good18 (by kernel_rfl) trivial (fun HGO hS => ?_)
                          have HBD := Aside0.mk (below_drew1 HB.out)
                          have HOD := Aside0.mk (Kd.R_drew HO.out)
                          generalize wr.drew = wd at HBD HOD ⊢
                          iterate 12
                            refine rt_ (v := ?_) (a' := ?_) HGO.out rfl (by conv => lhs; whnf) (by decide) (by decide) (fun _ _ _ h => h) (Or.inl ⟨by rfl, ?_⟩) trivial ?_ ?_
                            rotate_left
                            · intro w' hS
                              go_simp
                              with_reducible rfl
                            rotate_left
                            · simp only [Act.put, List.setIfInBounds_toArray, List.set_cons_zero, List.set_cons_succ, i64_w, i32_w]
                              rfl
                          refine ro_ HGO.out rfl (by conv => lhs; whnf) (by decide) (by decide) (fun K hK => ?_)
                          refine value_ (w1 := ?_) (v := ?_) (by rfl) rfl ?_ ?_
                          rotate_left 2
                          · go_simp
                            constructor
                            · rfl
                            · rfl
                          refine hK.out _ _ trivial (fun _ => ?_)
                          clear hK K
                          refine norm_ (a' := ?_) ?_ ?_
                          rotate_left
                          · simp only [Act.put, List.setIfInBounds_toArray, List.set_cons_zero, List.set_cons_succ, i64_w, i32_w]
                            rfl
                          refine ro_ HGO.out rfl (by conv => lhs; whnf) (by decide) (by decide) (fun K hK => ?_)
                          refine Kd.R_append_step k35 (w0 := w) w.heap.size (by rfl) (.tmp 69) (.tmp 81) 22 35 (.agg #[(.bool false), (.string ⟨#[]⟩), (.string ⟨#[]⟩)]) 40 rfl Tryd.underlying22 info35 rfl (by decide) (by omega) u4 acc (⟨false, T.extract 2 k, T.extract (k + 1) T.size⟩ : S35) [.bool false, .string (T.extract 2 k), .string (T.extract (k + 1) T.size)] (fun _ => True) (fun _ => False) rfl rfl (k35_mkM _ _ _ (⟨false, T.extract 2 k, T.extract (k + 1) T.size⟩ : S35)) (fun _ hk => hk.elim) (fun _ _ => trivial) HOD.out HBD.out (below_size HBD.out) (by omega) ?_
                          intro v4 w4 ho4 hb4 hg4 hat4
                          have HO4 := Aside0.mk ho4
                          have HB4 := Aside0.mk hb4
                          clear ho4 hb4 hg4 hat4
                          refine hK.out _ _ trivial (fun _ => ?_)
                          clear hK K
                          refine norm_ (a' := ?_) ?_ ?_
                          rotate_left
                          · simp only [Act.put, List.setIfInBounds_toArray, List.set_cons_zero, List.set_cons_succ, i64_w, i32_w]
                            rfl
                          iterate 1
                            refine rt_ (v := ?_) (a' := ?_) HGO.out rfl (by conv => lhs; whnf) (by decide) (by decide) (fun _ _ _ h => h) (Or.inl ⟨by rfl, ?_⟩) trivial ?_ ?_
                            rotate_left
                            · intro w' hS
                              go_simp
                              with_reducible rfl
                            rotate_left
                            · simp only [Act.put, List.setIfInBounds_toArray, List.set_cons_zero, List.set_cons_succ, i64_w, i32_w]
                              rfl
                          refine done_ HGO.out.done ?_
                          try go_wp2
                          go_roundw
                          case rel => exact ⟨a0.size + 1, a0.size + 1, acc ++ [⟨false, T.extract 2 k, T.extract (k + 1) T.size⟩], by go_num, by go_num, by simp only [List.length_append, List.length_cons, List.length_nil]; omega, HR1, HFN, HO4, HB4⟩
                          case measure => simp [intOf] <;> omega
                        · have h58b : (bt T (k : Int) == 58) = false := beq_eq_false_iff_ne.mpr h58
                          have h58c : (bt T (k : Int) != 58) = true := bne_iff_ne.mpr h58
                          have HN2 := Aside0.mk (no_next hk2 hkt h58 HNO.out)
                          go_wp2
                          go_roundw
                          case rel => exact ⟨k + 1, by go_num, by omega, by omega, HN2, HO, HB⟩
                          case measure => simp [intOf]; omega
                      · obtain rfl : k = T.size := by omega
                        have hkk : (T.size : Int) ≤ (T.size : Int) := Int.le_refl _
                        have hgn := ref_bad HPS.out (one_none (by omega) HNO.out)
                        have hres := HRES.out
                        rw [hgn] at hres
                        obtain ⟨rfl, rfl⟩ := Prod.mk.inj hres
                        clear hres hgn
                        go_wp2
                        go_ret2
                        exact ⟨_, rfl, Kd.R_nil _ _ _ _ _, HB.out⟩
                  · have hb1b : (bt T 1 == 58) = false := beq_eq_false_iff_ne.mpr hb1
                    have hb1c : (bt T 1 != 58) = true := bne_iff_ne.mpr hb1
                    clear h97 h97b h97c
                    have hgn := ref_bad HPS.out (one_bad1 (by omega) hb1)
                    have hres := HRES.out
                    rw [hgn] at hres
                    obtain ⟨rfl, rfl⟩ := Prod.mk.inj hres
                    clear hres hgn
                    go_wp2
                    go_ret2
                    exact ⟨_, rfl, Kd.R_nil _ _ _ _ _, HB.out⟩
                · have h100b : (bt T 0 == 100) = false := beq_eq_false_iff_ne.mpr h100
                  have h100c : (bt T 0 != 100) = true := bne_iff_ne.mpr h100
                  have hgn := ref_bad HPS.out (one_bad0 (by omega) h97 h100)
                  have hres := HRES.out
                  rw [hgn] at hres
                  obtain ⟨rfl, rfl⟩ := Prod.mk.inj hres
                  clear hres hgn
                  go_wp2
                  go_ret2
                  exact ⟨_, rfl, Kd.R_nil _ _ _ _ _, HB.out⟩
        · have hin' : (a0.size : Int) < (i : Int) := by omega
          have hga : some acc = G := by
            rcases HST.out with ⟨h1, _, _⟩ | ⟨_, h1⟩
            · rw [size_list] at h1; omega
            · exact h1
          have hres := HRES.out
          rw [← hga] at hres
          replace hres : (if rightW acc = true then (acc, (0 : Int)) else ([], 3)) = (r1, r2) := hres
          have cW := fun A c (hr : Kd.C k35 wr A acc.length acc) (hcc : acc.length ≤ c) => tidewaterref24_Write.calls A c acc (if rightW acc then txtFrom acc ⟨#[]⟩ true else ⟨#[]⟩) (if rightW acc then 0 else 3) wr hr hcc (by
            unfold tidewaterref24_Write.f; rw [if_pos HFW.out]; cases rightW acc <;> rfl)
          obtain ⟨A, c, e4⟩ := Kd.R_slice HO.out
          subst e4
          obtain ⟨_, hcc, hC⟩ := Kd.R_reads' HO.out
          have cW := cW A c hC hcc
          clear hcc hC
          cases hr : rightW acc
          · rw [hr] at hres cW
            obtain ⟨rfl, rfl⟩ := Prod.mk.inj hres
            have HW := Aside0.mk cW
            clear hres cW hr hga
            go_wp2_with (go_at_call 20; refine HW.out.mono ?_; rintro e w4 ⟨rfl, hb4⟩)
            go_ret2
            exact ⟨_, rfl, Kd.R_nil _ _ _ _ _, below_step HB.out hb4⟩
          · rw [hr] at hres cW
            obtain ⟨rfl, rfl⟩ := Prod.mk.inj hres
            have HW := Aside0.mk cW
            clear hres cW hr hga
            go_wp2_with (go_at_call 20; refine HW.out.mono ?_; rintro e w4 ⟨rfl, hb4⟩)
            go_ret2
            exact ⟨_, rfl, Kd.R_below HO.out hb4, below_step HB.out hb4⟩
  · rw [if_neg hc] at h; cases h
end Go.Proofs.YtajndnaeknfogaaDoor.Q
