/- The contract of the reference's Idle: the indices of the rules that decide nothing; condition: at most 64 rules, kinds of at most 2^63 - 1 bytes. -/
import Derived.Test.YtajndnaeknfogaaDoorGe
import Derived.Test.YtajndnaeknfogaaDoorGt
namespace Go.Proofs.YtajndnaeknfogaaDoor.Q
open Go.RowKit Go.Proofs.YtajndnaeknfogaaDoorW.PrintWords Go.Proofs.YtajndnaeknfogaaDoorW.PrintLast Go.Proofs.YtajndnaeknfogaaDoorW.PrintMore
set_option linter.unusedVariables false
set_option linter.unusedSimpArgs false

/-- What has come up, with f operations of n left. -/
def fz (n f : Nat) : Array Bool := ((List.range n).map (fun j => decide (j + f < n))).toArray
structure Good (md : Region.Mode) (ops : Array Oper) (n : Nat) (cs : List Nat) : Prop where
  take : ∀ f, f < n → cs.contains (n - (f + 1)) = false → takeB md ops [] (fz n (f + 1)) (fz n f) (n - (f + 1)) = true
  one : ∀ f, f < n → cs.contains (n - (f + 1)) = true → readyB md ops (fz n (f + 1)) (fz n f) (n - (f + 1)) = true
  done : (Region.ready md ops (fz n 0) == []) = true
  size : ops.size = n
def goodT (T : Bool × List (List Nat × List Nat)) (B : List Nat) (n : Nat) (cs : List Nat) : Bool :=
  ((List.range n).all fun f => if cs.contains (n - (f + 1)) = true then readyT T.2 (fz n (f + 1)).toList == [n - (f + 1)] && (fz n (f + 1)).toList.set (n - (f + 1)) true == (fz n f).toList
    else takeW T B [] (fz n (f + 1)).toList (fz n f).toList (n - (f + 1))) && (readyT T.2 (fz n 0).toList == [])
section
variable {md : Region.Mode} {ops : Array Oper} {T : Bool × List (List Nat × List Nat)} {B : List Nat} {n : Nat} {cs : List Nat}
theorem good_of (hT : rtab md ops = T) (hB : waitsOk T.2 B = true) (hn : ops.size = n) (h : goodT T B n cs = true) : Good md ops n cs := by
  unfold goodT at h
  rw [Bool.and_eq_true, List.all_eq_true] at h
  obtain ⟨h1, h2⟩ := h
  refine ⟨fun f hf hc => ?_, fun f hf hc => ?_, done_of hT h2, hn⟩
  · have := h1 f (List.mem_range.2 hf)
    rw [hc, if_neg (by decide)] at this
    exact take_ofW hT hB this
  · have := h1 f (List.mem_range.2 hf)
    rw [if_pos hc] at this
    exact one_of hT this
variable {P : Program} {Q : Exit → Act → World → Prop} {S : World → Prop}
theorem rep_fz (n : Nat) : Array.replicate n false = fz n n := by
  apply Array.ext'
  unfold fz
  simp only [Array.toList_replicate]
  apply List.ext_getElem
  · simp
  · intro i h1 h2
    simp
theorem rs_ {id : Nat} {a : Act} {w : World} (n : Nat) (cs : List Nat) (hg : Good .any ops n cs) (hm : P.follows .mixedOrders = true) (hS : S w.drew)
    (h : Aside0 (Good .any ops n cs) → S w.drew → wpAnyLast P .any ops Q S [] n (fz n n) a w.drew) : (Code.region id ops true).wp P Q a w :=
  start_ (fz n n) hm hg.size (rep_fz n) hS (h ⟨hg⟩)
/-- One that yields, taken first. -/
theorem rt_ {f : Nat} {N : Option Tmp} {oi : Oper} {v : Value} {a : Act} {w : World} (hg : Good md ops n cs) (hi : ops[n - (f + 1)]? = some oi) (hN : oi.dst = N) (hlt : decide (f < n) = true) (hc : cs.contains (n - (f + 1)) = false)
    (hQ : ∀ c a w, Q (.panic c) (a.put oi.dst v) w → Q (.panic c) a w) (hy : YieldsIf P ops S oi v a) (hS : S w) {a' : Act} (ha : a.put N v = a')
    (h : wpAnyLast P md ops Q S [] f (fz n f) a' w) : wpAnyLast P md ops Q S [] (f + 1) (fz n (f + 1)) a w :=
  take_ (fz n f) hi hN (hg.take f (of_decide_eq_true hlt) hc) hQ hy hS ha h
/-- A call (or another operation that makes memory) whose guard is off. -/
theorem roff_ {f : Nat} {N : Option Tmp} {oi : Oper} {a : Act} {w : World} (hg : Good md ops n cs) (hi : ops[n - (f + 1)]? = some oi) (hN : oi.dst = N) (hlt : decide (f < n) = true) (hc : cs.contains (n - (f + 1)) = true)
    (hw : Region.wanted oi (yielded ops a.tmps) = false) (hS : S w) {a' : Act} (ha : a.put N undef = a')
    (h : wpAnyLast P md ops Q S [] f (fz n f) a' w) : wpAnyLast P md ops Q S [] (f + 1) (fz n (f + 1)) a w := by
  subst ha
  refine one_ (fz n f) hi hN (hg.one f (of_decide_eq_true hlt) hc) (by simp) (fun K hK => off_ hw (hK.out _ _ hS (fun _ => h)))
/-- A call whose guard is on. -/
theorem rcall_ {k : Nat} {N : Option Tmp} {oi : Oper} {a : Act} {w : World} (hg : Good md ops n cs) (hi : ops[n - (k + 1)]? = some oi) (hN : oi.dst = N) (hlt : decide (k < n) = true) (hc : cs.contains (n - (k + 1)) = true)
    {f : FuncId} {fn : Func} {as_ : Array Operand} {ts : Array TypeId} (hf : P.funcs[f]? = some fn) (hname : (fn.name == "runtime.NumGoroutine") = false) (hb : fn.body.isSome = true) (args : Array Value)
    (hw : Region.wanted oi (yielded ops a.tmps) = true) (hop : oi.op = .call { callee := .value (.func f), args := as_, argTypes := ts }) (hargs : as_.map a.eval = args)
    (h : Calls P f args w fun e w' => ∃ v, e = .returned v ∧ S w' ∧ (S w' → wpAnyLast P md ops Q S [] k (fz n k) (a.put N v) w')) : wpAnyLast P md ops Q S [] (k + 1) (fz n (k + 1)) a w := by
  refine one_ (fz n k) hi hN (hg.one k (of_decide_eq_true hlt) hc) (by simp) (fun K hK => goes_ hf hname hb args hw hN hop hargs (h.mono ?_))
  rintro e w' ⟨v, rfl, hS, hh⟩
  exact ⟨v, rfl, hK.out _ _ hS hh⟩
/-- Another operation alone, by hand. -/
theorem ro_ {f : Nat} {N : Option Tmp} {oi : Oper} {a : Act} {w : World} (hg : Good md ops n cs) (hi : ops[n - (f + 1)]? = some oi) (hN : oi.dst = N) (hlt : decide (f < n) = true) (hc : cs.contains (n - (f + 1)) = true)
    (h : ∀ K : Act → World → Prop, Shut (∀ a' w', S w' → (S w' → wpAnyLast P md ops Q S [] f (fz n f) a' w') → K a' w') → if Region.wanted oi (yielded ops a.tmps) = true then Oper.wp P oi a w K Q else K (a.put N undef) w) :
    wpAnyLast P md ops Q S [] (f + 1) (fz n (f + 1)) a w :=
  one_ (fz n f) hi hN (hg.one f (of_decide_eq_true hlt) hc) (by simp) h
end

/-- Two rules in memory. -/
def Two (W : World) (ad : Addr) (k i : Nat) (y x : S35) : Prop :=
  W.cell? (ad.add (k * 3)) = some (.bool y.f0) ∧ W.cell? ⟨(ad.add (k * 3)).block, (ad.add (k * 3)).off + 1, none⟩ = some (.string y.f1) ∧ W.cell? ⟨(ad.add (k * 3)).block, (ad.add (k * 3)).off + 2, none⟩ = some (.string y.f2) ∧
  W.cell? (ad.add (i * 3)) = some (.bool x.f0) ∧ W.cell? ⟨(ad.add (i * 3)).block, (ad.add (i * 3)).off + 1, none⟩ = some (.string x.f1) ∧ W.cell? ⟨(ad.add (i * 3)).block, (ad.add (i * 3)).off + 2, none⟩ = some (.string x.f2)
theorem Two.after {W W' : World} {ad : Addr} {k i : Nat} {y x : S35} (h : Two W ad k i y x) (hb : Below W.heap.size W W') : Two W' ad k i y x := by
  obtain ⟨h0, h1, h2, h3, h4, h5⟩ := h
  have hl := World.block_lt_of_cell? _ _ h0
  have hm := World.block_lt_of_cell? _ _ h3
  exact ⟨(hb.cell hl).trans h0, (hb.cell (p := ⟨(ad.add (k * 3)).block, (ad.add (k * 3)).off + 1, none⟩) hl).trans h1, (hb.cell (p := ⟨(ad.add (k * 3)).block, (ad.add (k * 3)).off + 2, none⟩) hl).trans h2,
    (hb.cell hm).trans h3, (hb.cell (p := ⟨(ad.add (i * 3)).block, (ad.add (i * 3)).off + 1, none⟩) hm).trans h4, (hb.cell (p := ⟨(ad.add (i * 3)).block, (ad.add (i * 3)).off + 2, none⟩) hm).trans h5⟩
theorem two_at {W : World} {A : Option Addr} {l : List S35} (h : Kd.C k35 W A l.length l) {k i : Nat} (hk : k < l.length) (hi : i < l.length) : ∃ ad, A = some ad ∧ Two W ad k i (rd_T35 l k) (rd_T35 l i) := by
  obtain ⟨ad, e, h0, h1, h2⟩ := at_T35 h (k : Int) (by omega) (by omega)
  obtain ⟨ad', e', h3, h4, h5⟩ := at_T35 h (i : Int) (by omega) (by omega)
  obtain rfl : ad = ad' := by rw [e] at e'; exact Option.some.inj e'
  simp only [Int.toNat_natCast] at h0 h1 h2 h3 h4 h5
  exact ⟨ad, e, h0, h1, h2, h3, h4, h5⟩

def fitK (l : List S35) : Bool := l.all (fun x => decide (x.f1.size ≤ 9223372036854775807))
def tidewaterref24_Idle.f (l : List S35) : Option (List Int) := if fitK l = true ∧ l.length ≤ 64 then some (idlesTo (l.map toP) l.length) else none
/-- What the first statement of the inner loop finds. -/
def atFirst (x y : S35) : Bool := decide (y.f2 = x.f2) && (decide (y.f1.data.toList = []) || (decide (x.f1.data.toList ≠ []) || (aboutL y.f1.data.toList [112] && (aboutL y.f1.data.toList [115] && aboutL y.f1.data.toList [113]))))
theorem cov_is (x y : S35) : coverL (toP x) (toP y) = (atFirst x y && x.f1.data.toList.all (fun c => aboutL y.f1.data.toList [c])) := by
 unfold coverL atFirst toP
 simp only
 rw [Bool.and_assoc]
 congr 1
 unfold ownKinds aboutL
 simp only [List.all_cons, List.all_nil, Bool.and_true]
 generalize y.f1.data.toList = K
 generalize x.f1.data.toList = X
 by_cases hK : K = []
 ·
  simp [hK]
 ·
  by_cases hX : X = []
  ·
   simp [hK, hX]
  ·
   simp [hK, hX]
def tidewaterref24_Idle.T9 : Bool × List (List Nat × List Nat) := (true, [([], []), ([], []), ([0, 1], [0, 1]), ([2], [2]), ([3], [3]), ([], []), ([], []), ([5, 6], [5, 6]), ([7], [7]), ([8], [8]), ([4, 9], [4, 9]), ([10], [10]), ([11], [11]), ([11], [11]), ([12, 13, 11], [11, 12, 13]), ([14, 11], [11, 14]), ([15, 11], [11, 15]), ([16, 11], [11, 16]), ([17, 11, 11], [11, 17]), ([18], [18]), ([18], [18]), ([19, 20, 18], [18, 19, 20]), ([21, 18], [18, 21]), ([22, 18], [18, 22]), ([23, 18], [18, 23]), ([18, 24, 11], [11, 18, 24]), ([25, 18, 11], [11, 25]), ([26], [26]), ([26], [26]), ([27, 28, 26], [26, 27, 28]), ([29, 26], [26, 29]), ([30, 26, 26], [26, 30]), ([31, 31, 26], [26, 31]), ([32], [32]), ([32], [32]), ([33, 34, 32], [32, 33, 34]), ([35, 32], [32, 35]), ([36, 32, 32], [32, 36]), ([32, 37, 26], [26, 32, 37]), ([38, 37, 26], [26, 38]), ([39], [39]), ([39], [39]), ([40, 41, 39], [39, 40, 41]), ([42, 39], [39, 42]), ([43, 39, 39], [39, 43]), ([39, 44, 26], [26, 39, 44]), ([26, 45, 11], [11, 26, 45]), ([11, 46], [11, 46]), ([47, 44, 0, 1, 2, 3, 4, 5, 6, 7, 8, 9, 10, 11, 12, 13, 14, 15, 16, 17, 18, 19, 20, 21, 22, 23, 24, 25, 26, 27, 28, 29, 30, 31, 32, 33, 34, 35, 36, 37, 38, 39, 40, 41, 42, 43, 44, 45, 46, 47], [47])])
def tidewaterref24_Idle.B9 : List Nat := [0, 0, 3, 7, 15, 0, 0, 96, 224, 480, 1023, 2047, 4095, 4095, 16383, 32767, 65535, 131071, 262143, 524287, 524287, 2097151, 4194303, 8388607, 16777215, 33554431, 67108863, 134217727, 134217727, 536870911, 1073741823, 2147483647, 4294967295, 8589934591, 8589934591, 34359738367, 68719476735, 137438953471, 274877906943, 549755813887, 1099511627775, 1099511627775, 4398046511103, 8796093022207, 17592186044415, 35184372088831, 70368744177663, 140737488355327, 281474976710655]
theorem tidewaterref24_Idle.tab9 : rtab .any (opsOf Tryd.f16 9) = tidewaterref24_Idle.T9 := by kernel_rfl
theorem tidewaterref24_Idle.bits9 : waitsOk tidewaterref24_Idle.T9.2 tidewaterref24_Idle.B9 = true := by kernel_rfl
def tidewaterref24_Idle.T13 : Bool × List (List Nat × List Nat) := (true, [([], []), ([0], [0]), ([1], [1]), ([1], [1]), ([2, 3, 1], [1, 2, 3]), ([4, 1], [1, 4]), ([1], [1]), ([1], [1]), ([6, 7, 1], [1, 6, 7]), ([8, 1], [1, 8]), ([9, 1], [1, 9]), ([1], [1]), ([10, 11, 1], [1, 10, 11]), ([5, 12, 1, 1], [1, 5, 12]), ([1, 13], [1, 13]), ([14, 13, 0, 1, 2, 3, 4, 5, 6, 7, 8, 9, 10, 11, 12, 13, 14], [0, 14])])
def tidewaterref24_Idle.B13 : List Nat := [0, 1, 3, 3, 15, 31, 3, 3, 195, 451, 963, 3, 4035, 8191, 16383, 32767]
theorem tidewaterref24_Idle.tab13 : rtab .any (opsOf Tryd.f16 13) = tidewaterref24_Idle.T13 := by kernel_rfl
theorem tidewaterref24_Idle.bits13 : waitsOk tidewaterref24_Idle.T13.2 tidewaterref24_Idle.B13 = true := by kernel_rfl
theorem good9 : Good .any (opsOf Tryd.f16 9) 49 [31, 37, 44] := good_of tidewaterref24_Idle.tab9 tidewaterref24_Idle.bits9 (by kernel_rfl) (by kernel_rfl)
theorem good13 : Good .any (opsOf Tryd.f16 13) 16 [13] := good_of tidewaterref24_Idle.tab13 tidewaterref24_Idle.bits13 (by kernel_rfl) (by kernel_rfl)
theorem any_take {P : List S37} {k : Nat} (h : k < P.length) (r : S37) : (P.take (k + 1)).any (coverL r) = ((P.take k).any (coverL r) || coverL r P[k]) := by
 rw [List.take_succ_eq_append_getElem h, List.any_append]; simp
theorem all_take {L : List UInt8} {j : Nat} (h : j < L.length) (p : UInt8 → Bool) : (L.take (j + 1)).all p = ((L.take j).all p && p L[j]) := by
 rw [List.take_succ_eq_append_getElem h, List.all_append]; simp
theorem list_inj {s t : ByteArray} (h : s.toList = t.toList) : s = t := by
 rw [Lib.toList_data, Lib.toList_data] at h
 exact ByteArray.ext (Array.toList_inj.mp h)
theorem map_at {l : List S35} {k : Nat} (h : k < l.length) : (l.map toP)[k]'(by simpa using h) = toP (rd_T35 l k) := by
 rw [rd_T35_at h]; simp

set_option maxHeartbeats 8000000 in
set_option maxRecDepth 100000 in
theorem tidewaterref24_Idle.calls (A0 : Option Addr) (c0 : Nat) (l0 : List S35) (r : List Int) (w : World) (hr0 : Kd.C k35 w A0 l0.length l0) (hc0 : l0.length ≤ c0) (h : tidewaterref24_Idle.f l0 = some r) :
  Calls Tryd.prog 16 #[.slice A0 l0.length c0] w fun e w' => ∃ v0_, e = .returned v0_ ∧ Kd.R (Kd.int .i64) 3 w' w.heap.size (fun _ => True) v0_ r ∧ Below w.heap.size w w' := by
 unfold tidewaterref24_Idle.f at h
 by_cases hc : fitK l0 = true ∧ l0.length ≤ 64
 ·
  rw [if_pos hc] at h
  obtain rfl := Option.some.inj h
  obtain ⟨hfit, h64⟩ := hc
  clear h
  have HF := Aside0.mk hfit
  have HR0 := Aside0.mk hr0
  clear hfit hr0
  have hu35 := Tryd.underlying35
  have hmax : (l0.length : Int) ≤ 9223372036854775807 := by omega
  go_enter Tryd.func16, Tryd.ntmps16
  go_wp2
  go_loopw [3, 4] (fun v3 v4 wr => ∃ i : Nat, v4 = .int .i64 i ∧ i ≤ l0.length ∧ Aside0 (Kd.R (Kd.int .i64) 3 wr w.heap.size (fun _ => True) v3 (idlesTo (l0.map toP) i)) ∧ Aside0 (Below w.heap.size w wr)) (fun _ v4 _ => l0.length - (intOf v4).toNat)
  case atStart => exact ⟨0, rfl, by omega, ⟨Kd.R_nil _ _ _ _ _⟩, ⟨Below.refl _ _⟩⟩
  case round =>
   obtain ⟨i, rfl, hi, HO, HB⟩ := hrel
   by_cases hlt : i < l0.length
   ·
    have hnx := idles_next (l0.map toP) i
    unfold idleAt at hnx
    have hx0 : (l0.map toP).getD i z37 = toP (rd_T35 l0 i) := by rw [List.getD_eq_getElem?_getD, List.getElem?_eq_getElem (by simpa using hlt)]; exact map_at hlt
    rw [hx0] at hnx
    obtain ⟨x, hx⟩ : ∃ x, x = rd_T35 l0 (i : Int) := ⟨_, rfl⟩
    rw [← hx] at hnx
    have HX := Aside0.mk hx
    have HNX := Aside0.mk hnx
    have hxs : x.f1.size ≤ 9223372036854775807 := by
     rw [hx, rd_T35_at hlt]; exact of_decide_eq_true (List.all_eq_true.mp HF.out _ (List.getElem_mem hlt))
    have HXS := Aside0.mk hxs
    clear hx hnx hxs hx0
    have hz : (0 : Int) ≤ (i : Int) := by omega
    have hz2 : (i : Int) < (l0.length : Int) := by omega
    go_wp2
    go_loopw [5, 6] (fun v5 v6 wr => ∃ (k : Nat), Aside0 (v5 = .bool (((l0.map toP).take k).any (coverL (toP x)))) ∧ v6 = .int .i64 k ∧ k ≤ i ∧ Aside0 (Kd.R (Kd.int .i64) 3 wr w.heap.size (fun _ => True) u3 (idlesTo (l0.map toP) i)) ∧ Aside0 (Below w.heap.size w wr)) (fun _ v6 _ => i - (intOf v6).toNat)
    case atStart => exact ⟨0, ⟨rfl⟩, rfl, by omega, HO, HB⟩
    case round =>
     clear HO HB
     obtain ⟨k, h5, rfl, hk, HO, HB⟩ := hrel
     obtain ⟨b, hb⟩ : ∃ b, ((l0.map toP).take k).any (coverL (toP x)) = b := ⟨_, rfl⟩
     have h5' := h5.out
     rw [hb] at h5'
     have HBK := Aside0.mk hb
     clear hb h5
     subst h5'
     by_cases hki : k < i
     ·
      have hkl : k < l0.length := by omega
      obtain ⟨y, hy⟩ : ∃ y, y = rd_T35 l0 (k : Int) := ⟨_, rfl⟩
      obtain ⟨ad, e0, tw⟩ := two_at HR0.out hkl hlt
      rw [← hy, ← HX.out] at tw
      have hys : y.f1.size ≤ 9223372036854775807 := by
       rw [hy, rd_T35_at hkl]; exact of_decide_eq_true (List.all_eq_true.mp HF.out _ (List.getElem_mem hkl))
      have hnk := any_take (P := l0.map toP) (k := k) (by simpa using hkl) (toP x)
      rw [map_at hkl, ← hy, HBK.out, cov_is] at hnk
      have HNK := Aside0.mk hnk
      obtain ⟨B0, hB0⟩ : ∃ B0, B0 = atFirst x y := ⟨_, rfl⟩
      have cA : ∀ c : UInt8, ∀ W : World, Calls Tryd.prog 24 #[.agg #[.bool y.f0, .string y.f1, .string y.f2], .int .u8 c.toNat] W fun e w' => e = .returned (.bool (aboutL y.f1.data.toList [c])) ∧ Below W.heap.size W w' := fun c W => by
       obtain ⟨q, hq⟩ := (aboutR_ev y.f0 y.f1 y.f2 c hys).rounds
       exact tidewaterref24_about.calls q y.f0 y.f1 y.f2 c.toNat _ W hq
      have CA := Aside0.mk cA
      have TW0 := Aside0.mk tw
      have TW := Aside0.mk (TW0.out.after HB.out)
      have HB0 := Aside0.mk hB0
      clear hnk cA tw hB0 hys HBK hy
      cases e0
      have hz3 : (0 : Int) ≤ (k : Int) := by omega
      have hz4 : (k : Int) < (l0.length : Int) := by omega
      have hz5 : (k : Int) < (i : Int) := by omega
      go_upto_region 9 with (fail)
      go_cut [7] (fun v7 wc => v7 = .bool B0 ∧ Aside0 (Kd.R (Kd.int .i64) 3 wc w.heap.size (fun _ => True) u3 (idlesTo (l0.map toP) i)) ∧ Aside0 (Below w.heap.size w wc))
      case first =>
       by_cases hwho : y.f2 = x.f2
       ·
        have b1 : (y.f2.toList == x.f2.toList) = true := by rw [hwho]; exact beq_self_eq_true _
        have hb0 : B0 = (decide (y.f1.data.toList = []) || (decide (x.f1.data.toList ≠ []) || (aboutL y.f1.data.toList [112] && (aboutL y.f1.data.toList [115] && aboutL y.f1.data.toList [113])))) := by rw [HB0.out]; unfold atFirst; rw [decide_eq_true hwho, Bool.true_and]
        have HV := Aside0.mk hb0
        clear hb0 hwho
        cases hye : (y.f1.toList == ([] : List UInt8))
        ·
         have hyn : decide (y.f1.data.toList = []) = false := decide_eq_false (by rw [← Lib.toList_data]; intro h; rw [h] at hye; cases hye)
         cases hxe : (x.f1.toList != ([] : List UInt8))
         ·
          have hxn : decide (x.f1.data.toList ≠ []) = false := decide_eq_false (by rw [← Lib.toList_data]; intro h; rw [bne_eq_false_iff_eq] at hxe; exact h hxe)
          have hxi : x.f1.toList.isEmpty = true := by rw [bne_eq_false_iff_eq] at hxe; rw [hxe]; rfl
          have hyi : y.f1.toList.isEmpty = false := by rw [List.isEmpty_eq_false_iff]; intro h; rw [h] at hye; cases hye
          have hv := HV.out
          rw [hyn, hxn, Bool.false_or, Bool.false_or] at hv
          have C1 := Aside0.mk (CA.out 112)
          have C2 := Aside0.mk (CA.out 115)
          have C3 := Aside0.mk (CA.out 113)
          obtain ⟨bp, hbp⟩ : ∃ b, b = aboutL y.f1.data.toList [112] := ⟨_, rfl⟩
          obtain ⟨bs, hbs⟩ : ∃ b, b = aboutL y.f1.data.toList [115] := ⟨_, rfl⟩
          obtain ⟨bq, hbq⟩ : ∃ b, b = aboutL y.f1.data.toList [113] := ⟨_, rfl⟩
          rw [← hbp, ← hbs, ← hbq] at hv
          have D1 : Aside0 (∀ W : World, Calls Tryd.prog 24 #[.agg #[.bool y.f0, .string y.f1, .string y.f2], .int .u8 112] W fun e w' => e = .returned (.bool bp) ∧ Below W.heap.size W w') := ⟨fun W => by have := C1.out W; rw [← hbp] at this; exact this⟩
          have D2 : Aside0 (∀ W : World, Calls Tryd.prog 24 #[.agg #[.bool y.f0, .string y.f1, .string y.f2], .int .u8 115] W fun e w' => e = .returned (.bool bs) ∧ Below W.heap.size W w') := ⟨fun W => by have := C2.out W; rw [← hbs] at this; exact this⟩
          have D3 : Aside0 (∀ W : World, Calls Tryd.prog 24 #[.agg #[.bool y.f0, .string y.f1, .string y.f2], .int .u8 113] W fun e w' => e = .returned (.bool bq) ∧ Below W.heap.size W w') := ⟨fun W => by have := C3.out W; rw [← hbq] at this; exact this⟩
          have HW := Aside0.mk hv
          clear hv hbp hbs hbq C1 C2 C3 hyn hxn HV
          cases bp
          ·
           refine rs_ (S := fun W => Aside0 (Below w.heap.size w W) ∧ Aside0 (Kd.R (Kd.int .i64) 3 W w.heap.size (fun _ => True) u3 (idlesTo (l0.map toP) i)) ∧ Two W ad k i y x) 49 [31, 37, 44] good9 (by kernel_rfl) ⟨⟨below_drew1 HB.out⟩, ⟨Kd.R_drew HO.out⟩, TW.out.after (below_drew1 (Below.refl wr.heap.size wr))⟩ (fun HG hS => ?_)
           generalize wr.drew = wd at hS ⊢
           iterate 31
            refine rt_ (v := ?_) (a' := ?_) HG.out rfl (by conv => lhs; whnf) (by decide) (by decide) (fun _ _ _ h => h) (Or.inl ⟨by rfl, ?_⟩) hS ?_ ?_
            rotate_left
            ·
             rintro w' ⟨s8, s9, s0, s1, s2, s3, s4, s5⟩
             go_simp
             with_reducible rfl
            rotate_left
            ·
             simp only [Act.put, List.setIfInBounds_toArray, List.set_cons_zero, List.set_cons_succ, i64_w, i32_w]
             rfl
           refine rcall_ HG.out rfl (by conv => lhs; whnf) (by decide) (by decide) Tryd.func24 (by kernel_rfl) rfl #[.agg #[.bool y.f0, .string y.f1, .string y.f2], .int .u8 112] (by rfl) rfl (by (try simp only [List.map_toArray, List.map_cons, List.map_nil]); first | done | rfl) ?_
           with_reducible refine (D1.out _).mono ?_
           rintro e w3 ⟨rfl, hb⟩
           refine ⟨_, rfl, ⟨⟨below_step hS.1.out hb⟩, ⟨Kd.R_below hS.2.1.out hb⟩, hS.2.2.after hb⟩, fun hS => ?_⟩
           clear hb
           refine norm_ (a' := ?_) ?_ ?_
           rotate_left
           ·
            simp only [Act.put, List.setIfInBounds_toArray, List.set_cons_zero, List.set_cons_succ, i64_w, i32_w]
            rfl
           iterate 1
            refine rt_ (v := ?_) (a' := ?_) HG.out rfl (by conv => lhs; whnf) (by decide) (by decide) (fun _ _ _ h => h) (Or.inl ⟨by rfl, ?_⟩) hS ?_ ?_
            rotate_left
            ·
             rintro w' ⟨s8, s9, s0, s1, s2, s3, s4, s5⟩
             go_simp
             with_reducible rfl
            rotate_left
            ·
             simp only [Act.put, List.setIfInBounds_toArray, List.set_cons_zero, List.set_cons_succ, i64_w, i32_w]
             rfl
           iterate 4
            refine rt_ (v := undef) (a' := ?_) HG.out rfl (by conv => lhs; whnf) (by decide) (by decide) (fun _ _ _ h => h) (Or.inr ⟨by rfl, rfl⟩) hS ?_ ?_
            rotate_left
            ·
             simp only [Act.put, List.setIfInBounds_toArray, List.set_cons_zero, List.set_cons_succ, i64_w, i32_w]
             rfl
           iterate 1
            refine roff_ (a' := ?_) HG.out rfl (by conv => lhs; whnf) (by decide) (by decide) (by rfl) hS ?_ ?_
            rotate_left
            ·
             simp only [Act.put, List.setIfInBounds_toArray, List.set_cons_zero, List.set_cons_succ, i64_w, i32_w]
             rfl
           iterate 2
            refine rt_ (v := ?_) (a' := ?_) HG.out rfl (by conv => lhs; whnf) (by decide) (by decide) (fun _ _ _ h => h) (Or.inl ⟨by rfl, ?_⟩) hS ?_ ?_
            rotate_left
            ·
             rintro w' ⟨s8, s9, s0, s1, s2, s3, s4, s5⟩
             go_simp
             with_reducible rfl
            rotate_left
            ·
             simp only [Act.put, List.setIfInBounds_toArray, List.set_cons_zero, List.set_cons_succ, i64_w, i32_w]
             rfl
           iterate 4
            refine rt_ (v := undef) (a' := ?_) HG.out rfl (by conv => lhs; whnf) (by decide) (by decide) (fun _ _ _ h => h) (Or.inr ⟨by rfl, rfl⟩) hS ?_ ?_
            rotate_left
            ·
             simp only [Act.put, List.setIfInBounds_toArray, List.set_cons_zero, List.set_cons_succ, i64_w, i32_w]
             rfl
           iterate 1
            refine roff_ (a' := ?_) HG.out rfl (by conv => lhs; whnf) (by decide) (by decide) (by rfl) hS ?_ ?_
            rotate_left
            ·
             simp only [Act.put, List.setIfInBounds_toArray, List.set_cons_zero, List.set_cons_succ, i64_w, i32_w]
             rfl
           iterate 4
            refine rt_ (v := ?_) (a' := ?_) HG.out rfl (by conv => lhs; whnf) (by decide) (by decide) (fun _ _ _ h => h) (Or.inl ⟨by rfl, ?_⟩) hS ?_ ?_
            rotate_left
            ·
             rintro w' ⟨s8, s9, s0, s1, s2, s3, s4, s5⟩
             go_simp
             with_reducible rfl
            rotate_left
            ·
             simp only [Act.put, List.setIfInBounds_toArray, List.set_cons_zero, List.set_cons_succ, i64_w, i32_w]
             rfl
           refine done_ HG.out.done ?_
           try go_wp2
           go_meet
           case rel => exact ⟨by rw [HW.out]; first | done | rfl, hS.2.1, hS.1⟩
          ·
           cases bs
           ·
            refine rs_ (S := fun W => Aside0 (Below w.heap.size w W) ∧ Aside0 (Kd.R (Kd.int .i64) 3 W w.heap.size (fun _ => True) u3 (idlesTo (l0.map toP) i)) ∧ Two W ad k i y x) 49 [31, 37, 44] good9 (by kernel_rfl) ⟨⟨below_drew1 HB.out⟩, ⟨Kd.R_drew HO.out⟩, TW.out.after (below_drew1 (Below.refl wr.heap.size wr))⟩ (fun HG hS => ?_)
            generalize wr.drew = wd at hS ⊢
            iterate 31
             refine rt_ (v := ?_) (a' := ?_) HG.out rfl (by conv => lhs; whnf) (by decide) (by decide) (fun _ _ _ h => h) (Or.inl ⟨by rfl, ?_⟩) hS ?_ ?_
             rotate_left
             ·
              rintro w' ⟨s8, s9, s0, s1, s2, s3, s4, s5⟩
              go_simp
              with_reducible rfl
             rotate_left
             ·
              simp only [Act.put, List.setIfInBounds_toArray, List.set_cons_zero, List.set_cons_succ, i64_w, i32_w]
              rfl
            refine rcall_ HG.out rfl (by conv => lhs; whnf) (by decide) (by decide) Tryd.func24 (by kernel_rfl) rfl #[.agg #[.bool y.f0, .string y.f1, .string y.f2], .int .u8 112] (by rfl) rfl (by (try simp only [List.map_toArray, List.map_cons, List.map_nil]); first | done | rfl) ?_
            with_reducible refine (D1.out _).mono ?_
            rintro e w3 ⟨rfl, hb⟩
            refine ⟨_, rfl, ⟨⟨below_step hS.1.out hb⟩, ⟨Kd.R_below hS.2.1.out hb⟩, hS.2.2.after hb⟩, fun hS => ?_⟩
            clear hb
            refine norm_ (a' := ?_) ?_ ?_
            rotate_left
            ·
             simp only [Act.put, List.setIfInBounds_toArray, List.set_cons_zero, List.set_cons_succ, i64_w, i32_w]
             rfl
            iterate 5
             refine rt_ (v := ?_) (a' := ?_) HG.out rfl (by conv => lhs; whnf) (by decide) (by decide) (fun _ _ _ h => h) (Or.inl ⟨by rfl, ?_⟩) hS ?_ ?_
             rotate_left
             ·
              rintro w' ⟨s8, s9, s0, s1, s2, s3, s4, s5⟩
              go_simp
              with_reducible rfl
             rotate_left
             ·
              simp only [Act.put, List.setIfInBounds_toArray, List.set_cons_zero, List.set_cons_succ, i64_w, i32_w]
              rfl
            refine rcall_ HG.out rfl (by conv => lhs; whnf) (by decide) (by decide) Tryd.func24 (by kernel_rfl) rfl #[.agg #[.bool y.f0, .string y.f1, .string y.f2], .int .u8 115] (by rfl) rfl (by (try simp only [List.map_toArray, List.map_cons, List.map_nil]); first | done | rfl) ?_
            with_reducible refine (D2.out _).mono ?_
            rintro e w3 ⟨rfl, hb⟩
            refine ⟨_, rfl, ⟨⟨below_step hS.1.out hb⟩, ⟨Kd.R_below hS.2.1.out hb⟩, hS.2.2.after hb⟩, fun hS => ?_⟩
            clear hb
            refine norm_ (a' := ?_) ?_ ?_
            rotate_left
            ·
             simp only [Act.put, List.setIfInBounds_toArray, List.set_cons_zero, List.set_cons_succ, i64_w, i32_w]
             rfl
            iterate 2
             refine rt_ (v := ?_) (a' := ?_) HG.out rfl (by conv => lhs; whnf) (by decide) (by decide) (fun _ _ _ h => h) (Or.inl ⟨by rfl, ?_⟩) hS ?_ ?_
             rotate_left
             ·
              rintro w' ⟨s8, s9, s0, s1, s2, s3, s4, s5⟩
              go_simp
              with_reducible rfl
             rotate_left
             ·
              simp only [Act.put, List.setIfInBounds_toArray, List.set_cons_zero, List.set_cons_succ, i64_w, i32_w]
              rfl
            iterate 4
             refine rt_ (v := undef) (a' := ?_) HG.out rfl (by conv => lhs; whnf) (by decide) (by decide) (fun _ _ _ h => h) (Or.inr ⟨by rfl, rfl⟩) hS ?_ ?_
             rotate_left
             ·
              simp only [Act.put, List.setIfInBounds_toArray, List.set_cons_zero, List.set_cons_succ, i64_w, i32_w]
              rfl
            iterate 1
             refine roff_ (a' := ?_) HG.out rfl (by conv => lhs; whnf) (by decide) (by decide) (by rfl) hS ?_ ?_
             rotate_left
             ·
              simp only [Act.put, List.setIfInBounds_toArray, List.set_cons_zero, List.set_cons_succ, i64_w, i32_w]
              rfl
            iterate 4
             refine rt_ (v := ?_) (a' := ?_) HG.out rfl (by conv => lhs; whnf) (by decide) (by decide) (fun _ _ _ h => h) (Or.inl ⟨by rfl, ?_⟩) hS ?_ ?_
             rotate_left
             ·
              rintro w' ⟨s8, s9, s0, s1, s2, s3, s4, s5⟩
              go_simp
              with_reducible rfl
             rotate_left
             ·
              simp only [Act.put, List.setIfInBounds_toArray, List.set_cons_zero, List.set_cons_succ, i64_w, i32_w]
              rfl
            refine done_ HG.out.done ?_
            try go_wp2
            go_meet
            case rel => exact ⟨by rw [HW.out]; first | done | rfl, hS.2.1, hS.1⟩
           ·
            refine rs_ (S := fun W => Aside0 (Below w.heap.size w W) ∧ Aside0 (Kd.R (Kd.int .i64) 3 W w.heap.size (fun _ => True) u3 (idlesTo (l0.map toP) i)) ∧ Two W ad k i y x) 49 [31, 37, 44] good9 (by kernel_rfl) ⟨⟨below_drew1 HB.out⟩, ⟨Kd.R_drew HO.out⟩, TW.out.after (below_drew1 (Below.refl wr.heap.size wr))⟩ (fun HG hS => ?_)
            generalize wr.drew = wd at hS ⊢
            iterate 31
             refine rt_ (v := ?_) (a' := ?_) HG.out rfl (by conv => lhs; whnf) (by decide) (by decide) (fun _ _ _ h => h) (Or.inl ⟨by rfl, ?_⟩) hS ?_ ?_
             rotate_left
             ·
              rintro w' ⟨s8, s9, s0, s1, s2, s3, s4, s5⟩
              go_simp
              with_reducible rfl
             rotate_left
             ·
              simp only [Act.put, List.setIfInBounds_toArray, List.set_cons_zero, List.set_cons_succ, i64_w, i32_w]
              rfl
            refine rcall_ HG.out rfl (by conv => lhs; whnf) (by decide) (by decide) Tryd.func24 (by kernel_rfl) rfl #[.agg #[.bool y.f0, .string y.f1, .string y.f2], .int .u8 112] (by rfl) rfl (by (try simp only [List.map_toArray, List.map_cons, List.map_nil]); first | done | rfl) ?_
            with_reducible refine (D1.out _).mono ?_
            rintro e w3 ⟨rfl, hb⟩
            refine ⟨_, rfl, ⟨⟨below_step hS.1.out hb⟩, ⟨Kd.R_below hS.2.1.out hb⟩, hS.2.2.after hb⟩, fun hS => ?_⟩
            clear hb
            refine norm_ (a' := ?_) ?_ ?_
            rotate_left
            ·
             simp only [Act.put, List.setIfInBounds_toArray, List.set_cons_zero, List.set_cons_succ, i64_w, i32_w]
             rfl
            iterate 5
             refine rt_ (v := ?_) (a' := ?_) HG.out rfl (by conv => lhs; whnf) (by decide) (by decide) (fun _ _ _ h => h) (Or.inl ⟨by rfl, ?_⟩) hS ?_ ?_
             rotate_left
             ·
              rintro w' ⟨s8, s9, s0, s1, s2, s3, s4, s5⟩
              go_simp
              with_reducible rfl
             rotate_left
             ·
              simp only [Act.put, List.setIfInBounds_toArray, List.set_cons_zero, List.set_cons_succ, i64_w, i32_w]
              rfl
            refine rcall_ HG.out rfl (by conv => lhs; whnf) (by decide) (by decide) Tryd.func24 (by kernel_rfl) rfl #[.agg #[.bool y.f0, .string y.f1, .string y.f2], .int .u8 115] (by rfl) rfl (by (try simp only [List.map_toArray, List.map_cons, List.map_nil]); first | done | rfl) ?_
            with_reducible refine (D2.out _).mono ?_
            rintro e w3 ⟨rfl, hb⟩
            refine ⟨_, rfl, ⟨⟨below_step hS.1.out hb⟩, ⟨Kd.R_below hS.2.1.out hb⟩, hS.2.2.after hb⟩, fun hS => ?_⟩
            clear hb
            refine norm_ (a' := ?_) ?_ ?_
            rotate_left
            ·
             simp only [Act.put, List.setIfInBounds_toArray, List.set_cons_zero, List.set_cons_succ, i64_w, i32_w]
             rfl
            iterate 6
             refine rt_ (v := ?_) (a' := ?_) HG.out rfl (by conv => lhs; whnf) (by decide) (by decide) (fun _ _ _ h => h) (Or.inl ⟨by rfl, ?_⟩) hS ?_ ?_
             rotate_left
             ·
              rintro w' ⟨s8, s9, s0, s1, s2, s3, s4, s5⟩
              go_simp
              with_reducible rfl
             rotate_left
             ·
              simp only [Act.put, List.setIfInBounds_toArray, List.set_cons_zero, List.set_cons_succ, i64_w, i32_w]
              rfl
            refine rcall_ HG.out rfl (by conv => lhs; whnf) (by decide) (by decide) Tryd.func24 (by kernel_rfl) rfl #[.agg #[.bool y.f0, .string y.f1, .string y.f2], .int .u8 113] (by rfl) rfl (by (try simp only [List.map_toArray, List.map_cons, List.map_nil]); first | done | rfl) ?_
            with_reducible refine (D3.out _).mono ?_
            rintro e w3 ⟨rfl, hb⟩
            refine ⟨_, rfl, ⟨⟨below_step hS.1.out hb⟩, ⟨Kd.R_below hS.2.1.out hb⟩, hS.2.2.after hb⟩, fun hS => ?_⟩
            clear hb
            refine norm_ (a' := ?_) ?_ ?_
            rotate_left
            ·
             simp only [Act.put, List.setIfInBounds_toArray, List.set_cons_zero, List.set_cons_succ, i64_w, i32_w]
             rfl
            iterate 4
             refine rt_ (v := ?_) (a' := ?_) HG.out rfl (by conv => lhs; whnf) (by decide) (by decide) (fun _ _ _ h => h) (Or.inl ⟨by rfl, ?_⟩) hS ?_ ?_
             rotate_left
             ·
              rintro w' ⟨s8, s9, s0, s1, s2, s3, s4, s5⟩
              go_simp
              with_reducible rfl
             rotate_left
             ·
              simp only [Act.put, List.setIfInBounds_toArray, List.set_cons_zero, List.set_cons_succ, i64_w, i32_w]
              rfl
            refine done_ HG.out.done ?_
            try go_wp2
            go_meet
            case rel => exact ⟨by rw [HW.out]; first | done | rfl, hS.2.1, hS.1⟩
         ·
          have hxn : decide (x.f1.data.toList ≠ []) = true := decide_eq_true (by rw [← Lib.toList_data]; intro h; rw [h] at hxe; cases hxe)
          have HW := Aside0.mk (show B0 = true from by rw [HV.out, hyn, hxn]; rfl)
          have hxi : x.f1.toList.isEmpty = false := by rw [List.isEmpty_eq_false_iff]; intro h; rw [h] at hxe; cases hxe
          have hyi : y.f1.toList.isEmpty = false := by rw [List.isEmpty_eq_false_iff]; intro h; rw [h] at hye; cases hye
          clear hyn hxn HV
          refine rs_ (S := fun W => Aside0 (Below w.heap.size w W) ∧ Aside0 (Kd.R (Kd.int .i64) 3 W w.heap.size (fun _ => True) u3 (idlesTo (l0.map toP) i)) ∧ Two W ad k i y x) 49 [31, 37, 44] good9 (by kernel_rfl) ⟨⟨below_drew1 HB.out⟩, ⟨Kd.R_drew HO.out⟩, TW.out.after (below_drew1 (Below.refl wr.heap.size wr))⟩ (fun HG hS => ?_)
          generalize wr.drew = wd at hS ⊢
          iterate 27
           refine rt_ (v := ?_) (a' := ?_) HG.out rfl (by conv => lhs; whnf) (by decide) (by decide) (fun _ _ _ h => h) (Or.inl ⟨by rfl, ?_⟩) hS ?_ ?_
           rotate_left
           ·
            rintro w' ⟨s8, s9, s0, s1, s2, s3, s4, s5⟩
            go_simp
            with_reducible rfl
           rotate_left
           ·
            simp only [Act.put, List.setIfInBounds_toArray, List.set_cons_zero, List.set_cons_succ, i64_w, i32_w]
            rfl
          iterate 4
           refine rt_ (v := undef) (a' := ?_) HG.out rfl (by conv => lhs; whnf) (by decide) (by decide) (fun _ _ _ h => h) (Or.inr ⟨by rfl, rfl⟩) hS ?_ ?_
           rotate_left
           ·
            simp only [Act.put, List.setIfInBounds_toArray, List.set_cons_zero, List.set_cons_succ, i64_w, i32_w]
            rfl
          iterate 1
           refine roff_ (a' := ?_) HG.out rfl (by conv => lhs; whnf) (by decide) (by decide) (by rfl) hS ?_ ?_
           rotate_left
           ·
            simp only [Act.put, List.setIfInBounds_toArray, List.set_cons_zero, List.set_cons_succ, i64_w, i32_w]
            rfl
          iterate 5
           refine rt_ (v := undef) (a' := ?_) HG.out rfl (by conv => lhs; whnf) (by decide) (by decide) (fun _ _ _ h => h) (Or.inr ⟨by rfl, rfl⟩) hS ?_ ?_
           rotate_left
           ·
            simp only [Act.put, List.setIfInBounds_toArray, List.set_cons_zero, List.set_cons_succ, i64_w, i32_w]
            rfl
          iterate 1
           refine roff_ (a' := ?_) HG.out rfl (by conv => lhs; whnf) (by decide) (by decide) (by rfl) hS ?_ ?_
           rotate_left
           ·
            simp only [Act.put, List.setIfInBounds_toArray, List.set_cons_zero, List.set_cons_succ, i64_w, i32_w]
            rfl
          iterate 6
           refine rt_ (v := undef) (a' := ?_) HG.out rfl (by conv => lhs; whnf) (by decide) (by decide) (fun _ _ _ h => h) (Or.inr ⟨by rfl, rfl⟩) hS ?_ ?_
           rotate_left
           ·
            simp only [Act.put, List.setIfInBounds_toArray, List.set_cons_zero, List.set_cons_succ, i64_w, i32_w]
            rfl
          iterate 1
           refine roff_ (a' := ?_) HG.out rfl (by conv => lhs; whnf) (by decide) (by decide) (by rfl) hS ?_ ?_
           rotate_left
           ·
            simp only [Act.put, List.setIfInBounds_toArray, List.set_cons_zero, List.set_cons_succ, i64_w, i32_w]
            rfl
          iterate 1
           refine rt_ (v := undef) (a' := ?_) HG.out rfl (by conv => lhs; whnf) (by decide) (by decide) (fun _ _ _ h => h) (Or.inr ⟨by rfl, rfl⟩) hS ?_ ?_
           rotate_left
           ·
            simp only [Act.put, List.setIfInBounds_toArray, List.set_cons_zero, List.set_cons_succ, i64_w, i32_w]
            rfl
          iterate 3
           refine rt_ (v := ?_) (a' := ?_) HG.out rfl (by conv => lhs; whnf) (by decide) (by decide) (fun _ _ _ h => h) (Or.inl ⟨by rfl, ?_⟩) hS ?_ ?_
           rotate_left
           ·
            rintro w' ⟨s8, s9, s0, s1, s2, s3, s4, s5⟩
            go_simp
            with_reducible rfl
           rotate_left
           ·
            simp only [Act.put, List.setIfInBounds_toArray, List.set_cons_zero, List.set_cons_succ, i64_w, i32_w]
            rfl
          refine done_ HG.out.done ?_
          try go_wp2
          go_meet
          case rel => exact ⟨by rw [HW.out], hS.2.1, hS.1⟩
        ·
         have hyn : decide (y.f1.data.toList = []) = true := decide_eq_true (by rw [← Lib.toList_data]; exact beq_iff_eq.mp hye)
         have HW := Aside0.mk (show B0 = true from by rw [HV.out, hyn]; rfl)
         have hyi : y.f1.toList.isEmpty = true := by rw [beq_iff_eq] at hye; rw [hye]; rfl
         clear hyn HV
         refine rs_ (S := fun W => Aside0 (Below w.heap.size w W) ∧ Aside0 (Kd.R (Kd.int .i64) 3 W w.heap.size (fun _ => True) u3 (idlesTo (l0.map toP) i)) ∧ Two W ad k i y x) 49 [31, 37, 44] good9 (by kernel_rfl) ⟨⟨below_drew1 HB.out⟩, ⟨Kd.R_drew HO.out⟩, TW.out.after (below_drew1 (Below.refl wr.heap.size wr))⟩ (fun HG hS => ?_)
         generalize wr.drew = wd at hS ⊢
         iterate 19
          refine rt_ (v := ?_) (a' := ?_) HG.out rfl (by conv => lhs; whnf) (by decide) (by decide) (fun _ _ _ h => h) (Or.inl ⟨by rfl, ?_⟩) hS ?_ ?_
          rotate_left
          ·
           rintro w' ⟨s8, s9, s0, s1, s2, s3, s4, s5⟩
           go_simp
           with_reducible rfl
          rotate_left
          ·
           simp only [Act.put, List.setIfInBounds_toArray, List.set_cons_zero, List.set_cons_succ, i64_w, i32_w]
           rfl
         iterate 6
          refine rt_ (v := undef) (a' := ?_) HG.out rfl (by conv => lhs; whnf) (by decide) (by decide) (fun _ _ _ h => h) (Or.inr ⟨by rfl, rfl⟩) hS ?_ ?_
          rotate_left
          ·
           simp only [Act.put, List.setIfInBounds_toArray, List.set_cons_zero, List.set_cons_succ, i64_w, i32_w]
           rfl
         iterate 2
          refine rt_ (v := ?_) (a' := ?_) HG.out rfl (by conv => lhs; whnf) (by decide) (by decide) (fun _ _ _ h => h) (Or.inl ⟨by rfl, ?_⟩) hS ?_ ?_
          rotate_left
          ·
           rintro w' ⟨s8, s9, s0, s1, s2, s3, s4, s5⟩
           go_simp
           with_reducible rfl
          rotate_left
          ·
           simp only [Act.put, List.setIfInBounds_toArray, List.set_cons_zero, List.set_cons_succ, i64_w, i32_w]
           rfl
         iterate 4
          refine rt_ (v := undef) (a' := ?_) HG.out rfl (by conv => lhs; whnf) (by decide) (by decide) (fun _ _ _ h => h) (Or.inr ⟨by rfl, rfl⟩) hS ?_ ?_
          rotate_left
          ·
           simp only [Act.put, List.setIfInBounds_toArray, List.set_cons_zero, List.set_cons_succ, i64_w, i32_w]
           rfl
         iterate 1
          refine roff_ (a' := ?_) HG.out rfl (by conv => lhs; whnf) (by decide) (by decide) (by rfl) hS ?_ ?_
          rotate_left
          ·
           simp only [Act.put, List.setIfInBounds_toArray, List.set_cons_zero, List.set_cons_succ, i64_w, i32_w]
           rfl
         iterate 5
          refine rt_ (v := undef) (a' := ?_) HG.out rfl (by conv => lhs; whnf) (by decide) (by decide) (fun _ _ _ h => h) (Or.inr ⟨by rfl, rfl⟩) hS ?_ ?_
          rotate_left
          ·
           simp only [Act.put, List.setIfInBounds_toArray, List.set_cons_zero, List.set_cons_succ, i64_w, i32_w]
           rfl
         iterate 1
          refine roff_ (a' := ?_) HG.out rfl (by conv => lhs; whnf) (by decide) (by decide) (by rfl) hS ?_ ?_
          rotate_left
          ·
           simp only [Act.put, List.setIfInBounds_toArray, List.set_cons_zero, List.set_cons_succ, i64_w, i32_w]
           rfl
         iterate 6
          refine rt_ (v := undef) (a' := ?_) HG.out rfl (by conv => lhs; whnf) (by decide) (by decide) (fun _ _ _ h => h) (Or.inr ⟨by rfl, rfl⟩) hS ?_ ?_
          rotate_left
          ·
           simp only [Act.put, List.setIfInBounds_toArray, List.set_cons_zero, List.set_cons_succ, i64_w, i32_w]
           rfl
         iterate 1
          refine roff_ (a' := ?_) HG.out rfl (by conv => lhs; whnf) (by decide) (by decide) (by rfl) hS ?_ ?_
          rotate_left
          ·
           simp only [Act.put, List.setIfInBounds_toArray, List.set_cons_zero, List.set_cons_succ, i64_w, i32_w]
           rfl
         iterate 1
          refine rt_ (v := undef) (a' := ?_) HG.out rfl (by conv => lhs; whnf) (by decide) (by decide) (fun _ _ _ h => h) (Or.inr ⟨by rfl, rfl⟩) hS ?_ ?_
          rotate_left
          ·
           simp only [Act.put, List.setIfInBounds_toArray, List.set_cons_zero, List.set_cons_succ, i64_w, i32_w]
           rfl
         iterate 3
          refine rt_ (v := ?_) (a' := ?_) HG.out rfl (by conv => lhs; whnf) (by decide) (by decide) (fun _ _ _ h => h) (Or.inl ⟨by rfl, ?_⟩) hS ?_ ?_
          rotate_left
          ·
           rintro w' ⟨s8, s9, s0, s1, s2, s3, s4, s5⟩
           go_simp
           with_reducible rfl
          rotate_left
          ·
           simp only [Act.put, List.setIfInBounds_toArray, List.set_cons_zero, List.set_cons_succ, i64_w, i32_w]
           rfl
         refine done_ HG.out.done ?_
         try go_wp2
         go_meet
         case rel => exact ⟨by rw [HW.out], hS.2.1, hS.1⟩
       ·
        have b1 : (y.f2.toList == x.f2.toList) = false := beq_eq_false_iff_ne.mpr (fun h => hwho (list_inj h))
        have HW := Aside0.mk (show B0 = false from by rw [HB0.out]; unfold atFirst; rw [decide_eq_false hwho, Bool.false_and])
        clear hwho
        refine rs_ (S := fun W => Aside0 (Below w.heap.size w W) ∧ Aside0 (Kd.R (Kd.int .i64) 3 W w.heap.size (fun _ => True) u3 (idlesTo (l0.map toP) i)) ∧ Two W ad k i y x) 49 [31, 37, 44] good9 (by kernel_rfl) ⟨⟨below_drew1 HB.out⟩, ⟨Kd.R_drew HO.out⟩, TW.out.after (below_drew1 (Below.refl wr.heap.size wr))⟩ (fun HG hS => ?_)
        generalize wr.drew = wd at hS ⊢
        iterate 12
         refine rt_ (v := ?_) (a' := ?_) HG.out rfl (by conv => lhs; whnf) (by decide) (by decide) (fun _ _ _ h => h) (Or.inl ⟨by rfl, ?_⟩) hS ?_ ?_
         rotate_left
         ·
          rintro w' ⟨s8, s9, s0, s1, s2, s3, s4, s5⟩
          go_simp
          with_reducible rfl
         rotate_left
         ·
          simp only [Act.put, List.setIfInBounds_toArray, List.set_cons_zero, List.set_cons_succ, i64_w, i32_w]
          rfl
        iterate 19
         refine rt_ (v := undef) (a' := ?_) HG.out rfl (by conv => lhs; whnf) (by decide) (by decide) (fun _ _ _ h => h) (Or.inr ⟨by rfl, rfl⟩) hS ?_ ?_
         rotate_left
         ·
          simp only [Act.put, List.setIfInBounds_toArray, List.set_cons_zero, List.set_cons_succ, i64_w, i32_w]
          rfl
        iterate 1
         refine roff_ (a' := ?_) HG.out rfl (by conv => lhs; whnf) (by decide) (by decide) (by rfl) hS ?_ ?_
         rotate_left
         ·
          simp only [Act.put, List.setIfInBounds_toArray, List.set_cons_zero, List.set_cons_succ, i64_w, i32_w]
          rfl
        iterate 5
         refine rt_ (v := undef) (a' := ?_) HG.out rfl (by conv => lhs; whnf) (by decide) (by decide) (fun _ _ _ h => h) (Or.inr ⟨by rfl, rfl⟩) hS ?_ ?_
         rotate_left
         ·
          simp only [Act.put, List.setIfInBounds_toArray, List.set_cons_zero, List.set_cons_succ, i64_w, i32_w]
          rfl
        iterate 1
         refine roff_ (a' := ?_) HG.out rfl (by conv => lhs; whnf) (by decide) (by decide) (by rfl) hS ?_ ?_
         rotate_left
         ·
          simp only [Act.put, List.setIfInBounds_toArray, List.set_cons_zero, List.set_cons_succ, i64_w, i32_w]
          rfl
        iterate 6
         refine rt_ (v := undef) (a' := ?_) HG.out rfl (by conv => lhs; whnf) (by decide) (by decide) (fun _ _ _ h => h) (Or.inr ⟨by rfl, rfl⟩) hS ?_ ?_
         rotate_left
         ·
          simp only [Act.put, List.setIfInBounds_toArray, List.set_cons_zero, List.set_cons_succ, i64_w, i32_w]
          rfl
        iterate 1
         refine roff_ (a' := ?_) HG.out rfl (by conv => lhs; whnf) (by decide) (by decide) (by rfl) hS ?_ ?_
         rotate_left
         ·
          simp only [Act.put, List.setIfInBounds_toArray, List.set_cons_zero, List.set_cons_succ, i64_w, i32_w]
          rfl
        iterate 2
         refine rt_ (v := undef) (a' := ?_) HG.out rfl (by conv => lhs; whnf) (by decide) (by decide) (fun _ _ _ h => h) (Or.inr ⟨by rfl, rfl⟩) hS ?_ ?_
         rotate_left
         ·
          simp only [Act.put, List.setIfInBounds_toArray, List.set_cons_zero, List.set_cons_succ, i64_w, i32_w]
          rfl
        iterate 2
         refine rt_ (v := ?_) (a' := ?_) HG.out rfl (by conv => lhs; whnf) (by decide) (by decide) (fun _ _ _ h => h) (Or.inl ⟨by rfl, ?_⟩) hS ?_ ?_
         rotate_left
         ·
          rintro w' ⟨s8, s9, s0, s1, s2, s3, s4, s5⟩
          go_simp
          with_reducible rfl
         rotate_left
         ·
          simp only [Act.put, List.setIfInBounds_toArray, List.set_cons_zero, List.set_cons_succ, i64_w, i32_w]
          rfl
        refine done_ HG.out.done ?_
        try go_wp2
        go_meet
        case rel => exact ⟨by rw [HW.out], hS.2.1, hS.1⟩
      case rest =>
       clear HO HB TW
       obtain ⟨rfl, HO, HB⟩ := hcut
       go_wp2
       go_loopw [7, 8] (fun v7 v8 wr => ∃ (j : Nat), Aside0 (v7 = .bool (B0 && (x.f1.data.toList.take j).all (fun c => aboutL y.f1.data.toList [c]))) ∧ v8 = .int .i64 j ∧ j ≤ x.f1.size ∧ Aside0 (Kd.R (Kd.int .i64) 3 wr w.heap.size (fun _ => True) u3 (idlesTo (l0.map toP) i)) ∧ Aside0 (Below w.heap.size w wr)) (fun _ v8 _ => x.f1.size - (intOf v8).toNat)
       case atStart => exact ⟨0, ⟨by simp⟩, rfl, by omega, HO, HB⟩
       case round =>
        clear HO HB
        obtain ⟨j, h7, rfl, hj, HO, HB⟩ := hrel
        obtain ⟨b7, hb7⟩ : ∃ b, b = (B0 && (x.f1.data.toList.take j).all (fun c => aboutL y.f1.data.toList [c])) := ⟨_, rfl⟩
        have h7' := h7.out
        rw [← hb7] at h7'
        have HB7 := Aside0.mk hb7
        clear hb7 h7
        subst h7'
        have TW := Aside0.mk (TW0.out.after HB.out)
        obtain ⟨s0, s1, s2, s3, s4, s5⟩ := TW.out
        have hj64 := HXS.out
        by_cases hjx : j < x.f1.size
        ·
         have hj0 : (0 : Int) ≤ (j : Int) := by omega
         have hj1 : (j : Int) < (x.f1.size : Int) := by omega
         have hjl : j < x.f1.data.toList.length := by rw [size_list]; exact hjx
         have hal := all_take hjl (fun c => aboutL y.f1.data.toList [c])
         have hbt := bt_nat hjx
         have hca := CA.out (x.f1.data.toList[j]'hjl)
         rw [← hbt] at hca
         obtain ⟨bj, hbj⟩ : ∃ bj, bj = aboutL y.f1.data.toList [x.f1.data.toList[j]'hjl] := ⟨_, rfl⟩
         rw [← hbj] at hal hca
         have HCA := Aside0.mk hca
         have HAL := Aside0.mk hal
         have hx36 : ∀ h : j < x.f1.size, ((x.f1[j]'h).toNat : Int) = bt x.f1 (j : Int) := fun h => bt_at x.f1 (j : Int) h
         have hjn : (j : Int).toNat < x.f1.size := by omega
         clear hal hca hbt hbj
         go_wp2
         cases b7
         ·
          have HN := Aside0.mk (show false = (B0 && (x.f1.data.toList.take (j + 1)).all (fun c => aboutL y.f1.data.toList [c])) from by rw [HAL.out, ← Bool.and_assoc, ← HB7.out, Bool.false_and])
          refine rs_ (S := fun W => Aside0 (Below w.heap.size w W) ∧ Aside0 (Kd.R (Kd.int .i64) 3 W w.heap.size (fun _ => True) u3 (idlesTo (l0.map toP) i)) ∧ Two W ad k i y x) 16 [13] good13 (by kernel_rfl) ⟨⟨below_drew1 HB.out⟩, ⟨Kd.R_drew HO.out⟩, TW.out.after (below_drew1 (Below.refl wr.heap.size wr))⟩ (fun HG hS => ?_)
          generalize wr.drew = wd at hS ⊢
          iterate 2
           refine rt_ (v := ?_) (a' := ?_) HG.out rfl (by conv => lhs; whnf) (by decide) (by decide) (fun _ _ _ h => h) (Or.inl ⟨by rfl, ?_⟩) hS ?_ ?_
           rotate_left
           ·
            rintro w' ⟨s8, s9, s0, s1, s2, s3, s4, s5⟩
            go_simp
            with_reducible rfl
           rotate_left
           ·
            simp only [Act.put, List.setIfInBounds_toArray, List.set_cons_zero, List.set_cons_succ, i64_w, i32_w]
            rfl
          iterate 11
           refine rt_ (v := undef) (a' := ?_) HG.out rfl (by conv => lhs; whnf) (by decide) (by decide) (fun _ _ _ h => h) (Or.inr ⟨by rfl, rfl⟩) hS ?_ ?_
           rotate_left
           ·
            simp only [Act.put, List.setIfInBounds_toArray, List.set_cons_zero, List.set_cons_succ, i64_w, i32_w]
            rfl
          iterate 1
           refine roff_ (a' := ?_) HG.out rfl (by conv => lhs; whnf) (by decide) (by decide) (by rfl) hS ?_ ?_
           rotate_left
           ·
            simp only [Act.put, List.setIfInBounds_toArray, List.set_cons_zero, List.set_cons_succ, i64_w, i32_w]
            rfl
          iterate 2
           refine rt_ (v := ?_) (a' := ?_) HG.out rfl (by conv => lhs; whnf) (by decide) (by decide) (fun _ _ _ h => h) (Or.inl ⟨by rfl, ?_⟩) hS ?_ ?_
           rotate_left
           ·
            rintro w' ⟨s8, s9, s0, s1, s2, s3, s4, s5⟩
            go_simp
            with_reducible rfl
           rotate_left
           ·
            simp only [Act.put, List.setIfInBounds_toArray, List.set_cons_zero, List.set_cons_succ, i64_w, i32_w]
            rfl
          refine done_ HG.out.done ?_
          try go_wp2
          go_roundw
          case rel => exact ⟨j + 1, ⟨congrArg Value.bool HN.out⟩, by go_num, by omega, hS.2.1, hS.1⟩
          case measure => simp [intOf]; omega
         ·
          have HN := Aside0.mk (show bj = (B0 && (x.f1.data.toList.take (j + 1)).all (fun c => aboutL y.f1.data.toList [c])) from by rw [HAL.out, ← Bool.and_assoc, ← HB7.out, Bool.true_and])
          refine rs_ (S := fun W => Aside0 (Below w.heap.size w W) ∧ Aside0 (Kd.R (Kd.int .i64) 3 W w.heap.size (fun _ => True) u3 (idlesTo (l0.map toP) i)) ∧ Two W ad k i y x) 16 [13] good13 (by kernel_rfl) ⟨⟨below_drew1 HB.out⟩, ⟨Kd.R_drew HO.out⟩, TW.out.after (below_drew1 (Below.refl wr.heap.size wr))⟩ (fun HG hS => ?_)
          generalize wr.drew = wd at hS ⊢
          iterate 13
           refine rt_ (v := ?_) (a' := ?_) HG.out rfl (by conv => lhs; whnf) (by decide) (by decide) (fun _ _ _ h => h) (Or.inl ⟨by rfl, ?_⟩) hS ?_ ?_
           rotate_left
           ·
            rintro w' ⟨s8, s9, s0, s1, s2, s3, s4, s5⟩
            go_simp
            with_reducible rfl
           rotate_left
           ·
            simp only [Act.put, List.setIfInBounds_toArray, List.set_cons_zero, List.set_cons_succ, i64_w, i32_w]
            rfl
          refine rcall_ HG.out rfl (by conv => lhs; whnf) (by decide) (by decide) Tryd.func24 (by kernel_rfl) rfl #[.agg #[.bool y.f0, .string y.f1, .string y.f2], .int .u8 (bt x.f1 (j : Int))] (by rfl) rfl (by (try simp only [List.map_toArray, List.map_cons, List.map_nil]); first | done | rfl) ?_
          with_reducible refine (HCA.out _).mono ?_
          rintro e w3 ⟨rfl, hb⟩
          refine ⟨_, rfl, ⟨⟨below_step hS.1.out hb⟩, ⟨Kd.R_below hS.2.1.out hb⟩, hS.2.2.after hb⟩, fun hS => ?_⟩
          clear hb
          refine norm_ (a' := ?_) ?_ ?_
          rotate_left
          ·
           simp only [Act.put, List.setIfInBounds_toArray, List.set_cons_zero, List.set_cons_succ, i64_w, i32_w]
           rfl
          iterate 2
           refine rt_ (v := ?_) (a' := ?_) HG.out rfl (by conv => lhs; whnf) (by decide) (by decide) (fun _ _ _ h => h) (Or.inl ⟨by rfl, ?_⟩) hS ?_ ?_
           rotate_left
           ·
            rintro w' ⟨s8, s9, s0, s1, s2, s3, s4, s5⟩
            go_simp
            with_reducible rfl
           rotate_left
           ·
            simp only [Act.put, List.setIfInBounds_toArray, List.set_cons_zero, List.set_cons_succ, i64_w, i32_w]
            rfl
          refine done_ HG.out.done ?_
          try go_wp2
          go_roundw
          case rel => exact ⟨j + 1, ⟨congrArg Value.bool HN.out⟩, by go_num, by omega, hS.2.1, hS.1⟩
          case measure => simp [intOf]; omega
        ·
         have hj1 : (x.f1.size : Int) ≤ (j : Int) := by omega
         obtain rfl : j = x.f1.size := by omega
         have hb7 := HB7.out
         rw [List.take_of_length_le (by rw [size_list]; omega)] at hb7
         have hnk := HNK.out
         rw [← HB0.out, ← hb7] at hnk
         have HN := Aside0.mk hnk
         clear hb7 hnk
         cases b
         ·
          go_wp2
          go_roundw
          case rel => exact ⟨k + 1, ⟨congrArg Value.bool (by rw [HN.out, Bool.false_or])⟩, by go_num, by omega, HO, HB⟩
          case measure => simp [intOf]; omega
         ·
          go_wp2
          go_roundw
          case rel => exact ⟨k + 1, ⟨congrArg Value.bool (by rw [HN.out, Bool.true_or])⟩, by go_num, by omega, HO, HB⟩
          case measure => simp [intOf]; omega
     ·
      obtain rfl : k = i := by omega
      have hz5 : (k : Int) ≤ (k : Int) := Int.le_refl _
      have hnn := HNX.out
      rw [HBK.out] at hnn
      cases b
      ·
       have HNN := Aside0.mk hnn
       clear hnn
       go_wp2
       go_roundw
       case rel => exact ⟨k + 1, by go_num, by omega, ⟨by rw [HNN.out]; simpa using HO.out⟩, HB⟩
       case measure => simp [intOf]; omega
      ·
       rw [if_pos rfl] at hnn
       have HNN := Aside0.mk hnn
       clear hnn
       go_wp2_with (at_builtin; refine Kd.R_append (Kd.int .i64) (w0 := w) w.heap.size rfl (.tmp 98) (.tmp 100) 40 3 (.int .i64 0) 8 rfl Tryd.underlying40 info3 rfl (by decide) (by omega) _ (idlesTo (l0.map toP) k) (k : Int) [.int .i64 k] (fun _ => True) (fun _ => False) rfl rfl rfl (fun _ h => h.elim) (fun _ _ => trivial) HO.out HB.out (below_size HB.out) (by have := idles_len (l0.map toP) k; omega) ?_; intro v4 w4 ho4 hb4 hg4 hat4; have HO4 := Aside0.mk ho4; have HB4 := Aside0.mk hb4; clear ho4 hb4 hg4 hat4)
       go_roundw
       case rel => exact ⟨k + 1, by go_num, by omega, ⟨by rw [HNN.out]; exact HO4.out⟩, HB4⟩
       case measure => simp [intOf]; omega
   ·
    have hz2 : (l0.length : Int) ≤ (i : Int) := by omega
    obtain rfl : i = l0.length := by omega
    go_wp2
    go_ret
    exact ⟨_, rfl, HO.out, HB.out⟩
 ·
  rw [if_neg hc] at h; cases h
end Go.Proofs.YtajndnaeknfogaaDoor.Q
