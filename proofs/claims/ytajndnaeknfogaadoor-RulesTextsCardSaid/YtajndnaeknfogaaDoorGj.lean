/- strings.Join laid (the shelf's contract at this dump, in plain words), and the contract of rules.Write: the text of rules, or that there is none; condition: last parts of at most 2^63 - 1 bytes. -/
import Derived.Shelf.Strings.OnBuilder
import Derived.Ground.NamesProg
import Derived.Test.YtajndnaeknfogaaDoorProg
import Derived.Test.YtajndnaeknfogaaDoorGx
import Derived.Test.YtajndnaeknfogaaDoorGo
namespace Go.Proofs
open Go.Shelf
def Tryd.lays156_ren : Go.Shelf.Ren := ⟨fun | 156 => 36 | 165 => 55 | 166 => 56 | 169 => 57 | 240 => 71 | 241 => 72 | 276 => 84 | 277 => 85 | n => n, fun | 31 => 69 | 9 => 9 | 3 => 3 | 4 => 4 | 0 => 0 | 20 => 20 | 72 => 90 | 76 => 94 | 70 => 87 | 37 => 88 | 75 => 93 | 127 => 105 | 164 => 109 | 5 => 5 | 80 => 96 | n => n, fun | n => n⟩
theorem Tryd.lays156 : Go.Proofs.Lays.n156 Tryd.prog Tryd.lays156_ren := {
  mixed := by kernel_rfl
  f156 := Tryd.func36.trans (congrArg some (by kernel_rfl))
  f165 := Tryd.func55.trans (congrArg some (by kernel_rfl))
  f166 := Tryd.func56.trans (congrArg some (by kernel_rfl))
  f169 := Tryd.func57.trans (congrArg some (by kernel_rfl))
  f240 := Tryd.func71.trans (congrArg some (by kernel_rfl))
  f241 := Tryd.func72.trans (congrArg some (by kernel_rfl))
  f276 := Tryd.func84.trans (congrArg some (by kernel_rfl))
  f277 := Tryd.func85.trans (congrArg some (by kernel_rfl))
  t0 := Tryd.underlying0
  a0 := Tryd.isAgg0
  z0 := Tryd.sizeOf0
  v0 := Tryd.zeroValue0
  t3 := Tryd.underlying3
  a3 := Tryd.isAgg3
  z3 := Tryd.sizeOf3
  v3 := Tryd.zeroValue3
  t4 := Tryd.underlying4
  a4 := Tryd.isAgg4
  z4 := Tryd.sizeOf4
  v4 := Tryd.zeroValue4
  t9 := Tryd.underlying9
  a9 := Tryd.isAgg9
  z9 := Tryd.sizeOf9
  v9 := Tryd.zeroValue9
  t20 := Tryd.underlying20
  a20 := Tryd.isAgg20
  z20 := Tryd.sizeOf20
  v20 := Tryd.zeroValue20
  t31 := Tryd.underlying69
  a31 := Tryd.isAgg69
  z31 := Tryd.sizeOf69
  v31 := Tryd.zeroValue69
  t37 := Tryd.underlying88
  a37 := Tryd.isAgg88
  z37 := Tryd.sizeOf88
  v37 := Tryd.zeroValue88
  t70 := Tryd.underlying87
  a70 := Tryd.isAgg87
  z70 := Tryd.sizeOf87
  v70 := Tryd.zeroValue87
  t72 := Tryd.underlying90
  a72 := Tryd.isAgg90
  z72 := Tryd.sizeOf90
  v72 := Tryd.zeroValue90
  t75 := Tryd.underlying93
  a75 := Tryd.isAgg93
  z75 := Tryd.sizeOf93
  v75 := Tryd.zeroValue93
  t76 := Tryd.underlying94
  a76 := Tryd.isAgg94
  z76 := Tryd.sizeOf94
  v76 := Tryd.zeroValue94
  t127 := Tryd.underlying105
  a127 := Tryd.isAgg105
  z127 := Tryd.sizeOf105
  v127 := Tryd.zeroValue105
  t164 := Tryd.underlying109
  a164 := Tryd.isAgg109
  z164 := Tryd.sizeOf109
  v164 := Tryd.zeroValue109 }
theorem Tryd.Builder_Extra_156 : Builder.Extra Tryd.prog Tryd.lays156_ren := {
  sizeBuilder := by kernel_rfl
  liesBuilder := by kernel_rfl
  t5 := Tryd.underlying5
  a5 := Tryd.isAgg5
  z5 := Tryd.sizeOf5
  v5 := Tryd.zeroValue5
  infoByte := by kernel_rfl
  cellsByte := by kernel_rfl
  sizeByte := by kernel_rfl
  neB5 := by decide }
open Go.RowKit in
/-- No element: the empty string; the world is as it was. (Whatever the slice's address and capacity: a nil slice too.) (LAID: no walk: one application.) -/
theorem Tryd.strings_Join_none (a : Option Addr) (c : Nat) (sep : ByteArray) (w : World) :
    Calls Tryd.prog 36 #[.slice a 0 c, .string sep] w fun e w' => e = .returned (.string ⟨#[]⟩) ∧ w' = w := Any.strings_Join_none Tryd.lays156 Tryd.Builder_Extra_156 a c sep w
open Go.RowKit in
/-- strings.Join: "Join concatenates the elements of its first argument to create a single string. The separator string sep is placed between elements in the resulting string.": HOWEVER MANY ELEMENTS. Below the heap's end the world is as it was. (LAID: no walk: one application.) -/
theorem Tryd.strings_Join (bk o c : Nat) (xs : List ByteArray) (sep : ByteArray) (w : World) (hcells : ∀ (j : Nat) x, xs[j]? = some x → w.cell? ⟨bk, o + j, none⟩ = some (.string x)) (hbk : bk < w.heap.size) (hN : xs.length ≤ 140737488355328) (hcap : xs.length ≤ c) (hlen : (Lib.join (xs.map (·.data.toList)) sep.data.toList).length ≤ 140737488355328) :
    Calls Tryd.prog 36 #[.slice (some ⟨bk, o, none⟩) xs.length c, .string sep] w fun e w' => e = .returned (.string ⟨(Lib.join (xs.map (·.data.toList)) sep.data.toList).toArray⟩) ∧ Below w.heap.size w w' := Any.strings_Join Tryd.lays156 Tryd.Builder_Extra_156 bk o c xs sep w hcells hbk hN hcap hlen
end Go.Proofs

namespace Go.Proofs.YtajndnaeknfogaaDoor.Q
open Go.RowKit Go.Proofs.YtajndnaeknfogaaDoorW.PrintWords Go.Proofs.YtajndnaeknfogaaDoorW.PrintLast Go.Proofs.YtajndnaeknfogaaDoorW.PrintMore
set_option linter.unusedVariables false
set_option linter.unusedSimpArgs false

def rightP (x : S37) : Bool := kFrom x.f1.data.toList (-1) && whoL x.f2.data.toList
def fineP (l : List S37) : Bool := l.all (fun x => decide (x.f2.size ≤ 9223372036854775807))
def wordP (x : S37) : ByteArray := ((((if x.f0 then (⟨#[97]⟩ : ByteArray) else (⟨#[100]⟩ : ByteArray)) ++ (⟨#[58]⟩ : ByteArray)) ++ x.f1) ++ (⟨#[58]⟩ : ByteArray)) ++ x.f2
def joinP (l : List S37) : ByteArray := ⟨(Lib.join ((l.map wordP).map (·.data.toList)) [59]).toArray⟩
def okP (l : List S37) : Bool := decide (l.length ≤ 32) && l.all rightP
def rules_Write.f (l0 : List S37) : Option (ByteArray × Int) := if fineP l0 = true then some (if okP l0 then (joinP l0, 0) else (⟨#[]⟩, 3)) else none

theorem idx_any (p : S37 → Bool) : ∀ (l : List S37) (i : Int), 0 ≤ i → decide (idxFrom p l i ≥ 0) = l.any p
  | [], i, _ => rfl
  | x :: l, i, h => by
    unfold idxFrom
    rw [List.any_cons]
    cases hx : p x
    · rw [if_neg (by decide), Bool.false_or]; exact idx_any p l (i + 1) (by omega)
    · rw [if_pos rfl, Bool.true_or]; exact decide_eq_true h

set_option maxRecDepth 100000 in
theorem write1_calls (b0 : Bool) (kinds who : ByteArray) (hw : who.size ≤ 9223372036854775807) (w : World) :
    Calls Tryd.prog 33 (#[.agg #[.bool b0, .string kinds, .string who]] ++ #[]) w fun e w' => e = .returned (.bool (!(kFrom kinds.data.toList (-1) && whoL who.data.toList))) ∧ Below w.heap.size w w' := by
  obtain ⟨k, hk⟩ := (right_ev b0 kinds who hw).rounds
  have cR := fun W => rules_right.calls k b0 kinds who _ W hk
  have hu37 := Tryd.underlying37
  generalize (kFrom kinds.data.toList (-1) && whoL who.data.toList) = B at *
  have HR := Aside0.mk cR
  clear cR hk hw
  go_enter Tryd.func33, Tryd.ntmps33
  go_wp2_with (go_at_call 34; refine (HR.out _).mono ?_; rintro e w3 ⟨rfl, hb⟩)
  go_ret
  exact ⟨rfl, ((Below.refl _ _).alloc (Nat.le_refl _) _).trans (hb.mono (by simp))⟩

theorem write_index (A0 : Option Addr) (c0 : Nat) (l0 : List S37) (w : World) (hr0 : Kd.C k37 w A0 l0.length l0) (hc0 : l0.length ≤ c0) (hf : fineP l0 = true) :
    Calls Tryd.prog 27 #[.slice A0 l0.length c0, .func (.func 33) #[] #[]] w fun e w' => e = .returned (.int .i64 (idxFrom (fun x => !rightP x) l0 0)) ∧ Below w.heap.size w w' :=
  indexRules 33 _ (enters_of Tryd.func33 (by kernel_rfl) rfl) (fun x => !rightP x) A0 c0 l0 w hr0 hc0 fun W x hx hb =>
    write1_calls x.f0 x.f1 x.f2 (of_decide_eq_true (List.all_eq_true.mp hf x hx)) W

set_option maxRecDepth 100000 in
theorem write_contains (A0 : Option Addr) (c0 : Nat) (l0 : List S37) (w : World) (hr0 : Kd.C k37 w A0 l0.length l0) (hc0 : l0.length ≤ c0) (hf : fineP l0 = true) :
    Calls Tryd.prog 35 #[.slice A0 l0.length c0, .func (.func 33) #[] #[]] w fun e w' => e = .returned (.bool (l0.any (fun x => !rightP x))) ∧ Below w.heap.size w w' := by
  have cX := write_index A0 c0 l0 w hr0 hc0 hf
  rw [← idx_any (fun x => !rightP x) l0 0 (Int.le_refl _)]
  generalize idxFrom (fun x => !rightP x) l0 0 = F at *
  have HX := Aside0.mk cX
  clear cX hr0 hc0 hf
  go_enter Tryd.func35, Tryd.ntmps35
  go_wp2_with (go_at_call 27; refine HX.out.mono ?_; rintro e w3 ⟨rfl, hb⟩)
  go_ret
  exact ⟨rfl, hb⟩

theorem kFrom_len : ∀ (l : List UInt8) (a : Int), kFrom l a = true → (l.length : Int) ≤ 2 - a ∨ l = []
  | [], a, _ => .inr rfl
  | c :: l, a, h => by
    unfold kFrom at h
    by_cases hc : Lib.indexByte [112, 115, 113] c ≤ a
    · rw [if_pos hc] at h; cases h
    · rw [if_neg hc] at h
      have h2 := psq_le c
      rcases kFrom_len l _ h with h1 | rfl
      · left; simp only [List.length_cons]; omega
      · left; simp only [List.length_cons, List.length_nil]; omega
theorem right_sizes {x : S37} (h : rightP x = true) : x.f1.size ≤ 3 ∧ x.f2.size ≤ 33 := by
  unfold rightP at h
  rw [Bool.and_eq_true] at h
  constructor
  · rcases kFrom_len _ _ h.1 with h1 | h1
    · rw [size_list] at h1; omega
    · rw [← size_list, h1]; decide
  · have := whoL_len h.2
    rwa [size_list] at this
theorem word_size {x : S37} (h : rightP x = true) : (wordP x).size ≤ 39 := by
  obtain ⟨h1, h2⟩ := right_sizes h
  have s1 : (⟨#[97]⟩ : ByteArray).size = 1 := rfl
  have s2 : (⟨#[58]⟩ : ByteArray).size = 1 := rfl
  have s3 : (⟨#[100]⟩ : ByteArray).size = 1 := rfl
  unfold wordP
  cases x.f0 <;> simp only [if_true, Bool.false_eq_true, if_false, ByteArray.size_append, s1, s2, s3] <;> omega

/-- strings.Join of words in a row of the call's own. -/
theorem join_calls (v : Value) (xs : List ByteArray) (w : World) (base : Nat) (h : Kd.R Kd.string 9 w base (fun _ => True) v xs) (hn : xs.length ≤ 32) (hs : ∀ x ∈ xs, x.size ≤ 39) :
    Calls Tryd.prog 36 #[v, .string ⟨#[59]⟩] w fun e w' => e = .returned (.string ⟨(Lib.join (xs.map (·.data.toList)) [59]).toArray⟩) ∧ Below w.heap.size w w' := by
  have hread := h
  obtain ⟨A, c, e0⟩ := Kd.R_slice hread
  obtain ⟨inner, hown⟩ := Kd.R_own h
  subst e0
  obtain ⟨_, hc, hC⟩ := Kd.R_reads' h
  rcases hown.2 with ⟨e1, h0⟩ | ⟨g, cap, cur, e1, _⟩
  · obtain rfl : xs = [] := List.eq_nil_of_length_eq_zero h0
    exact (Tryd.strings_Join_none A c ⟨#[59]⟩ w).mono fun e w' ⟨he, hw⟩ => ⟨he, hw ▸ Below.refl _ _⟩
  · injection e1 with e2 e3 e4
    subst e2
    by_cases hz : xs.length = 0
    · obtain rfl : xs = [] := List.eq_nil_of_length_eq_zero hz
      exact (Tryd.strings_Join_none _ c ⟨#[59]⟩ w).mono fun e w' ⟨he, hw⟩ => ⟨he, hw ▸ Below.refl _ _⟩
    · obtain ⟨ad, ea, hcells⟩ := hC.2.2 (by omega)
      obtain rfl := Option.some.inj ea
      have hcell : ∀ (j : Nat) x, xs[j]? = some x → w.cell? ⟨g, 0 + j, none⟩ = some (.string x) := fun j x hj => by
        obtain ⟨cs, hl, hk, hu⟩ := hcells j x hj
        have hk' : cs = [.string x] := hk
        subst hk'
        have := hu 0 (.string x) rfl
        rw [show j * Kd.string.sz + 0 = j from by show j * 1 + 0 = j; omega] at this
        have e : (⟨g, 0, none⟩ : Addr).add j = ⟨g, 0 + j, none⟩ := by unfold Addr.add; split <;> simp_all
        rw [← e]; exact this
      have hlt : g < w.heap.size := by
        have := hcell 0 xs[0] (List.getElem?_eq_getElem (by omega))
        exact World.block_lt_of_cell? _ _ this
      refine Tryd.strings_Join g 0 c xs ⟨#[59]⟩ w hcell hlt (by omega) hc ?_
      match xs, hs, hn with
      | [], _, _ => simp [Lib.join_nil]
      | x :: r, hs, hn =>
        have key : ∀ (l : List ByteArray), (∀ x ∈ l, x.size ≤ 39) → Lib.lens (l.map (·.data.toList)) ≤ 39 * l.length := by
          intro l
          induction l with
          | nil => intro _; simp [Lib.lens]
          | cons y l ih =>
            intro h
            have h1 := ih (fun x hx => h x (List.mem_cons_of_mem _ hx))
            have h2 := h y List.mem_cons_self
            rw [← size_list] at h2
            simp only [Lib.lens, List.map_cons, List.length_cons, List.sum_cons] at h1 ⊢
            omega
        have := key (x :: r) hs
        simp only [List.map_cons] at this ⊢
        rw [Lib.join_length]
        simp only [List.length_map, List.length_cons, List.length_nil] at this hn ⊢
        have e1 : ([59] : List UInt8).length = 1 := rfl
        show ([59] : List UInt8).length * _ + _ ≤ _
        rw [e1]
        omega
theorem any_not {l : List S37} (h : l.all rightP = true) : l.any (fun x => !rightP x) = false := by
  rw [List.any_eq_false]
  intro x hx
  rw [List.all_eq_true] at h
  simp [h x hx]
theorem any_bad {l : List S37} (h : l.all rightP = false) : l.any (fun x => !rightP x) = true := by
  rw [List.any_eq_true]
  rw [List.all_eq_false] at h
  obtain ⟨x, hx, hr⟩ := h
  exact ⟨x, hx, by simpa using hr⟩
theorem words_next {l : List S37} {k : Nat} (h : k < l.length) : (l.take (k + 1)).map wordP = (l.take k).map wordP ++ [wordP l[k]] := by
  rw [List.take_succ_eq_append_getElem h, List.map_append]; rfl

set_option maxHeartbeats 4000000 in
set_option maxRecDepth 100000 in
theorem rules_Write.calls (A0 : Option Addr) (c0 : Nat) (l0 : List S37) (r1 : ByteArray) (r2 : Int) (w : World) (hr0 : Kd.C k37 w A0 l0.length l0) (hc0 : l0.length ≤ c0) (h : rules_Write.f l0 = some (r1, r2)) :
    Calls Tryd.prog 19 #[.slice A0 l0.length c0] w fun e w' => e = .returned (.tuple #[.string r1, .int .i64 r2]) ∧ Below w.heap.size w w' := by
  unfold rules_Write.f at h
  by_cases hf : fineP l0 = true
  · rw [if_pos hf] at h
    have HRES := Aside0.mk (Option.some.inj h)
    clear h
    have hu37 := Tryd.underlying37
    have cX := fun W (hb : Below w.heap.size w W) => write_contains A0 c0 l0 W (Kd.C_below hr0 hb) hc0 hf
    have HR0 := Aside0.mk hr0
    have hmax := Kd.C_max hr0
    clear hr0 hf
    by_cases h32 : l0.length ≤ 32
    · have b32 : decide ((32 : Int) < (l0.length : Int)) = false := decide_eq_false (by omega)
      have b32' : (l0.length : Int) ≤ 32 := by omega
      cases hall : l0.all rightP
      · have hres := HRES.out
        rw [show okP l0 = false from by unfold okP; rw [hall, Bool.and_false]] at hres
        obtain ⟨rfl, rfl⟩ := Prod.mk.inj hres
        rw [any_bad hall] at cX
        have HX := Aside0.mk cX
        clear cX hres HRES hall HR0
        go_enter Tryd.func19, Tryd.ntmps19
        go_wp2_with (go_at_call 35; refine (HX.out _ (Below.refl _ _)).mono ?_; rintro e w3 ⟨rfl, hb⟩)
        go_ret2
        exact ⟨rfl, hb⟩
      · have hres := HRES.out
        rw [show okP l0 = true from by unfold okP; rw [hall, decide_eq_true h32]; rfl] at hres
        obtain ⟨e1, e2⟩ := Prod.mk.inj hres
        subst e2
        have HJ := Aside0.mk e1
        rw [any_not hall] at cX
        have HX := Aside0.mk cX
        have HALL := Aside0.mk hall
        have H32 := Aside0.mk h32
        clear cX hres HRES hall e1
        go_enter Tryd.func19, Tryd.ntmps19
        go_wp2_with (go_at_call 35; refine (HX.out _ (Below.refl _ _)).mono ?_; rintro e w3 ⟨rfl, hb⟩; have HB3 := Aside0.mk hb; clear hb)
        go_loopw [5, 19] (fun v5 v19 wr => ∃ k : Nat, v19 = .int .i64 k ∧ k ≤ l0.length ∧ Aside0 (Kd.R Kd.string 9 wr w.heap.size (fun _ => True) v5 ((l0.take k).map wordP)) ∧ Aside0 (Below w.heap.size w wr)) (fun _ v19 _ => l0.length - (intOf v19).toNat)
        case atStart => exact ⟨0, rfl, by omega, ⟨Kd.R_nil _ _ _ _ _⟩, HB3⟩
        case round =>
          obtain ⟨k, rfl, hk, HO, HB⟩ := hrel
          by_cases hlt : k < l0.length
          · have hat := at_T37 (Kd.C_below HR0.out HB.out) (k : Int) (by omega) (by omega)
            rw [rd_T37_at hlt] at hat
            have hwn := words_next hlt
            obtain ⟨z1, z2⟩ := right_sizes (List.all_eq_true.mp HALL.out _ (List.getElem_mem hlt))
            generalize l0[k] = x at *
            obtain ⟨ad, e0, h0, h1, h2⟩ := hat
            cases e0
            simp only [Int.toNat_natCast] at h0 h1 h2
            have HWN := Aside0.mk hwn
            clear hwn
            have hz : (0 : Int) ≤ (k : Int) := by omega
            have hz2 : (k : Int) < (l0.length : Int) := by omega
            cases hal : x.f0
            · rw [hal] at h0
              have HW := Aside0.mk (show wordP x = ((((⟨#[100]⟩ : ByteArray) ++ (⟨#[58]⟩ : ByteArray)) ++ x.f1) ++ (⟨#[58]⟩ : ByteArray)) ++ x.f2 from by unfold wordP; rw [hal]; rfl)
              clear hal
              go_wp2_with (at_builtin; refine Kd.R_append Kd.string (w0 := w) w.heap.size rfl (.tmp 25) (.tmp 35) 69 9 (.string ⟨#[]⟩) 16 rfl Tryd.underlying69 info9 rfl (by decide) (by omega) _ ((l0.take k).map wordP) (((((⟨#[100]⟩ : ByteArray) ++ (⟨#[58]⟩ : ByteArray)) ++ x.f1) ++ (⟨#[58]⟩ : ByteArray)) ++ x.f2) [.string (((((⟨#[100]⟩ : ByteArray) ++ (⟨#[58]⟩ : ByteArray)) ++ x.f1) ++ (⟨#[58]⟩ : ByteArray)) ++ x.f2)] (fun _ => True) (fun _ => False) rfl (by rw [World.size_alloc]; rfl) rfl (fun _ h => h.elim) (fun _ _ => trivial) (Kd.R_below HO.out ((Below.refl _ wr).alloc (Nat.le_refl _) _)) (below_step HB.out ((Below.refl _ wr).alloc (Nat.le_refl _) _)) (below_size (below_step HB.out ((Below.refl _ wr).alloc (Nat.le_refl _) _))) (by rw [List.length_map, List.length_take]; omega) ?_; intro v4 w4 ho4 hb4 hg4 hat4; have HO4 := Aside0.mk ho4; have HB4 := Aside0.mk hb4; clear ho4 hb4 hg4 hat4)
              go_roundw
              case rel => exact ⟨k + 1, by go_num, by omega, ⟨by rw [HWN.out, HW.out]; exact HO4.out⟩, HB4⟩
              case measure => simp [intOf]; omega
            · rw [hal] at h0
              have HW := Aside0.mk (show wordP x = ((((⟨#[97]⟩ : ByteArray) ++ (⟨#[58]⟩ : ByteArray)) ++ x.f1) ++ (⟨#[58]⟩ : ByteArray)) ++ x.f2 from by unfold wordP; rw [hal]; rfl)
              clear hal
              go_wp2_with (at_builtin; refine Kd.R_append Kd.string (w0 := w) w.heap.size rfl (.tmp 25) (.tmp 35) 69 9 (.string ⟨#[]⟩) 16 rfl Tryd.underlying69 info9 rfl (by decide) (by omega) _ ((l0.take k).map wordP) (((((⟨#[97]⟩ : ByteArray) ++ (⟨#[58]⟩ : ByteArray)) ++ x.f1) ++ (⟨#[58]⟩ : ByteArray)) ++ x.f2) [.string (((((⟨#[97]⟩ : ByteArray) ++ (⟨#[58]⟩ : ByteArray)) ++ x.f1) ++ (⟨#[58]⟩ : ByteArray)) ++ x.f2)] (fun _ => True) (fun _ => False) rfl (by rw [World.size_alloc]; rfl) rfl (fun _ h => h.elim) (fun _ _ => trivial) (Kd.R_below HO.out ((Below.refl _ wr).alloc (Nat.le_refl _) _)) (below_step HB.out ((Below.refl _ wr).alloc (Nat.le_refl _) _)) (below_size (below_step HB.out ((Below.refl _ wr).alloc (Nat.le_refl _) _))) (by rw [List.length_map, List.length_take]; omega) ?_; intro v4 w4 ho4 hb4 hg4 hat4; have HO4 := Aside0.mk ho4; have HB4 := Aside0.mk hb4; clear ho4 hb4 hg4 hat4)
              go_roundw
              case rel => exact ⟨k + 1, by go_num, by omega, ⟨by rw [HWN.out, HW.out]; exact HO4.out⟩, HB4⟩
              case measure => simp [intOf]; omega
          · obtain rfl : k = l0.length := by omega
            have hz2 : (l0.length : Int) ≤ (l0.length : Int) := Int.le_refl _
            have ho := HO.out
            rw [List.take_length] at ho
            have hj := join_calls _ _ _ _ ho (by rw [List.length_map]; exact H32.out) (by
              intro x hx
              obtain ⟨q, hq, rfl⟩ := List.mem_map.1 hx
              exact word_size (List.all_eq_true.mp HALL.out q hq))
            rw [show (⟨(Lib.join ((l0.map wordP).map (·.data.toList)) [59]).toArray⟩ : ByteArray) = r1 from HJ.out] at hj
            have HJC := Aside0.mk hj
            clear ho hj
            go_wp2_with (go_at_call 36; refine HJC.out.mono ?_; rintro e w5 ⟨rfl, hb5⟩)
            go_ret2
            exact ⟨rfl, below_step HB.out hb5⟩
    · have b32 : decide ((32 : Int) < (l0.length : Int)) = true := decide_eq_true (by omega)
      have b32' : (32 : Int) < (l0.length : Int) := by omega
      have hres := HRES.out
      rw [show okP l0 = false from by unfold okP; rw [decide_eq_false h32]; rfl] at hres
      obtain ⟨rfl, rfl⟩ := Prod.mk.inj hres
      clear cX hres HRES HR0 h32
      go_enter Tryd.func19, Tryd.ntmps19
      go_wp2
      go_ret2
      exact ⟨rfl, Below.refl _ _⟩
  · rw [if_neg hf] at h; cases h
end Go.Proofs.YtajndnaeknfogaaDoor.Q
