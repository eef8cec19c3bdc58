/- RulesTexts: rules as text in plain words (the program's reading and writing are the reference's; there and back), and the law's walk: it says true; no condition. -/
import Derived.Test.YtajndnaeknfogaaDoorGj
import Derived.Test.YtajndnaeknfogaaDoorGr
import Derived.Test.YtajndnaeknfogaaDoorGrb
import Derived.Test.YtajndnaeknfogaaDoorGu
import Derived.Test.YtajndnaeknfogaaDoorGn
import Derived.Test.YtajndnaeknfogaaDoorGv
import Derived.Test.YtajndnaeknfogaaDoorQB
import Derived.Test.YtajndnaeknfogaaDoorQC
namespace Go.Proofs.YtajndnaeknfogaaDoor.Q
open Go.RowKit Go.Proofs.YtajndnaeknfogaaDoorW.PrintWords Go.Proofs.YtajndnaeknfogaaDoorW.PrintLast Go.Proofs.YtajndnaeknfogaaDoorW.PrintMore
set_option linter.unusedVariables false
set_option linter.unusedSimpArgs false

/-! ### kinds -/
theorem psq_ix (c : UInt8) : Lib.indexByte [112, 115, 113] c = if c = 112 then 0 else if c = 115 then 1 else if c = 113 then 2 else -1 := by
  have h : ∀ n : Fin 256, Lib.indexByte [112, 115, 113] (UInt8.ofNat n.val) = if UInt8.ofNat n.val = 112 then 0 else if UInt8.ofNat n.val = 115 then 1 else if UInt8.ofNat n.val = 113 then 2 else -1 := by decide +kernel
  have := h ⟨c.toNat, c.toNat_lt⟩
  simpa using this
theorem k2 (l : List UInt8) : kFrom l 2 = decide (l = []) := by
  cases l with
  | nil => rfl
  | cons c r =>
    unfold kFrom
    rw [if_pos (psq_le c)]
    simp
theorem k1 (l : List UInt8) : kFrom l 1 = decide (l = [] ∨ l = [113]) := by
  cases l with
  | nil => rfl
  | cons c r =>
    unfold kFrom
    rw [psq_ix]
    by_cases h1 : c = 112
    · simp [h1]
    · by_cases h2 : c = 115
      · simp [h2]
      · by_cases h3 : c = 113
        · simp [h3, k2]
        · simp [h1, h2, h3]
theorem k0 (l : List UInt8) : kFrom l 0 = decide (l = [] ∨ l = [113] ∨ l = [115] ∨ l = [115, 113]) := by
  cases l with
  | nil => rfl
  | cons c r =>
    unfold kFrom
    rw [psq_ix]
    by_cases h1 : c = 112
    · simp [h1]
    · by_cases h2 : c = 115
      · simp [h2, k1]
      · by_cases h3 : c = 113
        · simp [h3, k2]
        · simp [h1, h2, h3]
theorem km (l : List UInt8) : kFrom l (-1) = kindsL l := by
  unfold kindsL
  cases l with
  | nil => rfl
  | cons c r =>
    unfold kFrom
    rw [psq_ix]
    by_cases h1 : c = 112
    · simp [h1, k0]
      by_cases a1 : r = [] <;> by_cases a2 : r = [113] <;> by_cases a3 : r = [115] <;> by_cases a4 : r = [115, 113] <;> simp [a1, a2, a3, a4]
    · by_cases h2 : c = 115
      · simp [h2, k1]
      · by_cases h3 : c = 113
        · simp [h3, k2]
        · simp [h1, h2, h3]
theorem right_toP (x : S35) : rightP (toP x) = okRule x := by unfold rightP okRule toP; rw [km]
theorem ok_toP (l : List S35) : okP (l.map toP) = rightW l := by
  unfold okP rightW
  rw [List.length_map, List.all_map]
  congr 1
  congr 1
  funext x
  exact right_toP x

/-! ### the text of a rule -/
def wl (x : S35) : List UInt8 := (if x.f0 then 97 else 100) :: 58 :: (x.f1.data.toList ++ 58 :: x.f2.data.toList)
theorem word_wl (x : S35) : (wordP (toP x)).data.toList = wl x := by
  unfold wordP wl toP
  cases x.f0 <;> simp [ByteArray.data_append]
theorem step_wl (acc : ByteArray) (b : Bool) (x : S35) : (stepW acc b x).data.toList = acc.data.toList ++ ((if b then [] else [59]) ++ wl x) := by
  unfold stepW wl
  cases b <;> cases x.f0 <;> simp [ByteArray.data_append]
theorem txt_tail : ∀ (l : List S35) (acc : ByteArray), (txtFrom l acc false).data.toList = acc.data.toList ++ Lib.joinTail [59] (l.map wl)
  | [], acc => by simp [txtFrom, Lib.joinTail]
  | x :: l, acc => by
    unfold txtFrom
    rw [txt_tail l, step_wl]
    simp [Lib.joinTail]
theorem txt_join (l : List S35) : (txtFrom l ⟨#[]⟩ true).data.toList = Lib.join (l.map wl) [59] := by
  cases l with
  | nil => simp [txtFrom, Lib.join_nil]
  | cons x l =>
    unfold txtFrom
    rw [txt_tail, step_wl, List.map_cons, Lib.join_cons]
    simp
theorem join_txt (l : List S35) : joinP (l.map toP) = txtFrom l ⟨#[]⟩ true := by
  have h : (joinP (l.map toP)).data.toList = (txtFrom l ⟨#[]⟩ true).data.toList := by
    rw [txt_join]
    unfold joinP
    simp only [List.map_map]
    congr 1
    apply List.map_congr_left
    intro x _
    exact word_wl x
  exact ByteArray.ext (Array.toList_inj.mp h)

/-! ### the pieces -/
theorem ix_cases (l : List UInt8) (c : UInt8) : Lib.indexByte l c = -1 ∨ ∃ i : Nat, i < l.length ∧ Lib.indexByte l c = i := by
  have h1 := Lib.indexByte_ge l c
  by_cases h : Lib.indexByte l c < 0
  · exact .inl (by omega)
  · have h : 0 ≤ Lib.indexByte l c := by omega
    obtain ⟨i, hi⟩ := Int.eq_ofNat_of_zero_le h
    have := (Lib.indexByte_some hi).1
    refine .inr ⟨i, ?_, hi⟩
    rcases Nat.lt_or_ge i l.length with h | h
    · exact h
    · rw [List.getElem?_eq_none h] at this; cases this
theorem pieces_cons (cur : List UInt8) (c : UInt8) (r : List UInt8) : piecesL cur (c :: r) = if c = 59 then cur :: piecesL [] r else piecesL (cur ++ [c]) r := rfl
theorem pieces_none : ∀ (L cur : List UInt8), Lib.indexByte L 59 = -1 → piecesL cur L = [cur ++ L]
  | [], cur, _ => by simp [piecesL]
  | c :: r, cur, h => by
    unfold Lib.indexByte at h
    by_cases hc : c = 59
    · subst hc; simp at h
    · rw [if_neg (by simpa using hc)] at h
      rw [pieces_cons, if_neg hc, pieces_none r (cur ++ [c]) (by
        by_cases h2 : Lib.indexByte r 59 = -1
        · exact h2
        · rw [if_neg (by simpa using h2)] at h
          have := Lib.indexByte_ge r 59
          omega)]
      simp
theorem pieces_some : ∀ (L cur : List UInt8) (i : Nat), Lib.indexByte L 59 = i → piecesL cur L = (cur ++ L.take i) :: piecesL [] (L.drop (i + 1))
  | [], cur, i, h => by simp [Lib.indexByte] at h
  | c :: r, cur, i, h => by
    unfold Lib.indexByte at h
    by_cases hc : c = 59
    · subst hc
      rw [if_pos (by simp)] at h
      obtain rfl : i = 0 := by omega
      rw [pieces_cons, if_pos rfl]
      simp
    · rw [if_neg (by simpa using hc)] at h
      by_cases h2 : Lib.indexByte r 59 = -1
      · rw [if_pos (by simpa using h2)] at h; omega
      · rw [if_neg (by simpa using h2)] at h
        obtain ⟨j, rfl⟩ : ∃ j, i = j + 1 := ⟨i - 1, by have := Lib.indexByte_ge r 59; omega⟩
        rw [pieces_cons, if_neg hc, pieces_some r (cur ++ [c]) j (by omega)]
        simp
theorem semi_pieces : ∀ (n : Nat) (s : ByteArray), s.size ≤ n → (semiF n s).map (·.data.toList) = piecesL [] s.data.toList
  | 0, s, h => by
    have h0 : s.data.toList = [] := List.eq_nil_of_length_eq_zero (by rw [size_list]; omega)
    unfold semiF
    rw [List.map_cons, List.map_nil, h0]
    rfl
  | n + 1, s, h => by
    rcases ix_cases s.data.toList 59 with h1 | ⟨i, hi, h1⟩
    · rw [semi_none h1, pieces_none _ _ h1]; simp
    · have hl := size_list s
      rw [semi_some h1 h (by omega), pieces_some _ _ i h1, List.map_cons, Nat.add_sub_cancel]
      have e1 : (s.extract (i + 1) s.size).data.toList = s.data.toList.drop (i + 1) := by rw [Lib.extract_to_end]
      rw [semi_pieces n _ (by rw [← size_list, e1, List.length_drop]; omega), e1]
      congr 1
      rw [Lib.extract_data]
      simp
theorem pieces_join : ∀ (L cur : List UInt8), ∃ p ps, piecesL cur L = p :: ps ∧ Lib.join (p :: ps) [59] = cur ++ L
  | [], cur => ⟨cur, [], rfl, by rw [Lib.join_one]; simp⟩
  | c :: r, cur => by
    unfold piecesL
    by_cases hc : c = 59
    · rw [if_pos hc]
      obtain ⟨p, ps, e, h⟩ := pieces_join r []
      refine ⟨cur, _, rfl, ?_⟩
      rw [Lib.join_cons, e]
      rw [Lib.join_cons] at h
      subst hc
      have h' : p ++ Lib.joinTail [59] ps = r := by simpa using h
      rw [← h']
      simp [Lib.joinTail]
    · rw [if_neg hc]
      obtain ⟨p, ps, e, h⟩ := pieces_join r (cur ++ [c])
      exact ⟨p, ps, e, by rw [h]; simp⟩
theorem pieces_free : ∀ (x cur : List UInt8) (r : List UInt8), x.contains 59 = false → piecesL cur (x ++ r) = piecesL (cur ++ x) r
  | [], cur, r, _ => by simp
  | c :: x, cur, r, h => by
    rw [List.contains_cons, Bool.or_eq_false_iff] at h
    have hc : c ≠ 59 := by
      intro e
      have h1 := h.1
      rw [e] at h1
      simp at h1
    rw [List.cons_append, pieces_cons, if_neg hc, pieces_free x (cur ++ [c]) r h.2]
    simp
theorem join_pieces : ∀ (ws : List (List UInt8)) (w : List UInt8), (∀ x ∈ w :: ws, x.contains 59 = false) → piecesL [] (Lib.join (w :: ws) [59]) = w :: ws
  | [], w, h => by
    rw [Lib.join_one]
    have := pieces_free w [] [] (h w List.mem_cons_self)
    simpa [piecesL] using this
  | v :: ws, w, h => by
    have e : Lib.join (w :: v :: ws) [59] = w ++ (59 :: Lib.join (v :: ws) [59]) := by
      rw [Lib.join_cons, Lib.join_cons]
      simp [Lib.joinTail]
    have ih := join_pieces ws v (fun x hx => h x (List.mem_cons_of_mem _ hx))
    rw [e, pieces_free w [] _ (h w List.mem_cons_self)]
    simp only [List.nil_append]
    show (if (59 : UInt8) = 59 then w :: piecesL [] (Lib.join (v :: ws) [59]) else _) = _
    rw [if_pos rfl, ih]
/-! ### the rule of a text -/
theorem ixB (s : ByteArray) : Lib.indexB s ⟨#[58]⟩ = Lib.indexByte s.data.toList 58 := Lib.index_one s.data.toList 58
theorem one_of_ix0 {L : List UInt8} {i : Nat} (hi : i < L.length) (h : Lib.indexByte L 58 = i) (h1 : i ≠ 1) : refOne L = none := by
  obtain ⟨h2, h3⟩ := Lib.indexByte_some h
  match L, hi, h2, h3 with
  | [], _, _, _ => rfl
  | [a], _, _, _ => rfl
  | a :: b :: r, hi, h2, h3 =>
    rw [refOne_cons, if_neg]
    rintro ⟨ha, hb, _⟩
    subst hb
    by_cases h0 : i = 0
    · subst h0
      simp at h2
      subst h2
      rcases ha with ha | ha <;> exact absurd ha (by decide)
    · exact h3 1 (by omega) rfl
theorem no58 {l : List UInt8} (h : Lib.indexByte l 58 = -1) : l.contains 58 = false := by
  rw [Bool.eq_false_iff]
  intro hc
  rw [List.contains_iff_mem] at hc
  obtain ⟨k, hk⟩ := List.getElem?_of_mem hc
  exact Lib.indexByte_none h k hk
theorem no58t {l : List UInt8} {j : Nat} (h : Lib.indexByte l 58 = j) : (l.take j).contains 58 = false := by
  rw [Bool.eq_false_iff]
  intro hc
  rw [List.contains_iff_mem] at hc
  obtain ⟨k, hk⟩ := List.getElem?_of_mem hc
  rw [List.getElem?_take] at hk
  split at hk
  · rename_i hkj
    exact (Lib.indexByte_some h).2 k hkj hk
  · cases hk
theorem oneP_short {s : ByteArray} {ps : List ByteArray} (h : parts3 s = ps) (hl : ps.length ≠ 3) : oneP s = (false, ⟨#[]⟩, ⟨#[]⟩, false) := by
  unfold oneP
  rw [h]
  match ps, hl with
  | [], _ => rfl
  | [a], _ => rfl
  | [a, b], _ => rfl
  | [a, b, c], hl => simp at hl
  | a :: b :: c :: d :: r, _ => rfl
theorem one_rel (s : ByteArray) :
    ((oneP s).2.2.2 = true ∧ ∃ R, refOne s.data.toList = some R ∧ okRule R = true ∧ toP R = ⟨(oneP s).1, (oneP s).2.1, (oneP s).2.2.1⟩) ∨
    ((oneP s).2.2.2 = false ∧ (refOne s.data.toList = none ∨ ∃ R, refOne s.data.toList = some R ∧ okRule R = false)) := by
  have hl := size_list s
  have hs1 : (⟨#[58]⟩ : ByteArray).size = 1 := rfl
  by_cases hsz : s.size < 2
  · right
    have hp : (parts3 s).length ≠ 3 := by
      unfold parts3
      have := Lib.splitB_length_le ⟨#[58]⟩ 0 (min 3 (s.size + 1) - 1) s
      omega
    rw [oneP_short rfl hp]
    refine ⟨rfl, .inl ?_⟩
    exact one_short (by omega)
  · have hk : min 3 (s.size + 1) - 1 = 2 := by omega
    rcases ix_cases s.data.toList 58 with h1 | ⟨i, hi, h1⟩
    · right
      have hp : parts3 s = [s] := by unfold parts3; rw [hk, Lib.splitB_miss _ _ _ _ (by rw [ixB, h1])]
      rw [oneP_short hp (by simp)]
      refine ⟨rfl, .inl ?_⟩
      have hn := no58 h1
      generalize s.data.toList = L at *
      match L, hn with
      | [], _ => rfl
      | [a], _ => rfl
      | a :: b :: r, hn =>
        rw [refOne_cons, if_neg]
        rintro ⟨_, hb, _⟩
        subst hb
        simp at hn
    · have hp : parts3 s = s.extract 0 (i + 0) :: Lib.splitB ⟨#[58]⟩ 0 1 (s.extract (i + 1) s.size) := by
        unfold parts3; rw [hk, Lib.splitB_hit _ _ _ _ i (by rw [ixB, h1])]; rfl
      have e2 : (s.extract (i + 1) s.size).data.toList = s.data.toList.drop (i + 1) := by rw [Lib.extract_to_end]
      rcases ix_cases (s.extract (i + 1) s.size).data.toList 58 with h2 | ⟨j, hj, h2⟩
      · right
        rw [Lib.splitB_miss _ _ _ _ (by rw [ixB, h2])] at hp
        rw [oneP_short hp (by simp)]
        refine ⟨rfl, .inl ?_⟩
        by_cases hi1 : i = 1
        · subst hi1
          rw [e2] at h2
          have hn := no58 h2
          generalize s.data.toList = L at *
          match L, hn with
          | [], _ => rfl
          | [a], _ => rfl
          | a :: b :: r, hn =>
            rw [refOne_cons, if_neg]
            rintro ⟨_, _, hc⟩
            simp only [List.drop_succ_cons, List.drop_zero] at hn
            rw [hn] at hc
            cases hc
        · exact one_of_ix0 hi h1 hi1
      · rw [Lib.splitB_hit _ _ _ _ j (by rw [ixB, h2])] at hp
        have x1 : (s.extract 0 (i + 0)).data.toList = s.data.toList.take i := by rw [Lib.extract_data]; simp
        have hx2 := e2
        generalize hs2 : s.extract (i + 1) s.size = s2 at *
        have x3 : (s2.extract 0 (j + 0)).data.toList = s2.data.toList.take j := by rw [Lib.extract_data]; simp
        have x4 : (s2.extract (j + (⟨#[58]⟩ : ByteArray).size) s2.size).data.toList = s2.data.toList.drop (j + 1) := by rw [Lib.extract_to_end]; rfl
        have ho : oneP s = if (s.extract 0 (i + 0)).data.toList = [97] ∨ (s.extract 0 (i + 0)).data.toList = [100] then (decide ((s.extract 0 (i + 0)).data.toList = [97]), s2.extract 0 (j + 0), s2.extract (j + (⟨#[58]⟩ : ByteArray).size) s2.size, kFrom (s2.extract 0 (j + 0)).data.toList (-1) && whoL (s2.extract (j + (⟨#[58]⟩ : ByteArray).size) s2.size).data.toList) else (false, ⟨#[]⟩, ⟨#[]⟩, false) := by
          unfold oneP
          rw [hp]
          rfl
        generalize s2.extract 0 (j + 0) = y at *
        generalize s2.extract (j + (⟨#[58]⟩ : ByteArray).size) s2.size = z at *
        rw [x1] at ho
        by_cases hi1 : i = 1
        · subst hi1
          have h58 := (Lib.indexByte_some h1).1
          have hL2 : s2.data.toList = s.data.toList.drop 2 := hx2
          obtain ⟨c1, c2, c3⟩ := cut_colon s2.data.toList j (Lib.indexByte_some h2).1 (no58t h2)
          rw [hL2] at c1 c2 c3 x3 x4
          have hy : ofL ((s.data.toList.drop 2).take j) = y := (ext_of x3).symm
          have hzz : ofL ((s.data.toList.drop 2).drop (j + 1)) = z := (ext_of x4).symm
          clear x1 x3 x4 hp h1 h2 hx2 hL2 e2 hj
          generalize s.data.toList = L at *
          match L, h58 with
          | [], h58 => simp at h58
          | [a], h58 => simp at h58
          | a :: b :: r, h58 =>
            simp only [List.getElem?_cons_succ, List.getElem?_cons_zero, Option.some.injEq] at h58
            subst h58
            simp only [List.drop_succ_cons, List.drop_zero, List.take_succ_cons, List.take_zero, List.cons.injEq, and_true] at c1 c2 c3 hy hzz ho
            by_cases ha : a = 97 ∨ a = 100
            · have hr : refOne (a :: 58 :: r) = some ⟨decide (a = 97), y, z⟩ := by
                rw [refOne_cons, if_pos ⟨ha, rfl, c1⟩, c2, c3, hy, hzz]
              rw [if_pos ha] at ho
              rw [ho, hr]
              simp only
              cases hok : kFrom y.data.toList (-1) && whoL z.data.toList
              · right
                refine ⟨rfl, .inr ⟨_, rfl, ?_⟩⟩
                unfold okRule
                rw [← km]
                exact hok
              · left
                refine ⟨rfl, _, rfl, ?_, rfl⟩
                unfold okRule
                rw [← km]
                exact hok
            · rw [if_neg ha] at ho
              rw [ho]
              right
              refine ⟨rfl, .inl ?_⟩
              rw [refOne_cons, if_neg (fun h => ha h.1)]
        · right
          have hne : ¬ (s.data.toList.take i = [97] ∨ s.data.toList.take i = [100]) := by
            intro h
            have hlen : (s.data.toList.take i).length = 1 := by rcases h with h | h <;> rw [h] <;> rfl
            rw [List.length_take] at hlen
            omega
          rw [if_neg hne] at ho
          rw [ho]
          exact ⟨rfl, .inl (one_of_ix0 hi h1 hi1)⟩
/-! ### reading -/
theorem goRef_app : ∀ (ts : List (List UInt8)) (acc l : List S35), goRef acc ts = some l → ∃ rs, l = acc ++ rs ∧ rs.length = ts.length
  | [], acc, l, h => ⟨[], by simp only [goRef, Option.some.injEq] at h; simp [h], rfl⟩
  | t :: ts, acc, l, h => by
    unfold goRef at h
    cases hr : refOne t with
    | none => rw [hr] at h; cases h
    | some R =>
      rw [hr] at h
      obtain ⟨rs, e, hlen⟩ := goRef_app ts _ l h
      exact ⟨R :: rs, by rw [e]; simp, by simp [hlen]⟩
theorem go_rel : ∀ (xs : List ByteArray) (acc : List S35), acc.length ≤ 32 → acc.all okRule = true →
    goRead (acc.map toP) xs = match goRef acc (xs.map (·.data.toList)) with
      | none => none
      | some l => if rightW l then some (l.map toP) else none
  | [], acc, h32, hok => by
    have : rightW acc = true := by unfold rightW; rw [hok, decide_eq_true h32]; rfl
    simp [goRead, goRef, this]
  | x :: xs, acc, h32, hok => by
    have bad : ∀ R, (okRule R = false ∨ acc.length = 32) → (match goRef (acc ++ [R]) (xs.map (·.data.toList)) with
      | none => none
      | some l => if rightW l then some (l.map toP) else none) = none := by
      intro R hR
      cases hg : goRef (acc ++ [R]) (xs.map (·.data.toList)) with
      | none => rfl
      | some l =>
        obtain ⟨rs, e, _⟩ := goRef_app _ _ _ hg
        have : rightW l = false := by
          unfold rightW
          rcases hR with hR | hR
          · rw [e]; simp [hR]
          · rw [decide_eq_false (by rw [e]; simp; omega)]; rfl
        simp [this]
    simp only [List.map_cons]
    unfold goRead goRef
    rcases one_rel x with ⟨h1, R, h2, h3, h4⟩ | ⟨h1, h2⟩
    · rw [h2]
      simp only
      by_cases hlen : acc.length = 32
      · rw [if_pos (.inr (by rw [List.length_map]; exact hlen)), bad R (.inr hlen)]
      · rw [if_neg (by rw [h1, List.length_map]; rintro (h | h); cases h; exact hlen h), ← h4]
        have ih := go_rel xs (acc ++ [R]) (by simp; omega) (by simp [hok, h3])
        rw [List.map_append] at ih
        exact ih
    · rw [if_pos (.inl h1)]
      rcases h2 with h2 | ⟨R, h2, h3⟩
      · rw [h2]
      · rw [h2]
        simp only
        rw [bad R (.inl h3)]
theorem read_rel (s : ByteArray) : readP s = ((refRead s.data.toList).1.map toP, (refRead s.data.toList).2) := by
  unfold readP refRead
  by_cases h : s.data.toList = []
  · rw [if_pos h, if_pos h]; rfl
  · rw [if_neg h, if_neg h]
    have hg := go_rel (semiF s.size s) [] (by simp) rfl
    rw [semi_pieces s.size s (Nat.le_refl _)] at hg
    rw [show ([] : List S35).map toP = [] from rfl] at hg
    rw [hg]
    cases goRef [] (piecesL [] s.data.toList) with
    | none => rfl
    | some l =>
      simp only [refOut]
      cases rightW l <;> rfl

/-! ### there and back -/
theorem low59 {l : List UInt8} (h : l.all isLow = true) : l.contains 59 = false := by
  rw [Bool.eq_false_iff]
  intro hc
  rw [List.contains_iff_mem] at hc
  have := List.all_eq_true.1 h 59 hc
  revert this
  decide
theorem user59 {l : List UInt8} (h : userL l = true) : l.contains 59 = false := by
  unfold userL at h
  rw [Bool.and_eq_true] at h
  exact low59 h.2
theorem app59 {a b : List UInt8} (ha : a.contains 59 = false) (hb : b.contains 59 = false) : (a ++ b).contains 59 = false := by
  rw [Bool.eq_false_iff] at ha hb ⊢
  intro h
  rw [List.contains_iff_mem] at h
  rcases List.mem_append.1 h with h | h
  · exact ha (List.contains_iff_mem.2 h)
  · exact hb (List.contains_iff_mem.2 h)
theorem cons59 {c : UInt8} {b : List UInt8} (hc : c ≠ 59) (hb : b.contains 59 = false) : (c :: b).contains 59 = false := by
  rw [List.contains_cons, hb, Bool.or_false]
  exact beq_eq_false_iff_ne.mpr (Ne.symm hc)
theorem who59 {l : List UInt8} (h : whoL l = true) : l.contains 59 = false := by
  unfold whoL at h
  cases hst : starL l
  · rw [hst] at h
    simp only [Bool.false_eq_true, if_false, Bool.or_eq_true, decide_eq_true_eq] at h
    rcases h with h | h
    · unfold okL at h
      simp only [Bool.and_eq_true, Bool.or_eq_true] at h
      rw [pre_post l]
      refine app59 (user59 h.1) ?_
      cases hh : hasL l
      · rfl
      · rw [hh] at h
        have h2 : userL (postL l) = true := by simpa using h.2
        exact cons59 (by decide) (user59 h2)
    · unfold stateIx at h
      by_cases a1 : l = [64, 110, 111, 110, 101]
      · subst a1; decide
      · by_cases a2 : l = [64, 116, 111]
        · subst a2; decide
        · by_cases a3 : l = [64, 102, 114, 111, 109]
          · subst a3; decide
          · by_cases a4 : l = [64, 98, 111, 116, 104]
            · subst a4; decide
            · rw [if_neg a1, if_neg a2, if_neg a3, if_neg a4] at h; omega
  · rw [hst] at h
    simp only [if_true, Bool.or_eq_true, decide_eq_true_eq] at h
    obtain ⟨q, rfl⟩ := (star_iff l).1 hst
    rw [List.dropLast_concat] at h
    refine app59 ?_ (by decide)
    rcases h with h | h
    · rw [h]; rfl
    · exact user59 h
theorem kinds59 {l : List UInt8} (h : kindsL l = true) : l.contains 59 = false ∧ l.contains 58 = false := by
  unfold kindsL at h
  have h := of_decide_eq_true h
  simp only [List.mem_cons, List.not_mem_nil, or_false] at h
  rcases h with rfl | rfl | rfl | rfl | rfl | rfl | rfl | rfl <;> decide
theorem ok_parts {x : S35} (h : okRule x = true) : kindsL x.f1.data.toList = true ∧ whoL x.f2.data.toList = true := by
  unfold okRule at h
  rwa [Bool.and_eq_true] at h
theorem wl59 {x : S35} (h : okRule x = true) : (wl x).contains 59 = false := by
  obtain ⟨h1, h2⟩ := ok_parts h
  unfold wl
  refine cons59 (by cases x.f0 <;> decide) (cons59 (by decide) (app59 (kinds59 h1).1 (cons59 (by decide) (who59 h2))))
theorem one_wl {x : S35} (h : okRule x = true) : refOne (wl x) = some x := by
  obtain ⟨h1, _⟩ := ok_parts h
  have hc := (kinds59 h1).2
  unfold wl
  obtain ⟨c1, c2, c3⟩ := cut_colon (x.f1.data.toList ++ 58 :: x.f2.data.toList) x.f1.data.toList.length (by simp) (by rw [List.take_left]; exact hc)
  have ha : (if x.f0 then (97 : UInt8) else 100) = 97 ∨ (if x.f0 then (97 : UInt8) else 100) = 100 := by cases x.f0 <;> simp
  rw [refOne_cons, if_pos ⟨ha, rfl, c1⟩, c2, c3, List.take_left]
  have e : (x.f1.data.toList ++ 58 :: x.f2.data.toList).drop (x.f1.data.toList.length + 1) = x.f2.data.toList := by
    rw [List.drop_append]
    simp
  rw [e, ofL_eq, ofL_eq]
  cases hx : x.f0 <;> simp [← hx]
theorem go_wl : ∀ (l acc : List S35), l.all okRule = true → goRef acc (l.map wl) = some (acc ++ l)
  | [], acc, _ => by simp [goRef]
  | x :: l, acc, h => by
    rw [List.all_cons, Bool.and_eq_true] at h
    rw [List.map_cons]
    unfold goRef
    rw [one_wl h.1]
    simp only
    rw [go_wl l _ h.2]
    simp
theorem read_text {y : List S35} (h : rightW y = true) : refRead (Lib.join (y.map wl) [59]) = (y, 0) := by
  have hall : y.all okRule = true := by unfold rightW at h; rw [Bool.and_eq_true] at h; exact h.2
  cases y with
  | nil => rfl
  | cons x l =>
    have hj : Lib.join ((x :: l).map wl) [59] ≠ [] := by
      rw [List.map_cons, Lib.join_cons]
      unfold wl
      simp
    unfold refRead
    rw [if_neg hj, List.map_cons, join_pieces (l.map wl) (wl x) (by
      intro q hq
      rw [← List.map_cons] at hq
      obtain ⟨r, hr, rfl⟩ := List.mem_map.1 hq
      exact wl59 (List.all_eq_true.1 hall r hr)), ← List.map_cons, go_wl (x :: l) [] hall]
    simp only [refOut, List.nil_append]
    rw [if_pos h]
theorem take_colon : ∀ (r : List UInt8), r.contains 58 = true → r.takeWhile (· != 58) ++ 58 :: (r.dropWhile (· != 58)).tail = r
  | [], h => by simp at h
  | c :: r, h => by
    by_cases hc : c = 58
    · subst hc; simp
    · have hb : (c != 58) = true := bne_iff_ne.mpr hc
      rw [List.takeWhile_cons_of_pos (p := fun x => x != 58) hb, List.dropWhile_cons_of_pos (p := fun x => x != 58) hb, List.cons_append]
      rw [List.contains_cons, beq_eq_false_iff_ne.mpr (Ne.symm hc), Bool.false_or] at h
      rw [take_colon r h]
theorem wl_one {t : List UInt8} {R : S35} (h : refOne t = some R) : wl R = t := by
  match t with
  | [] => cases h
  | [a] => cases h
  | a :: b :: r =>
    rw [refOne_cons] at h
    split at h
    · rename_i hc
      obtain ⟨ha, hb, hr⟩ := hc
      have h := Option.some.inj h
      subst h
      subst hb
      unfold wl
      simp only [ofL_data]
      rw [take_colon r hr]
      rcases ha with rfl | rfl <;> simp
    · cases h
theorem go_back : ∀ (ts : List (List UInt8)) (acc l : List S35), goRef acc ts = some l → ∃ rs, l = acc ++ rs ∧ rs.map wl = ts
  | [], acc, l, h => ⟨[], by simp only [goRef, Option.some.injEq] at h; simp [h], rfl⟩
  | t :: ts, acc, l, h => by
    unfold goRef at h
    cases hr : refOne t with
    | none => rw [hr] at h; cases h
    | some R =>
      rw [hr] at h
      obtain ⟨rs, e, hm⟩ := go_back ts _ l h
      exact ⟨R :: rs, by rw [e]; simp, by rw [List.map_cons, hm, wl_one hr]⟩
theorem text_read {L : List UInt8} (h : (refRead L).2 = 0) : rightW (refRead L).1 = true ∧ Lib.join ((refRead L).1.map wl) [59] = L := by
  unfold refRead at h ⊢
  by_cases hL : L = []
  · rw [if_pos hL]
    subst hL
    exact ⟨rfl, rfl⟩
  · rw [if_neg hL] at h ⊢
    cases hg : goRef [] (piecesL [] L) with
    | none => rw [hg] at h; simp [refOut] at h
    | some l =>
      rw [hg] at h
      simp only [refOut] at h ⊢
      cases hr : rightW l
      · rw [hr] at h; simp at h
      · simp only [if_true]
        refine ⟨hr, ?_⟩
        obtain ⟨rs, e, hm⟩ := go_back _ _ _ hg
        rw [List.nil_append] at e
        subst e
        rw [hm]
        obtain ⟨p, ps, e1, e2⟩ := pieces_join L []
        rw [e1, e2, List.nil_append]
theorem ref_err (L : List UInt8) : (refRead L).2 = 0 ∨ ((refRead L).2 = 3 ∧ (refRead L).1 = []) := by
  unfold refRead
  by_cases hL : L = []
  · rw [if_pos hL]; exact .inl rfl
  · rw [if_neg hL]
    cases goRef [] (piecesL [] L) with
    | none => exact .inr ⟨rfl, rfl⟩
    | some l =>
      simp only [refOut]
      cases rightW l
      · exact .inr ⟨rfl, rfl⟩
      · exact .inl rfl
theorem text_back {s : ByteArray} (h : (refRead s.data.toList).2 = 0) : okP ((refRead s.data.toList).1.map toP) = true ∧ joinP ((refRead s.data.toList).1.map toP) = s := by
  obtain ⟨h1, h2⟩ := text_read h
  refine ⟨by rw [ok_toP]; exact h1, ?_⟩
  rw [join_txt]
  have : (txtFrom (refRead s.data.toList).1 ⟨#[]⟩ true).data.toList = s.data.toList := by rw [txt_join]; exact h2
  exact ByteArray.ext (Array.toList_inj.mp this)
theorem back_text {y : List S35} (h : rightW y = true) : readP (joinP (y.map toP)) = (y.map toP, 0) := by
  rw [read_rel, join_txt, txt_join, read_text h]
theorem text_size {y : List S35} (h : rightW y = true) : (joinP (y.map toP)).size ≤ 1280 := by
  have hall : y.all okRule = true := by unfold rightW at h; rw [Bool.and_eq_true] at h; exact h.2
  have hlen : y.length ≤ 32 := by unfold rightW at h; rw [Bool.and_eq_true] at h; exact of_decide_eq_true h.1
  have key : ∀ l : List S35, l.all okRule = true → (Lib.joinTail [59] (l.map wl)).length ≤ 40 * l.length := by
    intro l
    induction l with
    | nil => intro _; simp [Lib.joinTail]
    | cons x l ih =>
      intro h
      rw [List.all_cons, Bool.and_eq_true] at h
      have h1 := ih h.2
      have h2 := word_size (x := toP x) (by rw [right_toP]; exact h.1)
      rw [← size_list, word_wl] at h2
      simp only [Lib.joinTail, List.map_cons, List.flatten_cons, List.length_append, List.length_cons, List.length_nil] at h1 h2 ⊢
      omega
  rw [← size_list, join_txt, txt_join]
  cases y with
  | nil => simp [Lib.join_nil]
  | cons x l =>
    rw [List.all_cons, Bool.and_eq_true] at hall
    have h1 := key l hall.2
    have h2 := word_size (x := toP x) (by rw [right_toP]; exact hall.1)
    rw [← size_list, word_wl] at h2
    rw [List.map_cons, Lib.join_cons, List.length_append]
    simp only [List.length_cons] at hlen
    omega
end Go.Proofs.YtajndnaeknfogaaDoor.Q

namespace Go.Proofs.YtajndnaeknfogaaDoor.Q
open Go.RowKit Go.Proofs.YtajndnaeknfogaaDoorW.PrintWords Go.Proofs.YtajndnaeknfogaaDoorW.PrintLast Go.Proofs.YtajndnaeknfogaaDoorW.PrintMore
attribute [local go_sem] max2_int min2_int max_two min_two max_three min_three max_four min_four
set_option linter.unusedVariables false
set_option linter.unusedSimpArgs false

theorem as_from (l : List S35) (hl : l.length ≤ 40) : ∀ (n k : Nat), k + n = l.length → Ev (fun q => tidewaterlaw24_as.l0 q (l.map toP) (l.take k) k) l := by
  intro n
  induction n with
  | zero =>
    intro k hk
    refine Ev.step (fun q => tidewaterlaw24_as.l0.eq_2 ..) ?_
    refine Ev.no (by rw [List.length_map]; omega) ?_
    rw [List.take_of_length_le (by omega)]
    exact Ev.now _
  | succ n ih =>
    intro k hk
    have hlt : k < l.length := by omega
    have hm : k < (l.map toP).length := by simpa using hlt
    refine Ev.step (fun q => tidewaterlaw24_as.l0.eq_2 ..) ?_
    refine Ev.yes (by rw [List.length_map]; omega) (Ev.yes (by omega) (Ev.yes (by rw [List.length_take]; omega) ?_))
    rw [wrap_next hlt (by omega), rd_T37_at hm]
    have := ih (k + 1) (by omega)
    rw [List.take_succ_eq_append_getElem hlt] at this
    have e : (⟨((l.map toP)[k]).f0, ((l.map toP)[k]).f1, ((l.map toP)[k]).f2⟩ : S35) = l[k] := by simp [toP]
    rw [e]
    exact this
theorem as_ev (l : List S35) (hl : l.length ≤ 40) : Ev (fun q => tidewaterlaw24_as.f q (l.map toP)) l := by
  have := as_from l hl l.length 0 (by omega)
  simpa [tidewaterlaw24_as.f] using this
theorem same_from (l : List S35) (hl : l.length ≤ 40) : ∀ (n k : Nat), k + n = l.length → Ev (fun q => tidewaterlaw24_same.l0 q l l k) true := by
  intro n
  induction n with
  | zero =>
    intro k hk
    refine Ev.step (fun q => tidewaterlaw24_same.l0.eq_2 ..) ?_
    exact Ev.no (by omega) (Ev.now _)
  | succ n ih =>
    intro k hk
    refine Ev.step (fun q => tidewaterlaw24_same.l0.eq_2 ..) ?_
    refine Ev.yes (by omega) (Ev.yes (by omega) (Ev.yes (by omega) (Ev.no (by simp) ?_)))
    rw [wrap_next (show k < l.length by omega) (by omega)]
    exact ih (k + 1) (by omega)
theorem same_ev (l : List S35) (hl : l.length ≤ 40) : Ev (fun q => tidewaterlaw24_same.f q l l) true := by
  unfold tidewaterlaw24_same.f
  refine Ev.yes rfl ?_
  exact same_from l hl l.length 0 (by omega)
theorem drawn_below {W W' : World} (h : Drawn0 W W') : Below W.heap.size W W' := by
  obtain ⟨n, rfl⟩ := h
  exact pw_below_drewN (Below.refl _ _) n
theorem fineP_of {l : List S35} (h : ∀ x ∈ l, x.f2.size ≤ 9223372036854775807) : fineP (l.map toP) = true := by
  unfold fineP
  rw [List.all_eq_true]
  intro q hq
  obtain ⟨x, hx, rfl⟩ := List.mem_map.1 hq
  exact decide_eq_true (h x hx)
theorem write_P {y : List S35} (hy : FitR y) : rules_Write.f (y.map toP) = some (if rightW y then (joinP (y.map toP), 0) else (⟨#[]⟩, 3)) := by
  unfold rules_Write.f
  rw [if_pos (fineP_of fun x hx => (hy x hx).2), ok_toP]
theorem write_R {y : List S35} (hy : FitR y) : tidewaterref24_Write.f y = some (if rightW y then (joinP (y.map toP), 0) else (⟨#[]⟩, 3)) := by
  unfold tidewaterref24_Write.f
  rw [if_pos (by unfold fineW; rw [List.all_eq_true]; intro x hx; exact decide_eq_true (hy x hx).2), join_txt]

set_option maxHeartbeats 4000000 in
set_option maxRecDepth 100000 in
theorem texts_calls (s0 : ByteArray) (A0 : Option Addr) (c0 : Nat) (l0 : List S35) (w : World) (hr0 : Kd.C k35 w A0 l0.length l0) (hc0 : l0.length ≤ c0) (hfit : FitR l0) (hs0 : s0.size ≤ 9223372036854775807) :
    Calls Tryd.prog 7 #[.string s0, .slice A0 l0.length c0] w fun e w' => e = .returned (.bool true) ∧ Below w.heap.size w w' := by
  obtain ⟨y, hy⟩ : ∃ y, y = l0.take (min l0.length 40) := ⟨_, rfl⟩
  have hylen : y.length = min l0.length 40 := by rw [hy, List.length_take]; omega
  have hfy : FitR y := fun x hx => hfit x (List.mem_of_mem_take (by rw [hy] at hx; exact hx))
  have hcy : Kd.C k35 w A0 y.length y := by rw [hy]; exact Kd.C_take hr0 (by omega)
  have hcut : ∀ W : World, (Instr.slice 22 (.slice A0 l0.length c0) none (some (.int .i64 (y.length : Int))) none).run Tryd.prog W = .ok (.slice A0 y.length c0) W := by
    obtain ⟨i0, hi, _⟩ := info_parts info35
    intro W
    have := cut_to (P := Tryd.prog) 22 35 .i64 Tryd.underlying22 hi A0 l0.length c0 (y.length : Int) (by omega) (by omega) hc0 W
    simpa using this
  have hmin : (if (40 : Int) < (l0.length : Int) then (40 : Int) else (l0.length : Int)) = (y.length : Int) := by rw [hylen]; split <;> omega
  have hyc : y.length ≤ c0 := by omega
  have hy40 : y.length ≤ 40 := by omega
  obtain ⟨m, hm⟩ : ∃ m, m = min s0.size 600 := ⟨_, rfl⟩
  have hmin2 : (if (600 : Int) < (s0.size : Int) then (600 : Int) else (s0.size : Int)) = (m : Int) := by rw [hm]; split <;> omega
  have hm0 : (0 : Int) ≤ (m : Int) := by omega
  have hm1 : (m : Int) ≤ (s0.size : Int) := by omega
  obtain ⟨T, hT⟩ : ∃ T, s0.extract 0 m = T := ⟨_, rfl⟩
  have htz : T.size ≤ 600 := by rw [← hT, ← size_list, Lib.extract_data, List.length_take, List.length_drop, size_list]; omega
  clear hylen hr0 hfit hm hy
  have hRead1 : rules_Read.f T = some ((refRead T.data.toList).1.map toP, (refRead T.data.toList).2) := by unfold rules_Read.f; rw [if_pos (by omega), read_rel]
  have hRef1 : tidewaterref24_Read.f T = some ((refRead T.data.toList).1, (refRead T.data.toList).2) := by unfold tidewaterref24_Read.f; rw [if_pos (by omega)]
  have hB40 : (refRead T.data.toList).1.length ≤ 40 ∧ FitR (refRead T.data.toList).1 := by
    rcases ref_err T.data.toList with h | ⟨_, h⟩
    · have h1 := (text_read h).1
      have := (right_rules h1).2.1
      exact ⟨by omega, right_fit h1⟩
    · rw [h]; exact ⟨by simp, fun x hx => by cases hx⟩
  have hW3 : ∃ D, rules_Write.f ((refRead T.data.toList).1.map toP) = some (D, 0) ∧ ((refRead T.data.toList).2 = 0 → D = T) := by
    rw [write_P hB40.2]
    rcases ref_err T.data.toList with h | ⟨h1, h⟩
    · refine ⟨_, by rw [if_pos (text_read h).1], fun _ => (text_back h).2⟩
    · rw [h1, h]; exact ⟨_, rfl, fun h => by cases h⟩
  obtain ⟨D, hW3, hD⟩ := hW3
  obtain ⟨ka, hka⟩ := (as_ev _ hB40.1).rounds
  obtain ⟨ks, hks⟩ := (same_ev _ hB40.1).rounds
  have he : (refRead T.data.toList).2 = 0 ∨ (refRead T.data.toList).2 = 3 := by
    rcases ref_err T.data.toList with h | ⟨h, _⟩
    · exact .inl h
    · exact .inr h
  clear hB40
  generalize (refRead T.data.toList).2 = e1 at *
  generalize (refRead T.data.toList).1 = B at *
  obtain ⟨kb, hkb⟩ := (back_ev y hy40).rounds
  obtain ⟨kx, hkx⟩ := (as_ev y hy40).rounds
  obtain ⟨kt, hkt⟩ := (same_ev y hy40).rounds
  have hW1 := write_P hfy
  have hW2 := write_R hfy
  have hback : rightW y = true → rules_Read.f (joinP (y.map toP)) = some (y.map toP, 0) := fun h => by
    unfold rules_Read.f; rw [if_pos (by have := text_size h; omega), back_text h]
  have hnone : rules_Read.f ⟨#[]⟩ = some ([], 0) := by unfold rules_Read.f; rw [if_pos (by decide)]; rfl
  generalize joinP (y.map toP) = C at *
  generalize y.map toP = P at *
  generalize B.map toP = a37 at *
  have HY := Aside0.mk hcy
  have RA := Aside0.mk hRead1
  have RB := Aside0.mk hRef1
  have KB := Aside0.mk hkb
  have W3 := Aside0.mk hW3
  have KA := Aside0.mk hka
  have KS := Aside0.mk hks
  have KX := Aside0.mk hkx
  have KT := Aside0.mk hkt
  have HD := Aside0.mk hD
  have HBK := Aside0.mk hback
  have HNN := Aside0.mk hnone
  have HB := Aside0.mk (Below.refl w.heap.size w)
  clear hcy hRead1 hRef1 hkb hW3 hka hks hkx hkt hD hback hnone htz hfy
  cases hr : rightW y
  · rw [hr] at hW1 hW2
    have W1 := Aside0.mk hW1
    have W2 := Aside0.mk hW2
    have RC := HNN
    clear hW1 hW2 hr HNN HBK
    rcases he with rfl | rfl
    · skip
      have hDT := HD.out rfl
      subst hDT
      clear HD
      go_enter Tryd.func7, Tryd.ntmps7
      go_wp2_with (go_at_call 8; refine (tidewaterlaw24_lives.calls true _ rfl).mono ?_; rintro e WL ⟨rfl, hb⟩; have HB := Aside0.mk (below_step HB.out hb); have HY := Aside0.mk (Kd.C_below HY.out hb); clear hb)
      go_quiet (fail)
      have HY := Aside0.mk (Kd.C_below HY.out (pw_below_drewN (Below.refl _ WL) nq))
      have HB := Aside0.mk (pw_below_drewN HB.out nq)
      generalize WL.drewN nq = WQ at *
      go_wp2_with (first | (go_at_call 17; refine (rules_Read.calls D a37 0 _ RA.out).mono ?_; clear RA; rintro e W ⟨v3, rfl, ho, hb⟩; have HB := Aside0.mk (below_step HB.out hb); have HY := Aside0.mk (Kd.C_below HY.out hb); obtain ⟨A3, c3, e_⟩ := Kd.R_slice ho; subst e_; have HAL := Aside0.mk (Kd.R_reads' ho).2.1; have HA := Aside0.mk (Kd.R_reads' ho).2.2; clear ho; clear hb) | (go_at_call 18; refine (tidewaterref24_Read.calls D B 0 _ RB.out).mono ?_; clear RB; rintro e W ⟨v4, rfl, ho, hb⟩; have HB := Aside0.mk (below_step HB.out hb); have HY := Aside0.mk (Kd.C_below HY.out hb); have HA := Aside0.mk (Kd.C_below HA.out hb); obtain ⟨A4, c4, e_⟩ := Kd.R_slice ho; subst e_; have HBBL := Aside0.mk (Kd.R_reads' ho).2.1; have HBB := Aside0.mk (Kd.R_reads' ho).2.2; clear ho; clear hb) | (go_at_call 12; refine (tidewaterlaw24_back.calls kb A0 c0 y P _ HY.out hyc KB.out).mono ?_; clear KB; rintro e W ⟨v5, rfl, ho, hb⟩; have HB := Aside0.mk (below_step HB.out hb); have HY := Aside0.mk (Kd.C_below HY.out hb); have HA := Aside0.mk (Kd.C_below HA.out hb); have HBB := Aside0.mk (Kd.C_below HBB.out hb); obtain ⟨A5, c5, e_⟩ := Kd.R_slice ho; subst e_; have HPL := Aside0.mk (Kd.R_reads' ho).2.1; have HP := Aside0.mk (Kd.R_reads' ho).2.2; clear ho; clear hb) | (go_at_call 19; refine (rules_Write.calls A5 c5 P ⟨#[]⟩ 3 _ HP.out HPL.out W1.out).mono ?_; clear W1; rintro e W ⟨rfl, hb⟩; have HB := Aside0.mk (below_step HB.out hb); have HY := Aside0.mk (Kd.C_below HY.out hb); have HA := Aside0.mk (Kd.C_below HA.out hb); have HBB := Aside0.mk (Kd.C_below HBB.out hb); clear hb) | (go_at_call 20; refine (tidewaterref24_Write.calls A0 c0 y ⟨#[]⟩ 3 _ HY.out hyc W2.out).mono ?_; clear W2; rintro e W ⟨rfl, hb⟩; have HB := Aside0.mk (below_step HB.out hb); have HY := Aside0.mk (Kd.C_below HY.out hb); have HA := Aside0.mk (Kd.C_below HA.out hb); have HBB := Aside0.mk (Kd.C_below HBB.out hb); clear hb) | (go_at_call 17; refine (rules_Read.calls ⟨#[]⟩ ([] : List S37) 0 _ RC.out).mono ?_; clear RC; rintro e W ⟨v6, rfl, ho, hb⟩; have HB := Aside0.mk (below_step HB.out hb); have HY := Aside0.mk (Kd.C_below HY.out hb); have HA := Aside0.mk (Kd.C_below HA.out hb); have HBB := Aside0.mk (Kd.C_below HBB.out hb); obtain ⟨A6, c6, e_⟩ := Kd.R_slice ho; subst e_; have HXL := Aside0.mk (Kd.R_reads' ho).2.1; have HX := Aside0.mk (Kd.R_reads' ho).2.2; clear ho; clear hb) | (go_at_call 19; refine (rules_Write.calls A3 c3 a37 D 0 _ HA.out HAL.out W3.out).mono ?_; clear W3; rintro e W ⟨rfl, hb⟩; have HB := Aside0.mk (below_step HB.out hb); have HY := Aside0.mk (Kd.C_below HY.out hb); have HA := Aside0.mk (Kd.C_below HA.out hb); have HBB := Aside0.mk (Kd.C_below HBB.out hb); have HX := Aside0.mk (Kd.C_below HX.out hb); clear hb) | (go_at_call 22; refine (tidewaterlaw24_as.calls ka A3 c3 a37 B _ HA.out HAL.out KA.out).mono ?_; clear KA; rintro e W ⟨v7, rfl, ho, hb⟩; have HB := Aside0.mk (below_step HB.out hb); have HY := Aside0.mk (Kd.C_below HY.out hb); have HBB := Aside0.mk (Kd.C_below HBB.out hb); have HX := Aside0.mk (Kd.C_below HX.out hb); obtain ⟨A7, c7, e_⟩ := Kd.R_slice ho; subst e_; have HSL := Aside0.mk (Kd.R_reads' ho).2.1; have HS := Aside0.mk (Kd.R_reads' ho).2.2; clear ho; clear hb) | (go_at_call 21; refine (tidewaterlaw24_same.calls ks A7 c7 B A4 c4 B true _ HS.out HSL.out HBB.out HBBL.out KS.out).mono ?_; clear KS; rintro e W ⟨rfl, hd⟩; have hb := drawn_below hd; have HB := Aside0.mk (below_step HB.out hb); clear hb hd))
      go_ret
      exact ⟨rfl, HB.out⟩
    · skip
      clear HD
      go_enter Tryd.func7, Tryd.ntmps7
      go_wp2_with (go_at_call 8; refine (tidewaterlaw24_lives.calls true _ rfl).mono ?_; rintro e WL ⟨rfl, hb⟩; have HB := Aside0.mk (below_step HB.out hb); have HY := Aside0.mk (Kd.C_below HY.out hb); clear hb)
      go_quiet (fail)
      have HY := Aside0.mk (Kd.C_below HY.out (pw_below_drewN (Below.refl _ WL) nq))
      have HB := Aside0.mk (pw_below_drewN HB.out nq)
      generalize WL.drewN nq = WQ at *
      go_wp2_with (first | (go_at_call 17; refine (rules_Read.calls T a37 3 _ RA.out).mono ?_; clear RA; rintro e W ⟨v3, rfl, ho, hb⟩; have HB := Aside0.mk (below_step HB.out hb); have HY := Aside0.mk (Kd.C_below HY.out hb); obtain ⟨A3, c3, e_⟩ := Kd.R_slice ho; subst e_; have HAL := Aside0.mk (Kd.R_reads' ho).2.1; have HA := Aside0.mk (Kd.R_reads' ho).2.2; clear ho; clear hb) | (go_at_call 18; refine (tidewaterref24_Read.calls T B 3 _ RB.out).mono ?_; clear RB; rintro e W ⟨v4, rfl, ho, hb⟩; have HB := Aside0.mk (below_step HB.out hb); have HY := Aside0.mk (Kd.C_below HY.out hb); have HA := Aside0.mk (Kd.C_below HA.out hb); obtain ⟨A4, c4, e_⟩ := Kd.R_slice ho; subst e_; have HBBL := Aside0.mk (Kd.R_reads' ho).2.1; have HBB := Aside0.mk (Kd.R_reads' ho).2.2; clear ho; clear hb) | (go_at_call 12; refine (tidewaterlaw24_back.calls kb A0 c0 y P _ HY.out hyc KB.out).mono ?_; clear KB; rintro e W ⟨v5, rfl, ho, hb⟩; have HB := Aside0.mk (below_step HB.out hb); have HY := Aside0.mk (Kd.C_below HY.out hb); have HA := Aside0.mk (Kd.C_below HA.out hb); have HBB := Aside0.mk (Kd.C_below HBB.out hb); obtain ⟨A5, c5, e_⟩ := Kd.R_slice ho; subst e_; have HPL := Aside0.mk (Kd.R_reads' ho).2.1; have HP := Aside0.mk (Kd.R_reads' ho).2.2; clear ho; clear hb) | (go_at_call 19; refine (rules_Write.calls A5 c5 P ⟨#[]⟩ 3 _ HP.out HPL.out W1.out).mono ?_; clear W1; rintro e W ⟨rfl, hb⟩; have HB := Aside0.mk (below_step HB.out hb); have HY := Aside0.mk (Kd.C_below HY.out hb); have HA := Aside0.mk (Kd.C_below HA.out hb); have HBB := Aside0.mk (Kd.C_below HBB.out hb); clear hb) | (go_at_call 20; refine (tidewaterref24_Write.calls A0 c0 y ⟨#[]⟩ 3 _ HY.out hyc W2.out).mono ?_; clear W2; rintro e W ⟨rfl, hb⟩; have HB := Aside0.mk (below_step HB.out hb); have HY := Aside0.mk (Kd.C_below HY.out hb); have HA := Aside0.mk (Kd.C_below HA.out hb); have HBB := Aside0.mk (Kd.C_below HBB.out hb); clear hb) | (go_at_call 17; refine (rules_Read.calls ⟨#[]⟩ ([] : List S37) 0 _ RC.out).mono ?_; clear RC; rintro e W ⟨v6, rfl, ho, hb⟩; have HB := Aside0.mk (below_step HB.out hb); have HY := Aside0.mk (Kd.C_below HY.out hb); have HA := Aside0.mk (Kd.C_below HA.out hb); have HBB := Aside0.mk (Kd.C_below HBB.out hb); obtain ⟨A6, c6, e_⟩ := Kd.R_slice ho; subst e_; have HXL := Aside0.mk (Kd.R_reads' ho).2.1; have HX := Aside0.mk (Kd.R_reads' ho).2.2; clear ho; clear hb) | (go_at_call 19; refine (rules_Write.calls A3 c3 a37 D 0 _ HA.out HAL.out W3.out).mono ?_; clear W3; rintro e W ⟨rfl, hb⟩; have HB := Aside0.mk (below_step HB.out hb); have HY := Aside0.mk (Kd.C_below HY.out hb); have HA := Aside0.mk (Kd.C_below HA.out hb); have HBB := Aside0.mk (Kd.C_below HBB.out hb); have HX := Aside0.mk (Kd.C_below HX.out hb); clear hb) | (go_at_call 22; refine (tidewaterlaw24_as.calls ka A3 c3 a37 B _ HA.out HAL.out KA.out).mono ?_; clear KA; rintro e W ⟨v7, rfl, ho, hb⟩; have HB := Aside0.mk (below_step HB.out hb); have HY := Aside0.mk (Kd.C_below HY.out hb); have HBB := Aside0.mk (Kd.C_below HBB.out hb); have HX := Aside0.mk (Kd.C_below HX.out hb); obtain ⟨A7, c7, e_⟩ := Kd.R_slice ho; subst e_; have HSL := Aside0.mk (Kd.R_reads' ho).2.1; have HS := Aside0.mk (Kd.R_reads' ho).2.2; clear ho; clear hb) | (go_at_call 21; refine (tidewaterlaw24_same.calls ks A7 c7 B A4 c4 B true _ HS.out HSL.out HBB.out HBBL.out KS.out).mono ?_; clear KS; rintro e W ⟨rfl, hd⟩; have hb := drawn_below hd; have HB := Aside0.mk (below_step HB.out hb); clear hb hd))
      go_ret
      exact ⟨rfl, HB.out⟩
  · rw [hr] at hW1 hW2
    have W1 := Aside0.mk hW1
    have W2 := Aside0.mk hW2
    have RC := Aside0.mk (HBK.out hr)
    clear hW1 hW2 hr HNN HBK
    rcases he with rfl | rfl
    · skip
      have hDT := HD.out rfl
      subst hDT
      clear HD
      go_enter Tryd.func7, Tryd.ntmps7
      go_wp2_with (go_at_call 8; refine (tidewaterlaw24_lives.calls true _ rfl).mono ?_; rintro e WL ⟨rfl, hb⟩; have HB := Aside0.mk (below_step HB.out hb); have HY := Aside0.mk (Kd.C_below HY.out hb); clear hb)
      go_quiet (fail)
      have HY := Aside0.mk (Kd.C_below HY.out (pw_below_drewN (Below.refl _ WL) nq))
      have HB := Aside0.mk (pw_below_drewN HB.out nq)
      generalize WL.drewN nq = WQ at *
      go_wp2_with (first | (go_at_call 17; refine (rules_Read.calls D a37 0 _ RA.out).mono ?_; clear RA; rintro e W ⟨v3, rfl, ho, hb⟩; have HB := Aside0.mk (below_step HB.out hb); have HY := Aside0.mk (Kd.C_below HY.out hb); obtain ⟨A3, c3, e_⟩ := Kd.R_slice ho; subst e_; have HAL := Aside0.mk (Kd.R_reads' ho).2.1; have HA := Aside0.mk (Kd.R_reads' ho).2.2; clear ho; clear hb) | (go_at_call 18; refine (tidewaterref24_Read.calls D B 0 _ RB.out).mono ?_; clear RB; rintro e W ⟨v4, rfl, ho, hb⟩; have HB := Aside0.mk (below_step HB.out hb); have HY := Aside0.mk (Kd.C_below HY.out hb); have HA := Aside0.mk (Kd.C_below HA.out hb); obtain ⟨A4, c4, e_⟩ := Kd.R_slice ho; subst e_; have HBBL := Aside0.mk (Kd.R_reads' ho).2.1; have HBB := Aside0.mk (Kd.R_reads' ho).2.2; clear ho; clear hb) | (go_at_call 12; refine (tidewaterlaw24_back.calls kb A0 c0 y P _ HY.out hyc KB.out).mono ?_; clear KB; rintro e W ⟨v5, rfl, ho, hb⟩; have HB := Aside0.mk (below_step HB.out hb); have HY := Aside0.mk (Kd.C_below HY.out hb); have HA := Aside0.mk (Kd.C_below HA.out hb); have HBB := Aside0.mk (Kd.C_below HBB.out hb); obtain ⟨A5, c5, e_⟩ := Kd.R_slice ho; subst e_; have HPL := Aside0.mk (Kd.R_reads' ho).2.1; have HP := Aside0.mk (Kd.R_reads' ho).2.2; clear ho; clear hb) | (go_at_call 19; refine (rules_Write.calls A5 c5 P C 0 _ HP.out HPL.out W1.out).mono ?_; clear W1; rintro e W ⟨rfl, hb⟩; have HB := Aside0.mk (below_step HB.out hb); have HY := Aside0.mk (Kd.C_below HY.out hb); have HA := Aside0.mk (Kd.C_below HA.out hb); have HBB := Aside0.mk (Kd.C_below HBB.out hb); clear hb) | (go_at_call 20; refine (tidewaterref24_Write.calls A0 c0 y C 0 _ HY.out hyc W2.out).mono ?_; clear W2; rintro e W ⟨rfl, hb⟩; have HB := Aside0.mk (below_step HB.out hb); have HY := Aside0.mk (Kd.C_below HY.out hb); have HA := Aside0.mk (Kd.C_below HA.out hb); have HBB := Aside0.mk (Kd.C_below HBB.out hb); clear hb) | (go_at_call 17; refine (rules_Read.calls C P 0 _ RC.out).mono ?_; clear RC; rintro e W ⟨v6, rfl, ho, hb⟩; have HB := Aside0.mk (below_step HB.out hb); have HY := Aside0.mk (Kd.C_below HY.out hb); have HA := Aside0.mk (Kd.C_below HA.out hb); have HBB := Aside0.mk (Kd.C_below HBB.out hb); obtain ⟨A6, c6, e_⟩ := Kd.R_slice ho; subst e_; have HXL := Aside0.mk (Kd.R_reads' ho).2.1; have HX := Aside0.mk (Kd.R_reads' ho).2.2; clear ho; clear hb) | (go_at_call 19; refine (rules_Write.calls A3 c3 a37 D 0 _ HA.out HAL.out W3.out).mono ?_; clear W3; rintro e W ⟨rfl, hb⟩; have HB := Aside0.mk (below_step HB.out hb); have HY := Aside0.mk (Kd.C_below HY.out hb); have HA := Aside0.mk (Kd.C_below HA.out hb); have HBB := Aside0.mk (Kd.C_below HBB.out hb); have HX := Aside0.mk (Kd.C_below HX.out hb); clear hb) | (go_at_call 22; refine (tidewaterlaw24_as.calls ka A3 c3 a37 B _ HA.out HAL.out KA.out).mono ?_; clear KA; rintro e W ⟨v7, rfl, ho, hb⟩; have HB := Aside0.mk (below_step HB.out hb); have HY := Aside0.mk (Kd.C_below HY.out hb); have HBB := Aside0.mk (Kd.C_below HBB.out hb); have HX := Aside0.mk (Kd.C_below HX.out hb); obtain ⟨A7, c7, e_⟩ := Kd.R_slice ho; subst e_; have HSL := Aside0.mk (Kd.R_reads' ho).2.1; have HS := Aside0.mk (Kd.R_reads' ho).2.2; clear ho; clear hb) | (go_at_call 21; refine (tidewaterlaw24_same.calls ks A7 c7 B A4 c4 B true _ HS.out HSL.out HBB.out HBBL.out KS.out).mono ?_; clear KS; rintro e W ⟨rfl, hd⟩; have hb := drawn_below hd; have HB := Aside0.mk (below_step HB.out hb); have HY := Aside0.mk (Kd.C_below HY.out hb); have HX := Aside0.mk (Kd.C_below HX.out hb); clear hb hd) | (go_at_call 22; refine (tidewaterlaw24_as.calls kx A6 c6 P y _ HX.out HXL.out KX.out).mono ?_; clear KX; rintro e W ⟨v8, rfl, ho, hb⟩; have HB := Aside0.mk (below_step HB.out hb); have HY := Aside0.mk (Kd.C_below HY.out hb); obtain ⟨A8, c8, e_⟩ := Kd.R_slice ho; subst e_; have HZL := Aside0.mk (Kd.R_reads' ho).2.1; have HZ := Aside0.mk (Kd.R_reads' ho).2.2; clear ho; clear hb) | (go_at_call 21; refine (tidewaterlaw24_same.calls kt A8 c8 y A0 c0 y true _ HZ.out HZL.out HY.out hyc KT.out).mono ?_; clear KT; rintro e W ⟨rfl, hd⟩; have HB := Aside0.mk (below_step HB.out (drawn_below hd)); clear hd))
      go_ret
      exact ⟨rfl, HB.out⟩
    · skip
      clear HD
      go_enter Tryd.func7, Tryd.ntmps7
      go_wp2_with (go_at_call 8; refine (tidewaterlaw24_lives.calls true _ rfl).mono ?_; rintro e WL ⟨rfl, hb⟩; have HB := Aside0.mk (below_step HB.out hb); have HY := Aside0.mk (Kd.C_below HY.out hb); clear hb)
      go_quiet (fail)
      have HY := Aside0.mk (Kd.C_below HY.out (pw_below_drewN (Below.refl _ WL) nq))
      have HB := Aside0.mk (pw_below_drewN HB.out nq)
      generalize WL.drewN nq = WQ at *
      go_wp2_with (first | (go_at_call 17; refine (rules_Read.calls T a37 3 _ RA.out).mono ?_; clear RA; rintro e W ⟨v3, rfl, ho, hb⟩; have HB := Aside0.mk (below_step HB.out hb); have HY := Aside0.mk (Kd.C_below HY.out hb); obtain ⟨A3, c3, e_⟩ := Kd.R_slice ho; subst e_; have HAL := Aside0.mk (Kd.R_reads' ho).2.1; have HA := Aside0.mk (Kd.R_reads' ho).2.2; clear ho; clear hb) | (go_at_call 18; refine (tidewaterref24_Read.calls T B 3 _ RB.out).mono ?_; clear RB; rintro e W ⟨v4, rfl, ho, hb⟩; have HB := Aside0.mk (below_step HB.out hb); have HY := Aside0.mk (Kd.C_below HY.out hb); have HA := Aside0.mk (Kd.C_below HA.out hb); obtain ⟨A4, c4, e_⟩ := Kd.R_slice ho; subst e_; have HBBL := Aside0.mk (Kd.R_reads' ho).2.1; have HBB := Aside0.mk (Kd.R_reads' ho).2.2; clear ho; clear hb) | (go_at_call 12; refine (tidewaterlaw24_back.calls kb A0 c0 y P _ HY.out hyc KB.out).mono ?_; clear KB; rintro e W ⟨v5, rfl, ho, hb⟩; have HB := Aside0.mk (below_step HB.out hb); have HY := Aside0.mk (Kd.C_below HY.out hb); have HA := Aside0.mk (Kd.C_below HA.out hb); have HBB := Aside0.mk (Kd.C_below HBB.out hb); obtain ⟨A5, c5, e_⟩ := Kd.R_slice ho; subst e_; have HPL := Aside0.mk (Kd.R_reads' ho).2.1; have HP := Aside0.mk (Kd.R_reads' ho).2.2; clear ho; clear hb) | (go_at_call 19; refine (rules_Write.calls A5 c5 P C 0 _ HP.out HPL.out W1.out).mono ?_; clear W1; rintro e W ⟨rfl, hb⟩; have HB := Aside0.mk (below_step HB.out hb); have HY := Aside0.mk (Kd.C_below HY.out hb); have HA := Aside0.mk (Kd.C_below HA.out hb); have HBB := Aside0.mk (Kd.C_below HBB.out hb); clear hb) | (go_at_call 20; refine (tidewaterref24_Write.calls A0 c0 y C 0 _ HY.out hyc W2.out).mono ?_; clear W2; rintro e W ⟨rfl, hb⟩; have HB := Aside0.mk (below_step HB.out hb); have HY := Aside0.mk (Kd.C_below HY.out hb); have HA := Aside0.mk (Kd.C_below HA.out hb); have HBB := Aside0.mk (Kd.C_below HBB.out hb); clear hb) | (go_at_call 17; refine (rules_Read.calls C P 0 _ RC.out).mono ?_; clear RC; rintro e W ⟨v6, rfl, ho, hb⟩; have HB := Aside0.mk (below_step HB.out hb); have HY := Aside0.mk (Kd.C_below HY.out hb); have HA := Aside0.mk (Kd.C_below HA.out hb); have HBB := Aside0.mk (Kd.C_below HBB.out hb); obtain ⟨A6, c6, e_⟩ := Kd.R_slice ho; subst e_; have HXL := Aside0.mk (Kd.R_reads' ho).2.1; have HX := Aside0.mk (Kd.R_reads' ho).2.2; clear ho; clear hb) | (go_at_call 19; refine (rules_Write.calls A3 c3 a37 D 0 _ HA.out HAL.out W3.out).mono ?_; clear W3; rintro e W ⟨rfl, hb⟩; have HB := Aside0.mk (below_step HB.out hb); have HY := Aside0.mk (Kd.C_below HY.out hb); have HA := Aside0.mk (Kd.C_below HA.out hb); have HBB := Aside0.mk (Kd.C_below HBB.out hb); have HX := Aside0.mk (Kd.C_below HX.out hb); clear hb) | (go_at_call 22; refine (tidewaterlaw24_as.calls ka A3 c3 a37 B _ HA.out HAL.out KA.out).mono ?_; clear KA; rintro e W ⟨v7, rfl, ho, hb⟩; have HB := Aside0.mk (below_step HB.out hb); have HY := Aside0.mk (Kd.C_below HY.out hb); have HBB := Aside0.mk (Kd.C_below HBB.out hb); have HX := Aside0.mk (Kd.C_below HX.out hb); obtain ⟨A7, c7, e_⟩ := Kd.R_slice ho; subst e_; have HSL := Aside0.mk (Kd.R_reads' ho).2.1; have HS := Aside0.mk (Kd.R_reads' ho).2.2; clear ho; clear hb) | (go_at_call 21; refine (tidewaterlaw24_same.calls ks A7 c7 B A4 c4 B true _ HS.out HSL.out HBB.out HBBL.out KS.out).mono ?_; clear KS; rintro e W ⟨rfl, hd⟩; have hb := drawn_below hd; have HB := Aside0.mk (below_step HB.out hb); have HY := Aside0.mk (Kd.C_below HY.out hb); have HX := Aside0.mk (Kd.C_below HX.out hb); clear hb hd) | (go_at_call 22; refine (tidewaterlaw24_as.calls kx A6 c6 P y _ HX.out HXL.out KX.out).mono ?_; clear KX; rintro e W ⟨v8, rfl, ho, hb⟩; have HB := Aside0.mk (below_step HB.out hb); have HY := Aside0.mk (Kd.C_below HY.out hb); obtain ⟨A8, c8, e_⟩ := Kd.R_slice ho; subst e_; have HZL := Aside0.mk (Kd.R_reads' ho).2.1; have HZ := Aside0.mk (Kd.R_reads' ho).2.2; clear ho; clear hb) | (go_at_call 21; refine (tidewaterlaw24_same.calls kt A8 c8 y A0 c0 y true _ HZ.out HZL.out HY.out hyc KT.out).mono ?_; clear KT; rintro e W ⟨rfl, hd⟩; have HB := Aside0.mk (below_step HB.out (drawn_below hd)); clear hd))
      go_ret
      exact ⟨rfl, HB.out⟩
end Go.Proofs.YtajndnaeknfogaaDoor.Q
