/- The document's answer for counts: what the printed functions give. Conditions: what each theorem says. -/
import Derived.Test.YtcjeegomonegpaaLvC
import Derived.Test.YtcjeegomonegpaaPLivePlaysx4
import Derived.Test.YtcjeegomonegpaaPLivePlaysx5
import Derived.Test.YtcjeegomonegpaaPLivePlaysx6
namespace Go.Proofs.Ytcjeegomonegpaa.PLivePlays
open Go.RowKit Go.Maps Go.Sort Go.Proofs.YtcjeegomonegpaaW.PrintWords Go.Proofs.YtcjeegomonegpaaW.PrintLast Go.Proofs.YtcjeegomonegpaaW.PrintMore
set_option linter.unusedVariables false
set_option linter.unusedSimpArgs false
/-- A row as the document's answer has it. -/
def toP (x : S23) : S25 := ⟨x.f0, x.f1, x.f2⟩
theorem wrap64_in (a : Int) (h : -9223372036854775808 ≤ a ∧ a ≤ 9223372036854775807) : wrap64 a = a := by unfold wrap64; omega
theorem rd25_get {T : List S23} {i : Nat} (h : i < T.length) : rd_T25 (T.map toP) (i : Int) = toP T[i] := by
  unfold rd_T25
  rw [List.getD_eq_getElem?_getD, Int.toNat_natCast, List.getElem?_eq_getElem (by simpa using h)]
  simp
theorem rd23_get {T : List S23} {i : Nat} (h : i < T.length) : rd_T23 T (i : Int) = T[i] := by
  unfold rd_T23
  rw [List.getD_eq_getElem?_getD, Int.toNat_natCast, List.getElem?_eq_getElem h]
  rfl
theorem succ_wrap {i n : Nat} (hi : i < n) (hn : n ≤ 1000000) : wrap64 ((i : Int) + 1) = ((i + 1 : Nat) : Int) := by
  rw [wrap64_in _ (by omega)]
  omega
theorem plain_l0 (T : List S23) (hn : T.length ≤ 1000000) : ∀ m i, i ≤ T.length → T.length - i ≤ m → lighterlaw08_Plain.l0 (m + 1) T ((T.take i).map toP) (i : Int) = some (T.map toP)
  | 0, i, hi, hm => by
    have e : i = T.length := by omega
    subst e
    unfold lighterlaw08_Plain.l0
    rw [if_neg (by omega), List.take_length]
  | m + 1, i, hi, hm => by
    unfold lighterlaw08_Plain.l0
    by_cases h : i < T.length
    · rw [if_pos (by omega), if_pos (by omega), if_pos (by simp; omega), rd23_get h, succ_wrap h hn]
      have e : (T.take i).map toP ++ [(⟨T[i].f0, T[i].f1, T[i].f2⟩ : S25)] = (T.take (i + 1)).map toP := by
        rw [List.take_add_one, List.getElem?_eq_getElem h, List.map_append]
        rfl
      rw [e]
      exact plain_l0 T hn m (i + 1) h (by omega)
    · have e : i = T.length := by omega
      subst e
      rw [if_neg (by omega), List.take_length]
theorem plain_f (T : List S23) (hn : T.length ≤ 1000000) (k : Nat) (hk : T.length < k) : lighterlaw08_Plain.f k T = some (T.map toP) := by
  obtain ⟨m, rfl⟩ : ∃ m, k = m + 1 := ⟨k - 1, by omega⟩
  exact plain_l0 T hn m 0 (by omega) (by omega)
theorem same_l0 (T : List S23) (hn : T.length ≤ 1000000) : ∀ m i, i ≤ T.length → T.length - i ≤ m → lighterlaw08_Same.l0 (m + 1) (T.map toP) (T.map toP) (i : Int) = some true
  | 0, i, hi, hm => by
    have e : i = T.length := by omega
    subst e
    unfold lighterlaw08_Same.l0
    rw [if_neg (by simp)]
  | m + 1, i, hi, hm => by
    unfold lighterlaw08_Same.l0
    by_cases h : i < T.length
    · rw [if_pos (by simp; omega), if_pos (by omega), if_pos (by simp; omega), if_neg (by simp), succ_wrap h hn]
      exact same_l0 T hn m (i + 1) h (by omega)
    · rw [if_neg (by simp; omega)]
theorem same_f (T : List S23) (hn : T.length ≤ 1000000) (k : Nat) (hk : T.length < k) : lighterlaw08_Same.f k T (T.map toP) = some true := by
  unfold lighterlaw08_Same.f
  rw [plain_f T hn k hk]
  obtain ⟨m, rfl⟩ : ∃ m, k = m + 1 := ⟨k - 1, by omega⟩
  simp only [Option.bind_some]
  rw [if_pos trivial]
  exact same_l0 T hn m 0 (by omega) (by omega)
theorem find_l0 (T : List S23) (q : Int) (hn : T.length ≤ 1000000) : ∀ m i, i ≤ T.length → T.length - i ≤ m → (∀ j (h : j < T.length), j < i → T[j].f0 ≠ q) →
    (lighterref08_Find.l0 (m + 1) (T.map toP) q (i : Int) = some (-1) ∧ ∀ x ∈ T, x.f0 ≠ q) ∨ ∃ (j : Nat) (h : j < T.length), lighterref08_Find.l0 (m + 1) (T.map toP) q (i : Int) = some (j : Int) ∧ T[j].f0 = q
  | m, i, hi, hm, hb => by
    unfold lighterref08_Find.l0
    by_cases h : i < T.length
    · rw [if_pos (by simp; omega), if_pos (by omega), rd25_get h]
      by_cases e : T[i].f0 = q
      · rw [if_pos (show (toP T[i]).f0 = q from e)]
        exact .inr ⟨i, h, rfl, e⟩
      · rw [if_neg (show ¬ (toP T[i]).f0 = q from e), succ_wrap h hn]
        match m with
        | 0 => omega
        | m + 1 =>
          refine find_l0 T q hn m (i + 1) h (by omega) fun j hj hji => ?_
          by_cases e2 : j = i
          · subst e2
            exact e
          · exact hb j hj (by omega)
    · rw [if_neg (by simp; omega)]
      refine .inl ⟨rfl, fun x hx => ?_⟩
      obtain ⟨j, hj, rfl⟩ := List.mem_iff_getElem.1 hx
      exact hb j hj (by omega)
theorem find_f (T : List S23) (q : Int) (hn : T.length ≤ 1000000) (k : Nat) (hk : T.length < k) :
    (lighterref08_Find.f k (T.map toP) q = some (-1) ∧ ∀ x ∈ T, x.f0 ≠ q) ∨ ∃ (j : Nat) (h : j < T.length), lighterref08_Find.f k (T.map toP) q = some (j : Int) ∧ T[j].f0 = q := by
  obtain ⟨m, rfl⟩ : ∃ m, k = m + 1 := ⟨k - 1, by omega⟩
  exact find_l0 T q hn m 0 (by omega) (by omega) (fun j _ h => absurd h (Nat.not_lt_zero _))
theorem putT_split (x : S23) : ∀ (T : List S23) (i : Nat), i ≤ T.length → (∀ j (h : j < T.length), j < i → T[j].f0 < x.f0) → (∀ h : i < T.length, x.f0 < T[i].f0) → putT x T = T.take i ++ x :: T.drop i
  | [], i, hi, _, _ => by
    have : i = 0 := by simpa using hi
    subst this
    rfl
  | y :: T, 0, _, _, h2 => by
    have := h2 (by simp)
    simp at this
    simp [putT, this]
  | y :: T, i + 1, hi, h1, h2 => by
    have hy := h1 0 (by simp) (by omega)
    simp at hy
    have e : putT x (y :: T) = y :: putT x T := by
      show (if x.f0 < y.f0 then x :: y :: T else if x.f0 = y.f0 then x :: T else y :: putT x T) = _
      rw [if_neg (by omega), if_neg (by omega)]
    rw [e, putT_split x T i (by simpa using hi) (fun j h hj => by have := h1 (j + 1) (by simpa using h) (by omega); simpa using this) (fun h => by have := h2 (by simpa using h); simpa using this)]
    rfl
theorem putT_set (x : S23) : ∀ (T : List S23) (i : Nat) (hi : i < T.length), T.Pairwise (fun x y => x.f0 < y.f0) → T[i].f0 = x.f0 → putT x T = T.set i x
  | [], i, hi, _, _ => absurd hi (Nat.not_lt_zero _)
  | y :: T, 0, _, _, h2 => by
    simp at h2
    simp [putT, h2]
  | y :: T, i + 1, hi, hs, h2 => by
    obtain ⟨h3, h4⟩ := List.pairwise_cons.1 hs
    simp at h2
    have := h3 (T[i]'(by simpa using hi)) (List.getElem_mem _)
    show (if x.f0 < y.f0 then x :: y :: T else if x.f0 = y.f0 then x :: T else y :: putT x T) = _
    rw [if_neg (by omega), if_neg (by omega), putT_set x T i (by simpa using hi) h4 h2]
    rfl
theorem with_l0 (x : S23) (T : List S23) (hn : T.length ≤ 1000000) (hx : ∀ y ∈ T, y.f0 ≠ x.f0) (hs : T.Pairwise (fun x y => x.f0 < y.f0)) : ∀ m i, i ≤ T.length → T.length - i ≤ m → (∀ j (h : j < T.length), j < i → T[j].f0 < x.f0) →
    lighterref08_with.l0 (m + 1) (T.map toP) ((T.take i).map toP) (i : Int) x.f0 x.f1 x.f2 = some ((putT x T).map toP)
  | m, i, hi, hm, hb => by
    unfold lighterref08_with.l0
    have hl : ((T.take i).map toP).length = i := by simp; omega
    have hd : (((T.map toP).drop i).length) = T.length - i := by simp
    by_cases h : i < T.length
    · rw [if_pos (by simp; omega), if_pos (by omega), rd25_get h]
      by_cases e : T[i].f0 < x.f0
      · rw [if_pos (show (toP T[i]).f0 < x.f0 from e), if_pos (by omega), succ_wrap h hn]
        match m with
        | 0 => omega
        | m + 1 =>
          have e2 : (T.take i).map toP ++ [(⟨(toP T[i]).f0, (toP T[i]).f1, (toP T[i]).f2⟩ : S25)] = (T.take (i + 1)).map toP := by
            rw [List.take_add_one, List.getElem?_eq_getElem h, List.map_append]
            rfl
          rw [e2]
          refine with_l0 x T hn hx hs m (i + 1) h (by omega) fun j hj hji => ?_
          by_cases e3 : j = i
          · subst e3
            exact e
          · exact hb j hj (by omega)
      · rw [if_neg (show ¬ (toP T[i]).f0 < x.f0 from e), if_pos (by omega)]
        simp only [Option.bind_some, Int.toNat_natCast]
        rw [if_pos (by simp; omega), if_pos (by rw [List.length_append, hl, hd]; simp; omega)]
        have hne := hx T[i] (List.getElem_mem _)
        rw [putT_split x T i hi hb (fun _ => by omega)]
        simp [toP]
    · have hil : i = T.length := by omega
      rw [if_neg (by simp; omega), if_pos (by omega)]
      simp only [Option.bind_some, Int.toNat_natCast]
      rw [if_pos (by omega), if_pos (by simp; omega), if_pos (by rw [List.length_append, hl, hd]; simp; omega)]
      rw [putT_split x T i hi hb (fun hh => absurd hh h)]
      simp [toP]
theorem with_f (x : S23) (T : List S23) (hn : T.length ≤ 1000000) (hx : ∀ y ∈ T, y.f0 ≠ x.f0) (hs : T.Pairwise (fun x y => x.f0 < y.f0)) (k : Nat) (hk : T.length < k) :
    lighterref08_with.f k (T.map toP) x.f0 x.f1 x.f2 = some ((putT x T).map toP) := by
  obtain ⟨m, rfl⟩ : ∃ m, k = m + 1 := ⟨k - 1, by omega⟩
  exact with_l0 x T hn hx hs m 0 (by omega) (by omega) (fun j _ h => absurd h (Nat.not_lt_zero _))
theorem findT_get {T : List S23} (hs : T.Pairwise (fun x y => x.f0 < y.f0)) {j : Nat} (hj : j < T.length) : findT T T[j].f0 = some T[j] := by
  cases hf : findT T T[j].f0 with
  | none => exact absurd rfl (findT_none hf T[j] (List.getElem_mem _))
  | some y =>
    obtain ⟨h1, h2⟩ := findT_some hf
    rw [sorted_inj hs h1 (List.getElem_mem _) h2]
theorem findT_not {T : List S23} {q : Int} (h : ∀ x ∈ T, x.f0 ≠ q) : findT T q = none := by
  cases hf : findT T q with
  | none => rfl
  | some y =>
    obtain ⟨h1, h2⟩ := findT_some hf
    exact absurd h2 (h y h1)
theorem addE_len (T : List S23) (x : S66) : (addE T x).length ≤ T.length + 1 := by
  unfold addE
  split
  · omega
  · exact putT_len _ _
theorem addE_sorted {T : List S23} (hs : T.Pairwise (fun x y => x.f0 < y.f0)) (x : S66) : (addE T x).Pairwise (fun x y => x.f0 < y.f0) := by
  unfold addE
  split
  · exact hs
  · exact putT_sorted hs
theorem addE_cnt {T : List S23} (hs : T.Pairwise (fun x y => x.f0 < y.f0)) {x : S66} (hm : MayE x) {B : Int} (hB : 0 ≤ B) (hT : ∀ y ∈ T, 0 ≤ y.f1 ∧ y.f1 ≤ B ∧ y.f2 = y.f1) : ∀ y ∈ addE T x, 0 ≤ y.f1 ∧ y.f1 ≤ B + 65536 ∧ y.f2 = y.f1 := by
  obtain ⟨m1, m2, m3, m4, m5, m6, m7⟩ := hm
  obtain ⟨v1, v2⟩ := valT_bound (T := T) (B := B) (fun y hy => ⟨(hT y hy).1, (hT y hy).2.1⟩) hB x.f1.f0
  unfold addE
  split
  · intro y hy
    have := hT y hy
    exact ⟨this.1, by omega, this.2.2⟩
  · intro y hy
    rcases (mem_putT hs).1 hy with rfl | ⟨hy, _⟩
    · exact ⟨by simp only; omega, by simp only; omega, rfl⟩
    · have := hT y hy
      exact ⟨this.1, by omega, this.2.2⟩
theorem count_l0 (l : List S66) (hl : l.length ≤ 1000) (hm : ∀ x ∈ l, MayE x) : ∀ m i (T : List S23), i ≤ l.length → l.length - i ≤ m → l.length + 1 < m + 1 - (l.length - i) → T.length ≤ i → T.Pairwise (fun x y => x.f0 < y.f0) → (∀ y ∈ T, 0 ≤ y.f1 ∧ y.f1 ≤ 65536 * (i : Int) ∧ y.f2 = y.f1) →
    lighterref08_Count.l0 (m + 1) l (T.map toP) (i : Int) = some ((cntE T (l.drop i)).map toP)
  | m, i, T, hi, hk, hk2, hT, hs, hv => by
    unfold lighterref08_Count.l0
    by_cases h : i < l.length
    · have hmx := hm l[i] (List.getElem_mem _)
      have hstep := addE_cnt hs hmx (B := 65536 * (i : Int)) (by omega) hv
      have hlen := addE_len T l[i]
      have hsor := addE_sorted hs l[i]
      have hrec : lighterref08_Count.l0 m l ((addE T l[i]).map toP) ((i + 1 : Nat) : Int) = some ((cntE T (l.drop i)).map toP) := by
        match m with
        | 0 => omega
        | m + 1 =>
          rw [count_l0 l hl hm m (i + 1) (addE T l[i]) h (by omega) (by omega) (by omega) hsor (fun y hy => by have := hstep y hy; exact ⟨this.1, by omega, this.2.2⟩)]
          rw [drop_cons66 h]
          rfl
      rw [if_pos (by omega), if_pos (by omega), rd_T66_get h, succ_wrap h (by omega)]
      by_cases hz : l[i].f1.f0 = 0
      · rw [if_pos hz]
        have e : addE T l[i] = T := by unfold addE; rw [if_pos hz]
        rw [e] at hrec
        exact hrec
      · rw [if_neg hz]
        have e : addE T l[i] = putT ⟨l[i].f1.f0, valT T l[i].f1.f0 + l[i].f0.f1, valT T l[i].f1.f0 + l[i].f0.f1⟩ T := by unfold addE; rw [if_neg hz]
        rw [e] at hrec
        rcases find_f T l[i].f1.f0 (by omega) m (by omega) with ⟨h1, h2⟩ | ⟨j, hj, h1, h2⟩
        · rw [h1]
          have hv0 : valT T l[i].f1.f0 = 0 := by unfold valT; rw [findT_not h2]; rfl
          rw [hv0] at hrec
          simp only [Option.bind_some]
          have hw := with_f ⟨l[i].f1.f0, l[i].f0.f1, l[i].f0.f1⟩ T (by omega) h2 hs m (by omega)
          simp only at hw
          rw [if_pos (by omega), hw]
          simp only [Option.bind_some]
          simp only [Int.zero_add] at hrec
          exact hrec
        · rw [h1]
          simp only [Option.bind_some]
          rw [if_neg (by omega), if_pos (by omega), if_pos (by simp; omega), rd25_get hj]
          have hjm : j < (T.map toP).length := by simpa using hj
          have hrd : ∀ z : S25, rd_T25 ((T.map toP).set j z) (j : Int) = z := fun z => by
            unfold rd_T25
            rw [List.getD_eq_getElem?_getD, Int.toNat_natCast, List.getElem?_set_self hjm]
            rfl
          simp only [Int.toNat_natCast, hrd]
          obtain ⟨b1, b2, b3⟩ := hv T[j] (List.getElem_mem _)
          obtain ⟨m1, m2, m3, m4, m5, m6, m7⟩ := hmx
          have hv0 : valT T l[i].f1.f0 = T[j].f1 := by
            unfold valT
            rw [← h2, findT_get hs hj]
            rfl
          rw [hv0] at hrec
          rw [putT_set _ T j hj hs (by simpa using h2)] at hrec
          rw [List.set_set]
          have e1 : wrap64 ((toP T[j]).f1 + l[i].f0.f1) = T[j].f1 + l[i].f0.f1 := wrap64_in _ (by show -9223372036854775808 ≤ T[j].f1 + l[i].f0.f1 ∧ T[j].f1 + l[i].f0.f1 ≤ 9223372036854775807; omega)
          have e2 : wrap64 ((toP T[j]).f2 + l[i].f0.f1) = T[j].f1 + l[i].f0.f1 := by rw [← b3]; exact wrap64_in _ (by show -9223372036854775808 ≤ T[j].f2 + l[i].f0.f1 ∧ T[j].f2 + l[i].f0.f1 ≤ 9223372036854775807; omega)
          rw [e1, e2]
          have e3 : (T.set j ⟨l[i].f1.f0, T[j].f1 + l[i].f0.f1, T[j].f1 + l[i].f0.f1⟩).map toP = (T.map toP).set j ⟨(toP T[j]).f0, T[j].f1 + l[i].f0.f1, T[j].f1 + l[i].f0.f1⟩ := by
            rw [List.map_set]
            simp only [toP]
            rw [h2]
          rw [← e3]
          exact hrec
    · have hil : i = l.length := by omega
      rw [if_neg (by omega)]
      subst hil
      rw [List.drop_length]
      rfl
theorem refCount_f (l : List S66) (hl : l.length ≤ 1000) (hm : ∀ x ∈ l, MayE x) : lighterref08_Count.f 5000 l = some ((cntE [] l).map toP) := by
  have := count_l0 l hl hm 4999 0 [] (by omega) (by omega) (by omega) (by simp) List.Pairwise.nil (by simp)
  rw [List.drop_zero] at this
  exact this
theorem refMay_f (x : S66) : lighterref07_May.f x.f0.f0 x.f0.f1 x.f1.f0 x.f1.f1 = some (decide (MayE x)) := by
  unfold lighterref07_May.f lighterref01_May.f lighterref07_Place.f
  by_cases h1 : x.f0.f0 ≥ 0
  · by_cases h2 : x.f0.f0 ≤ 65536
    · by_cases h3 : x.f0.f1 ≥ 1
      · by_cases h4 : x.f0.f1 ≤ 65536
        · have hw : wrap64 (x.f0.f0 + x.f0.f1) = x.f0.f0 + x.f0.f1 := wrap64_in _ (by omega)
          by_cases h5 : x.f0.f0 + x.f0.f1 ≤ 65536
          · by_cases h6 : x.f1.f0 ≥ 0
            · by_cases h7 : x.f1.f0 < 1099511627776
              · by_cases h8 : x.f1.f1 ≥ 0
                · simp [h1, h2, h3, h4, hw, h5, h6, h7, h8]
                  unfold MayE
                  omega
                · simp [h1, h2, h3, h4, hw, h5, h6, h7, h8]
                  unfold MayE
                  omega
              · simp [h1, h2, h3, h4, hw, h5, h6, h7]
                unfold MayE
                omega
            · simp [h1, h2, h3, h4, hw, h5, h6]
              unfold MayE
              omega
          · simp [h1, h2, h3, h4, hw, h5]
            unfold MayE
            omega
        · simp [h1, h2, h3, h4]
          unfold MayE
          omega
      · simp [h1, h2, h3]
        unfold MayE
        omega
    · simp [h1, h2]
      unfold MayE
      omega
  · simp [h1]
    unfold MayE
    omega
theorem all_l0 (l : List S66) (hl : l.length ≤ 1000000) : ∀ m i, i ≤ l.length → l.length - i ≤ m → lighterref08_All.l0 (m + 1) l (i : Int) = some (decide (∀ x ∈ l.drop i, MayE x))
  | m, i, hi, hk => by
    unfold lighterref08_All.l0
    by_cases h : i < l.length
    · rw [if_pos (by omega), if_pos (by omega), rd_T66_get h, refMay_f, succ_wrap h (by omega)]
      simp only [Option.bind_some]
      have e : (∀ x ∈ l.drop i, MayE x) ↔ MayE l[i] ∧ ∀ x ∈ l.drop (i + 1), MayE x := by
        rw [drop_cons66 h]
        exact List.forall_mem_cons
      by_cases hx : MayE l[i]
      · rw [if_pos (by simpa using hx)]
        match m with
        | 0 => omega
        | m + 1 =>
          rw [all_l0 l hl m (i + 1) h (by omega)]
          exact congrArg some (decide_eq_decide.2 ⟨fun h => e.2 ⟨hx, h⟩, fun h => (e.1 h).2⟩)
      · rw [if_neg (by simpa using hx)]
        exact congrArg some (decide_eq_false (fun h => hx (e.1 h).1)).symm
    · have hil : i = l.length := by omega
      rw [if_neg (by omega)]
      subst hil
      simp
theorem refAll_f (l : List S66) (hl : l.length ≤ 1000000) (k : Nat) (hk : l.length < k) : lighterref08_All.f k l = some (decide (∀ x ∈ l, MayE x)) := by
  obtain ⟨m, rfl⟩ : ∃ m, k = m + 1 := ⟨k - 1, by omega⟩
  exact all_l0 l hl m 0 (by omega) (by omega)
end Go.Proofs.Ytcjeegomonegpaa.PLivePlays
