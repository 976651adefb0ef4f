/- YtpfnaknmalojkaaGreatC7: what this claim rests on. Words and contracts are those of the kit's print (print.sh wrote them, those that nothing here reaches are left out); all else is own work. Conditions: what each theorem says. -/
import Derived.Test.YtpfnaknmalojkaaGreatC6
import Derived.Deep.DeepCutAuto
import Derived.Deep.CutBlock
namespace Go.Proofs.YtpfnaknmalojkaaGreat.PTopRows
open Go.RowKit Go.Maps Go.Sort Go.Proofs.YtpfnaknmalojkaaGreatW.PrintWords Go.Proofs.YtpfnaknmalojkaaGreatW.PrintLast Go.Proofs.YtpfnaknmalojkaaGreatW.PrintMore
set_option linter.unusedVariables false
set_option linter.unusedSimpArgs false
def look : List S86 → Int → Option (Int × Int)
 | [], _ => none
 | x :: l, i => if x.f0.f0 ≤ i ∧ i < endE x then some (x.f1.f0, x.f1.f1 + (i - x.f0.f0)) else look l i
theorem Zbe (i : Int) : look [] i = none := rfl
theorem ZaA (x : S86) (l : List S86) (i : Int) : look (x :: l) i = if x.f0.f0 ≤ i ∧ i < endE x then some (x.f1.f0, x.f1.f1 + (i - x.f0.f0)) else look l i := rfl
theorem Zbh (l l' : List S86) (i : Int) : look (l ++ l') i = (look l i).or (look l' i) := by
 induction l with
 | nil => simp [Zbe]
 | cons x l ih =>
  rw [List.cons_append, ZaA, ZaA, ih]
  split <;> simp
theorem look_long {y x : S86} (hx : 1 ≤ x.f0.f1) (hy : 1 ≤ y.f0.f1) (hf : fol y x = true) (i : Int) : look [long y x] i = look [y, x] i := by
 unfold fol at hf
 simp only [Bool.and_eq_true, decide_eq_true_eq] at hf
 obtain ⟨h1, h2, h3⟩ := hf
 have a : (long y x).f0.f0 = y.f0.f0 := rfl
 have b : endE (long y x) = endE x := by unfold endE long; simp only; omega
 have c : endE y = x.f0.f0 := h1
 have d : (long y x).f1 = y.f1 := rfl
 have e : x.f0.f0 < endE x := by unfold endE; omega
 have f : y.f0.f0 < endE y := by unfold endE; omega
 rw [ZaA, ZaA, ZaA, Zbe, a, b, d]
 by_cases c1 : y.f0.f0 ≤ i ∧ i < endE y
 ·rw [if_pos c1, if_pos (by omega)]
 ·rw [if_neg c1]
  by_cases c2 : x.f0.f0 ≤ i ∧ i < endE x
  ·rw [if_pos c2, if_pos (by omega), h2]
   congr 2
   omega
  ·rw [if_neg c2, if_neg (by omega)]
theorem look_joinE {l : List S86} {x : S86} (hl : ∀ y ∈ l, MayE y) (hx : MayE x) (i : Int) : look (joinE l x) i = look (l ++ [x]) i := by
 rcases Zbi l x with ⟨rfl, e⟩ | ⟨l', y, rfl, ⟨hf, e⟩ | ⟨hf, e⟩⟩
 ·rw [e]; rfl
 ·rw [e, Zbh, look_long hx.2.1 (hl y (by simp)).2.1 hf, List.append_assoc, Zbh l' ([y] ++ [x])]
  rfl
 ·rw [e]
theorem look_joinedE (l : List S86) (i : Int) : (∀ x ∈ l, MayE x) → look (joinedE l) i = look l i := by
 refine ZbR (P := fun l => (∀ x ∈ l, MayE x) → look (joinedE l) i = look l i) (fun _ => rfl) (fun l x ih h => ?_) l
 have h1 := fun y hy => h y (List.mem_append_left _ hy)
 rw [Zbv, look_joinE (Zd2 l h1).1 (h x (by simp)), Zbh, Zbh, ih h1]
def Canon (L : List S86) : Prop := (∀ x ∈ L, MayE x) ∧ L.Pairwise (fun x y => endE x ≤ y.f0.f0 ∧ fol x y = false)
theorem Canon.rise {L : List S86} (h : Canon L) : Rise L := h.2.imp (fun h => h.1)
theorem Canon.nil : Canon [] := ⟨by simp, List.Pairwise.nil⟩
theorem joinE_ends {l : List S86} {x : S86} {b : Int} (hl : ∀ y ∈ l, endE y ≤ b) (hx : endE x ≤ b) (hf : ∀ y ∈ l, endE y ≤ x.f0.f0) : ∀ y ∈ joinE l x, endE y ≤ b := by
 rcases Zbi l x with ⟨rfl, e⟩ | ⟨l', y, rfl, ⟨hf, e⟩ | ⟨hf, e⟩⟩
 ·rw [e]; simpa using hx
 ·rw [e]
  intro z hz
  rcases List.mem_append.1 hz with hz | hz
  ·exact hl z (List.mem_append_left _ hz)
  ·rw [List.mem_singleton.1 hz]
   unfold fol at hf
   simp only [Bool.and_eq_true, decide_eq_true_eq] at hf
   unfold endE long at *
   simp only
   omega
 ·rw [e]
  intro z hz
  rcases List.mem_append.1 hz with hz | hz
  ·exact hl z hz
  ·rw [List.mem_singleton.1 hz]; exact hx
theorem canon_joinE {l : List S86} {x : S86} (hl : Canon l) (hx : MayE x) (hf : ∀ y ∈ l, endE y ≤ x.f0.f0) : Canon (joinE l x) := by
 refine ⟨joinE_may hl.1 hx, ?_⟩
 rcases Zbi l x with ⟨rfl, e⟩ | ⟨l', y, rfl, ⟨hq, e⟩ | ⟨hq, e⟩⟩
 ·rw [e]; exact List.pairwise_singleton _ _
 ·rw [e]
  have h2 := hl.2
  rw [List.pairwise_append] at h2 ⊢
  refine ⟨h2.1, List.pairwise_singleton _ _, fun a ha b hb => ?_⟩
  rw [List.mem_singleton.1 hb]
  have := h2.2.2 a ha y (by simp)
  unfold fol at this ⊢
  exact this
 ·rw [e]
  have h2 := hl.2
  rw [List.pairwise_append]
  refine ⟨h2, List.pairwise_singleton _ _, fun a ha b hb => ?_⟩
  rw [List.mem_singleton.1 hb]
  refine ⟨hf a ha, ?_⟩
  rcases List.mem_append.1 ha with ha | ha
  ·rw [List.pairwise_append] at h2
   have h3 := (h2.2.2 a ha y (by simp)).1
   have h4 := hf y (by simp)
   have h5 := (hl.1 y (by simp)).2.1
   unfold fol endE at *
   simp only [Bool.and_eq_false_iff, decide_eq_false_iff_not]
   left
   omega
  ·rw [List.mem_singleton.1 ha]; exact hq
theorem canon_joinedE (l : List S86) : (∀ x ∈ l, MayE x) → Rise l → Canon (joinedE l) ∧ ∀ b, (∀ y ∈ l, endE y ≤ b) → ∀ y ∈ joinedE l, endE y ≤ b := by
 refine ZbR (P := fun l => (∀ x ∈ l, MayE x) → Rise l → Canon (joinedE l) ∧ ∀ b, (∀ y ∈ l, endE y ≤ b) → ∀ y ∈ joinedE l, endE y ≤ b) (fun _ _ => ⟨Canon.nil, fun b _ => by simp [joinedE]⟩) (fun l x ih h hr => ?_) l
 unfold Rise at hr
 rw [List.pairwise_append] at hr
 obtain ⟨h1, h2⟩ := ih (fun y hy => h y (List.mem_append_left _ hy)) hr.1
 rw [Zbv]
 have h3 := h2 x.f0.f0 (fun y hy => hr.2.2 y hy x (by simp))
 exact ⟨canon_joinE h1 (h x (by simp)) h3, fun b hb => joinE_ends (h2 b (fun y hy => hb y (List.mem_append_left _ hy))) (hb x (by simp)) h3⟩
theorem joinedE_canon {l : List S86} (h : Canon l) : joinedE l = l := by
 revert h
 refine ZbR (P := fun l => Canon l → joinedE l = l) (fun _ => rfl) (fun l x ih h => ?_) l
 have h2 := h.2
 rw [List.pairwise_append] at h2
 rw [Zbv, ih ⟨fun y hy => h.1 y (List.mem_append_left _ hy), h2.1⟩]
 rcases Zbi l x with ⟨rfl, e⟩ | ⟨l', y, rfl, ⟨hq, e⟩ | ⟨hq, e⟩⟩
 ·rw [e]; rfl
 ·have := (h2.2.2 y (by simp) x (by simp)).2
  rw [hq] at this
  cases this
 ·exact e
theorem ZbA {l : List S86} {i : Int} (h : ∀ x ∈ l, i < x.f0.f0) : look l i = none := by
 induction l with
 | nil => rfl
 | cons x l ih =>
  rw [ZaA, if_neg (by have := h x (by simp); omega)]
  exact ih fun y hy => h y (by simp [hy])
theorem look_behind {l : List S86} {i : Int} (h : ∀ x ∈ l, endE x ≤ i) : look l i = none := by
 induction l with
 | nil => rfl
 | cons x l ih =>
  rw [ZaA, if_neg (by have := h x (by simp); omega)]
  exact ih fun y hy => h y (by simp [hy])
theorem ZdB {l : List S86} {i : Int} {p : Int × Int} (h : look l i = some p) : ∃ x ∈ l, x.f0.f0 ≤ i ∧ i < endE x ∧ p = (x.f1.f0, x.f1.f1 + (i - x.f0.f0)) := by
 induction l with
 | nil => cases h
 | cons x l ih =>
  rw [ZaA] at h
  split at h
  ·rename_i c
   exact ⟨x, by simp, c.1, c.2, (Option.some.inj h).symm⟩
  ·obtain ⟨y, hy, h1⟩ := ih h
   exact ⟨y, by simp [hy], h1⟩
theorem Zcw {l : List S86} (hr : Rise l) {x : S86} (hx : x ∈ l) (hm : ∀ y ∈ l, MayE y) {i : Int} (h1 : x.f0.f0 ≤ i) (h2 : i < endE x) : look l i = some (x.f1.f0, x.f1.f1 + (i - x.f0.f0)) := by
 induction l with
 | nil => simp at hx
 | cons y l ih =>
  rcases List.mem_cons.1 hx with rfl | hx
  ·rw [ZaA, if_pos ⟨h1, h2⟩]
  ·unfold Rise at hr
   rw [List.pairwise_cons] at hr
   rw [ZaA, if_neg (by have := hr.1 x hx; omega)]
   exact ih hr.2 hx fun z hz => hm z (by simp [hz])
theorem canon_ext : ∀ (L L' : List S86), Canon L → Canon L' → (∀ i, look L i = look L' i) → L = L'
 | [], [], _, _, _ => rfl
 | [], x :: l, _, h, e => by
  have := e x.f0.f0
  rw [ZaA, if_pos ⟨Int.le_refl _, by have := (h.1 x (by simp)).2.1; unfold endE; omega⟩] at this
  cases this
 | x :: l, [], h, _, e => by
  have := e x.f0.f0
  rw [ZaA, if_pos ⟨Int.le_refl _, by have := (h.1 x (by simp)).2.1; unfold endE; omega⟩] at this
  cases this
 | x :: l, x' :: l', h, h', e => by
  have hm := h.1 x (by simp)
  have hm' := h'.1 x' (by simp)
  have p := h.2
  have p' := h'.2
  rw [List.pairwise_cons] at p p'
  have hx1 := hm.2.1
  have hx1' := hm'.2.1
  have ha : x.f0.f0 = x'.f0.f0 := by
   rcases Int.lt_trichotomy x.f0.f0 x'.f0.f0 with q | q | q
   ·have := e x.f0.f0
    rw [ZaA, if_pos ⟨Int.le_refl _, by unfold endE; omega⟩, ZbA (l := x' :: l') (fun y hy => by
     rcases List.mem_cons.1 hy with rfl | hy
     ·exact q
     ·have := (p'.1 y hy).1; unfold endE at this; omega)] at this
    cases this
   ·exact q
   ·have := e x'.f0.f0
    rw [ZaA (x := x'), if_pos ⟨Int.le_refl _, by unfold endE; omega⟩, ZbA (l := x :: l) (fun y hy => by
     rcases List.mem_cons.1 hy with rfl | hy
     ·exact q
     ·have := (p.1 y hy).1; unfold endE at this; omega)] at this
    cases this
  have hs := e x.f0.f0
  rw [ZaA, if_pos ⟨Int.le_refl _, by unfold endE; omega⟩, ZaA, if_pos ⟨by omega, by unfold endE; omega⟩] at hs
  simp only [Option.some.injEq, Prod.mk.injEq] at hs
  have key : ∀ (x x' : S86) (l l' : List S86), Canon (x :: l) → Canon (x' :: l') → (∀ i, look (x :: l) i = look (x' :: l') i) → x.f0.f0 = x'.f0.f0 → x.f1.f0 = x'.f1.f0 → x.f1.f1 = x'.f1.f1 → ¬ x.f0.f1 < x'.f0.f1 := by
   intro x x' l l' h h' e ha hq hs q
   have hx1 := (h.1 x (by simp)).2.1
   have p := h.2
   rw [List.pairwise_cons] at p
   have h1 := e (endE x)
   rw [ZaA, if_neg (by omega), ZaA, if_pos ⟨by unfold endE; omega, by unfold endE; omega⟩] at h1
   obtain ⟨y, hy, h2, h3, h4⟩ := ZdB h1
   obtain ⟨h5, h6⟩ := p.1 y hy
   injection h4 with h7 h8
   unfold fol at h6
   simp only [Bool.and_eq_false_iff, decide_eq_false_iff_not] at h6
   unfold endE at *
   omega
  have hl : x.f0.f1 = x'.f0.f1 := by
   have k1 := key x x' l l' h h' e ha hs.1 (by omega)
   have k2 := key x' x l' l h' h (fun i => (e i).symm) ha.symm hs.1.symm (by omega)
   omega
  have hxx : x = x' := by
   obtain ⟨⟨a, b⟩, ⟨c, d⟩⟩ := x
   obtain ⟨⟨a', b'⟩, ⟨c', d'⟩⟩ := x'
   simp only at ha hl hs
   obtain ⟨hs1, hs2⟩ := hs
   have : d = d' := by omega
   subst ha hl hs1 this
   rfl
  subst hxx
  have hll : l = l' := canon_ext l l' ⟨fun y hy => h.1 y (by simp [hy]), p.2⟩ ⟨fun y hy => h'.1 y (by simp [hy]), p'.2⟩ fun i => by
   have := e i
   rw [ZaA, ZaA] at this
   split at this
   ·rename_i c
    rw [ZbA (fun y hy => by have := (p.1 y hy).1; omega), ZbA (fun y hy => by have := (p'.1 y hy).1; omega)]
   ·exact this
  rw [hll]
def cutTo (L : List S86) (s : Int) : List S86 := L.filterMap fun x => if x.f0.f0 < s then some (partE x x.f0.f0 (min (endE x) s)) else none
def cutFrom (L : List S86) (e : Int) : List S86 := L.filterMap fun x => if e < endE x then some (partE x (max x.f0.f0 e) (endE x)) else none
def cutMid (L : List S86) (s e : Int) : List S86 := L.filterMap fun x => if x.f0.f0 < e ∧ s < endE x then some (inE s e x) else none
theorem ZdU (x : S86) : partE x x.f0.f0 (endE x) = x := by
 obtain ⟨⟨a, b⟩, ⟨c, d⟩⟩ := x
 unfold partE endE
 simp only
 congr 2 <;> omega
theorem Zc7 (f : S86 → Option S86) (P : Int → Prop) [DecidablePred P] (L : List S86) (i : Int)
  (h : ∀ x ∈ L, look (f x).toList i = if P i then look [x] i else none) : look (L.filterMap f) i = if P i then look L i else none := by
 induction L with
 | nil => simp [Zbe]
 | cons x L ih =>
  have h1 := h x (by simp)
  have h2 := ih fun y hy => h y (by simp [hy])
  have e1 : look (x :: L) i = (look [x] i).or (look L i) := Zbh [x] L i
  have e2 : (x :: L).filterMap f = (f x).toList ++ L.filterMap f := by
   rw [List.filterMap_cons]
   cases f x <;> rfl
  rw [e2, Zbh, h1, h2, e1]
  split <;> simp
theorem Zc0 (f : S86 → Option S86) (hf : ∀ x y, f x = some y → x.f0.f0 ≤ y.f0.f0 ∧ endE y ≤ endE x) (L : List S86) (hr : Rise L) : Rise (L.filterMap f) := by
 unfold Rise at *
 rw [List.pairwise_filterMap]
 refine hr.imp fun h => ?_
 intro b hb b' hb'
 have := hf _ _ hb
 have := hf _ _ hb'
 omega
theorem look_cutTo (L : List S86) (s i : Int) : look (cutTo L s) i = if i < s then look L i else none := by
 refine Zc7 _ (fun i => i < s) L i fun x _ => ?_
 by_cases c : x.f0.f0 < s
 ·rw [if_pos c]
  have a : endE (partE x x.f0.f0 (min (endE x) s)) = min (endE x) s := by unfold partE endE; simp only; omega
  have b : (partE x x.f0.f0 (min (endE x) s)).f0.f0 = x.f0.f0 := rfl
  have d : (partE x x.f0.f0 (min (endE x) s)).f1.f0 = x.f1.f0 := rfl
  have d2 : (partE x x.f0.f0 (min (endE x) s)).f1.f1 = x.f1.f1 + x.f0.f0 - x.f0.f0 := rfl
  show look [partE x x.f0.f0 (min (endE x) s)] i = _
  rw [ZaA, ZaA, Zbe, a, b, d, d2]
  by_cases q : i < s
  ·rw [if_pos q]
   by_cases c2 : x.f0.f0 ≤ i ∧ i < endE x
   ·rw [if_pos c2, if_pos (by omega)]
    congr 2
    omega
   ·rw [if_neg c2, if_neg (by omega)]
  ·rw [if_neg q, if_neg (by omega)]
 ·rw [if_neg c]
  show look [] i = _
  rw [ZaA, Zbe]
  split
  ·rw [if_neg (by omega)]
  ·rfl
theorem look_cutFrom (L : List S86) (e i : Int) : look (cutFrom L e) i = if e ≤ i then look L i else none := by
 refine Zc7 _ (fun i => e ≤ i) L i fun x _ => ?_
 by_cases c : e < endE x
 ·rw [if_pos c]
  have a : endE (partE x (max x.f0.f0 e) (endE x)) = endE x := by unfold partE endE; simp only; omega
  have b : (partE x (max x.f0.f0 e) (endE x)).f0.f0 = max x.f0.f0 e := rfl
  have d : (partE x (max x.f0.f0 e) (endE x)).f1.f0 = x.f1.f0 := rfl
  have d2 : (partE x (max x.f0.f0 e) (endE x)).f1.f1 = x.f1.f1 + max x.f0.f0 e - x.f0.f0 := rfl
  show look [partE x (max x.f0.f0 e) (endE x)] i = _
  rw [ZaA, ZaA, Zbe, a, b, d, d2]
  by_cases q : e ≤ i
  ·rw [if_pos q]
   by_cases c2 : x.f0.f0 ≤ i ∧ i < endE x
   ·rw [if_pos c2, if_pos (by omega)]
    congr 2
    omega
   ·rw [if_neg c2, if_neg (by omega)]
  ·rw [if_neg q, if_neg (by omega)]
 ·rw [if_neg c]
  show look [] i = _
  rw [ZaA, Zbe]
  split
  ·rw [if_neg (by omega)]
  ·rfl
theorem look_cutMid (L : List S86) (s e i : Int) : look (cutMid L s e) i = if s ≤ i ∧ i < e then look L i else none := by
 refine Zc7 _ (fun i => s ≤ i ∧ i < e) L i fun x _ => ?_
 by_cases c : x.f0.f0 < e ∧ s < endE x
 ·rw [if_pos c]
  have a : endE (inE s e x) = min (endE x) e := by unfold inE partE endE; simp only; omega
  have b : (inE s e x).f0.f0 = max x.f0.f0 s := rfl
  have d : (inE s e x).f1.f0 = x.f1.f0 := rfl
  have d2 : (inE s e x).f1.f1 = x.f1.f1 + max x.f0.f0 s - x.f0.f0 := rfl
  show look [inE s e x] i = _
  rw [ZaA, ZaA, Zbe, a, b, d, d2]
  by_cases q : s ≤ i ∧ i < e
  ·rw [if_pos q]
   by_cases c2 : x.f0.f0 ≤ i ∧ i < endE x
   ·rw [if_pos c2, if_pos (by omega)]
    congr 2
    omega
   ·rw [if_neg c2, if_neg (by omega)]
  ·rw [if_neg q, if_neg (by omega)]
 ·rw [if_neg c]
  show look [] i = _
  rw [ZaA, Zbe]
  split
  ·rw [if_neg (by omega)]
  ·rfl
theorem partE_may {x : S86} (hx : MayE x) {a b : Int} (h : x.f0.f0 ≤ a ∧ a < b ∧ b ≤ endE x) (hs : x.f1.f1 + x.f0.f1 < 1099511627776 ∨ a = x.f0.f0) : MayE (partE x a b) := by
 unfold MayE partE endE at *
 simp only
 omega
def Good (x : S86) : Prop := MayE x ∧ x.f1.f1 + x.f0.f1 < 1099511627776
theorem Zc3 {x : S86} (hx : Good x) {a b : Int} (h : x.f0.f0 ≤ a ∧ a < b ∧ b ≤ endE x) : Good (partE x a b) := by
 refine ⟨partE_may hx.1 h (.inl hx.2), ?_⟩
 have := hx.2
 unfold partE endE at *
 simp only
 omega
theorem long_good {y x : S86} (hy : Good y) (hx : Good x) (hf : fol y x = true) : Good (long y x) := by
 refine ⟨long_may hy.1 hx.1 hf, ?_⟩
 unfold fol at hf
 simp only [Bool.and_eq_true, decide_eq_true_eq] at hf
 have := hx.2
 unfold long
 simp only
 omega
theorem joinedE_good (l : List S86) : (∀ x ∈ l, Good x) → ∀ y ∈ joinedE l, Good y := by
 refine ZbR (P := fun l => (∀ x ∈ l, Good x) → ∀ y ∈ joinedE l, Good y) (fun _ => by simp [joinedE]) (fun l x ih h => ?_) l
 have h1 := ih fun y hy => h y (List.mem_append_left _ hy)
 have hx := h x (by simp)
 rw [Zbv]
 rcases Zbi (joinedE l) x with ⟨_, e⟩ | ⟨l', y, q, ⟨hf, e⟩ | ⟨hf, e⟩⟩
 ·rw [e]; simpa using hx
 ·rw [e]
  intro z hz
  rcases List.mem_append.1 hz with hz | hz
  ·exact h1 z (by rw [q]; exact List.mem_append_left _ hz)
  ·rw [List.mem_singleton.1 hz]
   exact long_good (h1 y (by rw [q]; simp)) hx hf
 ·rw [e]
  intro z hz
  rcases List.mem_append.1 hz with hz | hz
  ·exact h1 z (by rw [q]; exact hz)
  ·rw [List.mem_singleton.1 hz]; exact hx
theorem cutTo_good {L : List S86} (h : ∀ x ∈ L, Good x) (s : Int) : ∀ y ∈ cutTo L s, Good y := by
 intro y hy
 obtain ⟨x, hx, e⟩ := List.mem_filterMap.1 hy
 split at e
 ·rw [← Option.some.inj e]
  have := (h x hx).1.2.1
  exact Zc3 (h x hx) (by unfold endE; omega)
 ·cases e
theorem Zdo {L : List S86} (h : ∀ x ∈ L, Good x) (s : Int) : ∀ y ∈ cutFrom L s, Good y := by
 intro y hy
 obtain ⟨x, hx, e⟩ := List.mem_filterMap.1 hy
 split at e
 ·rw [← Option.some.inj e]
  have := (h x hx).1.2.1
  refine Zc3 (h x hx) ?_
  unfold endE at *
  omega
 ·cases e
theorem Zea {L : List S86} (h : ∀ x ∈ L, Good x) (s t : Int) (hst : s < t) : ∀ y ∈ cutMid L s t, Good y := by
 intro y hy
 obtain ⟨x, hx, e⟩ := List.mem_filterMap.1 hy
 split at e
 ·rw [← Option.some.inj e]
  have := (h x hx).1.2.1
  refine Zc3 (h x hx) ?_
  unfold endE at *
  omega
 ·cases e
theorem cutTo_rise {L : List S86} (h : Rise L) (s : Int) : Rise (cutTo L s) := by
 refine Zc0 _ (fun x y e => ?_) L h
 split at e
 ·rw [← Option.some.inj e]
  unfold partE endE
  simp only
  omega
 ·cases e
theorem cutFrom_rise {L : List S86} (h : Rise L) (s : Int) : Rise (cutFrom L s) := by
 refine Zc0 _ (fun x y e => ?_) L h
 split at e
 ·rw [← Option.some.inj e]
  unfold partE endE
  simp only
  omega
 ·cases e
theorem cutMid_rise {L : List S86} (h : Rise L) (s t : Int) : Rise (cutMid L s t) := by
 refine Zc0 _ (fun x y e => ?_) L h
 split at e
 ·rw [← Option.some.inj e]
  unfold inE partE endE
  simp only
  omega
 ·cases e
theorem cutTo_ends (L : List S86) (s : Int) : ∀ y ∈ cutTo L s, endE y ≤ s := by
 intro y hy
 obtain ⟨x, hx, e⟩ := List.mem_filterMap.1 hy
 split at e
 ·rw [← Option.some.inj e]
  unfold partE endE
  simp only
  omega
 ·cases e
theorem cutFrom_from (L : List S86) (s : Int) : ∀ y ∈ cutFrom L s, s ≤ y.f0.f0 := by
 intro y hy
 obtain ⟨x, hx, e⟩ := List.mem_filterMap.1 hy
 split at e
 ·rw [← Option.some.inj e]
  unfold partE
  simp only
  omega
 ·cases e
theorem cut_same (L1 M L2 : List S86) (s e : Int) (hse : s < e) (hr : Rise (L1 ++ M ++ L2)) (h1 : ∀ x ∈ L1, endE x ≤ s) (hm : ∀ x ∈ M, s < endE x ∧ x.f0.f0 < e) (h2 : ∀ x ∈ L2, e ≤ x.f0.f0) (hp : ∀ x ∈ L1 ++ M ++ L2, MayE x) :
  M.foldl (aheadE s) L1 = cutTo (L1 ++ M ++ L2) s ∧ M.map (inE s e) = cutMid (L1 ++ M ++ L2) s e ∧ M.foldl (behindE e) L2 = cutFrom (L1 ++ M ++ L2) e := by
 have nil_of : ∀ (f : S86 → Option S86) (l : List S86), (∀ x ∈ l, f x = none) → l.filterMap f = [] := fun f l h => by
  rw [List.filterMap_eq_nil_iff]
  exact h
 have same_of : ∀ (f : S86 → Option S86) (l : List S86), (∀ x ∈ l, f x = some x) → l.filterMap f = l := fun f l h => by
  induction l with
  | nil => rfl
  | cons x l ih => rw [List.filterMap_cons, h x (by simp), ih fun y hy => h y (by simp [hy])]
 have p1 : ∀ x ∈ L1, MayE x := fun x hx => hp x (by simp [hx])
 have pm : ∀ x ∈ M, MayE x := fun x hx => hp x (by simp [hx])
 have p2 : ∀ x ∈ L2, MayE x := fun x hx => hp x (by simp [hx])
 refine ⟨?_, ?_, ?_⟩
 ·unfold cutTo
  rw [List.filterMap_append, List.filterMap_append, nil_of _ L2 (fun x hx => if_neg (by have := h2 x hx; omega)), List.append_nil, same_of _ L1 (fun x hx => by
   have a := h1 x hx
   have b := (p1 x hx).2.1
   rw [if_pos (by unfold endE at a; omega), show min (endE x) s = endE x by omega, ZdU])]
  clear hr hp p1 p2 h1 h2
  induction M generalizing L1 with
  | nil => simp
  | cons x M ih =>
   rw [List.foldl_cons, ih _ (fun y hy => hm y (by simp [hy])) (fun y hy => pm y (by simp [hy])), List.filterMap_cons]
   unfold aheadE
   split
   ·rename_i c
    rw [show min (endE x) s = s by have := (hm x (by simp)).1; omega, List.append_assoc]
    rfl
   ·rfl
 ·unfold cutMid
  rw [List.filterMap_append, List.filterMap_append, nil_of _ L2 (fun x hx => if_neg (by have := h2 x hx; omega)), List.append_nil, nil_of _ L1 (fun x hx => if_neg (by have := h1 x hx; omega)), List.nil_append]
  clear hr hp p1 p2 h1 h2 pm
  induction M with
  | nil => rfl
  | cons x M ih =>
   rw [List.filterMap_cons, if_pos ⟨(hm x (by simp)).2, (hm x (by simp)).1⟩, List.map_cons, ih fun y hy => hm y (by simp [hy])]
 ·unfold cutFrom
  rw [List.filterMap_append, List.filterMap_append, nil_of _ L1 (fun x hx => if_neg (by have := h1 x hx; omega)), List.nil_append, same_of _ L2 (fun x hx => by
   have a := h2 x hx
   have b := (p2 x hx).2.1
   rw [if_pos (by unfold endE; omega), show max x.f0.f0 e = x.f0.f0 by omega, ZdU])]
  have hrm : Rise M := by
   unfold Rise at *
   rw [List.append_assoc, List.pairwise_append] at hr
   exact (List.pairwise_append.1 hr.2.1).1
  clear hr hp p1 p2 h1 h2 hse
  revert hm pm hrm
  refine ZbR (P := fun M => (∀ x ∈ M, s < endE x ∧ x.f0.f0 < e) → (∀ x ∈ M, MayE x) → Rise M → M.foldl (behindE e) L2 = M.filterMap (fun x => if e < endE x then some (partE x (max x.f0.f0 e) (endE x)) else none) ++ L2) (fun _ _ _ => rfl) (fun M x ih hm pm hrm => ?_) M
  have hlt : ∀ y ∈ M, ¬ e < endE y := fun y hy => by
   unfold Rise at hrm
   rw [List.pairwise_append] at hrm
   have := hrm.2.2 y hy x (by simp)
   have := (hm x (by simp)).2
   omega
  have hfold : M.foldl (behindE e) L2 = L2 := by
   clear ih hm pm hrm
   induction M with
   | nil => rfl
   | cons y M ih =>
    rw [List.foldl_cons]
    unfold behindE at *
    rw [if_neg (by have := hlt y (by simp); omega)]
    exact ih fun z hz => hlt z (by simp [hz])
  rw [List.foldl_append, hfold, List.filterMap_append, nil_of _ M (fun y hy => if_neg (hlt y hy)), List.nil_append, List.foldl_cons, List.foldl_nil]
  unfold behindE
  by_cases c : endE x > e
  ·rw [if_pos c]
   simp only [List.filterMap_cons, if_pos (show e < endE x from c), List.filterMap_nil]
   rw [show max x.f0.f0 e = e by have := (hm x (by simp)).2; omega]
   rfl
  ·rw [if_neg c]
   simp only [List.filterMap_cons, if_neg (show ¬ e < endE x from c), List.filterMap_nil]
   rfl
def layE (L : List S86) (s e : Int) (X : List S86) : List S86 := joinedE (cutTo L s ++ X ++ cutFrom L e)
theorem layE_ok {L X : List S86} {s e : Int} (hL : Rise L) (hg : ∀ x ∈ L, Good x) (hX : Rise X) (hgX : ∀ x ∈ X, Good x) (hXi : ∀ x ∈ X, s ≤ x.f0.f0 ∧ endE x ≤ e) (hse : s < e) :
  Canon (layE L s e X) ∧ (∀ x ∈ layE L s e X, Good x) ∧ ∀ i, look (layE L s e X) i = if s ≤ i ∧ i < e then look X i else look L i := by
 have hgo : ∀ x ∈ cutTo L s ++ X ++ cutFrom L e, Good x := by
  intro x hx
  rw [List.mem_append, List.mem_append] at hx
  rcases hx with (hx | hx) | hx
  ·exact cutTo_good hg s x hx
  ·exact hgX x hx
  ·exact Zdo hg e x hx
 have hri : Rise (cutTo L s ++ X ++ cutFrom L e) := by
  unfold Rise
  rw [List.pairwise_append, List.pairwise_append]
  refine ⟨⟨cutTo_rise hL s, hX, fun x hx y hy => ?_⟩, cutFrom_rise hL e, fun x hx y hy => ?_⟩
  ·have := cutTo_ends L s x hx
   have := (hXi y hy).1
   omega
  ·have h2 := cutFrom_from L e y hy
   rcases List.mem_append.1 hx with hx | hx
   ·have := cutTo_ends L s x hx
    omega
   ·have := (hXi x hx).2
    omega
 refine ⟨(canon_joinedE _ (fun x hx => (hgo x hx).1) hri).1, joinedE_good _ hgo, fun i => ?_⟩
 unfold layE
 rw [look_joinedE _ _ (fun x hx => (hgo x hx).1), Zbh, Zbh, look_cutTo, look_cutFrom]
 by_cases c1 : i < s
 ·rw [if_pos c1, if_neg (by omega), if_neg (by omega), ZbA (l := X) (fun x hx => by have := (hXi x hx).1; omega)]
  simp
 ·rw [if_neg c1]
  by_cases c2 : e ≤ i
  ·rw [if_pos c2, if_neg (by omega), look_behind (l := X) (fun x hx => by have := (hXi x hx).2; omega)]
   simp
  ·rw [if_neg c2, if_pos (by omega)]
   simp
def cntP (p : Int → Bool) : Nat → Int
 | 0 => 0
 | n + 1 => cntP p n + if p (n : Int) then 1 else 0
theorem Zco {p q : Int → Bool} {n : Nat} (h : ∀ i : Int, 0 ≤ i → i < n → p i = q i) : cntP p n = cntP q n := by
 induction n with
 | zero => rfl
 | succ n ih =>
  show cntP p n + _ = cntP q n + _
  rw [ih fun i h1 h2 => h i h1 (by omega), h n (by omega) (by omega)]
theorem cntP_nonneg (p : Int → Bool) (n : Nat) : 0 ≤ cntP p n := by
 induction n with
 | zero => exact Int.le_refl _
 | succ n ih =>
  show 0 ≤ cntP p n + _
  split <;> omega
theorem cntP_le {p q : Int → Bool} {n : Nat} (h : ∀ i : Int, 0 ≤ i → i < n → p i = true → q i = true) : cntP p n ≤ cntP q n := by
 induction n with
 | zero => exact Int.le_refl _
 | succ n ih =>
  show cntP p n + _ ≤ cntP q n + _
  have h1 := ih fun i h1 h2 => h i h1 (by omega)
  have h2 := h n (by omega) (by omega)
  cases hp : p (n : Int)
  ·simp; split <;> omega
  ·rw [h2 hp]; simp; omega
theorem ZbK {p : Int → Bool} {n : Nat} (h : ∀ i : Int, 0 ≤ i → i < n → p i = false) : cntP p n = 0 := by
 induction n with
 | zero => rfl
 | succ n ih =>
  show cntP p n + _ = 0
  rw [ih fun i h1 h2 => h i h1 (by omega), h n (by omega) (by omega)]
  rfl
theorem cntP_sum {p q r : Int → Bool} {n : Nat} (h : ∀ i : Int, 0 ≤ i → i < n → (if p i then (1 : Int) else 0) = (if q i then 1 else 0) + if r i then 1 else 0) : cntP p n = cntP q n + cntP r n := by
 induction n with
 | zero => rfl
 | succ n ih =>
  show cntP p n + _ = (cntP q n + _) + (cntP r n + _)
  rw [ih fun i h1 h2 => h i h1 (by omega), h n (by omega) (by omega)]
  omega
theorem cntP_four {p q r s : Int → Bool} {n : Nat} (h : ∀ i : Int, 0 ≤ i → i < n → (if p i then (1 : Int) else 0) - (if q i then 1 else 0) = (if r i then 1 else 0) - if s i then 1 else 0) : cntP p n - cntP q n = cntP r n - cntP s n := by
 induction n with
 | zero => rfl
 | succ n ih =>
  show (cntP p n + _) - (cntP q n + _) = (cntP r n + _) - (cntP s n + _)
  have h1 := ih fun i h1 h2 => h i h1 (by omega)
  have h2 := h n (by omega) (by omega)
  omega
theorem cntP_range (a b : Int) (ha : 0 ≤ a) (hab : a ≤ b) (n : Nat) : cntP (fun i => decide (a ≤ i ∧ i < b)) n = max 0 (min (n : Int) b - a) := by
 induction n with
 | zero => show (0 : Int) = _; omega
 | succ n ih =>
  show cntP _ n + _ = _
  rw [ih]
  by_cases c : a ≤ (n : Int) ∧ (n : Int) < b
  ·rw [if_pos (decide_eq_true c)]; omega
  ·rw [if_neg (by simp only [decide_eq_true_eq]; exact c)]; omega
def ofQ (q : Int) (p : Option (Int × Int)) : Bool := match p with
 | some (s, _) => s == q
 | none => false
def lenQ (q : Int) : List S86 → Int
 | [] => 0
 | x :: l => (if x.f1.f0 = q then x.f0.f1 else 0) + lenQ q l
def lenA : List S86 → Int
 | [] => 0
 | x :: l => x.f0.f1 + lenA l
theorem ZbZ (q : Int) (x : S86) (l : List S86) : lenQ q (x :: l) = (if x.f1.f0 = q then x.f0.f1 else 0) + lenQ q l := rfl
theorem Zbq (x : S86) (l : List S86) : lenA (x :: l) = x.f0.f1 + lenA l := rfl
theorem ZdY (l l' : List S86) : lenA (l ++ l') = lenA l + lenA l' := by
 induction l with
 | nil => simp [lenA]
 | cons x l ih => rw [List.cons_append, Zbq, Zbq, ih]; omega
theorem Zc6 {x : S86} {l : List S86} (h : ∀ y ∈ l, endE x ≤ y.f0.f0) (i : Int) : (look (x :: l) i = look [x] i ∧ look l i = none) ∨ (look (x :: l) i = look l i ∧ look [x] i = none) := by
 by_cases c : x.f0.f0 ≤ i ∧ i < endE x
 ·left
  exact ⟨by rw [ZaA, ZaA, if_pos c, if_pos c], ZbA fun y hy => by have := h y hy; omega⟩
 ·right
  exact ⟨by rw [ZaA, if_neg c], by rw [ZaA, if_neg c]; rfl⟩
theorem cnt_one (p : Option (Int × Int) → Bool) (hp : p none = false) (x : S86) (hx : MayE x) (n : Nat) (hn : endE x ≤ n) (b : Bool) (hb : ∀ k, p (some (x.f1.f0, k)) = b) :
  cntP (fun i => p (look [x] i)) n = if b then x.f0.f1 else 0 := by
 obtain ⟨h1, h2, h3, _⟩ := hx
 cases b with
 | true =>
  rw [if_pos rfl, Zco (q := fun i => decide (x.f0.f0 ≤ i ∧ i < endE x)) fun i _ _ => ?_, cntP_range _ _ h1 (by unfold endE; omega)]
  ·unfold endE at *; omega
  ·rw [ZaA]
   by_cases c : x.f0.f0 ≤ i ∧ i < endE x
   ·rw [if_pos c, hb, decide_eq_true c]
   ·rw [if_neg c, Zbe, hp, decide_eq_false c]
 | false =>
  rw [if_neg (by simp)]
  refine ZbK fun i _ _ => ?_
  rw [ZaA]
  split
  ·exact hb _
  ·exact hp
theorem ZcS (q : Int) (n : Nat) : ∀ (L : List S86), Rise L → (∀ x ∈ L, MayE x) → (∀ x ∈ L, endE x ≤ n) → cntP (fun i => ofQ q (look L i)) n = lenQ q L
 | [], _, _, _ => ZbK fun i _ _ => rfl
 | x :: l, hr, hm, he => by
  unfold Rise at hr
  rw [List.pairwise_cons] at hr
  rw [cntP_sum (q := fun i => ofQ q (look [x] i)) (r := fun i => ofQ q (look l i)) fun i _ _ => ?_, ZcS q n l hr.2 (fun y hy => hm y (by simp [hy])) (fun y hy => he y (by simp [hy])),
   cnt_one (ofQ q) rfl x (hm x (by simp)) n (he x (by simp)) (x.f1.f0 == q) fun k => rfl]
  ·rw [ZbZ]
   by_cases c : x.f1.f0 = q
   ·rw [if_pos (by simpa using c), if_pos c]
   ·rw [if_neg (by simpa using c), if_neg c]
  ·rcases Zc6 hr.1 i with ⟨h1, h2⟩ | ⟨h1, h2⟩ <;> rw [h1, h2] <;> simp [ofQ]
theorem ZdC (n : Nat) : ∀ (L : List S86), Rise L → (∀ x ∈ L, MayE x) → (∀ x ∈ L, endE x ≤ n) → cntP (fun i => (look L i).isSome) n = lenA L
 | [], _, _, _ => ZbK fun i _ _ => rfl
 | x :: l, hr, hm, he => by
  unfold Rise at hr
  rw [List.pairwise_cons] at hr
  rw [cntP_sum (q := fun i => (look [x] i).isSome) (r := fun i => (look l i).isSome) fun i _ _ => ?_, ZdC n l hr.2 (fun y hy => hm y (by simp [hy])) (fun y hy => he y (by simp [hy])),
   cnt_one Option.isSome rfl x (hm x (by simp)) n (he x (by simp)) true fun k => rfl]
  ·rfl
  ·rcases Zc6 hr.1 i with ⟨h1, h2⟩ | ⟨h1, h2⟩ <;> rw [h1, h2] <;> simp
theorem len_lenA (L : List S86) (h : ∀ x ∈ L, MayE x) : (L.length : Int) ≤ lenA L := by
 induction L with
 | nil => exact Int.le_refl _
 | cons x l ih =>
  have := ih fun y hy => h y (by simp [hy])
  have := (h x (by simp)).2.1
  rw [List.length_cons, Zbq]
  omega
theorem lenQ_nonneg (q : Int) (L : List S86) (h : ∀ x ∈ L, MayE x) : 0 ≤ lenQ q L := by
 induction L with
 | nil => exact Int.le_refl _
 | cons x l ih =>
  have := ih fun y hy => h y (by simp [hy])
  have := (h x (by simp)).2.1
  rw [ZbZ]
  split <;> omega
theorem lenQ_none {q : Int} {L : List S86} (h : ∀ x ∈ L, x.f1.f0 ≠ q) : lenQ q L = 0 := by
 induction L with
 | nil => rfl
 | cons x l ih =>
  rw [ZbZ, if_neg (h x (by simp)), ih fun y hy => h y (by simp [hy])]
  rfl
theorem cnt_val {T : List S51} (hT : T.Pairwise (fun x y => x.f0 < y.f0)) (q : Int) (hq : q ≠ 0) (L : List S86) : valT (cntE T L) q = valT T q + lenQ q L := by
 induction L generalizing T with
 | nil => show valT T q = _ + 0; omega
 | cons x l ih =>
  show valT (cntE (addE T x) l) q = _
  rw [ih (Zef hT x), ZbZ]
  have h1 : valT (addE T x) q = valT T q + if x.f1.f0 = q then x.f0.f1 else 0 := by
   unfold addE
   by_cases c0 : x.f1.f0 = 0
   ·rw [if_pos c0, if_neg (by omega)]; omega
   ·rw [if_neg c0]
    by_cases c : x.f1.f0 = q
    ·subst c
     rw [if_pos rfl]
     have e : findT (putT ⟨x.f1.f0, valT T x.f1.f0 + x.f0.f1, valT T x.f1.f0 + x.f0.f1⟩ T) x.f1.f0 = some ⟨x.f1.f0, valT T x.f1.f0 + x.f0.f1, valT T x.f1.f0 + x.f0.f1⟩ := by rw [ZcP hT, if_pos rfl]
     rw [val_some e]
    ·rw [if_neg c, ZcB (l' := T)]
     ·omega
     ·rw [ZcP hT, if_neg (by simp only; omega)]
  omega
def sumQ (L : List S86) : Nat → Int
 | 0 => 0
 | n + 1 => sumQ L n + lenQ ((n : Int) + 1) L
theorem sumQ_all (L : List S86) (n : Nat) (h : ∀ x ∈ L, 1 ≤ x.f1.f0 ∧ x.f1.f0 ≤ n) : sumQ L n = lenA L := by
 have key : ∀ n : Nat, sumQ L n = lenA (L.filter fun x => decide (1 ≤ x.f1.f0 ∧ x.f1.f0 ≤ n)) := by
  intro n
  induction n with
  | zero =>
   rw [List.filter_eq_nil_iff.2 fun x _ => by simp; omega]
   rfl
  | succ n ih =>
   show sumQ L n + _ = _
   rw [ih]
   clear ih h
   induction L with
   | nil => rfl
   | cons x l ih =>
    rw [ZbZ, List.filter_cons, List.filter_cons]
    by_cases c1 : 1 ≤ x.f1.f0 ∧ x.f1.f0 ≤ (n : Int)
    ·rw [if_pos (decide_eq_true c1), if_pos (decide_eq_true (by omega)), if_neg (by omega), Zbq, Zbq]
     omega
    ·rw [if_neg (by simpa using c1)]
     by_cases c2 : x.f1.f0 = (n : Int) + 1
     ·rw [if_pos c2, if_pos (decide_eq_true (by omega)), Zbq]
      omega
     ·rw [if_neg c2, if_neg (by simp only [decide_eq_true_eq]; omega)]
      omega
 rw [key, List.filter_eq_self.2 fun x hx => decide_eq_true (h x hx)]
theorem ZcT (p : Int → Bool) (n : Nat) : cntP p n ≤ n := by
 induction n with
 | zero => exact Int.le_refl _
 | succ n ih =>
  show cntP p n + _ ≤ _
  split <;> omega
structure Okm (L : List S86) : Prop where
 canon : Canon L
 good : ∀ x ∈ L, Good x
 ends : ∀ x ∈ L, endE x ≤ 64
theorem Okm.nil : Okm [] := ⟨Canon.nil, by simp, by simp⟩
theorem Okm.lenA {L : List S86} (h : Okm L) : lenA L ≤ 64 := by
 rw [← ZdC 64 L h.canon.rise h.canon.1 h.ends]
 exact ZcT _ _
theorem Okm.len {L : List S86} (h : Okm L) : L.length ≤ 64 := by
 have := len_lenA L h.canon.1
 have := h.lenA
 omega
theorem look_range {L : List S86} (h : Okm L) {i : Int} {p : Int × Int} (hl : look L i = some p) : 0 ≤ i ∧ i < 64 := by
 obtain ⟨x, hx, h1, h2, _⟩ := ZdB hl
 have := h.ends x hx
 have := (h.canon.1 x hx).1
 omega
def marked (q : Int) (L : List S86) (k : Int) : Bool := L.any fun x => decide (x.f1.f0 = q) && (decide (x.f1.f1 ≤ k) && decide (k < x.f1.f1 + x.f0.f1))
def Once (L : List S86) : Prop := L.Pairwise fun x y => x.f1.f0 = y.f1.f0 → x.f1.f1 + x.f0.f1 ≤ y.f1.f1 ∨ y.f1.f1 + y.f0.f1 ≤ x.f1.f1
theorem Zdc (q : Int) (n : Nat) : ∀ (L : List S86), Once L → (∀ x ∈ L, MayE x) → (∀ x ∈ L, x.f1.f0 = q → x.f1.f1 + x.f0.f1 ≤ n) → cntP (marked q L) n = lenQ q L
 | [], _, _, _ => ZbK fun i _ _ => rfl
 | x :: l, ho, hm, he => by
  unfold Once at ho
  rw [List.pairwise_cons] at ho
  have hx := hm x (by simp)
  have hx2 := hx.2.1
  have hx6 := hx.2.2.2.2.2.1
  rw [cntP_sum (q := fun i => decide (x.f1.f0 = q ∧ x.f1.f1 ≤ i ∧ i < x.f1.f1 + x.f0.f1)) (r := marked q l) fun i _ _ => ?_, Zdc q n l ho.2 (fun y hy => hm y (by simp [hy])) (fun y hy => he y (by simp [hy]))]
  ·rw [ZbZ]
   by_cases c : x.f1.f0 = q
   ·rw [if_pos c, Zco (q := fun i => decide (x.f1.f1 ≤ i ∧ i < x.f1.f1 + x.f0.f1)) (fun i _ _ => by simp [c]), cntP_range _ _ hx6 (by omega)]
    have := he x (by simp) c
    omega
   ·rw [if_neg c, ZbK (fun i _ _ => by simp [c])]
  ·have hs : marked q (x :: l) i = ((decide (x.f1.f0 = q) && (decide (x.f1.f1 ≤ i) && decide (i < x.f1.f1 + x.f0.f1))) || marked q l i) := by
    unfold marked
    rw [List.any_cons]
   by_cases c : x.f1.f0 = q ∧ x.f1.f1 ≤ i ∧ i < x.f1.f1 + x.f0.f1
   ·have hn : marked q l i = false := by
     unfold marked
     rw [List.any_eq_false]
     intro y hy hh
     simp only [Bool.and_eq_true, decide_eq_true_eq] at hh
     have := ho.1 y hy (by omega)
     omega
    rw [hs, hn]
    simp [c]
   ·have : (decide (x.f1.f0 = q) && (decide (x.f1.f1 ≤ i) && decide (i < x.f1.f1 + x.f0.f1))) = false := by
     simp only [Bool.and_eq_false_iff, decide_eq_false_iff_not]
     omega
    rw [hs, this]
    simp [c]
theorem once_of {L : List S86} (hr : Rise L) (hm : ∀ x ∈ L, MayE x) (hi : ∀ i j p, look L i = some p → look L j = some p → i = j) : Once L := by
 unfold Once
 have key : ∀ x ∈ L, ∀ y ∈ L, endE x ≤ y.f0.f0 → x.f1.f0 = y.f1.f0 → x.f1.f1 + x.f0.f1 ≤ y.f1.f1 ∨ y.f1.f1 + y.f0.f1 ≤ x.f1.f1 := by
  intro x hx y hy hxy hq
  have hx1 := (hm x hx).2.1
  have hy1 := (hm y hy).2.1
  apply Classical.byContradiction
  intro hn
  rw [not_or] at hn
  have h1 := Zcw hr hx hm (i := x.f0.f0 + (max x.f1.f1 y.f1.f1 - x.f1.f1)) (by omega) (by unfold endE; omega)
  have h2 := Zcw hr hy hm (i := y.f0.f0 + (max x.f1.f1 y.f1.f1 - y.f1.f1)) (by omega) (by unfold endE; omega)
  have := hi _ _ _ h1 (by rw [h2, hq]; congr 2; omega)
  unfold endE at hxy
  omega
 have hmem : ∀ x ∈ L, x ∈ L := fun x h => h
 rw [List.pairwise_iff_forall_sublist]
 intro a b hab
 have h1 := List.pairwise_iff_forall_sublist.1 hr hab
 exact key a (hab.subset (by simp)) b (hab.subset (by simp)) h1
structure Ivt (ns : List Int) (L : List S86) : Prop where
 ok : Okm L
 once : ∀ i j p, look L i = some p → look L j = some p → i = j
 seq : ∀ i q k, look L i = some (q, k) → ∃ (j : Nat) (h : j < ns.length), q = (j : Int) + 1 ∧ 0 ≤ k ∧ k < ns[j]
 ns : ∀ n ∈ ns, 0 ≤ n ∧ n ≤ 12
theorem Ivt.nil : Ivt [] [] := ⟨Okm.nil, fun _ _ _ h => (nomatch h), fun _ _ _ h => (nomatch h), by simp⟩
theorem Ivt.mem {ns : List Int} {L : List S86} (h : Ivt ns L) {x : S86} (hx : x ∈ L) : ∃ (j : Nat) (hj : j < ns.length), x.f1.f0 = (j : Int) + 1 ∧ 0 ≤ x.f1.f1 ∧ x.f1.f1 + x.f0.f1 ≤ ns[j] := by
 have hm := h.ok.canon.1 x hx
 have hx1 := hm.2.1
 obtain ⟨j, hj, h1, h2, h3⟩ := h.seq _ _ _ (Zcw h.ok.canon.rise hx h.ok.canon.1 (i := x.f0.f0) (Int.le_refl _) (by unfold endE; omega))
 obtain ⟨j', hj', h1', h2', h3'⟩ := h.seq _ _ _ (Zcw h.ok.canon.rise hx h.ok.canon.1 (i := endE x - 1) (by unfold endE; omega) (by omega))
 have e : j = j' := by omega
 subst e
 refine ⟨j, hj, h1, by omega, ?_⟩
 unfold endE at h3'
 omega
theorem Ivt.lenQ {ns : List Int} {L : List S86} (h : Ivt ns L) (j : Nat) (hj : j < ns.length) : 0 ≤ lenQ ((j : Int) + 1) L ∧ lenQ ((j : Int) + 1) L ≤ ns[j] := by
 refine ⟨lenQ_nonneg _ _ h.ok.canon.1, ?_⟩
 have hn := h.ns ns[j] (List.getElem_mem hj)
 obtain ⟨m, hm⟩ : ∃ m : Nat, ns[j] = (m : Int) := ⟨ns[j].toNat, by omega⟩
 rw [← Zdc ((j : Int) + 1) m L (once_of h.ok.canon.rise h.ok.canon.1 h.once) h.ok.canon.1 (fun x hx hq => ?_), hm]
 ·exact ZcT _ _
 ·obtain ⟨j', hj', h1, h2, h3⟩ := h.mem hx
  have e : j = j' := by omega
  subst e
  omega
def rowsOf (L : List S86) (ns : List Int) : List S51 := ns.mapIdx fun j n => ⟨(j : Int) + 1, n, lenQ ((j : Int) + 1) L⟩
theorem ZaK (L : List S86) (ns : List Int) : (rowsOf L ns).length = ns.length := List.length_mapIdx
theorem Zbj (L : List S86) (ns : List Int) (j : Nat) (h : j < ns.length) : (rowsOf L ns)[j]'(by rw [ZaK]; exact h) = ⟨(j : Int) + 1, ns[j], lenQ ((j : Int) + 1) L⟩ := by
 unfold rowsOf
 rw [List.getElem_mapIdx]
theorem rowsOf_may {ns : List Int} {L : List S86} (h : Ivt ns L) (hl : ns.length ≤ 1000) : ∀ x ∈ rowsOf L ns, MayR x := by
 intro x hx
 obtain ⟨j, hj, rfl⟩ := List.getElem_of_mem hx
 rw [ZaK] at hj
 rw [Zbj L ns j hj]
 have h1 := h.lenQ j hj
 have h2 := h.ns _ (List.getElem_mem hj)
 unfold MayR
 simp only
 omega
def stepF (L X : List S86) (C : List S70) (i : Int) : Option (Int × Int) := match look X i with
 | some p => some p
 | none => if C.any (fun c => decide (c.f0 ≤ i) && decide (i < endS c)) then none else look L i
theorem Ivt.step {ns : List Int} {L L' X : List S86} {C : List S70} {n : Int} (h : Ivt ns L) (ok : Okm L') (hl : ∀ i, look L' i = stepF L X C i) (hn : 0 ≤ n ∧ n ≤ 12)
  (hX1 : ∀ i q k, look X i = some (q, k) → q = (ns.length : Int) + 1 ∧ 0 ≤ k ∧ k < n) (hX2 : ∀ i j p, look X i = some p → look X j = some p → i = j) : Ivt (ns ++ [n]) L' := by
 refine ⟨ok, fun i j p hi hj => ?_, fun i q k hi => ?_, fun m hm => ?_⟩
 ·rw [hl] at hi hj
  unfold stepF at hi hj
  have old : ∀ (i : Int) (p : Int × Int), look X i = none → (if C.any (fun c => decide (c.f0 ≤ i) && decide (i < endS c)) then none else look L i) = some p → look L i = some p := fun i p _ h => by
   split at h
   ·cases h
   ·exact h
  cases hxi : look X i with
  | some a =>
   rw [hxi] at hi
   obtain ⟨q, k⟩ := a
   have ha := hX1 i q k hxi
   cases hxj : look X j with
   | some b =>
    rw [hxj] at hj
    simp only [Option.some.injEq] at hi hj
    subst hj
    exact hX2 i j _ (by rw [hxi, hi]) hxj
   | none =>
    rw [hxj] at hj
    have h1 := old j p hxj hj
    simp only [Option.some.injEq] at hi
    subst hi
    obtain ⟨m, hm, h2, _⟩ := h.seq _ _ _ h1
    omega
  | none =>
   rw [hxi] at hi
   have h1 := old i p hxi hi
   cases hxj : look X j with
   | some b =>
    rw [hxj] at hj
    obtain ⟨q, k⟩ := b
    have ha := hX1 j q k hxj
    simp only [Option.some.injEq] at hj
    subst hj
    obtain ⟨m, hm, h2, _⟩ := h.seq _ _ _ h1
    omega
   | none =>
    rw [hxj] at hj
    exact h.once i j p h1 (old j p hxj hj)
 ·rw [hl] at hi
  unfold stepF at hi
  cases hxi : look X i with
  | some a =>
   rw [hxi] at hi
   simp only [Option.some.injEq] at hi
   subst hi
   obtain ⟨h1, h2, h3⟩ := hX1 i q k hxi
   exact ⟨ns.length, by simp, h1, h2, by simpa using h3⟩
  | none =>
   rw [hxi] at hi
   simp only at hi
   split at hi
   ·cases hi
   ·obtain ⟨j, hj, h1, h2, h3⟩ := h.seq i q k hi
    exact ⟨j, by rw [List.length_append]; omega, h1, h2, by rw [List.getElem_append_left hj]; exact h3⟩
 ·rcases List.mem_append.1 hm with hm | hm
  ·exact h.ns m hm
  ·rw [List.mem_singleton.1 hm]; exact hn
def DiffOf (a b : List S86) (D : List S86) : Prop := Okm D ∧ ∀ i, look D i = if look a i = look b i then none else look a i
theorem diff_count {a b D1 D2 : List S86} (ha : Okm a) (hb : Okm b) (h1 : DiffOf a b D1) (h2 : DiffOf b a D2) (q : Int) : lenQ q D1 - lenQ q D2 = lenQ q a - lenQ q b := by
 rw [← ZcS q 64 D1 h1.1.canon.rise h1.1.canon.1 h1.1.ends, ← ZcS q 64 D2 h2.1.canon.rise h2.1.canon.1 h2.1.ends,
  ← ZcS q 64 a ha.canon.rise ha.canon.1 ha.ends, ← ZcS q 64 b hb.canon.rise hb.canon.1 hb.ends]
 refine cntP_four fun i _ _ => ?_
 rw [h1.2 i, h2.2 i]
 by_cases c : look a i = look b i
 ·rw [if_pos c, if_pos c.symm, c]
  simp [ofQ]
 ·have c2 : ¬ look b i = look a i := fun e => c e.symm
  rw [if_neg c, if_neg c2]
theorem diff_len {a b D : List S86} (hd : DiffOf a b D) (S : Int → Bool) (m : Int) (hS : ∀ i, look a i ≠ look b i → S i = true) (hm : cntP S 64 ≤ m) : (D.length : Int) ≤ m := by
 have h1 := len_lenA D hd.1.canon.1
 rw [← ZdC 64 D hd.1.canon.rise hd.1.canon.1 hd.1.ends] at h1
 have h2 : cntP (fun i => (look D i).isSome) 64 ≤ cntP S 64 := cntP_le fun i _ _ h => by
  rw [hd.2 i] at h
  split at h
  ·cases h
  ·rename_i c
   exact hS i c
 omega
def addRun (out : List S70) (at_ : Int) : List S70 := match out.getLast? with
 | none => [⟨at_, 1⟩]
 | some x => if endS x = at_ then out.dropLast ++ [⟨x.f0, x.f1 + 1⟩] else out ++ [⟨at_, 1⟩]
def runs (K : List Int) : List S70 := K.foldl addRun []
theorem Zde (a : Int) : addRun [] a = [⟨a, 1⟩] := rfl
theorem Zcz (out : List S70) (x : S70) (a : Int) : addRun (out ++ [x]) a = if endS x = a then out ++ [⟨x.f0, x.f1 + 1⟩] else out ++ [x] ++ [⟨a, 1⟩] := by
 unfold addRun
 simp
theorem ZdN (K : List Int) (a : Int) : runs (K ++ [a]) = addRun (runs K) a := by unfold runs; rw [List.foldl_append]; rfl
def covers (c : S70) (i : Int) : Bool := decide (c.f0 ≤ i) && decide (i < endS c)
def totS : List S70 → Int
 | [] => 0
 | x :: l => x.f1 + totS l
theorem Zby (x : S70) (l : List S70) : totS (x :: l) = x.f1 + totS l := rfl
theorem ZbM (l l' : List S70) : totS (l ++ l') = totS l + totS l' := by
 induction l with
 | nil => simp [totS]
 | cons x l ih => rw [List.cons_append, Zby, Zby, ih]; omega
theorem Za0 {c : S70} {i : Int} : covers c i = true ↔ c.f0 ≤ i ∧ i < endS c := by unfold covers; simp
structure SetS (S : List S70) (n : Int) : Prop where
 may : ∀ x ∈ S, MayS x
 sep : Sep S
 ends : ∀ x ∈ S, endS x ≤ n
theorem SetS.nil (n : Int) : SetS [] n := ⟨by simp, List.Pairwise.nil, by simp⟩
theorem runs_ok (n : Int) (hn : n ≤ 65536) (K : List Int) : K.Pairwise (· < ·) → (∀ k ∈ K, 0 ≤ k ∧ k < n) →
  SetS (runs K) n ∧ (∀ i, (runs K).any (covers · i) = true ↔ i ∈ K) ∧ totS (runs K) = K.length ∧ (∀ b, (∀ k ∈ K, k < b) → ∀ x ∈ runs K, endS x ≤ b) := by
 refine ZbR (P := fun K => K.Pairwise (· < ·) → (∀ k ∈ K, 0 ≤ k ∧ k < n) → SetS (runs K) n ∧ (∀ i, (runs K).any (covers · i) = true ↔ i ∈ K) ∧ totS (runs K) = K.length ∧ (∀ b, (∀ k ∈ K, k < b) → ∀ x ∈ runs K, endS x ≤ b)) (fun _ _ => ⟨SetS.nil n, by simp [runs], rfl, by simp [runs]⟩) (fun K a ih hs hb => ?_) K
 rw [List.pairwise_append] at hs
 obtain ⟨h1, h2, h3, h4⟩ := ih hs.1 (fun k hk => hb k (List.mem_append_left _ hk))
 have ha := hb a (by simp)
 have h5 := h4 a (fun k hk => hs.2.2 k hk a (by simp))
 rw [ZdN]
 have hlen : ((K ++ [a]).length : Int) = K.length + 1 := by simp
 rcases List.eq_nil_or_concat (runs K) with e | ⟨l, y, e⟩
 ·rw [e] at h2 h3 ⊢
  rw [Zde]
  have hK : K = [] := by
   have : (K.length : Int) = 0 := by rw [← h3]; rfl
   exact List.eq_nil_of_length_eq_zero (by omega)
  subst hK
  refine ⟨⟨fun x hx => ?_, List.pairwise_singleton _ _, fun x hx => ?_⟩, fun i => ?_, rfl, fun b hb x hx => ?_⟩
  ·rw [List.mem_singleton.1 hx]; unfold MayS; simp only; omega
  ·rw [List.mem_singleton.1 hx]; unfold endS; simp only; omega
  ·rw [List.any_cons, List.any_nil, Bool.or_false, Za0]
   unfold endS
   simp only [List.nil_append, List.mem_singleton]
   omega
  ·rw [List.mem_singleton.1 hx]; have := hb a (by simp); unfold endS; simp only; omega
 ·rw [List.concat_eq_append] at e
  rw [e] at h1 h2 h3 h5 ⊢
  rw [Zcz]
  have hy := h1.may y (by simp)
  have hya := h5 y (by simp)
  have hsep := h1.sep
  unfold Sep at hsep
  rw [List.pairwise_append] at hsep
  by_cases c : endS y = a
  ·rw [if_pos c]
   have ey : endS ⟨y.f0, y.f1 + 1⟩ = a + 1 := by unfold endS at *; simp only; omega
   refine ⟨⟨fun x hx => ?_, ?_, fun x hx => ?_⟩, fun i => ?_, ?_, fun b hb x hx => ?_⟩
   ·rcases List.mem_append.1 hx with hx | hx
    ·exact h1.may x (List.mem_append_left _ hx)
    ·rw [List.mem_singleton.1 hx]
     unfold MayS endS at *
     simp only
     omega
   ·unfold Sep
    rw [List.pairwise_append]
    exact ⟨hsep.1, List.pairwise_singleton _ _, fun x hx z hz => by rw [List.mem_singleton.1 hz]; exact hsep.2.2 x hx y (by simp)⟩
   ·rcases List.mem_append.1 hx with hx | hx
    ·exact h1.ends x (List.mem_append_left _ hx)
    ·rw [List.mem_singleton.1 hx, ey]
     omega
   ·have := h2 i
    rw [List.any_append, Bool.or_eq_true] at this ⊢
    simp only [List.any_cons, List.any_nil, Bool.or_false, Za0, ey, List.mem_append, List.mem_singleton] at this ⊢
    rw [← this, c]
    constructor
    ·rintro (h | h)
     ·exact .inl (.inl h)
     ·by_cases q : i < a
      ·exact .inl (.inr ⟨h.1, q⟩)
      ·exact .inr (by omega)
    ·rintro ((h | h) | h)
     ·exact .inl h
     ·exact .inr ⟨h.1, by omega⟩
     ·refine .inr ⟨?_, by omega⟩
      have := hy.2.1
      unfold endS at c
      omega
   ·rw [ZbM, Zby] at h3 ⊢
    rw [hlen, ← h3]
    simp only [totS]
    omega
   ·rcases List.mem_append.1 hx with hx | hx
    ·have := h5 x (List.mem_append_left _ hx)
     have := hb a (by simp)
     omega
    ·rw [List.mem_singleton.1 hx, ey]
     have := hb a (by simp)
     omega
  ·rw [if_neg c]
   have ea : endS ⟨a, 1⟩ = a + 1 := rfl
   refine ⟨⟨fun x hx => ?_, ?_, fun x hx => ?_⟩, fun i => ?_, ?_, fun b hb x hx => ?_⟩
   ·rcases List.mem_append.1 hx with hx | hx
    ·exact h1.may x hx
    ·rw [List.mem_singleton.1 hx]
     unfold MayS
     simp only
     omega
   ·unfold Sep
    rw [List.pairwise_append]
    refine ⟨h1.sep, List.pairwise_singleton _ _, fun x hx z hz => ?_⟩
    rw [List.mem_singleton.1 hz]
    rcases List.mem_append.1 hx with hx | hx
    ·have := hsep.2.2 x hx y (by simp)
     have := hy.2.1
     unfold endS at *
     simp only at *
     omega
    ·rw [List.mem_singleton.1 hx]
     simp only
     omega
   ·rcases List.mem_append.1 hx with hx | hx
    ·exact h1.ends x hx
    ·rw [List.mem_singleton.1 hx, ea]
     omega
   ·have := h2 i
    rw [List.any_append, Bool.or_eq_true, this, List.any_cons, List.any_nil, Bool.or_false, Za0, List.mem_append, List.mem_singleton, ea]
    simp only
    constructor
    ·rintro (h | h)
     ·exact .inl h
     ·exact .inr (by omega)
    ·rintro (h | h)
     ·exact .inl h
     ·exact .inr (by omega)
   ·rw [ZbM, h3, hlen]
    rfl
   ·rcases List.mem_append.1 hx with hx | hx
    ·have := h5 x hx
     have := hb a (by simp)
     omega
    ·rw [List.mem_singleton.1 hx, ea]
     have := hb a (by simp)
     omega
def extS (q a : Int) : List S70 → List S86
 | [] => []
 | s :: S => ⟨s, ⟨q, a⟩⟩ :: extS q (a + s.f1) S
theorem ZbO (q a : Int) (s : S70) (S : List S70) : extS q a (s :: S) = ⟨s, ⟨q, a⟩⟩ :: extS q (a + s.f1) S := rfl
theorem Zbg {S : List S70} (h : ∀ x ∈ S, MayS x) : 0 ≤ totS S := by
 induction S with
 | nil => exact Int.le_refl _
 | cons x S ih =>
  have := ih fun y hy => h y (by simp [hy])
  have := (h x (by simp)).2.1
  rw [Zby]
  omega
theorem Zcm {q : Int} : ∀ {S : List S70} {a : Int}, (∀ x ∈ S, MayS x) → ∀ x ∈ extS q a S, x.f0 ∈ S ∧ x.f1.f0 = q ∧ a ≤ x.f1.f1 ∧ x.f1.f1 + x.f0.f1 ≤ a + totS S
 | [], a, _ => by simp [extS]
 | s :: S, a, h => by
  intro x hx
  have hs := (h s (by simp)).2.1
  have ht := Zbg (S := S) fun y hy => h y (by simp [hy])
  rw [ZbO] at hx
  rw [Zby]
  rcases List.mem_cons.1 hx with rfl | hx
  ·exact ⟨by simp, rfl, Int.le_refl _, by simp only; omega⟩
  ·obtain ⟨h1, h2, h3, h4⟩ := Zcm (S := S) (a := a + s.f1) (fun y hy => h y (by simp [hy])) x hx
   exact ⟨by simp [h1], h2, by omega, by omega⟩
theorem extS_good {q : Int} {S : List S70} {a : Int} (hq : 0 ≤ q ∧ q < 1099511627776) (ha : 0 ≤ a) (hb : a + totS S ≤ 1000000) (h : ∀ x ∈ S, MayS x) : ∀ x ∈ extS q a S, Good x := by
 intro x hx
 obtain ⟨h1, h2, h3, h4⟩ := Zcm h x hx
 have hm := h _ h1
 have := hm.2.1
 unfold Good MayE MayS at *
 omega
theorem Zd6 {q : Int} : ∀ {S : List S70} {a : Int}, (∀ x ∈ S, MayS x) → Sep S → Rise (extS q a S)
 | [], a, _, _ => List.Pairwise.nil
 | s :: S, a, h, hs => by
  unfold Sep at hs
  rw [List.pairwise_cons] at hs
  unfold Rise
  rw [ZbO, List.pairwise_cons]
  refine ⟨fun y hy => ?_, Zd6 (fun z hz => h z (by simp [hz])) hs.2⟩
  have := hs.1 _ (Zcm (fun z hz => h z (by simp [hz])) y hy).1
  unfold endS at this
  unfold endE
  simp only
  omega
theorem extS_len (q a : Int) (S : List S70) : (extS q a S).length = S.length := by
 induction S generalizing a with
 | nil => rfl
 | cons s S ih => rw [ZbO, List.length_cons, List.length_cons, ih]
theorem lenA_ext (q a : Int) (S : List S70) : lenA (extS q a S) = totS S := by
 induction S generalizing a with
 | nil => rfl
 | cons s S ih => rw [ZbO, Zbq, Zby, ih]
theorem Zb2 {q : Int} {S : List S70} {a : Int} (h : ∀ x ∈ S, MayS x) {i q' k : Int} (hl : look (extS q a S) i = some (q', k)) : q' = q ∧ a ≤ k ∧ k < a + totS S := by
 obtain ⟨x, hx, h1, h2, h3⟩ := ZdB hl
 obtain ⟨g1, g2, g3, g4⟩ := Zcm h x hx
 injection h3 with h4 h5
 unfold endE at h2
 omega
theorem Zdl {q : Int} : ∀ {S : List S70} {a : Int}, (∀ x ∈ S, MayS x) → ∀ {i j : Int} {p : Int × Int}, look (extS q a S) i = some p → look (extS q a S) j = some p → i = j
 | [], a, _, i, j, p, hi, _ => by cases hi
 | s :: S, a, h, i, j, p, hi, hj => by
  have hS := fun z hz => h z (List.mem_cons_of_mem s hz)
  rw [ZbO, ZaA] at hi hj
  obtain ⟨q', k⟩ := p
  have ee : endE (⟨s, ⟨q, a⟩⟩ : S86) = s.f0 + s.f1 := rfl
  simp only [ee] at hi hj
  split at hi
  ·simp only [Option.some.injEq, Prod.mk.injEq] at hi
   split at hj
   ·simp only [Option.some.injEq, Prod.mk.injEq] at hj
    omega
   ·have := Zb2 hS hj
    omega
  ·split at hj
   ·simp only [Option.some.injEq, Prod.mk.injEq] at hj
    have := Zb2 hS hi
    omega
   ·exact Zdl hS hi hj
theorem ZdW {q : Int} (S : List S70) (a i : Int) : (look (extS q a S) i).isSome = S.any (covers · i) := by
 induction S generalizing a with
 | nil => rfl
 | cons s S ih =>
  rw [ZbO, ZaA, List.any_cons]
  have ee : endE (⟨s, ⟨q, a⟩⟩ : S86) = endS s := rfl
  simp only [ee]
  by_cases c : s.f0 ≤ i ∧ i < endS s
  ·rw [if_pos c, Za0.2 c]; rfl
  ·have : covers s i = false := by
    cases h : covers s i
    ·rfl
    ·exact absurd (Za0.1 h) c
   rw [if_neg c, this, Bool.false_or]
   exact ih _
theorem Zcn {S : List S70} (h : SetS S 64) : cntP (fun i => S.any (covers · i)) 64 = totS S := by
 have hm : ∀ x ∈ S, MayS x := h.may
 have hs : totS S ≤ 64 ∨ True := .inr trivial
 rw [← lenA_ext 1 0 S, ← Zco (p := fun i => (look (extS 1 0 S) i).isSome) fun i _ _ => ZdW S 0 i]
 have hr := Zd6 (q := 1) (a := 0) hm h.sep
 have key : ∀ (l : List S86), Rise l → (∀ x ∈ l, 0 ≤ x.f0.f0 ∧ 1 ≤ x.f0.f1 ∧ endE x ≤ 64) → cntP (fun i => (look l i).isSome) 64 = lenA l := by
  intro l hr hx
  have e : ∀ i, (look l i).isSome = (look (l.map fun x => ⟨x.f0, ⟨0, 0⟩⟩) i).isSome := by
   intro i
   clear hr hx
   induction l with
   | nil => rfl
   | cons x l ih =>
    rw [List.map_cons, ZaA, ZaA]
    show _ = (if x.f0.f0 ≤ i ∧ i < endE x then _ else _ : Option (Int × Int)).isSome
    split
    ·rfl
    ·exact ih
  have e2 : lenA l = lenA (l.map fun x => ⟨x.f0, ⟨0, 0⟩⟩) := by
   clear hr hx e
   induction l with
   | nil => rfl
   | cons x l ih => rw [List.map_cons, Zbq, Zbq, ih]
  rw [Zco fun i _ _ => e i, e2]
  refine ZdC 64 _ ?_ (fun y hy => ?_) (fun y hy => ?_)
  ·unfold Rise at *
   rw [List.pairwise_map]
   exact hr
  ·obtain ⟨x, h1, rfl⟩ := List.mem_map.1 hy
   have := hx x h1
   unfold MayE endE at *
   simp only
   omega
  ·obtain ⟨x, h1, rfl⟩ := List.mem_map.1 hy
   exact (hx x h1).2.2
 refine key _ hr fun x hx => ?_
 obtain ⟨h1, _⟩ := Zcm hm x hx
 have h2 := hm _ h1
 have h3 := h.ends _ h1
 unfold MayS endS at *
 unfold endE
 omega
structure ObjOk (P C : List S70) : Prop where
 p : SetS P 60
 c : SetS C 60
 one : P = [] ∨ C = []
 tot : totS P + totS C ≤ 12
theorem ObjOk.diff {P C : List S70} (h : ObjOk P C) {L L' : List S86} {q : Int} (hl : ∀ i, look L' i = stepF L (extS q 0 P) C i) (i : Int) (hd : look L' i ≠ look L i) : (P ++ C).any (covers · i) = true := by
 rw [hl] at hd
 unfold stepF at hd
 rw [List.any_append, Bool.or_eq_true]
 cases hx : look (extS q 0 P) i with
 | some p =>
  left
  rw [← ZdW (q := q) P 0 i, hx]
  rfl
 | none =>
  right
  rw [hx] at hd
  cases hc : C.any (covers · i) with
  | true => rfl
  | false =>
   simp only at hd
   unfold covers at hc
   rw [hc] at hd
   exact absurd rfl hd
theorem ObjOk.cnt {P C : List S70} (h : ObjOk P C) : cntP (fun i => (P ++ C).any (covers · i)) 64 ≤ 12 := by
 have h1 : ∀ S : List S70, SetS S 60 → SetS S 64 := fun S h => ⟨h.may, h.sep, fun x hx => by have := h.ends x hx; omega⟩
 have h2 := h.tot
 have hp := Zbg h.p.may
 have hc := Zbg h.c.may
 rcases h.one with rfl | rfl
 ·rw [List.nil_append, Zcn (h1 _ h.c)]; omega
 ·rw [List.append_nil, Zcn (h1 _ h.p)]; omega
theorem ObjOk.step {P C : List S70} (h : ObjOk P C) {ns : List Int} {L L' : List S86} (hi : Ivt ns L) (ok : Okm L') (hl : ∀ i, look L' i = stepF L (extS ((ns.length : Int) + 1) 0 P) C i) : Ivt (ns ++ [totS P]) L' := by
 have hp := Zbg h.p.may
 have hc := Zbg h.c.may
 have ht := h.tot
 refine hi.step ok hl (by omega) (fun i q k hk => ?_) (fun i j p h1 h2 => Zdl h.p.may h1 h2)
 have := Zb2 h.p.may hk
 omega
def cutN (L : List S86) (at_ : Int) : Nat := (L.takeWhile fun x => decide (endE x ≤ at_)).length
theorem cutN_cons (x : S86) (L : List S86) (at_ : Int) : cutN (x :: L) at_ = if endE x ≤ at_ then cutN L at_ + 1 else 0 := by
 unfold cutN
 rw [List.takeWhile_cons]
 by_cases h : endE x ≤ at_ <;> simp [h]
theorem cutN_le (L : List S86) (at_ : Int) : cutN L at_ ≤ L.length := by
 induction L with
 | nil => exact Nat.le_refl _
 | cons x L ih =>
  rw [cutN_cons]
  split <;> simp <;> omega
theorem Zd9 (at_ : Int) : ∀ (L : List S86), Rise L → (∀ x ∈ L, MayE x) → ∀ k (h : k < L.length), (k < cutN L at_ → endE L[k] ≤ at_) ∧ (cutN L at_ ≤ k → at_ < endE L[k])
 | [], _, _, k, h => absurd h (Nat.not_lt_zero _)
 | x :: L, hr, hm, k, h => by
  unfold Rise at hr
  rw [List.pairwise_cons] at hr
  have ih := Zd9 at_ L hr.2 (fun y hy => hm y (by simp [hy]))
  rw [cutN_cons]
  by_cases c : endE x ≤ at_
  ·rw [if_pos c]
   cases k with
   | zero => exact ⟨fun _ => c, fun h => by omega⟩
   | succ k =>
    have := ih k (by simpa using h)
    rw [List.getElem_cons_succ]
    exact ⟨fun h => this.1 (by omega), fun h => this.2 (by omega)⟩
  ·rw [if_neg c]
   refine ⟨fun h => by omega, fun _ => ?_⟩
   cases k with
   | zero => rw [List.getElem_cons_zero]; omega
   | succ k =>
    rw [List.getElem_cons_succ]
    have hk : k < L.length := by simpa using h
    have h1 := hr.1 L[k] (List.getElem_mem hk)
    have h2 := (hm L[k] (by simp)).2.1
    unfold endE at *
    omega
theorem cutN_cutat {L : List S86} (hr : Rise L) (hm : ∀ x ∈ L, MayE x) (at_ : Int) : Cutat L at_ (cutN L at_) :=
 ⟨cutN_le L at_, fun k h => (Zd9 at_ L hr hm k h).1, fun k h => (Zd9 at_ L hr hm k h).2⟩
theorem bs86_one (A : Option Addr) (c : Nat) (L : List S86) (at_ : Int) (w : World) (hr : Kd.C k86 w A L.length L) (hl : L.length ≤ 100000) (hm : ∀ x ∈ L, MayE x) (hri : Rise L) (ha : 0 ≤ at_ ∧ at_ ≤ 1000000) :
  Calls Tryz.prog 117 #[.slice A L.length c, .int .i64 at_, .func (.func 118) #[] #[]] w fun e w' => e = .returned (.tuple #[.int .i64 (cutN L at_ : Int), .bool (bsB L at_ (cutN L at_))]) ∧ Below w.heap.size w w' :=
 (bs86_calls A c L at_ w hr hl hm hri ha).mono fun e w' ⟨i, he, hc, hb⟩ => by
  have := cutat_one hc (cutN_cutat hri hm at_)
  subst this
  exact ⟨he, hb⟩
def offA (A : Option Addr) (c n s : Nat) : Option Addr := if c = n then A else A.map (fun x => x.add (n * s))
theorem c_drop {α : Type} {k : Kd α} {w : World} {A : Option Addr} {l : List α} {c : Nat} (h : Kd.C k w A l.length l) (n : Nat) (hn : n ≤ l.length) (hc : l.length ≤ c) : Kd.C k w (offA A c n k.sz) (l.length - n) (l.drop n) := by
 obtain ⟨h1, h2, h3⟩ := h
 refine ⟨by rw [List.length_drop], by omega, fun hp => ?_⟩
 obtain ⟨ad, e, hr⟩ := h3 (by omega)
 refine ⟨ad.add (n * k.sz), by unfold offA; rw [if_neg (by omega), e]; rfl, fun j p hj => ?_⟩
 rw [List.getElem?_drop] at hj
 obtain ⟨cs, g1, g2, g3⟩ := hr (n + j) p hj
 refine ⟨cs, g1, g2, fun i u hu => ?_⟩
 have := g3 i u hu
 rw [Addr.add_add]
 rw [← this]
 congr 2
 rw [Nat.add_mul, Nat.add_assoc]
theorem c_mid {α : Type} {k : Kd α} {w : World} {A : Option Addr} {l : List α} {c : Nat} (h : Kd.C k w A l.length l) (m n : Nat) (hmn : m ≤ n) (hn : n ≤ l.length) (hc : l.length ≤ c) : Kd.C k w (offA A c m k.sz) (n - m) ((l.take n).drop m) := by
 have h1 := c_take h n hn
 have e : n = (l.take n).length := by rw [List.length_take]; omega
 obtain ⟨h1, h2, h3⟩ := h
 refine ⟨by rw [List.length_drop, List.length_take]; omega, by omega, fun hp => ?_⟩
 obtain ⟨ad, e, hr⟩ := h3 (by omega)
 refine ⟨ad.add (m * k.sz), by unfold offA; rw [if_neg (by omega), e]; rfl, fun j p hj => ?_⟩
 rw [List.getElem?_drop] at hj
 have hjl : m + j < n := by
  have := (List.getElem?_eq_some_iff.1 hj).1
  rw [List.length_take] at this
  omega
 rw [List.getElem?_take_of_lt hjl] at hj
 obtain ⟨cs, g1, g2, g3⟩ := hr (m + j) p hj
 refine ⟨cs, g1, g2, fun i u hu => ?_⟩
 have := g3 i u hu
 rw [Addr.add_add]
 rw [← this]
 congr 2
 rw [Nat.add_mul, Nat.add_assoc]
theorem appC86 {ops : Array Oper} {o : Oper} {rest : List Oper} {a : Act} {Q : Exit → Act → World → Prop} {W : World} (hg : o.guard = none) (s x : Operand)
  (ho : o.op = .call { callee := .builtin .append, args := #[s, x], argTypes := #[31, 31] }) (A : Option Addr) (xs : List S86) (p : S86) (hs : a.eval s = .slice A xs.length xs.length) (hx : a.eval x = .slice (some ⟨W.heap.size, 0, none⟩) 1 1)
  (HC : Kd.C k86 W A xs.length xs) (hl : xs.length ≤ 100000)
  (h : ∀ g1 c1 w1, k86.R 86 w1 W.heap.size (fun _ => True) (.slice (some ⟨g1, 0, none⟩) (xs.length + 1) c1) (xs ++ [p]) → RowKit.Below W.heap.size W w1 → wpList Tryz.prog ops Q rest (a.put o.dst (.slice (some ⟨g1, 0, none⟩) (xs.length + 1) c1)) w1) :
  wpList Tryz.prog ops Q (o :: rest) a (W.alloc (.cells #[.int .i64 p.f0.f0, .int .i64 p.f0.f1, .int .i64 p.f1.f0, .int .i64 p.f1.f1] 86)) := by
 cases A with
 | none =>
  have h0 := c_none HC
  subst h0
  refine app86 hg s x ho (.slice none 0 0) [] p hs hx (base := W.heap.size) (Kd.R_nil _ _ _ _ _) (Nat.le_refl _) (by simp) ?_
  intro v1 w1 hr hb _
  obtain ⟨g, c, rfl, _⟩ := Kd.R_form hr (by simp)
  exact h g c w1 hr hb
 | some b =>
  obtain ⟨i0, hi, hz0, hz1, hz2⟩ := info_parts info86
  obtain ⟨inner, hrep, hcell⟩ := ReadsRow.inner_ HC
  have hb1 := Zab (Below.refl _ W) (.cells #[.int .i64 p.f0.f0, .int .i64 p.f0.f1, .int .i64 p.f1.f0, .int .i64 p.f1.f1] 86)
  have hnb := Zas W (.cells #[.int .i64 p.f0.f0, .int .i64 p.f0.f1, .int .i64 p.f1.f0, .int .i64 p.f1.f1] 86)
  have hsz : W.heap.size ≤ (W.alloc (.cells #[.int .i64 p.f0.f0, .int .i64 p.f0.f1, .int .i64 p.f1.f0, .int .i64 p.f1.f1] 86)).heap.size := hb1.size
  have hcell' : ∀ j u, inner[j]? = some u → (W.alloc (.cells #[.int .i64 p.f0.f0, .int .i64 p.f0.f1, .int .i64 p.f1.f0, .int .i64 p.f1.f1] 86)).cell? (b.add j) = some u := fun j u hu => Zam hb1 (hcell j u hu)
  generalize (W.alloc (.cells #[.int .i64 p.f0.f0, .int .i64 p.f0.f1, .int .i64 p.f1.f0, .int .i64 p.f1.f1] 86)) = W1 at hb1 hnb hsz hcell' ⊢
  have hnews : ∀ j u, [Value.int .i64 p.f0.f0, .int .i64 p.f0.f1, .int .i64 p.f1.f0, .int .i64 p.f1.f1][j]? = some u → W1.cell? ((⟨W.heap.size, 0, none⟩ : Addr).add j) = some u := by
   intro j u hj
   rw [Za9, Nat.zero_add, Zaa hnb, ← hj]
   match j with
   | 0 => rfl
   | 1 => rfl
   | 2 => rfl
   | 3 => rfl
   | j + 4 => rfl
  have hnx : Builtin.nextslicecap (xs.length + 1) xs.length * i0.bytes ≤ 281474976710656 := growslice_fits (by omega) (by rw [hz2]; omega)
  have hr := run_append_grow (P := Tryz.prog) W1 31 o.type 86 i0 _ Tryz.underlying31 hi hz0 b xs.length xs.length inner (by rw [hrep.1, hz1]; rfl) hcell' ⟨W.heap.size, 0, none⟩ 1 1 _ (by rw [hz1]; rfl) hnews (by omega) (by omega) hnx
  have hge : xs.length + 1 ≤ grownCap W1 (xs.length + 1) xs.length 86 := grownCap_ge W1 _ _ _
  have hmax := grownCap_le_maxLen W1 (xs.length + 1) xs.length 86 (by unfold maxLen; omega)
  have hzc : (Value.agg #[.int .i64 0, .int .i64 0, .int .i64 0, .int .i64 0]).cells.size = 4 := rfl
  have hR : k86.R 86 (W1.drew.alloc (.cells (inner.toArray ++ [Value.int .i64 p.f0.f0, .int .i64 p.f0.f1, .int .i64 p.f1.f0, .int .i64 p.f1.f1].toArray ++ Builtin.zeroCells (Value.agg #[.int .i64 0, .int .i64 0, .int .i64 0, .int .i64 0]).cells (grownCap W1 (xs.length + 1) xs.length 86 - (xs.length + 1))) 86)) W.heap.size (fun _ => True) (.slice (some ⟨W1.heap.size, 0, none⟩) (xs.length + 1) (grownCap W1 (xs.length + 1) xs.length 86)) (xs ++ [p]) := by
   have hin : inner.length = xs.length * 4 := hrep.1
   refine ⟨fun _ _ => trivial, inner ++ [.int .i64 p.f0.f0, .int .i64 p.f0.f1, .int .i64 p.f1.f0, .int .i64 p.f1.f1], ⟨?_, .inr ⟨W1.heap.size, _, _, ?_, hsz, Zas W1.drew _, ?_, hmax, ?_, ?_⟩⟩, Reps.snoc (hrep.imp_ (fun x cs hk => k86_KM x cs hk)) (Zc8 _ _ _ p) rfl⟩
   ·rw [List.length_append, hin, List.length_append]
    show xs.length * 4 + 4 = (xs.length + 1) * 4
    omega
   ·rw [List.length_append]; rfl
   ·rw [List.length_append]; exact hge
   ·rw [Array.size_append, size_zeroCells, hzc, Array.size_append, List.size_toArray, List.size_toArray, hin]
    show xs.length * 4 + 4 + _ * 4 = _ * 4
    omega
   ·rw [List.length_append]
    simp only [Array.toList_append, List.length_singleton]
    rw [List.take_append_of_le_length (by
     show (xs.length + 1) * 4 ≤ (inner ++ _).length
     rw [List.length_append, hin]
     show _ ≤ xs.length * 4 + 4
     omega)]
    refine List.take_of_length_le ?_
    show (inner ++ _).length ≤ (xs.length + 1) * 4
    rw [List.length_append, hin]
    show xs.length * 4 + 4 ≤ _
    omega
  have hB := (ZaV hb1).alloc (by exact hsz) (.cells (inner.toArray ++ [Value.int .i64 p.f0.f0, .int .i64 p.f0.f1, .int .i64 p.f1.f0, .int .i64 p.f1.f1].toArray ++ Builtin.zeroCells (Value.agg #[.int .i64 0, .int .i64 0, .int .i64 0, .int .i64 0]).cells (grownCap W1 (xs.length + 1) xs.length 86 - (xs.length + 1))) 86)
  refine wpList_plain hg fun K hK => ?_
  unfold Oper.wp execOp
  simp only [ho, resolve, invoke, builtin, Sem.run_bind, Sem.run_pure, Result.andThen_ok, List.map_toArray, List.map_cons, List.map_nil, hs, hx, hr]
  exact hK _ _ (h _ _ _ hR hB)
def Stay (w : World) (r : Option Nat) (A : Option Addr) (L : List S86) : Prop := ∀ w', w.grownBy w' r → Kd.C k86 w' A L.length L
theorem ZbJ (w : World) (r : Option Nat) : w.grownBy w r := ⟨rfl, rfl, rfl, Nat.le_refl _, fun _ _ _ => rfl⟩
theorem Stay.now {w : World} {r : Option Nat} {A : Option Addr} {L : List S86} (h : Stay w r A L) : Kd.C k86 w A L.length L := h w (ZbJ w r)
theorem Stay.step {w w1 : World} {r r1 : Option Nat} {A : Option Addr} {L : List S86} (h : Stay w r A L) (hg : w.grownBy w1 r) (hr : r1 = r ∨ ∃ b, r1 = some b ∧ w.heap.size ≤ b) : Stay w1 r1 A L := fun w' hg' =>
 h w' (hg.andThen hg' fun j hj => by
  rcases hr with rfl | ⟨b, rfl, hb⟩
  ·exact .inr hj
  ·exact .inl (by rw [← Option.some.inj hj]; exact hb))
theorem Stay.below {w w1 : World} {r : Option Nat} {A : Option Addr} {L : List S86} (h : Stay w r A L) (hb : Below w.heap.size w w1) : Stay w1 r A L := h.step (Zax hb r) (.inl rfl)
theorem Stay.of_nil {w : World} {A : Option Addr} {L : List S86} (h : Kd.C k86 w A L.length L) : Stay w none A L := fun w' hg => Kd.C_below h ⟨hg.os, hg.tape, hg.output, hg.size, fun k hk => hg.block k hk (by simp)⟩
theorem Stay.of_R {W w : World} {r : Option Nat} {v : Value} {L : List S86} (h : k86.R 86 w W.heap.size (fun _ => True) v L) (hr : ∀ j, r = some j → j < W.heap.size) : ∃ A c, v = .slice A L.length c ∧ L.length ≤ c ∧ Stay w r A L := by
 obtain ⟨A, c, rfl, hc, _⟩ := Kd.R_reads h
 refine ⟨A, c, rfl, hc, fun w' hg => ?_⟩
 have h2 : k86.R 86 w W.heap.size (fun k => W.heap.size ≤ k) (.slice A L.length c) L := Kd.R_mono (Kd.R_bound h) fun k hk => hk.2.1
 exact (Kd.R_reads' (Kd.R_grown h2 hg fun k hk e => absurd (hr k e.symm) (by omega))).2.2
theorem c_away {w : World} {g : Nat} {ad : Addr} {n c : Nat} {X : Option Addr} {L : List S86} (hb : w.heap[g]? = some (.cells #[.slice X n c] 72 (0, 0))) (h : Kd.C k86 w (some ad) L.length L) (hp : 0 < L.length) : ad.block ≠ g := by
 intro e
 obtain ⟨ad', e', h0, _⟩ := ZaF h 0 hp
 cases e'
 rw [Nat.zero_mul] at h0
 have e0 : ad.add 0 = ad := by unfold Addr.add; simp
 rw [e0] at h0
 obtain ⟨b, o, f⟩ := ad
 simp only at e
 subst e
 simp only [World.cell?, hb] at h0
 cases f with
 | some f => simp at h0
 | none =>
  cases o with
  | zero => simp at h0
  | succ o => simp at h0
theorem Stay.of_map {w : World} {g n c : Nat} {X A : Option Addr} {L : List S86} (hb : w.heap[g]? = some (.cells #[.slice X n c] 72 (0, 0))) (h : Kd.C k86 w A L.length L) : Stay w (some g) A L := by
 intro w' hg
 by_cases hp : 0 < L.length
 ·obtain ⟨h1, h2, h3⟩ := h
  obtain ⟨ad, e, hr⟩ := h3 hp
  subst e
  have hne := c_away hb ⟨h1, h2, h3⟩ hp
  refine ⟨h1, h2, fun _ => ⟨ad, rfl, fun j p hj => ?_⟩⟩
  obtain ⟨cs, g1, g2, g3⟩ := hr j p hj
  refine ⟨cs, g1, ?_, fun i u hu => ?_⟩
  ·rw [ZcL g2]; exact k86_mk w' p
  ·have h4 := g3 i u hu
   have hbl : (ad.add (j * k86.sz + i)).block = ad.block := by
    unfold Addr.add
    split <;> rfl
   have hlt : ad.block < w.heap.size := by
    have := World.block_lt_of_cell? w _ h4
    rw [hbl] at this
    exact this
   rw [← h4]
   refine World.cell?_of_block ?_
   rw [hbl]
   exact hg.block _ hlt (fun e => hne (Option.some.inj e))
 ·have : L = [] := List.eq_nil_of_length_eq_zero (by omega)
  subst this
  exact ⟨rfl, by simp, fun h => absurd h (by simp)⟩
theorem c_two {w : World} {A B : Option Addr} {a b c d : Nat} {X Y : List S86} {g t : Nat} (hb : w.heap[g]? = some (.cells #[.slice A a c, .slice B b d] t)) (ha : a = X.length) (hbl : b = Y.length) (hac : X.length ≤ c) (hbd : Y.length ≤ d) (hX : Kd.C k86 w A X.length X) (hY : Kd.C k86 w B Y.length Y) :
  Kd.C (Kd.slice 86 k86) w (some ⟨g, 0, none⟩) [X, Y].length [X, Y] := by
 subst ha hbl
 refine ⟨rfl, by simp, fun _ => ⟨_, rfl, fun j p hj => ?_⟩⟩
 match j, hj with
 | 0, hj =>
  cases hj
  refine ⟨[.slice A X.length c], rfl, ⟨A, c, rfl, hac, hX⟩, fun i u hu => ?_⟩
  match i, hu with
  | 0, hu => cases hu; rw [Za9, Zaa hb]; rfl
 | 1, hj =>
  cases hj
  refine ⟨[.slice B Y.length d], rfl, ⟨B, d, rfl, hbd, hY⟩, fun i u hu => ?_⟩
  match i, hu with
  | 0, hu => cases hu; rw [Za9, Zaa hb]; rfl
theorem app86h {ops : Array Oper} {o : Oper} {rest : List Oper} {a : Act} {Q : Exit → Act → World → Prop} {W : World} {base : Nat} (hg : o.guard = none) (s x : Operand)
  (ho : o.op = .call { callee := .builtin .append, args := #[s, x], argTypes := #[31, 31] }) (v : Value) (xs : List S86) (p : S86) (hs : a.eval s = v) (hx : a.eval x = .slice (some ⟨W.heap.size, 0, none⟩) 1 1)
  (HO : k86.R 86 W base (fun _ => True) v xs) (hbase : base ≤ W.heap.size) (hl : xs.length ≤ 1000000)
  (h : ∀ v1 w1, k86.R 86 w1 base (fun _ => True) v1 (xs ++ [p]) → RowKit.Below base W w1 → W.grownBy w1 v.ownBlock → (v1.ownBlock = v.ownBlock ∨ ∃ b, v1.ownBlock = some b ∧ W.heap.size ≤ b) → wpList Tryz.prog ops Q rest (a.put o.dst v1) w1) :
  wpList Tryz.prog ops Q (o :: rest) a (W.alloc (.cells #[.int .i64 p.f0.f0, .int .i64 p.f0.f1, .int .i64 p.f1.f0, .int .i64 p.f1.f1] 86)) :=
 Kd.R_append k86 (w0 := W) base hg s x 31 86 (.agg #[.int .i64 0, .int .i64 0, .int .i64 0, .int .i64 0]) 32 ho Tryz.underlying31 info86 rfl (by decide) (by decide) v xs p [.int .i64 p.f0.f0, .int .i64 p.f0.f1, .int .i64 p.f1.f0, .int .i64 p.f1.f1] (fun _ => True) (fun _ => False) hs hx (Zc8 _ _ _ p) (fun _ hk => hk.elim) (fun _ _ => trivial) HO (Below.refl _ _) hbase (by omega) (fun v1 w1 h1 h2 h3 h4 => h v1 w1 h1 h2 h3 h4)
theorem c_lit86 {w : World} {g : Nat} {a b c d : Int} (h : w.heap[g]? = some (.cells #[.int .i64 a, .int .i64 b, .int .i64 c, .int .i64 d] 86)) : Kd.C k86 w (some ⟨g, 0, none⟩) [(⟨⟨a, b⟩, ⟨c, d⟩⟩ : S86)].length [⟨⟨a, b⟩, ⟨c, d⟩⟩] := by
 refine ⟨rfl, by simp, fun _ => ⟨_, rfl, fun j p hj => ?_⟩⟩
 match j, hj with
 | 0, hj =>
  cases hj
  refine ⟨_, rfl, k86_mk w _, fun i u hu => ?_⟩
  rw [Za9, Nat.zero_add, Zaa h, ← hu]
  match i with
  | 0 => rfl
  | 1 => rfl
  | 2 => rfl
  | 3 => rfl
  | i + 4 => rfl
theorem ahead_len (s : Int) (l : List S86) : ∀ acc, (l.foldl (aheadE s) acc).length ≤ acc.length + l.length := by
 induction l with
 | nil => intro acc; exact Nat.le_refl _
 | cons x l ih =>
  intro acc
  rw [List.foldl_cons]
  have := ih (aheadE s acc x)
  have h2 : (aheadE s acc x).length ≤ acc.length + 1 := by unfold aheadE; split <;> simp
  rw [List.length_cons]
  omega
theorem behind_len (s : Int) (l : List S86) : ∀ acc, (l.foldl (behindE s) acc).length ≤ acc.length + l.length := by
 induction l with
 | nil => intro acc; exact Nat.le_refl _
 | cons x l ih =>
  intro acc
  rw [List.foldl_cons]
  have := ih (behindE s acc x)
  have h2 : (behindE s acc x).length ≤ acc.length + 1 := by unfold behindE; split <;> simp
  rw [List.length_cons]
  omega
theorem mid_props {L : List S86} {m n : Nat} (hmn : m ≤ n) (hn : n ≤ L.length) : ((L.take n).drop m).length = n - m ∧ ∀ i (h : i < n - m), ∃ h1 h2, ((L.take n).drop m)[i]'h1 = L[m + i]'h2 := by
 refine ⟨by rw [List.length_drop, List.length_take]; omega, fun i h => ⟨by rw [List.length_drop, List.length_take]; omega, by omega, ?_⟩⟩
 rw [List.getElem_drop, List.getElem_take]
attribute [local go_sem] Za5 Za4 Zbp Zbo
set_option maxRecDepth 100000 in
set_option maxHeartbeats 4000000 in
theorem Zds (g : Nat) (L : List S86) (s : S70) (w : World) (hM : MapAt w g L) (hl : L.length ≤ 10000) (hm : ∀ x ∈ L, MayE x) (hri : Rise L) (hs : MayS s) :
  Calls Tryz.prog 76 #[.pointer (some ⟨g, 0, none⟩), .agg #[.int .i64 s.f0, .int .i64 s.f1]] w fun e w' => ∃ A1 c1 A2 c2 A3 c3,
   e = .returned (.tuple #[.slice A1 (cutTo L s.f0).length c1, .slice A2 (cutMid L s.f0 (endS s)).length c2, .slice A3 (cutFrom L (endS s)).length c3]) ∧
   ((cutTo L s.f0).length ≤ c1 ∧ (cutMid L s.f0 (endS s)).length ≤ c2 ∧ (cutFrom L (endS s)).length ≤ c3) ∧
   (Kd.C k86 w' A1 (cutTo L s.f0).length (cutTo L s.f0) ∧ Kd.C k86 w' A2 (cutMid L s.f0 (endS s)).length (cutMid L s.f0 (endS s)) ∧ Kd.C k86 w' A3 (cutFrom L (endS s)).length (cutFrom L (endS s))) ∧ Below w.heap.size w w' := by
 have hu31 := Tryz.underlying31
 have hu86 := Tryz.underlying86
 have hu70 := Tryz.underlying70
 have hu72 := Tryz.underlying72
 have hu25 := Tryz.underlying25
 obtain ⟨A, c, hg, hc, hC⟩ := hM.reads
 obtain ⟨s0, s1⟩ := s
 have hss : 0 ≤ s0 ∧ 1 ≤ s1 ∧ s0 + s1 ≤ 65536 := hs
 have hes : endS ⟨s0, s1⟩ = s0 + s1 := rfl
 rw [hes]
 simp only
 have hbn := Zas w (.cells #[.int .i64 s0, .int .i64 s1] 70)
 have hb1 := Zab (Below.refl _ w) (.cells #[.int .i64 s0, .int .i64 s1] 70)
 have HBB := Aside0.mk hb1
 have HE := Aside0.mk (fun W => ZaN s0 s1 hs W)
 have HG := Aside0.mk hg
 have p0 := Zap (Zam hb1 ((Zaa hg 0).trans rfl : w.cell? ⟨g, 0, none⟩ = some (.slice A L.length c)))
 have p1 := Zap ((Zaa hbn 0).trans rfl)
 have p2 := Zap ((Zaa hbn 1).trans rfl)
 have HBN := Aside0.mk hbn
 have HS := Aside0.mk (fun (p : Abv (w.alloc (.cells #[.int .i64 s0, .int .i64 s1] 70))) => bs86_one A c L s0 p.out (Kd.C_below (Kd.C_below hC hb1) p.bel) (by omega) hm hri (by omega))
 have HC := Aside0.mk hC
 have HM := Aside0.mk hm
 have HR := Aside0.mk hri
 have HX := Aside0.mk (cutN_cutat hri hm s0)
 clear hM hg hC hbn hb1 hm hri
 generalize hfrom : cutN L s0 = from_ at HS HX
 go_enter Tryz.func76, Tryz.ntmps76
 go_wp2_with (fail)
 refine Zav (by kernel_rfl) (by kernel_rfl) ?_
 repeat (refine WQ.step (fun K hK => ?_); go_simp; first | (refine hK _ ?_; clear hK K) | (apply Exists.intro; refine ⟨fun _ => ?_, hK _ ?_⟩; ((go_at_call 117; exact abv_of (HS.out _))); clear hK K))
 refine WQ.nil ?_
 rintro w2 ⟨⟨w2', hb2⟩, rfl⟩
 have h2n := Zag HBN.out hb2
 have HB2 := Aside0.mk (Zae HBB.out hb2)
 have HS0 := Aside0.mk ((Zaa h2n 0).trans rfl : w2.cell? ⟨w.heap.size, 0, none⟩ = some (.int .i64 s0))
 have HS1 := Aside0.mk ((Zaa h2n 1).trans rfl : w2.cell? ⟨w.heap.size, 1, none⟩ = some (.int .i64 s1))
 have HG0 := Aside0.mk ((Zaa (Zag HG.out HB2.out) 0).trans rfl : w2.cell? ⟨g, 0, none⟩ = some (.slice A L.length c))
 have HC2 := Aside0.mk (Kd.C_below HC.out HB2.out)
 have HG2 := Aside0.mk (Zag HG.out HB2.out)
 clear p0 p1 p2 HS hb2 h2n HBB HBN hs hes
 go_upto_block 0 with fail
 go_cut [9] (fun v9 wx => ∃ k : Nat, v9 = .int .i64 (k : Int) ∧ from_ ≤ k ∧ k ≤ L.length ∧ Aside0 ((∀ j (h : j < L.length), from_ ≤ j → j < k → L[j].f0.f0 < s0 + s1) ∧ ∀ (h : k < L.length), s0 + s1 ≤ L[k].f0.f0) ∧ Aside0 (Below w2.heap.size w2 wx))
 case first =>
  go_wp2_with (fail)
  go_loopg [9] L.length (fun kx v9 wr => ∃ k : Nat, v9 = .int .i64 (k : Int) ∧ from_ ≤ k ∧ k ≤ L.length ∧ L.length - k ≤ kx ∧ Aside0 (∀ j (h : j < L.length), from_ ≤ j → j < k → L[j].f0.f0 < s0 + s1) ∧ Aside0 (Below w2.heap.size w2 wr))
  case atStart => exact ⟨from_, rfl, Nat.le_refl _, HX.out.1, by omega, ⟨fun j h h1 h2 => by omega⟩, ⟨Below.refl _ _⟩⟩
  case round =>
   obtain ⟨k, rfl, hk1, hk2, hk3, HP, HB⟩ := hrel
   have q0 := Zap (Zam HB.out HG0.out)
   have q1 := Zap (Zam HB.out HS0.out)
   have q2 := Zap (Zam HB.out HS1.out)
   by_cases hlt : k < L.length
   ·have hd1 : decide (k < L.length) = true := decide_eq_true hlt
    have hk1' : k + 1 ≤ L.length := hlt
    obtain ⟨ad, rfl, e0, _, _, _⟩ := ZaF (Kd.C_below HC2.out HB.out) k hlt
    have r0 := Zap e0
    clear e0
    have HL := Aside0.mk (rfl : L[k].f0.f0 = L[k].f0.f0)
    by_cases hle : L[k].f0.f0 < s0 + s1
    ·have hd2 : decide (L[k].f0.f0 < s0 + s1) = true := decide_eq_true hle
     have HN := Aside0.mk (show ∀ j (h : j < L.length), from_ ≤ j → j < k + 1 → L[j].f0.f0 < s0 + s1 from fun j h h1 h2 => by
      by_cases e : j = k
      ·subst e; exact hle
      ·exact HP.out j h h1 (by omega))
     as_aux_lemma =>
      generalize L[k].f0.f0 = y0 at r0 hd2
      clear hle HL
      go_wp2_with (fail)
      refine Zav (by kernel_rfl) (by kernel_rfl) ?_
      repeat (refine WQ.step (fun K hK => ?_); go_simp; first | (refine hK _ ?_; clear hK K) | (apply Exists.intro; refine ⟨fun _ => ?_, hK _ ?_⟩; ((go_at_call 24; exact abv_of (HE.out _))); clear hK K))
      refine WQ.nil ?_
      rintro w3 ⟨⟨w3', hb3⟩, rfl⟩
      go_wp2_with (fail)
      go_roundg (gk - 1)
      case measure => omega
      case rel => exact ⟨k + 1, by go_num, by omega, hk1', by omega, HN, ⟨Zae HB.out hb3⟩⟩
    ·have hd2 : decide (L[k].f0.f0 < s0 + s1) = false := decide_eq_false hle
     have HN := Aside0.mk (show (∀ j (h : j < L.length), from_ ≤ j → j < k → L[j].f0.f0 < s0 + s1) ∧ ∀ (h : k < L.length), s0 + s1 ≤ L[k].f0.f0 from ⟨HP.out, fun _ => by omega⟩)
     as_aux_lemma =>
      generalize L[k].f0.f0 = y0 at r0 hd2
      clear hle HL
      go_wp2_with (fail)
      refine Zav (by kernel_rfl) (by kernel_rfl) ?_
      repeat (refine WQ.step (fun K hK => ?_); go_simp; first | (refine hK _ ?_; clear hK K) | (apply Exists.intro; refine ⟨fun _ => ?_, hK _ ?_⟩; ((go_at_call 24; exact abv_of (HE.out _))); clear hK K))
      refine WQ.nil ?_
      rintro w3 ⟨⟨w3', hb3⟩, rfl⟩
      go_wp2_with (fail)
      go_meet
      case rel => exact ⟨k, rfl, hk1, hk2, HN, ⟨Zae HB.out hb3⟩⟩
   ·have hd1 : decide (k < L.length) = false := decide_eq_false hlt
    have HN := Aside0.mk (show (∀ j (h : j < L.length), from_ ≤ j → j < k → L[j].f0.f0 < s0 + s1) ∧ ∀ (h : k < L.length), s0 + s1 ≤ L[k].f0.f0 from ⟨HP.out, fun h => absurd h hlt⟩)
    as_aux_lemma =>
     go_wp2_with (fail)
     refine Zav (by kernel_rfl) (by kernel_rfl) ?_
     repeat (refine WQ.step (fun K hK => ?_); go_simp; first | (refine hK _ ?_; clear hK K) | (apply Exists.intro; refine ⟨fun _ => ?_, hK _ ?_⟩; (fail); clear hK K))
     refine WQ.nil ?_
     rintro w3 ⟨⟨w3', hb3⟩, rfl⟩
     go_wp2_with (fail)
     go_meet
     case rel => exact ⟨k, rfl, hk1, hk2, HN, ⟨Zae HB.out hb3⟩⟩
 case rest =>
  obtain ⟨k, rfl, hk1, hk2, HK, HB3⟩ := hcut
  have q0 := Zap (Zam HB3.out HG0.out)
  have hfc : from_ ≤ c := by omega
  have hkc : k ≤ c := by omega
  have cT := c_take HC2.out from_ HX.out.1
  have cD := c_drop HC2.out k hk2 hc
  have cM := c_mid HC2.out from_ k hk1 hk2 hc
  unfold offA at cD cM
  change Kd.C k86 w2 (if c = k then A else Option.map (fun x => x.add (k * 4)) A) _ _ at cD
  change Kd.C k86 w2 (if c = from_ then A else Option.map (fun x => x.add (from_ * 4)) A) _ _ at cM
  obtain ⟨B, eB⟩ : ∃ B, (if c = k then A else Option.map (fun x => x.add (k * 4)) A) = B := ⟨_, rfl⟩
  obtain ⟨M, eM⟩ : ∃ B, (if c = from_ then A else Option.map (fun x => x.add (from_ * 4)) A) = B := ⟨_, rfl⟩
  rw [eB] at cD
  rw [eM] at cM
  have HT := Aside0.mk cT
  have HD := Aside0.mk cD
  have HMd := Aside0.mk cM
  clear cT cD cM
  go_wp2_with (fail)
  refine Zav (by kernel_rfl) (by kernel_rfl) ?_
  repeat (refine WQ.step (fun K hK => ?_); go_simp; first | (refine hK _ ?_; clear hK K) | (apply Exists.intro; refine ⟨fun _ => ?_, hK _ ?_⟩; (fail); clear hK K))
  refine WQ.nil ?_
  rintro w5 ⟨⟨w5', hb5⟩, rfl⟩
  have HB5 := Aside0.mk (Zae HB3.out hb5)
  have HG5 := Aside0.mk (Zam HB5.out HG0.out)
  have HS05 := Aside0.mk (Zam HB5.out HS0.out)
  have HS15 := Aside0.mk (Zam HB5.out HS1.out)
  have g5 := HG5.out
  clear q0 hb5
  go_wp2_with (fail)
  clear eB eM g5
  obtain ⟨hml, hmg⟩ := mid_props hk1 hk2
  have hsplit : L = L.take from_ ++ (L.take k).drop from_ ++ L.drop k := by
   have h1 : L.take from_ = (L.take k).take from_ := by rw [List.take_take]; congr 1; omega
   rw [h1, List.take_append_drop, List.take_append_drop]
  have hsame := cut_same (L.take from_) ((L.take k).drop from_) (L.drop k) s0 (s0 + s1) (by omega) (by rw [← hsplit]; exact HR.out)
   (fun x hx => by
    obtain ⟨j, hj, rfl⟩ := List.getElem_of_mem hx
    rw [List.length_take] at hj
    rw [List.getElem_take]
    exact HX.out.2.1 j (by omega) (by omega))
   (fun x hx => by
    obtain ⟨j, hj, rfl⟩ := List.getElem_of_mem hx
    obtain ⟨h1, h2, h3⟩ := hmg j (by rw [← hml]; exact hj)
    rw [h3]
    exact ⟨HX.out.2.2 _ _ (by omega), HK.out.1 _ _ (by omega) (by omega)⟩)
   (fun x hx => by
    obtain ⟨j, hj, rfl⟩ := List.getElem_of_mem hx
    rw [List.length_drop] at hj
    rw [List.getElem_drop]
    by_cases h0 : j = 0
    ·subst h0
     exact HK.out.2 (by omega)
    ·have h1 := HK.out.2 (by omega)
     have h2 := List.pairwise_iff_getElem.1 HR.out k (k + j) (by omega) (by omega) (by omega)
     have h3 := (HM.out L[k] (List.getElem_mem _)).2.1
     unfold endE at h2
     omega)
   (by rw [← hsplit]; exact HM.out)
  rw [← hsplit] at hsame
  obtain ⟨e1, e2, e3⟩ := hsame
  have E1 := Aside0.mk e1
  have E2 := Aside0.mk e2
  have E3 := Aside0.mk e3
  have hmm : ∀ x ∈ (L.take k).drop from_, MayE x ∧ s0 < endE x ∧ x.f0.f0 < s0 + s1 := fun x hx => by
   obtain ⟨j, hj, rfl⟩ := List.getElem_of_mem hx
   obtain ⟨h1, h2, h3⟩ := hmg j (by rw [← hml]; exact hj)
   rw [h3]
   exact ⟨HM.out _ (List.getElem_mem _), HX.out.2.2 _ _ (by omega), HK.out.1 _ _ (by omega) (by omega)⟩
  have hl1 : (L.take from_).length = from_ := by rw [List.length_take]; omega
  have hl3 : (L.drop k).length = L.length - k := List.length_drop
  have hnn : k - from_ = ((L.take k).drop from_).length := hml.symm
  have hr1 : from_ = (L.take from_).length := hl1.symm
  have HT5 := Aside0.mk (Kd.C_below HT.out HB5.out)
  have HD5 := Aside0.mk (Kd.C_below HD.out HB5.out)
  have HMd5 := Aside0.mk (Kd.C_below HMd.out HB5.out)
  rw [← hl3] at HD5
  have hrm : Rise ((L.take k).drop from_) := (List.Pairwise.take HR.out).drop
  generalize hL1 : L.take from_ = L1 at HT5 hl1 hmm E1
  generalize hMd : (L.take k).drop from_ = Md at HMd5 hmm hml hrm E1 E2 E3
  generalize hL2 : L.drop k = L2 at HD5 hl3 E3
  rw [← hml] at HMd5
  have HMM := Aside0.mk hmm
  have hm4 : Md.length ≤ 10000 := by omega
  have HL1 := Aside0.mk hl1
  have HL3 := Aside0.mk hl3
  have hc1 : c - k ≥ L2.length := by omega
  have hln1 : L1.length ≤ 10000 := by omega
  have hln2 : L2.length ≤ 10000 := by omega
  have HRM := Aside0.mk hrm
  have HW5 := Aside0.mk (Zae HB2.out HB5.out)
  clear hrm hsplit e1 e2 e3 hmg hmm HK HX HR hL1 hMd hL2 HB3 HB5 HC2 HC HT HD HMd HG0 HG2 HB2 HS0 HS1 HG hfrom hnn hr1
  have HML := Aside0.mk hml
  have HT6 : Aside0 (Kd.C k86 w5 A L1.length L1) := ⟨by rw [hl1]; exact HT5.out⟩
  clear hl1 hl3 HT5
  go_loopg [4, 5, 6, 67] (k - from_) (fun kx v4 v5 v6 v67 wr => ∃ i : Nat, v67 = .int .i64 (i : Int) ∧ i ≤ k - from_ ∧ k - from_ - i ≤ kx ∧
   (∃ A1 c1, v4 = .slice A1 ((Md.take i).foldl (aheadE s0) L1).length c1 ∧ Aside0 (((Md.take i).foldl (aheadE s0) L1).length ≤ c1 ∧ (i = 0 → c1 = ((Md.take i).foldl (aheadE s0) L1).length)) ∧ Aside0 (Stay wr v5.ownBlock A1 ((Md.take i).foldl (aheadE s0) L1))) ∧
   Aside0 (k86.R 86 wr w5.heap.size (fun _ => True) v5 ((Md.take i).map (inE s0 (s0 + s1)))) ∧
   (∃ A3 c3, v6 = .slice A3 ((Md.take i).foldl (behindE (s0 + s1)) L2).length c3 ∧ Aside0 (((Md.take i).foldl (behindE (s0 + s1)) L2).length ≤ c3) ∧ Aside0 (Stay wr v5.ownBlock A3 ((Md.take i).foldl (behindE (s0 + s1)) L2))) ∧
   Aside0 (Below w5.heap.size w5 wr))
  case atStart => exact ⟨0, rfl, Nat.zero_le _, by omega, ⟨A, from_, by simp [HL1.out], ⟨by simp [HL1.out], fun _ => by simp [HL1.out]⟩, ⟨Stay.of_nil HT6.out⟩⟩, ⟨Kd.R_nil _ _ _ _ _⟩, ⟨B, c - k, by simp [HL3.out], ⟨by simpa [HL3.out] using hc1⟩, ⟨Stay.of_nil HD5.out⟩⟩, ⟨Below.refl _ _⟩⟩
  case round =>
   obtain ⟨i, rfl, hi, hik, ⟨A1, c1, rfl, HC1, HSA⟩, HI, ⟨A3, c3, rfl, HC3, HSB⟩, HB⟩ := hrel
   by_cases hlt : i < k - from_
   ·have hi1 : i + 1 ≤ k - from_ := hlt
    have hil : i < Md.length := by have := HML.out; omega
    obtain ⟨ad, rfl, y0, y1, y2, y3⟩ := ZaF (Kd.C_below HMd5.out HB.out) i hil
    obtain ⟨hmx, hx1, hx2⟩ := HMM.out Md[i] (List.getElem_mem hil)
    have hts : Md.take (i + 1) = Md.take i ++ [Md[i]] := (ZaM hil).symm
    have f1 : (Md.take (i + 1)).foldl (aheadE s0) L1 = aheadE s0 ((Md.take i).foldl (aheadE s0) L1) Md[i] := by rw [hts, List.foldl_append]; rfl
    have f2 : (Md.take (i + 1)).map (inE s0 (s0 + s1)) = (Md.take i).map (inE s0 (s0 + s1)) ++ [inE s0 (s0 + s1) Md[i]] := by rw [hts, List.map_append]; rfl
    have f3 : (Md.take (i + 1)).foldl (behindE (s0 + s1)) L2 = behindE (s0 + s1) ((Md.take i).foldl (behindE (s0 + s1)) L2) Md[i] := by rw [hts, List.foldl_append]; rfl
    have F1 := Aside0.mk f1
    have F2 := Aside0.mk f2
    have F3 := Aside0.mk f3
    have hfirst : Md[i].f0.f0 < s0 → i = 0 := fun h => by
     by_cases h0 : i = 0
     ·exact h0
     ·have h1 := List.pairwise_iff_getElem.1 HRM.out (i - 1) i (by omega) hil (by omega)
      have h2 := (HMM.out Md[i - 1] (List.getElem_mem _)).2.1
      omega
    have b1 : ((Md.take i).foldl (aheadE s0) L1).length ≤ 30000 := by
     have := ahead_len s0 (Md.take i) L1
     rw [List.length_take] at this
     omega
    have b2 : ((Md.take i).map (inE s0 (s0 + s1))).length ≤ 30000 := by rw [List.length_map, List.length_take]; omega
    have b3 : ((Md.take i).foldl (behindE (s0 + s1)) L2).length ≤ 30000 := by
     have := behind_len (s0 + s1) (Md.take i) L2
     rw [List.length_take] at this
     omega
    clear hts f1 f2 f3
    generalize (Md.take i).foldl (aheadE s0) L1 = a0 at HC1 HSA F1 b1 ⊢
    generalize (Md.take i).map (inE s0 (s0 + s1)) = n0 at HI F2 b2 ⊢
    generalize (Md.take i).foldl (behindE (s0 + s1)) L2 = d0 at HC3 HSB F3 b3 ⊢
    generalize Md[i] = x at y0 y1 y2 y3 hmx hx1 hx2 hfirst F1 F2 F3
    have HF := Aside0.mk hfirst
    have HX0 := Aside0.mk hmx
    have hxs := hmx
    clear hfirst hmx
    obtain ⟨⟨x0, x1⟩, ⟨x2, x3⟩⟩ := x
    unfold MayE at hxs
    unfold endE at hx1
    simp only at y0 y1 y2 y3 hx1 hx2 hxs
    have HEx := Aside0.mk (fun W => ZaN x0 x1 HX0.out.span W)
    have HB1 := Aside0.mk (Zab HB.out (.cells #[.int .i64 x0, .int .i64 x1, .int .i64 x2, .int .i64 x3] 86))
    have HZ := Aside0.mk (Zas wr (.cells #[.int .i64 x0, .int .i64 x1, .int .i64 x2, .int .i64 x3] 86))
    have HIs := Aside0.mk (Kd.R_lt HI.out)
    have HI1 := Aside0.mk (Kd.R_alloc HI.out (.cells #[.int .i64 x0, .int .i64 x1, .int .i64 x2, .int .i64 x3] 86))
    have HSA1 := Aside0.mk (HSA.out.below (Zab (Below.refl _ _) (.cells #[.int .i64 x0, .int .i64 x1, .int .i64 x2, .int .i64 x3] 86)))
    have HSB1 := Aside0.mk (HSB.out.below (Zab (Below.refl _ _) (.cells #[.int .i64 x0, .int .i64 x1, .int .i64 x2, .int .i64 x3] 86)))
    have HWZ := Aside0.mk (Zab (Below.refl _ wr) (.cells #[.int .i64 x0, .int .i64 x1, .int .i64 x2, .int .i64 x3] 86)).size
    have HS6 := Aside0.mk (Zam HB1.out HS05.out)
    have HS7 := Aside0.mk (Zam HB1.out HS15.out)
    have s6 := HS6.out
    have s7 := HS7.out
    clear HSA HSB HI
    go_upto_if 76 with (fail)
    generalize hz : wr.heap.size = z at HZ HIs HWZ ⊢
    generalize wr.alloc (.cells #[.int .i64 x0, .int .i64 x1, .int .i64 x2, .int .i64 x3] 86) = W1 at HB1 HZ HI1 HSA1 HSB1 HWZ HS6 HS7 s6 s7 ⊢
    go_cut [4] (fun v4 wx => ∃ A4 c4, v4 = .slice A4 (aheadE s0 a0 ⟨⟨x0, x1⟩, ⟨x2, x3⟩⟩).length c4 ∧ Aside0 ((aheadE s0 a0 ⟨⟨x0, x1⟩, ⟨x2, x3⟩⟩).length ≤ c4) ∧ Aside0 (Stay wx u5.ownBlock A4 (aheadE s0 a0 ⟨⟨x0, x1⟩, ⟨x2, x3⟩⟩)) ∧ Aside0 (Below W1.heap.size W1 wx))
    case first =>
     by_cases hx0 : x0 < s0
     ·have h0 := HF.out hx0
      subst h0
      have hcl := HC1.out.2 rfl
      subst hcl
      have hd : decide (x0 < s0) = true := decide_eq_true hx0
      have ea : aheadE s0 a0 ⟨⟨x0, x1⟩, ⟨x2, x3⟩⟩ = a0 ++ [⟨⟨x0, s0 - x0⟩, ⟨x2, x3⟩⟩] := by
       unfold aheadE partE
       rw [if_pos hx0]
       simp only
       rw [show x3 + x0 - x0 = x3 by omega]
      have EA := Aside0.mk ea
      clear ea
      as_aux_lemma =>
       have HPc := Aside0.mk (fun W => Zcv ⟨⟨x0, x1⟩, ⟨x2, x3⟩⟩ HX0.out x0 s0 (by omega) W)
       have z0 := (Zaa HZ.out 0).trans rfl
       have z1 := (Zaa HZ.out 1).trans rfl
       have z2 := (Zaa HZ.out 2).trans rfl
       have z3 := (Zaa HZ.out 3).trans rfl
       go_wp2_with (fail)
       refine (HPc.out _).mono ?_
       rintro e w6 ⟨rfl, hb6⟩
       have hC6 := Aside0.mk ((HSA1.out.below hb6).now)
       have HB6 := Aside0.mk hb6
       have hu5 : ∀ j, u5.ownBlock = some j → j < w6.heap.size := fun j hj => by have := HIs.out j hj; have := HWZ.out; have := HB6.out.size; omega
       have HU := Aside0.mk hu5
       clear hb6 hu5
       go_wp2_with (at_builtin; refine appC86 rfl _ _ rfl A1 a0 ⟨⟨x0, s0 - x0⟩, ⟨x2, x3⟩⟩ rfl rfl hC6.out (by omega) ?_; intro g1 c2 w7 hR hb7)
       go_meet
       case rel =>
        obtain ⟨A9, c9, e9, hc9, hst⟩ := Stay.of_R hR HU.out
        obtain ⟨rfl, _, rfl⟩ := Value.slice.inj e9
        rw [EA.out]
        exact ⟨_, _, by simp, ⟨hc9⟩, ⟨hst⟩, ⟨Zae HB6.out hb7⟩⟩
     ·have hd : decide (x0 < s0) = false := decide_eq_false hx0
      have EA := Aside0.mk (show aheadE s0 a0 ⟨⟨x0, x1⟩, ⟨x2, x3⟩⟩ = a0 by unfold aheadE; rw [if_neg hx0])
      as_aux_lemma =>
       go_wp2_with (fail)
       go_meet
       case rel =>
        rw [EA.out]
        exact ⟨A1, c1, rfl, ⟨HC1.out.1⟩, HSA1, ⟨Below.refl _ _⟩⟩
    case rest =>
     obtain ⟨A4, c4, rfl, HC4, HS4, HB6⟩ := hcut
     generalize aheadE s0 a0 ⟨⟨x0, x1⟩, ⟨x2, x3⟩⟩ = a1 at F1 HC4 HS4 ⊢
     have HSB2 := Aside0.mk (HSB1.out.below HB6.out)
     have HI2 := Aside0.mk (Kd.R_below HI1.out HB6.out)
     have HZ2 := Aside0.mk (Zag HZ.out HB6.out)
     have HBc := Aside0.mk (Zae HB1.out HB6.out)
     have z0 := Zap ((Zaa HZ2.out 0).trans rfl)
     have z1 := Zap ((Zaa HZ2.out 1).trans rfl)
     have z2 := Zap ((Zaa HZ2.out 2).trans rfl)
     have z3 := Zap ((Zaa HZ2.out 3).trans rfl)
     have t6 := Zap (Zam HB6.out HS6.out)
     have t7 := Zap (Zam HB6.out HS7.out)
     obtain ⟨m, em⟩ : ∃ m, (if x0 < s0 then s0 else x0) = m := ⟨_, rfl⟩
     obtain ⟨nn, en⟩ : ∃ m, (if s0 + s1 < x0 + x1 then s0 + s1 else x0 + x1) = m := ⟨_, rfl⟩
     have hmn : (m = max x0 s0 ∧ nn = min (x0 + x1) (s0 + s1)) ∧ (0 ≤ m ∧ m ≤ 65536 ∧ 0 ≤ nn ∧ nn ≤ 65536) := by
      constructor
      ·constructor
       ·rw [← em]; split <;> omega
       ·rw [← en]; split <;> omega
      ·refine ⟨?_, ?_, ?_, ?_⟩
       ·rw [← em]; split <;> omega
       ·rw [← em]; split <;> omega
       ·rw [← en]; split <;> omega
       ·rw [← en]; split <;> omega
     have EI := Aside0.mk (show inE s0 (s0 + s1) ⟨⟨x0, x1⟩, ⟨x2, x3⟩⟩ = ⟨⟨m, nn - m⟩, ⟨x2, x3 + m - x0⟩⟩ by
      unfold inE endE
      simp only
      rw [← hmn.1.1, ← hmn.1.2]
      rfl)
     have HPc := Aside0.mk (fun W => Zcv ⟨⟨x0, x1⟩, ⟨x2, x3⟩⟩ HX0.out m nn hmn.2 W)
     clear hmn s6 s7
     go_wp2_with (fail)
     refine Zcq [0] [1, 2, 3, 4, 5, 6, 7, 8, 9, 10, 11, 12, 13, 14] [15, 16, 17] (by kernel_rfl) (fun _ _ _ _ e h => ⟨e.symm.trans h.1, h.2⟩) (by rfl) (by kernel_rfl) (by kernel_rfl) ?_
     simp only [movesA, pick, List.getElem?_cons_zero, List.getElem?_cons_succ]
     repeat (refine WQ.step (fun K hK => ?_); go_simp; first | (refine hK _ ?_; clear hK K) | (apply Exists.intro; refine ⟨fun _ => ?_, hK _ ?_⟩; ((first | (go_at_call 24; exact abv_of (HE.out _)) | (go_at_call 24; exact abv_of (HEx.out _)) | (go_at_call 77; exact abv_of (HPc.out _)))); clear hK K))
     refine WQ.nil ?_
     rintro w7 ⟨⟨w7', hb7⟩, rfl⟩
     clear em en z0 z1 z2 z3 t6 t7
     have HB7 := Aside0.mk (Zae HBc.out hb7)
     have HI7 := Aside0.mk (Kd.R_below HI2.out hb7)
     have HSA7 := Aside0.mk (HS4.out.below hb7)
     have HSB7 := Aside0.mk (HSB2.out.below hb7)
     have HZ7 := Aside0.mk (Zag HZ2.out hb7)
     have HSZ := Aside0.mk HB7.out.size
     clear hb7 HI2 HS4 HSB2 HZ2 HPc
     go_wp2_with (at_builtin; refine app86h rfl _ _ rfl u5 n0 ⟨⟨m, nn - m⟩, ⟨x2, x3 + m - x0⟩⟩ rfl rfl HI7.out HSZ.out (by omega) ?_; intro v1 w8 hR8 hb8 hg8 hat8)
     have HR8 := Aside0.mk hR8
     have HB8 := Aside0.mk (HB7.out.trans hb8)
     have HSA8 := Aside0.mk (HSA7.out.step hg8 hat8)
     have HSB8 := Aside0.mk (HSB7.out.step hg8 hat8)
     have HZ8 := Aside0.mk (Zay HZ7.out hg8 (fun e => by have := HIs.out z e.symm; omega))
     have HV8 := Aside0.mk (Kd.R_lt hR8)
     clear hR8 hb8 hg8 hat8 HSA7 HSB7 HZ7 HI7 HB7 HSZ
     have z0 := Zap ((Zaa HZ8.out 0).trans rfl)
     have z1 := Zap ((Zaa HZ8.out 1).trans rfl)
     have z2 := Zap ((Zaa HZ8.out 2).trans rfl)
     have z3 := Zap ((Zaa HZ8.out 3).trans rfl)
     have t6 := Zap (Zam HB8.out HS05.out)
     have t7 := Zap (Zam HB8.out HS15.out)
     obtain ⟨bb, ebb⟩ : ∃ b, decide (x0 + x1 > s0 + s1) = b := ⟨_, rfl⟩
     refine Zav (by kernel_rfl) (by kernel_rfl) ?_
     repeat (refine WQ.step (fun K hK => ?_); go_simp; first | (refine hK _ ?_; clear hK K) | (apply Exists.intro; refine ⟨fun _ => ?_, hK _ ?_⟩; ((first | (go_at_call 24; exact abv_of (HE.out _)) | (go_at_call 24; exact abv_of (HEx.out _)))); clear hK K))
     refine WQ.nil ?_
     rintro w9 ⟨⟨w9', hb9⟩, rfl⟩
     have EBB := Aside0.mk ebb
     have HB9 := Aside0.mk (Zae HB8.out hb9)
     have HSA9 := Aside0.mk (HSA8.out.below hb9)
     have HSB9 := Aside0.mk (HSB8.out.below hb9)
     have HR9 := Aside0.mk (Kd.R_below HR8.out hb9)
     have HZ9 := Aside0.mk (Zag HZ8.out hb9)
     have HV9 := Aside0.mk (show ∀ k, v1.ownBlock = some k → k < w9.heap.size from fun k hk => Nat.lt_of_lt_of_le (HV8.out k hk) hb9.size)
     clear hb9 ebb z0 z1 z2 z3 t6 t7 HR8 HSA8 HSB8 HZ8 HB8 HV8
     have hen : endE ⟨⟨x0, x1⟩, ⟨x2, x3⟩⟩ = x0 + x1 := rfl
     cases bb with
     | true =>
      have hgt : x0 + x1 > s0 + s1 := of_decide_eq_true EBB.out
      have EA := Aside0.mk (show behindE (s0 + s1) d0 ⟨⟨x0, x1⟩, ⟨x2, x3⟩⟩ = ⟨⟨s0 + s1, x0 + x1 - (s0 + s1)⟩, ⟨x2, x3 + (s0 + s1) - x0⟩⟩ :: d0 by unfold behindE; rw [if_pos (show endE ⟨⟨x0, x1⟩, ⟨x2, x3⟩⟩ > s0 + s1 from hgt)]; rfl)
      have HPc := Aside0.mk (fun W => Zcv ⟨⟨x0, x1⟩, ⟨x2, x3⟩⟩ HX0.out (s0 + s1) (x0 + x1) (by omega) W)
      clear hen EBB
      as_aux_lemma =>
       have z0 := Zap ((Zaa HZ9.out 0).trans rfl)
       have z1 := Zap ((Zaa HZ9.out 1).trans rfl)
       have z2 := Zap ((Zaa HZ9.out 2).trans rfl)
       have z3 := Zap ((Zaa HZ9.out 3).trans rfl)
       have t6 := Zap (Zam HB9.out HS05.out)
       have t7 := Zap (Zam HB9.out HS15.out)
       go_wp2_with (fail)
       refine Zcq [8] [0, 1, 2, 3, 4, 5, 6] [7, 9, 10, 11] (by kernel_rfl) (fun _ _ _ _ e h => ⟨e.symm.trans h.1, h.2⟩) (by rfl) (by kernel_rfl) (by kernel_rfl) ?_
       simp only [movesA, pick, List.getElem?_cons_zero, List.getElem?_cons_succ]
       repeat (refine WQ.step (fun K hK => ?_); go_simp; first | (refine hK _ ?_; clear hK K) | (apply Exists.intro; refine ⟨fun _ => ?_, hK _ ?_⟩; ((first | (go_at_call 24; exact abv_of (HE.out _)) | (go_at_call 24; exact abv_of (HEx.out _)) | (go_at_call 77; exact abv_of (HPc.out _)))); clear hK K))
       refine WQ.nil ?_
       rintro w10 ⟨⟨w10', hb10⟩, rfl⟩
       clear z0 z1 z2 z3 t6 t7
       have HD10 := Aside0.mk (HSB9.out.below hb10).now
       have HB10 := Aside0.mk hb10
       have HN1 := Aside0.mk (Zas w10 (.cells #[.int .i64 (s0 + s1), .int .i64 (x0 + x1 - (s0 + s1)), .int .i64 x2, .int .i64 (x3 + (s0 + s1) - x0)] 86))
       clear hb10
       go_wp2_with (fail)
       have hsz : (w10.alloc (.cells #[.int .i64 (s0 + s1), .int .i64 (x0 + x1 - (s0 + s1)), .int .i64 x2, .int .i64 (x3 + (s0 + s1) - x0)] 86)).heap.size = w10.heap.size + 1 := by simp
       have ba := Zab (Below.refl _ w10) (.cells #[.int .i64 (s0 + s1), .int .i64 (x0 + x1 - (s0 + s1)), .int .i64 x2, .int .i64 (x3 + (s0 + s1) - x0)] 86)
       generalize w10.alloc (.cells #[.int .i64 (s0 + s1), .int .i64 (x0 + x1 - (s0 + s1)), .int .i64 x2, .int .i64 (x3 + (s0 + s1) - x0)] 86) = wa at hsz ba HN1 ⊢
       have bb2 := Zab (Below.refl _ wa) (.cells #[.slice (some ⟨w10.heap.size, 0, none⟩) 1 1, .slice A3 d0.length c3] 31)
       have hnb := Zas wa (.cells #[.slice (some ⟨w10.heap.size, 0, none⟩) 1 1, .slice A3 d0.length c3] 31)
       rw [hsz] at hnb
       have hCc := c_two hnb rfl rfl (by simp) HC3.out (c_lit86 (Zag HN1.out bb2)) (Kd.C_below (Kd.C_below HD10.out ba) bb2)
       have HBz := Aside0.mk (Zae (Zae (Zae HB10.out ba) bb2) (Below.refl _ _))
       generalize wa.alloc (.cells #[.slice (some ⟨w10.heap.size, 0, none⟩) 1 1, .slice A3 d0.length c3] 31) = wb at hCc HBz ⊢
       clear hnb bb2 ba HN1
       have hcc := Zdp _ 2 [[⟨⟨s0 + s1, x0 + x1 - (s0 + s1)⟩, ⟨x2, x3 + (s0 + s1) - x0⟩⟩], d0] wb hCc (by simp) (by simp; omega)
       have efl : [[(⟨⟨s0 + s1, x0 + x1 - (s0 + s1)⟩, ⟨x2, x3 + (s0 + s1) - x0⟩⟩ : S86)], d0].flatten = ⟨⟨s0 + s1, x0 + x1 - (s0 + s1)⟩, ⟨x2, x3 + (s0 + s1) - x0⟩⟩ :: d0 := by simp
       rw [efl] at hcc
       clear hCc efl
       refine hcc.mono ?_
       rintro e w11 ⟨v6, rfl, hR6, hb11⟩
       obtain ⟨A6, c6, rfl, hc6, hst⟩ := Stay.of_R (r := v1.ownBlock) hR6 (fun j hj => by have := HV9.out j hj; have := HBz.out.size; omega)
       have HC6 := Aside0.mk hc6
       have HS6' := Aside0.mk hst
       have HBw := Aside0.mk (Zae HBz.out hb11)
       have HSA11 := Aside0.mk (HSA9.out.below HBw.out)
       have HR11 := Aside0.mk (Kd.R_below HR9.out HBw.out)
       clear hcc hR6 hb11 hc6 hst hsz
       go_wp2_with (fail)
       go_roundg (gk - 1)
       case measure => omega
       case rel =>
        refine ⟨i + 1, by go_num, hi1, by omega, ⟨A4, c4, by rw [F1.out], ⟨by rw [F1.out]; exact ⟨HC4.out, fun h => by omega⟩⟩, ⟨by rw [F1.out]; exact HSA11.out⟩⟩, ⟨by rw [F2.out, EI.out]; exact HR11.out⟩, ⟨A6, c6, by rw [F3.out, EA.out]; rfl, ⟨by rw [F3.out, EA.out]; exact HC6.out⟩, ⟨by rw [F3.out, EA.out]; exact HS6'.out⟩⟩, ⟨Zae HB9.out HBw.out⟩⟩
     | false =>
      have hgt : ¬ x0 + x1 > s0 + s1 := of_decide_eq_false EBB.out
      have EA := Aside0.mk (show behindE (s0 + s1) d0 ⟨⟨x0, x1⟩, ⟨x2, x3⟩⟩ = d0 by unfold behindE; rw [if_neg (show ¬ endE ⟨⟨x0, x1⟩, ⟨x2, x3⟩⟩ > s0 + s1 from hgt)])
      clear hen EBB hgt
      as_aux_lemma =>
       go_wp2_with (fail)
       go_roundg (gk - 1)
       case measure => omega
       case rel =>
        refine ⟨i + 1, by go_num, hi1, by omega, ⟨A4, c4, by rw [F1.out], ⟨by rw [F1.out]; exact ⟨HC4.out, fun h => by omega⟩⟩, ⟨by rw [F1.out]; exact HSA9.out⟩⟩, ⟨by rw [F2.out, EI.out]; exact HR9.out⟩, ⟨A3, c3, by rw [F3.out, EA.out], ⟨by rw [F3.out, EA.out]; exact HC3.out⟩, ⟨by rw [F3.out, EA.out]; exact HSB9.out⟩⟩, ⟨HB9.out⟩⟩
   ·have hin : i = k - from_ := by omega
    subst hin
    as_aux_lemma =>
     have E1' := E1
     have htl : Md.take (k - from_) = Md := List.take_of_length_le (by have := HML.out; omega)
     rw [htl] at HC1 HSA HI HC3 HSB ⊢
     rw [E1.out] at HC1 HSA ⊢
     rw [E3.out] at HC3 HSB ⊢
     rw [E2.out] at HI
     obtain ⟨A5, c5, rfl, hc5, hR5⟩ := Kd.R_reads HI.out
     have HR5 := Aside0.mk hR5
     have HC5 := Aside0.mk hc5
     clear hR5 hc5 htl E1' HI
     go_wp2_with (fail)
     go_ret3
     exact ⟨A1, c1, A5, c5, A3, c3, rfl, ⟨HC1.out.1, HC5.out, HC3.out⟩, ⟨HSA.out.now, HR5.out, HSB.out.now⟩, Zae HW5.out HB.out⟩
end Go.Proofs.YtpfnaknmalojkaaGreat.PTopRows
