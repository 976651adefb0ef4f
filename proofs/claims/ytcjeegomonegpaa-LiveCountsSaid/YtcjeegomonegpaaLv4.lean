/- live.Part and cmp.Compare of two parts: told once. Conditions: what each theorem says. -/
import Derived.Test.YtcjeegomonegpaaLv1
import Derived.Laws.Cover2
import Derived.Laws.FloatArith
import Derived.Shelf.SlSortCmp.InsertionK
namespace Go.Proofs.Ytcjeegomonegpaa.PLivePlays
open Go.RowKit Go.Maps Go.Sort Go.Proofs.YtcjeegomonegpaaW.PrintWords Go.Proofs.YtcjeegomonegpaaW.PrintLast Go.Proofs.YtcjeegomonegpaaW.PrintMore
set_option linter.unusedVariables false
set_option linter.unusedSimpArgs false
theorem number_div (s t : Bool) (m n : Nat) (i j : Int) (d : Nat) (h : ¬ n = 0) : ∃ x, (Ieee.Datum.number s m i).quotient d (.number t n j) = some x := by
  simp [Ieee.Datum.quotient, h]
/-- The bits of a row's part. -/
def partB (x : S23) : Nat := if x.f1 = 0 then 4607182418800017408 else (floatBits .quo .f64 (floatOfInt .f64 x.f2) (floatOfInt .f64 x.f1)).getD 0
/-- The reckoning of Part is never invalid. -/
def PartOk (x : S23) : Prop := x.f1 = 0 ∨ ∃ r, floatBits .quo .f64 (floatOfInt .f64 x.f2) (floatOfInt .f64 x.f1) = some r
set_option maxRecDepth 100000 in
theorem part_calls (x : S23) (ho : PartOk x) (w : World) : Calls Try.prog 14 #[.agg #[.int .i64 x.f0, .int .i64 x.f1, .int .i64 x.f2]] w fun e w' => e = .returned (.float .f64 (partB x)) ∧ ∃ os, w' = grow w os := by
  have hu30 := Try.underlying30
  have hu3 := Try.underlying3
  have hu23 := Try.underlying23
  have hz := fun w => blk_new w (.cells #[.int .i64 x.f0, .int .i64 x.f1, .int .i64 x.f2] 23)
  by_cases h : x.f1 = 0
  · have hp : partB x = 4607182418800017408 := by unfold partB; rw [if_pos h]
    rw [hp]
    clear hz ho hp
    obtain ⟨x0, x1, x2⟩ := x
    simp only at h ⊢
    subst h
    go_enter Try.func14, Try.ntmps14
    go_wp2
    go_ret
    exact ⟨rfl, _, by rw [alloc_eq_grow]⟩
  · obtain ⟨r, hr⟩ : ∃ r, floatBits .quo .f64 (floatOfInt .f64 x.f2) (floatOfInt .f64 x.f1) = some r := by
      rcases ho with e | e
      · exact absurd e h
      · exact e
    have hp : partB x = r := by unfold partB; rw [if_neg h, hr]; rfl
    rw [hp]
    clear hz ho hp
    obtain ⟨x0, x1, x2⟩ := x
    simp only at h hr ⊢
    have hq := fun w => run_float_arith (P := Try.prog) w .quo 30 .f64 _ _ r hr
    go_enter Try.func14, Try.ntmps14
    go_wp2
    go_ret
    exact ⟨rfl, _, by rw [alloc_eq_grow]⟩
abbrev ordF (a b : Nat) : Option Ordering := FloatKind.f64.format.order a b
def nanF (a : Nat) : Bool := ordF a a != some .eq
/-- cmp.Compare of floats. -/
def cmpF (a b : Nat) : Int := if nanF a then (if nanF b then 0 else -1) else if nanF b then 1 else if ordF a b == some .lt then -1 else if ordF a b == some .gt then 1 else 0
theorem nan_calls (a : Nat) (w : World) : Calls Try.prog 61 #[.float .f64 a] w fun e w' => e = .returned (.bool (nanF a)) ∧ w' = w := by
  have hu30 := Try.underlying30
  unfold nanF ordF
  go_enter Try.func61, Try.ntmps61
  go_wp2
  go_ret
  exact ⟨rfl, rfl⟩
set_option maxRecDepth 100000 in
set_option maxHeartbeats 2000000 in
theorem compare_calls (a b : Nat) (w : World) : Calls Try.prog 44 #[.float .f64 a, .float .f64 b] w fun e w' => e = .returned (.int .i64 (cmpF a b)) ∧ w' = w := by
  have hu30 := Try.underlying30
  have N1 := fun W => nan_calls a W
  have N2 := fun W => nan_calls b W
  have hL := fun w => congrArg (fun z : Sem Value => z.run Try.prog w) (binOp_float_cmp_lss 30 .f64 a b)
  unfold cmpF
  unfold ordF
  generalize nanF a = na at N1
  generalize nanF b = nb at N2
  clear hL
  cases na
  · cases nb
    · by_cases h1 : (FloatKind.f64.format.order a b == some Ordering.lt) = true
      · go_enter Try.func44, Try.ntmps44
        go_wp2_with (fail)
        refine (N1 _).mono ?_
        rintro e w' ⟨rfl, rfl⟩
        go_wp2_with (fail)
        refine (N2 _).mono ?_
        rintro e w' ⟨rfl, rfl⟩
        go_wp2_with (fail)
        go_ret
        exact ⟨by simp [h1], rfl⟩
      · have h1 : (FloatKind.f64.format.order a b == some Ordering.lt) = false := by simpa using h1
        by_cases h2 : (FloatKind.f64.format.order a b == some Ordering.gt) = true
        · go_enter Try.func44, Try.ntmps44
          go_wp2_with (fail)
          refine (N1 _).mono ?_
          rintro e w' ⟨rfl, rfl⟩
          go_wp2_with (fail)
          refine (N2 _).mono ?_
          rintro e w' ⟨rfl, rfl⟩
          go_wp2_with (fail)
          go_ret
          exact ⟨by simp [h1, h2], rfl⟩
        · have h2 : (FloatKind.f64.format.order a b == some Ordering.gt) = false := by simpa using h2
          go_enter Try.func44, Try.ntmps44
          go_wp2_with (fail)
          refine (N1 _).mono ?_
          rintro e w' ⟨rfl, rfl⟩
          go_wp2_with (fail)
          refine (N2 _).mono ?_
          rintro e w' ⟨rfl, rfl⟩
          go_wp2_with (fail)
          go_ret
          exact ⟨by simp [h1, h2], rfl⟩
    · go_enter Try.func44, Try.ntmps44
      go_wp2_with (fail)
      refine (N1 _).mono ?_
      rintro e w' ⟨rfl, rfl⟩
      go_wp2_with (fail)
      refine (N2 _).mono ?_
      rintro e w' ⟨rfl, rfl⟩
      go_wp2_with (fail)
      go_ret
      exact ⟨by simp, rfl⟩
  · cases nb
    · go_enter Try.func44, Try.ntmps44
      go_wp2_with (fail)
      refine (N1 _).mono ?_
      rintro e w' ⟨rfl, rfl⟩
      go_wp2_with (fail)
      refine (N2 _).mono ?_
      rintro e w' ⟨rfl, rfl⟩
      go_wp2_with (fail)
      go_ret
      exact ⟨by simp, rfl⟩
    · go_enter Try.func44, Try.ntmps44
      go_wp2_with (fail)
      refine (N1 _).mono ?_
      rintro e w' ⟨rfl, rfl⟩
      go_wp2_with (fail)
      refine (N2 _).mono ?_
      rintro e w' ⟨rfl, rfl⟩
      go_wp2_with (fail)
      go_ret
      exact ⟨by simp, rfl⟩
def GrowOf (W w' : World) : Prop := ∃ q os, w' = grow (W.drewN q) os
theorem GrowOf.refl (W : World) : GrowOf W W := ⟨0, #[], by simp [World.drewN]⟩
theorem GrowOf.drew (W : World) : GrowOf W W.drew := ⟨1, #[], by simp [World.drewN]⟩
theorem GrowOf.trans {a b c : World} (h : GrowOf a b) (k : GrowOf b c) : GrowOf a c := by
  obtain ⟨q, os, rfl⟩ := h
  obtain ⟨q', os', rfl⟩ := k
  refine ⟨q + q', os ++ os', ?_⟩
  show grow (grow ((a.drewN q).drewN q') os) os' = _
  rw [grow_grow, World.drewN_drewN]
theorem GrowOf.below {W w' : World} (h : GrowOf W w') : Below W.heap.size W w' := by
  obtain ⟨q, os, rfl⟩ := h
  exact ⟨rfl, rfl, rfl, by simp [grow], fun i hi => by
    show ((W.drewN q).heap ++ os)[i]? = _
    rw [Array.getElem?_append_left (by show i < W.heap.size; omega)]
    rfl⟩
def cmpP (x y : S23) : Int := cmpF (partB x) (partB y)
def less.T1 : Bool × List (List Nat × List Nat) := (true, [([], []), ([0], [0]), ([], []), ([2, 1], [2]), ([1, 3, 3], [1, 3]), ([4, 4, 0, 1, 2, 3, 4], [4])])
def less.B1 : List Nat := [0, 1, 0, 7, 15, 31]
theorem less.tab1 : rtab .any (opsOf Try.f43 1) = less.T1 := by kernel_rfl
theorem less.bits1 : waitsOk less.T1.2 less.B1 = true := by kernel_rfl
set_option maxRecDepth 100000 in
theorem less_calls (x y : S23) (hx : PartOk x) (hy : PartOk y) (W : World) : Calls Try.prog 43 #[.agg #[.int .i64 x.f0, .int .i64 x.f1, .int .i64 x.f2], .agg #[.int .i64 y.f0, .int .i64 y.f1, .int .i64 y.f2]] W fun e w' => e = .returned (.int .i64 (cmpP x y)) ∧ GrowOf W w' := by
  have P1 : ∀ W, Calls Try.prog 14 #[.agg #[.int .i64 x.f0, .int .i64 x.f1, .int .i64 x.f2]] W fun e w' => e = .returned (.float .f64 (partB x)) ∧ GrowOf W w' := fun W => (part_calls x hx W).mono fun e w' ⟨h1, os, h2⟩ => ⟨h1, 0, os, h2⟩
  have P2 : ∀ W, Calls Try.prog 14 #[.agg #[.int .i64 y.f0, .int .i64 y.f1, .int .i64 y.f2]] W fun e w' => e = .returned (.float .f64 (partB y)) ∧ GrowOf W w' := fun W => (part_calls y hy W).mono fun e w' ⟨h1, os, h2⟩ => ⟨h1, 0, os, h2⟩
  have C : ∀ W, Calls Try.prog 44 #[.float .f64 (partB x), .float .f64 (partB y)] W fun e w' => e = .returned (.int .i64 (cmpP x y)) ∧ GrowOf W w' := fun W => (compare_calls (partB x) (partB y) W).mono fun e w' ⟨h1, h2⟩ => ⟨h1, h2 ▸ GrowOf.refl W⟩
  generalize partB x = px at P1 C
  generalize partB y = py at P2 C
  generalize cmpP x y = r at C ⊢
  clear hx hy
  obtain ⟨x0, x1, x2⟩ := x
  obtain ⟨y0, y1, y2⟩ := y
  simp only at P1 P2 ⊢
  have BX := Aside0.mk (blk_alloc (blk_new W (.cells #[.int .i64 x0, .int .i64 x1, .int .i64 x2] 23)) (.cells #[.int .i64 y0, .int .i64 y1, .int .i64 y2] 23))
  have BY := Aside0.mk (blk_new (W.alloc (.cells #[.int .i64 x0, .int .i64 x1, .int .i64 x2] 23)) (.cells #[.int .i64 y0, .int .i64 y1, .int .i64 y2] 23))
  have HG : Aside0 (GrowOf W ((W.alloc (.cells #[.int .i64 x0, .int .i64 x1, .int .i64 x2] 23)).alloc (.cells #[.int .i64 y0, .int .i64 y1, .int .i64 y2] 23))) := ⟨0, _, by rw [alloc_eq_grow, alloc_eq_grow, grow_grow]; rfl⟩
  rw [World.size_alloc] at BY
  go_enter Try.func43, Try.ntmps43
  go_wp2
  generalize ((W.alloc (.cells #[.int .i64 x0, .int .i64 x1, .int .i64 x2] 23)).alloc (.cells #[.int .i64 y0, .int .i64 y1, .int .i64 y2] 23)) = wr at BX BY HG ⊢
  generalize W.heap.size + 1 = by_ at BX BY ⊢
  generalize W.heap.size = bx at BX ⊢
  refine start_ (n := 6) (S := fun w' => True) (ds := []) #[false, false, false, false, false, false] (by kernel_rfl) rfl rfl trivial (fun hHeld => ?_)
  refine with_tabW less.tab1 less.bits1 (fun HT_ HW_ => ?_)
  have BX := Aside0.mk (blk_below BX.out (below_drew (Below.refl _ _)))
  have BY := Aside0.mk (blk_below BY.out (below_drew (Below.refl _ _)))
  have HG := Aside0.mk (HG.out.trans (GrowOf.drew wr))
  generalize wr.drew = wz at HG BX BY hHeld ⊢
  clear hHeld
  refine inv_at [0, 1, 2, 3, 4, 5] (fun a0_ b a w' => a = putSel a0_ b [(0, 5, .agg #[.int .i64 x0, .int .i64 x1, .int .i64 x2]), (1, 6, .float .f64 px), (2, 7, .agg #[.int .i64 y0, .int .i64 y1, .int .i64 y2]), (3, 8, .float .f64 py), (4, 9, .int .i64 r), (5, 4, .int .i64 r)] ∧ (w'.heap[bx]? = some (.cells #[.int .i64 x0, .int .i64 x1, .int .i64 x2] 23 (0, 0))) ∧ (w'.heap[by_]? = some (.cells #[.int .i64 y0, .int .i64 y1, .int .i64 y2] 23 (0, 0))) ∧ (GrowOf W w')) HT_.out HW_.out (by kernel_rfl) (by kernel_rfl) ?_ ?_ ?_
  · exact ⟨by simp only [putSel, Bool.false_eq_true, if_false], BX.out, BY.out, HG.out⟩
  · skip
    clear BX BY HG
    refine steps_cons ?_ ?_
    · as_aux_lemma =>
      rintro b a w' ⟨ha, Q_BX, Q_BY, Q_HG⟩ hb_ hon hoff
      refine ⟨_, rfl, fun K hK => ?_⟩
      have e2 : a.tmps[2]? = some (.pointer (some ⟨bx, 0, none⟩)) := by rw [ha]; exact (putSel_off rfl).trans rfl
      replace ha := Aside0.mk ha
      have BX := Aside0.mk Q_BX
      have BY := Aside0.mk Q_BY
      have HG := Aside0.mk Q_HG
      have hs0_ : w'.cell? ⟨bx, 0, none⟩ = some (.int .i64 x0) := (blk_cell BX.out 0).trans rfl
      have hs1_ : w'.cell? ⟨bx, 1, none⟩ = some (.int .i64 x1) := (blk_cell BX.out 1).trans rfl
      have hs2_ : w'.cell? ⟨bx, 2, none⟩ = some (.int .i64 x2) := (blk_cell BX.out 2).trans rfl
      refine value_ (w1 := w') (v := .agg #[.int .i64 x0, .int .i64 x1, .int .i64 x2]) (by rfl) rfl ?_ ?_
      · go_simp
        (try simp only [i64_w])
        try rfl
      refine hK.out _ _ ⟨(by rw [ha.out]; exact putSel_upk 0 hb_ rfl rfl rfl), Q_BX, Q_BY, Q_HG⟩
    refine steps_cons ?_ ?_
    · as_aux_lemma =>
      rintro b a w' ⟨ha, Q_BX, Q_BY, Q_HG⟩ hb_ hon hoff
      refine ⟨_, rfl, fun K hK => ?_⟩
      have e5 : a.tmps[5]? = some (.agg #[.int .i64 x0, .int .i64 x1, .int .i64 x2]) := by rw [ha]; exact putSel_on (e := (0, 5, .agg #[.int .i64 x0, .int .i64 x1, .int .i64 x2])) 0 rfl rfl (hon 0 (by kernel_rfl)) rfl
      replace ha := Aside0.mk ha
      have BX := Aside0.mk Q_BX
      have BY := Aside0.mk Q_BY
      have HG := Aside0.mk Q_HG
      refine goes_ Try.func14 (by kernel_rfl) rfl #[.agg #[.int .i64 x0, .int .i64 x1, .int .i64 x2]] (by rfl) rfl rfl (by first | (simp only [List.map_toArray, List.map_cons, List.map_nil, Act.eval, Array.getD_eq_getD_getElem?, Option.getD_some, e5]; done) | (simp only [List.map_toArray, List.map_cons, List.map_nil, Act.eval, Array.getD_eq_getD_getElem?, Option.getD_some, e5]; rfl)) ?_
      with_reducible refine (P1 _).mono ?_
      rintro e w6 ⟨rfl, hb⟩
      refine ⟨_, rfl, ?_⟩
      refine hK.out _ _ ⟨(by rw [ha.out]; exact putSel_upk 1 hb_ rfl rfl rfl), blk_below BX.out hb.below, blk_below BY.out hb.below, HG.out.trans hb⟩
    refine steps_cons ?_ ?_
    · as_aux_lemma =>
      rintro b a w' ⟨ha, Q_BX, Q_BY, Q_HG⟩ hb_ hon hoff
      refine ⟨_, rfl, fun K hK => ?_⟩
      have e3 : a.tmps[3]? = some (.pointer (some ⟨by_, 0, none⟩)) := by rw [ha]; exact (putSel_off rfl).trans rfl
      replace ha := Aside0.mk ha
      have BX := Aside0.mk Q_BX
      have BY := Aside0.mk Q_BY
      have HG := Aside0.mk Q_HG
      have hs0_ : w'.cell? ⟨by_, 0, none⟩ = some (.int .i64 y0) := (blk_cell BY.out 0).trans rfl
      have hs1_ : w'.cell? ⟨by_, 1, none⟩ = some (.int .i64 y1) := (blk_cell BY.out 1).trans rfl
      have hs2_ : w'.cell? ⟨by_, 2, none⟩ = some (.int .i64 y2) := (blk_cell BY.out 2).trans rfl
      refine value_ (w1 := w') (v := .agg #[.int .i64 y0, .int .i64 y1, .int .i64 y2]) (by rfl) rfl ?_ ?_
      · go_simp
        (try simp only [i64_w])
        try rfl
      refine hK.out _ _ ⟨(by rw [ha.out]; exact putSel_upk 2 hb_ rfl rfl rfl), Q_BX, Q_BY, Q_HG⟩
    refine steps_cons ?_ ?_
    · as_aux_lemma =>
      rintro b a w' ⟨ha, Q_BX, Q_BY, Q_HG⟩ hb_ hon hoff
      refine ⟨_, rfl, fun K hK => ?_⟩
      have e7 : a.tmps[7]? = some (.agg #[.int .i64 y0, .int .i64 y1, .int .i64 y2]) := by rw [ha]; exact putSel_on (e := (2, 7, .agg #[.int .i64 y0, .int .i64 y1, .int .i64 y2])) 2 rfl rfl (hon 2 (by kernel_rfl)) rfl
      replace ha := Aside0.mk ha
      have BX := Aside0.mk Q_BX
      have BY := Aside0.mk Q_BY
      have HG := Aside0.mk Q_HG
      refine goes_ Try.func14 (by kernel_rfl) rfl #[.agg #[.int .i64 y0, .int .i64 y1, .int .i64 y2]] (by rfl) rfl rfl (by first | (simp only [List.map_toArray, List.map_cons, List.map_nil, Act.eval, Array.getD_eq_getD_getElem?, Option.getD_some, e7]; done) | (simp only [List.map_toArray, List.map_cons, List.map_nil, Act.eval, Array.getD_eq_getD_getElem?, Option.getD_some, e7]; rfl)) ?_
      with_reducible refine (P2 _).mono ?_
      rintro e w6 ⟨rfl, hb⟩
      refine ⟨_, rfl, ?_⟩
      refine hK.out _ _ ⟨(by rw [ha.out]; exact putSel_upk 3 hb_ rfl rfl rfl), blk_below BX.out hb.below, blk_below BY.out hb.below, HG.out.trans hb⟩
    refine steps_cons ?_ ?_
    · as_aux_lemma =>
      rintro b a w' ⟨ha, Q_BX, Q_BY, Q_HG⟩ hb_ hon hoff
      refine ⟨_, rfl, fun K hK => ?_⟩
      have e6 : a.tmps[6]? = some (.float .f64 px) := by rw [ha]; exact putSel_on (e := (1, 6, .float .f64 px)) 1 rfl rfl (hon 1 (by kernel_rfl)) rfl
      have e8 : a.tmps[8]? = some (.float .f64 py) := by rw [ha]; exact putSel_on (e := (3, 8, .float .f64 py)) 3 rfl rfl (hon 3 (by kernel_rfl)) rfl
      replace ha := Aside0.mk ha
      have BX := Aside0.mk Q_BX
      have BY := Aside0.mk Q_BY
      have HG := Aside0.mk Q_HG
      refine goes_ Try.func44 (by kernel_rfl) rfl #[.float .f64 px, .float .f64 py] (by rfl) rfl rfl (by first | (simp only [List.map_toArray, List.map_cons, List.map_nil, Act.eval, Array.getD_eq_getD_getElem?, Option.getD_some, e6, e8]; done) | (simp only [List.map_toArray, List.map_cons, List.map_nil, Act.eval, Array.getD_eq_getD_getElem?, Option.getD_some, e6, e8]; rfl)) ?_
      with_reducible refine (C _).mono ?_
      rintro e w6 ⟨rfl, hb⟩
      refine ⟨_, rfl, ?_⟩
      refine hK.out _ _ ⟨(by rw [ha.out]; exact putSel_upk 4 hb_ rfl rfl rfl), blk_below BX.out hb.below, blk_below BY.out hb.below, HG.out.trans hb⟩
    refine steps_cons ?_ ?_
    · as_aux_lemma =>
      rintro b a w' ⟨ha, Q_BX, Q_BY, Q_HG⟩ hb_ hon hoff
      refine ⟨_, rfl, fun K hK => ?_⟩
      have e9 : a.tmps[9]? = some (.int .i64 r) := by rw [ha]; exact putSel_on (e := (4, 9, .int .i64 r)) 4 rfl rfl (hon 4 (by kernel_rfl)) rfl
      replace ha := Aside0.mk ha
      have BX := Aside0.mk Q_BX
      have BY := Aside0.mk Q_BY
      have HG := Aside0.mk Q_HG
      refine value_ (w1 := w') (v := .int .i64 r) (by rfl) rfl ?_ ?_
      · go_simp
        (try simp only [i64_w])
        try rfl
      refine hK.out _ _ ⟨(by rw [ha.out]; exact putSel_upk 5 hb_ rfl rfl rfl), Q_BX, Q_BY, Q_HG⟩
    exact steps_nil
  rintro b a wT hall ⟨ha, Q_BX, Q_BY, Q_HG⟩
  clear BX BY HG
  have hb0_ := hall 0 (by kernel_rfl)
  have hb1_ := hall 1 (by kernel_rfl)
  have hb2_ := hall 2 (by kernel_rfl)
  have hb3_ := hall 3 (by kernel_rfl)
  have hb4_ := hall 4 (by kernel_rfl)
  have hb5_ := hall 5 (by kernel_rfl)
  subst ha
  simp only [putSel, hb0_, hb1_, hb2_, hb3_, hb4_, hb5_, if_true, Act.put, List.setIfInBounds_toArray, List.set_cons_zero, List.set_cons_succ]
  have BX := Aside0.mk Q_BX
  clear Q_BX
  have BY := Aside0.mk Q_BY
  clear Q_BY
  have HG := Aside0.mk Q_HG
  clear Q_HG
  clear hall hb0_ hb1_ hb2_ hb3_ hb4_ hb5_
  go_wp2
  go_ret
  exact ⟨rfl, HG.out⟩
end Go.Proofs.Ytcjeegomonegpaa.PLivePlays
