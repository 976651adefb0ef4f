/- live.New, the row's own test, slices.IndexFunc and ContainsFunc at rows, told once. Conditions: what each theorem says. -/
import Derived.Test.YtcjeegomonegpaaLv0
import Derived.Shelf.Abstract
namespace Go.Proofs.Ytcjeegomonegpaa.PLivePlays
open Go.RowKit Go.Maps Go.Proofs.YtcjeegomonegpaaW.PrintWords Go.Proofs.YtcjeegomonegpaaW.PrintLast Go.Proofs.YtcjeegomonegpaaW.PrintMore
set_option linter.unusedVariables false
set_option linter.unusedSimpArgs false
theorem may_f (x : S23) : live_Row_may.f x.f0 x.f1 x.f2 = some (decide (MayR x)) := by
  unfold live_Row_may.f MayR
  by_cases h1 : x.f0 ≥ 1
  · by_cases h2 : x.f0 < 1099511627776
    · by_cases h3 : x.f1 ≥ 0
      · by_cases h4 : x.f1 ≤ 65536
        · by_cases h5 : x.f2 ≥ 0
          · simp [h1, h2, h3, h4, h5]
          · simp [h1, h2, h3, h4, h5]
        · simp [h1, h2, h3, h4]
      · simp [h1, h2, h3]
    · simp [h1, h2]
  · simp [h1]
theorem may_calls (x : S23) (w : World) : Calls Try.prog 49 #[rowV x] w fun e w' => e = .returned (.bool (decide (MayR x))) ∧ Below w.heap.size w w' := live_Row_may.calls _ _ _ _ w (may_f x)
/-- The closure that Add hands in. -/
theorem bad_calls (x : S23) (w : World) : Calls Try.prog 48 #[rowV x] w fun e w' => e = .returned (.bool (!decide (MayR x))) ∧ Below w.heap.size w w' := by
  have H := fun W => may_calls x W
  unfold rowV at H ⊢
  generalize decide (MayR x) = q at H ⊢
  obtain ⟨x0, x1, x2⟩ := x
  simp only at H ⊢
  have z0 := blk_new w (.cells #[.int .i64 x0, .int .i64 x1, .int .i64 x2] 23)
  go_enter Try.func48, Try.ntmps48
  go_wp2_with (go_at_call 49; refine (H _).mono ?_; rintro e w' ⟨rfl, hb⟩)
  go_ret
  exact ⟨rfl, below_step (below_alloc (Below.refl _ _) _) hb⟩
/-- The first place at which p holds; -1: none. -/
def idxOf (p : S23 → Bool) (l : List S23) : Int := match l.findIdx? p with
  | some i => (i : Int)
  | none => -1
theorem rd_T23_get {l : List S23} {k : Nat} (h : k < l.length) : rd_T23 l (k : Int) = l[k] := by
  unfold rd_T23
  rw [List.getD_eq_getElem?_getD, Int.toNat_natCast, List.getElem?_eq_getElem h]
  rfl
theorem row_cells {w : World} {A : Option Addr} {l : List S23} (h : Kd.C k23 w A l.length l) (k : Nat) (hk : k < l.length) : ∃ ad, A = some ad ∧ w.cell? (ad.add (k * 3)) = some (.int .i64 l[k].f0) ∧ w.cell? ⟨(ad.add (k * 3)).block, (ad.add (k * 3)).off + 1, none⟩ = some (.int .i64 l[k].f1) ∧ w.cell? ⟨(ad.add (k * 3)).block, (ad.add (k * 3)).off + 2, none⟩ = some (.int .i64 l[k].f2) := by
  obtain ⟨ad, e, h0, h1, h2⟩ := at_T23 h (k : Int) (by omega) (by omega)
  rw [rd_T23_get hk, Int.toNat_natCast] at h0 h1 h2
  exact ⟨ad, e, h0, h1, h2⟩
set_option maxRecDepth 100000 in
set_option maxHeartbeats 1000000 in
theorem index_calls (g : Nat) (lb : Array Value) (p : S23 → Bool) (A : Option Addr) (c : Nat) (l : List S23) (w : World) (hr : Kd.C k23 w A l.length l)
    (eg : ∀ args w, (callFunc g args).run Try.prog w = .ok (.enter g args) w)
    (hp : ∀ W x, Below w.heap.size w W → Calls Try.prog g (#[.agg #[.int .i64 x.f0, .int .i64 x.f1, .int .i64 x.f2]] ++ lb) W fun e w' => e = .returned (.bool (p x)) ∧ Below W.heap.size W w') :
    Calls Try.prog 59 #[.slice A l.length c, .func (.func g) #[] lb] w fun e w' => e = .returned (.int .i64 (idxOf p l)) ∧ Below w.heap.size w w' := by
  have HR := Aside0.mk hr
  clear hr
  have HP := Aside0.mk hp
  clear hp
  go_enter Try.func59, Try.ntmps59
  go_wp2
  go_loopw [5, 8] (fun v5 v8 wr => ∃ k : Nat, k ≤ l.length ∧ v8 = .int .i64 k ∧ Aside0 (Below w.heap.size w wr) ∧ Aside0 (∀ j (h : j < l.length), j < k → p l[j] = false)) (fun _ v8 _ => l.length - (intOf v8).toNat)
  case atStart => exact ⟨0, Nat.zero_le _, rfl, ⟨Below.refl _ w⟩, ⟨fun j _ hj => absurd hj (Nat.not_lt_zero _)⟩⟩
  case round =>
    as_aux_lemma =>
      obtain ⟨k, hk, rfl, HB, HF⟩ := hrel
      have hmx : l.length ≤ 9223372036854775807 := HR.out.2.1
      by_cases hlt : k < l.length
      · obtain ⟨ad, rfl, h0, h1, h2⟩ := row_cells (Kd.C_below HR.out HB.out) k hlt
        have hcall := HP.out wr l[k] HB.out
        have hk1 : k + 1 ≤ l.length := hlt
        generalize hx : l[k] = x at h0 h1 h2 hcall
        have HX := Aside0.mk hx
        clear hx
        obtain ⟨x0, x1, x2⟩ := x
        simp only at h0 h1 h2 hcall
        cases hq : p ⟨x0, x1, x2⟩ with
        | true =>
          as_aux_lemma =>
            rw [hq] at hcall
            go_wp2_with (go_at_fn g; refine hcall.mono ?_; rintro e w' ⟨rfl, hb⟩)
            go_ret
            refine ⟨?_, below_step HB.out hb⟩
            have : idxOf p l = k := by
              have : l.findIdx? p = some k := by
                rw [List.findIdx?_eq_some_iff_getElem]
                exact ⟨hlt, by rw [HX.out, hq], fun j hj => by rw [HF.out j (by omega) hj]; simp⟩
              unfold idxOf
              rw [this]
            rw [this]
            rfl
        | false =>
          as_aux_lemma =>
            rw [hq] at hcall
            go_wp2_with (go_at_fn g; refine hcall.mono ?_; rintro e w' ⟨rfl, hb⟩)
            refine ⟨⟨k + 1, by omega, by go_num, ⟨below_step HB.out hb⟩, ⟨fun j h hj => ?_⟩⟩, by simp [intOf]; omega⟩
            by_cases e : j = k
            · subst e
              rw [HX.out, hq]
            · exact HF.out j h (by omega)
      · have : k = l.length := by omega
        subst this
        go_wp2
        go_ret
        refine ⟨?_, HB.out⟩
        have : idxOf p l = -1 := by
          have : l.findIdx? p = none := by
            rw [List.findIdx?_eq_none_iff]
            intro x hx
            obtain ⟨j, hj, rfl⟩ := List.getElem_of_mem hx
            exact HF.out j hj hj
          unfold idxOf
          rw [this]
        rw [this]
        rfl
theorem idxOf_nonneg (p : S23 → Bool) (l : List S23) : decide (0 ≤ idxOf p l) = l.any p := by
  unfold idxOf
  cases h : l.findIdx? p with
  | none =>
    have h2 := List.findIdx?_eq_none_iff.1 h
    have : l.any p = false := by
      rw [List.any_eq_false]
      intro x hx
      rw [h2 x hx]
      simp
    rw [this]
    rfl
  | some i =>
    obtain ⟨hi, hp, _⟩ := List.findIdx?_eq_some_iff_getElem.1 h
    have : l.any p = true := List.any_eq_true.2 ⟨_, List.getElem_mem hi, hp⟩
    rw [this]
    simp
theorem contains_calls (g : Nat) (lb : Array Value) (p : S23 → Bool) (A : Option Addr) (c : Nat) (l : List S23) (w : World) (hr : Kd.C k23 w A l.length l)
    (eg : ∀ args w, (callFunc g args).run Try.prog w = .ok (.enter g args) w)
    (hp : ∀ W x, Below w.heap.size w W → Calls Try.prog g (#[.agg #[.int .i64 x.f0, .int .i64 x.f1, .int .i64 x.f2]] ++ lb) W fun e w' => e = .returned (.bool (p x)) ∧ Below W.heap.size W w') :
    Calls Try.prog 47 #[.slice A l.length c, .func (.func g) #[] lb] w fun e w' => e = .returned (.bool (l.any p)) ∧ Below w.heap.size w w' := by
  have H := index_calls g lb p A c l w hr eg hp
  have hn := idxOf_nonneg p l
  clear hr hp eg
  generalize idxOf p l = q at H hn
  rw [← hn]
  clear hn
  go_enter Try.func47, Try.ntmps47
  go_wp2_with (go_at_call 59; refine H.mono ?_; rintro e w' ⟨rfl, hb⟩)
  go_ret
  exact ⟨rfl, hb⟩
end Go.Proofs.Ytcjeegomonegpaa.PLivePlays
