/- LiveVictims: the plain law, the walk, the row. For every input the law answers true and its arguments read behind the call as ahead of it. No condition. -/
import Derived.Test.YtcjeegomonegpaaCb6
import Derived.Test.YtcjeegomonegpaaRows
import Derived.WalkKit
import Derived.ProofKit
import Derived.OpenShut
import Derived.ShutString
import Derived.ChangeOld
import Derived.Below
import Derived.ChangeSlices
import Derived.SizedLaws
import Derived.Lib.SmallJoins
namespace Go.Proofs.Ytcjeegomonegpaa.PLivePlays
open Go.RowKit Go.Maps Go.Sort Go.Proofs.YtcjeegomonegpaaW.PrintWords Go.Proofs.YtcjeegomonegpaaW.PrintLast Go.Proofs.YtcjeegomonegpaaW.PrintMore
set_option linter.unusedVariables false
set_option linter.unusedSimpArgs false
abbrev minus1 : Nat := 13830554455654793216
theorem order_neg (k h : Nat) (e f : Int) (hh : 0 < h) : (Ieee.Datum.number false k e).order (.number true h f) = some .gt := by
  unfold Ieee.Datum.order Ieee.signed
  simp only [Nat.shiftLeft_eq, Bool.false_eq_true, if_false, if_true]
  have hp : 0 < h * 2 ^ (f - min e f).toNat := Nat.mul_pos hh (Nat.two_pow_pos _)
  congr 1
  rw [Int.compare_eq_gt]
  omega
theorem ord_neg {x : S23} (h : Full x) : ordF (partB x) minus1 = some .gt := by
  obtain ⟨L, T, a1, a2, a3, a4, a5⟩ := full_nat h
  by_cases h1 : L = 0
  · subst h1
    rw [partB_quo a1 a2 a4 (quo_nought T a4 a5)]
    decide
  · obtain ⟨m1, p1, hq1, b1, b2, b3, b4, b5, b6⟩ := Fl.div_nearh L T (by omega) a3 a5
    have l1 : 54 ≤ m1.log2 := Fl.le_log2 (by omega) (by rw [show (2 : Nat) ^ 54 = 4 * 4503599627370496 by decide]; exact b1)
    have l2 : m1.log2 ≤ 55 := Fl.log2_le (by omega) (by rw [show (2 : Nat) ^ (55 + 1) = 16 * 4503599627370496 by decide]; exact b2)
    obtain ⟨k1, e1, hr1, hk, x1, x2, v1, v2⟩ := Fl.nearest_nearh m1 p1 (by omega) (by omega) (by omega) (by omega) (by omega)
    rw [partB_quo a1 a2 a4 hq1]
    show (Ieee.double.read _).order (Ieee.double.read minus1) = _
    rw [hr1, show Ieee.double.read minus1 = .number true 4503599627370496 (-52) by decide]
    exact order_neg _ _ _ _ (by decide)
theorem dead_of {p : Int} {x : S23} (h0 : 0 ≤ p) (h1 : p ≤ 1000) (hx : MayR x) : dead p x = decide (x.f2 * 100 ≥ p * x.f1) := by
  obtain ⟨-, -, m1, m2, m3, m4⟩ := hx
  obtain ⟨q1, q2⟩ := prod_in h0 (by omega) m1 m2
  have hw : ∀ z : Int, 0 ≤ z → z ≤ 4294967296 → wrap64 z = z := fun z _ _ => by unfold wrap64; omega
  unfold dead
  rw [hw _ (by omega) (by omega), hw _ q1 q2]
theorem keepV_zero {T : List S23} (h : Good T) : keepV 0 T = [] := by
  unfold keepV
  rw [List.filter_eq_nil_iff]
  intro x hx
  rw [dead_of (by omega) (by omega) (h.2 x hx)]
  obtain ⟨-, -, m1, m2, m3, m4⟩ := h.2 x hx
  simp
  omega
theorem vicT_zero {T : List S23} (h : Good T) : vicT 0 [] T = [] := by
  have := vicT_perm 0 T []
  rw [keepV_zero h] at this
  exact this.eq_nil
theorem filter_take {R : S23 → S23 → Prop} (q : S23 → Bool) : ∀ {l : List S23}, l.Pairwise R → (∀ x ∈ l, ∀ y ∈ l, R x y → q y = true → q x = true) → l.filter q = l.take (l.filter q).length
  | [], _, _ => rfl
  | x :: l, h, hq => by
    obtain ⟨h1, h2⟩ := List.pairwise_cons.1 h
    have ih := filter_take q h2 fun a ha b hb => hq a (List.mem_cons_of_mem _ ha) b (List.mem_cons_of_mem _ hb)
    by_cases hx : q x = true
    · rw [List.filter_cons_of_pos hx, List.length_cons, List.take_succ_cons, ← ih]
    · have e : l.filter q = [] := List.filter_eq_nil_iff.2 fun y hy hqy => hx (hq x List.mem_cons_self y (List.mem_cons_of_mem _ hy) (h1 y hy) hqy)
      rw [List.filter_cons_of_neg hx, e]
      rfl
theorem vic_full {p : Int} (h0 : 0 ≤ p) (h1 : p ≤ 1000) {T : List S23} (h : Good T) : ∀ x ∈ vicT p [] T, Full x ∧ x ∈ T ∧ x.f2 * 100 < p * x.f1 := fun x hx => by
  have hk : x ∈ keepV p T := by simpa using (vicT_perm p T []).subset hx
  have hT : x ∈ T := (List.mem_filter.1 hk).1
  have hd := (List.mem_filter.1 hk).2
  rw [dead_of h0 h1 (h.2 x hT)] at hd
  refine ⟨keepV_full (by omega) h.2 x hk, hT, ?_⟩
  simpa using hd
theorem vic_sorted {p : Int} (h0 : 0 ≤ p) (h1 : p ≤ 1000) {T : List S23} (h : Good T) : (vicT p [] T).Pairwise lessT :=
  vicT_sorted p T [] List.Pairwise.nil (by simp) (fun y hy => (keepV_full (by omega) h.2 y hy).2) (by simp) h.1
theorem alive_down {p : Int} {x y : S23} (hx : Full x) (hy : Full y) (hl : lessT x y) (h : y.f2 * 100 < p * y.f1) : x.f2 * 100 < p * x.f1 := by
  have hx0 := hx.2
  have hy0 := hy.2
  have h1 : x.f2 * y.f1 ≤ y.f2 * x.f1 := by rcases hl with h | ⟨h, _⟩ <;> omega
  have h2 : x.f2 * 100 * y.f1 ≤ y.f2 * 100 * x.f1 := by
    have := Int.mul_le_mul_of_nonneg_right h1 (show (0 : Int) ≤ 100 by omega)
    rw [show x.f2 * 100 * y.f1 = x.f2 * y.f1 * 100 by rw [Int.mul_right_comm], show y.f2 * 100 * x.f1 = y.f2 * x.f1 * 100 by rw [Int.mul_right_comm]]
    exact this
  have h3 : y.f2 * 100 * x.f1 < p * y.f1 * x.f1 := Int.mul_lt_mul_of_pos_right h hx0
  have h4 : x.f2 * 100 * y.f1 < p * x.f1 * y.f1 := by
    rw [show p * x.f1 * y.f1 = p * y.f1 * x.f1 by rw [Int.mul_right_comm]]
    omega
  exact Int.lt_of_mul_lt_mul_right h4 (by omega)
theorem vic_prefix {p1 p2 : Int} (h0 : 0 ≤ p1) (h1 : p1 ≤ p2) (h2 : p2 ≤ 1000) {T : List S23} (h : Good T) : vicT p1 [] T = (vicT p2 [] T).take (vicT p1 [] T).length := by
  have s2 := vic_sorted (by omega) h2 h
  have s1 := vic_sorted h0 (by omega) h
  have e : vicT p1 [] T = (vicT p2 [] T).filter fun x => !dead p1 x := by
    refine perm_eq (fun x y h => lessT_asymm h) ?_ s1 (s2.filter _)
    have q1 : (vicT p1 [] T).Perm (keepV p1 T) := by simpa using vicT_perm p1 T []
    have q2 : (vicT p2 [] T).Perm (keepV p2 T) := by simpa using vicT_perm p2 T []
    refine q1.trans (.trans ?_ (q2.filter _).symm)
    unfold keepV
    rw [List.filter_filter]
    refine List.Perm.of_eq (List.filter_congr fun x hx => ?_)
    have hm := h.2 x hx
    rw [dead_of h0 (by omega) hm, dead_of (by omega) h2 hm]
    obtain ⟨-, -, m1, m2, m3, m4⟩ := hm
    have hle : p1 * x.f1 ≤ p2 * x.f1 := Int.mul_le_mul_of_nonneg_right h1 m1
    by_cases a : p1 * x.f1 ≤ x.f2 * 100
    · simp [a]
    · have b : ¬ p2 * x.f1 ≤ x.f2 * 100 := by omega
      simp [a, b]
  have hf := filter_take (fun x => !dead p1 x) s2 fun x hx y hy hl hq => by
    obtain ⟨fx, tx, _⟩ := vic_full (by omega) h2 h x hx
    obtain ⟨fy, ty, _⟩ := vic_full (by omega) h2 h y hy
    rw [dead_of h0 (by omega) (h.2 y ty)] at hq
    rw [dead_of h0 (by omega) (h.2 x tx)]
    have h3 : y.f2 * 100 < p1 * y.f1 := by simpa using hq
    have := alive_down fx fy hl h3
    simp
    omega
  rw [← e] at hf
  exact hf
theorem vic_rise {x y : S23} (hx : Full x) (hy : Full y) (h : lessT x y) : (ordF (partB y) (partB x) == some .lt) = false := by
  rw [ord_part hy hx]
  have h1 : ¬ y.f2 * x.f1 < x.f2 * y.f1 := by rcases h with h | ⟨h, _⟩ <;> omega
  rw [if_neg h1]
  split <;> rfl
/-- Victims of any table, as the answer has them. -/
theorem vict_calls (g N : Nat) (hN : N ≤ 100000) (T : List S23) (hG : Good T) (pct : Int) (hp : -1000000 ≤ pct ∧ pct ≤ 1000000) (w : World) (hT : Tb w g N T) :
    Calls Try.prog 22 #[.pointer (some ⟨g, 0, none⟩), .int .i64 pct] w fun e w' => ∃ A c, e = .returned (.slice A (vicT pct [] T).length c) ∧ (vicT pct [] T).length ≤ c ∧ Kd.C (Kd.int .i64) w' A ((vicT pct [] T).map (·.f0)).length ((vicT pct [] T).map (·.f0)) ∧ Below w.heap.size w w' := by
  refine (victims2 g N (by omega) T pct hp w hT).mono ?_
  rintro e w1 ⟨v1, l1, rfl, hp1, hs1, hown, hb1⟩
  obtain rfl := victims_same hp hG hp1 hs1
  have hen : seqsV (vicT pct [] T) = encs (Value.int .i64) ((vicT pct [] T).map (·.f0)) := by
    unfold seqsV encs
    rw [List.map_map]
    rfl
  rw [hen, show (vicT pct [] T).length = ((vicT pct [] T).map (·.f0)).length from (List.length_map _).symm] at hown
  have hR6 : Kd.R (Kd.int .i64) 3 w1 w.heap.size (fun _ => True) v1 ((vicT pct [] T).map (·.f0)) := Kd.R_of_own hown (fun _ _ => trivial)
  obtain ⟨A6, c6, rfl, hc6, hr6⟩ := Kd.R_reads hR6
  rw [List.length_map] at hc6 ⊢
  rw [List.length_map] at hr6
  exact ⟨A6, c6, rfl, hc6, hr6, hb1⟩
theorem vic_len {p : Int} {T : List S23} : (vicT p [] T).length ≤ T.length := by
  have := (vicT_perm p T []).length_eq
  rw [this]
  unfold keepV
  simpa using List.length_filter_le _ _
set_option maxRecDepth 100000 in
set_option maxHeartbeats 40000000 in
theorem vics_walk (A : Option Addr) (c : Nat) (l : List S46) (p1 p2 : Int) (w : World) (hc : l.length ≤ c) (hr : Kd.C k46 w A l.length l) (hw : OpsWf l) :
    Calls Try.prog 5 #[.slice A l.length c, .agg #[.int .i64 p1, .int .i64 p2]] w fun e w' => e = .returned (.bool true) ∧ Below w.heap.size w w' := by
  have hu46 := Try.underlying46
  have hu23 := Try.underlying23
  have hu25 := Try.underlying25
  have hu26 := Try.underlying26
  have hu28 := Try.underlying28
  have hu38 := Try.underlying38
  have hu39 := Try.underlying39
  have hu47 := Try.underlying47
  have hu30 := Try.underlying30
  have hmx : l.length ≤ 9223372036854775807 := hr.2.1
  have HB := Aside0.mk (below_alloc (Below.refl w.heap.size w) (.cells #[.int .i64 p1, .int .i64 p2] 39))
  have HBX := Aside0.mk (blk_new w (.cells #[.int .i64 p1, .int .i64 p2] 39))
  have hr1 := Kd.C_below hr HB.out
  have HR := Aside0.mk hr1
  have HC := Aside0.mk hc
  have HW := Aside0.mk hw
  have HFew := fun W (hb : Below (w.alloc (.cells #[.int .i64 p1, .int .i64 p2] 39)).heap.size (w.alloc (.cells #[.int .i64 p1, .int .i64 p2] 39)) W) => few_calls A c l W (Kd.C_below hr1 hb) hc
  clear hr hr1 hc hw
  by_cases hf : FewP l
  · rw [decide_eq_true hf] at HFew
    have HF := Aside0.mk hf
    have HFew := Aside0.mk HFew
    clear hf
    by_cases hcg1 : p1 < 0
    · have g1 : decide (p1 < 0) = true := by simpa using hcg1
      as_aux_lemma =>
        go_enter Try.func5, Try.ntmps5
        go_wp2_with (fail)
        generalize (w.alloc (.cells #[.int .i64 p1, .int .i64 p2] 39)) = wa at HB HBX HR HFew ⊢
        generalize w.heap.size = bx at HBX ⊢
        refine (newS wa wa (Below.refl _ _)).mono ?_
        rintro e w1 ⟨g, b, rfl, hs⟩
        have HS1 := Aside0.mk hs
        clear hs
        go_wp2_with (fail)
        refine (HFew.out w1 HS1.out.bel).mono ?_
        rintro e w2 ⟨rfl, hb2⟩
        have HS2 := Aside0.mk (HS1.out.below hb2)
        have k0 : w2.cell? ⟨bx, 0, none⟩ = some (.int .i64 p1) := (blk_cell (blk_below HBX.out HS2.out.bel) 0).trans rfl
        have k1 : w2.cell? ⟨bx, 1, none⟩ = some (.int .i64 p2) := (blk_cell (blk_below HBX.out HS2.out.bel) 1).trans rfl
        clear hb2 HS1
        go_wp2_with (fail)
        refine (awake_calls _).mono ?_
        rintro e w3 ⟨rfl, hb3⟩
        have HS3 := Aside0.mk (HS2.out.below hb3)
        clear hb3 HS2
        go_wp2_with (fail)
        go_ret
        exact ⟨rfl, below_step HB.out HS3.out.bel⟩
    have g1 : decide (p1 < 0) = false := by simpa using hcg1
    by_cases hcg2 : p1 > 1000
    · have g2 : decide (p1 > 1000) = true := by simpa using hcg2
      as_aux_lemma =>
        go_enter Try.func5, Try.ntmps5
        go_wp2_with (fail)
        generalize (w.alloc (.cells #[.int .i64 p1, .int .i64 p2] 39)) = wa at HB HBX HR HFew ⊢
        generalize w.heap.size = bx at HBX ⊢
        refine (newS wa wa (Below.refl _ _)).mono ?_
        rintro e w1 ⟨g, b, rfl, hs⟩
        have HS1 := Aside0.mk hs
        clear hs
        go_wp2_with (fail)
        refine (HFew.out w1 HS1.out.bel).mono ?_
        rintro e w2 ⟨rfl, hb2⟩
        have HS2 := Aside0.mk (HS1.out.below hb2)
        have k0 : w2.cell? ⟨bx, 0, none⟩ = some (.int .i64 p1) := (blk_cell (blk_below HBX.out HS2.out.bel) 0).trans rfl
        have k1 : w2.cell? ⟨bx, 1, none⟩ = some (.int .i64 p2) := (blk_cell (blk_below HBX.out HS2.out.bel) 1).trans rfl
        clear hb2 HS1
        go_wp2_with (fail)
        refine (awake_calls _).mono ?_
        rintro e w3 ⟨rfl, hb3⟩
        have HS3 := Aside0.mk (HS2.out.below hb3)
        clear hb3 HS2
        go_wp2_with (fail)
        go_ret
        exact ⟨rfl, below_step HB.out HS3.out.bel⟩
    have g2 : decide (p1 > 1000) = false := by simpa using hcg2
    by_cases hcg3 : p2 < p1
    · have g3 : decide (p2 < p1) = true := by simpa using hcg3
      as_aux_lemma =>
        go_enter Try.func5, Try.ntmps5
        go_wp2_with (fail)
        generalize (w.alloc (.cells #[.int .i64 p1, .int .i64 p2] 39)) = wa at HB HBX HR HFew ⊢
        generalize w.heap.size = bx at HBX ⊢
        refine (newS wa wa (Below.refl _ _)).mono ?_
        rintro e w1 ⟨g, b, rfl, hs⟩
        have HS1 := Aside0.mk hs
        clear hs
        go_wp2_with (fail)
        refine (HFew.out w1 HS1.out.bel).mono ?_
        rintro e w2 ⟨rfl, hb2⟩
        have HS2 := Aside0.mk (HS1.out.below hb2)
        have k0 : w2.cell? ⟨bx, 0, none⟩ = some (.int .i64 p1) := (blk_cell (blk_below HBX.out HS2.out.bel) 0).trans rfl
        have k1 : w2.cell? ⟨bx, 1, none⟩ = some (.int .i64 p2) := (blk_cell (blk_below HBX.out HS2.out.bel) 1).trans rfl
        clear hb2 HS1
        go_wp2_with (fail)
        refine (awake_calls _).mono ?_
        rintro e w3 ⟨rfl, hb3⟩
        have HS3 := Aside0.mk (HS2.out.below hb3)
        clear hb3 HS2
        go_wp2_with (fail)
        go_ret
        exact ⟨rfl, below_step HB.out HS3.out.bel⟩
    have g3 : decide (p2 < p1) = false := by simpa using hcg3
    by_cases hcg4 : p2 > 1000
    · have g4 : decide (p2 > 1000) = true := by simpa using hcg4
      as_aux_lemma =>
        go_enter Try.func5, Try.ntmps5
        go_wp2_with (fail)
        generalize (w.alloc (.cells #[.int .i64 p1, .int .i64 p2] 39)) = wa at HB HBX HR HFew ⊢
        generalize w.heap.size = bx at HBX ⊢
        refine (newS wa wa (Below.refl _ _)).mono ?_
        rintro e w1 ⟨g, b, rfl, hs⟩
        have HS1 := Aside0.mk hs
        clear hs
        go_wp2_with (fail)
        refine (HFew.out w1 HS1.out.bel).mono ?_
        rintro e w2 ⟨rfl, hb2⟩
        have HS2 := Aside0.mk (HS1.out.below hb2)
        have k0 : w2.cell? ⟨bx, 0, none⟩ = some (.int .i64 p1) := (blk_cell (blk_below HBX.out HS2.out.bel) 0).trans rfl
        have k1 : w2.cell? ⟨bx, 1, none⟩ = some (.int .i64 p2) := (blk_cell (blk_below HBX.out HS2.out.bel) 1).trans rfl
        clear hb2 HS1
        go_wp2_with (fail)
        refine (awake_calls _).mono ?_
        rintro e w3 ⟨rfl, hb3⟩
        have HS3 := Aside0.mk (HS2.out.below hb3)
        clear hb3 HS2
        go_wp2_with (fail)
        go_ret
        exact ⟨rfl, below_step HB.out HS3.out.bel⟩
    have g4 : decide (p2 > 1000) = false := by simpa using hcg4
    as_aux_lemma =>
      go_enter Try.func5, Try.ntmps5
      go_wp2_with (fail)
      generalize (w.alloc (.cells #[.int .i64 p1, .int .i64 p2] 39)) = wa at HB HBX HR HFew ⊢
      generalize w.heap.size = bx at HBX ⊢
      refine (newS wa wa (Below.refl _ _)).mono ?_
      rintro e w1 ⟨g, b, rfl, hs⟩
      have HS1 := Aside0.mk hs
      clear hs
      go_wp2_with (fail)
      refine (HFew.out w1 HS1.out.bel).mono ?_
      rintro e w2 ⟨rfl, hb2⟩
      have HS2 := Aside0.mk (HS1.out.below hb2)
      have k0 : w2.cell? ⟨bx, 0, none⟩ = some (.int .i64 p1) := (blk_cell (blk_below HBX.out HS2.out.bel) 0).trans rfl
      have k1 : w2.cell? ⟨bx, 1, none⟩ = some (.int .i64 p2) := (blk_cell (blk_below HBX.out HS2.out.bel) 1).trans rfl
      clear hb2 HS1
      go_wp2_with (fail)
      clear k0 k1
      go_loopg [6] l.length (fun kx v6 wr => ∃ (i b N : Nat) (T : List S23), v6 = .int .i64 (i : Int) ∧ i ≤ l.length ∧ l.length - i ≤ kx ∧ N ≤ 80 * i ∧ Aside0 (Stt wa wr g b N (20 * i) T (.slice none 0 0) []))
      case atStart => exact ⟨0, b, 0, [], rfl, Nat.zero_le _, by omega, by omega, HS2⟩
      case round =>
        clear HS2
        obtain ⟨i, b, N, T, rfl, hi, hik, hN, HS⟩ := hrel
        have hl40 : l.length ≤ 40 := HF.out.2
        by_cases hlt : i < l.length
        · as_aux_lemma =>
            obtain ⟨ad, A2, c2, A3, c3, A4, c4, rfl, k0, k1, k2, k3, k4, ha⟩ := args_at HR.out HF.out HW.out i hlt
            replace k0 := cell_below HS.out.bel k0
            replace k1 := cell_below HS.out.bel k1
            replace k2 := cell_below HS.out.bel k2
            replace k3 := cell_below HS.out.bel k3
            replace k4 := cell_below HS.out.bel k4
            have HD := Aside0.mk (does_calls wa wr g b N (20 * i) T [] (.slice none 0 0) l[i] A2 c2 A3 c3 A4 c4 HS.out ha (by omega) (by omega))
            clear ha
            go_wp2_with (fail)
            refine HD.out.mono ?_
            rintro e w3 ⟨b', v', ok, rfl, -, hs3⟩
            have HS3 := Aside0.mk (hs3.forget (M' := 20 * (i + 1)))
            clear hs3 k0 k1 k2 k3 k4 HD
            go_wp2_with (fail)
            go_roundg (gk - 1)
            case measure => omega
            case rel => exact ⟨i + 1, b', N + 80, _, by go_num, hlt, by omega, by omega, HS3⟩
        · as_aux_lemma =>
            have hil : i = l.length := by omega
            subst hil
            clear hlt
            have hN2 : N ≤ 3200 := by omega
            have hTn : T.length ≤ 3200 := Nat.le_trans HS.out.tab.2.1 hN2
            have hG : Good T := ⟨HS.out.tab.2.sorted, HS.out.tab.2.may⟩
            have HG := Aside0.mk hG
            have HPre := Aside0.mk (vic_prefix (p1 := p1) (p2 := p2) (by omega) (by omega) (by omega) hG)
            have HFull := Aside0.mk (vic_full (p := p2) (by omega) (by omega) hG)
            have HSrt := Aside0.mk (vic_sorted (p := p2) (by omega) (by omega) hG)
            have hV2n : (vicT p2 [] T).length ≤ 3200 := Nat.le_trans vic_len hTn
            have HC1 := fun W hW => vict_calls g N (by omega) T hG p1 (by omega) W hW
            have HC2 := fun W hW => vict_calls g N (by omega) T hG p2 (by omega) W hW
            have HC0 := fun W hW => vict_calls g N (by omega) T hG 0 (by omega) W hW
            rw [vicT_zero hG] at HC0
            generalize vicT p1 [] T = V1 at HC1 HPre
            generalize vicT p2 [] T = V2 at HC2 HPre HFull HSrt hV2n
            have hle : V1.length ≤ V2.length := by
              have := congrArg List.length HPre.out
              rw [List.length_take] at this
              omega
            have HC1 := Aside0.mk HC1
            have HC2 := Aside0.mk HC2
            have HC0 := Aside0.mk HC0
            clear hG
            have b0 := blk_below HBX.out HS.out.bel
            have k0 : wr.cell? ⟨bx, 0, none⟩ = some (.int .i64 p1) := (blk_cell b0 0).trans rfl
            clear b0
            go_wp2_with (fail)
            refine (HC1.out wr HS.out.tab.tb).mono ?_
            rintro e w3 ⟨A1, c1, rfl, hc1, hr1, hb3⟩
            have HS3 := Aside0.mk (HS.out.below hb3)
            have HR1 := Aside0.mk hr1
            have HK1 := Aside0.mk hc1
            clear hr1 hc1 hb3 HC1 HS k0
            have b0 := blk_below HBX.out HS3.out.bel
            have k1 : w3.cell? ⟨bx, 1, none⟩ = some (.int .i64 p2) := (blk_cell b0 1).trans rfl
            clear b0
            go_wp2_with (fail)
            refine (HC2.out w3 HS3.out.tab.tb).mono ?_
            rintro e w4 ⟨A2, c2, rfl, hc2, hr2, hb4⟩
            have HS4 := Aside0.mk (HS3.out.below hb4)
            have HR2 := Aside0.mk hr2
            have hr1 := Kd.C_below HR1.out hb4
            clear HR1
            have HR1 := Aside0.mk hr1
            clear hr2 hr1 hb4 HC2 HS3 k1
            go_wp2_with (fail)
            refine (HC0.out w4 HS4.out.tab.tb).mono ?_
            rintro e w5 ⟨A5, c5, rfl, hc5, -, hb5⟩
            have HS5 := Aside0.mk (HS4.out.below hb5)
            have hr1 := Kd.C_below HR1.out hb5
            have hr2 := Kd.C_below HR2.out hb5
            have hr3 := Kd.C_take hr2 (m := V1.length) (by rw [List.length_map]; exact hle)
            rw [← List.map_take, ← HPre.out] at hr3
            have HI := Aside0.mk (lighterlaw08_ints.calls 200000 A1 c1 _ A2 c2 _ true w5 hr1 (by rw [List.length_map]; exact HK1.out) hr3 (by rw [List.length_map]; omega) (ints_same _ (by rw [List.length_map]; omega) 200000 (by rw [List.length_map]; omega)))
            rw [List.length_map] at HI
            have HR2' := Aside0.mk hr2
            clear hr1 hr2 hr3 hb5 HC0 HS4 HR1 HR2 hc5
            have hgt : decide ((V1.length : Int) > (V2.length : Int)) = false := by simp; omega
            have hgn : decide (V2.length < V1.length) = false := by simp; omega
            go_wp2_with (fail)
            refine HI.out.mono ?_
            rintro e w6 ⟨rfl, nd, rfl⟩
            have hb6 := pw_below_drewN (Below.refl w5.heap.size w5) nd
            have HS6 := Aside0.mk (HS5.out.below hb6)
            have HR6 := Aside0.mk (Kd.C_below HR2'.out hb6)
            clear HI HS5 HR2' hb6
            generalize w5.drewN nd = w6 at HS6 HR6 ⊢
            go_wp2_with (fail)
            go_loopg [9, 10] V2.length (fun kx v9 v10 wr => ∃ (k bits : Nat), v10 = .int .i64 (k : Int) ∧ k ≤ V2.length ∧ V2.length - k ≤ kx ∧ v9 = .float .f64 bits ∧ Aside0 (∀ h : k < V2.length, (ordF (partB V2[k]) bits == some .lt) = false) ∧ Aside0 (Below w6.heap.size w6 wr))
            case atStart =>
              refine ⟨0, minus1, rfl, Nat.zero_le _, by omega, rfl, ⟨fun h => ?_⟩, ⟨Below.refl _ _⟩⟩
              rw [ord_neg (HFull.out _ (List.getElem_mem h)).1]
              rfl
            case round =>
              obtain ⟨k, bits, rfl, hk, hkk, rfl, HO, HBr⟩ := hrel
              by_cases hltk : k < V2.length
              · as_aux_lemma =>
                  have hk1 : k + 1 ≤ V2.length := hltk
                  obtain ⟨ad6, rfl, h0⟩ := Kd.at_int (Kd.C_below HR6.out HBr.out) (k : Int) (by omega) (by rw [List.length_map]; omega)
                  have hrd : YtcjeegomonegpaaW.PrintWords.rd (V2.map (·.f0)) (k : Int) = V2[k].f0 := by
                    unfold YtcjeegomonegpaaW.PrintWords.rd
                    rw [Int.toNat_natCast, List.getD_eq_getElem?_getD, List.getElem?_map, List.getElem?_eq_getElem hltk]
                    rfl
                  rw [hrd, Int.toNat_natCast] at h0
                  obtain ⟨hfull, hmem, hliv⟩ := HFull.out V2[k] (List.getElem_mem _)
                  have hfind : findT T V2[k].f0 = some V2[k] := (find_iff (uniq_sorted HG.out.1)).2 ⟨hmem, rfl⟩
                  have hord := HO.out hltk
                  have HNext := Aside0.mk (show ∀ h : k + 1 < V2.length, (ordF (partB V2[k + 1]) (partB V2[k]) == some .lt) = false from fun h => vic_rise hfull (HFull.out _ (List.getElem_mem h)).1 (List.pairwise_iff_getElem.1 HSrt.out k (k + 1) hltk h (by omega)))
                  have HS7 := Aside0.mk (HS6.out.below HBr.out)
                  have hmay := hfull.1
                  have hwf : (Lit.int .i64 V2[k].f0).wf = true := wf_of (by have := hmay.1; omega) (by have := hmay.2.1; omega)
                  have HPart := fun W => part_calls V2[k] (full_ok _ hfull) W
                  clear hrd hmem HO
                  generalize V2[k] = x at h0 hfull hliv hfind hord HNext hmay hwf HPart
                  obtain ⟨x0, x1, x2⟩ := x
                  simp only at h0 hliv hfind hwf HPart
                  obtain ⟨-, -, m1, m2, m3, m4⟩ := hmay
                  simp only at m1 m2 m3 m4
                  obtain ⟨q1, q2⟩ := prod_in (a := p2) (b := x1) (by omega) (by omega) m1 m2
                  have hw1 : IntKind.i64.wrap (x2 * 100) = x2 * 100 := IntWalk.i64_in _ (by omega)
                  have hw2 : IntKind.i64.wrap (p2 * x1) = p2 * x1 := IntWalk.i64_in _ (by omega)
                  have hge : decide (x2 * 100 ≥ p2 * x1) = false := by simp; omega
                  have HGet := Aside0.mk (get_some g N T x0 hwf wr HS7.out.tab.tb _ hfind)
                  have HPart := Aside0.mk HPart
                  clear hfind hwf hfull
                  go_wp2_with (fail)
                  refine HGet.out.mono ?_
                  rintro e w8 ⟨rfl, hb8⟩
                  have HB8 := Aside0.mk (below_alloc (below_step HBr.out hb8) (.cells #[.int .i64 x0, .int .i64 x1, .int .i64 x2] 23))
                  have HX8 := Aside0.mk (blk_new w8 (.cells #[.int .i64 x0, .int .i64 x1, .int .i64 x2] 23))
                  clear hb8 HGet HS7 h0
                  have j0 : (w8.alloc (.cells #[.int .i64 x0, .int .i64 x1, .int .i64 x2] 23)).cell? ⟨w8.heap.size, 0, none⟩ = some (.int .i64 x0) := (blk_cell HX8.out 0).trans rfl
                  have j1 : (w8.alloc (.cells #[.int .i64 x0, .int .i64 x1, .int .i64 x2] 23)).cell? ⟨w8.heap.size, 1, none⟩ = some (.int .i64 x1) := (blk_cell HX8.out 1).trans rfl
                  have j2 : (w8.alloc (.cells #[.int .i64 x0, .int .i64 x1, .int .i64 x2] 23)).cell? ⟨w8.heap.size, 2, none⟩ = some (.int .i64 x2) := (blk_cell HX8.out 2).trans rfl
                  go_wp2_with (fail)
                  generalize (w8.alloc (.cells #[.int .i64 x0, .int .i64 x1, .int .i64 x2] 23)) = w9 at HB8 HX8 j0 j1 j2 ⊢
                  generalize w8.heap.size = by9 at HX8 j0 j1 j2 ⊢
                  refine (HPart.out w9).mono ?_
                  rintro e w10 ⟨rfl, os, hw10⟩
                  have hb10 : Below w9.heap.size w9 w10 := GrowOf.below ⟨0, os, hw10⟩
                  clear hw10 j0 j1 j2
                  have HB10 := Aside0.mk (below_step HB8.out hb10)
                  have HX10 := Aside0.mk (blk_below HX8.out hb10)
                  clear hb10 HB8 HX8
                  have j0 : w10.cell? ⟨by9, 0, none⟩ = some (.int .i64 x0) := (blk_cell HX10.out 0).trans rfl
                  have j1 : w10.cell? ⟨by9, 1, none⟩ = some (.int .i64 x1) := (blk_cell HX10.out 1).trans rfl
                  have j2 : w10.cell? ⟨by9, 2, none⟩ = some (.int .i64 x2) := (blk_cell HX10.out 2).trans rfl
                  have kp : w10.cell? ⟨bx, 1, none⟩ = some (.int .i64 p2) := (blk_cell (blk_below HBX.out (below_step HS6.out.bel HB10.out)) 1).trans rfl
                  go_wp2_with (fail)
                  refine (HPart.out w10).mono ?_
                  rintro e w11 ⟨rfl, os, hw11⟩
                  have hb11 : Below w10.heap.size w10 w11 := GrowOf.below ⟨0, os, hw11⟩
                  have HB11 := Aside0.mk (below_step HB10.out hb11)
                  clear hw11 hb11 j0 j1 j2 kp
                  go_wp2_with (fail)
                  go_roundg (gk - 1)
                  case measure => omega
                  case rel => exact ⟨k + 1, partB ⟨x0, x1, x2⟩, by go_num, hk1, by omega, rfl, HNext, HB11⟩
              · as_aux_lemma =>
                  have HS7 := Aside0.mk (HS6.out.below HBr.out)
                  clear HO HBr
                  go_wp2_with (fail)
                  refine (awake_calls _).mono ?_
                  rintro e w14 ⟨rfl, hb14⟩
                  have HS14 := Aside0.mk (HS7.out.below hb14)
                  clear hb14
                  go_wp2_with (fail)
                  go_ret
                  exact ⟨rfl, below_step HB.out HS14.out.bel⟩
  · rw [decide_eq_false hf] at HFew
    have HFew := Aside0.mk HFew
    clear hf
    as_aux_lemma =>
      go_enter Try.func5, Try.ntmps5
      go_wp2_with (fail)
      generalize (w.alloc (.cells #[.int .i64 p1, .int .i64 p2] 39)) = wa at HB HBX HR HFew ⊢
      generalize w.heap.size = bx at HBX ⊢
      refine (newS wa wa (Below.refl _ _)).mono ?_
      rintro e w1 ⟨g, b, rfl, hs⟩
      have HS1 := Aside0.mk hs
      clear hs
      go_wp2_with (fail)
      refine (HFew.out w1 HS1.out.bel).mono ?_
      rintro e w2 ⟨rfl, hb2⟩
      have HS2 := Aside0.mk (HS1.out.below hb2)
      have k0 : w2.cell? ⟨bx, 0, none⟩ = some (.int .i64 p1) := (blk_cell (blk_below HBX.out HS2.out.bel) 0).trans rfl
      have k1 : w2.cell? ⟨bx, 1, none⟩ = some (.int .i64 p2) := (blk_cell (blk_below HBX.out HS2.out.bel) 1).trans rfl
      clear hb2 HS1
      go_wp2_with (fail)
      refine (awake_calls _).mono ?_
      rintro e w3 ⟨rfl, hb3⟩
      have HS3 := Aside0.mk (HS2.out.below hb3)
      clear hb3 HS2
      go_wp2_with (fail)
      go_ret
      exact ⟨rfl, below_step HB.out HS3.out.bel⟩
end Go.Proofs.Ytcjeegomonegpaa.PLivePlays
namespace Go.Proofs.Ytcjeegomonegpaa.liveVictims
open Go.ChangeShapes Go.WideShapes Go.ChangeAt Go.RowKit Go.Joins
set_option linter.unusedVariables false
theorem own : ownKnob Try.prog.godebug = none := by kernel_rfl
theorem laidOut : laidOutB Try.prog = true := by kernel_rfl

theorem cells39 : Try.prog.cellsOf 39 = 2 := by kernel_rfl
theorem cells3 : Try.prog.cellsOf 3 = 1 := by kernel_rfl
theorem two_of {cs : Array Value} (h : cs.size = 2) : ∃ a b, cs = #[a, b] := by
  obtain ⟨l⟩ := cs
  match l, h with
  | [a, b], _ => exact ⟨a, b, rfl⟩
set_option maxRecDepth 100000 in
theorem open_two {H : Type} {enc : TypeId × Value → H} {w : World} {r : Reach} {b0 base : Nat} {spare : Nat → Bool} {held : Bool} {v : Value} {d : DataW H} {p : List MemPlace}
    (hv : Value.okWide Try.prog w r b0 39 v) (h : DataW.Trod enc Try.prog w base spare held 39 v d p) : ∃ x y : Int, v = .agg #[.int .i64 x, .int .i64 y] := by
  have hs := Try.underlying39
  simp only [Value.okWide, hs] at hv
  obtain ⟨cs, rfl, hsz, _⟩ := hv
  obtain ⟨c0, c1, rfl⟩ := two_of (hsz.trans cells39)
  obtain ⟨fuel, hf⟩ := h
  obtain ⟨xs, m, _, _, _, hl, hi⟩ := DataW.trod_array hs hf
  have h0 := hi 0 (by omega)
  have h1 := hi 1 (by omega)
  rw [cells3] at h0 h1
  obtain ⟨x0, e0⟩ : ∃ x0, xs[0]? = some x0 := ⟨xs[0]'(by omega), List.getElem?_eq_getElem (by omega)⟩
  obtain ⟨x1, e1⟩ : ∃ x1, xs[1]? = some x1 := ⟨xs[1]'(by omega), List.getElem?_eq_getElem (by omega)⟩
  rw [e0] at h0
  rw [e1] at h1
  obtain ⟨a, q0, _, _⟩ := DataW.trod_int Try.underlying3 h0
  obtain ⟨b, q1, _, _⟩ := DataW.trod_int Try.underlying3 h1
  simp [Value.cells] at q0 q1
  exact ⟨a, b, by rw [q0, q1]⟩
set_option maxRecDepth 100000 in
theorem lifted (os : Os) (started : os.Started) (H : Type) (enc : TypeId × Value → H) :
    ReturnsInHanded {} Try.checked os 5 .any (Rows.liveVictimsSpec.pre6 enc Try.prog Try.f5 Rows.liveVictimsRow.domain false) (Rows.liveVictimsSpec.post enc Try.prog Try.f5 false true false false) := by
  refine returnsInHanded_of_change_sized (C := Try.checked) own started (by kernel_rfl) Try.func5
    (ChangeSpec.witness6 (enc := enc) (C := Try.checked) false ⟨#[], #[.slice none 0 0, .agg #[.int .i64 0, .int .i64 0]], []⟩ 8 (by kernel_rfl) (by kernel_rfl) (by kernel_rfl) (by kernel_rfl)) ?_
  intro W base args ds gs before hval0 hW hcnd hsz0 _
  have hval : ∀ (j : Nat) t v, Try.f5.params[j]? = some t → args[j]? = some v → Value.okWide Try.prog W .any base t v := hval0
  have hW' := hW
  obtain ⟨p, q, hA0, hV, rfl, hfz, hnd⟩ := hW
  have hA : DataW.TrodAll enc Try.prog W 0 (fun _ => true) true Try.f5.params.toList args.toList ds p := hA0
  rw [Try.params5] at hA hval
  obtain ⟨v0, vs0, d0, ds0, p0, q0, hargs, rfl, rfl, h0, r0⟩ := trodAll_cons hA
  obtain ⟨v1, vs1, d1, ds1, p1, q1, rfl, rfl, rfl, h1, r1⟩ := trodAll_cons r0
  obtain ⟨rfl, rfl, rfl⟩ := trodAll_nil r1
  obtain rfl : args = #[v0, v1] := by cases args; simp_all
  obtain ⟨rfl, rfl⟩ := trodVars_none hV
  have k0 := h0
  have lt0 : ∀ x ∈ p0, x.block < W.heap.size := by obtain ⟨m, hm⟩ := k0; exact DataW.trod_lt m _ _ _ hm
  obtain ⟨A0, n0, c0, rfl⟩ := okWide_slice Try.underlying38 (hval 0 38 v0 rfl rfl)
  obtain ⟨l0, rfl, hc0, hr0, hw0⟩ : ∃ l : List PLivePlays.S46, l.length = n0 ∧ n0 ≤ c0 ∧ Go.Proofs.YtcjeegomonegpaaW.PrintWords.Kd.C PLivePlays.k46 W A0 n0 l ∧ PLivePlays.OpsWf l := by obtain ⟨m, hm⟩ := h0; exact PLivePlays.open_ops hm
  have k1 := h1
  have lt1 : ∀ x ∈ p1, x.block < W.heap.size := by obtain ⟨m, hm⟩ := k1; exact DataW.trod_lt m _ _ _ hm
  obtain ⟨y0, y1, rfl⟩ := open_two (hval 1 39 v1 rfl rfl) h1
  clear hA0 hval0 hsz0
  refine (PLivePlays.vics_walk A0 c0 l0 y0 y1 W hc0 hr0 hw0).mono fun e W' ⟨he, bel⟩ => ?_
  subst he
  exact ⟨_, rfl, _, _, _, [], _, [], hW', trodAll_mk1 (shut_bool Try.underlying4 _), (trodAll_cons_mk (Below.trod laidOut (by kernel_rfl) (of_decide_eq_true (by kernel_rfl)) k0 bel lt0) (trodAll_cons_mk (Below.trod laidOut (by kernel_rfl) (of_decide_eq_true (by kernel_rfl)) k1 bel lt1) trodAll_mk0)), rfl, bel.frame _, fun h => by cases h⟩
theorem over : Rows.liveVictimsRow.holds Try.pinned (OpenSpec.ofChange Rows.liveVictimsSpec) :=
  OpenClaim.holds_of_wide 5 Try.f5 rfl rfl rfl rfl rfl rfl rfl ⟨rfl, rfl, rfl, rfl, rfl⟩ rfl rfl rfl rfl rfl (by kernel_rfl) Try.func5 (by kernel_rfl)
    (of_decide_eq_true (by kernel_rfl)) (by unfold Func.isWrapper; first | (rw [if_pos (by decide +kernel)]; kernel_rfl) | (rw [if_neg (by decide +kernel)]; exact ⟨rfl, rfl⟩))
    (fun os started H enc _ => lifted os started H enc)
theorem proved : Rows.LiveVictimsSaid := over
#print axioms proved
end Go.Proofs.Ytcjeegomonegpaa.liveVictims
namespace Go.Proofs.Ytcjeegomonegpaa
/-- The row, under a short name, for the claim. -/
theorem liveVictims_holds : Rows.LiveVictimsSaid := liveVictims.proved
end Go.Proofs.Ytcjeegomonegpaa
