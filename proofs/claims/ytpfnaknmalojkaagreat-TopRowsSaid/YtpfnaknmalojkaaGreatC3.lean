/- YtpfnaknmalojkaaGreatC3: what this claim rests on. Words and contracts are those of the kit's print (print.sh wrote them, those that nothing here reaches are left out); all else is own work. Conditions: what each theorem says. -/
import Derived.Test.YtpfnaknmalojkaaGreatC2
import Derived.Maps.Range
import Derived.Maps.Ext
import Derived.Shelf.Abstract
import Derived.Shelf.SlMaps.Clone
namespace Go.Proofs.YtpfnaknmalojkaaGreat.PTopRows
open Go.RowKit Go.Proofs.YtpfnaknmalojkaaGreatW.PrintWords Go.Proofs.YtpfnaknmalojkaaGreatW.PrintLast Go.Proofs.YtpfnaknmalojkaaGreatW.PrintMore
attribute [local go_sem] Za5 Za4 Zbp Zbo Za7 Za6 Zbl Zbk   -- for this text's walks alone
set_option linter.unusedVariables false
set_option linter.unusedSimpArgs false
attribute [local go_sem high] eqA86
def Za8.f (a0_0 : Int) (a0_1 : Int) : Option (Bool) := if a0_0 ≥ 0 then (if a0_0 < 1099511627776 then (if a0_1 ≥ 0 then (some (decide (a0_1 < 1099511627776))) else (some false)) else (some false)) else (some false)
set_option maxHeartbeats 8000000 in
set_option maxRecDepth 100000 in
theorem Za8.calls (a0_0 : Int) (a0_1 : Int) (r : Bool) (w : World) (h : Za8.f a0_0 a0_1 = some r) :
  Calls Tryz.prog 75 #[.agg #[.int .i64 a0_0, .int .i64 a0_1]] w fun e w' => e = .returned (.bool r) ∧ Below w.heap.size w w' := by
 have hu84 := Tryz.underlying84
 have HB := Aside0.mk (Below.refl w.heap.size w)
 have H : (if a0_0 ≥ 0 then (if a0_0 < 1099511627776 then (if a0_1 ≥ 0 then (some (decide (a0_1 < 1099511627776))) else (some false)) else (some false)) else (some false)) = some r := h
 clear h
 by_cases c2 : a0_0 ≥ 0
 ·rw [if_pos c2] at H
  have c2b0 : decide (0 ≤ a0_0) = true := decide_eq_true c2
  clear c2
  by_cases c3 : a0_0 < 1099511627776
  ·rw [if_pos c3] at H
   have c3b0 : decide (a0_0 < 1099511627776) = true := decide_eq_true c3
   clear c3
   by_cases c4 : a0_1 ≥ 0
   ·rw [if_pos c4] at H
    have c4b0 : decide (0 ≤ a0_1) = true := decide_eq_true c4
    clear c4
    obtain rfl := Option.some.inj H
    go_enter Tryz.func75, Tryz.ntmps75
    go_wp2_with (first | ((with_reducible refine Zaw (N := 1) rfl ?_); refine Zau ?hg (N := 1) ?hd (cs := #[.int .i64 a0_0, .int .i64 a0_1]) (t := 84) ?hr ?_; (case hd => rfl); (case hg => rfl); (case hr => first | (go_simp; done) | (go_simp; rfl)); intro gb194 hg w5 hbox hb; have n0_ := Aside0.mk (Zae (by repeat (first | (with_reducible first | exact HB.out | apply Zab | apply Zac | apply Zaf) | exact HB.out)) hb); have n1_ := Aside0.mk (hbox); have n2_ := Aside0.mk ((by rw [hg]; exact (Zai (by repeat (first | (with_reducible first | exact HB.out | apply Zab | apply Zac | apply Zaf) | exact HB.out))) : w.heap.size ≤ gb194)); have n3_ := Aside0.mk ((by rw [hg]; exact (Zai (by repeat (first | (with_reducible first | exact HB.out | apply Zab | apply Zac | apply Zaf) | exact HB.out))) : w.heap.size ≤ gb194)); clear HB; have HB := n0_; have BK194 := n1_; have GW194 := n2_; have GE194 := n3_; clear n0_ n1_ n2_ n3_; clear hb hbox hg; have hcz6_0 : w5.cell? ⟨gb194, 0, none⟩ = some (.int .i64 a0_0) := (Zaa BK194.out 0).trans rfl; have hcz6_1 : w5.cell? ⟨gb194, 1, none⟩ = some (.int .i64 a0_1) := (Zaa BK194.out 1).trans rfl; have hfz6_0 := Zad BK194.out 0; have hfz6_1 := Zad BK194.out 1))
    go_ret
    exact ⟨by first | rfl | (simp [Zal, Zak] <;> rfl) | (simp [*, Zal, Zak] <;> rfl), by repeat (first | (with_reducible first | exact HB.out | apply Zab | apply Zac | apply Zaf | refine Zaj ?_ GE194.out) | exact HB.out)⟩
   ·rw [if_neg c4] at H
    have c4b0 : decide (0 ≤ a0_1) = false := decide_eq_false c4
    clear c4
    obtain rfl := Option.some.inj H
    go_enter Tryz.func75, Tryz.ntmps75
    go_wp2_with (first | ((with_reducible refine Zaw (N := 1) rfl ?_); refine Zau ?hg (N := 1) ?hd (cs := #[.int .i64 a0_0, .int .i64 a0_1]) (t := 84) ?hr ?_; (case hd => rfl); (case hg => rfl); (case hr => first | (go_simp; done) | (go_simp; rfl)); intro gb194 hg w7 hbox hb; have n0_ := Aside0.mk (Zae (by repeat (first | (with_reducible first | exact HB.out | apply Zab | apply Zac | apply Zaf) | exact HB.out)) hb); have n1_ := Aside0.mk (hbox); have n2_ := Aside0.mk ((by rw [hg]; exact (Zai (by repeat (first | (with_reducible first | exact HB.out | apply Zab | apply Zac | apply Zaf) | exact HB.out))) : w.heap.size ≤ gb194)); have n3_ := Aside0.mk ((by rw [hg]; exact (Zai (by repeat (first | (with_reducible first | exact HB.out | apply Zab | apply Zac | apply Zaf) | exact HB.out))) : w.heap.size ≤ gb194)); clear HB; have HB := n0_; have BK194 := n1_; have GW194 := n2_; have GE194 := n3_; clear n0_ n1_ n2_ n3_; clear hb hbox hg; have hcz8_0 : w7.cell? ⟨gb194, 0, none⟩ = some (.int .i64 a0_0) := (Zaa BK194.out 0).trans rfl; have hcz8_1 : w7.cell? ⟨gb194, 1, none⟩ = some (.int .i64 a0_1) := (Zaa BK194.out 1).trans rfl; have hfz8_0 := Zad BK194.out 0; have hfz8_1 := Zad BK194.out 1))
    go_ret
    exact ⟨by first | rfl | (simp [Zal, Zak] <;> rfl) | (simp [*, Zal, Zak] <;> rfl), by repeat (first | (with_reducible first | exact HB.out | apply Zab | apply Zac | apply Zaf | refine Zaj ?_ GE194.out) | exact HB.out)⟩
  ·rw [if_neg c3] at H
   have c3b0 : decide (a0_0 < 1099511627776) = false := decide_eq_false c3
   clear c3
   obtain rfl := Option.some.inj H
   go_enter Tryz.func75, Tryz.ntmps75
   go_wp2_with (first | ((with_reducible refine Zaw (N := 1) rfl ?_); refine Zau ?hg (N := 1) ?hd (cs := #[.int .i64 a0_0, .int .i64 a0_1]) (t := 84) ?hr ?_; (case hd => rfl); (case hg => rfl); (case hr => first | (go_simp; done) | (go_simp; rfl)); intro gb194 hg w9 hbox hb; have n0_ := Aside0.mk (Zae (by repeat (first | (with_reducible first | exact HB.out | apply Zab | apply Zac | apply Zaf) | exact HB.out)) hb); have n1_ := Aside0.mk (hbox); have n2_ := Aside0.mk ((by rw [hg]; exact (Zai (by repeat (first | (with_reducible first | exact HB.out | apply Zab | apply Zac | apply Zaf) | exact HB.out))) : w.heap.size ≤ gb194)); have n3_ := Aside0.mk ((by rw [hg]; exact (Zai (by repeat (first | (with_reducible first | exact HB.out | apply Zab | apply Zac | apply Zaf) | exact HB.out))) : w.heap.size ≤ gb194)); clear HB; have HB := n0_; have BK194 := n1_; have GW194 := n2_; have GE194 := n3_; clear n0_ n1_ n2_ n3_; clear hb hbox hg; have hcz10_0 : w9.cell? ⟨gb194, 0, none⟩ = some (.int .i64 a0_0) := (Zaa BK194.out 0).trans rfl; have hcz10_1 : w9.cell? ⟨gb194, 1, none⟩ = some (.int .i64 a0_1) := (Zaa BK194.out 1).trans rfl; have hfz10_0 := Zad BK194.out 0; have hfz10_1 := Zad BK194.out 1))
   go_ret
   exact ⟨by first | rfl | (simp [Zal, Zak] <;> rfl) | (simp [*, Zal, Zak] <;> rfl), by repeat (first | (with_reducible first | exact HB.out | apply Zab | apply Zac | apply Zaf | refine Zaj ?_ GE194.out) | exact HB.out)⟩
 ·rw [if_neg c2] at H
  have c2b0 : decide (0 ≤ a0_0) = false := decide_eq_false c2
  clear c2
  obtain rfl := Option.some.inj H
  go_enter Tryz.func75, Tryz.ntmps75
  go_wp2_with (first | ((with_reducible refine Zaw (N := 1) rfl ?_); refine Zau ?hg (N := 1) ?hd (cs := #[.int .i64 a0_0, .int .i64 a0_1]) (t := 84) ?hr ?_; (case hd => rfl); (case hg => rfl); (case hr => first | (go_simp; done) | (go_simp; rfl)); intro gb194 hg w11 hbox hb; have n0_ := Aside0.mk (Zae (by repeat (first | (with_reducible first | exact HB.out | apply Zab | apply Zac | apply Zaf) | exact HB.out)) hb); have n1_ := Aside0.mk (hbox); have n2_ := Aside0.mk ((by rw [hg]; exact (Zai (by repeat (first | (with_reducible first | exact HB.out | apply Zab | apply Zac | apply Zaf) | exact HB.out))) : w.heap.size ≤ gb194)); have n3_ := Aside0.mk ((by rw [hg]; exact (Zai (by repeat (first | (with_reducible first | exact HB.out | apply Zab | apply Zac | apply Zaf) | exact HB.out))) : w.heap.size ≤ gb194)); clear HB; have HB := n0_; have BK194 := n1_; have GW194 := n2_; have GE194 := n3_; clear n0_ n1_ n2_ n3_; clear hb hbox hg; have hcz12_0 : w11.cell? ⟨gb194, 0, none⟩ = some (.int .i64 a0_0) := (Zaa BK194.out 0).trans rfl; have hcz12_1 : w11.cell? ⟨gb194, 1, none⟩ = some (.int .i64 a0_1) := (Zaa BK194.out 1).trans rfl; have hfz12_0 := Zad BK194.out 0; have hfz12_1 := Zad BK194.out 1))
  go_ret
  exact ⟨by first | rfl | (simp [Zal, Zak] <;> rfl) | (simp [*, Zal, Zak] <;> rfl), by repeat (first | (with_reducible first | exact HB.out | apply Zab | apply Zac | apply Zaf | refine Zaj ?_ GE194.out) | exact HB.out)⟩
def ZbB.f (a0_0 : Int) (a0_1 : Int) (a0_2 : Int) (a0_3 : Int) : Option (Int) := (ZaZ.f a0_0 a0_1).bind fun t196 => (if t196 = 0 then ((Za8.f a0_2 a0_3).bind fun t197 => (if t197 = true then (some 0) else (some 1))) else (some 1))
set_option maxHeartbeats 8000000 in
set_option maxRecDepth 100000 in
theorem ZbB.calls (a0_0 : Int) (a0_1 : Int) (a0_2 : Int) (a0_3 : Int) (r : Int) (w : World) (h : ZbB.f a0_0 a0_1 a0_2 a0_3 = some r) :
  Calls Tryz.prog 74 #[.agg #[.int .i64 a0_0, .int .i64 a0_1, .int .i64 a0_2, .int .i64 a0_3]] w fun e w' => e = .returned (.int .i64 r) ∧ Below w.heap.size w w' := by
 have hu86 := Tryz.underlying86
 have hu70 := Tryz.underlying70
 have hu84 := Tryz.underlying84
 have HB := Aside0.mk (Below.refl w.heap.size w)
 have H : ((ZaZ.f a0_0 a0_1).bind fun t196 => (if t196 = 0 then ((Za8.f a0_2 a0_3).bind fun t197 => (if t197 = true then (some 0) else (some 1))) else (some 1))) = some r := h
 clear h
 replace H := Option.bind_eq_some_iff.mp H
 obtain ⟨t196, A20, H⟩ := H
 replace H : (if t196 = 0 then ((Za8.f a0_2 a0_3).bind fun t197 => (if t197 = true then (some 0) else (some 1))) else (some 1)) = some r := H
 have A2 := Aside0.mk A20
 clear A20
 by_cases c3 : t196 = 0
 ·rw [if_pos c3] at H
  have c3b0 : (t196 == 0) = true := beq_iff_eq.mpr c3
  have c3b1 : (t196 != 0) = false := bne_eq_false_iff_eq.mpr c3
  clear c3
  replace H := Option.bind_eq_some_iff.mp H
  obtain ⟨t197, A40, H⟩ := H
  replace H : (if t197 = true then (some 0) else (some 1)) = some r := H
  have A4 := Aside0.mk A40
  clear A40
  by_cases c5 : t197 = true
  ·subst c5
   have H1 : (some 0) = some r := by rw [if_pos rfl] at H; exact H
   clear H
   have H := H1
   clear H1
   obtain rfl := Option.some.inj H
   go_enter Tryz.func74, Tryz.ntmps74
   go_wp2_with (first | ((with_reducible refine Zaw (N := 1) rfl ?_); refine Zau ?hg (N := 1) ?hd (cs := #[.int .i64 a0_0, .int .i64 a0_1, .int .i64 a0_2, .int .i64 a0_3]) (t := 86) ?hr ?_; (case hd => rfl); (case hg => rfl); (case hr => first | (go_simp; done) | (go_simp; rfl)); intro gb195 hg w6 hbox hb; have n0_ := Aside0.mk (Zae (by repeat (first | (with_reducible first | exact HB.out | apply Zab | apply Zac | apply Zaf) | exact HB.out)) hb); have n1_ := Aside0.mk (hbox); have n2_ := Aside0.mk ((by rw [hg]; exact (Zai (by repeat (first | (with_reducible first | exact HB.out | apply Zab | apply Zac | apply Zaf) | exact HB.out))) : w.heap.size ≤ gb195)); have n3_ := Aside0.mk ((by rw [hg]; exact (Zai (by repeat (first | (with_reducible first | exact HB.out | apply Zab | apply Zac | apply Zaf) | exact HB.out))) : w.heap.size ≤ gb195)); clear HB; have HB := n0_; have BK195 := n1_; have GW195 := n2_; have GE195 := n3_; clear n0_ n1_ n2_ n3_; clear hb hbox hg; have hcz7_0 : w6.cell? ⟨gb195, 0, none⟩ = some (.int .i64 a0_0) := (Zaa BK195.out 0).trans rfl; have hcz7_1 : w6.cell? ⟨gb195, 1, none⟩ = some (.int .i64 a0_1) := (Zaa BK195.out 1).trans rfl; have hcz7_2 : w6.cell? ⟨gb195, 2, none⟩ = some (.int .i64 a0_2) := (Zaa BK195.out 2).trans rfl; have hcz7_3 : w6.cell? ⟨gb195, 3, none⟩ = some (.int .i64 a0_3) := (Zaa BK195.out 3).trans rfl; have hfz7_0 := Zad BK195.out 0; have hfz7_1 := Zad BK195.out 1; have hfz7_2 := Zad BK195.out 2; have hfz7_3 := Zad BK195.out 3) | ((with_reducible refine Zaz (f := 70) rfl ?_); refine goesL_ (some 5) rfl rfl Tryz.func70 (by kernel_rfl) rfl #[.agg #[.int .i64 a0_0, .int .i64 a0_1]] rfl (by (try simp only [List.map_toArray, List.map_cons, List.map_nil]); first | done | rfl | (simp only [List.length_drop, List.length_take]; rfl)) ?_; (with_reducible refine (ZaZ.calls a0_0 a0_1 t196 _ A2.out).mono ?_); rintro e w8 ⟨rfl, hb⟩; refine ⟨_, rfl, ?_⟩; have n0_ := Aside0.mk (Zag (g := gb195) (o := .cells #[.int .i64 a0_0, .int .i64 a0_1, .int .i64 a0_2, .int .i64 a0_3] 86 (0, 0)) (by (with_reducible repeat (first | refine Zao ?_ _ | refine Zaq ?_ | refine Zan ?_ _)); exact BK195.out) hb); have n1_ := Aside0.mk (Zae (by repeat (first | (with_reducible first | exact HB.out | apply Zab | apply Zac | apply Zaf | refine Zaj ?_ GE195.out) | exact HB.out)) hb); clear BK195; clear HB; have BK195 := n0_; have HB := n1_; clear n0_ n1_; (try clear hb); (try clear hb2); (try clear hk); (try clear hi); have hcz9_0 : w8.cell? ⟨gb195, 0, none⟩ = some (.int .i64 a0_0) := (Zaa BK195.out 0).trans rfl; have hcz9_1 : w8.cell? ⟨gb195, 1, none⟩ = some (.int .i64 a0_1) := (Zaa BK195.out 1).trans rfl; have hcz9_2 : w8.cell? ⟨gb195, 2, none⟩ = some (.int .i64 a0_2) := (Zaa BK195.out 2).trans rfl; have hcz9_3 : w8.cell? ⟨gb195, 3, none⟩ = some (.int .i64 a0_3) := (Zaa BK195.out 3).trans rfl; have hfz9_0 := Zad BK195.out 0; have hfz9_1 := Zad BK195.out 1; have hfz9_2 := Zad BK195.out 2; have hfz9_3 := Zad BK195.out 3) | (go_at_call 75; (with_reducible refine (Za8.calls a0_2 a0_3 true _ A4.out).mono ?_); rintro e w10 ⟨rfl, hb⟩; have n0_ := Aside0.mk (Zag (g := gb195) (o := .cells #[.int .i64 a0_0, .int .i64 a0_1, .int .i64 a0_2, .int .i64 a0_3] 86 (0, 0)) (by (with_reducible repeat (first | refine Zao ?_ _ | refine Zaq ?_ | refine Zan ?_ _)); exact BK195.out) hb); have n1_ := Aside0.mk (Zae (by repeat (first | (with_reducible first | exact HB.out | apply Zab | apply Zac | apply Zaf | refine Zaj ?_ GE195.out) | exact HB.out)) hb); clear BK195; clear HB; have BK195 := n0_; have HB := n1_; clear n0_ n1_; (try clear hb); (try clear hb2); (try clear hk); (try clear hi)))
   go_ret
   exact ⟨by first | rfl | (simp [Zal, Zak] <;> rfl) | (simp [*, Zal, Zak] <;> rfl), by repeat (first | (with_reducible first | exact HB.out | apply Zab | apply Zac | apply Zaf | refine Zaj ?_ GE195.out) | exact HB.out)⟩
  ·replace c5 := Bool.eq_false_iff.mpr c5
   subst c5
   have H1 : (some 1) = some r := by rw [if_neg (show ¬ (false = true) by decide)] at H; exact H
   clear H
   have H := H1
   clear H1
   obtain rfl := Option.some.inj H
   go_enter Tryz.func74, Tryz.ntmps74
   go_wp2_with (first | ((with_reducible refine Zaw (N := 1) rfl ?_); refine Zau ?hg (N := 1) ?hd (cs := #[.int .i64 a0_0, .int .i64 a0_1, .int .i64 a0_2, .int .i64 a0_3]) (t := 86) ?hr ?_; (case hd => rfl); (case hg => rfl); (case hr => first | (go_simp; done) | (go_simp; rfl)); intro gb195 hg w11 hbox hb; have n0_ := Aside0.mk (Zae (by repeat (first | (with_reducible first | exact HB.out | apply Zab | apply Zac | apply Zaf) | exact HB.out)) hb); have n1_ := Aside0.mk (hbox); have n2_ := Aside0.mk ((by rw [hg]; exact (Zai (by repeat (first | (with_reducible first | exact HB.out | apply Zab | apply Zac | apply Zaf) | exact HB.out))) : w.heap.size ≤ gb195)); have n3_ := Aside0.mk ((by rw [hg]; exact (Zai (by repeat (first | (with_reducible first | exact HB.out | apply Zab | apply Zac | apply Zaf) | exact HB.out))) : w.heap.size ≤ gb195)); clear HB; have HB := n0_; have BK195 := n1_; have GW195 := n2_; have GE195 := n3_; clear n0_ n1_ n2_ n3_; clear hb hbox hg; have hcz12_0 : w11.cell? ⟨gb195, 0, none⟩ = some (.int .i64 a0_0) := (Zaa BK195.out 0).trans rfl; have hcz12_1 : w11.cell? ⟨gb195, 1, none⟩ = some (.int .i64 a0_1) := (Zaa BK195.out 1).trans rfl; have hcz12_2 : w11.cell? ⟨gb195, 2, none⟩ = some (.int .i64 a0_2) := (Zaa BK195.out 2).trans rfl; have hcz12_3 : w11.cell? ⟨gb195, 3, none⟩ = some (.int .i64 a0_3) := (Zaa BK195.out 3).trans rfl; have hfz12_0 := Zad BK195.out 0; have hfz12_1 := Zad BK195.out 1; have hfz12_2 := Zad BK195.out 2; have hfz12_3 := Zad BK195.out 3) | ((with_reducible refine Zaz (f := 70) rfl ?_); refine goesL_ (some 5) rfl rfl Tryz.func70 (by kernel_rfl) rfl #[.agg #[.int .i64 a0_0, .int .i64 a0_1]] rfl (by (try simp only [List.map_toArray, List.map_cons, List.map_nil]); first | done | rfl | (simp only [List.length_drop, List.length_take]; rfl)) ?_; (with_reducible refine (ZaZ.calls a0_0 a0_1 t196 _ A2.out).mono ?_); rintro e w13 ⟨rfl, hb⟩; refine ⟨_, rfl, ?_⟩; have n0_ := Aside0.mk (Zag (g := gb195) (o := .cells #[.int .i64 a0_0, .int .i64 a0_1, .int .i64 a0_2, .int .i64 a0_3] 86 (0, 0)) (by (with_reducible repeat (first | refine Zao ?_ _ | refine Zaq ?_ | refine Zan ?_ _)); exact BK195.out) hb); have n1_ := Aside0.mk (Zae (by repeat (first | (with_reducible first | exact HB.out | apply Zab | apply Zac | apply Zaf | refine Zaj ?_ GE195.out) | exact HB.out)) hb); clear BK195; clear HB; have BK195 := n0_; have HB := n1_; clear n0_ n1_; (try clear hb); (try clear hb2); (try clear hk); (try clear hi); have hcz14_0 : w13.cell? ⟨gb195, 0, none⟩ = some (.int .i64 a0_0) := (Zaa BK195.out 0).trans rfl; have hcz14_1 : w13.cell? ⟨gb195, 1, none⟩ = some (.int .i64 a0_1) := (Zaa BK195.out 1).trans rfl; have hcz14_2 : w13.cell? ⟨gb195, 2, none⟩ = some (.int .i64 a0_2) := (Zaa BK195.out 2).trans rfl; have hcz14_3 : w13.cell? ⟨gb195, 3, none⟩ = some (.int .i64 a0_3) := (Zaa BK195.out 3).trans rfl; have hfz14_0 := Zad BK195.out 0; have hfz14_1 := Zad BK195.out 1; have hfz14_2 := Zad BK195.out 2; have hfz14_3 := Zad BK195.out 3) | (go_at_call 75; (with_reducible refine (Za8.calls a0_2 a0_3 false _ A4.out).mono ?_); rintro e w15 ⟨rfl, hb⟩; have n0_ := Aside0.mk (Zag (g := gb195) (o := .cells #[.int .i64 a0_0, .int .i64 a0_1, .int .i64 a0_2, .int .i64 a0_3] 86 (0, 0)) (by (with_reducible repeat (first | refine Zao ?_ _ | refine Zaq ?_ | refine Zan ?_ _)); exact BK195.out) hb); have n1_ := Aside0.mk (Zae (by repeat (first | (with_reducible first | exact HB.out | apply Zab | apply Zac | apply Zaf | refine Zaj ?_ GE195.out) | exact HB.out)) hb); clear BK195; clear HB; have BK195 := n0_; have HB := n1_; clear n0_ n1_; (try clear hb); (try clear hb2); (try clear hk); (try clear hi)))
   go_ret
   exact ⟨by first | rfl | (simp [Zal, Zak] <;> rfl) | (simp [*, Zal, Zak] <;> rfl), by repeat (first | (with_reducible first | exact HB.out | apply Zab | apply Zac | apply Zaf | refine Zaj ?_ GE195.out) | exact HB.out)⟩
 ·rw [if_neg c3] at H
  have c3b0 : (t196 == 0) = false := beq_eq_false_iff_ne.mpr c3
  have c3b1 : (t196 != 0) = true := bne_iff_ne.mpr c3
  obtain rfl := Option.some.inj H
  go_enter Tryz.func74, Tryz.ntmps74
  go_wp2_with (first | ((with_reducible refine Zaw (N := 1) rfl ?_); refine Zau ?hg (N := 1) ?hd (cs := #[.int .i64 a0_0, .int .i64 a0_1, .int .i64 a0_2, .int .i64 a0_3]) (t := 86) ?hr ?_; (case hd => rfl); (case hg => rfl); (case hr => first | (go_simp; done) | (go_simp; rfl)); intro gb195 hg w16 hbox hb; have n0_ := Aside0.mk (Zae (by repeat (first | (with_reducible first | exact HB.out | apply Zab | apply Zac | apply Zaf) | exact HB.out)) hb); have n1_ := Aside0.mk (hbox); have n2_ := Aside0.mk ((by rw [hg]; exact (Zai (by repeat (first | (with_reducible first | exact HB.out | apply Zab | apply Zac | apply Zaf) | exact HB.out))) : w.heap.size ≤ gb195)); have n3_ := Aside0.mk ((by rw [hg]; exact (Zai (by repeat (first | (with_reducible first | exact HB.out | apply Zab | apply Zac | apply Zaf) | exact HB.out))) : w.heap.size ≤ gb195)); clear HB; have HB := n0_; have BK195 := n1_; have GW195 := n2_; have GE195 := n3_; clear n0_ n1_ n2_ n3_; clear hb hbox hg; have hcz17_0 : w16.cell? ⟨gb195, 0, none⟩ = some (.int .i64 a0_0) := (Zaa BK195.out 0).trans rfl; have hcz17_1 : w16.cell? ⟨gb195, 1, none⟩ = some (.int .i64 a0_1) := (Zaa BK195.out 1).trans rfl; have hcz17_2 : w16.cell? ⟨gb195, 2, none⟩ = some (.int .i64 a0_2) := (Zaa BK195.out 2).trans rfl; have hcz17_3 : w16.cell? ⟨gb195, 3, none⟩ = some (.int .i64 a0_3) := (Zaa BK195.out 3).trans rfl; have hfz17_0 := Zad BK195.out 0; have hfz17_1 := Zad BK195.out 1; have hfz17_2 := Zad BK195.out 2; have hfz17_3 := Zad BK195.out 3) | ((with_reducible refine Zaz (f := 70) rfl ?_); refine goesL_ (some 5) rfl rfl Tryz.func70 (by kernel_rfl) rfl #[.agg #[.int .i64 a0_0, .int .i64 a0_1]] rfl (by (try simp only [List.map_toArray, List.map_cons, List.map_nil]); first | done | rfl | (simp only [List.length_drop, List.length_take]; rfl)) ?_; (with_reducible refine (ZaZ.calls a0_0 a0_1 t196 _ A2.out).mono ?_); rintro e w18 ⟨rfl, hb⟩; refine ⟨_, rfl, ?_⟩; have n0_ := Aside0.mk (Zag (g := gb195) (o := .cells #[.int .i64 a0_0, .int .i64 a0_1, .int .i64 a0_2, .int .i64 a0_3] 86 (0, 0)) (by (with_reducible repeat (first | refine Zao ?_ _ | refine Zaq ?_ | refine Zan ?_ _)); exact BK195.out) hb); have n1_ := Aside0.mk (Zae (by repeat (first | (with_reducible first | exact HB.out | apply Zab | apply Zac | apply Zaf | refine Zaj ?_ GE195.out) | exact HB.out)) hb); clear BK195; clear HB; have BK195 := n0_; have HB := n1_; clear n0_ n1_; (try clear hb); (try clear hb2); (try clear hk); (try clear hi)))
  go_ret
  exact ⟨by first | rfl | (simp [Zal, Zak] <;> rfl) | (simp [*, Zal, Zak] <;> rfl), by repeat (first | (with_reducible first | exact HB.out | apply Zab | apply Zac | apply Zaf | refine Zaj ?_ GE195.out) | exact HB.out)⟩
def Zda.f  : Option (Int × Int) := some (0, 65536)
set_option maxHeartbeats 8000000 in
set_option maxRecDepth 100000 in
theorem Zda.calls  (r1 : Int) (r2 : Int) (w : World) (h : Zda.f  = some (r1, r2)) :
  Calls Tryz.prog 79 #[] w fun e w' => e = .returned (.agg #[.int .i64 r1, .int .i64 r2]) ∧ Below w.heap.size w w' := by
 have hu70 := Tryz.underlying70
 have HB := Aside0.mk (Below.refl w.heap.size w)
 have H : (some (0, 65536)) = some (r1, r2) := h
 clear h
 simp only [Option.some.injEq, Prod.mk.injEq] at H
 obtain ⟨rfl, rfl⟩ := H
 go_enter Tryz.func79, Tryz.ntmps79
 go_wp2_with (first | ((with_reducible refine Zaw (N := 0) rfl ?_); refine Zau ?hg (N := 0) ?hd (cs := #[.int .i64 0, .int .i64 0]) (t := 70) ?hr ?_; (case hd => rfl); (case hg => rfl); (case hr => first | (go_simp; done) | (go_simp; rfl)); intro gb201 hg w1 hbox hb; have n0_ := Aside0.mk (Zae (by repeat (first | (with_reducible first | exact HB.out | apply Zab | apply Zac | apply Zaf) | exact HB.out)) hb); have n1_ := Aside0.mk (hbox); have n2_ := Aside0.mk ((by rw [hg]; exact (Zai (by repeat (first | (with_reducible first | exact HB.out | apply Zab | apply Zac | apply Zaf) | exact HB.out))) : w.heap.size ≤ gb201)); have n3_ := Aside0.mk ((by rw [hg]; exact (Zai (by repeat (first | (with_reducible first | exact HB.out | apply Zab | apply Zac | apply Zaf) | exact HB.out))) : w.heap.size ≤ gb201)); clear HB; have HB := n0_; have BK201 := n1_; have GW201 := n2_; have GE201 := n3_; clear n0_ n1_ n2_ n3_; clear hb hbox hg; have hcz2_0 : w1.cell? ⟨gb201, 0, none⟩ = some (.int .i64 0) := (Zaa BK201.out 0).trans rfl; have hcz2_1 : w1.cell? ⟨gb201, 1, none⟩ = some (.int .i64 0) := (Zaa BK201.out 1).trans rfl; have hfz2_0 := Zad BK201.out 0; have hfz2_1 := Zad BK201.out 1))
 refine bodyPost_ret (results_cell_row rfl _ _ gb201 70 #[.int .i64 0, .int .i64 65536] (0, 0) _ rfl (by (with_reducible repeat (first | refine Zao ?_ _ | refine Zaq ?_ | refine Zan ?_ _)); refine ZaU (cs := #[.int .i64 0, .int .i64 0]) ?_ 1 _ rfl; (with_reducible repeat (first | refine Zao ?_ _ | refine Zaq ?_ | refine Zan ?_ _)); refine ZaU (cs := #[.int .i64 0, .int .i64 0]) ?_ 0 _ rfl; (with_reducible repeat (first | refine Zao ?_ _ | refine Zaq ?_ | refine Zan ?_ _)); exact BK201.out) Tryz.underlying70 rfl (by kernel_rfl)) rfl ?_
 exact ⟨by first | rfl | (simp [Zal, Zak] <;> rfl) | (simp [*, Zal, Zak] <;> rfl), by repeat (first | (with_reducible first | exact HB.out | apply Zab | apply Zac | apply Zaf | refine Zaj ?_ GE201.out) | exact HB.out)⟩
def Zb8.f (a0 : Int) (a1 : Int) : Option (Bool) := if a0 ≥ a1 then (some (decide (a0 < 1099511627776))) else (some false)
set_option maxHeartbeats 8000000 in
set_option maxRecDepth 100000 in
theorem Zb8.calls (a0 : Int) (a1 : Int) (r : Bool) (w : World) (h : Zb8.f a0 a1 = some r) :
  Calls Tryz.prog 80 #[.int .i64 a0, .int .i64 a1] w fun e w' => e = .returned (.bool r) ∧ Drawn0 w w' := by
 have H : (if a0 ≥ a1 then (some (decide (a0 < 1099511627776))) else (some false)) = some r := h
 clear h
 by_cases c3 : a0 ≥ a1
 ·rw [if_pos c3] at H
  have c3b0 : decide (a1 ≤ a0) = true := decide_eq_true c3
  clear c3
  obtain rfl := Option.some.inj H
  go_enter Tryz.func80, Tryz.ntmps80
  go_wp2
  go_ret
  exact ⟨by first | rfl | (simp; done) | (simp [*]; done), by repeat (first | exact Drawn0.refl _ | apply Drawn0.step)⟩
 ·rw [if_neg c3] at H
  have c3b0 : decide (a1 ≤ a0) = false := decide_eq_false c3
  clear c3
  obtain rfl := Option.some.inj H
  go_enter Tryz.func80, Tryz.ntmps80
  go_wp2
  go_ret
  exact ⟨by first | rfl | (simp; done) | (simp [*]; done), by repeat (first | exact Drawn0.refl _ | apply Drawn0.step)⟩
def ZaL.l0 : Nat → List (S86) → List (S86) → Int → Int → Option (Bool)
 | 0, _, _, _, _ => none
 | k + 1, x0, x1, x12, x13 => if x13 < x12 then (if 0 ≤ x13 then (if x13 < (x0.length : Int) then (if x13 < (x1.length : Int) then (if ((!(((rd_T86 x0 x13).f0.f0) == ((rd_T86 x1 x13).f0.f0)) || (!(((rd_T86 x0 x13).f0.f1) == ((rd_T86 x1 x13).f0.f1)))) || ((!(((rd_T86 x0 x13).f1.f0) == ((rd_T86 x1 x13).f1.f0)) || (!(((rd_T86 x0 x13).f1.f1) == ((rd_T86 x1 x13).f1.f1)))))) = true then (some false) else (ZaL.l0 k x0 x1 x12 (wrap64 (x13 + 1)))) else (none)) else (none)) else (none)) else (some true)
def ZaL.f (k : Nat) (l0 : List (S86)) (l1 : List (S86)) : Option (Bool) := if (l0.length : Int) = (l1.length : Int) then (ZaL.l0 k l0 l1 (l0.length : Int) 0) else (some false)
set_option maxHeartbeats 8000000 in
set_option maxRecDepth 100000 in
theorem ZaL.calls (k : Nat) (A0 : Option Addr) (c0 : Nat) (l0 : List (S86)) (A1 : Option Addr) (c1 : Nat) (l1 : List (S86)) (r : Bool) (w : World) (hr0 : Kd.C k86 w A0 l0.length l0) (hc0 : l0.length ≤ c0) (hr1 : Kd.C k86 w A1 l1.length l1) (hc1 : l1.length ≤ c1) (h : ZaL.f k l0 l1 = some r) :
  Calls Tryz.prog 119 #[.slice A0 l0.length c0, .slice A1 l1.length c1] w fun e w' => e = .returned (.bool r) ∧ Drawn0 w w' := by
 have hu86 := Tryz.underlying86
 have HR0 := Aside0.mk hr0
 have HC0 := Aside0.mk hc0
 clear hr0 hc0
 have HR1 := Aside0.mk hr1
 have HC1 := Aside0.mk hc1
 clear hr1 hc1
 have H : (if (l0.length : Int) = (l1.length : Int) then (ZaL.l0 k l0 l1 (l0.length : Int) 0) else (some false)) = some r := h
 clear h
 by_cases c3 : (l0.length : Int) = (l1.length : Int)
 ·rw [if_pos c3] at H
  have c3b0 : ((l0.length : Int) == (l1.length : Int)) = true := beq_iff_eq.mpr c3
  have c3b1 : ((l0.length : Int) != (l1.length : Int)) = false := bne_eq_false_iff_eq.mpr c3
  have c3b2 : (l0.length == l1.length) = true := by first | simpa using c3 | (simp at c3 ⊢; omega)
  clear c3
  have H' := Aside0.mk H
  clear H
  go_enter Tryz.func119, Tryz.ntmps119
  go_wp2
  repeat (go_quiet (fail); try go_wp2)
  go_loopg [13] k (fun kq v13 w' => ∃ (x13_1 : Int), v13 = .int .i64 x13_1 ∧ Aside0 (ZaL.l0 kq l0 l1 (l0.length : Int) x13_1 = some r) ∧ Aside0 (kq ≤ k) ∧ Drawn0 w w')
  case atStart => exact ⟨(0), (by first | rfl | (simp; done) | (simp [*]; done)), H', ⟨Nat.le_refl _⟩, by repeat (first | exact Drawn0.refl _ | apply Drawn0.step)⟩
  case round =>
   clear H'
   try clear c1
   try clear p2
   try clear c3
   try clear c3b0
   try clear c3b1
   try clear c3b2
   obtain ⟨x13_1, rfl, HA, HK1, ⟨m1, rfl⟩⟩ := hrel
   cases gk with
   | zero => exact absurd HA.out (by simp [ZaL.l0])
   | succ k1 =>
    have H := HA.out
    clear HA
    simp only [ZaL.l0] at H
    by_cases c4 : x13_1 < (l0.length : Int)
    ·rw [if_pos c4] at H
     have c4b0 : decide (x13_1 < (l0.length : Int)) = true := decide_eq_true c4
     clear c4
     by_cases c5 : 0 ≤ x13_1
     ·rw [if_pos c5] at H
      have c5b0 : decide (0 ≤ x13_1) = true := decide_eq_true c5
      clear c5
      by_cases c6 : x13_1 < (l0.length : Int)
      ·rw [if_pos c6] at H
       have c6b0 : decide (x13_1 < (l0.length : Int)) = true := decide_eq_true c6
       clear c6
       by_cases c7 : x13_1 < (l1.length : Int)
       ·rw [if_pos c7] at H
        have c7b0 : decide (x13_1 < (l1.length : Int)) = true := decide_eq_true c7
        clear c7
        by_cases c8 : ((!(((rd_T86 l0 x13_1).f0.f0) == ((rd_T86 l1 x13_1).f0.f0)) || (!(((rd_T86 l0 x13_1).f0.f1) == ((rd_T86 l1 x13_1).f0.f1)))) || ((!(((rd_T86 l0 x13_1).f1.f0) == ((rd_T86 l1 x13_1).f1.f0)) || (!(((rd_T86 l0 x13_1).f1.f1) == ((rd_T86 l1 x13_1).f1.f1)))))) = true
        ·rw [if_pos c8] at H
         have c8b0 : ((!(((rd_T86 l0 x13_1).f0.f0) == ((rd_T86 l1 x13_1).f0.f0)) || (!(((rd_T86 l0 x13_1).f0.f1) == ((rd_T86 l1 x13_1).f0.f1)))) || ((!(((rd_T86 l0 x13_1).f1.f0) == ((rd_T86 l1 x13_1).f1.f0)) || (!(((rd_T86 l0 x13_1).f1.f1) == ((rd_T86 l1 x13_1).f1.f1)))))) = true := c8
         clear c8
         obtain rfl := Option.some.inj H
         have p216 : 0 ≤ (x13_1 : Int) := of_decide_eq_true (by first | (with_reducible assumption) | assumption)
         have q216 : x13_1 < (l0.length : Int) := of_decide_eq_true (by first | (with_reducible assumption) | assumption)
         obtain ⟨ad216, e216, hx216_0, hx216_1, hx216_2, hx216_3⟩ := at_T86 HR0.out x13_1 p216 q216
         cases e216
         replace p216 := eq_true p216
         replace q216 := eq_true q216
         have p217 : 0 ≤ (x13_1 : Int) := of_decide_eq_true (by first | (with_reducible assumption) | assumption)
         have q217 : x13_1 < (l1.length : Int) := of_decide_eq_true (by first | (with_reducible assumption) | assumption)
         obtain ⟨ad217, e217, hx217_0, hx217_1, hx217_2, hx217_3⟩ := at_T86 HR1.out x13_1 p217 q217
         cases e217
         replace p217 := eq_true p217
         replace q217 := eq_true q217
         go_wp2
         repeat (go_quiet (fail); try go_wp2)
         go_ret
         exact ⟨by first | rfl | (simp; done) | (simp [*]; done), by repeat (first | exact Drawn0.refl _ | apply Drawn0.step)⟩
        ·rw [if_neg c8] at H
         have c8b0 : ((!(((rd_T86 l0 x13_1).f0.f0) == ((rd_T86 l1 x13_1).f0.f0)) || (!(((rd_T86 l0 x13_1).f0.f1) == ((rd_T86 l1 x13_1).f0.f1)))) || ((!(((rd_T86 l0 x13_1).f1.f0) == ((rd_T86 l1 x13_1).f1.f0)) || (!(((rd_T86 l0 x13_1).f1.f1) == ((rd_T86 l1 x13_1).f1.f1)))))) = false := by simpa using c8
         clear c8
         have H' := Aside0.mk H
         clear H
         have p216 : 0 ≤ (x13_1 : Int) := of_decide_eq_true (by first | (with_reducible assumption) | assumption)
         have q216 : x13_1 < (l0.length : Int) := of_decide_eq_true (by first | (with_reducible assumption) | assumption)
         obtain ⟨ad216, e216, hx216_0, hx216_1, hx216_2, hx216_3⟩ := at_T86 HR0.out x13_1 p216 q216
         cases e216
         replace p216 := eq_true p216
         replace q216 := eq_true q216
         have p217 : 0 ≤ (x13_1 : Int) := of_decide_eq_true (by first | (with_reducible assumption) | assumption)
         have q217 : x13_1 < (l1.length : Int) := of_decide_eq_true (by first | (with_reducible assumption) | assumption)
         obtain ⟨ad217, e217, hx217_0, hx217_1, hx217_2, hx217_3⟩ := at_T86 HR1.out x13_1 p217 q217
         cases e217
         replace p217 := eq_true p217
         replace q217 := eq_true q217
         go_wp2
         repeat (go_quiet (fail); try go_wp2)
         go_roundg k1
         case measure => have := HK1.out; omega
         case rel => exact ⟨(wrap64 (x13_1 + 1)), (by first | rfl | (simp; done) | (simp [*]; done)), H', ⟨by have := HK1.out; omega⟩, by repeat (first | exact Drawn0.refl _ | apply Drawn0.step)⟩
       ·rw [if_neg c7] at H
        exact absurd H (by simp)
      ·rw [if_neg c6] at H
       exact absurd H (by simp)
     ·rw [if_neg c5] at H
      exact absurd H (by simp)
    ·rw [if_neg c4] at H
     have c4b0 : decide (x13_1 < (l0.length : Int)) = false := decide_eq_false c4
     clear c4
     obtain rfl := Option.some.inj H
     go_wp2
     repeat (go_quiet (fail); try go_wp2)
     go_ret
     exact ⟨by first | rfl | (simp; done) | (simp [*]; done), by repeat (first | exact Drawn0.refl _ | apply Drawn0.step)⟩
 ·rw [if_neg c3] at H
  have c3b0 : ((l0.length : Int) == (l1.length : Int)) = false := beq_eq_false_iff_ne.mpr c3
  have c3b1 : ((l0.length : Int) != (l1.length : Int)) = true := bne_iff_ne.mpr c3
  have c3b2 : (l0.length == l1.length) = false := by first | simpa using c3 | (simp at c3 ⊢; omega)
  obtain rfl := Option.some.inj H
  go_enter Tryz.func119, Tryz.ntmps119
  go_wp2
  repeat (go_quiet (fail); try go_wp2)
  go_ret
  exact ⟨by first | rfl | (simp; done) | (simp [*]; done), by repeat (first | exact Drawn0.refl _ | apply Drawn0.step)⟩
def ZcH.f (a0 : Int) : Option (Bool) := if a0 ≥ 1 then (some (decide (a0 ≤ 3))) else (some false)
set_option maxHeartbeats 8000000 in
set_option maxRecDepth 100000 in
theorem ZcH.calls (a0 : Int) (r : Bool) (w : World) (h : ZcH.f a0 = some r) :
  Calls Tryz.prog 103 #[.int .i64 a0] w fun e w' => e = .returned (.bool r) ∧ Drawn0 w w' := by
 have H : (if a0 ≥ 1 then (some (decide (a0 ≤ 3))) else (some false)) = some r := h
 clear h
 by_cases c2 : a0 ≥ 1
 ·rw [if_pos c2] at H
  have c2b0 : decide (1 ≤ a0) = true := decide_eq_true c2
  clear c2
  obtain rfl := Option.some.inj H
  go_enter Tryz.func103, Tryz.ntmps103
  go_wp2
  go_ret
  exact ⟨by first | rfl | (simp; done) | (simp [*]; done), by repeat (first | exact Drawn0.refl _ | apply Drawn0.step)⟩
 ·rw [if_neg c2] at H
  have c2b0 : decide (1 ≤ a0) = false := decide_eq_false c2
  clear c2
  obtain rfl := Option.some.inj H
  go_enter Tryz.func103, Tryz.ntmps103
  go_wp2
  go_ret
  exact ⟨by first | rfl | (simp; done) | (simp [*]; done), by repeat (first | exact Drawn0.refl _ | apply Drawn0.step)⟩
def ZaT.l0 : Nat → Int → List (S70) → Int → Int → Option (Int)
 | 0, _, _, _, _ => none
 | k + 1, x3, x6, x7, x8 => if x8 < x7 then (if 0 ≤ x8 then (if x8 < (x6.length : Int) then (ZaT.l0 k (wrap64 (x3 + ((rd_T70 x6 x8).f1))) x6 x7 (wrap64 (x8 + 1))) else (none)) else (none)) else (some x3)
def ZaT.f (k : Nat) (l0 : List (S70)) : Option (Int) := ZaT.l0 k 0 l0 (l0.length : Int) 0
set_option maxHeartbeats 8000000 in
set_option maxRecDepth 100000 in
theorem ZaT.calls (k : Nat) (A0 : Option Addr) (c0 : Nat) (l0 : List (S70)) (r : Int) (w : World) (hr0 : Kd.C k70 w A0 l0.length l0) (hc0 : l0.length ≤ c0) (h : ZaT.f k l0 = some r) :
  Calls Tryz.prog 164 #[.slice A0 l0.length c0] w fun e w' => e = .returned (.int .i64 r) ∧ Below w.heap.size w w' := by
 have hu70 := Tryz.underlying70
 have HR0 := Aside0.mk hr0
 have HC0 := Aside0.mk hc0
 clear hr0 hc0
 have HB := Aside0.mk (Below.refl w.heap.size w)
 have H : (ZaT.l0 k 0 l0 (l0.length : Int) 0) = some r := h
 clear h
 have H' := Aside0.mk H
 clear H
 go_enter Tryz.func164, Tryz.ntmps164
 go_wp2
 go_loopg [3, 8] k (fun kq v3 v8 w' => ∃ (x3_1 : Int) (x8_1 : Int), v3 = .int .i64 x3_1 ∧ v8 = .int .i64 x8_1 ∧ Aside0 (ZaT.l0 kq x3_1 l0 (l0.length : Int) x8_1 = some r) ∧ Aside0 (kq ≤ k) ∧ Aside0 (Below w.heap.size w w'))
 case atStart => exact ⟨(0), (0), (by first | rfl | (simp; done) | (simp [*]; done)), (by first | rfl | (simp; done) | (simp [*]; done)), H', ⟨Nat.le_refl _⟩, ⟨by repeat (first | (with_reducible first | exact HB.out | apply Zab | apply Zac | apply Zaf) | exact HB.out)⟩⟩
 case round =>
  clear H'
  try clear c1
  obtain ⟨x3_1, x8_1, rfl, rfl, HA, HK1, HB⟩ := hrel
  cases gk with
  | zero => exact absurd HA.out (by simp [ZaT.l0])
  | succ k1 =>
   have H := HA.out
   clear HA
   simp only [ZaT.l0] at H
   by_cases c2 : x8_1 < (l0.length : Int)
   ·rw [if_pos c2] at H
    have c2b0 : decide (x8_1 < (l0.length : Int)) = true := decide_eq_true c2
    clear c2
    by_cases c3 : 0 ≤ x8_1
    ·rw [if_pos c3] at H
     have c3b0 : decide (0 ≤ x8_1) = true := decide_eq_true c3
     clear c3
     by_cases c4 : x8_1 < (l0.length : Int)
     ·rw [if_pos c4] at H
      have c4b0 : decide (x8_1 < (l0.length : Int)) = true := decide_eq_true c4
      clear c4
      have H' := Aside0.mk H
      clear H
      have p230 : 0 ≤ (x8_1 : Int) := of_decide_eq_true (by first | (with_reducible assumption) | assumption)
      have q230 : x8_1 < (l0.length : Int) := of_decide_eq_true (by first | (with_reducible assumption) | assumption)
      obtain ⟨ad230, e230, hx230_0, hx230_1⟩ := at_T70 HR0.out x8_1 p230 q230
      cases e230
      replace hx230_0 := (HB.out.cell (World.block_lt_of_cell? w _ hx230_0)).trans hx230_0
      replace hx230_1 := (HB.out.cell (World.block_lt_of_cell? w _ hx230_1)).trans hx230_1
      replace p230 := eq_true p230
      replace q230 := eq_true q230
      go_wp2_with (first | ((with_reducible refine Zaw (N := 5) rfl ?_); refine Zau ?hg (N := 5) ?hd (cs := #[.int .i64 0, .int .i64 0]) (t := 70) ?hr ?_; (case hd => rfl); (case hg => rfl); (case hr => first | (go_simp; done) | (go_simp; rfl)); intro gb231 hg w5 hbox hb; have n0_ := Aside0.mk (Zae (by repeat (first | (with_reducible first | exact HB.out | apply Zab | apply Zac | apply Zaf) | exact HB.out)) hb); have n1_ := Aside0.mk (hbox); have n2_ := Aside0.mk ((by rw [hg]; exact (Zai (by repeat (first | (with_reducible first | exact HB.out | apply Zab | apply Zac | apply Zaf) | exact HB.out))) : w.heap.size ≤ gb231)); have n3_ := Aside0.mk ((by rw [hg]; exact (Zai (by repeat (first | (with_reducible first | exact HB.out | apply Zab | apply Zac | apply Zaf) | exact HB.out))) : w.heap.size ≤ gb231)); clear HB; have HB := n0_; have BK231 := n1_; have GW231 := n2_; have GE231 := n3_; clear n0_ n1_ n2_ n3_; clear hb hbox hg; have hcz6_0 : w5.cell? ⟨gb231, 0, none⟩ = some (.int .i64 0) := (Zaa BK231.out 0).trans rfl; have hcz6_1 : w5.cell? ⟨gb231, 1, none⟩ = some (.int .i64 0) := (Zaa BK231.out 1).trans rfl; have hfz6_0 := Zad BK231.out 0; have hfz6_1 := Zad BK231.out 1))
      go_roundg k1
      case measure => have := HK1.out; omega
      case rel => exact ⟨(wrap64 (x3_1 + ((rd_T70 l0 x8_1).f1))), (wrap64 (x8_1 + 1)), (by first | rfl | (simp; done) | (simp [*]; done)), (by first | rfl | (simp; done) | (simp [*]; done)), H', ⟨by have := HK1.out; omega⟩, ⟨by repeat (first | (with_reducible first | exact HB.out | apply Zab | apply Zac | apply Zaf | refine Zaj ?_ GE231.out) | exact HB.out)⟩⟩
     ·rw [if_neg c4] at H
      exact absurd H (by simp)
    ·rw [if_neg c3] at H
     exact absurd H (by simp)
   ·rw [if_neg c2] at H
    have c2b0 : decide (x8_1 < (l0.length : Int)) = false := decide_eq_false c2
    clear c2
    obtain rfl := Option.some.inj H
    go_wp2
    go_ret
    exact ⟨by first | rfl | (simp [Zal, Zak] <;> rfl) | (simp [*, Zal, Zak] <;> rfl), by repeat (first | (with_reducible first | exact HB.out | apply Zab | apply Zac | apply Zaf) | exact HB.out)⟩
def ZaB.f (a0 : Int) : Option (Bool) := some (a0 != a0)
set_option maxHeartbeats 8000000 in
set_option maxRecDepth 100000 in
theorem ZaB.calls (a0 : Int) (r : Bool) (w : World) (h : ZaB.f a0 = some r) :
  Calls Tryz.prog 101 #[.int .i64 a0] w fun e w' => e = .returned (.bool r) ∧ Drawn0 w w' := by
 have H : (some (a0 != a0)) = some r := h
 clear h
 obtain rfl := Option.some.inj H
 go_enter Tryz.func101, Tryz.ntmps101
 go_wp2
 go_ret
 exact ⟨by first | rfl | (simp; done) | (simp [*]; done), by repeat (first | exact Drawn0.refl _ | apply Drawn0.step)⟩
end Go.Proofs.YtpfnaknmalojkaaGreat.PTopRows
namespace Go.Proofs.YtpfnaknmalojkaaGreat.PTopRows
open Go.RowKit Go.Proofs.YtpfnaknmalojkaaGreatW.PrintWords Go.Proofs.YtpfnaknmalojkaaGreatW.PrintLast Go.Proofs.YtpfnaknmalojkaaGreatW.PrintMore
attribute [local go_sem] Za5 Za4 Zbp Zbo Za7 Za6 Zbl Zbk   -- for this text's walks alone
set_option linter.unusedVariables false
set_option linter.unusedSimpArgs false
def ZaW.l0 : Nat → Int → List (S70) → Int → Int → Option (Int)
 | 0, _, _, _, _ => none
 | k + 1, x3, x6, x7, x8 => if x8 < x7 then (if 0 ≤ x8 then (if x8 < (x6.length : Int) then (ZaW.l0 k (wrap64 (x3 + ((rd_T70 x6 x8).f1))) x6 x7 (wrap64 (x8 + 1))) else (none)) else (none)) else (some x3)
def ZaW.f (k : Nat) (l0 : List (S70)) : Option (Int) := ZaW.l0 k 0 l0 (l0.length : Int) 0
set_option maxHeartbeats 8000000 in
set_option maxRecDepth 100000 in
theorem ZaW.calls (k : Nat) (A0 : Option Addr) (c0 : Nat) (l0 : List (S70)) (r : Int) (w : World) (hr0 : Kd.C k70 w A0 l0.length l0) (hc0 : l0.length ≤ c0) (h : ZaW.f k l0 = some r) :
  Calls Tryz.prog 62 #[.slice A0 l0.length c0] w fun e w' => e = .returned (.int .i64 r) ∧ Below w.heap.size w w' := by
 have hu70 := Tryz.underlying70
 have HR0 := Aside0.mk hr0
 have HC0 := Aside0.mk hc0
 clear hr0 hc0
 have HB := Aside0.mk (Below.refl w.heap.size w)
 have H : (ZaW.l0 k 0 l0 (l0.length : Int) 0) = some r := h
 clear h
 have H' := Aside0.mk H
 clear H
 go_enter Tryz.func62, Tryz.ntmps62
 go_wp2
 go_loopg [3, 8] k (fun kq v3 v8 w' => ∃ (x3_1 : Int) (x8_1 : Int), v3 = .int .i64 x3_1 ∧ v8 = .int .i64 x8_1 ∧ Aside0 (ZaW.l0 kq x3_1 l0 (l0.length : Int) x8_1 = some r) ∧ Aside0 (kq ≤ k) ∧ Aside0 (Below w.heap.size w w'))
 case atStart => exact ⟨(0), (0), (by first | rfl | (simp; done) | (simp [*]; done)), (by first | rfl | (simp; done) | (simp [*]; done)), H', ⟨Nat.le_refl _⟩, ⟨by repeat (first | (with_reducible first | exact HB.out | apply Zab | apply Zac | apply Zaf) | exact HB.out)⟩⟩
 case round =>
  clear H'
  obtain ⟨x3_1, x8_1, rfl, rfl, HA, HK1, HB⟩ := hrel
  cases gk with
  | zero => exact absurd HA.out (by simp [ZaW.l0])
  | succ k1 =>
   have H := HA.out
   clear HA
   simp only [ZaW.l0] at H
   by_cases c2 : x8_1 < (l0.length : Int)
   ·rw [if_pos c2] at H
    have c2b0 : decide (x8_1 < (l0.length : Int)) = true := decide_eq_true c2
    clear c2
    by_cases c3 : 0 ≤ x8_1
    ·rw [if_pos c3] at H
     have c3b0 : decide (0 ≤ x8_1) = true := decide_eq_true c3
     clear c3
     by_cases c4 : x8_1 < (l0.length : Int)
     ·rw [if_pos c4] at H
      have c4b0 : decide (x8_1 < (l0.length : Int)) = true := decide_eq_true c4
      clear c4
      have H' := Aside0.mk H
      clear H
      have p360 : 0 ≤ (x8_1 : Int) := of_decide_eq_true (by first | (with_reducible assumption) | assumption)
      have q360 : x8_1 < (l0.length : Int) := of_decide_eq_true (by first | (with_reducible assumption) | assumption)
      obtain ⟨ad360, e360, hx360_0, hx360_1⟩ := at_T70 HR0.out x8_1 p360 q360
      cases e360
      replace hx360_0 := (HB.out.cell (World.block_lt_of_cell? w _ hx360_0)).trans hx360_0
      replace hx360_1 := (HB.out.cell (World.block_lt_of_cell? w _ hx360_1)).trans hx360_1
      replace p360 := eq_true p360
      replace q360 := eq_true q360
      go_wp2_with (first | ((with_reducible refine Zaw (N := 5) rfl ?_); refine Zau ?hg (N := 5) ?hd (cs := #[.int .i64 0, .int .i64 0]) (t := 70) ?hr ?_; (case hd => rfl); (case hg => rfl); (case hr => first | (go_simp; done) | (go_simp; rfl)); intro gb361 hg w5 hbox hb; have n0_ := Aside0.mk (Zae (by repeat (first | (with_reducible first | exact HB.out | apply Zab | apply Zac | apply Zaf) | exact HB.out)) hb); have n1_ := Aside0.mk (hbox); have n2_ := Aside0.mk ((by rw [hg]; exact (Zai (by repeat (first | (with_reducible first | exact HB.out | apply Zab | apply Zac | apply Zaf) | exact HB.out))) : w.heap.size ≤ gb361)); have n3_ := Aside0.mk ((by rw [hg]; exact (Zai (by repeat (first | (with_reducible first | exact HB.out | apply Zab | apply Zac | apply Zaf) | exact HB.out))) : w.heap.size ≤ gb361)); clear HB; have HB := n0_; have BK361 := n1_; have GW361 := n2_; have GE361 := n3_; clear n0_ n1_ n2_ n3_; clear hb hbox hg; have hcz6_0 : w5.cell? ⟨gb361, 0, none⟩ = some (.int .i64 0) := (Zaa BK361.out 0).trans rfl; have hcz6_1 : w5.cell? ⟨gb361, 1, none⟩ = some (.int .i64 0) := (Zaa BK361.out 1).trans rfl; have hfz6_0 := Zad BK361.out 0; have hfz6_1 := Zad BK361.out 1))
      go_roundg k1
      case measure => have := HK1.out; omega
      case rel => exact ⟨(wrap64 (x3_1 + ((rd_T70 l0 x8_1).f1))), (wrap64 (x8_1 + 1)), (by first | rfl | (simp; done) | (simp [*]; done)), (by first | rfl | (simp; done) | (simp [*]; done)), H', ⟨by have := HK1.out; omega⟩, ⟨by repeat (first | (with_reducible first | exact HB.out | apply Zab | apply Zac | apply Zaf | refine Zaj ?_ GE361.out) | exact HB.out)⟩⟩
     ·rw [if_neg c4] at H
      exact absurd H (by simp)
    ·rw [if_neg c3] at H
     exact absurd H (by simp)
   ·rw [if_neg c2] at H
    have c2b0 : decide (x8_1 < (l0.length : Int)) = false := decide_eq_false c2
    clear c2
    obtain rfl := Option.some.inj H
    go_wp2
    go_ret
    exact ⟨by first | rfl | (simp [Zal, Zak] <;> rfl) | (simp [*, Zal, Zak] <;> rfl), by repeat (first | (with_reducible first | exact HB.out | apply Zab | apply Zac | apply Zaf) | exact HB.out)⟩
def ZbE.f (a0_0 : Int) (a0_1 : Int) (a0_2 : Int) : Option (Bool) := if a0_0 ≥ 1 then (if a0_0 < 1099511627776 then (if a0_1 ≥ 0 then (if a0_1 ≤ 65536 then (if a0_2 ≥ 0 then (some (decide (a0_2 ≤ a0_1))) else (some false)) else (some false)) else (some false)) else (some false)) else (some false)
set_option maxHeartbeats 8000000 in
set_option maxRecDepth 100000 in
theorem ZbE.calls (a0_0 : Int) (a0_1 : Int) (a0_2 : Int) (r : Bool) (w : World) (h : ZbE.f a0_0 a0_1 a0_2 = some r) :
  Calls Tryz.prog 43 #[.agg #[.int .i64 a0_0, .int .i64 a0_1, .int .i64 a0_2]] w fun e w' => e = .returned (.bool r) ∧ Below w.heap.size w w' := by
 have hu51 := Tryz.underlying51
 have HB := Aside0.mk (Below.refl w.heap.size w)
 have H : (if a0_0 ≥ 1 then (if a0_0 < 1099511627776 then (if a0_1 ≥ 0 then (if a0_1 ≤ 65536 then (if a0_2 ≥ 0 then (some (decide (a0_2 ≤ a0_1))) else (some false)) else (some false)) else (some false)) else (some false)) else (some false)) = some r := h
 clear h
 by_cases c2 : a0_0 ≥ 1
 ·rw [if_pos c2] at H
  have c2b0 : decide (1 ≤ a0_0) = true := decide_eq_true c2
  clear c2
  by_cases c3 : a0_0 < 1099511627776
  ·rw [if_pos c3] at H
   have c3b0 : decide (a0_0 < 1099511627776) = true := decide_eq_true c3
   clear c3
   by_cases c4 : a0_1 ≥ 0
   ·rw [if_pos c4] at H
    have c4b0 : decide (0 ≤ a0_1) = true := decide_eq_true c4
    clear c4
    by_cases c5 : a0_1 ≤ 65536
    ·rw [if_pos c5] at H
     have c5b0 : decide (a0_1 ≤ 65536) = true := decide_eq_true c5
     clear c5
     by_cases c6 : a0_2 ≥ 0
     ·rw [if_pos c6] at H
      have c6b0 : decide (0 ≤ a0_2) = true := decide_eq_true c6
      clear c6
      obtain rfl := Option.some.inj H
      go_enter Tryz.func43, Tryz.ntmps43
      go_wp2_with (first | ((with_reducible refine Zaw (N := 1) rfl ?_); refine Zau ?hg (N := 1) ?hd (cs := #[.int .i64 a0_0, .int .i64 a0_1, .int .i64 a0_2]) (t := 51) ?hr ?_; (case hd => rfl); (case hg => rfl); (case hr => first | (go_simp; done) | (go_simp; rfl)); intro gb366 hg w7 hbox hb; have n0_ := Aside0.mk (Zae (by repeat (first | (with_reducible first | exact HB.out | apply Zab | apply Zac | apply Zaf) | exact HB.out)) hb); have n1_ := Aside0.mk (hbox); have n2_ := Aside0.mk ((by rw [hg]; exact (Zai (by repeat (first | (with_reducible first | exact HB.out | apply Zab | apply Zac | apply Zaf) | exact HB.out))) : w.heap.size ≤ gb366)); have n3_ := Aside0.mk ((by rw [hg]; exact (Zai (by repeat (first | (with_reducible first | exact HB.out | apply Zab | apply Zac | apply Zaf) | exact HB.out))) : w.heap.size ≤ gb366)); clear HB; have HB := n0_; have BK366 := n1_; have GW366 := n2_; have GE366 := n3_; clear n0_ n1_ n2_ n3_; clear hb hbox hg; have hcz8_0 : w7.cell? ⟨gb366, 0, none⟩ = some (.int .i64 a0_0) := (Zaa BK366.out 0).trans rfl; have hcz8_1 : w7.cell? ⟨gb366, 1, none⟩ = some (.int .i64 a0_1) := (Zaa BK366.out 1).trans rfl; have hcz8_2 : w7.cell? ⟨gb366, 2, none⟩ = some (.int .i64 a0_2) := (Zaa BK366.out 2).trans rfl; have hfz8_0 := Zad BK366.out 0; have hfz8_1 := Zad BK366.out 1; have hfz8_2 := Zad BK366.out 2))
      go_ret
      exact ⟨by first | rfl | (simp [Zal, Zak] <;> rfl) | (simp [*, Zal, Zak] <;> rfl), by repeat (first | (with_reducible first | exact HB.out | apply Zab | apply Zac | apply Zaf | refine Zaj ?_ GE366.out) | exact HB.out)⟩
     ·rw [if_neg c6] at H
      have c6b0 : decide (0 ≤ a0_2) = false := decide_eq_false c6
      clear c6
      obtain rfl := Option.some.inj H
      go_enter Tryz.func43, Tryz.ntmps43
      go_wp2_with (first | ((with_reducible refine Zaw (N := 1) rfl ?_); refine Zau ?hg (N := 1) ?hd (cs := #[.int .i64 a0_0, .int .i64 a0_1, .int .i64 a0_2]) (t := 51) ?hr ?_; (case hd => rfl); (case hg => rfl); (case hr => first | (go_simp; done) | (go_simp; rfl)); intro gb366 hg w9 hbox hb; have n0_ := Aside0.mk (Zae (by repeat (first | (with_reducible first | exact HB.out | apply Zab | apply Zac | apply Zaf) | exact HB.out)) hb); have n1_ := Aside0.mk (hbox); have n2_ := Aside0.mk ((by rw [hg]; exact (Zai (by repeat (first | (with_reducible first | exact HB.out | apply Zab | apply Zac | apply Zaf) | exact HB.out))) : w.heap.size ≤ gb366)); have n3_ := Aside0.mk ((by rw [hg]; exact (Zai (by repeat (first | (with_reducible first | exact HB.out | apply Zab | apply Zac | apply Zaf) | exact HB.out))) : w.heap.size ≤ gb366)); clear HB; have HB := n0_; have BK366 := n1_; have GW366 := n2_; have GE366 := n3_; clear n0_ n1_ n2_ n3_; clear hb hbox hg; have hcz10_0 : w9.cell? ⟨gb366, 0, none⟩ = some (.int .i64 a0_0) := (Zaa BK366.out 0).trans rfl; have hcz10_1 : w9.cell? ⟨gb366, 1, none⟩ = some (.int .i64 a0_1) := (Zaa BK366.out 1).trans rfl; have hcz10_2 : w9.cell? ⟨gb366, 2, none⟩ = some (.int .i64 a0_2) := (Zaa BK366.out 2).trans rfl; have hfz10_0 := Zad BK366.out 0; have hfz10_1 := Zad BK366.out 1; have hfz10_2 := Zad BK366.out 2))
      go_ret
      exact ⟨by first | rfl | (simp [Zal, Zak] <;> rfl) | (simp [*, Zal, Zak] <;> rfl), by repeat (first | (with_reducible first | exact HB.out | apply Zab | apply Zac | apply Zaf | refine Zaj ?_ GE366.out) | exact HB.out)⟩
    ·rw [if_neg c5] at H
     have c5b0 : decide (a0_1 ≤ 65536) = false := decide_eq_false c5
     clear c5
     obtain rfl := Option.some.inj H
     go_enter Tryz.func43, Tryz.ntmps43
     go_wp2_with (first | ((with_reducible refine Zaw (N := 1) rfl ?_); refine Zau ?hg (N := 1) ?hd (cs := #[.int .i64 a0_0, .int .i64 a0_1, .int .i64 a0_2]) (t := 51) ?hr ?_; (case hd => rfl); (case hg => rfl); (case hr => first | (go_simp; done) | (go_simp; rfl)); intro gb366 hg w11 hbox hb; have n0_ := Aside0.mk (Zae (by repeat (first | (with_reducible first | exact HB.out | apply Zab | apply Zac | apply Zaf) | exact HB.out)) hb); have n1_ := Aside0.mk (hbox); have n2_ := Aside0.mk ((by rw [hg]; exact (Zai (by repeat (first | (with_reducible first | exact HB.out | apply Zab | apply Zac | apply Zaf) | exact HB.out))) : w.heap.size ≤ gb366)); have n3_ := Aside0.mk ((by rw [hg]; exact (Zai (by repeat (first | (with_reducible first | exact HB.out | apply Zab | apply Zac | apply Zaf) | exact HB.out))) : w.heap.size ≤ gb366)); clear HB; have HB := n0_; have BK366 := n1_; have GW366 := n2_; have GE366 := n3_; clear n0_ n1_ n2_ n3_; clear hb hbox hg; have hcz12_0 : w11.cell? ⟨gb366, 0, none⟩ = some (.int .i64 a0_0) := (Zaa BK366.out 0).trans rfl; have hcz12_1 : w11.cell? ⟨gb366, 1, none⟩ = some (.int .i64 a0_1) := (Zaa BK366.out 1).trans rfl; have hcz12_2 : w11.cell? ⟨gb366, 2, none⟩ = some (.int .i64 a0_2) := (Zaa BK366.out 2).trans rfl; have hfz12_0 := Zad BK366.out 0; have hfz12_1 := Zad BK366.out 1; have hfz12_2 := Zad BK366.out 2))
     go_ret
     exact ⟨by first | rfl | (simp [Zal, Zak] <;> rfl) | (simp [*, Zal, Zak] <;> rfl), by repeat (first | (with_reducible first | exact HB.out | apply Zab | apply Zac | apply Zaf | refine Zaj ?_ GE366.out) | exact HB.out)⟩
   ·rw [if_neg c4] at H
    have c4b0 : decide (0 ≤ a0_1) = false := decide_eq_false c4
    clear c4
    obtain rfl := Option.some.inj H
    go_enter Tryz.func43, Tryz.ntmps43
    go_wp2_with (first | ((with_reducible refine Zaw (N := 1) rfl ?_); refine Zau ?hg (N := 1) ?hd (cs := #[.int .i64 a0_0, .int .i64 a0_1, .int .i64 a0_2]) (t := 51) ?hr ?_; (case hd => rfl); (case hg => rfl); (case hr => first | (go_simp; done) | (go_simp; rfl)); intro gb366 hg w13 hbox hb; have n0_ := Aside0.mk (Zae (by repeat (first | (with_reducible first | exact HB.out | apply Zab | apply Zac | apply Zaf) | exact HB.out)) hb); have n1_ := Aside0.mk (hbox); have n2_ := Aside0.mk ((by rw [hg]; exact (Zai (by repeat (first | (with_reducible first | exact HB.out | apply Zab | apply Zac | apply Zaf) | exact HB.out))) : w.heap.size ≤ gb366)); have n3_ := Aside0.mk ((by rw [hg]; exact (Zai (by repeat (first | (with_reducible first | exact HB.out | apply Zab | apply Zac | apply Zaf) | exact HB.out))) : w.heap.size ≤ gb366)); clear HB; have HB := n0_; have BK366 := n1_; have GW366 := n2_; have GE366 := n3_; clear n0_ n1_ n2_ n3_; clear hb hbox hg; have hcz14_0 : w13.cell? ⟨gb366, 0, none⟩ = some (.int .i64 a0_0) := (Zaa BK366.out 0).trans rfl; have hcz14_1 : w13.cell? ⟨gb366, 1, none⟩ = some (.int .i64 a0_1) := (Zaa BK366.out 1).trans rfl; have hcz14_2 : w13.cell? ⟨gb366, 2, none⟩ = some (.int .i64 a0_2) := (Zaa BK366.out 2).trans rfl; have hfz14_0 := Zad BK366.out 0; have hfz14_1 := Zad BK366.out 1; have hfz14_2 := Zad BK366.out 2))
    go_ret
    exact ⟨by first | rfl | (simp [Zal, Zak] <;> rfl) | (simp [*, Zal, Zak] <;> rfl), by repeat (first | (with_reducible first | exact HB.out | apply Zab | apply Zac | apply Zaf | refine Zaj ?_ GE366.out) | exact HB.out)⟩
  ·rw [if_neg c3] at H
   have c3b0 : decide (a0_0 < 1099511627776) = false := decide_eq_false c3
   clear c3
   obtain rfl := Option.some.inj H
   go_enter Tryz.func43, Tryz.ntmps43
   go_wp2_with (first | ((with_reducible refine Zaw (N := 1) rfl ?_); refine Zau ?hg (N := 1) ?hd (cs := #[.int .i64 a0_0, .int .i64 a0_1, .int .i64 a0_2]) (t := 51) ?hr ?_; (case hd => rfl); (case hg => rfl); (case hr => first | (go_simp; done) | (go_simp; rfl)); intro gb366 hg w15 hbox hb; have n0_ := Aside0.mk (Zae (by repeat (first | (with_reducible first | exact HB.out | apply Zab | apply Zac | apply Zaf) | exact HB.out)) hb); have n1_ := Aside0.mk (hbox); have n2_ := Aside0.mk ((by rw [hg]; exact (Zai (by repeat (first | (with_reducible first | exact HB.out | apply Zab | apply Zac | apply Zaf) | exact HB.out))) : w.heap.size ≤ gb366)); have n3_ := Aside0.mk ((by rw [hg]; exact (Zai (by repeat (first | (with_reducible first | exact HB.out | apply Zab | apply Zac | apply Zaf) | exact HB.out))) : w.heap.size ≤ gb366)); clear HB; have HB := n0_; have BK366 := n1_; have GW366 := n2_; have GE366 := n3_; clear n0_ n1_ n2_ n3_; clear hb hbox hg; have hcz16_0 : w15.cell? ⟨gb366, 0, none⟩ = some (.int .i64 a0_0) := (Zaa BK366.out 0).trans rfl; have hcz16_1 : w15.cell? ⟨gb366, 1, none⟩ = some (.int .i64 a0_1) := (Zaa BK366.out 1).trans rfl; have hcz16_2 : w15.cell? ⟨gb366, 2, none⟩ = some (.int .i64 a0_2) := (Zaa BK366.out 2).trans rfl; have hfz16_0 := Zad BK366.out 0; have hfz16_1 := Zad BK366.out 1; have hfz16_2 := Zad BK366.out 2))
   go_ret
   exact ⟨by first | rfl | (simp [Zal, Zak] <;> rfl) | (simp [*, Zal, Zak] <;> rfl), by repeat (first | (with_reducible first | exact HB.out | apply Zab | apply Zac | apply Zaf | refine Zaj ?_ GE366.out) | exact HB.out)⟩
 ·rw [if_neg c2] at H
  have c2b0 : decide (1 ≤ a0_0) = false := decide_eq_false c2
  clear c2
  obtain rfl := Option.some.inj H
  go_enter Tryz.func43, Tryz.ntmps43
  go_wp2_with (first | ((with_reducible refine Zaw (N := 1) rfl ?_); refine Zau ?hg (N := 1) ?hd (cs := #[.int .i64 a0_0, .int .i64 a0_1, .int .i64 a0_2]) (t := 51) ?hr ?_; (case hd => rfl); (case hg => rfl); (case hr => first | (go_simp; done) | (go_simp; rfl)); intro gb366 hg w17 hbox hb; have n0_ := Aside0.mk (Zae (by repeat (first | (with_reducible first | exact HB.out | apply Zab | apply Zac | apply Zaf) | exact HB.out)) hb); have n1_ := Aside0.mk (hbox); have n2_ := Aside0.mk ((by rw [hg]; exact (Zai (by repeat (first | (with_reducible first | exact HB.out | apply Zab | apply Zac | apply Zaf) | exact HB.out))) : w.heap.size ≤ gb366)); have n3_ := Aside0.mk ((by rw [hg]; exact (Zai (by repeat (first | (with_reducible first | exact HB.out | apply Zab | apply Zac | apply Zaf) | exact HB.out))) : w.heap.size ≤ gb366)); clear HB; have HB := n0_; have BK366 := n1_; have GW366 := n2_; have GE366 := n3_; clear n0_ n1_ n2_ n3_; clear hb hbox hg; have hcz18_0 : w17.cell? ⟨gb366, 0, none⟩ = some (.int .i64 a0_0) := (Zaa BK366.out 0).trans rfl; have hcz18_1 : w17.cell? ⟨gb366, 1, none⟩ = some (.int .i64 a0_1) := (Zaa BK366.out 1).trans rfl; have hcz18_2 : w17.cell? ⟨gb366, 2, none⟩ = some (.int .i64 a0_2) := (Zaa BK366.out 2).trans rfl; have hfz18_0 := Zad BK366.out 0; have hfz18_1 := Zad BK366.out 1; have hfz18_2 := Zad BK366.out 2))
  go_ret
  exact ⟨by first | rfl | (simp [Zal, Zak] <;> rfl) | (simp [*, Zal, Zak] <;> rfl), by repeat (first | (with_reducible first | exact HB.out | apply Zab | apply Zac | apply Zaf | refine Zaj ?_ GE366.out) | exact HB.out)⟩
def ZaQ.f (a0 : Int) (a1 : Int) : Option (Int) := (ZaB.f a0).bind fun t367 => ((ZaB.f a1).bind fun t368 => (if t367 = true then (if t368 = true then (some 0) else (some (-1))) else (if t368 = true then (some 1) else (if a0 < a1 then (some (-1)) else (if a0 > a1 then (some 1) else (some 0))))))
set_option maxHeartbeats 8000000 in
set_option maxRecDepth 100000 in
theorem ZaQ.calls (a0 : Int) (a1 : Int) (r : Int) (w : World) (h : ZaQ.f a0 a1 = some r) :
  Calls Tryz.prog 54 #[.int .i64 a0, .int .i64 a1] w fun e w' => e = .returned (.int .i64 r) ∧ Drawn0 w w' := by
 have H : ((ZaB.f a0).bind fun t367 => ((ZaB.f a1).bind fun t368 => (if t367 = true then (if t368 = true then (some 0) else (some (-1))) else (if t368 = true then (some 1) else (if a0 < a1 then (some (-1)) else (if a0 > a1 then (some 1) else (some 0))))))) = some r := h
 clear h
 replace H := Option.bind_eq_some_iff.mp H
 obtain ⟨t367, A30, H⟩ := H
 replace H : ((ZaB.f a1).bind fun t368 => (if t367 = true then (if t368 = true then (some 0) else (some (-1))) else (if t368 = true then (some 1) else (if a0 < a1 then (some (-1)) else (if a0 > a1 then (some 1) else (some 0)))))) = some r := H
 have A3 := Aside0.mk A30
 clear A30
 replace H := Option.bind_eq_some_iff.mp H
 obtain ⟨t368, A40, H⟩ := H
 replace H : (if t367 = true then (if t368 = true then (some 0) else (some (-1))) else (if t368 = true then (some 1) else (if a0 < a1 then (some (-1)) else (if a0 > a1 then (some 1) else (some 0))))) = some r := H
 have A4 := Aside0.mk A40
 clear A40
 by_cases c5 : t367 = true
 ·subst c5
  have H1 : (if t368 = true then (some 0) else (some (-1))) = some r := by rw [if_pos rfl] at H; exact H
  clear H
  have H := H1
  clear H1
  by_cases c6 : t368 = true
  ·subst c6
   have H1 : (some 0) = some r := by rw [if_pos rfl] at H; exact H
   clear H
   have H := H1
   clear H1
   obtain rfl := Option.some.inj H
   go_enter Tryz.func54, Tryz.ntmps54
   go_wp2_with (first | ((with_reducible refine Zaz (f := 101) rfl ?_); refine goesL_ (some 8) rfl rfl Tryz.func101 (by kernel_rfl) rfl #[.int .i64 a0] rfl (by (try simp only [List.map_toArray, List.map_cons, List.map_nil]); first | done | rfl | (simp only [List.length_drop, List.length_take]; rfl)) ?_; (with_reducible refine (ZaB.calls a0 true _ A3.out).mono ?_); rintro e w' ⟨rfl, ⟨nd, rfl⟩⟩; refine ⟨_, rfl, ?_⟩) | ((with_reducible refine Zaz (f := 101) rfl ?_); refine goesL_ (some 10) rfl rfl Tryz.func101 (by kernel_rfl) rfl #[.int .i64 a1] rfl (by (try simp only [List.map_toArray, List.map_cons, List.map_nil]); first | done | rfl | (simp only [List.length_drop, List.length_take]; rfl)) ?_; (with_reducible refine (ZaB.calls a1 true _ A4.out).mono ?_); rintro e w' ⟨rfl, ⟨nd, rfl⟩⟩; refine ⟨_, rfl, ?_⟩))
   go_ret
   exact ⟨by first | rfl | (simp; done) | (simp [*]; done), by repeat (first | exact Drawn0.refl _ | apply Drawn0.step)⟩
  ·replace c6 := Bool.eq_false_iff.mpr c6
   subst c6
   have H1 : (some (-1)) = some r := by rw [if_neg (show ¬ (false = true) by decide)] at H; exact H
   clear H
   have H := H1
   clear H1
   obtain rfl := Option.some.inj H
   go_enter Tryz.func54, Tryz.ntmps54
   go_wp2_with (first | ((with_reducible refine Zaz (f := 101) rfl ?_); refine goesL_ (some 8) rfl rfl Tryz.func101 (by kernel_rfl) rfl #[.int .i64 a0] rfl (by (try simp only [List.map_toArray, List.map_cons, List.map_nil]); first | done | rfl | (simp only [List.length_drop, List.length_take]; rfl)) ?_; (with_reducible refine (ZaB.calls a0 true _ A3.out).mono ?_); rintro e w' ⟨rfl, ⟨nd, rfl⟩⟩; refine ⟨_, rfl, ?_⟩) | ((with_reducible refine Zaz (f := 101) rfl ?_); refine goesL_ (some 10) rfl rfl Tryz.func101 (by kernel_rfl) rfl #[.int .i64 a1] rfl (by (try simp only [List.map_toArray, List.map_cons, List.map_nil]); first | done | rfl | (simp only [List.length_drop, List.length_take]; rfl)) ?_; (with_reducible refine (ZaB.calls a1 false _ A4.out).mono ?_); rintro e w' ⟨rfl, ⟨nd, rfl⟩⟩; refine ⟨_, rfl, ?_⟩))
   go_ret
   exact ⟨by first | rfl | (simp; done) | (simp [*]; done), by repeat (first | exact Drawn0.refl _ | apply Drawn0.step)⟩
 ·replace c5 := Bool.eq_false_iff.mpr c5
  subst c5
  have H1 : (if t368 = true then (some 1) else (if a0 < a1 then (some (-1)) else (if a0 > a1 then (some 1) else (some 0)))) = some r := by rw [if_neg (show ¬ (false = true) by decide)] at H; exact H
  clear H
  have H := H1
  clear H1
  by_cases c7 : t368 = true
  ·subst c7
   have H1 : (some 1) = some r := by rw [if_pos rfl] at H; exact H
   clear H
   have H := H1
   clear H1
   obtain rfl := Option.some.inj H
   go_enter Tryz.func54, Tryz.ntmps54
   go_wp2_with (first | ((with_reducible refine Zaz (f := 101) rfl ?_); refine goesL_ (some 8) rfl rfl Tryz.func101 (by kernel_rfl) rfl #[.int .i64 a0] rfl (by (try simp only [List.map_toArray, List.map_cons, List.map_nil]); first | done | rfl | (simp only [List.length_drop, List.length_take]; rfl)) ?_; (with_reducible refine (ZaB.calls a0 false _ A3.out).mono ?_); rintro e w' ⟨rfl, ⟨nd, rfl⟩⟩; refine ⟨_, rfl, ?_⟩) | ((with_reducible refine Zaz (f := 101) rfl ?_); refine goesL_ (some 10) rfl rfl Tryz.func101 (by kernel_rfl) rfl #[.int .i64 a1] rfl (by (try simp only [List.map_toArray, List.map_cons, List.map_nil]); first | done | rfl | (simp only [List.length_drop, List.length_take]; rfl)) ?_; (with_reducible refine (ZaB.calls a1 true _ A4.out).mono ?_); rintro e w' ⟨rfl, ⟨nd, rfl⟩⟩; refine ⟨_, rfl, ?_⟩))
   go_ret
   exact ⟨by first | rfl | (simp; done) | (simp [*]; done), by repeat (first | exact Drawn0.refl _ | apply Drawn0.step)⟩
  ·replace c7 := Bool.eq_false_iff.mpr c7
   subst c7
   have H1 : (if a0 < a1 then (some (-1)) else (if a0 > a1 then (some 1) else (some 0))) = some r := by rw [if_neg (show ¬ (false = true) by decide)] at H; exact H
   clear H
   have H := H1
   clear H1
   by_cases c8 : a0 < a1
   ·rw [if_pos c8] at H
    have c8b0 : decide (a0 < a1) = true := decide_eq_true c8
    clear c8
    obtain rfl := Option.some.inj H
    go_enter Tryz.func54, Tryz.ntmps54
    go_wp2_with (first | ((with_reducible refine Zaz (f := 101) rfl ?_); refine goesL_ (some 8) rfl rfl Tryz.func101 (by kernel_rfl) rfl #[.int .i64 a0] rfl (by (try simp only [List.map_toArray, List.map_cons, List.map_nil]); first | done | rfl | (simp only [List.length_drop, List.length_take]; rfl)) ?_; (with_reducible refine (ZaB.calls a0 false _ A3.out).mono ?_); rintro e w' ⟨rfl, ⟨nd, rfl⟩⟩; refine ⟨_, rfl, ?_⟩) | ((with_reducible refine Zaz (f := 101) rfl ?_); refine goesL_ (some 10) rfl rfl Tryz.func101 (by kernel_rfl) rfl #[.int .i64 a1] rfl (by (try simp only [List.map_toArray, List.map_cons, List.map_nil]); first | done | rfl | (simp only [List.length_drop, List.length_take]; rfl)) ?_; (with_reducible refine (ZaB.calls a1 false _ A4.out).mono ?_); rintro e w' ⟨rfl, ⟨nd, rfl⟩⟩; refine ⟨_, rfl, ?_⟩))
    go_ret
    exact ⟨by first | rfl | (simp; done) | (simp [*]; done), by repeat (first | exact Drawn0.refl _ | apply Drawn0.step)⟩
   ·rw [if_neg c8] at H
    have c8b0 : decide (a0 < a1) = false := decide_eq_false c8
    clear c8
    by_cases c9 : a0 > a1
    ·rw [if_pos c9] at H
     have c9b0 : decide (a1 < a0) = true := decide_eq_true c9
     clear c9
     obtain rfl := Option.some.inj H
     go_enter Tryz.func54, Tryz.ntmps54
     go_wp2_with (first | ((with_reducible refine Zaz (f := 101) rfl ?_); refine goesL_ (some 8) rfl rfl Tryz.func101 (by kernel_rfl) rfl #[.int .i64 a0] rfl (by (try simp only [List.map_toArray, List.map_cons, List.map_nil]); first | done | rfl | (simp only [List.length_drop, List.length_take]; rfl)) ?_; (with_reducible refine (ZaB.calls a0 false _ A3.out).mono ?_); rintro e w' ⟨rfl, ⟨nd, rfl⟩⟩; refine ⟨_, rfl, ?_⟩) | ((with_reducible refine Zaz (f := 101) rfl ?_); refine goesL_ (some 10) rfl rfl Tryz.func101 (by kernel_rfl) rfl #[.int .i64 a1] rfl (by (try simp only [List.map_toArray, List.map_cons, List.map_nil]); first | done | rfl | (simp only [List.length_drop, List.length_take]; rfl)) ?_; (with_reducible refine (ZaB.calls a1 false _ A4.out).mono ?_); rintro e w' ⟨rfl, ⟨nd, rfl⟩⟩; refine ⟨_, rfl, ?_⟩))
     go_ret
     exact ⟨by first | rfl | (simp; done) | (simp [*]; done), by repeat (first | exact Drawn0.refl _ | apply Drawn0.step)⟩
    ·rw [if_neg c9] at H
     have c9b0 : decide (a1 < a0) = false := decide_eq_false c9
     clear c9
     obtain rfl := Option.some.inj H
     go_enter Tryz.func54, Tryz.ntmps54
     go_wp2_with (first | ((with_reducible refine Zaz (f := 101) rfl ?_); refine goesL_ (some 8) rfl rfl Tryz.func101 (by kernel_rfl) rfl #[.int .i64 a0] rfl (by (try simp only [List.map_toArray, List.map_cons, List.map_nil]); first | done | rfl | (simp only [List.length_drop, List.length_take]; rfl)) ?_; (with_reducible refine (ZaB.calls a0 false _ A3.out).mono ?_); rintro e w' ⟨rfl, ⟨nd, rfl⟩⟩; refine ⟨_, rfl, ?_⟩) | ((with_reducible refine Zaz (f := 101) rfl ?_); refine goesL_ (some 10) rfl rfl Tryz.func101 (by kernel_rfl) rfl #[.int .i64 a1] rfl (by (try simp only [List.map_toArray, List.map_cons, List.map_nil]); first | done | rfl | (simp only [List.length_drop, List.length_take]; rfl)) ?_; (with_reducible refine (ZaB.calls a1 false _ A4.out).mono ?_); rintro e w' ⟨rfl, ⟨nd, rfl⟩⟩; refine ⟨_, rfl, ?_⟩))
     go_ret
     exact ⟨by first | rfl | (simp; done) | (simp [*]; done), by repeat (first | exact Drawn0.refl _ | apply Drawn0.step)⟩
def gc_seq.f (a0 : Int) : Option (Bool) := if a0 ≥ 1 then (some (decide (a0 < 1099511627776))) else (some false)
set_option maxHeartbeats 8000000 in
set_option maxRecDepth 100000 in
theorem gc_seq.calls (a0 : Int) (r : Bool) (w : World) (h : gc_seq.f a0 = some r) :
  Calls Tryz.prog 100 #[.int .i64 a0] w fun e w' => e = .returned (.bool r) ∧ Drawn0 w w' := by
 have H : (if a0 ≥ 1 then (some (decide (a0 < 1099511627776))) else (some false)) = some r := h
 clear h
 by_cases c2 : a0 ≥ 1
 ·rw [if_pos c2] at H
  have c2b0 : decide (1 ≤ a0) = true := decide_eq_true c2
  clear c2
  obtain rfl := Option.some.inj H
  go_enter Tryz.func100, Tryz.ntmps100
  go_wp2
  go_ret
  exact ⟨by first | rfl | (simp; done) | (simp [*]; done), by repeat (first | exact Drawn0.refl _ | apply Drawn0.step)⟩
 ·rw [if_neg c2] at H
  have c2b0 : decide (1 ≤ a0) = false := decide_eq_false c2
  clear c2
  obtain rfl := Option.some.inj H
  go_enter Tryz.func100, Tryz.ntmps100
  go_wp2
  go_ret
  exact ⟨by first | rfl | (simp; done) | (simp [*]; done), by repeat (first | exact Drawn0.refl _ | apply Drawn0.step)⟩
def Zcl.f (a0_0 : Int) (a0_1 : Int) (a0_2 : Int) : Option (Bool) := (gc_seq.f a0_0).bind fun t373 => (if t373 = true then (if a0_1 ≥ 0 then (if a0_1 ≤ 1024 then (if a0_2 ≥ 0 then (some (decide (a0_2 ≤ a0_1))) else (some false)) else (some false)) else (some false)) else (some false))
set_option maxHeartbeats 8000000 in
set_option maxRecDepth 100000 in
theorem Zcl.calls (a0_0 : Int) (a0_1 : Int) (a0_2 : Int) (r : Bool) (w : World) (h : Zcl.f a0_0 a0_1 a0_2 = some r) :
  Calls Tryz.prog 99 #[.agg #[.int .i64 a0_0, .int .i64 a0_1, .int .i64 a0_2]] w fun e w' => e = .returned (.bool r) ∧ Below w.heap.size w w' := by
 have hu54 := Tryz.underlying54
 have HB := Aside0.mk (Below.refl w.heap.size w)
 have H : ((gc_seq.f a0_0).bind fun t373 => (if t373 = true then (if a0_1 ≥ 0 then (if a0_1 ≤ 1024 then (if a0_2 ≥ 0 then (some (decide (a0_2 ≤ a0_1))) else (some false)) else (some false)) else (some false)) else (some false))) = some r := h
 clear h
 replace H := Option.bind_eq_some_iff.mp H
 obtain ⟨t373, A20, H⟩ := H
 replace H : (if t373 = true then (if a0_1 ≥ 0 then (if a0_1 ≤ 1024 then (if a0_2 ≥ 0 then (some (decide (a0_2 ≤ a0_1))) else (some false)) else (some false)) else (some false)) else (some false)) = some r := H
 have A2 := Aside0.mk A20
 clear A20
 by_cases c3 : t373 = true
 ·subst c3
  have H1 : (if a0_1 ≥ 0 then (if a0_1 ≤ 1024 then (if a0_2 ≥ 0 then (some (decide (a0_2 ≤ a0_1))) else (some false)) else (some false)) else (some false)) = some r := by rw [if_pos rfl] at H; exact H
  clear H
  have H := H1
  clear H1
  by_cases c4 : a0_1 ≥ 0
  ·rw [if_pos c4] at H
   have c4b0 : decide (0 ≤ a0_1) = true := decide_eq_true c4
   clear c4
   by_cases c5 : a0_1 ≤ 1024
   ·rw [if_pos c5] at H
    have c5b0 : decide (a0_1 ≤ 1024) = true := decide_eq_true c5
    clear c5
    by_cases c6 : a0_2 ≥ 0
    ·rw [if_pos c6] at H
     have c6b0 : decide (0 ≤ a0_2) = true := decide_eq_true c6
     clear c6
     obtain rfl := Option.some.inj H
     go_enter Tryz.func99, Tryz.ntmps99
     go_wp2_with (first | ((with_reducible refine Zaw (N := 1) rfl ?_); refine Zau ?hg (N := 1) ?hd (cs := #[.int .i64 a0_0, .int .i64 a0_1, .int .i64 a0_2]) (t := 54) ?hr ?_; (case hd => rfl); (case hg => rfl); (case hr => first | (go_simp; done) | (go_simp; rfl)); intro gb372 hg w7 hbox hb; have n0_ := Aside0.mk (Zae (by repeat (first | (with_reducible first | exact HB.out | apply Zab | apply Zac | apply Zaf) | exact HB.out)) hb); have n1_ := Aside0.mk (hbox); have n2_ := Aside0.mk ((by rw [hg]; exact (Zai (by repeat (first | (with_reducible first | exact HB.out | apply Zab | apply Zac | apply Zaf) | exact HB.out))) : w.heap.size ≤ gb372)); have n3_ := Aside0.mk ((by rw [hg]; exact (Zai (by repeat (first | (with_reducible first | exact HB.out | apply Zab | apply Zac | apply Zaf) | exact HB.out))) : w.heap.size ≤ gb372)); clear HB; have HB := n0_; have BK372 := n1_; have GW372 := n2_; have GE372 := n3_; clear n0_ n1_ n2_ n3_; clear hb hbox hg; have hcz8_0 : w7.cell? ⟨gb372, 0, none⟩ = some (.int .i64 a0_0) := (Zaa BK372.out 0).trans rfl; have hcz8_1 : w7.cell? ⟨gb372, 1, none⟩ = some (.int .i64 a0_1) := (Zaa BK372.out 1).trans rfl; have hcz8_2 : w7.cell? ⟨gb372, 2, none⟩ = some (.int .i64 a0_2) := (Zaa BK372.out 2).trans rfl; have hfz8_0 := Zad BK372.out 0; have hfz8_1 := Zad BK372.out 1; have hfz8_2 := Zad BK372.out 2) | ((with_reducible refine Zaz (f := 100) rfl ?_); refine goesL_ (some 5) rfl rfl Tryz.func100 (by kernel_rfl) rfl #[.int .i64 a0_0] rfl (by (try simp only [List.map_toArray, List.map_cons, List.map_nil]); first | done | rfl | (simp only [List.length_drop, List.length_take]; rfl)) ?_; (with_reducible refine (gc_seq.calls a0_0 true _ A2.out).mono ?_); rintro e w' ⟨rfl, ⟨nd, rfl⟩⟩; refine ⟨_, rfl, ?_⟩))
     go_ret
     exact ⟨by first | rfl | (simp [Zal, Zak] <;> rfl) | (simp [*, Zal, Zak] <;> rfl), by repeat (first | (with_reducible first | exact HB.out | apply Zab | apply Zac | apply Zaf | refine Zaj ?_ GE372.out) | exact HB.out)⟩
    ·rw [if_neg c6] at H
     have c6b0 : decide (0 ≤ a0_2) = false := decide_eq_false c6
     clear c6
     obtain rfl := Option.some.inj H
     go_enter Tryz.func99, Tryz.ntmps99
     go_wp2_with (first | ((with_reducible refine Zaw (N := 1) rfl ?_); refine Zau ?hg (N := 1) ?hd (cs := #[.int .i64 a0_0, .int .i64 a0_1, .int .i64 a0_2]) (t := 54) ?hr ?_; (case hd => rfl); (case hg => rfl); (case hr => first | (go_simp; done) | (go_simp; rfl)); intro gb372 hg w9 hbox hb; have n0_ := Aside0.mk (Zae (by repeat (first | (with_reducible first | exact HB.out | apply Zab | apply Zac | apply Zaf) | exact HB.out)) hb); have n1_ := Aside0.mk (hbox); have n2_ := Aside0.mk ((by rw [hg]; exact (Zai (by repeat (first | (with_reducible first | exact HB.out | apply Zab | apply Zac | apply Zaf) | exact HB.out))) : w.heap.size ≤ gb372)); have n3_ := Aside0.mk ((by rw [hg]; exact (Zai (by repeat (first | (with_reducible first | exact HB.out | apply Zab | apply Zac | apply Zaf) | exact HB.out))) : w.heap.size ≤ gb372)); clear HB; have HB := n0_; have BK372 := n1_; have GW372 := n2_; have GE372 := n3_; clear n0_ n1_ n2_ n3_; clear hb hbox hg; have hcz10_0 : w9.cell? ⟨gb372, 0, none⟩ = some (.int .i64 a0_0) := (Zaa BK372.out 0).trans rfl; have hcz10_1 : w9.cell? ⟨gb372, 1, none⟩ = some (.int .i64 a0_1) := (Zaa BK372.out 1).trans rfl; have hcz10_2 : w9.cell? ⟨gb372, 2, none⟩ = some (.int .i64 a0_2) := (Zaa BK372.out 2).trans rfl; have hfz10_0 := Zad BK372.out 0; have hfz10_1 := Zad BK372.out 1; have hfz10_2 := Zad BK372.out 2) | ((with_reducible refine Zaz (f := 100) rfl ?_); refine goesL_ (some 5) rfl rfl Tryz.func100 (by kernel_rfl) rfl #[.int .i64 a0_0] rfl (by (try simp only [List.map_toArray, List.map_cons, List.map_nil]); first | done | rfl | (simp only [List.length_drop, List.length_take]; rfl)) ?_; (with_reducible refine (gc_seq.calls a0_0 true _ A2.out).mono ?_); rintro e w' ⟨rfl, ⟨nd, rfl⟩⟩; refine ⟨_, rfl, ?_⟩))
     go_ret
     exact ⟨by first | rfl | (simp [Zal, Zak] <;> rfl) | (simp [*, Zal, Zak] <;> rfl), by repeat (first | (with_reducible first | exact HB.out | apply Zab | apply Zac | apply Zaf | refine Zaj ?_ GE372.out) | exact HB.out)⟩
   ·rw [if_neg c5] at H
    have c5b0 : decide (a0_1 ≤ 1024) = false := decide_eq_false c5
    clear c5
    obtain rfl := Option.some.inj H
    go_enter Tryz.func99, Tryz.ntmps99
    go_wp2_with (first | ((with_reducible refine Zaw (N := 1) rfl ?_); refine Zau ?hg (N := 1) ?hd (cs := #[.int .i64 a0_0, .int .i64 a0_1, .int .i64 a0_2]) (t := 54) ?hr ?_; (case hd => rfl); (case hg => rfl); (case hr => first | (go_simp; done) | (go_simp; rfl)); intro gb372 hg w11 hbox hb; have n0_ := Aside0.mk (Zae (by repeat (first | (with_reducible first | exact HB.out | apply Zab | apply Zac | apply Zaf) | exact HB.out)) hb); have n1_ := Aside0.mk (hbox); have n2_ := Aside0.mk ((by rw [hg]; exact (Zai (by repeat (first | (with_reducible first | exact HB.out | apply Zab | apply Zac | apply Zaf) | exact HB.out))) : w.heap.size ≤ gb372)); have n3_ := Aside0.mk ((by rw [hg]; exact (Zai (by repeat (first | (with_reducible first | exact HB.out | apply Zab | apply Zac | apply Zaf) | exact HB.out))) : w.heap.size ≤ gb372)); clear HB; have HB := n0_; have BK372 := n1_; have GW372 := n2_; have GE372 := n3_; clear n0_ n1_ n2_ n3_; clear hb hbox hg; have hcz12_0 : w11.cell? ⟨gb372, 0, none⟩ = some (.int .i64 a0_0) := (Zaa BK372.out 0).trans rfl; have hcz12_1 : w11.cell? ⟨gb372, 1, none⟩ = some (.int .i64 a0_1) := (Zaa BK372.out 1).trans rfl; have hcz12_2 : w11.cell? ⟨gb372, 2, none⟩ = some (.int .i64 a0_2) := (Zaa BK372.out 2).trans rfl; have hfz12_0 := Zad BK372.out 0; have hfz12_1 := Zad BK372.out 1; have hfz12_2 := Zad BK372.out 2) | ((with_reducible refine Zaz (f := 100) rfl ?_); refine goesL_ (some 5) rfl rfl Tryz.func100 (by kernel_rfl) rfl #[.int .i64 a0_0] rfl (by (try simp only [List.map_toArray, List.map_cons, List.map_nil]); first | done | rfl | (simp only [List.length_drop, List.length_take]; rfl)) ?_; (with_reducible refine (gc_seq.calls a0_0 true _ A2.out).mono ?_); rintro e w' ⟨rfl, ⟨nd, rfl⟩⟩; refine ⟨_, rfl, ?_⟩))
    go_ret
    exact ⟨by first | rfl | (simp [Zal, Zak] <;> rfl) | (simp [*, Zal, Zak] <;> rfl), by repeat (first | (with_reducible first | exact HB.out | apply Zab | apply Zac | apply Zaf | refine Zaj ?_ GE372.out) | exact HB.out)⟩
  ·rw [if_neg c4] at H
   have c4b0 : decide (0 ≤ a0_1) = false := decide_eq_false c4
   clear c4
   obtain rfl := Option.some.inj H
   go_enter Tryz.func99, Tryz.ntmps99
   go_wp2_with (first | ((with_reducible refine Zaw (N := 1) rfl ?_); refine Zau ?hg (N := 1) ?hd (cs := #[.int .i64 a0_0, .int .i64 a0_1, .int .i64 a0_2]) (t := 54) ?hr ?_; (case hd => rfl); (case hg => rfl); (case hr => first | (go_simp; done) | (go_simp; rfl)); intro gb372 hg w13 hbox hb; have n0_ := Aside0.mk (Zae (by repeat (first | (with_reducible first | exact HB.out | apply Zab | apply Zac | apply Zaf) | exact HB.out)) hb); have n1_ := Aside0.mk (hbox); have n2_ := Aside0.mk ((by rw [hg]; exact (Zai (by repeat (first | (with_reducible first | exact HB.out | apply Zab | apply Zac | apply Zaf) | exact HB.out))) : w.heap.size ≤ gb372)); have n3_ := Aside0.mk ((by rw [hg]; exact (Zai (by repeat (first | (with_reducible first | exact HB.out | apply Zab | apply Zac | apply Zaf) | exact HB.out))) : w.heap.size ≤ gb372)); clear HB; have HB := n0_; have BK372 := n1_; have GW372 := n2_; have GE372 := n3_; clear n0_ n1_ n2_ n3_; clear hb hbox hg; have hcz14_0 : w13.cell? ⟨gb372, 0, none⟩ = some (.int .i64 a0_0) := (Zaa BK372.out 0).trans rfl; have hcz14_1 : w13.cell? ⟨gb372, 1, none⟩ = some (.int .i64 a0_1) := (Zaa BK372.out 1).trans rfl; have hcz14_2 : w13.cell? ⟨gb372, 2, none⟩ = some (.int .i64 a0_2) := (Zaa BK372.out 2).trans rfl; have hfz14_0 := Zad BK372.out 0; have hfz14_1 := Zad BK372.out 1; have hfz14_2 := Zad BK372.out 2) | ((with_reducible refine Zaz (f := 100) rfl ?_); refine goesL_ (some 5) rfl rfl Tryz.func100 (by kernel_rfl) rfl #[.int .i64 a0_0] rfl (by (try simp only [List.map_toArray, List.map_cons, List.map_nil]); first | done | rfl | (simp only [List.length_drop, List.length_take]; rfl)) ?_; (with_reducible refine (gc_seq.calls a0_0 true _ A2.out).mono ?_); rintro e w' ⟨rfl, ⟨nd, rfl⟩⟩; refine ⟨_, rfl, ?_⟩))
   go_ret
   exact ⟨by first | rfl | (simp [Zal, Zak] <;> rfl) | (simp [*, Zal, Zak] <;> rfl), by repeat (first | (with_reducible first | exact HB.out | apply Zab | apply Zac | apply Zaf | refine Zaj ?_ GE372.out) | exact HB.out)⟩
 ·replace c3 := Bool.eq_false_iff.mpr c3
  subst c3
  have H1 : (some false) = some r := by rw [if_neg (show ¬ (false = true) by decide)] at H; exact H
  clear H
  have H := H1
  clear H1
  obtain rfl := Option.some.inj H
  go_enter Tryz.func99, Tryz.ntmps99
  go_wp2_with (first | ((with_reducible refine Zaw (N := 1) rfl ?_); refine Zau ?hg (N := 1) ?hd (cs := #[.int .i64 a0_0, .int .i64 a0_1, .int .i64 a0_2]) (t := 54) ?hr ?_; (case hd => rfl); (case hg => rfl); (case hr => first | (go_simp; done) | (go_simp; rfl)); intro gb372 hg w15 hbox hb; have n0_ := Aside0.mk (Zae (by repeat (first | (with_reducible first | exact HB.out | apply Zab | apply Zac | apply Zaf) | exact HB.out)) hb); have n1_ := Aside0.mk (hbox); have n2_ := Aside0.mk ((by rw [hg]; exact (Zai (by repeat (first | (with_reducible first | exact HB.out | apply Zab | apply Zac | apply Zaf) | exact HB.out))) : w.heap.size ≤ gb372)); have n3_ := Aside0.mk ((by rw [hg]; exact (Zai (by repeat (first | (with_reducible first | exact HB.out | apply Zab | apply Zac | apply Zaf) | exact HB.out))) : w.heap.size ≤ gb372)); clear HB; have HB := n0_; have BK372 := n1_; have GW372 := n2_; have GE372 := n3_; clear n0_ n1_ n2_ n3_; clear hb hbox hg; have hcz16_0 : w15.cell? ⟨gb372, 0, none⟩ = some (.int .i64 a0_0) := (Zaa BK372.out 0).trans rfl; have hcz16_1 : w15.cell? ⟨gb372, 1, none⟩ = some (.int .i64 a0_1) := (Zaa BK372.out 1).trans rfl; have hcz16_2 : w15.cell? ⟨gb372, 2, none⟩ = some (.int .i64 a0_2) := (Zaa BK372.out 2).trans rfl; have hfz16_0 := Zad BK372.out 0; have hfz16_1 := Zad BK372.out 1; have hfz16_2 := Zad BK372.out 2) | ((with_reducible refine Zaz (f := 100) rfl ?_); refine goesL_ (some 5) rfl rfl Tryz.func100 (by kernel_rfl) rfl #[.int .i64 a0_0] rfl (by (try simp only [List.map_toArray, List.map_cons, List.map_nil]); first | done | rfl | (simp only [List.length_drop, List.length_take]; rfl)) ?_; (with_reducible refine (gc_seq.calls a0_0 false _ A2.out).mono ?_); rintro e w' ⟨rfl, ⟨nd, rfl⟩⟩; refine ⟨_, rfl, ?_⟩))
  go_ret
  exact ⟨by first | rfl | (simp [Zal, Zak] <;> rfl) | (simp [*, Zal, Zak] <;> rfl), by repeat (first | (with_reducible first | exact HB.out | apply Zab | apply Zac | apply Zaf | refine Zaj ?_ GE372.out) | exact HB.out)⟩
end Go.Proofs.YtpfnaknmalojkaaGreat.PTopRows
namespace Go.Proofs.YtpfnaknmalojkaaGreat.PTopRows
open Go.RowKit Go.Maps Go.Proofs.YtpfnaknmalojkaaGreatW.PrintWords Go.Proofs.YtpfnaknmalojkaaGreatW.PrintLast Go.Proofs.YtpfnaknmalojkaaGreatW.PrintMore
set_option linter.unusedVariables false
set_option linter.unusedSimpArgs false
def rowV (x : S51) : Value := .agg #[.int .i64 x.f0, .int .i64 x.f1, .int .i64 x.f2]
def rowL (x : S51) : List Value := [.int .i64 x.f0, .int .i64 x.f1, .int .i64 x.f2]
def rowD (x : S51) : DataW Unit := .agg [.lit (.int .i64 x.f0), .lit (.int .i64 x.f1), .lit (.int .i64 x.f2)]
def rowI : Value → Option Int
 | .int .i64 a => some a
 | _ => none
def rowT : List Value → Option S51
 | [a, b, c] => (rowI a).bind fun x => (rowI b).bind fun y => (rowI c).bind fun z => some ⟨x, y, z⟩
 | _ => none
def rowR : Value → Option (DataW Unit × List MemPlace)
 | .agg cs => (rowT cs.toList).map fun x => (rowD x, [])
 | _ => none
theorem rowI_inv {v : Value} {a : Int} (h : rowI v = some a) : v = .int .i64 a := by
 unfold rowI at h
 split at h
 ·cases h; rfl
 ·cases h
theorem rowT_inv {l : List Value} {x : S51} (h : rowT l = some x) : l = [.int .i64 x.f0, .int .i64 x.f1, .int .i64 x.f2] := by
 unfold rowT at h
 split at h
 ·obtain ⟨a, ha, h⟩ := Option.bind_eq_some_iff.1 h
  obtain ⟨b, hb, h⟩ := Option.bind_eq_some_iff.1 h
  obtain ⟨c, hc, h⟩ := Option.bind_eq_some_iff.1 h
  cases h
  rw [rowI_inv ha, rowI_inv hb, rowI_inv hc]
 ·cases h
theorem ZdO (x : S51) : rowR (rowV x) = some (rowD x, []) := rfl
theorem ZcF {v : Value} {z : DataW Unit × List MemPlace} (h : rowR v = some z) : ∃ x, v = rowV x ∧ z = (rowD x, []) := by
 unfold rowR at h
 split at h
 ·rename_i cs
  obtain ⟨x, hx, h⟩ := Option.map_eq_some_iff.1 h
  refine ⟨x, ?_, h.symm⟩
  have := rowT_inv hx
  unfold rowV
  congr 1
  cases cs
  simpa using this
 ·cases h
theorem ZcG {x y : S51} (h : rowD x = rowD y) : x = y := by
 cases x; cases y
 simp [rowD] at h
 obtain ⟨rfl, rfl, rfl⟩ := h
 rfl
def MayR (x : S51) : Prop := 1 ≤ x.f0 ∧ x.f0 < 1099511627776 ∧ 0 ≤ x.f1 ∧ x.f1 ≤ 65536 ∧ 0 ≤ x.f2 ∧ x.f2 ≤ x.f1
instance (x : S51) : Decidable (MayR x) := by unfold MayR; infer_instance
theorem keyed3 : Keyed Tryz.prog 3 := int_keyed Tryz.underlying3
theorem wf_of {a : Int} (h1 : -9223372036854775808 ≤ a) (h2 : a ≤ 9223372036854775807) : (Lit.int .i64 a).wf = true := by
 have e1 : IntKind.i64.min = -9223372036854775808 := by decide
 have e2 : IntKind.i64.max = 9223372036854775807 := by decide
 simp [Lit.wf, e1, e2, h1, h2]
theorem key_row {x : S51} (h : MayR x) : keyOf Tryz.prog 3 (.int .i64 x.f0) = some (.int .i64 x.f0) := keyOf_int_mk Tryz.underlying3 (wf_of (by have := h.1; omega) (by have := h.2.1; omega))
def MapOf (D : DataW Unit) (T : List S51) : Prop :=
 T.Pairwise (fun x y => x.f0 < y.f0) ∧ (∀ x ∈ T, MayR x) ∧ (∀ kl, Maps.has D kl = true ↔ ∃ x ∈ T, kl = .int .i64 x.f0) ∧ ∀ x ∈ T, ∀ zd, D.atKey (.int .i64 x.f0) zd = rowD x
def TMap (w : World) (b N : Nat) (T : List S51) : Prop := T.length ≤ N ∧ ∃ D, w.ownsMap Tryz.prog 3 rowR b N D ∧ MapOf D T
theorem MapOf.nil : MapOf (.map []) [] := ⟨List.Pairwise.nil, by simp, fun kl => by simp [Maps.has], by simp⟩
theorem TMap.lt {w : World} {b N : Nat} {T : List S51} (h : TMap w b N T) : b < w.heap.size := by
 obtain ⟨_, D, h, _⟩ := h
 exact h.lt
theorem TMap.kept {w w' : World} {b N : Nat} {T : List S51} {row : Option Nat} (h : TMap w b N T) (hg : w.grownBy w' row) (hne : some b ≠ row) : TMap w' b N T := by
 obtain ⟨h0, D, h, h1⟩ := h
 exact ⟨h0, D, h.kept hg hne, h1⟩
theorem TMap.mono {w : World} {b N M : Nat} {T : List S51} (h : TMap w b N T) (hM : N ≤ M) : TMap w b M T := by
 obtain ⟨h0, D, h, h1⟩ := h
 exact ⟨by omega, D, h.mono hM, h1⟩
theorem TMap.below {w w' : World} {b N : Nat} {T : List S51} (h : TMap w b N T) (hb : Below w.heap.size w w') : TMap w' b N T := by
 obtain ⟨h0, D, ⟨es, clock, hh, F, hs, hD⟩, h1⟩ := h
 exact ⟨h0, D, ⟨es, clock, (hb.block b (Array.getElem?_eq_some_iff.1 hh).1).trans hh, F, hs, hD⟩, h1⟩
def putT (x : S51) : List S51 → List S51
 | [] => [x]
 | y :: T => if x.f0 < y.f0 then x :: y :: T else if x.f0 = y.f0 then x :: T else y :: putT x T
theorem ZdA (x : S51) (T : List S51) : (putT x T).length ≤ T.length + 1 := by
 induction T with
 | nil => simp [putT]
 | cons y T ih =>
  unfold putT
  split
  ·simp
  ·split
   ·simp
   ·simp
    omega
theorem ZaI {x z : S51} {T : List S51} (hT : T.Pairwise (fun x y => x.f0 < y.f0)) : z ∈ putT x T ↔ z = x ∨ (z ∈ T ∧ z.f0 ≠ x.f0) := by
 induction T with
 | nil => simp [putT]
 | cons y T ih =>
  obtain ⟨h1, h2⟩ := List.pairwise_cons.1 hT
  unfold putT
  split
  ·rename_i hlt
   simp only [List.mem_cons]
   constructor
   ·rintro (h | h | h)
    ·exact .inl h
    ·exact .inr ⟨.inl h, by rw [h]; omega⟩
    ·exact .inr ⟨.inr h, by have := h1 z h; omega⟩
   ·rintro (h | ⟨h | h, _⟩)
    ·exact .inl h
    ·exact .inr (.inl h)
    ·exact .inr (.inr h)
  ·split
   ·rename_i hge heq
    simp only [List.mem_cons]
    constructor
    ·rintro (h | h)
     ·exact .inl h
     ·exact .inr ⟨.inr h, by have := h1 z h; omega⟩
    ·rintro (h | ⟨h | h, hn⟩)
     ·exact .inl h
     ·subst h
      exact absurd heq.symm hn
     ·exact .inr h
   ·rename_i hge hne
    simp only [List.mem_cons, ih h2]
    constructor
    ·rintro (h | h | ⟨h, hn⟩)
     ·subst h
      exact .inr ⟨.inl rfl, fun e => hne e.symm⟩
     ·exact .inl h
     ·exact .inr ⟨.inr h, hn⟩
    ·rintro (h | ⟨h | h, hn⟩)
     ·exact .inr (.inl h)
     ·exact .inl h
     ·exact .inr (.inr ⟨h, hn⟩)
theorem Zbs {x : S51} {T : List S51} (hT : T.Pairwise (fun x y => x.f0 < y.f0)) : (putT x T).Pairwise (fun x y => x.f0 < y.f0) := by
 induction T with
 | nil => simp [putT]
 | cons y T ih =>
  obtain ⟨h1, h2⟩ := List.pairwise_cons.1 hT
  unfold putT
  split
  ·rename_i hlt
   refine List.pairwise_cons.2 ⟨fun z hz => ?_, hT⟩
   rcases List.mem_cons.1 hz with rfl | hz
   ·exact hlt
   ·have := h1 z hz
    omega
  ·split
   ·rename_i hge heq
    refine List.pairwise_cons.2 ⟨fun z hz => ?_, h2⟩
    have := h1 z hz
    omega
   ·rename_i hge hne
    refine List.pairwise_cons.2 ⟨fun z hz => ?_, ih h2⟩
    rcases (ZaI h2).1 hz with rfl | ⟨hz, _⟩
    ·omega
    ·exact h1 z hz
theorem MapOf.put {D : DataW Unit} {T : List S51} {x : S51} (h : MapOf D T) (hx : MayR x) (hm : IsMap D) : MapOf (D.put (.int .i64 x.f0) (rowD x)) (putT x T) := by
 obtain ⟨h1, h2, h3, h4⟩ := h
 have hk : WideAt.IsKeyLit (.int .i64 x.f0) := by
  have := keyed3.key (key_row hx)
  exact this
 refine ⟨Zbs h1, fun z hz => ?_, fun kl => ?_, fun z hz zd => ?_⟩
 ·rcases (ZaI h1).1 hz with rfl | ⟨hz, _⟩
  ·exact hx
  ·exact h2 z hz
 ·by_cases he : kl = .int .i64 x.f0
  ·subst he
   rw [has_put_same hm hk]
   simp only [true_iff]
   exact ⟨x, (ZaI h1).2 (.inl rfl), rfl⟩
  ·rw [has_put_other he, h3]
   constructor
   ·rintro ⟨z, hz, rfl⟩
    exact ⟨z, (ZaI h1).2 (.inr ⟨hz, fun e => he (by rw [e])⟩), rfl⟩
   ·rintro ⟨z, hz, rfl⟩
    rcases (ZaI h1).1 hz with rfl | ⟨hz, _⟩
    ·exact absurd rfl he
    ·exact ⟨z, hz, rfl⟩
 ·rcases (ZaI h1).1 hz with rfl | ⟨hz, hne⟩
  ·exact atKey_put_same hm hk _ _
  ·rw [atKey_put_other (by simpa using hne)]
   exact h4 z hz zd
def findT (T : List S51) (k : Int) : Option S51 := T.find? (fun x => x.f0 == k)
theorem ZaD {T : List S51} {k : Int} {x : S51} (h : findT T k = some x) : x ∈ T ∧ x.f0 = k := by
 unfold findT at h
 exact ⟨List.mem_of_find?_eq_some h, by simpa using List.find?_some h⟩
theorem Zbb {T : List S51} {k : Int} (h : findT T k = none) : ∀ x ∈ T, x.f0 ≠ k := by
 unfold findT at h
 intro x hx
 simpa using List.find?_eq_none.1 h x hx
theorem MapOf.has_iff {D : DataW Unit} {T : List S51} (h : MapOf D T) (k : Int) : Maps.has D (.int .i64 k) = (findT T k).isSome := by
 cases hf : findT T k with
 | some x =>
  obtain ⟨hx, rfl⟩ := ZaD hf
  rw [(h.2.2.1 _).2 ⟨x, hx, rfl⟩]
  rfl
 | none =>
  have hn := Zbb hf
  cases hh : Maps.has D (.int .i64 k) with
  | false => rfl
  | true =>
   obtain ⟨x, hx, e⟩ := (h.2.2.1 _).1 hh
   injection e with _ e
   exact absurd e.symm (hn x hx)
theorem zero51 (w : World) : (zeroValue 51).run Tryz.prog w = .ok (rowV ⟨0, 0, 0⟩) w := Tryz.zeroValue51 w
theorem TMap.look {w : World} {b N : Nat} {T : List S51} {k : Int} (h : TMap w b N T) (hk : (Lit.int .i64 k).wf = true) :
  (Instr.lookup 73 (.map (some b)) (.int .i64 k) true).run Tryz.prog w = .ok (.tuple #[rowV ((findT T k).getD ⟨0, 0, 0⟩), .bool (findT T k).isSome]) w := by
 obtain ⟨_, D, h, hm⟩ := h
 obtain ⟨v, ps, hrun, hv⟩ := h.look_ok keyed3 Tryz.underlying73 (zero51 w) (ZdO ⟨0, 0, 0⟩) (keyOf_int_mk Tryz.underlying3 hk)
 rw [hm.has_iff k] at hrun
 cases hf : findT T k with
 | some x =>
  obtain ⟨hx, rfl⟩ := ZaD hf
  rw [hm.2.2.2 x hx] at hv
  obtain ⟨y, rfl, hy⟩ := ZcF hv
  have hy := (Prod.mk.inj hy).1
  rw [hf] at hrun
  rw [← ZcG hy] at hrun
  exact hrun
 | none =>
  have hd : ∀ z, D.atKey (.int .i64 k) z = z := fun z => by
   have : Maps.has D (.int .i64 k) = false := by rw [hm.has_iff, hf]; rfl
   exact atKey_of_not_has this z
  rw [hd] at hv
  obtain ⟨y, rfl, hy⟩ := ZcF hv
  have hy := (Prod.mk.inj hy).1
  rw [hf] at hrun
  rw [← ZcG hy] at hrun
  exact hrun
theorem may_f (x : S51) : ZbE.f x.f0 x.f1 x.f2 = some (decide (MayR x)) := by
 unfold ZbE.f MayR
 by_cases h1 : x.f0 ≥ 1
 ·by_cases h2 : x.f0 < 1099511627776
  ·by_cases h3 : x.f1 ≥ 0
   ·by_cases h4 : x.f1 ≤ 65536
    ·by_cases h5 : x.f2 ≥ 0
     ·simp [h1, h2, h3, h4, h5]
     ·simp [h1, h2, h3, h4, h5]
    ·simp [h1, h2, h3, h4]
   ·simp [h1, h2, h3]
  ·simp [h1, h2]
 ·simp [h1]
theorem may_calls (x : S51) (w : World) : Calls Tryz.prog 43 #[rowV x] w fun e w' => e = .returned (.bool (decide (MayR x))) ∧ Below w.heap.size w w' := ZbE.calls _ _ _ _ w (may_f x)
theorem bad_calls (x : S51) (w : World) : Calls Tryz.prog 42 #[rowV x] w fun e w' => e = .returned (.bool (!decide (MayR x))) ∧ Below w.heap.size w w' := by
 have H := fun W => may_calls x W
 unfold rowV at H ⊢
 generalize decide (MayR x) = q at H ⊢
 obtain ⟨x0, x1, x2⟩ := x
 simp only at H ⊢
 have z0 := Zas w (.cells #[.int .i64 x0, .int .i64 x1, .int .i64 x2] 51)
 go_enter Tryz.func42, Tryz.ntmps42
 go_wp2_with (go_at_call 43; refine (H _).mono ?_; rintro e w' ⟨rfl, hb⟩)
 go_ret
 exact ⟨rfl, Zae (Zab (Below.refl _ _) _) hb⟩
def idxOf (p : S51 → Bool) (l : List S51) : Int := match l.findIdx? p with
 | some i => (i : Int)
 | none => -1
theorem rd_T51_get {l : List S51} {k : Nat} (h : k < l.length) : rd_T51 l (k : Int) = l[k] := by
 unfold rd_T51
 rw [List.getD_eq_getElem?_getD, Int.toNat_natCast, List.getElem?_eq_getElem h]
 rfl
theorem ZbN {w : World} {A : Option Addr} {l : List S51} (h : Kd.C k51 w A l.length l) (k : Nat) (hk : k < l.length) : ∃ ad, A = some ad ∧ w.cell? (ad.add (k * 3)) = some (.int .i64 l[k].f0) ∧ w.cell? ⟨(ad.add (k * 3)).block, (ad.add (k * 3)).off + 1, none⟩ = some (.int .i64 l[k].f1) ∧ w.cell? ⟨(ad.add (k * 3)).block, (ad.add (k * 3)).off + 2, none⟩ = some (.int .i64 l[k].f2) := by
 obtain ⟨ad, e, h0, h1, h2⟩ := at_T51 h (k : Int) (by omega) (by omega)
 rw [rd_T51_get hk, Int.toNat_natCast] at h0 h1 h2
 exact ⟨ad, e, h0, h1, h2⟩
set_option maxRecDepth 100000 in
set_option maxHeartbeats 1000000 in
theorem index_calls (g : Nat) (lb : Array Value) (p : S51 → Bool) (A : Option Addr) (c : Nat) (l : List S51) (w : World) (hr : Kd.C k51 w A l.length l)
  (eg : ∀ args w, (callFunc g args).run Tryz.prog w = .ok (.enter g args) w)
  (hp : ∀ W x, Below w.heap.size w W → Calls Tryz.prog g (#[.agg #[.int .i64 x.f0, .int .i64 x.f1, .int .i64 x.f2]] ++ lb) W fun e w' => e = .returned (.bool (p x)) ∧ Below W.heap.size W w') :
  Calls Tryz.prog 94 #[.slice A l.length c, .func (.func g) #[] lb] w fun e w' => e = .returned (.int .i64 (idxOf p l)) ∧ Below w.heap.size w w' := by
 have HR := Aside0.mk hr
 clear hr
 have HP := Aside0.mk hp
 clear hp
 go_enter Tryz.func94, Tryz.ntmps94
 go_wp2
 go_loopw [5, 8] (fun v5 v8 wr => ∃ k : Nat, k ≤ l.length ∧ v8 = .int .i64 k ∧ Aside0 (Below w.heap.size w wr) ∧ Aside0 (∀ j (h : j < l.length), j < k → p l[j] = false)) (fun _ v8 _ => l.length - (intOf v8).toNat)
 case atStart => exact ⟨0, Nat.zero_le _, rfl, ⟨Below.refl _ w⟩, ⟨fun j _ hj => absurd hj (Nat.not_lt_zero _)⟩⟩
 case round =>
  as_aux_lemma =>
   obtain ⟨k, hk, rfl, HB, HF⟩ := hrel
   have hmx : l.length ≤ 9223372036854775807 := HR.out.2.1
   by_cases hlt : k < l.length
   ·obtain ⟨ad, rfl, h0, h1, h2⟩ := ZbN (Kd.C_below HR.out HB.out) k hlt
    have hcall := HP.out wr l[k] HB.out
    have hk1 : k + 1 ≤ l.length := hlt
    generalize hx : l[k] = x at h0 h1 h2 hcall
    have HX := Aside0.mk hx
    clear hx
    obtain ⟨x0, x1, x2⟩ := x
    simp only at h0 h1 h2 hcall
    cases hq : p ⟨x0, x1, x2⟩ with
    | true =>
     as_aux_lemma =>
      rw [hq] at hcall
      go_wp2_with (go_at_fn g; refine hcall.mono ?_; rintro e w' ⟨rfl, hb⟩)
      go_ret
      refine ⟨?_, Zae HB.out hb⟩
      have : idxOf p l = k := by
       have : l.findIdx? p = some k := by
        rw [List.findIdx?_eq_some_iff_getElem]
        exact ⟨hlt, by rw [HX.out, hq], fun j hj => by rw [HF.out j (by omega) hj]; simp⟩
       unfold idxOf
       rw [this]
      rw [this]
      rfl
    | false =>
     as_aux_lemma =>
      rw [hq] at hcall
      go_wp2_with (go_at_fn g; refine hcall.mono ?_; rintro e w' ⟨rfl, hb⟩)
      refine ⟨⟨k + 1, by omega, by go_num, ⟨Zae HB.out hb⟩, ⟨fun j h hj => ?_⟩⟩, by simp [intOf]; omega⟩
      by_cases e : j = k
      ·subst e
       rw [HX.out, hq]
      ·exact HF.out j h (by omega)
   ·have : k = l.length := by omega
    subst this
    go_wp2
    go_ret
    refine ⟨?_, HB.out⟩
    have : idxOf p l = -1 := by
     have : l.findIdx? p = none := by
      rw [List.findIdx?_eq_none_iff]
      intro x hx
      obtain ⟨j, hj, rfl⟩ := List.getElem_of_mem hx
      exact HF.out j hj hj
     unfold idxOf
     rw [this]
    rw [this]
    rfl
theorem idxOf_nonneg (p : S51 → Bool) (l : List S51) : decide (0 ≤ idxOf p l) = l.any p := by
 unfold idxOf
 cases h : l.findIdx? p with
 | none =>
  have h2 := List.findIdx?_eq_none_iff.1 h
  have : l.any p = false := by
   rw [List.any_eq_false]
   intro x hx
   rw [h2 x hx]
   simp
  rw [this]
  rfl
 | some i =>
  obtain ⟨hi, hp, _⟩ := List.findIdx?_eq_some_iff_getElem.1 h
  have : l.any p = true := List.any_eq_true.2 ⟨_, List.getElem_mem hi, hp⟩
  rw [this]
  simp
theorem contains_calls (g : Nat) (lb : Array Value) (p : S51 → Bool) (A : Option Addr) (c : Nat) (l : List S51) (w : World) (hr : Kd.C k51 w A l.length l)
  (eg : ∀ args w, (callFunc g args).run Tryz.prog w = .ok (.enter g args) w)
  (hp : ∀ W x, Below w.heap.size w W → Calls Tryz.prog g (#[.agg #[.int .i64 x.f0, .int .i64 x.f1, .int .i64 x.f2]] ++ lb) W fun e w' => e = .returned (.bool (p x)) ∧ Below W.heap.size W w') :
  Calls Tryz.prog 41 #[.slice A l.length c, .func (.func g) #[] lb] w fun e w' => e = .returned (.bool (l.any p)) ∧ Below w.heap.size w w' := by
 have H := index_calls g lb p A c l w hr eg hp
 have hn := idxOf_nonneg p l
 clear hr hp eg
 generalize idxOf p l = q at H hn
 rw [← hn]
 clear hn
 go_enter Tryz.func41, Tryz.ntmps41
 go_wp2_with (go_at_call 94; refine H.mono ?_; rintro e w' ⟨rfl, hb⟩)
 go_ret
 exact ⟨rfl, hb⟩
set_option maxRecDepth 100000 in
set_option maxHeartbeats 2000000 in
theorem clone_run (b : Nat) (es : Array MapEntry) (clock : Nat) (w : World) (hb : w.heap[b]? = some (.map es clock)) :
  Calls Tryz.prog 44 #[.map (some b)] w fun e w' => e = .returned (.map (some w.heap.size)) ∧ w' = w.alloc (.map es clock) := by
 have hq := fun w => run_eql_map_nil_sl (P := Tryz.prog) w 73 _ _ (some b) Tryz.underlying73
 go_enter Tryz.func44, Tryz.ntmps44
 go_wp2
 rw [run_callFunc_extern Tryz.func95 (by kernel_rfl) (by kernel_rfl) (by kernel_rfl) (e := Extern.MapsClone.clone) (by kernel_rfl), run_maps_clone_sl w 73 hb]
 simp only [Result.andThen]
 rw [Oper.upon_value]
 go_wp2
 rw [run_typeAssert_map_sl _ 73 20 _ _ _ Tryz.underlying73]
 simp only [Result.andThen]
 rw [Oper.upon_value]
 go_wp2
 go_ret
 exact ⟨rfl, rfl⟩
theorem Zed (b N : Nat) (T : List S51) (w : World) (h : TMap w b N T) :
  Calls Tryz.prog 44 #[.map (some b)] w fun e w' => e = .returned (.map (some w.heap.size)) ∧ TMap w' w.heap.size N T ∧ Below w.heap.size w w' := by
 obtain ⟨h0, D, ⟨es, clock, hb, F, hs, hD⟩, h1⟩ := h
 refine (clone_run b es clock w hb).mono fun e w' ⟨he, hw⟩ => ?_
 subst hw
 exact ⟨he, ⟨h0, D, ⟨es, clock, (MapKept.heap_alloc w _).1, F, hs, hD⟩, h1⟩, (Below.refl _ w).alloc (Nat.le_refl _) _⟩
def Tb (w : World) (g N : Nat) (T : List S51) : Prop := ∃ b, w.heap[g]? = some (.cells #[.map (some b)] 75 (0, 0)) ∧ TMap w b N T
theorem wp_put {ops : Array Oper} {rest : List Oper} {o : Oper} {a : Act} {Q : Exit → Act → World → Prop} {W : World} {b N : Nat} {T : List S51} (hg : o.guard = none) (m x v : Operand) (hop : o.op = Op.mapUpdate 73 m x v)
  (hT : TMap W b N T) (hN : N < 1000000) (X : S51) (hX : MayR X) (hm : a.eval m = .map (some b)) (hx : a.eval x = .int .i64 X.f0) (hv : a.eval v = rowV X)
  (hK : ∀ w', TMap w' b (N + 1) (putT X T) → W.grownBy w' (some b) → wpList Tryz.prog ops Q rest (a.put o.dst undef) w') : wpList Tryz.prog ops Q (o :: rest) a W := by
 obtain ⟨h0, D, hown, hD⟩ := hT
 refine wpList_mapUpdate_own W hg m x v 73 hop 3 51 keyed3 Tryz.underlying73 rowR b N D hm hown (by unfold maxLen; omega) _ _ _ hx hv (key_row hX) (rowD X) [] (ZdO X) fun w' h1 h2 => ?_
 refine hK w' ⟨?_, _, h1, hD.put hX ?_⟩ h2
 ·have := ZdA X T
  omega
 ·exact hown.isMap
def addAll : List S51 → List S51 → Option (List S51)
 | T, [] => some T
 | T, x :: l => match findT T x.f0 with
  | some _ => none
  | none => addAll (putT x T) l
def addR (T l : List S51) : List S51 × Int := if l.any (fun x => !decide (MayR x)) then (T, 1) else match addAll T l with
 | none => (T, 16)
 | some T' => (T', 0)
theorem Zax {w w' : World} (h : Below w.heap.size w w') (row : Option Nat) : w.grownBy w' row := ⟨h.os, h.tape, h.output, h.size, fun k hk _ => h.block k hk⟩
theorem ZcM (w : World) (g i : Nat) (v : Value) : w.grownBy (w.setCell ⟨g, i, none⟩ v) (some g) := ⟨rfl, rfl, rfl, by simp [World.setCell], fun k hk hne => Below.heap_setCell w ⟨g, i, none⟩ v k (fun e => hne (by rw [e]))⟩
theorem Zd4 {a b c : World} {row row' : Option Nat} (h : a.grownBy b row) (k : b.grownBy c row') (hr : ∀ j, row' = some j → a.heap.size ≤ j ∨ row = some j) : a.grownBy c row := h.andThen k hr
theorem drop_cons {l : List S51} {k : Nat} (h : k < l.length) : l.drop k = l[k] :: l.drop (k + 1) := List.drop_eq_getElem_cons h
end Go.Proofs.YtpfnaknmalojkaaGreat.PTopRows
