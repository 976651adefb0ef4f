/- YtpfnaknmalojkaaGreatC12: what this claim rests on. Words and contracts are those of the kit's print (print.sh wrote them, those that nothing here reaches are left out); all else is own work. Conditions: what each theorem says. -/
import Derived.Test.YtpfnaknmalojkaaGreatC11
namespace Go.Proofs.YtpfnaknmalojkaaGreat.PTopRows
open Go.RowKit Go.Proofs.YtpfnaknmalojkaaGreatW.PrintWords Go.Proofs.YtpfnaknmalojkaaGreatW.PrintLast Go.Proofs.YtpfnaknmalojkaaGreatW.PrintMore
attribute [local go_sem] Za5 Za4 Zbp Zbo Za7 Za6 Zbl Zbk   -- for this text's walks alone
set_option linter.unusedVariables false
set_option linter.unusedSimpArgs false
def Zba.f (a0_0 : Int) (a0_1 : Int) (a0_2 : Int) (l0_3 : List (S70)) (a0_4 : ByteArray) (a0_5 : ByteArray) : Option (Bool) := if (l0_3.length : Int) ≤ 80 then (if (a0_4.size : Int) ≤ 2000 then (some (decide ((a0_5.size : Int) ≤ 600))) else (if (a0_4.size : Int) > 32768 then (if (a0_4.size : Int) < 40000 then (some (decide ((a0_5.size : Int) ≤ 600))) else (some false)) else (some false))) else (some false)
set_option maxHeartbeats 8000000 in
set_option maxRecDepth 100000 in
theorem Zba.calls (a0_0 : Int) (a0_1 : Int) (a0_2 : Int) (A0_3 : Option Addr) (c0_3 : Nat) (l0_3 : List (S70)) (a0_4 : ByteArray) (a0_5 : ByteArray) (r : Bool) (w : World) (hr0_3 : Kd.C k70 w A0_3 l0_3.length l0_3) (hc0_3 : l0_3.length ≤ c0_3) (h : Zba.f a0_0 a0_1 a0_2 l0_3 a0_4 a0_5 = some r) :
  Calls Tryz.prog 20 #[.agg #[.int .i64 a0_0, .int .i64 a0_1, .int .i64 a0_2, .slice A0_3 l0_3.length c0_3, .string a0_4, .string a0_5]] w fun e w' => e = .returned (.bool r) ∧ Below w.heap.size w w' := by
 have hu63 := Tryz.underlying63
 have HR0_3 := Aside0.mk hr0_3
 have HC0_3 := Aside0.mk hc0_3
 clear hr0_3 hc0_3
 have HB := Aside0.mk (Below.refl w.heap.size w)
 have H : (if (l0_3.length : Int) ≤ 80 then (if (a0_4.size : Int) ≤ 2000 then (some (decide ((a0_5.size : Int) ≤ 600))) else (if (a0_4.size : Int) > 32768 then (if (a0_4.size : Int) < 40000 then (some (decide ((a0_5.size : Int) ≤ 600))) else (some false)) else (some false))) else (some false)) = some r := h
 clear h
 by_cases c2 : (l0_3.length : Int) ≤ 80
 ·rw [if_pos c2] at H
  have c2b0 : decide ((l0_3.length : Int) ≤ 80) = true := decide_eq_true c2
  have c2b1 : decide (l0_3.length ≤ 80) = true := decide_eq_true (by omega)
  clear c2
  by_cases c3 : (a0_4.size : Int) ≤ 2000
  ·rw [if_pos c3] at H
   have c3b0 : decide ((a0_4.size : Int) ≤ 2000) = true := decide_eq_true c3
   have c3b1 : decide (a0_4.size ≤ 2000) = true := decide_eq_true (by omega)
   clear c3
   obtain rfl := Option.some.inj H
   go_enter Tryz.func20, Tryz.ntmps20
   go_wp2_with (first | ((with_reducible refine Zaw (N := 1) rfl ?_); (try (refine Zbw (by rfl) ?_; dsimp only)); refine Zau ?hg (N := 1) ?hd (cs := #[.int .i64 a0_0, .int .i64 a0_1, .int .i64 a0_2, .slice A0_3 l0_3.length c0_3, .string a0_4, .string a0_5]) (t := 63) ?hr ?_; (case hd => rfl); (case hg => rfl); (case hr => first | (go_simp; done) | (go_simp; rfl)); intro gb101 hg w4 hbox hb; have n0_ := Aside0.mk (Zae (by repeat (first | (with_reducible first | exact HB.out | apply Zab | apply Zac | apply Zaf) | exact HB.out)) hb); have n1_ := Aside0.mk (hbox); have n2_ := Aside0.mk ((by rw [hg]; exact (Zai (by repeat (first | (with_reducible first | exact HB.out | apply Zab | apply Zac | apply Zaf) | exact HB.out))) : w.heap.size ≤ gb101)); have n3_ := Aside0.mk ((by rw [hg]; exact (Zai (by repeat (first | (with_reducible first | exact HB.out | apply Zab | apply Zac | apply Zaf) | exact HB.out))) : w.heap.size ≤ gb101)); clear HB; have HB := n0_; have BK101 := n1_; have GW101 := n2_; have GE101 := n3_; clear n0_ n1_ n2_ n3_; clear hb hbox hg; have hcz5_0 : w4.cell? ⟨gb101, 0, none⟩ = some (.int .i64 a0_0) := (Zaa BK101.out 0).trans rfl; have hcz5_1 : w4.cell? ⟨gb101, 1, none⟩ = some (.int .i64 a0_1) := (Zaa BK101.out 1).trans rfl; have hcz5_2 : w4.cell? ⟨gb101, 2, none⟩ = some (.int .i64 a0_2) := (Zaa BK101.out 2).trans rfl; have hcz5_3 : w4.cell? ⟨gb101, 3, none⟩ = some (.slice A0_3 l0_3.length c0_3) := (Zaa BK101.out 3).trans rfl; have hcz5_4 : w4.cell? ⟨gb101, 4, none⟩ = some (.string a0_4) := (Zaa BK101.out 4).trans rfl; have hcz5_5 : w4.cell? ⟨gb101, 5, none⟩ = some (.string a0_5) := (Zaa BK101.out 5).trans rfl; have hfz5_0 := Zad BK101.out 0; have hfz5_1 := Zad BK101.out 1; have hfz5_2 := Zad BK101.out 2; have hfz5_3 := Zad BK101.out 3; have hfz5_4 := Zad BK101.out 4; have hfz5_5 := Zad BK101.out 5))
   go_ret
   exact ⟨by first | rfl | (simp [Zal, Zak] <;> rfl) | (simp [*, Zal, Zak] <;> rfl), by repeat (first | (with_reducible first | exact HB.out | apply Zab | apply Zac | apply Zaf | refine Zaj ?_ GE101.out) | exact HB.out)⟩
  ·rw [if_neg c3] at H
   have c3b0 : decide ((a0_4.size : Int) ≤ 2000) = false := decide_eq_false c3
   have c3b1 : decide (a0_4.size ≤ 2000) = false := decide_eq_false (by omega)
   clear c3
   by_cases c6 : (a0_4.size : Int) > 32768
   ·rw [if_pos c6] at H
    have c6b0 : decide (32768 < (a0_4.size : Int)) = true := decide_eq_true c6
    have c6b1 : decide (32768 < a0_4.size) = true := decide_eq_true (by omega)
    clear c6
    by_cases c7 : (a0_4.size : Int) < 40000
    ·rw [if_pos c7] at H
     have c7b0 : decide ((a0_4.size : Int) < 40000) = true := decide_eq_true c7
     have c7b1 : decide (a0_4.size < 40000) = true := decide_eq_true (by omega)
     clear c7
     obtain rfl := Option.some.inj H
     go_enter Tryz.func20, Tryz.ntmps20
     go_wp2_with (first | ((with_reducible refine Zaw (N := 1) rfl ?_); (try (refine Zbw (by rfl) ?_; dsimp only)); refine Zau ?hg (N := 1) ?hd (cs := #[.int .i64 a0_0, .int .i64 a0_1, .int .i64 a0_2, .slice A0_3 l0_3.length c0_3, .string a0_4, .string a0_5]) (t := 63) ?hr ?_; (case hd => rfl); (case hg => rfl); (case hr => first | (go_simp; done) | (go_simp; rfl)); intro gb101 hg w8 hbox hb; have n0_ := Aside0.mk (Zae (by repeat (first | (with_reducible first | exact HB.out | apply Zab | apply Zac | apply Zaf) | exact HB.out)) hb); have n1_ := Aside0.mk (hbox); have n2_ := Aside0.mk ((by rw [hg]; exact (Zai (by repeat (first | (with_reducible first | exact HB.out | apply Zab | apply Zac | apply Zaf) | exact HB.out))) : w.heap.size ≤ gb101)); have n3_ := Aside0.mk ((by rw [hg]; exact (Zai (by repeat (first | (with_reducible first | exact HB.out | apply Zab | apply Zac | apply Zaf) | exact HB.out))) : w.heap.size ≤ gb101)); clear HB; have HB := n0_; have BK101 := n1_; have GW101 := n2_; have GE101 := n3_; clear n0_ n1_ n2_ n3_; clear hb hbox hg; have hcz9_0 : w8.cell? ⟨gb101, 0, none⟩ = some (.int .i64 a0_0) := (Zaa BK101.out 0).trans rfl; have hcz9_1 : w8.cell? ⟨gb101, 1, none⟩ = some (.int .i64 a0_1) := (Zaa BK101.out 1).trans rfl; have hcz9_2 : w8.cell? ⟨gb101, 2, none⟩ = some (.int .i64 a0_2) := (Zaa BK101.out 2).trans rfl; have hcz9_3 : w8.cell? ⟨gb101, 3, none⟩ = some (.slice A0_3 l0_3.length c0_3) := (Zaa BK101.out 3).trans rfl; have hcz9_4 : w8.cell? ⟨gb101, 4, none⟩ = some (.string a0_4) := (Zaa BK101.out 4).trans rfl; have hcz9_5 : w8.cell? ⟨gb101, 5, none⟩ = some (.string a0_5) := (Zaa BK101.out 5).trans rfl; have hfz9_0 := Zad BK101.out 0; have hfz9_1 := Zad BK101.out 1; have hfz9_2 := Zad BK101.out 2; have hfz9_3 := Zad BK101.out 3; have hfz9_4 := Zad BK101.out 4; have hfz9_5 := Zad BK101.out 5))
     go_ret
     exact ⟨by first | rfl | (simp [Zal, Zak] <;> rfl) | (simp [*, Zal, Zak] <;> rfl), by repeat (first | (with_reducible first | exact HB.out | apply Zab | apply Zac | apply Zaf | refine Zaj ?_ GE101.out) | exact HB.out)⟩
    ·rw [if_neg c7] at H
     have c7b0 : decide ((a0_4.size : Int) < 40000) = false := decide_eq_false c7
     have c7b1 : decide (a0_4.size < 40000) = false := decide_eq_false (by omega)
     clear c7
     obtain rfl := Option.some.inj H
     go_enter Tryz.func20, Tryz.ntmps20
     go_wp2_with (first | ((with_reducible refine Zaw (N := 1) rfl ?_); (try (refine Zbw (by rfl) ?_; dsimp only)); refine Zau ?hg (N := 1) ?hd (cs := #[.int .i64 a0_0, .int .i64 a0_1, .int .i64 a0_2, .slice A0_3 l0_3.length c0_3, .string a0_4, .string a0_5]) (t := 63) ?hr ?_; (case hd => rfl); (case hg => rfl); (case hr => first | (go_simp; done) | (go_simp; rfl)); intro gb101 hg w10 hbox hb; have n0_ := Aside0.mk (Zae (by repeat (first | (with_reducible first | exact HB.out | apply Zab | apply Zac | apply Zaf) | exact HB.out)) hb); have n1_ := Aside0.mk (hbox); have n2_ := Aside0.mk ((by rw [hg]; exact (Zai (by repeat (first | (with_reducible first | exact HB.out | apply Zab | apply Zac | apply Zaf) | exact HB.out))) : w.heap.size ≤ gb101)); have n3_ := Aside0.mk ((by rw [hg]; exact (Zai (by repeat (first | (with_reducible first | exact HB.out | apply Zab | apply Zac | apply Zaf) | exact HB.out))) : w.heap.size ≤ gb101)); clear HB; have HB := n0_; have BK101 := n1_; have GW101 := n2_; have GE101 := n3_; clear n0_ n1_ n2_ n3_; clear hb hbox hg; have hcz11_0 : w10.cell? ⟨gb101, 0, none⟩ = some (.int .i64 a0_0) := (Zaa BK101.out 0).trans rfl; have hcz11_1 : w10.cell? ⟨gb101, 1, none⟩ = some (.int .i64 a0_1) := (Zaa BK101.out 1).trans rfl; have hcz11_2 : w10.cell? ⟨gb101, 2, none⟩ = some (.int .i64 a0_2) := (Zaa BK101.out 2).trans rfl; have hcz11_3 : w10.cell? ⟨gb101, 3, none⟩ = some (.slice A0_3 l0_3.length c0_3) := (Zaa BK101.out 3).trans rfl; have hcz11_4 : w10.cell? ⟨gb101, 4, none⟩ = some (.string a0_4) := (Zaa BK101.out 4).trans rfl; have hcz11_5 : w10.cell? ⟨gb101, 5, none⟩ = some (.string a0_5) := (Zaa BK101.out 5).trans rfl; have hfz11_0 := Zad BK101.out 0; have hfz11_1 := Zad BK101.out 1; have hfz11_2 := Zad BK101.out 2; have hfz11_3 := Zad BK101.out 3; have hfz11_4 := Zad BK101.out 4; have hfz11_5 := Zad BK101.out 5))
     go_ret
     exact ⟨by first | rfl | (simp [Zal, Zak] <;> rfl) | (simp [*, Zal, Zak] <;> rfl), by repeat (first | (with_reducible first | exact HB.out | apply Zab | apply Zac | apply Zaf | refine Zaj ?_ GE101.out) | exact HB.out)⟩
   ·rw [if_neg c6] at H
    have c6b0 : decide (32768 < (a0_4.size : Int)) = false := decide_eq_false c6
    have c6b1 : decide (32768 < a0_4.size) = false := decide_eq_false (by omega)
    clear c6
    obtain rfl := Option.some.inj H
    go_enter Tryz.func20, Tryz.ntmps20
    go_wp2_with (first | ((with_reducible refine Zaw (N := 1) rfl ?_); (try (refine Zbw (by rfl) ?_; dsimp only)); refine Zau ?hg (N := 1) ?hd (cs := #[.int .i64 a0_0, .int .i64 a0_1, .int .i64 a0_2, .slice A0_3 l0_3.length c0_3, .string a0_4, .string a0_5]) (t := 63) ?hr ?_; (case hd => rfl); (case hg => rfl); (case hr => first | (go_simp; done) | (go_simp; rfl)); intro gb101 hg w12 hbox hb; have n0_ := Aside0.mk (Zae (by repeat (first | (with_reducible first | exact HB.out | apply Zab | apply Zac | apply Zaf) | exact HB.out)) hb); have n1_ := Aside0.mk (hbox); have n2_ := Aside0.mk ((by rw [hg]; exact (Zai (by repeat (first | (with_reducible first | exact HB.out | apply Zab | apply Zac | apply Zaf) | exact HB.out))) : w.heap.size ≤ gb101)); have n3_ := Aside0.mk ((by rw [hg]; exact (Zai (by repeat (first | (with_reducible first | exact HB.out | apply Zab | apply Zac | apply Zaf) | exact HB.out))) : w.heap.size ≤ gb101)); clear HB; have HB := n0_; have BK101 := n1_; have GW101 := n2_; have GE101 := n3_; clear n0_ n1_ n2_ n3_; clear hb hbox hg; have hcz13_0 : w12.cell? ⟨gb101, 0, none⟩ = some (.int .i64 a0_0) := (Zaa BK101.out 0).trans rfl; have hcz13_1 : w12.cell? ⟨gb101, 1, none⟩ = some (.int .i64 a0_1) := (Zaa BK101.out 1).trans rfl; have hcz13_2 : w12.cell? ⟨gb101, 2, none⟩ = some (.int .i64 a0_2) := (Zaa BK101.out 2).trans rfl; have hcz13_3 : w12.cell? ⟨gb101, 3, none⟩ = some (.slice A0_3 l0_3.length c0_3) := (Zaa BK101.out 3).trans rfl; have hcz13_4 : w12.cell? ⟨gb101, 4, none⟩ = some (.string a0_4) := (Zaa BK101.out 4).trans rfl; have hcz13_5 : w12.cell? ⟨gb101, 5, none⟩ = some (.string a0_5) := (Zaa BK101.out 5).trans rfl; have hfz13_0 := Zad BK101.out 0; have hfz13_1 := Zad BK101.out 1; have hfz13_2 := Zad BK101.out 2; have hfz13_3 := Zad BK101.out 3; have hfz13_4 := Zad BK101.out 4; have hfz13_5 := Zad BK101.out 5))
    go_ret
    exact ⟨by first | rfl | (simp [Zal, Zak] <;> rfl) | (simp [*, Zal, Zak] <;> rfl), by repeat (first | (with_reducible first | exact HB.out | apply Zab | apply Zac | apply Zaf | refine Zaj ?_ GE101.out) | exact HB.out)⟩
 ·rw [if_neg c2] at H
  have c2b0 : decide ((l0_3.length : Int) ≤ 80) = false := decide_eq_false c2
  have c2b1 : decide (l0_3.length ≤ 80) = false := decide_eq_false (by omega)
  clear c2
  obtain rfl := Option.some.inj H
  go_enter Tryz.func20, Tryz.ntmps20
  go_wp2_with (first | ((with_reducible refine Zaw (N := 1) rfl ?_); (try (refine Zbw (by rfl) ?_; dsimp only)); refine Zau ?hg (N := 1) ?hd (cs := #[.int .i64 a0_0, .int .i64 a0_1, .int .i64 a0_2, .slice A0_3 l0_3.length c0_3, .string a0_4, .string a0_5]) (t := 63) ?hr ?_; (case hd => rfl); (case hg => rfl); (case hr => first | (go_simp; done) | (go_simp; rfl)); intro gb101 hg w14 hbox hb; have n0_ := Aside0.mk (Zae (by repeat (first | (with_reducible first | exact HB.out | apply Zab | apply Zac | apply Zaf) | exact HB.out)) hb); have n1_ := Aside0.mk (hbox); have n2_ := Aside0.mk ((by rw [hg]; exact (Zai (by repeat (first | (with_reducible first | exact HB.out | apply Zab | apply Zac | apply Zaf) | exact HB.out))) : w.heap.size ≤ gb101)); have n3_ := Aside0.mk ((by rw [hg]; exact (Zai (by repeat (first | (with_reducible first | exact HB.out | apply Zab | apply Zac | apply Zaf) | exact HB.out))) : w.heap.size ≤ gb101)); clear HB; have HB := n0_; have BK101 := n1_; have GW101 := n2_; have GE101 := n3_; clear n0_ n1_ n2_ n3_; clear hb hbox hg; have hcz15_0 : w14.cell? ⟨gb101, 0, none⟩ = some (.int .i64 a0_0) := (Zaa BK101.out 0).trans rfl; have hcz15_1 : w14.cell? ⟨gb101, 1, none⟩ = some (.int .i64 a0_1) := (Zaa BK101.out 1).trans rfl; have hcz15_2 : w14.cell? ⟨gb101, 2, none⟩ = some (.int .i64 a0_2) := (Zaa BK101.out 2).trans rfl; have hcz15_3 : w14.cell? ⟨gb101, 3, none⟩ = some (.slice A0_3 l0_3.length c0_3) := (Zaa BK101.out 3).trans rfl; have hcz15_4 : w14.cell? ⟨gb101, 4, none⟩ = some (.string a0_4) := (Zaa BK101.out 4).trans rfl; have hcz15_5 : w14.cell? ⟨gb101, 5, none⟩ = some (.string a0_5) := (Zaa BK101.out 5).trans rfl; have hfz15_0 := Zad BK101.out 0; have hfz15_1 := Zad BK101.out 1; have hfz15_2 := Zad BK101.out 2; have hfz15_3 := Zad BK101.out 3; have hfz15_4 := Zad BK101.out 4; have hfz15_5 := Zad BK101.out 5))
  go_ret
  exact ⟨by first | rfl | (simp [Zal, Zak] <;> rfl) | (simp [*, Zal, Zak] <;> rfl), by repeat (first | (with_reducible first | exact HB.out | apply Zab | apply Zac | apply Zaf | refine Zaj ?_ GE101.out) | exact HB.out)⟩
def Zar.l0 : Nat → List (S70) → Int → Int → Option (Int)
 | 0, _, _, _ => none
 | k + 1, x0, x3, x4 => if x4 < (x0.length : Int) then (if 0 ≤ x4 then (Zar.l0 k x0 (wrap64 (x3 + ((rd_T70 x0 x4).f1))) (wrap64 (x4 + 1))) else (none)) else (some x3)
def Zar.f (k : Nat) (l0 : List (S70)) : Option (Int) := Zar.l0 k l0 0 0
set_option maxHeartbeats 8000000 in
set_option maxRecDepth 100000 in
theorem Zar.calls (k : Nat) (A0 : Option Addr) (c0 : Nat) (l0 : List (S70)) (r : Int) (w : World) (hr0 : Kd.C k70 w A0 l0.length l0) (hc0 : l0.length ≤ c0) (h : Zar.f k l0 = some r) :
  Calls Tryz.prog 23 #[.slice A0 l0.length c0] w fun e w' => e = .returned (.int .i64 r) ∧ Drawn0 w w' := by
 have HR0 := Aside0.mk hr0
 have HC0 := Aside0.mk hc0
 clear hr0 hc0
 have H : (Zar.l0 k l0 0 0) = some r := h
 clear h
 have H' := Aside0.mk H
 clear H
 go_enter Tryz.func23, Tryz.ntmps23
 go_wp2
 go_loopg [3, 4] k (fun kq v3 v4 w' => ∃ (x3_1 : Int) (x4_1 : Int), v3 = .int .i64 x3_1 ∧ v4 = .int .i64 x4_1 ∧ Aside0 (Zar.l0 kq l0 x3_1 x4_1 = some r) ∧ Aside0 (kq ≤ k) ∧ Drawn0 w w')
 case atStart => exact ⟨(0), (0), (by first | rfl | (simp; done) | (simp [*]; done)), (by first | rfl | (simp; done) | (simp [*]; done)), H', ⟨Nat.le_refl _⟩, by repeat (first | exact Drawn0.refl _ | apply Drawn0.step)⟩
 case round =>
  clear H'
  obtain ⟨x3_1, x4_1, rfl, rfl, HA, HK1, ⟨m1, rfl⟩⟩ := hrel
  cases gk with
  | zero => exact absurd HA.out (by simp [Zar.l0])
  | succ k1 =>
   have H := HA.out
   clear HA
   simp only [Zar.l0] at H
   by_cases c2 : x4_1 < (l0.length : Int)
   ·rw [if_pos c2] at H
    have c2b0 : decide (x4_1 < (l0.length : Int)) = true := decide_eq_true c2
    clear c2
    by_cases c3 : 0 ≤ x4_1
    ·rw [if_pos c3] at H
     have c3b0 : decide (0 ≤ x4_1) = true := decide_eq_true c3
     clear c3
     have H' := Aside0.mk H
     clear H
     have p102 : 0 ≤ (x4_1 : Int) := of_decide_eq_true (by first | (with_reducible assumption) | assumption)
     have q102 : x4_1 < (l0.length : Int) := of_decide_eq_true (by first | (with_reducible assumption) | assumption)
     obtain ⟨ad102, e102, hx102_0, hx102_1⟩ := at_T70 HR0.out x4_1 p102 q102
     cases e102
     replace p102 := eq_true p102
     replace q102 := eq_true q102
     go_wp2
     go_roundg k1
     case measure => have := HK1.out; omega
     case rel => exact ⟨(wrap64 (x3_1 + ((rd_T70 l0 x4_1).f1))), (wrap64 (x4_1 + 1)), (by first | rfl | (simp; done) | (simp [*]; done)), (by first | rfl | (simp; done) | (simp [*]; done)), H', ⟨by have := HK1.out; omega⟩, by repeat (first | exact Drawn0.refl _ | apply Drawn0.step)⟩
    ·rw [if_neg c3] at H
     exact absurd H (by simp)
   ·rw [if_neg c2] at H
    have c2b0 : decide (x4_1 < (l0.length : Int)) = false := decide_eq_false c2
    clear c2
    obtain rfl := Option.some.inj H
    go_wp2
    go_ret
    exact ⟨by first | rfl | (simp; done) | (simp [*]; done), by repeat (first | exact Drawn0.refl _ | apply Drawn0.step)⟩
def ZaY.f (a0_0 : Int) (a0_1 : Int) : Option (Bool) := if a0_0 ≥ 0 then (if a0_0 ≤ 65536 then (if a0_1 ≥ 1 then (if a0_1 ≤ 65536 then (some (decide ((wrap64 (a0_0 + a0_1)) ≤ 65536))) else (some false)) else (some false)) else (some false)) else (some false)
set_option maxHeartbeats 8000000 in
set_option maxRecDepth 100000 in
theorem ZaY.calls (a0_0 : Int) (a0_1 : Int) (r : Bool) (w : World) (h : ZaY.f a0_0 a0_1 = some r) :
  Calls Tryz.prog 102 #[.agg #[.int .i64 a0_0, .int .i64 a0_1]] w fun e w' => e = .returned (.bool r) ∧ Below w.heap.size w w' := by
 have hu70 := Tryz.underlying70
 have HB := Aside0.mk (Below.refl w.heap.size w)
 have H : (if a0_0 ≥ 0 then (if a0_0 ≤ 65536 then (if a0_1 ≥ 1 then (if a0_1 ≤ 65536 then (some (decide ((wrap64 (a0_0 + a0_1)) ≤ 65536))) else (some false)) else (some false)) else (some false)) else (some false)) = some r := h
 clear h
 by_cases c2 : a0_0 ≥ 0
 ·rw [if_pos c2] at H
  have c2b0 : decide (0 ≤ a0_0) = true := decide_eq_true c2
  clear c2
  by_cases c3 : a0_0 ≤ 65536
  ·rw [if_pos c3] at H
   have c3b0 : decide (a0_0 ≤ 65536) = true := decide_eq_true c3
   clear c3
   by_cases c4 : a0_1 ≥ 1
   ·rw [if_pos c4] at H
    have c4b0 : decide (1 ≤ a0_1) = true := decide_eq_true c4
    clear c4
    by_cases c5 : a0_1 ≤ 65536
    ·rw [if_pos c5] at H
     have c5b0 : decide (a0_1 ≤ 65536) = true := decide_eq_true c5
     clear c5
     obtain rfl := Option.some.inj H
     go_enter Tryz.func102, Tryz.ntmps102
     go_wp2_with (first | ((with_reducible refine Zaw (N := 1) rfl ?_); refine Zau ?hg (N := 1) ?hd (cs := #[.int .i64 a0_0, .int .i64 a0_1]) (t := 70) ?hr ?_; (case hd => rfl); (case hg => rfl); (case hr => first | (go_simp; done) | (go_simp; rfl)); intro gb103 hg w6 hbox hb; have n0_ := Aside0.mk (Zae (by repeat (first | (with_reducible first | exact HB.out | apply Zab | apply Zac | apply Zaf) | exact HB.out)) hb); have n1_ := Aside0.mk (hbox); have n2_ := Aside0.mk ((by rw [hg]; exact (Zai (by repeat (first | (with_reducible first | exact HB.out | apply Zab | apply Zac | apply Zaf) | exact HB.out))) : w.heap.size ≤ gb103)); have n3_ := Aside0.mk ((by rw [hg]; exact (Zai (by repeat (first | (with_reducible first | exact HB.out | apply Zab | apply Zac | apply Zaf) | exact HB.out))) : w.heap.size ≤ gb103)); clear HB; have HB := n0_; have BK103 := n1_; have GW103 := n2_; have GE103 := n3_; clear n0_ n1_ n2_ n3_; clear hb hbox hg; have hcz7_0 : w6.cell? ⟨gb103, 0, none⟩ = some (.int .i64 a0_0) := (Zaa BK103.out 0).trans rfl; have hcz7_1 : w6.cell? ⟨gb103, 1, none⟩ = some (.int .i64 a0_1) := (Zaa BK103.out 1).trans rfl; have hfz7_0 := Zad BK103.out 0; have hfz7_1 := Zad BK103.out 1))
     go_ret
     exact ⟨by first | rfl | (simp [Zal, Zak] <;> rfl) | (simp [*, Zal, Zak] <;> rfl), by repeat (first | (with_reducible first | exact HB.out | apply Zab | apply Zac | apply Zaf | refine Zaj ?_ GE103.out) | exact HB.out)⟩
    ·rw [if_neg c5] at H
     have c5b0 : decide (a0_1 ≤ 65536) = false := decide_eq_false c5
     clear c5
     obtain rfl := Option.some.inj H
     go_enter Tryz.func102, Tryz.ntmps102
     go_wp2_with (first | ((with_reducible refine Zaw (N := 1) rfl ?_); refine Zau ?hg (N := 1) ?hd (cs := #[.int .i64 a0_0, .int .i64 a0_1]) (t := 70) ?hr ?_; (case hd => rfl); (case hg => rfl); (case hr => first | (go_simp; done) | (go_simp; rfl)); intro gb103 hg w8 hbox hb; have n0_ := Aside0.mk (Zae (by repeat (first | (with_reducible first | exact HB.out | apply Zab | apply Zac | apply Zaf) | exact HB.out)) hb); have n1_ := Aside0.mk (hbox); have n2_ := Aside0.mk ((by rw [hg]; exact (Zai (by repeat (first | (with_reducible first | exact HB.out | apply Zab | apply Zac | apply Zaf) | exact HB.out))) : w.heap.size ≤ gb103)); have n3_ := Aside0.mk ((by rw [hg]; exact (Zai (by repeat (first | (with_reducible first | exact HB.out | apply Zab | apply Zac | apply Zaf) | exact HB.out))) : w.heap.size ≤ gb103)); clear HB; have HB := n0_; have BK103 := n1_; have GW103 := n2_; have GE103 := n3_; clear n0_ n1_ n2_ n3_; clear hb hbox hg; have hcz9_0 : w8.cell? ⟨gb103, 0, none⟩ = some (.int .i64 a0_0) := (Zaa BK103.out 0).trans rfl; have hcz9_1 : w8.cell? ⟨gb103, 1, none⟩ = some (.int .i64 a0_1) := (Zaa BK103.out 1).trans rfl; have hfz9_0 := Zad BK103.out 0; have hfz9_1 := Zad BK103.out 1))
     go_ret
     exact ⟨by first | rfl | (simp [Zal, Zak] <;> rfl) | (simp [*, Zal, Zak] <;> rfl), by repeat (first | (with_reducible first | exact HB.out | apply Zab | apply Zac | apply Zaf | refine Zaj ?_ GE103.out) | exact HB.out)⟩
   ·rw [if_neg c4] at H
    have c4b0 : decide (1 ≤ a0_1) = false := decide_eq_false c4
    clear c4
    obtain rfl := Option.some.inj H
    go_enter Tryz.func102, Tryz.ntmps102
    go_wp2_with (first | ((with_reducible refine Zaw (N := 1) rfl ?_); refine Zau ?hg (N := 1) ?hd (cs := #[.int .i64 a0_0, .int .i64 a0_1]) (t := 70) ?hr ?_; (case hd => rfl); (case hg => rfl); (case hr => first | (go_simp; done) | (go_simp; rfl)); intro gb103 hg w10 hbox hb; have n0_ := Aside0.mk (Zae (by repeat (first | (with_reducible first | exact HB.out | apply Zab | apply Zac | apply Zaf) | exact HB.out)) hb); have n1_ := Aside0.mk (hbox); have n2_ := Aside0.mk ((by rw [hg]; exact (Zai (by repeat (first | (with_reducible first | exact HB.out | apply Zab | apply Zac | apply Zaf) | exact HB.out))) : w.heap.size ≤ gb103)); have n3_ := Aside0.mk ((by rw [hg]; exact (Zai (by repeat (first | (with_reducible first | exact HB.out | apply Zab | apply Zac | apply Zaf) | exact HB.out))) : w.heap.size ≤ gb103)); clear HB; have HB := n0_; have BK103 := n1_; have GW103 := n2_; have GE103 := n3_; clear n0_ n1_ n2_ n3_; clear hb hbox hg; have hcz11_0 : w10.cell? ⟨gb103, 0, none⟩ = some (.int .i64 a0_0) := (Zaa BK103.out 0).trans rfl; have hcz11_1 : w10.cell? ⟨gb103, 1, none⟩ = some (.int .i64 a0_1) := (Zaa BK103.out 1).trans rfl; have hfz11_0 := Zad BK103.out 0; have hfz11_1 := Zad BK103.out 1))
    go_ret
    exact ⟨by first | rfl | (simp [Zal, Zak] <;> rfl) | (simp [*, Zal, Zak] <;> rfl), by repeat (first | (with_reducible first | exact HB.out | apply Zab | apply Zac | apply Zaf | refine Zaj ?_ GE103.out) | exact HB.out)⟩
  ·rw [if_neg c3] at H
   have c3b0 : decide (a0_0 ≤ 65536) = false := decide_eq_false c3
   clear c3
   obtain rfl := Option.some.inj H
   go_enter Tryz.func102, Tryz.ntmps102
   go_wp2_with (first | ((with_reducible refine Zaw (N := 1) rfl ?_); refine Zau ?hg (N := 1) ?hd (cs := #[.int .i64 a0_0, .int .i64 a0_1]) (t := 70) ?hr ?_; (case hd => rfl); (case hg => rfl); (case hr => first | (go_simp; done) | (go_simp; rfl)); intro gb103 hg w12 hbox hb; have n0_ := Aside0.mk (Zae (by repeat (first | (with_reducible first | exact HB.out | apply Zab | apply Zac | apply Zaf) | exact HB.out)) hb); have n1_ := Aside0.mk (hbox); have n2_ := Aside0.mk ((by rw [hg]; exact (Zai (by repeat (first | (with_reducible first | exact HB.out | apply Zab | apply Zac | apply Zaf) | exact HB.out))) : w.heap.size ≤ gb103)); have n3_ := Aside0.mk ((by rw [hg]; exact (Zai (by repeat (first | (with_reducible first | exact HB.out | apply Zab | apply Zac | apply Zaf) | exact HB.out))) : w.heap.size ≤ gb103)); clear HB; have HB := n0_; have BK103 := n1_; have GW103 := n2_; have GE103 := n3_; clear n0_ n1_ n2_ n3_; clear hb hbox hg; have hcz13_0 : w12.cell? ⟨gb103, 0, none⟩ = some (.int .i64 a0_0) := (Zaa BK103.out 0).trans rfl; have hcz13_1 : w12.cell? ⟨gb103, 1, none⟩ = some (.int .i64 a0_1) := (Zaa BK103.out 1).trans rfl; have hfz13_0 := Zad BK103.out 0; have hfz13_1 := Zad BK103.out 1))
   go_ret
   exact ⟨by first | rfl | (simp [Zal, Zak] <;> rfl) | (simp [*, Zal, Zak] <;> rfl), by repeat (first | (with_reducible first | exact HB.out | apply Zab | apply Zac | apply Zaf | refine Zaj ?_ GE103.out) | exact HB.out)⟩
 ·rw [if_neg c2] at H
  have c2b0 : decide (0 ≤ a0_0) = false := decide_eq_false c2
  clear c2
  obtain rfl := Option.some.inj H
  go_enter Tryz.func102, Tryz.ntmps102
  go_wp2_with (first | ((with_reducible refine Zaw (N := 1) rfl ?_); refine Zau ?hg (N := 1) ?hd (cs := #[.int .i64 a0_0, .int .i64 a0_1]) (t := 70) ?hr ?_; (case hd => rfl); (case hg => rfl); (case hr => first | (go_simp; done) | (go_simp; rfl)); intro gb103 hg w14 hbox hb; have n0_ := Aside0.mk (Zae (by repeat (first | (with_reducible first | exact HB.out | apply Zab | apply Zac | apply Zaf) | exact HB.out)) hb); have n1_ := Aside0.mk (hbox); have n2_ := Aside0.mk ((by rw [hg]; exact (Zai (by repeat (first | (with_reducible first | exact HB.out | apply Zab | apply Zac | apply Zaf) | exact HB.out))) : w.heap.size ≤ gb103)); have n3_ := Aside0.mk ((by rw [hg]; exact (Zai (by repeat (first | (with_reducible first | exact HB.out | apply Zab | apply Zac | apply Zaf) | exact HB.out))) : w.heap.size ≤ gb103)); clear HB; have HB := n0_; have BK103 := n1_; have GW103 := n2_; have GE103 := n3_; clear n0_ n1_ n2_ n3_; clear hb hbox hg; have hcz15_0 : w14.cell? ⟨gb103, 0, none⟩ = some (.int .i64 a0_0) := (Zaa BK103.out 0).trans rfl; have hcz15_1 : w14.cell? ⟨gb103, 1, none⟩ = some (.int .i64 a0_1) := (Zaa BK103.out 1).trans rfl; have hfz15_0 := Zad BK103.out 0; have hfz15_1 := Zad BK103.out 1))
  go_ret
  exact ⟨by first | rfl | (simp [Zal, Zak] <;> rfl) | (simp [*, Zal, Zak] <;> rfl), by repeat (first | (with_reducible first | exact HB.out | apply Zab | apply Zac | apply Zaf | refine Zaj ?_ GE103.out) | exact HB.out)⟩
def Zat.l0 : Nat → List (S70) → Int → Option (Bool)
 | 0, _, _ => none
 | k + 1, x0, x3 => if x3 < (x0.length : Int) then (if 0 ≤ x3 then ((ZaY.f ((rd_T70 x0 x3).f0) ((rd_T70 x0 x3).f1)).bind fun t105 => (if t105 = true then (Zat.l0 k x0 (wrap64 (x3 + 1))) else (some false))) else (none)) else (some true)
def Zat.f (k : Nat) (l0 : List (S70)) : Option (Bool) := Zat.l0 k l0 0
set_option maxHeartbeats 8000000 in
set_option maxRecDepth 100000 in
theorem Zat.calls (k : Nat) (A0 : Option Addr) (c0 : Nat) (l0 : List (S70)) (r : Bool) (w : World) (hr0 : Kd.C k70 w A0 l0.length l0) (hc0 : l0.length ≤ c0) (h : Zat.f k l0 = some r) :
  Calls Tryz.prog 57 #[.slice A0 l0.length c0] w fun e w' => e = .returned (.bool r) ∧ Below w.heap.size w w' := by
 have hu70 := Tryz.underlying70
 have HR0 := Aside0.mk hr0
 have HC0 := Aside0.mk hc0
 clear hr0 hc0
 have HB := Aside0.mk (Below.refl w.heap.size w)
 have H : (Zat.l0 k l0 0) = some r := h
 clear h
 have H' := Aside0.mk H
 clear H
 go_enter Tryz.func57, Tryz.ntmps57
 go_wp2
 go_loopg [3] k (fun kq v3 w' => ∃ (x3_1 : Int), v3 = .int .i64 x3_1 ∧ Aside0 (Zat.l0 kq l0 x3_1 = some r) ∧ Aside0 (kq ≤ k) ∧ Aside0 (Below w.heap.size w w'))
 case atStart => exact ⟨(0), (by first | rfl | (simp; done) | (simp [*]; done)), H', ⟨Nat.le_refl _⟩, ⟨by repeat (first | (with_reducible first | exact HB.out | apply Zab | apply Zac | apply Zaf) | exact HB.out)⟩⟩
 case round =>
  clear H'
  obtain ⟨x3_1, rfl, HA, HK1, HB⟩ := hrel
  cases gk with
  | zero => exact absurd HA.out (by simp [Zat.l0])
  | succ k1 =>
   have H := HA.out
   clear HA
   simp only [Zat.l0] at H
   by_cases c2 : x3_1 < (l0.length : Int)
   ·rw [if_pos c2] at H
    have c2b0 : decide (x3_1 < (l0.length : Int)) = true := decide_eq_true c2
    clear c2
    by_cases c3 : 0 ≤ x3_1
    ·rw [if_pos c3] at H
     have c3b0 : decide (0 ≤ x3_1) = true := decide_eq_true c3
     clear c3
     replace H := Option.bind_eq_some_iff.mp H
     obtain ⟨t105, A40, H⟩ := H
     replace H : (if t105 = true then (Zat.l0 k1 l0 (wrap64 (x3_1 + 1))) else (some false)) = some r := H
     have A4 := Aside0.mk A40
     clear A40
     by_cases c5 : t105 = true
     ·subst c5
      have H1 : (Zat.l0 k1 l0 (wrap64 (x3_1 + 1))) = some r := by rw [if_pos rfl] at H; exact H
      clear H
      have H := H1
      clear H1
      have H' := Aside0.mk H
      clear H
      have p104 : 0 ≤ (x3_1 : Int) := of_decide_eq_true (by first | (with_reducible assumption) | assumption)
      have q104 : x3_1 < (l0.length : Int) := of_decide_eq_true (by first | (with_reducible assumption) | assumption)
      obtain ⟨ad104, e104, hx104_0, hx104_1⟩ := at_T70 HR0.out x3_1 p104 q104
      cases e104
      replace hx104_0 := (HB.out.cell (World.block_lt_of_cell? w _ hx104_0)).trans hx104_0
      replace hx104_1 := (HB.out.cell (World.block_lt_of_cell? w _ hx104_1)).trans hx104_1
      replace p104 := eq_true p104
      replace q104 := eq_true q104
      go_wp2_with (first | ((with_reducible refine Zaz (f := 102) rfl ?_); refine goesL_ (some 14) rfl rfl Tryz.func102 (by kernel_rfl) rfl #[.agg #[.int .i64 ((rd_T70 l0 x3_1).f0), .int .i64 ((rd_T70 l0 x3_1).f1)]] rfl (by (try simp only [List.map_toArray, List.map_cons, List.map_nil]); first | done | rfl | (simp only [List.length_drop, List.length_take]; rfl)) ?_; (with_reducible refine (ZaY.calls ((rd_T70 l0 x3_1).f0) ((rd_T70 l0 x3_1).f1) true _ A4.out).mono ?_); rintro e w6 ⟨rfl, hb⟩; refine ⟨_, rfl, ?_⟩; have n0_ := Aside0.mk (Zae (by repeat (first | (with_reducible first | exact HB.out | apply Zab | apply Zac | apply Zaf) | exact HB.out)) hb); clear HB; have HB := n0_; clear n0_; (try clear hb); (try clear hb2); (try clear hk); (try clear hi)))
      go_roundg k1
      case measure => have := HK1.out; omega
      case rel => exact ⟨(wrap64 (x3_1 + 1)), (by first | rfl | (simp; done) | (simp [*]; done)), H', ⟨by have := HK1.out; omega⟩, ⟨by repeat (first | (with_reducible first | exact HB.out | apply Zab | apply Zac | apply Zaf) | exact HB.out)⟩⟩
     ·replace c5 := Bool.eq_false_iff.mpr c5
      subst c5
      have H1 : (some false) = some r := by rw [if_neg (show ¬ (false = true) by decide)] at H; exact H
      clear H
      have H := H1
      clear H1
      obtain rfl := Option.some.inj H
      have p104 : 0 ≤ (x3_1 : Int) := of_decide_eq_true (by first | (with_reducible assumption) | assumption)
      have q104 : x3_1 < (l0.length : Int) := of_decide_eq_true (by first | (with_reducible assumption) | assumption)
      obtain ⟨ad104, e104, hx104_0, hx104_1⟩ := at_T70 HR0.out x3_1 p104 q104
      cases e104
      replace hx104_0 := (HB.out.cell (World.block_lt_of_cell? w _ hx104_0)).trans hx104_0
      replace hx104_1 := (HB.out.cell (World.block_lt_of_cell? w _ hx104_1)).trans hx104_1
      replace p104 := eq_true p104
      replace q104 := eq_true q104
      go_wp2_with (first | ((with_reducible refine Zaz (f := 102) rfl ?_); refine goesL_ (some 14) rfl rfl Tryz.func102 (by kernel_rfl) rfl #[.agg #[.int .i64 ((rd_T70 l0 x3_1).f0), .int .i64 ((rd_T70 l0 x3_1).f1)]] rfl (by (try simp only [List.map_toArray, List.map_cons, List.map_nil]); first | done | rfl | (simp only [List.length_drop, List.length_take]; rfl)) ?_; (with_reducible refine (ZaY.calls ((rd_T70 l0 x3_1).f0) ((rd_T70 l0 x3_1).f1) false _ A4.out).mono ?_); rintro e w7 ⟨rfl, hb⟩; refine ⟨_, rfl, ?_⟩; have n0_ := Aside0.mk (Zae (by repeat (first | (with_reducible first | exact HB.out | apply Zab | apply Zac | apply Zaf) | exact HB.out)) hb); clear HB; have HB := n0_; clear n0_; (try clear hb); (try clear hb2); (try clear hk); (try clear hi)))
      go_ret
      exact ⟨by first | rfl | (simp [Zal, Zak] <;> rfl) | (simp [*, Zal, Zak] <;> rfl), by repeat (first | (with_reducible first | exact HB.out | apply Zab | apply Zac | apply Zaf) | exact HB.out)⟩
    ·rw [if_neg c3] at H
     exact absurd H (by simp)
   ·rw [if_neg c2] at H
    have c2b0 : decide (x3_1 < (l0.length : Int)) = false := decide_eq_false c2
    clear c2
    obtain rfl := Option.some.inj H
    go_wp2
    go_ret
    exact ⟨by first | rfl | (simp [Zal, Zak] <;> rfl) | (simp [*, Zal, Zak] <;> rfl), by repeat (first | (with_reducible first | exact HB.out | apply Zab | apply Zac | apply Zaf) | exact HB.out)⟩
end Go.Proofs.YtpfnaknmalojkaaGreat.PTopRows
