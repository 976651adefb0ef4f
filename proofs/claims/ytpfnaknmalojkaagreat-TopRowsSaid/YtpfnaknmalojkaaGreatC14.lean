/- YtpfnaknmalojkaaGreatC14: what this claim rests on. Words and contracts are those of the kit's print (print.sh wrote them, those that nothing here reaches are left out); all else is own work. Conditions: what each theorem says. -/
import Derived.Test.YtpfnaknmalojkaaGreatC13
import Derived.Deep.OwnRows
namespace Go.Proofs.YtpfnaknmalojkaaGreat.PTopRows
open Go.RowKit Go.Maps Go.Sort Go.Proofs.YtpfnaknmalojkaaGreatW.PrintWords Go.Proofs.YtpfnaknmalojkaaGreatW.PrintLast Go.Proofs.YtpfnaknmalojkaaGreatW.PrintMore
set_option linter.unusedVariables false
set_option linter.unusedSimpArgs false
theorem refMay_f (x : S70) : ∃ b, ZaY.f x.f0 x.f1 = some b ∧ (b = true ↔ MayS x) := by
 unfold ZaY.f MayS
 by_cases h1 : x.f0 ≥ 0
 ·by_cases h2 : x.f0 ≤ 65536
  ·by_cases h3 : x.f1 ≥ 1
   ·by_cases h4 : x.f1 ≤ 65536
    ·refine ⟨_, by rw [if_pos h1, if_pos h2, if_pos h3, if_pos h4], ?_⟩
     rw [ZaH _ (by omega), decide_eq_true_eq]
     omega
    ·exact ⟨false, by rw [if_pos h1, if_pos h2, if_pos h3, if_neg h4], by simp; omega⟩
   ·exact ⟨false, by rw [if_pos h1, if_pos h2, if_neg h3], by simp; omega⟩
  ·exact ⟨false, by rw [if_pos h1, if_neg h2], by simp; omega⟩
 ·exact ⟨false, by rw [if_neg h1], by simp; omega⟩
theorem refAll_l0 (S : List S70) (hl : S.length ≤ 1000) : ∀ (d k i : Nat), i + d = S.length → d < k → ∃ b, Zat.l0 k S (i : Int) = some b ∧ (b = true ↔ ∀ x ∈ S.drop i, MayS x)
 | 0, k, i, h, hk => by
  obtain ⟨q, rfl⟩ : ∃ q, k = q + 1 := ⟨k - 1, by omega⟩
  refine ⟨true, by unfold Zat.l0; rw [if_neg (by omega)], ?_⟩
  rw [List.drop_of_length_le (by omega)]
  simp
 | d + 1, k, i, h, hk => by
  obtain ⟨q, rfl⟩ : ∃ q, k = q + 1 := ⟨k - 1, by omega⟩
  have hi : i < S.length := by omega
  obtain ⟨b, hb, hbm⟩ := refMay_f S[i]
  obtain ⟨c, hc, hcm⟩ := refAll_l0 S hl d q (i + 1) (by omega) (by omega)
  rw [List.drop_eq_getElem_cons hi]
  cases b with
  | true =>
   refine ⟨c, ?_, ?_⟩
   ·unfold Zat.l0
    rw [if_pos (by omega), if_pos (by omega), Zcj hi, hb, Option.bind_some, if_pos rfl, ZaH _ (by omega)]
    exact hc
   ·rw [hcm, List.forall_mem_cons]
    exact ⟨fun h => ⟨hbm.1 rfl, h⟩, fun h => h.2⟩
  | false =>
   refine ⟨false, ?_, ?_⟩
   ·unfold Zat.l0
    rw [if_pos (by omega), if_pos (by omega), Zcj hi, hb, Option.bind_some, if_neg (by simp)]
   ·have h3 : ¬ MayS S[i] := fun h => by have := hbm.2 h; simp at this
    rw [List.forall_mem_cons]
    exact ⟨fun h => by simp at h, fun h => absurd h.1 h3⟩
theorem refAll_f (S : List S70) (hl : S.length ≤ 1000) (k : Nat) (hk : S.length < k) : ∃ b, Zat.f k S = some b ∧ (b = true ↔ ∀ x ∈ S, MayS x) := by
 obtain ⟨b, h1, h2⟩ := refAll_l0 S hl S.length k 0 (by omega) hk
 exact ⟨b, h1, by rw [h2, List.drop_zero]⟩
theorem ZdP (S : List S70) (hl : S.length ≤ 1000) : ∀ (d k i : Nat) (acc : Int), i + d = S.length → d < k → ∃ t, Zar.l0 k S acc (i : Int) = some t ∧ ((∀ x ∈ S, MayS x) → 0 ≤ acc → acc ≤ 65536 * (i : Int) → t = acc + totS (S.drop i))
 | 0, k, i, acc, h, hk => by
  obtain ⟨q, rfl⟩ : ∃ q, k = q + 1 := ⟨k - 1, by omega⟩
  refine ⟨acc, by unfold Zar.l0; rw [if_neg (by omega)], fun _ _ _ => ?_⟩
  rw [List.drop_of_length_le (by omega)]
  show acc = acc + 0
  omega
 | d + 1, k, i, acc, h, hk => by
  obtain ⟨q, rfl⟩ : ∃ q, k = q + 1 := ⟨k - 1, by omega⟩
  have hi : i < S.length := by omega
  obtain ⟨t, ht, hm⟩ := ZdP S hl d q (i + 1) (wrap64 (acc + S[i].f1)) (by omega) (by omega)
  refine ⟨t, ?_, fun hM h0 h1 => ?_⟩
  ·unfold Zar.l0
   rw [if_pos (by omega), if_pos (by omega), Zcj hi, ZaH ((i : Int) + 1) (by omega)]
   exact ht
  ·have hx := hM S[i] (List.getElem_mem hi)
   have hxs : 1 ≤ S[i].f1 ∧ S[i].f1 ≤ 65536 := ⟨hx.2.1, by have := hx.1; have := hx.2.2; omega⟩
   rw [ZaH (acc + S[i].f1) (by omega)] at hm
   rw [hm hM (by omega) (by omega), ZcQ hi]
   omega
theorem Zc2 (S : List S70) (hl : S.length ≤ 1000) (k : Nat) (hk : S.length < k) : ∃ t, Zar.f k S = some t ∧ ((∀ x ∈ S, MayS x) → t = totS S) := by
 obtain ⟨t, h1, h2⟩ := ZdP S hl S.length k 0 0 (by omega) hk
 exact ⟨t, h1, fun hM => by rw [h2 hM (by omega) (by omega), List.drop_zero]; omega⟩
theorem refJ2 (b : Bool) (ep nb kd : Int) (S : List S70) (dt tx : ByteArray) (k : Nat) (hl : S.length ≤ 80) (hk : 100 < k) :
  ∃ r, Zah.j2 k b ep nb kd S dt tx = some r ∧ (r = 0 → b = false ∧ (kd = 1 → (∀ x ∈ S, MayS x) → (dt.size : Int) = 64 * totS S)) := by
 obtain ⟨q, rfl⟩ : ∃ q, k = q + 1 := ⟨k - 1, by omega⟩
 unfold Zah.j2
 dsimp only
 cases b with
 | true => exact ⟨1, by rw [if_pos rfl], fun h => by omega⟩
 | false =>
  rw [if_neg (by simp)]
  by_cases h1 : kd = 1
  ·rw [if_pos h1]
   obtain ⟨t, ht, hm⟩ := Zc2 S (by omega) q (by omega)
   rw [ht, Option.bind_some]
   by_cases h2 : (dt.size : Int) = wrap64 (64 * t)
   ·refine ⟨0, by rw [if_pos h2], fun _ => ⟨rfl, fun _ hM => ?_⟩⟩
    have h3 := ZcK S hM
    have h4 : totS S ≤ 65536 * 80 := by
     have : ∀ (l : List S70), (∀ x ∈ l, MayS x) → totS l ≤ 65536 * (l.length : Int) := fun l => by
      induction l with
      | nil => intro _; exact Int.le_refl _
      | cons x l ih =>
       intro h
       have h1 := ih fun y hy => h y (by simp [hy])
       have h2 := h x (by simp)
       have h3 := h2.1
       have h4 := h2.2.2
       rw [Zby, List.length_cons]
       omega
     have := this S hM
     omega
    have h5 := Zbg hM
    rw [h2, hm hM, ZaH _ (by omega)]
   ·exact ⟨30, by rw [if_neg h2], fun h => by omega⟩
  ·exact ⟨0, by rw [if_neg h1], fun _ => ⟨rfl, fun h => absurd h h1⟩⟩
structure Pass (kd : Int) (S : List S70) (dt tx : ByteArray) : Prop where
 some : 1 ≤ S.length
 text : tx.toList = []
 cut : kd = 2 → dt.toList = []
 may : ∀ x ∈ S, MayS x
 data : kd = 1 → (dt.size : Int) = 64 * totS S
theorem refJ1 (b : Bool) (ep nb kd : Int) (S : List S70) (dt tx : ByteArray) (k : Nat) (hl : S.length ≤ 80) (hk : 101 < k) :
  ∃ r, Zah.j1 k b ep nb kd S dt tx = some r ∧ (r = 0 → b = false ∧ (kd ≠ 3 → Pass kd S dt tx)) := by
 obtain ⟨q, rfl⟩ : ∃ q, k = q + 1 := ⟨k - 1, by omega⟩
 have bad : ∃ r, Zah.j2 q true ep nb kd S dt tx = some r ∧ (r = 0 → False) := by
  obtain ⟨r, h1, h2⟩ := refJ2 true ep nb kd S dt tx q hl (by omega)
  exact ⟨r, h1, fun h => by have := (h2 h).1; simp at this⟩
 obtain ⟨rb, hrb, hbad⟩ := bad
 unfold Zah.j1
 dsimp only
 cases b with
 | true => exact ⟨14, by rw [if_pos rfl], fun h => by omega⟩
 | false =>
  rw [if_neg (by simp)]
  by_cases h3 : kd = 3
  ·rw [if_pos h3]
   by_cases h4 : (S.length : Int) > 0
   ·exact ⟨1, by rw [if_pos h4], fun h => by omega⟩
   ·rw [if_neg h4]
    by_cases h5 : dt.toList = ([] : List UInt8)
    ·rw [if_pos h5]
     by_cases h6 : (tx.size : Int) > 512
     ·exact ⟨1, by rw [if_pos h6], fun h => by omega⟩
     ·exact ⟨0, by rw [if_neg h6], fun _ => ⟨rfl, fun h => absurd h3 h⟩⟩
    ·exact ⟨1, by rw [if_neg h5], fun h => by omega⟩
  ·rw [if_neg h3]
   by_cases h4 : (S.length : Int) < 1
   ·exact ⟨rb, by rw [if_pos h4]; exact hrb, fun h => (hbad h).elim⟩
   ·rw [if_neg h4]
    by_cases h5 : (S.length : Int) > 64
    ·exact ⟨rb, by rw [if_pos h5]; exact hrb, fun h => (hbad h).elim⟩
    ·rw [if_neg h5]
     by_cases h6 : tx.toList = ([] : List UInt8)
     ·rw [if_pos h6]
      obtain ⟨al, hal, ham⟩ := refAll_f S (by omega) q (by omega)
      obtain ⟨t, ht, _⟩ := Zc2 S (by omega) q (by omega)
      have fin : ∀ c, (kd = 2 → dt.toList = []) → (∀ x ∈ S, MayS x) → ∃ r, Zah.j2 q c ep nb kd S dt tx = some r ∧ (r = 0 → false = false ∧ (kd ≠ 3 → Pass kd S dt tx)) := fun c hd hM => by
       obtain ⟨r, h1, h2⟩ := refJ2 c ep nb kd S dt tx q hl (by omega)
       exact ⟨r, h1, fun h => ⟨rfl, fun _ => ⟨by omega, h6, hd, hM, fun hk1 => (h2 h).2 hk1 hM⟩⟩⟩
      by_cases h7 : kd = 2
      ·rw [if_pos h7]
       by_cases h8 : dt.toList = ([] : List UInt8)
       ·rw [if_pos h8, hal, Option.bind_some]
        cases al with
        | true =>
         rw [if_pos rfl, if_neg (by omega)]
         exact fin false (fun _ => h8) (ham.1 rfl)
        | false => exact ⟨rb, by rw [if_neg (by simp)]; exact hrb, fun h => (hbad h).elim⟩
       ·exact ⟨rb, by rw [if_neg h8]; exact hrb, fun h => (hbad h).elim⟩
      ·rw [if_neg h7, hal, Option.bind_some]
       cases al with
       | true =>
        rw [if_pos rfl]
        by_cases h8 : kd = 1
        ·rw [if_pos h8, ht, Option.bind_some]
         exact fin _ (fun h => absurd h h7) (ham.1 rfl)
        ·rw [if_neg h8]
         exact fin _ (fun h => absurd h h7) (ham.1 rfl)
       | false => exact ⟨rb, by rw [if_neg (by simp)]; exact hrb, fun h => (hbad h).elim⟩
     ·exact ⟨rb, by rw [if_neg h6]; exact hrb, fun h => (hbad h).elim⟩
theorem refJ0 (b : Bool) (ep nb kd : Int) (S : List S70) (dt tx : ByteArray) (k : Nat) (hl : S.length ≤ 80) (hk : 102 < k) :
  ∃ r, Zah.j0 k b ep nb kd S dt tx = some r ∧ (r = 0 → b = false ∧ (1 ≤ kd ∧ kd ≤ 3) ∧ (kd ≠ 3 → Pass kd S dt tx)) := by
 obtain ⟨q, rfl⟩ : ∃ q, k = q + 1 := ⟨k - 1, by omega⟩
 unfold Zah.j0
 dsimp only
 cases b with
 | true => exact ⟨31, by rw [if_pos rfl], fun h => by omega⟩
 | false =>
  rw [if_neg (by simp)]
  by_cases h1 : kd < 1
  ·rw [if_pos h1]
   obtain ⟨r, h2, h3⟩ := refJ1 true ep nb kd S dt tx q hl (by omega)
   exact ⟨r, h2, fun h => by have := (h3 h).1; simp at this⟩
  ·rw [if_neg h1]
   obtain ⟨r, h2, h3⟩ := refJ1 (decide (kd > 3)) ep nb kd S dt tx q hl (by omega)
   exact ⟨r, h2, fun h => ⟨rfl, ⟨by omega, by have := (h3 h).1; simp at this; omega⟩, (h3 h).2⟩⟩
theorem refCheck_f (ep nb kd : Int) (S : List S70) (dt tx : ByteArray) (hl : S.length ≤ 80) :
  ∃ r, Zah.f 200 ep nb kd S dt tx = some r ∧ (r = 0 → (0 ≤ ep ∧ ep < 4294967296) ∧ (0 ≤ nb ∧ nb < 1099511627776) ∧ (1 ≤ kd ∧ kd ≤ 3) ∧ (kd ≠ 3 → Pass kd S dt tx)) := by
 have bad : ∃ r, Zah.j0 200 true ep nb kd S dt tx = some r ∧ (r = 0 → False) := by
  obtain ⟨r, h1, h2⟩ := refJ0 true ep nb kd S dt tx 200 hl (by omega)
  exact ⟨r, h1, fun h => by have := (h2 h).1; simp at this⟩
 obtain ⟨rb, hrb, hbad⟩ := bad
 unfold Zah.f
 by_cases h1 : ep < 0
 ·exact ⟨rb, by rw [if_pos h1]; exact hrb, fun h => (hbad h).elim⟩
 ·rw [if_neg h1]
  by_cases h2 : ep ≥ 4294967296
  ·exact ⟨rb, by rw [if_pos h2]; exact hrb, fun h => (hbad h).elim⟩
  ·rw [if_neg h2]
   by_cases h3 : nb < 0
   ·exact ⟨rb, by rw [if_pos h3]; exact hrb, fun h => (hbad h).elim⟩
   ·rw [if_neg h3]
    obtain ⟨r, h4, h5⟩ := refJ0 (decide (nb ≥ 1099511627776)) ep nb kd S dt tx 200 hl (by omega)
    refine ⟨r, h4, fun h => ⟨⟨by omega, by omega⟩, ⟨by omega, ?_⟩, (h5 h).2.1, (h5 h).2.2⟩⟩
    have := (h5 h).1
    simp at this
    omega
def Rb.cells (r : Rb) : List Value := [.int .i64 r.epoch, .int .i64 r.number, .int .i64 r.kind, .slice r.sa r.S.length r.sc, .string r.data, .string r.text]
theorem Rb.cells_one (r : Rb) : ∀ u ∈ r.cells, u.oneCell' = true := by
 intro u hu
 unfold Rb.cells at hu
 simp only [List.mem_cons, List.not_mem_nil, or_false] at hu
 rcases hu with rfl | rfl | rfl | rfl | rfl | rfl <;> rfl
def kb : Kd Rb where
 sz := 6
 E := []
 K := fun _ x cs => cs = x.cells
 M := fun _ _ _ x cs => cs = x.cells
 K_len := fun h => by rw [h]; rfl
 K_one := fun {w x cs} h => by rw [h]; exact x.cells_one
 K_below := fun _ h => h
 K_of_M := fun h => h
 M_mono := fun _ h => h
 M_bound := fun h => h
 M_move := fun _ h => h
 M_lower := fun _ h => h
theorem info63 : (Tryz.prog.info? 63).map (fun i => (i.zero, i.size, i.bytes)) = some (some (.agg #[.int .i64 0, .int .i64 0, .int .i64 0, .slice none 0 0, .string ⟨#[]⟩, .string ⟨#[]⟩]), 6, 80) := by kernel_rfl
theorem cellsB {w : World} {A : Option Addr} {l : List Rb} (h : Kd.C kb w A l.length l) (k : Nat) (hk : k < l.length) : ∃ ad, A = some ad ∧ w.cell? (ad.add (k * 6)) = some (.int .i64 l[k].epoch) ∧ w.cell? ⟨(ad.add (k * 6)).block, (ad.add (k * 6)).off + 1, none⟩ = some (.int .i64 l[k].number) ∧
  w.cell? ⟨(ad.add (k * 6)).block, (ad.add (k * 6)).off + 2, none⟩ = some (.int .i64 l[k].kind) ∧ w.cell? ⟨(ad.add (k * 6)).block, (ad.add (k * 6)).off + 3, none⟩ = some (.slice l[k].sa l[k].S.length l[k].sc) ∧
  w.cell? ⟨(ad.add (k * 6)).block, (ad.add (k * 6)).off + 4, none⟩ = some (.string l[k].data) ∧ w.cell? ⟨(ad.add (k * 6)).block, (ad.add (k * 6)).off + 5, none⟩ = some (.string l[k].text) := by
 obtain ⟨ad, c, e, _, hK, hc0⟩ := Kd.C_get h l[k] (k : Int) (by omega) (by omega)
 have hg : l.getD (k : Int).toNat l[k] = l[k] := by rw [Int.toNat_natCast, List.getD_eq_getElem?_getD, List.getElem?_eq_getElem hk]; rfl
 have hc : ∀ j u, c[j]? = some u → w.cell? (ad.add (k * 6 + j)) = some u := by
  have := hc0
  rw [Int.toNat_natCast] at this
  exact this
 rw [hg] at hK
 have hK2 : c = l[k].cells := hK
 subst hK2
 exact ⟨ad, e, hc 0 _ rfl, by rw [← ZaR _ _ 1 (by omega)]; exact hc 1 _ rfl, by rw [← ZaR _ _ 2 (by omega)]; exact hc 2 _ rfl, by rw [← ZaR _ _ 3 (by omega)]; exact hc 3 _ rfl, by rw [← ZaR _ _ 4 (by omega)]; exact hc 4 _ rfl, by rw [← ZaR _ _ 5 (by omega)]; exact hc 5 _ rfl⟩
theorem appB {ops : Array Oper} {o : Oper} {rest : List Oper} {a : Act} {Q : Exit → Act → World → Prop} {W : World} {base : Nat} (m : Nat) (hm : W.heap.size = m) (hg : o.guard = none) (s x : Operand)
  (ho : o.op = .call { callee := .builtin .append, args := #[s, x], argTypes := #[22, 22] }) (v : Value) (xs : List Rb) (p : Rb) (hs : a.eval s = v) (hx : a.eval x = .slice (some ⟨m, 0, none⟩) 1 1)
  (HO : kb.R 63 W base (fun _ => True) v xs) (hbase : base ≤ W.heap.size) (hl : 80 * (xs.length + 1) ≤ 140737488355328)
  (h : ∀ v1 w1, kb.R 63 w1 base (fun _ => True) v1 (xs ++ [p]) → RowKit.Below base W w1 → W.grownBy w1 v.ownBlock → wpList Tryz.prog ops Q rest (a.put o.dst v1) w1) :
  wpList Tryz.prog ops Q (o :: rest) a (W.alloc (.cells #[.int .i64 p.epoch, .int .i64 p.number, .int .i64 p.kind, .slice p.sa p.S.length p.sc, .string p.data, .string p.text] 63)) := by
 subst hm
 exact Kd.R_append kb (w0 := W) base hg s x 22 63 (.agg #[.int .i64 0, .int .i64 0, .int .i64 0, .slice none 0 0, .string ⟨#[]⟩, .string ⟨#[]⟩]) 80 ho Tryz.underlying22 info63 rfl (by decide) (by decide) v xs p p.cells (fun _ => True) (fun _ => False) hs hx rfl (fun _ hk => hk.elim) (fun _ _ => trivial) HO (Below.refl _ _) hbase (by omega) (fun v1 w1 h1 h2 h3 _ => h v1 w1 h1 h2 h3)
set_option maxRecDepth 100000 in
set_option maxHeartbeats 4000000 in
theorem plain_calls (ep nb kd : Int) (sa : Option Addr) (n sc : Nat) (dt tx : ByteArray) (w : World) : Calls Tryz.prog 22 #[.agg #[.int .i64 ep, .int .i64 nb, .int .i64 kd, .slice sa n sc, .string dt, .string tx]] w fun e w' => e = .returned (.agg #[.int .i64 ep, .int .i64 nb, .int .i64 kd, .slice sa n sc, .string dt, .string tx]) ∧ Below w.heap.size w w' := by
 have hu63 := Tryz.underlying63
 have hu66 := Tryz.underlying66
 have ba := Zab (Below.refl _ w) (.cells #[.int .i64 ep, .int .i64 nb, .int .i64 kd, .slice sa n sc, .string dt, .string tx] 63)
 have hbx := Zas w (.cells #[.int .i64 ep, .int .i64 nb, .int .i64 kd, .slice sa n sc, .string dt, .string tx] 63)
 have hzx := Zas (w.alloc (.cells #[.int .i64 ep, .int .i64 nb, .int .i64 kd, .slice sa n sc, .string dt, .string tx] 63)) (.cells #[.int .i64 ep, .int .i64 nb, .int .i64 kd, .slice sa n sc, .string dt, .string tx] 66)
 have hbb := Zab ba (.cells #[.int .i64 ep, .int .i64 nb, .int .i64 kd, .slice sa n sc, .string dt, .string tx] 66)
 rw [World.size_alloc] at hzx
 have HZ := Aside0.mk hzx
 have HB := Aside0.mk hbb
 obtain ⟨q0, q1, q2, q3, q4, q5⟩ := rcells hbx
 clear ba hbx hzx hbb
 go_enter Tryz.func22, Tryz.ntmps22
 go_wp2_with (fail)
 refine bodyPost_ret (results_c1 rfl _ _ _ _ _ _ _ rfl HZ.out (by rfl) hu66 (by kernel_rfl)) rfl ?_
 exact ⟨rfl, HB.out⟩
def zB : Bp := ⟨fun s => ∀ b ∈ s.data.toList, b = (0 : UInt8), by simp, fun s a b h x hx => by
 rw [ByteArray.data_extract, Array.toList_extract] at hx
 exact h x (List.mem_of_mem_drop (List.mem_of_mem_take hx)), fun s t h1 h2 x hx => by
 rw [ByteArray.data_append, Array.toList_append, List.mem_append] at hx
 exact hx.elim (h1 x) (h2 x)⟩
def zs : ByteArray := strOfNums (List.replicate 64 0)
theorem zs_size : zs.size = 64 := (strOfNums_size _).trans (List.length_replicate ..)
theorem zs_p : zB.p zs := fun b hb => by
 have h : ∀ x ∈ (strOfNums (List.replicate 64 0)).data.toList, x = (0 : UInt8) := by decide
 exact h b hb
theorem zs_eq {s : ByteArray} (h : zB.p s) (hs : s.size = 64) : s = zs := by
 refine data_inj ?_
 exact (List.eq_replicate_iff.2 ⟨(Array.length_toList ..).trans hs, h⟩).trans (List.eq_replicate_iff.2 ⟨(Array.length_toList ..).trans zs_size, zs_p⟩).symm
theorem rec_ok (A : Option Addr) : (⟨0, 1, 1, A, 1, [⟨4, 1⟩], zs, ⟨#[]⟩⟩ : Rb).Ok where
 set := ⟨fun x hx => by rw [List.mem_singleton.1 hx]; exact ⟨by show (0 : Int) ≤ 4; omega, by show (1 : Int) ≤ 1; omega, by show (4 : Int) + 1 ≤ _; omega⟩, fun x hx => by rw [List.mem_singleton.1 hx]; show (4 : Int) + 1 ≤ 60; omega⟩
 tot := show (1 : Int) + 0 ≤ 12 by omega
 kind := .inl rfl
 data := fun _ => by show (zs.size : Int) = 64 * (1 + 0); rw [zs_size]; rfl
 number := ⟨by show (1 : Int) ≤ 1; omega, by show (1 : Int) < _; omega⟩
 epoch := ⟨by show (0 : Int) ≤ 0; omega, by show (0 : Int) < _; omega⟩
 some := Nat.le_refl 1
 text := rfl
 cut := fun h => absurd (show (1 : Int) = 2 from h) (by decide)
theorem info5z : (Tryz.prog.info? 5).map (fun i => (i.zero, i.size, i.bytes)) = some (some (.int .u8 0), 1, 1) := by kernel_rfl
theorem set_one {X : List S70} (h : SetOf (saysF noneT [⟨4, 1⟩] true) true X) : X = [⟨4, 1⟩] := by
 have hT : ∀ i, saysF noneT [⟨4, 1⟩] true i = some true → i = 4 := by
  intro i
  show saysN noneT 4 (1 : Int).toNat true i = some true → i = 4
  unfold saysN
  intro hh
  by_cases c : (4 : Int) ≤ i ∧ i < 4 + (((1 : Int).toNat : Nat) : Int)
  ·have e : (((1 : Int).toNat : Nat) : Int) = 1 := rfl
   rw [e] at c
   omega
  ·rw [if_neg c] at hh
   cases hh
 have hx : ∀ x ∈ X, x = ⟨4, 1⟩ := by
  intro x hx
  obtain ⟨m1, m2, m3⟩ := h.set.may x hx
  have h1 := hT x.f0 (h.get hx x.f0 (Int.le_refl _) (by unfold endS; omega))
  have h2 := hT (endS x - 1) (h.get hx _ (by unfold endS; omega) (by omega))
  obtain ⟨a, b⟩ := x
  unfold endS at h2
  simp only at h1 h2
  subst h1
  obtain rfl : b = 1 := by omega
  rfl
 match X, h, hx with
 | [], h, _ =>
  have h4 : saysF noneT [⟨4, 1⟩] true 4 = some true := rfl
  have := (h.mem 4).2 h4
  simp at this
 | [x], _, hx => rw [hx x (by simp)]
 | x :: y :: l, h, hx =>
  have h1 := (List.pairwise_cons.1 h.set.sep).1 y (by simp)
  rw [hx x (by simp), hx y (by simp)] at h1
  unfold endS at h1
  simp only at h1
  omega
theorem Zcg (A5 : Option Addr) (c5 : Nat) (A6 : Option Addr) (c6 : Nat) : (⟨7, 1, 0, 0, 64, A5, c5, [], A6, c6, [], ⟨#[]⟩⟩ : Sb).Ok [] :=
 ⟨Ivt.nil, rfl, (show (0 : Int) ≤ 7 ∧ (7 : Int) ≤ 18446744073709551615 by omega), (show (1 : Int) ≤ 1 ∧ (1 : Int) < 1099511627776 by omega), rfl, Nat.zero_le _, (show (0 : Int) ≤ 0 ∧ (0 : Int) < 1099511627776 by omega), rfl, Nat.zero_le _⟩
theorem ZbX {w : World} {base : Nat} {A5 A6 : Option Addr} {c5 c6 : Nat} (h5 : k86.R 86 w base (fun _ => True) (.slice A5 ([] : List S86).length c5) []) (h6 : k51.R 51 w base (fun _ => True) (.slice A6 ([] : List S51).length c6) []) :
  (⟨7, 1, 0, 0, 64, A5, c5, [], A6, c6, [], ⟨#[]⟩⟩ : Sb).Reads w := (Sb.Owns.mk (s := ⟨7, 1, 0, 0, 64, A5, c5, [], A6, c6, [], ⟨#[]⟩⟩) h5 h6).reads
theorem Sb.Owns.offA {s : Sb} {w w' : World} {base g : Nat} (h : s.Owns w base) (hg : g < base) (hb : w.grownBy w' (some g)) : s.Owns w' base := ⟨R_offG h.m hg hb, R_offG h.r hg hb⟩
theorem apply_one : applyE [] 1 [⟨4, 1⟩] [] = [⟨⟨4, 1⟩, ⟨1, 0⟩⟩] := by rfl
set_option maxRecDepth 100000 in
set_option maxHeartbeats 16000000 in
theorem awake_calls (w : World) : Calls Tryz.prog 7 #[] w fun e w' => e = .returned (.bool true) ∧ Below w.heap.size w w' := by
 have hu76 := Tryz.underlying76
 have hu9 := Tryz.underlying9
 have hu43 := Tryz.underlying43
 have hu77 := Tryz.underlying77
 have hu78 := Tryz.underlying78
 have hu5 := Tryz.underlying5
 have hmk : ∀ W : World, (Instr.makeSlice 76 (.int .i64 64) (.int .i64 64)).run Tryz.prog W = .ok (.slice (some ⟨W.heap.size, 0, none⟩) 64 64) (W.alloc (.cells (madeCells #[.int .u8 0] 64) 5)) := fun W => run_make_row' (P := Tryz.prog) 76 5 (.int .u8 0) 1 hu76 info5z rfl .i64 .i64 64 (by omega) (by omega) W
 have hcv : (convert 76 9 (.slice (some ⟨w.heap.size, 0, none⟩) 64 64)).run Tryz.prog (w.alloc (.cells (madeCells #[.int .u8 0] 64) 5)) = .ok (.string zs) (w.alloc (.cells (madeCells #[.int .u8 0] 64) 5)) := Zcc hu76 hu5 hu9 (own_reads' (own_made w w.heap.size 5 .u8 64 (Nat.le_refl _) (by omega)))
 go_enter Tryz.func7, Tryz.ntmps7
 go_wp2_with (fail)
 have HB1 := Aside0.mk (Zab (Below.refl w.heap.size w) (.cells (madeCells #[.int .u8 0] 64) 5))
 clear hmk hcv
 generalize w.alloc (.cells (madeCells #[.int .u8 0] 64) 5) = w1 at HB1 ⊢
 refine (newB_calls zB 10 (by omega) w1).mono ?_
 rintro e w2 ⟨g, b, rfl, hg, hb, hBA, hbl⟩
 have HB2 := Aside0.mk (Zae HB1.out hbl)
 have HBA := Aside0.mk hBA
 have Hg := Aside0.mk (show w.heap.size ≤ g by have := HB1.out.size; omega)
 clear hBA hbl
 go_wp2_with (fail)
 have ba := Zab (Below.refl w2.heap.size w2) (.cells #[.int .i64 4, .int .i64 1] 70)
 have hlit := c_lit70 (Zas w2 (.cells #[.int .i64 4, .int .i64 1] 70))
 have HB3 := Aside0.mk (Zae HB2.out ba)
 have HAd := Aside0.mk (Zeg zB g b 0 10 ⟨0, 1, 1, some ⟨w2.heap.size, 0, none⟩, 1, [⟨4, 1⟩], zs, ⟨#[]⟩⟩ _ ⟨Zag HBA.out.1 ba, HBA.out.2.below ba⟩ ⟨hlit, Nat.le_refl 1⟩ (rec_ok _) zs_p (by omega) (show (1 : Int) + 0 ≤ 10 by omega))
 clear ba hlit
 refine HAd.out.mono ?_
 rintro e w4 ⟨b', rfl, hBA, hbl⟩
 have HB4 := Aside0.mk (HB3.out.grown hbl HB3.out.size (fun j hj => by obtain rfl := Option.some.inj hj; exact Hg.out))
 have HSl := Aside0.mk (ZdL zB g b' _ 10 1 1 _ w4 hBA (by omega) (by omega) (by show (0 : Int) ≤ 1 ∧ (1 : Int) < 1099511627776; omega) (fun X Y hX hY => (said_two (rec_ok none) hX hY).1))
 clear hBA hbl HAd HB3 HBA
 go_wp2_with (fail)
 refine HSl.out.mono ?_
 rintro e w5 ⟨ob, rfl, hso, hok, ⟨k1, k2, k3, k4, k5, k6, k7⟩, hb5⟩
 have hP := set_one k6
 have hC : ob.C = [] := (said_one (S := [⟨4, 1⟩]) (c := true) (fun x hx => (rec_ok none).set.may x hx) k6 k7).2
 have hD : ob.data = zs := zs_eq k5 (by have h1 := hok.data; rw [hP] at h1; have h2 : totS [⟨4, 1⟩] = 1 := rfl; rw [h2] at h1; omega)
 have HB5 := Aside0.mk (Zae HB4.out hb5)
 have Hb5 := Aside0.mk (show w.heap.size ≤ w5.heap.size from HB5.out.size)
 have HR := Aside0.mk hso.reads
 have HOo := Aside0.mk hok
 obtain ⟨okey, oep, osq, oup, pa, pc, P, ca, cc, C, odt⟩ := ob
 simp only at k1 k2 k3 k4 hP hC hD
 subst k1 k2 k3 k4 hD
 have HAp := Aside0.mk (show applyE [] 1 P C = [⟨⟨4, 1⟩, ⟨1, 0⟩⟩] by rw [hP, hC]; exact apply_one)
 clear hso hok k5 k6 k7 hb5 hP hC HSl HB4
 unfold Ob.val
 simp only [List.length_map]
 have hob := Zas w5 (.cells #[.int .u64 7, .int .i64 1, .int .i64 1, .int .i64 1, .slice pa P.length pc, .slice ca C.length cc, .string zs] 40)
 have ba := Zab (Below.refl _ w5) (.cells #[.int .u64 7, .int .i64 1, .int .i64 1, .int .i64 1, .slice pa P.length pc, .slice ca C.length cc, .string zs] 40)
 have HO := Aside0.mk hob
 have HB := Aside0.mk (Zae HB5.out ba)
 have HR := Aside0.mk (HR.out.below ba)
 obtain ⟨p0, p1, p2, p3, p4, p5, p6⟩ := ocells hob
 clear hob ba HB5
 go_wp2_with (fail)
 generalize w5.alloc (.cells #[.int .u64 7, .int .i64 1, .int .i64 1, .int .i64 1, .slice pa P.length pc, .slice ca C.length cc, .string zs] 40) = w6 at HO HB HR p0 p1 p2 p3 p4 p5 p6 ⊢
 obtain ⟨bo, hbo⟩ : ∃ bo, w5.heap.size = bo := ⟨_, rfl⟩
 rw [hbo] at HO Hb5 p0 p1 p2 p3 p4 p5 p6 ⊢
 have Hbo := Aside0.mk (show w.heap.size ≤ bo from Hb5.out)
 clear p0 p1 p2 p3 p4 p5 p6 hbo Hb5
 have hdr := ZaV (Below.refl w6.heap.size w6)
 have HB := Aside0.mk (Zae HB.out hdr)
 have HO := Aside0.mk (Zag HO.out hdr)
 have HR := Aside0.mk (HR.out.below hdr)
 have PO := Aside0.mk (ocells HO.out)
 clear hdr
 refine wp_region_noPanic ?_
 refine wp_region_held_drew (S := (fun W => W.cell? ⟨bo, 0, none⟩ = some (.int .u64 7) ∧ W.cell? ⟨bo, 1, none⟩ = some (.int .i64 1) ∧ W.cell? ⟨bo, 2, none⟩ = some (.int .i64 1) ∧ W.cell? ⟨bo, 3, none⟩ = some (.int .i64 1) ∧ W.cell? ⟨bo, 4, none⟩ = some (.slice pa P.length pc) ∧ W.cell? ⟨bo, 5, none⟩ = some (.slice ca C.length cc) ∧ W.cell? ⟨bo, 6, none⟩ = some (.string zs))) (by kernel_rfl) PO.out (fun hHeld => ?_)
 generalize w6.drew = wd at HB HO HR PO hHeld ⊢
 refine wpAnyH_take (i := 1) (v := ?_) rfl (by kernel_rfl) (by kernel_rfl) (by kernel_rfl) (fun _ _ _ h => h) (Or.inl ⟨by rfl, ?_⟩) (by assumption) ?_
 rotate_left
 ·intro w hSw; (try dsimp only at hSw); go_simp; (try with_reducible rfl)
 try simp only [List.getElem_toArray, List.getElem_cons_succ, List.getElem_cons_zero, Act.put, List.setIfInBounds_toArray, List.set_cons_zero, List.set_cons_succ]
 refine wpAnyH_ready (rs := [0, 2, 7]) (by kernel_rfl) (by simp) ?_
 refine AllReadyH.cons rfl (fun K hK => ?_) (AllReadyH.cons rfl (fun K hK => ?_) (AllReadyH.cons rfl (fun K hK => ?_) AllReadyH.nil))
 ·--0
  go_simp
  go_at_call 8
  refine (ZbU.calls 7 64 7 1 0 0 64 [] [] ⟨#[]⟩ _ rfl).mono ?_
  rintro e w7 ⟨v5, v6, rfl, hR5, hR6, hb⟩
  obtain ⟨A5, c5, rfl⟩ := Kd.R_slice hR5
  obtain ⟨A6, c6, rfl⟩ := Kd.R_slice hR6
  have HB := Aside0.mk (Zae HB.out hb)
  have HO := Aside0.mk (Zag HO.out hb)
  have HR := Aside0.mk (HR.out.below hb)
  have HN := Aside0.mk (ZbX hR5 hR6)
  simp only [List.length_nil]
  clear hR5 hR6 hb
  go_wp2_with (fail)
  have PO := Aside0.mk (ocells HO.out)
  refine hK.out _ _ PO.out (fun hHeld => ?_)
  clear hK K
  try simp only [List.getElem_toArray, List.getElem_cons_succ, List.getElem_cons_zero, Act.put, List.setIfInBounds_toArray, List.set_cons_zero, List.set_cons_succ]
  refine wpAnyH_ready (rs := [2, 7]) (by kernel_rfl) (by simp) ?_
  refine AllReadyH.cons rfl (fun K hK => ?_) (AllReadyH.cons rfl (fun K hK => ?_) AllReadyH.nil)
  ·--02
   have ba := Zab (Below.refl (w7).heap.size (w7)) (.cells #[.int .u64 7, .int .i64 1, .int .i64 1, .int .i64 1, .slice pa P.length pc, .slice ca C.length cc, .string zs] 40)
   have HG := Aside0.mk (Zas w7 (.cells #[.int .u64 7, .int .i64 1, .int .i64 1, .int .i64 1, .slice pa P.length pc, .slice ca C.length cc, .string zs] 40))
   have HB := Aside0.mk (Zae HB.out ba)
   have HO := Aside0.mk (Zag HO.out ba)
   have HR := Aside0.mk (HR.out.below ba)
   have HN := Aside0.mk (HN.out.below ba)
   clear ba
   go_simp
   generalize (w7).alloc (.cells #[.int .u64 7, .int .i64 1, .int .i64 1, .int .i64 1, .slice pa P.length pc, .slice ca C.length cc, .string zs] 40) = w8 at HB HO HR HN HG ⊢
   obtain ⟨gs, hgs⟩ : ∃ g, (w7).heap.size = g := ⟨_, rfl⟩
   rw [hgs] at HG ⊢
   have PO := Aside0.mk (ocells HO.out)
   refine hK.out _ _ PO.out (fun hHeld => ?_)
   clear hK K
   try simp only [List.getElem_toArray, List.getElem_cons_succ, List.getElem_cons_zero, Act.put, List.setIfInBounds_toArray, List.set_cons_zero, List.set_cons_succ]
   refine wpAnyH_ready (rs := [3, 7]) (by kernel_rfl) (by simp) ?_
   refine AllReadyH.cons rfl (fun K hK => ?_) (AllReadyH.cons rfl (fun K hK => ?_) AllReadyH.nil)
   ·--023
    have hFo := Zbm ⟨7, 1, 0, 0, 64, A5, c5, [], A6, c6, [], ⟨#[]⟩⟩ ⟨7, 1, 1, 1, pa, pc, P, ca, cc, C, zs⟩ [] gs _ HN.out (Zcg A5 c5 A6 c6) HR.out HOo.out rfl rfl (Int.le_refl _) (show (0 : Int) ≤ 1 by omega) (by unfold Ob.cells; simp only [List.length_map]; exact HG.out) (by simp)
    unfold Sb.val Sb.cells at hFo
    simp only [List.length_nil] at hFo
    have HFo := Aside0.mk hFo
    clear hFo
    go_simp
    go_at_call 11
    refine HFo.out.mono ?_
    rintro e w9 ⟨s2, rfl, hso, hsok, ⟨l1, l2, l3, l4⟩, hb⟩
    clear l2 l3 l4
    have HB := Aside0.mk (Zae HB.out hb)
    have HO := Aside0.mk (Zag HO.out hb)
    have HR := Aside0.mk (HR.out.below hb)
    have HN := Aside0.mk (HN.out.below hb)
    have HG := Aside0.mk (Zag HG.out hb)
    obtain ⟨key2, ep2, sq2, up2, sz2, ma2, mc2, L2, ra2, rc2, R2, nt2⟩ := s2
    simp only at l1
    have hL2 := l1.trans HAp.out
    have HSo := Aside0.mk hso
    clear hso hsok l1 hb HFo
    have hn : L2.length = 1 := by rw [hL2]; rfl
    have HL2 := Aside0.mk hL2
    have HN2 := Aside0.mk hn
    simp only [hn]
    clear hn hL2
    go_wp2_with (fail)
    have PO := Aside0.mk (ocells HO.out)
    refine hK.out _ _ PO.out (fun hHeld => ?_)
    clear hK K
    try simp only [List.getElem_toArray, List.getElem_cons_succ, List.getElem_cons_zero, Act.put, List.setIfInBounds_toArray, List.set_cons_zero, List.set_cons_succ]
    refine wpAnyH_take (i := 4) (v := ?_) rfl (by kernel_rfl) (by kernel_rfl) (by kernel_rfl) (fun _ _ _ h => h) (Or.inl ⟨by rfl, ?_⟩) (by assumption) ?_
    rotate_left
    ·intro w hSw; (try dsimp only at hSw); go_simp; (try with_reducible rfl)
    try simp only [List.getElem_toArray, List.getElem_cons_succ, List.getElem_cons_zero, Act.put, List.setIfInBounds_toArray, List.set_cons_zero, List.set_cons_succ]
    refine wpAnyH_take (i := 5) (v := ?_) rfl (by kernel_rfl) (by kernel_rfl) (by kernel_rfl) (fun _ _ _ h => h) (Or.inl ⟨by rfl, ?_⟩) (by assumption) ?_
    rotate_left
    ·intro w hSw; (try dsimp only at hSw); go_simp; (try with_reducible rfl)
    try simp only [List.getElem_toArray, List.getElem_cons_succ, List.getElem_cons_zero, Act.put, List.setIfInBounds_toArray, List.set_cons_zero, List.set_cons_succ]
    refine wpAnyH_take (i := 6) (v := ?_) rfl (by kernel_rfl) (by kernel_rfl) (by kernel_rfl) (fun _ _ _ h => h) (Or.inl ⟨by rfl, ?_⟩) (by assumption) ?_
    rotate_left
    ·intro w hSw; (try dsimp only at hSw); go_simp; (try with_reducible rfl)
    try simp only [List.getElem_toArray, List.getElem_cons_succ, List.getElem_cons_zero, Act.put, List.setIfInBounds_toArray, List.set_cons_zero, List.set_cons_succ]
    refine wpAnyH_ready (rs := [7]) (by kernel_rfl) (by simp) ?_
    refine AllReadyH.cons rfl (fun K hK => ?_) AllReadyH.nil
    have ba := Zab (Below.refl (w9).heap.size (w9)) (.cells #[.int .u64 0, .int .i64 0, .int .i64 0, .int .i64 0, .int .i64 0, .slice none 0 0, .slice none 0 0, .string ⟨#[]⟩] 34)
    have HZ := Aside0.mk (Zas w9 (.cells #[.int .u64 0, .int .i64 0, .int .i64 0, .int .i64 0, .int .i64 0, .slice none 0 0, .slice none 0 0, .string ⟨#[]⟩] 34))
    have HC3 := Aside0.mk (HSo.out.reads).m
    have HBa := Aside0.mk ba
    have Hbw := Aside0.mk (blk_lt HO.out)
    have HB := Aside0.mk (Zae HB.out ba)
    have HO := Aside0.mk (Zag HO.out ba)
    have HR := Aside0.mk (HR.out.below ba)
    have HN := Aside0.mk (HN.out.below ba)
    have HG := Aside0.mk (Zag HG.out ba)
    have HSo := Aside0.mk (HSo.out.below ba)
    clear ba
    go_simp
    generalize (w9).alloc (.cells #[.int .u64 0, .int .i64 0, .int .i64 0, .int .i64 0, .int .i64 0, .slice none 0 0, .slice none 0 0, .string ⟨#[]⟩] 34) = w10 at HB HO HR HN HG HZ HSo HBa ⊢
    obtain ⟨st, hst⟩ : ∃ g, (w9).heap.size = g := ⟨_, rfl⟩
    rw [hst] at HZ Hbw ⊢
    have PO := Aside0.mk (ocells HO.out)
    refine hK.out _ _ PO.out (fun hHeld => ?_)
    clear hK K
    try simp only [List.getElem_toArray, List.getElem_cons_succ, List.getElem_cons_zero, Act.put, List.setIfInBounds_toArray, List.set_cons_zero, List.set_cons_succ]
    refine wpAnyH_ready (rs := [8]) (by kernel_rfl) (by simp) ?_
    refine AllReadyH.cons rfl (fun K hK => ?_) AllReadyH.nil
    refine Za2 rfl ?_
    intro Q' hQ'
    refine ZaX 34 (.tmp 6) (.tmp 39) rfl rfl rfl (.agg #[.int .u64 key2, .int .i64 ep2, .int .i64 sq2, .int .i64 up2, .int .i64 sz2, .slice ma2 1 mc2, .slice ra2 R2.length rc2, .string nt2]) [.int .u64 key2, .int .i64 ep2, .int .i64 sq2, .int .i64 up2, .int .i64 sz2, .slice ma2 1 mc2, .slice ra2 R2.length rc2, .string nt2] rfl rfl rfl (by kernel_rfl) HZ.out (Nat.le_refl 8) (by intro q hq; simp only [List.mem_cons, List.not_mem_nil, or_false] at hq; rcases hq with rfl | rfl | rfl | rfl | rfl | rfl | rfl | rfl <;> rfl) ?_
    have HZ2 := Aside0.mk (set8 (v0 := .int .u64 key2) (v1 := .int .i64 ep2) (v2 := .int .i64 sq2) (v3 := .int .i64 up2) (v4 := .int .i64 sz2) (v5 := .slice ma2 1 mc2) (v6 := .slice ra2 R2.length rc2) (v7 := .string nt2) HZ.out)
    have HGX := Aside0.mk (ZaJ st [.int .u64 key2, .int .i64 ep2, .int .i64 sq2, .int .i64 up2, .int .i64 sz2, .slice ma2 1 mc2, .slice ra2 R2.length rc2, .string nt2] 0 w10)
    refine hQ' _ _ ?_
    clear hQ' Q'
    generalize (w10).setCells st 0 [.int .u64 key2, .int .i64 ep2, .int .i64 sq2, .int .i64 up2, .int .i64 sz2, .slice ma2 1 mc2, .slice ra2 R2.length rc2, .string nt2] = w11 at HZ2 HGX ⊢
    have hnb : st ≠ bo := by have h1 := Hbw.out; have h2 := Hbo.out; omega
    have HO := Aside0.mk (Zay HO.out HGX.out (by intro e; exact hnb (Option.some.inj e).symm))
    have HB := Aside0.mk (HB.out.grown HGX.out HB.out.size (fun j hj => by obtain rfl := Option.some.inj hj; have h1 := Hbw.out; have h2 := Hbo.out; omega))
    have HM := Aside0.mk (Kd.C_below HC3.out (HBa.out.grown HGX.out HBa.out.size (fun j hj => by obtain rfl := Option.some.inj hj; exact Nat.le_of_eq hst)))
    have PO := Aside0.mk (ocells HO.out)
    refine hK.out _ _ PO.out (fun hHeld => ?_)
    clear hK K
    try simp only [List.getElem_toArray, List.getElem_cons_succ, List.getElem_cons_zero, Act.put, List.setIfInBounds_toArray, List.set_cons_zero, List.set_cons_succ]
    refine wpAnyH_take (i := 9) (v := ?_) rfl (by kernel_rfl) (by kernel_rfl) (by kernel_rfl) (fun _ _ _ h => h) (Or.inl ⟨by rfl, ?_⟩) (by assumption) ?_
    rotate_left
    ·intro w hSw; (try dsimp only at hSw); go_simp; (try with_reducible rfl)
    try simp only [List.getElem_toArray, List.getElem_cons_succ, List.getElem_cons_zero, Act.put, List.setIfInBounds_toArray, List.set_cons_zero, List.set_cons_succ]
    refine wpAnyH_done (by kernel_rfl) ?_ _
    refine NoPanic.normal ?_
    have hmm := HM.out
    simp only [HL2.out] at hmm
    obtain ⟨ad, rfl, y0, _, _, _⟩ := ZaF (l := [⟨⟨4, 1⟩, ⟨1, 0⟩⟩]) hmm 0 (by simp)
    simp only [List.getElem_cons_zero, Nat.zero_mul] at y0
    rw [show ad.add 0 = ad from if_pos rfl] at y0
    clear hmm
    have q5 := (Zaa HZ2.out 5).trans (rfl : _ = some (Value.slice (some ad) 1 mc2))
    have p6 := (Zaa HO.out 6).trans (rfl : _ = some (Value.string zs))
    go_wp2_with (fail)
    go_ret
    exact ⟨rfl, HB.out⟩
   ·--027
    have ba := Zab (Below.refl (w8).heap.size (w8)) (.cells #[.int .u64 0, .int .i64 0, .int .i64 0, .int .i64 0, .int .i64 0, .slice none 0 0, .slice none 0 0, .string ⟨#[]⟩] 34)
    have HZ := Aside0.mk (Zas w8 (.cells #[.int .u64 0, .int .i64 0, .int .i64 0, .int .i64 0, .int .i64 0, .slice none 0 0, .slice none 0 0, .string ⟨#[]⟩] 34))
    have Hbw := Aside0.mk (blk_lt HO.out)
    have HB := Aside0.mk (Zae HB.out ba)
    have HO := Aside0.mk (Zag HO.out ba)
    have HR := Aside0.mk (HR.out.below ba)
    have HN := Aside0.mk (HN.out.below ba)
    have HG := Aside0.mk (Zag HG.out ba)
    clear ba
    go_simp
    generalize (w8).alloc (.cells #[.int .u64 0, .int .i64 0, .int .i64 0, .int .i64 0, .int .i64 0, .slice none 0 0, .slice none 0 0, .string ⟨#[]⟩] 34) = w12 at HB HO HR HN HG HZ ⊢
    obtain ⟨st, hst⟩ : ∃ g, (w8).heap.size = g := ⟨_, rfl⟩
    rw [hst] at HZ Hbw ⊢
    have PO := Aside0.mk (ocells HO.out)
    refine hK.out _ _ PO.out (fun hHeld => ?_)
    clear hK K
    try simp only [List.getElem_toArray, List.getElem_cons_succ, List.getElem_cons_zero, Act.put, List.setIfInBounds_toArray, List.set_cons_zero, List.set_cons_succ]
    refine wpAnyH_ready (rs := [3]) (by kernel_rfl) (by simp) ?_
    refine AllReadyH.cons rfl (fun K hK => ?_) AllReadyH.nil
    have hFo := Zbm ⟨7, 1, 0, 0, 64, A5, c5, [], A6, c6, [], ⟨#[]⟩⟩ ⟨7, 1, 1, 1, pa, pc, P, ca, cc, C, zs⟩ [] gs _ HN.out (Zcg A5 c5 A6 c6) HR.out HOo.out rfl rfl (Int.le_refl _) (show (0 : Int) ≤ 1 by omega) (by unfold Ob.cells; simp only [List.length_map]; exact HG.out) (by simp)
    unfold Sb.val Sb.cells at hFo
    simp only [List.length_nil] at hFo
    have HFo := Aside0.mk hFo
    clear hFo
    have Hst := Aside0.mk (blk_lt HZ.out)
    go_simp
    go_at_call 11
    refine HFo.out.mono ?_
    rintro e w13 ⟨s2, rfl, hso, hsok, ⟨l1, l2, l3, l4⟩, hb⟩
    clear l2 l3 l4
    have HB := Aside0.mk (Zae HB.out hb)
    have HO := Aside0.mk (Zag HO.out hb)
    have HR := Aside0.mk (HR.out.below hb)
    have HN := Aside0.mk (HN.out.below hb)
    have HG := Aside0.mk (Zag HG.out hb)
    have HZ := Aside0.mk (Zag HZ.out hb)
    obtain ⟨key2, ep2, sq2, up2, sz2, ma2, mc2, L2, ra2, rc2, R2, nt2⟩ := s2
    simp only at l1
    have hL2 := l1.trans HAp.out
    have HSo := Aside0.mk hso
    clear hso hsok l1 hb HFo
    have hn : L2.length = 1 := by rw [hL2]; rfl
    have HL2 := Aside0.mk hL2
    have HN2 := Aside0.mk hn
    simp only [hn]
    clear hn hL2
    go_wp2_with (fail)
    have PO := Aside0.mk (ocells HO.out)
    refine hK.out _ _ PO.out (fun hHeld => ?_)
    clear hK K
    try simp only [List.getElem_toArray, List.getElem_cons_succ, List.getElem_cons_zero, Act.put, List.setIfInBounds_toArray, List.set_cons_zero, List.set_cons_succ]
    refine wpAnyH_take (i := 4) (v := ?_) rfl (by kernel_rfl) (by kernel_rfl) (by kernel_rfl) (fun _ _ _ h => h) (Or.inl ⟨by rfl, ?_⟩) (by assumption) ?_
    rotate_left
    ·intro w hSw; (try dsimp only at hSw); go_simp; (try with_reducible rfl)
    try simp only [List.getElem_toArray, List.getElem_cons_succ, List.getElem_cons_zero, Act.put, List.setIfInBounds_toArray, List.set_cons_zero, List.set_cons_succ]
    refine wpAnyH_take (i := 5) (v := ?_) rfl (by kernel_rfl) (by kernel_rfl) (by kernel_rfl) (fun _ _ _ h => h) (Or.inl ⟨by rfl, ?_⟩) (by assumption) ?_
    rotate_left
    ·intro w hSw; (try dsimp only at hSw); go_simp; (try with_reducible rfl)
    try simp only [List.getElem_toArray, List.getElem_cons_succ, List.getElem_cons_zero, Act.put, List.setIfInBounds_toArray, List.set_cons_zero, List.set_cons_succ]
    refine wpAnyH_take (i := 6) (v := ?_) rfl (by kernel_rfl) (by kernel_rfl) (by kernel_rfl) (fun _ _ _ h => h) (Or.inl ⟨by rfl, ?_⟩) (by assumption) ?_
    rotate_left
    ·intro w hSw; (try dsimp only at hSw); go_simp; (try with_reducible rfl)
    try simp only [List.getElem_toArray, List.getElem_cons_succ, List.getElem_cons_zero, Act.put, List.setIfInBounds_toArray, List.set_cons_zero, List.set_cons_succ]
    refine wpAnyH_ready (rs := [8]) (by kernel_rfl) (by simp) ?_
    refine AllReadyH.cons rfl (fun K hK => ?_) AllReadyH.nil
    refine Za2 rfl ?_
    intro Q' hQ'
    refine ZaX 34 (.tmp 6) (.tmp 39) rfl rfl rfl (.agg #[.int .u64 key2, .int .i64 ep2, .int .i64 sq2, .int .i64 up2, .int .i64 sz2, .slice ma2 1 mc2, .slice ra2 R2.length rc2, .string nt2]) [.int .u64 key2, .int .i64 ep2, .int .i64 sq2, .int .i64 up2, .int .i64 sz2, .slice ma2 1 mc2, .slice ra2 R2.length rc2, .string nt2] rfl rfl rfl (by kernel_rfl) HZ.out (Nat.le_refl 8) (by intro q hq; simp only [List.mem_cons, List.not_mem_nil, or_false] at hq; rcases hq with rfl | rfl | rfl | rfl | rfl | rfl | rfl | rfl <;> rfl) ?_
    have HZ2 := Aside0.mk (set8 (v0 := .int .u64 key2) (v1 := .int .i64 ep2) (v2 := .int .i64 sq2) (v3 := .int .i64 up2) (v4 := .int .i64 sz2) (v5 := .slice ma2 1 mc2) (v6 := .slice ra2 R2.length rc2) (v7 := .string nt2) HZ.out)
    have HGX := Aside0.mk (ZaJ st [.int .u64 key2, .int .i64 ep2, .int .i64 sq2, .int .i64 up2, .int .i64 sz2, .slice ma2 1 mc2, .slice ra2 R2.length rc2, .string nt2] 0 w13)
    refine hQ' _ _ ?_
    clear hQ' Q'
    generalize (w13).setCells st 0 [.int .u64 key2, .int .i64 ep2, .int .i64 sq2, .int .i64 up2, .int .i64 sz2, .slice ma2 1 mc2, .slice ra2 R2.length rc2, .string nt2] = w14 at HZ2 HGX ⊢
    have hnb : st ≠ bo := by have h1 := Hbw.out; have h2 := Hbo.out; omega
    have HO := Aside0.mk (Zay HO.out HGX.out (by intro e; exact hnb (Option.some.inj e).symm))
    have HB := Aside0.mk (HB.out.grown HGX.out HB.out.size (fun j hj => by obtain rfl := Option.some.inj hj; have h1 := Hbw.out; have h2 := Hbo.out; omega))
    have HM := Aside0.mk (HSo.out.offA Hst.out HGX.out).reads.m
    have PO := Aside0.mk (ocells HO.out)
    refine hK.out _ _ PO.out (fun hHeld => ?_)
    clear hK K
    try simp only [List.getElem_toArray, List.getElem_cons_succ, List.getElem_cons_zero, Act.put, List.setIfInBounds_toArray, List.set_cons_zero, List.set_cons_succ]
    refine wpAnyH_take (i := 9) (v := ?_) rfl (by kernel_rfl) (by kernel_rfl) (by kernel_rfl) (fun _ _ _ h => h) (Or.inl ⟨by rfl, ?_⟩) (by assumption) ?_
    rotate_left
    ·intro w hSw; (try dsimp only at hSw); go_simp; (try with_reducible rfl)
    try simp only [List.getElem_toArray, List.getElem_cons_succ, List.getElem_cons_zero, Act.put, List.setIfInBounds_toArray, List.set_cons_zero, List.set_cons_succ]
    refine wpAnyH_done (by kernel_rfl) ?_ _
    refine NoPanic.normal ?_
    have hmm := HM.out
    simp only [HL2.out] at hmm
    obtain ⟨ad, rfl, y0, _, _, _⟩ := ZaF (l := [⟨⟨4, 1⟩, ⟨1, 0⟩⟩]) hmm 0 (by simp)
    simp only [List.getElem_cons_zero, Nat.zero_mul] at y0
    rw [show ad.add 0 = ad from if_pos rfl] at y0
    clear hmm
    have q5 := (Zaa HZ2.out 5).trans (rfl : _ = some (Value.slice (some ad) 1 mc2))
    have p6 := (Zaa HO.out 6).trans (rfl : _ = some (Value.string zs))
    go_wp2_with (fail)
    go_ret
    exact ⟨rfl, HB.out⟩
  ·--07
   have ba := Zab (Below.refl (w7).heap.size (w7)) (.cells #[.int .u64 0, .int .i64 0, .int .i64 0, .int .i64 0, .int .i64 0, .slice none 0 0, .slice none 0 0, .string ⟨#[]⟩] 34)
   have HZ := Aside0.mk (Zas w7 (.cells #[.int .u64 0, .int .i64 0, .int .i64 0, .int .i64 0, .int .i64 0, .slice none 0 0, .slice none 0 0, .string ⟨#[]⟩] 34))
   have Hbw := Aside0.mk (blk_lt HO.out)
   have HB := Aside0.mk (Zae HB.out ba)
   have HO := Aside0.mk (Zag HO.out ba)
   have HR := Aside0.mk (HR.out.below ba)
   have HN := Aside0.mk (HN.out.below ba)
   clear ba
   go_simp
   generalize (w7).alloc (.cells #[.int .u64 0, .int .i64 0, .int .i64 0, .int .i64 0, .int .i64 0, .slice none 0 0, .slice none 0 0, .string ⟨#[]⟩] 34) = w15 at HB HO HR HN HZ ⊢
   obtain ⟨st, hst⟩ : ∃ g, (w7).heap.size = g := ⟨_, rfl⟩
   rw [hst] at HZ Hbw ⊢
   have PO := Aside0.mk (ocells HO.out)
   refine hK.out _ _ PO.out (fun hHeld => ?_)
   clear hK K
   try simp only [List.getElem_toArray, List.getElem_cons_succ, List.getElem_cons_zero, Act.put, List.setIfInBounds_toArray, List.set_cons_zero, List.set_cons_succ]
   refine wpAnyH_ready (rs := [2]) (by kernel_rfl) (by simp) ?_
   refine AllReadyH.cons rfl (fun K hK => ?_) AllReadyH.nil
   have ba := Zab (Below.refl (w15).heap.size (w15)) (.cells #[.int .u64 7, .int .i64 1, .int .i64 1, .int .i64 1, .slice pa P.length pc, .slice ca C.length cc, .string zs] 40)
   have HG := Aside0.mk (Zas w15 (.cells #[.int .u64 7, .int .i64 1, .int .i64 1, .int .i64 1, .slice pa P.length pc, .slice ca C.length cc, .string zs] 40))
   have HB := Aside0.mk (Zae HB.out ba)
   have HO := Aside0.mk (Zag HO.out ba)
   have HR := Aside0.mk (HR.out.below ba)
   have HN := Aside0.mk (HN.out.below ba)
   have HZ := Aside0.mk (Zag HZ.out ba)
   clear ba
   go_simp
   generalize (w15).alloc (.cells #[.int .u64 7, .int .i64 1, .int .i64 1, .int .i64 1, .slice pa P.length pc, .slice ca C.length cc, .string zs] 40) = w16 at HB HO HR HN HG HZ ⊢
   obtain ⟨gs, hgs⟩ : ∃ g, (w15).heap.size = g := ⟨_, rfl⟩
   rw [hgs] at HG ⊢
   have PO := Aside0.mk (ocells HO.out)
   refine hK.out _ _ PO.out (fun hHeld => ?_)
   clear hK K
   try simp only [List.getElem_toArray, List.getElem_cons_succ, List.getElem_cons_zero, Act.put, List.setIfInBounds_toArray, List.set_cons_zero, List.set_cons_succ]
   refine wpAnyH_ready (rs := [3]) (by kernel_rfl) (by simp) ?_
   refine AllReadyH.cons rfl (fun K hK => ?_) AllReadyH.nil
   have hFo := Zbm ⟨7, 1, 0, 0, 64, A5, c5, [], A6, c6, [], ⟨#[]⟩⟩ ⟨7, 1, 1, 1, pa, pc, P, ca, cc, C, zs⟩ [] gs _ HN.out (Zcg A5 c5 A6 c6) HR.out HOo.out rfl rfl (Int.le_refl _) (show (0 : Int) ≤ 1 by omega) (by unfold Ob.cells; simp only [List.length_map]; exact HG.out) (by simp)
   unfold Sb.val Sb.cells at hFo
   simp only [List.length_nil] at hFo
   have HFo := Aside0.mk hFo
   clear hFo
   have Hst := Aside0.mk (blk_lt HZ.out)
   go_simp
   go_at_call 11
   refine HFo.out.mono ?_
   rintro e w17 ⟨s2, rfl, hso, hsok, ⟨l1, l2, l3, l4⟩, hb⟩
   clear l2 l3 l4
   have HB := Aside0.mk (Zae HB.out hb)
   have HO := Aside0.mk (Zag HO.out hb)
   have HR := Aside0.mk (HR.out.below hb)
   have HN := Aside0.mk (HN.out.below hb)
   have HG := Aside0.mk (Zag HG.out hb)
   have HZ := Aside0.mk (Zag HZ.out hb)
   obtain ⟨key2, ep2, sq2, up2, sz2, ma2, mc2, L2, ra2, rc2, R2, nt2⟩ := s2
   simp only at l1
   have hL2 := l1.trans HAp.out
   have HSo := Aside0.mk hso
   clear hso hsok l1 hb HFo
   have hn : L2.length = 1 := by rw [hL2]; rfl
   have HL2 := Aside0.mk hL2
   have HN2 := Aside0.mk hn
   simp only [hn]
   clear hn hL2
   go_wp2_with (fail)
   have PO := Aside0.mk (ocells HO.out)
   refine hK.out _ _ PO.out (fun hHeld => ?_)
   clear hK K
   try simp only [List.getElem_toArray, List.getElem_cons_succ, List.getElem_cons_zero, Act.put, List.setIfInBounds_toArray, List.set_cons_zero, List.set_cons_succ]
   refine wpAnyH_take (i := 4) (v := ?_) rfl (by kernel_rfl) (by kernel_rfl) (by kernel_rfl) (fun _ _ _ h => h) (Or.inl ⟨by rfl, ?_⟩) (by assumption) ?_
   rotate_left
   ·intro w hSw; (try dsimp only at hSw); go_simp; (try with_reducible rfl)
   try simp only [List.getElem_toArray, List.getElem_cons_succ, List.getElem_cons_zero, Act.put, List.setIfInBounds_toArray, List.set_cons_zero, List.set_cons_succ]
   refine wpAnyH_take (i := 5) (v := ?_) rfl (by kernel_rfl) (by kernel_rfl) (by kernel_rfl) (fun _ _ _ h => h) (Or.inl ⟨by rfl, ?_⟩) (by assumption) ?_
   rotate_left
   ·intro w hSw; (try dsimp only at hSw); go_simp; (try with_reducible rfl)
   try simp only [List.getElem_toArray, List.getElem_cons_succ, List.getElem_cons_zero, Act.put, List.setIfInBounds_toArray, List.set_cons_zero, List.set_cons_succ]
   refine wpAnyH_take (i := 6) (v := ?_) rfl (by kernel_rfl) (by kernel_rfl) (by kernel_rfl) (fun _ _ _ h => h) (Or.inl ⟨by rfl, ?_⟩) (by assumption) ?_
   rotate_left
   ·intro w hSw; (try dsimp only at hSw); go_simp; (try with_reducible rfl)
   try simp only [List.getElem_toArray, List.getElem_cons_succ, List.getElem_cons_zero, Act.put, List.setIfInBounds_toArray, List.set_cons_zero, List.set_cons_succ]
   refine wpAnyH_ready (rs := [8]) (by kernel_rfl) (by simp) ?_
   refine AllReadyH.cons rfl (fun K hK => ?_) AllReadyH.nil
   refine Za2 rfl ?_
   intro Q' hQ'
   refine ZaX 34 (.tmp 6) (.tmp 39) rfl rfl rfl (.agg #[.int .u64 key2, .int .i64 ep2, .int .i64 sq2, .int .i64 up2, .int .i64 sz2, .slice ma2 1 mc2, .slice ra2 R2.length rc2, .string nt2]) [.int .u64 key2, .int .i64 ep2, .int .i64 sq2, .int .i64 up2, .int .i64 sz2, .slice ma2 1 mc2, .slice ra2 R2.length rc2, .string nt2] rfl rfl rfl (by kernel_rfl) HZ.out (Nat.le_refl 8) (by intro q hq; simp only [List.mem_cons, List.not_mem_nil, or_false] at hq; rcases hq with rfl | rfl | rfl | rfl | rfl | rfl | rfl | rfl <;> rfl) ?_
   have HZ2 := Aside0.mk (set8 (v0 := .int .u64 key2) (v1 := .int .i64 ep2) (v2 := .int .i64 sq2) (v3 := .int .i64 up2) (v4 := .int .i64 sz2) (v5 := .slice ma2 1 mc2) (v6 := .slice ra2 R2.length rc2) (v7 := .string nt2) HZ.out)
   have HGX := Aside0.mk (ZaJ st [.int .u64 key2, .int .i64 ep2, .int .i64 sq2, .int .i64 up2, .int .i64 sz2, .slice ma2 1 mc2, .slice ra2 R2.length rc2, .string nt2] 0 w17)
   refine hQ' _ _ ?_
   clear hQ' Q'
   generalize (w17).setCells st 0 [.int .u64 key2, .int .i64 ep2, .int .i64 sq2, .int .i64 up2, .int .i64 sz2, .slice ma2 1 mc2, .slice ra2 R2.length rc2, .string nt2] = w18 at HZ2 HGX ⊢
   have hnb : st ≠ bo := by have h1 := Hbw.out; have h2 := Hbo.out; omega
   have HO := Aside0.mk (Zay HO.out HGX.out (by intro e; exact hnb (Option.some.inj e).symm))
   have HB := Aside0.mk (HB.out.grown HGX.out HB.out.size (fun j hj => by obtain rfl := Option.some.inj hj; have h1 := Hbw.out; have h2 := Hbo.out; omega))
   have HM := Aside0.mk (HSo.out.offA Hst.out HGX.out).reads.m
   have PO := Aside0.mk (ocells HO.out)
   refine hK.out _ _ PO.out (fun hHeld => ?_)
   clear hK K
   try simp only [List.getElem_toArray, List.getElem_cons_succ, List.getElem_cons_zero, Act.put, List.setIfInBounds_toArray, List.set_cons_zero, List.set_cons_succ]
   refine wpAnyH_take (i := 9) (v := ?_) rfl (by kernel_rfl) (by kernel_rfl) (by kernel_rfl) (fun _ _ _ h => h) (Or.inl ⟨by rfl, ?_⟩) (by assumption) ?_
   rotate_left
   ·intro w hSw; (try dsimp only at hSw); go_simp; (try with_reducible rfl)
   try simp only [List.getElem_toArray, List.getElem_cons_succ, List.getElem_cons_zero, Act.put, List.setIfInBounds_toArray, List.set_cons_zero, List.set_cons_succ]
   refine wpAnyH_done (by kernel_rfl) ?_ _
   refine NoPanic.normal ?_
   have hmm := HM.out
   simp only [HL2.out] at hmm
   obtain ⟨ad, rfl, y0, _, _, _⟩ := ZaF (l := [⟨⟨4, 1⟩, ⟨1, 0⟩⟩]) hmm 0 (by simp)
   simp only [List.getElem_cons_zero, Nat.zero_mul] at y0
   rw [show ad.add 0 = ad from if_pos rfl] at y0
   clear hmm
   have q5 := (Zaa HZ2.out 5).trans (rfl : _ = some (Value.slice (some ad) 1 mc2))
   have p6 := (Zaa HO.out 6).trans (rfl : _ = some (Value.string zs))
   go_wp2_with (fail)
   go_ret
   exact ⟨rfl, HB.out⟩
 ·--2
  have ba := Zab (Below.refl (wd).heap.size (wd)) (.cells #[.int .u64 7, .int .i64 1, .int .i64 1, .int .i64 1, .slice pa P.length pc, .slice ca C.length cc, .string zs] 40)
  have HG := Aside0.mk (Zas wd (.cells #[.int .u64 7, .int .i64 1, .int .i64 1, .int .i64 1, .slice pa P.length pc, .slice ca C.length cc, .string zs] 40))
  have HB := Aside0.mk (Zae HB.out ba)
  have HO := Aside0.mk (Zag HO.out ba)
  have HR := Aside0.mk (HR.out.below ba)
  clear ba
  go_simp
  generalize (wd).alloc (.cells #[.int .u64 7, .int .i64 1, .int .i64 1, .int .i64 1, .slice pa P.length pc, .slice ca C.length cc, .string zs] 40) = w19 at HB HO HR HG ⊢
  obtain ⟨gs, hgs⟩ : ∃ g, (wd).heap.size = g := ⟨_, rfl⟩
  rw [hgs] at HG ⊢
  have PO := Aside0.mk (ocells HO.out)
  refine hK.out _ _ PO.out (fun hHeld => ?_)
  clear hK K
  try simp only [List.getElem_toArray, List.getElem_cons_succ, List.getElem_cons_zero, Act.put, List.setIfInBounds_toArray, List.set_cons_zero, List.set_cons_succ]
  refine wpAnyH_ready (rs := [0, 7]) (by kernel_rfl) (by simp) ?_
  refine AllReadyH.cons rfl (fun K hK => ?_) (AllReadyH.cons rfl (fun K hK => ?_) AllReadyH.nil)
  ·--20
   go_simp
   go_at_call 8
   refine (ZbU.calls 7 64 7 1 0 0 64 [] [] ⟨#[]⟩ _ rfl).mono ?_
   rintro e w20 ⟨v5, v6, rfl, hR5, hR6, hb⟩
   obtain ⟨A5, c5, rfl⟩ := Kd.R_slice hR5
   obtain ⟨A6, c6, rfl⟩ := Kd.R_slice hR6
   have HB := Aside0.mk (Zae HB.out hb)
   have HO := Aside0.mk (Zag HO.out hb)
   have HR := Aside0.mk (HR.out.below hb)
   have HG := Aside0.mk (Zag HG.out hb)
   have HN := Aside0.mk (ZbX hR5 hR6)
   simp only [List.length_nil]
   clear hR5 hR6 hb
   go_wp2_with (fail)
   have PO := Aside0.mk (ocells HO.out)
   refine hK.out _ _ PO.out (fun hHeld => ?_)
   clear hK K
   try simp only [List.getElem_toArray, List.getElem_cons_succ, List.getElem_cons_zero, Act.put, List.setIfInBounds_toArray, List.set_cons_zero, List.set_cons_succ]
   refine wpAnyH_ready (rs := [3, 7]) (by kernel_rfl) (by simp) ?_
   refine AllReadyH.cons rfl (fun K hK => ?_) (AllReadyH.cons rfl (fun K hK => ?_) AllReadyH.nil)
   ·--203
    have hFo := Zbm ⟨7, 1, 0, 0, 64, A5, c5, [], A6, c6, [], ⟨#[]⟩⟩ ⟨7, 1, 1, 1, pa, pc, P, ca, cc, C, zs⟩ [] gs _ HN.out (Zcg A5 c5 A6 c6) HR.out HOo.out rfl rfl (Int.le_refl _) (show (0 : Int) ≤ 1 by omega) (by unfold Ob.cells; simp only [List.length_map]; exact HG.out) (by simp)
    unfold Sb.val Sb.cells at hFo
    simp only [List.length_nil] at hFo
    have HFo := Aside0.mk hFo
    clear hFo
    go_simp
    go_at_call 11
    refine HFo.out.mono ?_
    rintro e w21 ⟨s2, rfl, hso, hsok, ⟨l1, l2, l3, l4⟩, hb⟩
    clear l2 l3 l4
    have HB := Aside0.mk (Zae HB.out hb)
    have HO := Aside0.mk (Zag HO.out hb)
    have HR := Aside0.mk (HR.out.below hb)
    have HN := Aside0.mk (HN.out.below hb)
    have HG := Aside0.mk (Zag HG.out hb)
    obtain ⟨key2, ep2, sq2, up2, sz2, ma2, mc2, L2, ra2, rc2, R2, nt2⟩ := s2
    simp only at l1
    have hL2 := l1.trans HAp.out
    have HSo := Aside0.mk hso
    clear hso hsok l1 hb HFo
    have hn : L2.length = 1 := by rw [hL2]; rfl
    have HL2 := Aside0.mk hL2
    have HN2 := Aside0.mk hn
    simp only [hn]
    clear hn hL2
    go_wp2_with (fail)
    have PO := Aside0.mk (ocells HO.out)
    refine hK.out _ _ PO.out (fun hHeld => ?_)
    clear hK K
    try simp only [List.getElem_toArray, List.getElem_cons_succ, List.getElem_cons_zero, Act.put, List.setIfInBounds_toArray, List.set_cons_zero, List.set_cons_succ]
    refine wpAnyH_take (i := 4) (v := ?_) rfl (by kernel_rfl) (by kernel_rfl) (by kernel_rfl) (fun _ _ _ h => h) (Or.inl ⟨by rfl, ?_⟩) (by assumption) ?_
    rotate_left
    ·intro w hSw; (try dsimp only at hSw); go_simp; (try with_reducible rfl)
    try simp only [List.getElem_toArray, List.getElem_cons_succ, List.getElem_cons_zero, Act.put, List.setIfInBounds_toArray, List.set_cons_zero, List.set_cons_succ]
    refine wpAnyH_take (i := 5) (v := ?_) rfl (by kernel_rfl) (by kernel_rfl) (by kernel_rfl) (fun _ _ _ h => h) (Or.inl ⟨by rfl, ?_⟩) (by assumption) ?_
    rotate_left
    ·intro w hSw; (try dsimp only at hSw); go_simp; (try with_reducible rfl)
    try simp only [List.getElem_toArray, List.getElem_cons_succ, List.getElem_cons_zero, Act.put, List.setIfInBounds_toArray, List.set_cons_zero, List.set_cons_succ]
    refine wpAnyH_take (i := 6) (v := ?_) rfl (by kernel_rfl) (by kernel_rfl) (by kernel_rfl) (fun _ _ _ h => h) (Or.inl ⟨by rfl, ?_⟩) (by assumption) ?_
    rotate_left
    ·intro w hSw; (try dsimp only at hSw); go_simp; (try with_reducible rfl)
    try simp only [List.getElem_toArray, List.getElem_cons_succ, List.getElem_cons_zero, Act.put, List.setIfInBounds_toArray, List.set_cons_zero, List.set_cons_succ]
    refine wpAnyH_ready (rs := [7]) (by kernel_rfl) (by simp) ?_
    refine AllReadyH.cons rfl (fun K hK => ?_) AllReadyH.nil
    have ba := Zab (Below.refl (w21).heap.size (w21)) (.cells #[.int .u64 0, .int .i64 0, .int .i64 0, .int .i64 0, .int .i64 0, .slice none 0 0, .slice none 0 0, .string ⟨#[]⟩] 34)
    have HZ := Aside0.mk (Zas w21 (.cells #[.int .u64 0, .int .i64 0, .int .i64 0, .int .i64 0, .int .i64 0, .slice none 0 0, .slice none 0 0, .string ⟨#[]⟩] 34))
    have HC3 := Aside0.mk (HSo.out.reads).m
    have HBa := Aside0.mk ba
    have Hbw := Aside0.mk (blk_lt HO.out)
    have HB := Aside0.mk (Zae HB.out ba)
    have HO := Aside0.mk (Zag HO.out ba)
    have HR := Aside0.mk (HR.out.below ba)
    have HN := Aside0.mk (HN.out.below ba)
    have HG := Aside0.mk (Zag HG.out ba)
    have HSo := Aside0.mk (HSo.out.below ba)
    clear ba
    go_simp
    generalize (w21).alloc (.cells #[.int .u64 0, .int .i64 0, .int .i64 0, .int .i64 0, .int .i64 0, .slice none 0 0, .slice none 0 0, .string ⟨#[]⟩] 34) = w22 at HB HO HR HN HG HZ HSo HBa ⊢
    obtain ⟨st, hst⟩ : ∃ g, (w21).heap.size = g := ⟨_, rfl⟩
    rw [hst] at HZ Hbw ⊢
    have PO := Aside0.mk (ocells HO.out)
    refine hK.out _ _ PO.out (fun hHeld => ?_)
    clear hK K
    try simp only [List.getElem_toArray, List.getElem_cons_succ, List.getElem_cons_zero, Act.put, List.setIfInBounds_toArray, List.set_cons_zero, List.set_cons_succ]
    refine wpAnyH_ready (rs := [8]) (by kernel_rfl) (by simp) ?_
    refine AllReadyH.cons rfl (fun K hK => ?_) AllReadyH.nil
    refine Za2 rfl ?_
    intro Q' hQ'
    refine ZaX 34 (.tmp 6) (.tmp 39) rfl rfl rfl (.agg #[.int .u64 key2, .int .i64 ep2, .int .i64 sq2, .int .i64 up2, .int .i64 sz2, .slice ma2 1 mc2, .slice ra2 R2.length rc2, .string nt2]) [.int .u64 key2, .int .i64 ep2, .int .i64 sq2, .int .i64 up2, .int .i64 sz2, .slice ma2 1 mc2, .slice ra2 R2.length rc2, .string nt2] rfl rfl rfl (by kernel_rfl) HZ.out (Nat.le_refl 8) (by intro q hq; simp only [List.mem_cons, List.not_mem_nil, or_false] at hq; rcases hq with rfl | rfl | rfl | rfl | rfl | rfl | rfl | rfl <;> rfl) ?_
    have HZ2 := Aside0.mk (set8 (v0 := .int .u64 key2) (v1 := .int .i64 ep2) (v2 := .int .i64 sq2) (v3 := .int .i64 up2) (v4 := .int .i64 sz2) (v5 := .slice ma2 1 mc2) (v6 := .slice ra2 R2.length rc2) (v7 := .string nt2) HZ.out)
    have HGX := Aside0.mk (ZaJ st [.int .u64 key2, .int .i64 ep2, .int .i64 sq2, .int .i64 up2, .int .i64 sz2, .slice ma2 1 mc2, .slice ra2 R2.length rc2, .string nt2] 0 w22)
    refine hQ' _ _ ?_
    clear hQ' Q'
    generalize (w22).setCells st 0 [.int .u64 key2, .int .i64 ep2, .int .i64 sq2, .int .i64 up2, .int .i64 sz2, .slice ma2 1 mc2, .slice ra2 R2.length rc2, .string nt2] = w23 at HZ2 HGX ⊢
    have hnb : st ≠ bo := by have h1 := Hbw.out; have h2 := Hbo.out; omega
    have HO := Aside0.mk (Zay HO.out HGX.out (by intro e; exact hnb (Option.some.inj e).symm))
    have HB := Aside0.mk (HB.out.grown HGX.out HB.out.size (fun j hj => by obtain rfl := Option.some.inj hj; have h1 := Hbw.out; have h2 := Hbo.out; omega))
    have HM := Aside0.mk (Kd.C_below HC3.out (HBa.out.grown HGX.out HBa.out.size (fun j hj => by obtain rfl := Option.some.inj hj; exact Nat.le_of_eq hst)))
    have PO := Aside0.mk (ocells HO.out)
    refine hK.out _ _ PO.out (fun hHeld => ?_)
    clear hK K
    try simp only [List.getElem_toArray, List.getElem_cons_succ, List.getElem_cons_zero, Act.put, List.setIfInBounds_toArray, List.set_cons_zero, List.set_cons_succ]
    refine wpAnyH_take (i := 9) (v := ?_) rfl (by kernel_rfl) (by kernel_rfl) (by kernel_rfl) (fun _ _ _ h => h) (Or.inl ⟨by rfl, ?_⟩) (by assumption) ?_
    rotate_left
    ·intro w hSw; (try dsimp only at hSw); go_simp; (try with_reducible rfl)
    try simp only [List.getElem_toArray, List.getElem_cons_succ, List.getElem_cons_zero, Act.put, List.setIfInBounds_toArray, List.set_cons_zero, List.set_cons_succ]
    refine wpAnyH_done (by kernel_rfl) ?_ _
    refine NoPanic.normal ?_
    have hmm := HM.out
    simp only [HL2.out] at hmm
    obtain ⟨ad, rfl, y0, _, _, _⟩ := ZaF (l := [⟨⟨4, 1⟩, ⟨1, 0⟩⟩]) hmm 0 (by simp)
    simp only [List.getElem_cons_zero, Nat.zero_mul] at y0
    rw [show ad.add 0 = ad from if_pos rfl] at y0
    clear hmm
    have q5 := (Zaa HZ2.out 5).trans (rfl : _ = some (Value.slice (some ad) 1 mc2))
    have p6 := (Zaa HO.out 6).trans (rfl : _ = some (Value.string zs))
    go_wp2_with (fail)
    go_ret
    exact ⟨rfl, HB.out⟩
   ·--207
    have ba := Zab (Below.refl (w20).heap.size (w20)) (.cells #[.int .u64 0, .int .i64 0, .int .i64 0, .int .i64 0, .int .i64 0, .slice none 0 0, .slice none 0 0, .string ⟨#[]⟩] 34)
    have HZ := Aside0.mk (Zas w20 (.cells #[.int .u64 0, .int .i64 0, .int .i64 0, .int .i64 0, .int .i64 0, .slice none 0 0, .slice none 0 0, .string ⟨#[]⟩] 34))
    have Hbw := Aside0.mk (blk_lt HO.out)
    have HB := Aside0.mk (Zae HB.out ba)
    have HO := Aside0.mk (Zag HO.out ba)
    have HR := Aside0.mk (HR.out.below ba)
    have HN := Aside0.mk (HN.out.below ba)
    have HG := Aside0.mk (Zag HG.out ba)
    clear ba
    go_simp
    generalize (w20).alloc (.cells #[.int .u64 0, .int .i64 0, .int .i64 0, .int .i64 0, .int .i64 0, .slice none 0 0, .slice none 0 0, .string ⟨#[]⟩] 34) = w24 at HB HO HR HN HG HZ ⊢
    obtain ⟨st, hst⟩ : ∃ g, (w20).heap.size = g := ⟨_, rfl⟩
    rw [hst] at HZ Hbw ⊢
    have PO := Aside0.mk (ocells HO.out)
    refine hK.out _ _ PO.out (fun hHeld => ?_)
    clear hK K
    try simp only [List.getElem_toArray, List.getElem_cons_succ, List.getElem_cons_zero, Act.put, List.setIfInBounds_toArray, List.set_cons_zero, List.set_cons_succ]
    refine wpAnyH_ready (rs := [3]) (by kernel_rfl) (by simp) ?_
    refine AllReadyH.cons rfl (fun K hK => ?_) AllReadyH.nil
    have hFo := Zbm ⟨7, 1, 0, 0, 64, A5, c5, [], A6, c6, [], ⟨#[]⟩⟩ ⟨7, 1, 1, 1, pa, pc, P, ca, cc, C, zs⟩ [] gs _ HN.out (Zcg A5 c5 A6 c6) HR.out HOo.out rfl rfl (Int.le_refl _) (show (0 : Int) ≤ 1 by omega) (by unfold Ob.cells; simp only [List.length_map]; exact HG.out) (by simp)
    unfold Sb.val Sb.cells at hFo
    simp only [List.length_nil] at hFo
    have HFo := Aside0.mk hFo
    clear hFo
    have Hst := Aside0.mk (blk_lt HZ.out)
    go_simp
    go_at_call 11
    refine HFo.out.mono ?_
    rintro e w25 ⟨s2, rfl, hso, hsok, ⟨l1, l2, l3, l4⟩, hb⟩
    clear l2 l3 l4
    have HB := Aside0.mk (Zae HB.out hb)
    have HO := Aside0.mk (Zag HO.out hb)
    have HR := Aside0.mk (HR.out.below hb)
    have HN := Aside0.mk (HN.out.below hb)
    have HG := Aside0.mk (Zag HG.out hb)
    have HZ := Aside0.mk (Zag HZ.out hb)
    obtain ⟨key2, ep2, sq2, up2, sz2, ma2, mc2, L2, ra2, rc2, R2, nt2⟩ := s2
    simp only at l1
    have hL2 := l1.trans HAp.out
    have HSo := Aside0.mk hso
    clear hso hsok l1 hb HFo
    have hn : L2.length = 1 := by rw [hL2]; rfl
    have HL2 := Aside0.mk hL2
    have HN2 := Aside0.mk hn
    simp only [hn]
    clear hn hL2
    go_wp2_with (fail)
    have PO := Aside0.mk (ocells HO.out)
    refine hK.out _ _ PO.out (fun hHeld => ?_)
    clear hK K
    try simp only [List.getElem_toArray, List.getElem_cons_succ, List.getElem_cons_zero, Act.put, List.setIfInBounds_toArray, List.set_cons_zero, List.set_cons_succ]
    refine wpAnyH_take (i := 4) (v := ?_) rfl (by kernel_rfl) (by kernel_rfl) (by kernel_rfl) (fun _ _ _ h => h) (Or.inl ⟨by rfl, ?_⟩) (by assumption) ?_
    rotate_left
    ·intro w hSw; (try dsimp only at hSw); go_simp; (try with_reducible rfl)
    try simp only [List.getElem_toArray, List.getElem_cons_succ, List.getElem_cons_zero, Act.put, List.setIfInBounds_toArray, List.set_cons_zero, List.set_cons_succ]
    refine wpAnyH_take (i := 5) (v := ?_) rfl (by kernel_rfl) (by kernel_rfl) (by kernel_rfl) (fun _ _ _ h => h) (Or.inl ⟨by rfl, ?_⟩) (by assumption) ?_
    rotate_left
    ·intro w hSw; (try dsimp only at hSw); go_simp; (try with_reducible rfl)
    try simp only [List.getElem_toArray, List.getElem_cons_succ, List.getElem_cons_zero, Act.put, List.setIfInBounds_toArray, List.set_cons_zero, List.set_cons_succ]
    refine wpAnyH_take (i := 6) (v := ?_) rfl (by kernel_rfl) (by kernel_rfl) (by kernel_rfl) (fun _ _ _ h => h) (Or.inl ⟨by rfl, ?_⟩) (by assumption) ?_
    rotate_left
    ·intro w hSw; (try dsimp only at hSw); go_simp; (try with_reducible rfl)
    try simp only [List.getElem_toArray, List.getElem_cons_succ, List.getElem_cons_zero, Act.put, List.setIfInBounds_toArray, List.set_cons_zero, List.set_cons_succ]
    refine wpAnyH_ready (rs := [8]) (by kernel_rfl) (by simp) ?_
    refine AllReadyH.cons rfl (fun K hK => ?_) AllReadyH.nil
    refine Za2 rfl ?_
    intro Q' hQ'
    refine ZaX 34 (.tmp 6) (.tmp 39) rfl rfl rfl (.agg #[.int .u64 key2, .int .i64 ep2, .int .i64 sq2, .int .i64 up2, .int .i64 sz2, .slice ma2 1 mc2, .slice ra2 R2.length rc2, .string nt2]) [.int .u64 key2, .int .i64 ep2, .int .i64 sq2, .int .i64 up2, .int .i64 sz2, .slice ma2 1 mc2, .slice ra2 R2.length rc2, .string nt2] rfl rfl rfl (by kernel_rfl) HZ.out (Nat.le_refl 8) (by intro q hq; simp only [List.mem_cons, List.not_mem_nil, or_false] at hq; rcases hq with rfl | rfl | rfl | rfl | rfl | rfl | rfl | rfl <;> rfl) ?_
    have HZ2 := Aside0.mk (set8 (v0 := .int .u64 key2) (v1 := .int .i64 ep2) (v2 := .int .i64 sq2) (v3 := .int .i64 up2) (v4 := .int .i64 sz2) (v5 := .slice ma2 1 mc2) (v6 := .slice ra2 R2.length rc2) (v7 := .string nt2) HZ.out)
    have HGX := Aside0.mk (ZaJ st [.int .u64 key2, .int .i64 ep2, .int .i64 sq2, .int .i64 up2, .int .i64 sz2, .slice ma2 1 mc2, .slice ra2 R2.length rc2, .string nt2] 0 w25)
    refine hQ' _ _ ?_
    clear hQ' Q'
    generalize (w25).setCells st 0 [.int .u64 key2, .int .i64 ep2, .int .i64 sq2, .int .i64 up2, .int .i64 sz2, .slice ma2 1 mc2, .slice ra2 R2.length rc2, .string nt2] = w26 at HZ2 HGX ⊢
    have hnb : st ≠ bo := by have h1 := Hbw.out; have h2 := Hbo.out; omega
    have HO := Aside0.mk (Zay HO.out HGX.out (by intro e; exact hnb (Option.some.inj e).symm))
    have HB := Aside0.mk (HB.out.grown HGX.out HB.out.size (fun j hj => by obtain rfl := Option.some.inj hj; have h1 := Hbw.out; have h2 := Hbo.out; omega))
    have HM := Aside0.mk (HSo.out.offA Hst.out HGX.out).reads.m
    have PO := Aside0.mk (ocells HO.out)
    refine hK.out _ _ PO.out (fun hHeld => ?_)
    clear hK K
    try simp only [List.getElem_toArray, List.getElem_cons_succ, List.getElem_cons_zero, Act.put, List.setIfInBounds_toArray, List.set_cons_zero, List.set_cons_succ]
    refine wpAnyH_take (i := 9) (v := ?_) rfl (by kernel_rfl) (by kernel_rfl) (by kernel_rfl) (fun _ _ _ h => h) (Or.inl ⟨by rfl, ?_⟩) (by assumption) ?_
    rotate_left
    ·intro w hSw; (try dsimp only at hSw); go_simp; (try with_reducible rfl)
    try simp only [List.getElem_toArray, List.getElem_cons_succ, List.getElem_cons_zero, Act.put, List.setIfInBounds_toArray, List.set_cons_zero, List.set_cons_succ]
    refine wpAnyH_done (by kernel_rfl) ?_ _
    refine NoPanic.normal ?_
    have hmm := HM.out
    simp only [HL2.out] at hmm
    obtain ⟨ad, rfl, y0, _, _, _⟩ := ZaF (l := [⟨⟨4, 1⟩, ⟨1, 0⟩⟩]) hmm 0 (by simp)
    simp only [List.getElem_cons_zero, Nat.zero_mul] at y0
    rw [show ad.add 0 = ad from if_pos rfl] at y0
    clear hmm
    have q5 := (Zaa HZ2.out 5).trans (rfl : _ = some (Value.slice (some ad) 1 mc2))
    have p6 := (Zaa HO.out 6).trans (rfl : _ = some (Value.string zs))
    go_wp2_with (fail)
    go_ret
    exact ⟨rfl, HB.out⟩
  ·--27
   have ba := Zab (Below.refl (w19).heap.size (w19)) (.cells #[.int .u64 0, .int .i64 0, .int .i64 0, .int .i64 0, .int .i64 0, .slice none 0 0, .slice none 0 0, .string ⟨#[]⟩] 34)
   have HZ := Aside0.mk (Zas w19 (.cells #[.int .u64 0, .int .i64 0, .int .i64 0, .int .i64 0, .int .i64 0, .slice none 0 0, .slice none 0 0, .string ⟨#[]⟩] 34))
   have Hbw := Aside0.mk (blk_lt HO.out)
   have HB := Aside0.mk (Zae HB.out ba)
   have HO := Aside0.mk (Zag HO.out ba)
   have HR := Aside0.mk (HR.out.below ba)
   have HG := Aside0.mk (Zag HG.out ba)
   clear ba
   go_simp
   generalize (w19).alloc (.cells #[.int .u64 0, .int .i64 0, .int .i64 0, .int .i64 0, .int .i64 0, .slice none 0 0, .slice none 0 0, .string ⟨#[]⟩] 34) = w27 at HB HO HR HG HZ ⊢
   obtain ⟨st, hst⟩ : ∃ g, (w19).heap.size = g := ⟨_, rfl⟩
   rw [hst] at HZ Hbw ⊢
   have PO := Aside0.mk (ocells HO.out)
   refine hK.out _ _ PO.out (fun hHeld => ?_)
   clear hK K
   try simp only [List.getElem_toArray, List.getElem_cons_succ, List.getElem_cons_zero, Act.put, List.setIfInBounds_toArray, List.set_cons_zero, List.set_cons_succ]
   refine wpAnyH_ready (rs := [0]) (by kernel_rfl) (by simp) ?_
   refine AllReadyH.cons rfl (fun K hK => ?_) AllReadyH.nil
   go_simp
   go_at_call 8
   refine (ZbU.calls 7 64 7 1 0 0 64 [] [] ⟨#[]⟩ _ rfl).mono ?_
   rintro e w28 ⟨v5, v6, rfl, hR5, hR6, hb⟩
   obtain ⟨A5, c5, rfl⟩ := Kd.R_slice hR5
   obtain ⟨A6, c6, rfl⟩ := Kd.R_slice hR6
   have HB := Aside0.mk (Zae HB.out hb)
   have HO := Aside0.mk (Zag HO.out hb)
   have HR := Aside0.mk (HR.out.below hb)
   have HG := Aside0.mk (Zag HG.out hb)
   have HZ := Aside0.mk (Zag HZ.out hb)
   have HN := Aside0.mk (ZbX hR5 hR6)
   simp only [List.length_nil]
   clear hR5 hR6 hb
   go_wp2_with (fail)
   have PO := Aside0.mk (ocells HO.out)
   refine hK.out _ _ PO.out (fun hHeld => ?_)
   clear hK K
   try simp only [List.getElem_toArray, List.getElem_cons_succ, List.getElem_cons_zero, Act.put, List.setIfInBounds_toArray, List.set_cons_zero, List.set_cons_succ]
   refine wpAnyH_ready (rs := [3]) (by kernel_rfl) (by simp) ?_
   refine AllReadyH.cons rfl (fun K hK => ?_) AllReadyH.nil
   have hFo := Zbm ⟨7, 1, 0, 0, 64, A5, c5, [], A6, c6, [], ⟨#[]⟩⟩ ⟨7, 1, 1, 1, pa, pc, P, ca, cc, C, zs⟩ [] gs _ HN.out (Zcg A5 c5 A6 c6) HR.out HOo.out rfl rfl (Int.le_refl _) (show (0 : Int) ≤ 1 by omega) (by unfold Ob.cells; simp only [List.length_map]; exact HG.out) (by simp)
   unfold Sb.val Sb.cells at hFo
   simp only [List.length_nil] at hFo
   have HFo := Aside0.mk hFo
   clear hFo
   have Hst := Aside0.mk (blk_lt HZ.out)
   go_simp
   go_at_call 11
   refine HFo.out.mono ?_
   rintro e w29 ⟨s2, rfl, hso, hsok, ⟨l1, l2, l3, l4⟩, hb⟩
   clear l2 l3 l4
   have HB := Aside0.mk (Zae HB.out hb)
   have HO := Aside0.mk (Zag HO.out hb)
   have HR := Aside0.mk (HR.out.below hb)
   have HN := Aside0.mk (HN.out.below hb)
   have HG := Aside0.mk (Zag HG.out hb)
   have HZ := Aside0.mk (Zag HZ.out hb)
   obtain ⟨key2, ep2, sq2, up2, sz2, ma2, mc2, L2, ra2, rc2, R2, nt2⟩ := s2
   simp only at l1
   have hL2 := l1.trans HAp.out
   have HSo := Aside0.mk hso
   clear hso hsok l1 hb HFo
   have hn : L2.length = 1 := by rw [hL2]; rfl
   have HL2 := Aside0.mk hL2
   have HN2 := Aside0.mk hn
   simp only [hn]
   clear hn hL2
   go_wp2_with (fail)
   have PO := Aside0.mk (ocells HO.out)
   refine hK.out _ _ PO.out (fun hHeld => ?_)
   clear hK K
   try simp only [List.getElem_toArray, List.getElem_cons_succ, List.getElem_cons_zero, Act.put, List.setIfInBounds_toArray, List.set_cons_zero, List.set_cons_succ]
   refine wpAnyH_take (i := 4) (v := ?_) rfl (by kernel_rfl) (by kernel_rfl) (by kernel_rfl) (fun _ _ _ h => h) (Or.inl ⟨by rfl, ?_⟩) (by assumption) ?_
   rotate_left
   ·intro w hSw; (try dsimp only at hSw); go_simp; (try with_reducible rfl)
   try simp only [List.getElem_toArray, List.getElem_cons_succ, List.getElem_cons_zero, Act.put, List.setIfInBounds_toArray, List.set_cons_zero, List.set_cons_succ]
   refine wpAnyH_take (i := 5) (v := ?_) rfl (by kernel_rfl) (by kernel_rfl) (by kernel_rfl) (fun _ _ _ h => h) (Or.inl ⟨by rfl, ?_⟩) (by assumption) ?_
   rotate_left
   ·intro w hSw; (try dsimp only at hSw); go_simp; (try with_reducible rfl)
   try simp only [List.getElem_toArray, List.getElem_cons_succ, List.getElem_cons_zero, Act.put, List.setIfInBounds_toArray, List.set_cons_zero, List.set_cons_succ]
   refine wpAnyH_take (i := 6) (v := ?_) rfl (by kernel_rfl) (by kernel_rfl) (by kernel_rfl) (fun _ _ _ h => h) (Or.inl ⟨by rfl, ?_⟩) (by assumption) ?_
   rotate_left
   ·intro w hSw; (try dsimp only at hSw); go_simp; (try with_reducible rfl)
   try simp only [List.getElem_toArray, List.getElem_cons_succ, List.getElem_cons_zero, Act.put, List.setIfInBounds_toArray, List.set_cons_zero, List.set_cons_succ]
   refine wpAnyH_ready (rs := [8]) (by kernel_rfl) (by simp) ?_
   refine AllReadyH.cons rfl (fun K hK => ?_) AllReadyH.nil
   refine Za2 rfl ?_
   intro Q' hQ'
   refine ZaX 34 (.tmp 6) (.tmp 39) rfl rfl rfl (.agg #[.int .u64 key2, .int .i64 ep2, .int .i64 sq2, .int .i64 up2, .int .i64 sz2, .slice ma2 1 mc2, .slice ra2 R2.length rc2, .string nt2]) [.int .u64 key2, .int .i64 ep2, .int .i64 sq2, .int .i64 up2, .int .i64 sz2, .slice ma2 1 mc2, .slice ra2 R2.length rc2, .string nt2] rfl rfl rfl (by kernel_rfl) HZ.out (Nat.le_refl 8) (by intro q hq; simp only [List.mem_cons, List.not_mem_nil, or_false] at hq; rcases hq with rfl | rfl | rfl | rfl | rfl | rfl | rfl | rfl <;> rfl) ?_
   have HZ2 := Aside0.mk (set8 (v0 := .int .u64 key2) (v1 := .int .i64 ep2) (v2 := .int .i64 sq2) (v3 := .int .i64 up2) (v4 := .int .i64 sz2) (v5 := .slice ma2 1 mc2) (v6 := .slice ra2 R2.length rc2) (v7 := .string nt2) HZ.out)
   have HGX := Aside0.mk (ZaJ st [.int .u64 key2, .int .i64 ep2, .int .i64 sq2, .int .i64 up2, .int .i64 sz2, .slice ma2 1 mc2, .slice ra2 R2.length rc2, .string nt2] 0 w29)
   refine hQ' _ _ ?_
   clear hQ' Q'
   generalize (w29).setCells st 0 [.int .u64 key2, .int .i64 ep2, .int .i64 sq2, .int .i64 up2, .int .i64 sz2, .slice ma2 1 mc2, .slice ra2 R2.length rc2, .string nt2] = w30 at HZ2 HGX ⊢
   have hnb : st ≠ bo := by have h1 := Hbw.out; have h2 := Hbo.out; omega
   have HO := Aside0.mk (Zay HO.out HGX.out (by intro e; exact hnb (Option.some.inj e).symm))
   have HB := Aside0.mk (HB.out.grown HGX.out HB.out.size (fun j hj => by obtain rfl := Option.some.inj hj; have h1 := Hbw.out; have h2 := Hbo.out; omega))
   have HM := Aside0.mk (HSo.out.offA Hst.out HGX.out).reads.m
   have PO := Aside0.mk (ocells HO.out)
   refine hK.out _ _ PO.out (fun hHeld => ?_)
   clear hK K
   try simp only [List.getElem_toArray, List.getElem_cons_succ, List.getElem_cons_zero, Act.put, List.setIfInBounds_toArray, List.set_cons_zero, List.set_cons_succ]
   refine wpAnyH_take (i := 9) (v := ?_) rfl (by kernel_rfl) (by kernel_rfl) (by kernel_rfl) (fun _ _ _ h => h) (Or.inl ⟨by rfl, ?_⟩) (by assumption) ?_
   rotate_left
   ·intro w hSw; (try dsimp only at hSw); go_simp; (try with_reducible rfl)
   try simp only [List.getElem_toArray, List.getElem_cons_succ, List.getElem_cons_zero, Act.put, List.setIfInBounds_toArray, List.set_cons_zero, List.set_cons_succ]
   refine wpAnyH_done (by kernel_rfl) ?_ _
   refine NoPanic.normal ?_
   have hmm := HM.out
   simp only [HL2.out] at hmm
   obtain ⟨ad, rfl, y0, _, _, _⟩ := ZaF (l := [⟨⟨4, 1⟩, ⟨1, 0⟩⟩]) hmm 0 (by simp)
   simp only [List.getElem_cons_zero, Nat.zero_mul] at y0
   rw [show ad.add 0 = ad from if_pos rfl] at y0
   clear hmm
   have q5 := (Zaa HZ2.out 5).trans (rfl : _ = some (Value.slice (some ad) 1 mc2))
   have p6 := (Zaa HO.out 6).trans (rfl : _ = some (Value.string zs))
   go_wp2_with (fail)
   go_ret
   exact ⟨rfl, HB.out⟩
 ·--7
  have ba := Zab (Below.refl (wd).heap.size (wd)) (.cells #[.int .u64 0, .int .i64 0, .int .i64 0, .int .i64 0, .int .i64 0, .slice none 0 0, .slice none 0 0, .string ⟨#[]⟩] 34)
  have HZ := Aside0.mk (Zas wd (.cells #[.int .u64 0, .int .i64 0, .int .i64 0, .int .i64 0, .int .i64 0, .slice none 0 0, .slice none 0 0, .string ⟨#[]⟩] 34))
  have Hbw := Aside0.mk (blk_lt HO.out)
  have HB := Aside0.mk (Zae HB.out ba)
  have HO := Aside0.mk (Zag HO.out ba)
  have HR := Aside0.mk (HR.out.below ba)
  clear ba
  go_simp
  generalize (wd).alloc (.cells #[.int .u64 0, .int .i64 0, .int .i64 0, .int .i64 0, .int .i64 0, .slice none 0 0, .slice none 0 0, .string ⟨#[]⟩] 34) = w31 at HB HO HR HZ ⊢
  obtain ⟨st, hst⟩ : ∃ g, (wd).heap.size = g := ⟨_, rfl⟩
  rw [hst] at HZ Hbw ⊢
  have PO := Aside0.mk (ocells HO.out)
  refine hK.out _ _ PO.out (fun hHeld => ?_)
  clear hK K
  try simp only [List.getElem_toArray, List.getElem_cons_succ, List.getElem_cons_zero, Act.put, List.setIfInBounds_toArray, List.set_cons_zero, List.set_cons_succ]
  refine wpAnyH_ready (rs := [0, 2]) (by kernel_rfl) (by simp) ?_
  refine AllReadyH.cons rfl (fun K hK => ?_) (AllReadyH.cons rfl (fun K hK => ?_) AllReadyH.nil)
  ·--70
   go_simp
   go_at_call 8
   refine (ZbU.calls 7 64 7 1 0 0 64 [] [] ⟨#[]⟩ _ rfl).mono ?_
   rintro e w32 ⟨v5, v6, rfl, hR5, hR6, hb⟩
   obtain ⟨A5, c5, rfl⟩ := Kd.R_slice hR5
   obtain ⟨A6, c6, rfl⟩ := Kd.R_slice hR6
   have HB := Aside0.mk (Zae HB.out hb)
   have HO := Aside0.mk (Zag HO.out hb)
   have HR := Aside0.mk (HR.out.below hb)
   have HZ := Aside0.mk (Zag HZ.out hb)
   have HN := Aside0.mk (ZbX hR5 hR6)
   simp only [List.length_nil]
   clear hR5 hR6 hb
   go_wp2_with (fail)
   have PO := Aside0.mk (ocells HO.out)
   refine hK.out _ _ PO.out (fun hHeld => ?_)
   clear hK K
   try simp only [List.getElem_toArray, List.getElem_cons_succ, List.getElem_cons_zero, Act.put, List.setIfInBounds_toArray, List.set_cons_zero, List.set_cons_succ]
   refine wpAnyH_ready (rs := [2]) (by kernel_rfl) (by simp) ?_
   refine AllReadyH.cons rfl (fun K hK => ?_) AllReadyH.nil
   have ba := Zab (Below.refl (w32).heap.size (w32)) (.cells #[.int .u64 7, .int .i64 1, .int .i64 1, .int .i64 1, .slice pa P.length pc, .slice ca C.length cc, .string zs] 40)
   have HG := Aside0.mk (Zas w32 (.cells #[.int .u64 7, .int .i64 1, .int .i64 1, .int .i64 1, .slice pa P.length pc, .slice ca C.length cc, .string zs] 40))
   have HB := Aside0.mk (Zae HB.out ba)
   have HO := Aside0.mk (Zag HO.out ba)
   have HR := Aside0.mk (HR.out.below ba)
   have HN := Aside0.mk (HN.out.below ba)
   have HZ := Aside0.mk (Zag HZ.out ba)
   clear ba
   go_simp
   generalize (w32).alloc (.cells #[.int .u64 7, .int .i64 1, .int .i64 1, .int .i64 1, .slice pa P.length pc, .slice ca C.length cc, .string zs] 40) = w33 at HB HO HR HN HG HZ ⊢
   obtain ⟨gs, hgs⟩ : ∃ g, (w32).heap.size = g := ⟨_, rfl⟩
   rw [hgs] at HG ⊢
   have PO := Aside0.mk (ocells HO.out)
   refine hK.out _ _ PO.out (fun hHeld => ?_)
   clear hK K
   try simp only [List.getElem_toArray, List.getElem_cons_succ, List.getElem_cons_zero, Act.put, List.setIfInBounds_toArray, List.set_cons_zero, List.set_cons_succ]
   refine wpAnyH_ready (rs := [3]) (by kernel_rfl) (by simp) ?_
   refine AllReadyH.cons rfl (fun K hK => ?_) AllReadyH.nil
   have hFo := Zbm ⟨7, 1, 0, 0, 64, A5, c5, [], A6, c6, [], ⟨#[]⟩⟩ ⟨7, 1, 1, 1, pa, pc, P, ca, cc, C, zs⟩ [] gs _ HN.out (Zcg A5 c5 A6 c6) HR.out HOo.out rfl rfl (Int.le_refl _) (show (0 : Int) ≤ 1 by omega) (by unfold Ob.cells; simp only [List.length_map]; exact HG.out) (by simp)
   unfold Sb.val Sb.cells at hFo
   simp only [List.length_nil] at hFo
   have HFo := Aside0.mk hFo
   clear hFo
   have Hst := Aside0.mk (blk_lt HZ.out)
   go_simp
   go_at_call 11
   refine HFo.out.mono ?_
   rintro e w34 ⟨s2, rfl, hso, hsok, ⟨l1, l2, l3, l4⟩, hb⟩
   clear l2 l3 l4
   have HB := Aside0.mk (Zae HB.out hb)
   have HO := Aside0.mk (Zag HO.out hb)
   have HR := Aside0.mk (HR.out.below hb)
   have HN := Aside0.mk (HN.out.below hb)
   have HG := Aside0.mk (Zag HG.out hb)
   have HZ := Aside0.mk (Zag HZ.out hb)
   obtain ⟨key2, ep2, sq2, up2, sz2, ma2, mc2, L2, ra2, rc2, R2, nt2⟩ := s2
   simp only at l1
   have hL2 := l1.trans HAp.out
   have HSo := Aside0.mk hso
   clear hso hsok l1 hb HFo
   have hn : L2.length = 1 := by rw [hL2]; rfl
   have HL2 := Aside0.mk hL2
   have HN2 := Aside0.mk hn
   simp only [hn]
   clear hn hL2
   go_wp2_with (fail)
   have PO := Aside0.mk (ocells HO.out)
   refine hK.out _ _ PO.out (fun hHeld => ?_)
   clear hK K
   try simp only [List.getElem_toArray, List.getElem_cons_succ, List.getElem_cons_zero, Act.put, List.setIfInBounds_toArray, List.set_cons_zero, List.set_cons_succ]
   refine wpAnyH_take (i := 4) (v := ?_) rfl (by kernel_rfl) (by kernel_rfl) (by kernel_rfl) (fun _ _ _ h => h) (Or.inl ⟨by rfl, ?_⟩) (by assumption) ?_
   rotate_left
   ·intro w hSw; (try dsimp only at hSw); go_simp; (try with_reducible rfl)
   try simp only [List.getElem_toArray, List.getElem_cons_succ, List.getElem_cons_zero, Act.put, List.setIfInBounds_toArray, List.set_cons_zero, List.set_cons_succ]
   refine wpAnyH_take (i := 5) (v := ?_) rfl (by kernel_rfl) (by kernel_rfl) (by kernel_rfl) (fun _ _ _ h => h) (Or.inl ⟨by rfl, ?_⟩) (by assumption) ?_
   rotate_left
   ·intro w hSw; (try dsimp only at hSw); go_simp; (try with_reducible rfl)
   try simp only [List.getElem_toArray, List.getElem_cons_succ, List.getElem_cons_zero, Act.put, List.setIfInBounds_toArray, List.set_cons_zero, List.set_cons_succ]
   refine wpAnyH_take (i := 6) (v := ?_) rfl (by kernel_rfl) (by kernel_rfl) (by kernel_rfl) (fun _ _ _ h => h) (Or.inl ⟨by rfl, ?_⟩) (by assumption) ?_
   rotate_left
   ·intro w hSw; (try dsimp only at hSw); go_simp; (try with_reducible rfl)
   try simp only [List.getElem_toArray, List.getElem_cons_succ, List.getElem_cons_zero, Act.put, List.setIfInBounds_toArray, List.set_cons_zero, List.set_cons_succ]
   refine wpAnyH_ready (rs := [8]) (by kernel_rfl) (by simp) ?_
   refine AllReadyH.cons rfl (fun K hK => ?_) AllReadyH.nil
   refine Za2 rfl ?_
   intro Q' hQ'
   refine ZaX 34 (.tmp 6) (.tmp 39) rfl rfl rfl (.agg #[.int .u64 key2, .int .i64 ep2, .int .i64 sq2, .int .i64 up2, .int .i64 sz2, .slice ma2 1 mc2, .slice ra2 R2.length rc2, .string nt2]) [.int .u64 key2, .int .i64 ep2, .int .i64 sq2, .int .i64 up2, .int .i64 sz2, .slice ma2 1 mc2, .slice ra2 R2.length rc2, .string nt2] rfl rfl rfl (by kernel_rfl) HZ.out (Nat.le_refl 8) (by intro q hq; simp only [List.mem_cons, List.not_mem_nil, or_false] at hq; rcases hq with rfl | rfl | rfl | rfl | rfl | rfl | rfl | rfl <;> rfl) ?_
   have HZ2 := Aside0.mk (set8 (v0 := .int .u64 key2) (v1 := .int .i64 ep2) (v2 := .int .i64 sq2) (v3 := .int .i64 up2) (v4 := .int .i64 sz2) (v5 := .slice ma2 1 mc2) (v6 := .slice ra2 R2.length rc2) (v7 := .string nt2) HZ.out)
   have HGX := Aside0.mk (ZaJ st [.int .u64 key2, .int .i64 ep2, .int .i64 sq2, .int .i64 up2, .int .i64 sz2, .slice ma2 1 mc2, .slice ra2 R2.length rc2, .string nt2] 0 w34)
   refine hQ' _ _ ?_
   clear hQ' Q'
   generalize (w34).setCells st 0 [.int .u64 key2, .int .i64 ep2, .int .i64 sq2, .int .i64 up2, .int .i64 sz2, .slice ma2 1 mc2, .slice ra2 R2.length rc2, .string nt2] = w35 at HZ2 HGX ⊢
   have hnb : st ≠ bo := by have h1 := Hbw.out; have h2 := Hbo.out; omega
   have HO := Aside0.mk (Zay HO.out HGX.out (by intro e; exact hnb (Option.some.inj e).symm))
   have HB := Aside0.mk (HB.out.grown HGX.out HB.out.size (fun j hj => by obtain rfl := Option.some.inj hj; have h1 := Hbw.out; have h2 := Hbo.out; omega))
   have HM := Aside0.mk (HSo.out.offA Hst.out HGX.out).reads.m
   have PO := Aside0.mk (ocells HO.out)
   refine hK.out _ _ PO.out (fun hHeld => ?_)
   clear hK K
   try simp only [List.getElem_toArray, List.getElem_cons_succ, List.getElem_cons_zero, Act.put, List.setIfInBounds_toArray, List.set_cons_zero, List.set_cons_succ]
   refine wpAnyH_take (i := 9) (v := ?_) rfl (by kernel_rfl) (by kernel_rfl) (by kernel_rfl) (fun _ _ _ h => h) (Or.inl ⟨by rfl, ?_⟩) (by assumption) ?_
   rotate_left
   ·intro w hSw; (try dsimp only at hSw); go_simp; (try with_reducible rfl)
   try simp only [List.getElem_toArray, List.getElem_cons_succ, List.getElem_cons_zero, Act.put, List.setIfInBounds_toArray, List.set_cons_zero, List.set_cons_succ]
   refine wpAnyH_done (by kernel_rfl) ?_ _
   refine NoPanic.normal ?_
   have hmm := HM.out
   simp only [HL2.out] at hmm
   obtain ⟨ad, rfl, y0, _, _, _⟩ := ZaF (l := [⟨⟨4, 1⟩, ⟨1, 0⟩⟩]) hmm 0 (by simp)
   simp only [List.getElem_cons_zero, Nat.zero_mul] at y0
   rw [show ad.add 0 = ad from if_pos rfl] at y0
   clear hmm
   have q5 := (Zaa HZ2.out 5).trans (rfl : _ = some (Value.slice (some ad) 1 mc2))
   have p6 := (Zaa HO.out 6).trans (rfl : _ = some (Value.string zs))
   go_wp2_with (fail)
   go_ret
   exact ⟨rfl, HB.out⟩
  ·--72
   have ba := Zab (Below.refl (w31).heap.size (w31)) (.cells #[.int .u64 7, .int .i64 1, .int .i64 1, .int .i64 1, .slice pa P.length pc, .slice ca C.length cc, .string zs] 40)
   have HG := Aside0.mk (Zas w31 (.cells #[.int .u64 7, .int .i64 1, .int .i64 1, .int .i64 1, .slice pa P.length pc, .slice ca C.length cc, .string zs] 40))
   have HB := Aside0.mk (Zae HB.out ba)
   have HO := Aside0.mk (Zag HO.out ba)
   have HR := Aside0.mk (HR.out.below ba)
   have HZ := Aside0.mk (Zag HZ.out ba)
   clear ba
   go_simp
   generalize (w31).alloc (.cells #[.int .u64 7, .int .i64 1, .int .i64 1, .int .i64 1, .slice pa P.length pc, .slice ca C.length cc, .string zs] 40) = w36 at HB HO HR HG HZ ⊢
   obtain ⟨gs, hgs⟩ : ∃ g, (w31).heap.size = g := ⟨_, rfl⟩
   rw [hgs] at HG ⊢
   have PO := Aside0.mk (ocells HO.out)
   refine hK.out _ _ PO.out (fun hHeld => ?_)
   clear hK K
   try simp only [List.getElem_toArray, List.getElem_cons_succ, List.getElem_cons_zero, Act.put, List.setIfInBounds_toArray, List.set_cons_zero, List.set_cons_succ]
   refine wpAnyH_ready (rs := [0]) (by kernel_rfl) (by simp) ?_
   refine AllReadyH.cons rfl (fun K hK => ?_) AllReadyH.nil
   go_simp
   go_at_call 8
   refine (ZbU.calls 7 64 7 1 0 0 64 [] [] ⟨#[]⟩ _ rfl).mono ?_
   rintro e w37 ⟨v5, v6, rfl, hR5, hR6, hb⟩
   obtain ⟨A5, c5, rfl⟩ := Kd.R_slice hR5
   obtain ⟨A6, c6, rfl⟩ := Kd.R_slice hR6
   have HB := Aside0.mk (Zae HB.out hb)
   have HO := Aside0.mk (Zag HO.out hb)
   have HR := Aside0.mk (HR.out.below hb)
   have HG := Aside0.mk (Zag HG.out hb)
   have HZ := Aside0.mk (Zag HZ.out hb)
   have HN := Aside0.mk (ZbX hR5 hR6)
   simp only [List.length_nil]
   clear hR5 hR6 hb
   go_wp2_with (fail)
   have PO := Aside0.mk (ocells HO.out)
   refine hK.out _ _ PO.out (fun hHeld => ?_)
   clear hK K
   try simp only [List.getElem_toArray, List.getElem_cons_succ, List.getElem_cons_zero, Act.put, List.setIfInBounds_toArray, List.set_cons_zero, List.set_cons_succ]
   refine wpAnyH_ready (rs := [3]) (by kernel_rfl) (by simp) ?_
   refine AllReadyH.cons rfl (fun K hK => ?_) AllReadyH.nil
   have hFo := Zbm ⟨7, 1, 0, 0, 64, A5, c5, [], A6, c6, [], ⟨#[]⟩⟩ ⟨7, 1, 1, 1, pa, pc, P, ca, cc, C, zs⟩ [] gs _ HN.out (Zcg A5 c5 A6 c6) HR.out HOo.out rfl rfl (Int.le_refl _) (show (0 : Int) ≤ 1 by omega) (by unfold Ob.cells; simp only [List.length_map]; exact HG.out) (by simp)
   unfold Sb.val Sb.cells at hFo
   simp only [List.length_nil] at hFo
   have HFo := Aside0.mk hFo
   clear hFo
   have Hst := Aside0.mk (blk_lt HZ.out)
   go_simp
   go_at_call 11
   refine HFo.out.mono ?_
   rintro e w38 ⟨s2, rfl, hso, hsok, ⟨l1, l2, l3, l4⟩, hb⟩
   clear l2 l3 l4
   have HB := Aside0.mk (Zae HB.out hb)
   have HO := Aside0.mk (Zag HO.out hb)
   have HR := Aside0.mk (HR.out.below hb)
   have HN := Aside0.mk (HN.out.below hb)
   have HG := Aside0.mk (Zag HG.out hb)
   have HZ := Aside0.mk (Zag HZ.out hb)
   obtain ⟨key2, ep2, sq2, up2, sz2, ma2, mc2, L2, ra2, rc2, R2, nt2⟩ := s2
   simp only at l1
   have hL2 := l1.trans HAp.out
   have HSo := Aside0.mk hso
   clear hso hsok l1 hb HFo
   have hn : L2.length = 1 := by rw [hL2]; rfl
   have HL2 := Aside0.mk hL2
   have HN2 := Aside0.mk hn
   simp only [hn]
   clear hn hL2
   go_wp2_with (fail)
   have PO := Aside0.mk (ocells HO.out)
   refine hK.out _ _ PO.out (fun hHeld => ?_)
   clear hK K
   try simp only [List.getElem_toArray, List.getElem_cons_succ, List.getElem_cons_zero, Act.put, List.setIfInBounds_toArray, List.set_cons_zero, List.set_cons_succ]
   refine wpAnyH_take (i := 4) (v := ?_) rfl (by kernel_rfl) (by kernel_rfl) (by kernel_rfl) (fun _ _ _ h => h) (Or.inl ⟨by rfl, ?_⟩) (by assumption) ?_
   rotate_left
   ·intro w hSw; (try dsimp only at hSw); go_simp; (try with_reducible rfl)
   try simp only [List.getElem_toArray, List.getElem_cons_succ, List.getElem_cons_zero, Act.put, List.setIfInBounds_toArray, List.set_cons_zero, List.set_cons_succ]
   refine wpAnyH_take (i := 5) (v := ?_) rfl (by kernel_rfl) (by kernel_rfl) (by kernel_rfl) (fun _ _ _ h => h) (Or.inl ⟨by rfl, ?_⟩) (by assumption) ?_
   rotate_left
   ·intro w hSw; (try dsimp only at hSw); go_simp; (try with_reducible rfl)
   try simp only [List.getElem_toArray, List.getElem_cons_succ, List.getElem_cons_zero, Act.put, List.setIfInBounds_toArray, List.set_cons_zero, List.set_cons_succ]
   refine wpAnyH_take (i := 6) (v := ?_) rfl (by kernel_rfl) (by kernel_rfl) (by kernel_rfl) (fun _ _ _ h => h) (Or.inl ⟨by rfl, ?_⟩) (by assumption) ?_
   rotate_left
   ·intro w hSw; (try dsimp only at hSw); go_simp; (try with_reducible rfl)
   try simp only [List.getElem_toArray, List.getElem_cons_succ, List.getElem_cons_zero, Act.put, List.setIfInBounds_toArray, List.set_cons_zero, List.set_cons_succ]
   refine wpAnyH_ready (rs := [8]) (by kernel_rfl) (by simp) ?_
   refine AllReadyH.cons rfl (fun K hK => ?_) AllReadyH.nil
   refine Za2 rfl ?_
   intro Q' hQ'
   refine ZaX 34 (.tmp 6) (.tmp 39) rfl rfl rfl (.agg #[.int .u64 key2, .int .i64 ep2, .int .i64 sq2, .int .i64 up2, .int .i64 sz2, .slice ma2 1 mc2, .slice ra2 R2.length rc2, .string nt2]) [.int .u64 key2, .int .i64 ep2, .int .i64 sq2, .int .i64 up2, .int .i64 sz2, .slice ma2 1 mc2, .slice ra2 R2.length rc2, .string nt2] rfl rfl rfl (by kernel_rfl) HZ.out (Nat.le_refl 8) (by intro q hq; simp only [List.mem_cons, List.not_mem_nil, or_false] at hq; rcases hq with rfl | rfl | rfl | rfl | rfl | rfl | rfl | rfl <;> rfl) ?_
   have HZ2 := Aside0.mk (set8 (v0 := .int .u64 key2) (v1 := .int .i64 ep2) (v2 := .int .i64 sq2) (v3 := .int .i64 up2) (v4 := .int .i64 sz2) (v5 := .slice ma2 1 mc2) (v6 := .slice ra2 R2.length rc2) (v7 := .string nt2) HZ.out)
   have HGX := Aside0.mk (ZaJ st [.int .u64 key2, .int .i64 ep2, .int .i64 sq2, .int .i64 up2, .int .i64 sz2, .slice ma2 1 mc2, .slice ra2 R2.length rc2, .string nt2] 0 w38)
   refine hQ' _ _ ?_
   clear hQ' Q'
   generalize (w38).setCells st 0 [.int .u64 key2, .int .i64 ep2, .int .i64 sq2, .int .i64 up2, .int .i64 sz2, .slice ma2 1 mc2, .slice ra2 R2.length rc2, .string nt2] = w39 at HZ2 HGX ⊢
   have hnb : st ≠ bo := by have h1 := Hbw.out; have h2 := Hbo.out; omega
   have HO := Aside0.mk (Zay HO.out HGX.out (by intro e; exact hnb (Option.some.inj e).symm))
   have HB := Aside0.mk (HB.out.grown HGX.out HB.out.size (fun j hj => by obtain rfl := Option.some.inj hj; have h1 := Hbw.out; have h2 := Hbo.out; omega))
   have HM := Aside0.mk (HSo.out.offA Hst.out HGX.out).reads.m
   have PO := Aside0.mk (ocells HO.out)
   refine hK.out _ _ PO.out (fun hHeld => ?_)
   clear hK K
   try simp only [List.getElem_toArray, List.getElem_cons_succ, List.getElem_cons_zero, Act.put, List.setIfInBounds_toArray, List.set_cons_zero, List.set_cons_succ]
   refine wpAnyH_take (i := 9) (v := ?_) rfl (by kernel_rfl) (by kernel_rfl) (by kernel_rfl) (fun _ _ _ h => h) (Or.inl ⟨by rfl, ?_⟩) (by assumption) ?_
   rotate_left
   ·intro w hSw; (try dsimp only at hSw); go_simp; (try with_reducible rfl)
   try simp only [List.getElem_toArray, List.getElem_cons_succ, List.getElem_cons_zero, Act.put, List.setIfInBounds_toArray, List.set_cons_zero, List.set_cons_succ]
   refine wpAnyH_done (by kernel_rfl) ?_ _
   refine NoPanic.normal ?_
   have hmm := HM.out
   simp only [HL2.out] at hmm
   obtain ⟨ad, rfl, y0, _, _, _⟩ := ZaF (l := [⟨⟨4, 1⟩, ⟨1, 0⟩⟩]) hmm 0 (by simp)
   simp only [List.getElem_cons_zero, Nat.zero_mul] at y0
   rw [show ad.add 0 = ad from if_pos rfl] at y0
   clear hmm
   have q5 := (Zaa HZ2.out 5).trans (rfl : _ = some (Value.slice (some ad) 1 mc2))
   have p6 := (Zaa HO.out 6).trans (rfl : _ = some (Value.string zs))
   go_wp2_with (fail)
   go_ret
   exact ⟨rfl, HB.out⟩
structure Sizes (U : List S54) : Prop where
 few : U.length ≤ 12
 seq : ∀ i (h : i < U.length), U[i].f0 = (i : Int) + 1
 size : ∀ i (h : i < U.length), 0 ≤ U[i].f1 ∧ U[i].f1 ≤ 12
 live : ∀ i (h : i < U.length), U[i].f2 = 0
theorem Zdf (a b : Int) (ha : 1 ≤ a ∧ a ≤ 1000) (hb : 0 ≤ b ∧ b ≤ 12) (w : World) : Calls Tryz.prog 99 #[.agg #[.int .i64 a, .int .i64 b, .int .i64 0]] w fun e w' => e = .returned (.bool true) ∧ Below w.heap.size w w' :=
 Zcl.calls _ _ _ _ w (by
  unfold Zcl.f gc_seq.f
  rw [if_pos (by omega), decide_eq_true (by omega)]
  rw [Option.bind_some, if_pos rfl, if_pos (by omega), if_pos (by omega), if_pos (by omega), decide_eq_true (by omega)])
set_option maxRecDepth 100000 in
set_option maxHeartbeats 4000000 in
theorem gcCheck_calls (A : Option Addr) (c : Nat) (U : List S54) (w : World) (hr : Kd.C k54 w A U.length U) (hc : U.length ≤ c) (hU : Sizes U) : Calls Tryz.prog 50 #[.slice A U.length c] w fun e w' => e = .returned (.int .i64 0) ∧ Below w.heap.size w w' := by
 have hu36 := Tryz.underlying36
 have hu54 := Tryz.underlying54
 have hu43 := Tryz.underlying43
 have HR := Aside0.mk hr
 have HU := Aside0.mk hU
 have hf := hU.few
 clear hr hU
 go_enter Tryz.func50, Tryz.ntmps50
 go_wp2_with (fail)
 go_loopg [7] U.length (fun kx v7 wr => ∃ i : Nat, v7 = .int .i64 (i : Int) ∧ i ≤ U.length ∧ U.length - i ≤ kx ∧ Aside0 (Below w.heap.size w wr))
 case atStart => exact ⟨0, rfl, Nat.zero_le _, by omega, ⟨Below.refl _ _⟩⟩
 case round =>
  obtain ⟨i, rfl, hi, hik, HB⟩ := hrel
  by_cases hlt : i < U.length
  ·have hi1 : i + 1 ≤ U.length := hlt
   obtain ⟨ad, rfl, h0, h1, h2⟩ := cells54 (Kd.C_below HR.out HB.out) i hlt
   have e0 := HU.out.seq i hlt
   have e1 := HU.out.size i hlt
   have e2 := HU.out.live i hlt
   rw [e0] at h0
   rw [e2] at h2
   by_cases hz : i = 0
   ·have hd : decide (0 < (i : Int)) = false := decide_eq_false (by omega)
    have hd' : ¬ 0 < i := by omega
    as_aux_lemma =>
     generalize U[i].f1 = n at h1 e1
     have hM := fun W => Zdf ((i : Int) + 1) n (by omega) e1 W
     have HZ := Aside0.mk hz
     clear hz e0 e1 e2
     go_wp2_with (fail)
     have k0 := Zap ((Zaa (Zas wr (.cells #[.int .i64 ((i : Int) + 1), .int .i64 n, .int .i64 0] 54)) 0).trans rfl)
     have k1 := Zap ((Zaa (Zas wr (.cells #[.int .i64 ((i : Int) + 1), .int .i64 n, .int .i64 0] 54)) 1).trans rfl)
     have k2 := Zap ((Zaa (Zas wr (.cells #[.int .i64 ((i : Int) + 1), .int .i64 n, .int .i64 0] 54)) 2).trans rfl)
     clear h0 h1 h2
     refine Zav (by kernel_rfl) (by kernel_rfl) ?_
     repeat (refine WQ.step (fun K hK => ?_); go_simp; first | (refine hK _ ?_; clear hK K) | (apply Exists.intro; refine ⟨fun _ => ?_, hK _ ?_⟩; (go_at_call 99; exact abv_of (hM _)); clear hK K))
     refine WQ.nil ?_
     rintro w5 ⟨⟨w5', hb5⟩, rfl⟩
     clear k0 k1 k2
     go_wp2_with (fail)
     refine Zav (by kernel_rfl) (by kernel_rfl) ?_
     repeat (refine WQ.step (fun K hK => ?_); go_simp; first | (refine hK _ ?_; clear hK K) | (apply Exists.intro; refine ⟨fun _ => ?_, hK _ ?_⟩; (fail); clear hK K))
     refine WQ.nil ?_
     rintro w6 ⟨⟨w6', hb6⟩, rfl⟩
     go_wp2_with (fail)
     go_roundg (gk - 1)
     case measure => omega
     case rel => exact ⟨i + 1, by go_num, hi1, by omega, ⟨Zae (Zae (Zab HB.out _) hb5) hb6⟩⟩
   ·obtain ⟨j, rfl⟩ : ∃ j, i = j + 1 := ⟨i - 1, by omega⟩
    have hw1 : IntKind.i64.wrap (((j + 1 : Nat) : Int) - 1) = (j : Int) := (IntWalk.i64_in _ (by omega)).trans (by omega)
    obtain ⟨ad', hA, g0, gx, gy⟩ := cells54 (Kd.C_below HR.out HB.out) j (by omega)
    obtain rfl := Option.some.inj hA
    clear hA gx gy
    rw [HU.out.seq j (by omega)] at g0
    as_aux_lemma =>
     generalize U[j + 1].f1 = n at h1 e1
     have hM := fun W => Zdf (((j + 1 : Nat) : Int) + 1) n (by omega) e1 W
     have hd2 : decide (((j + 1 : Nat) : Int) + 1 < (j : Int) + 1) = false := decide_eq_false (by omega)
     have hd3 : ((j : Int) + 1 + 1 == (j : Int) + 1) = false := beq_eq_false_iff_ne.2 (by omega)
     have hd4 : decide ((j : Int) + 1 + 1 < (j : Int) + 1) = false := decide_eq_false (by omega)
     clear hz e1 e2
     go_wp2_with (fail)
     have ba := Zab (Below.refl _ wr) (.cells #[.int .i64 (((j + 1 : Nat) : Int) + 1), .int .i64 n, .int .i64 0] 54)
     have q0' := Zam ba g0
     have q0 := Zap q0'
     have nb := Zas wr (.cells #[.int .i64 (((j + 1 : Nat) : Int) + 1), .int .i64 n, .int .i64 0] 54)
     have k0 := Zap ((Zaa nb 0).trans rfl)
     have k1 := Zap ((Zaa nb 1).trans rfl)
     have k2 := Zap ((Zaa nb 2).trans rfl)
     have Q0 := Aside0.mk q0'
     have K0 := Aside0.mk nb
     have hjj : (j : Int) < (U.length : Int) := by omega
     have hjl : j < U.length := by omega
     have hjn : decide ((j : Int) < 0) = false := decide_eq_false (by omega)
     have hw2 : IntKind.i64.wrap (j : Int) = (j : Int) := IntWalk.i64_in _ (by omega)
     have hj0 : (0 : Int) < (j : Int) + 1 := by omega
     clear g0 h0 h1 h2 ba q0' nb
     refine Zav (by kernel_rfl) (by kernel_rfl) ?_
     repeat (refine WQ.step (fun K hK => ?_); go_simp; first | (refine hK _ ?_; clear hK K) | (apply Exists.intro; refine ⟨fun _ => ?_, hK _ ?_⟩; (go_at_call 99; exact abv_of (hM _)); clear hK K))
     refine WQ.nil ?_
     rintro w5 ⟨⟨w5', hb5⟩, rfl⟩
     have q5 := Zap (Zam hb5 Q0.out)
     have k5 := Zap ((Zaa (Zag K0.out hb5) 0).trans (rfl : _ = some (Value.int .i64 (((j + 1 : Nat) : Int) + 1))))
     clear k0 k1 k2 q0
     go_wp2_with (fail)
     refine Zav (by kernel_rfl) (by kernel_rfl) ?_
     repeat (refine WQ.step (fun K hK => ?_); go_simp; first | (refine hK _ ?_; clear hK K) | (apply Exists.intro; refine ⟨fun _ => ?_, hK _ ?_⟩; (fail); clear hK K))
     refine WQ.nil ?_
     rintro w6 ⟨⟨w6', hb6⟩, rfl⟩
     clear q5 k5
     go_wp2_with (fail)
     go_roundg (gk - 1)
     case measure => omega
     case rel => exact ⟨j + 1 + 1, by go_num, hi1, by omega, ⟨Zae (Zae (Zab HB.out _) hb5) hb6⟩⟩
  ·go_wp2_with (fail)
   go_ret
   exact ⟨rfl, HB.out⟩
def cmp2 (a b : Int) : Int := if a < b then -1 else if a > b then 1 else 0
theorem cmp2_f (a b : Int) : ZaQ.f a b = some (cmp2 a b) := cmpA_f ⟨a, 0⟩ ⟨b, 0⟩
set_option maxRecDepth 100000 in
theorem Zcy (u0 u1 u2 n : Int) (w : World) : Calls Tryz.prog 53 #[.agg #[.int .i64 u0, .int .i64 u1, .int .i64 u2], .int .i64 n] w fun e w' => e = .returned (.int .i64 (cmp2 u0 n)) ∧ Below w.heap.size w w' := by
 have hu54 := Tryz.underlying54
 have H := fun W => ZaQ.calls u0 n (cmp2 u0 n) W (cmp2_f u0 n)
 have z0 := Zas w (.cells #[.int .i64 u0, .int .i64 u1, .int .i64 u2] 54)
 have c0 := (Zaa z0 0).trans (rfl : _ = some (Value.int .i64 u0))
 clear z0
 generalize cmp2 u0 n = r at H ⊢
 go_enter Tryz.func53, Tryz.ntmps53
 go_wp2_with (fail)
 refine (H _).mono ?_
 rintro e w' ⟨rfl, hb⟩
 go_wp2_with (fail)
 go_ret
 exact ⟨rfl, Zae (Zab (Below.refl _ _) _) hb.below⟩
set_option maxRecDepth 100000 in
set_option maxHeartbeats 4000000 in
theorem bs54_calls (A : Option Addr) (c : Nat) (U : List S54) (q : Nat) (w : World) (hr : Kd.C k54 w A U.length U) (hU : Sizes U) (hq : q < U.length) :
  Calls Tryz.prog 52 #[.slice A U.length c, .int .i64 ((q : Int) + 1), .func (.func 53) #[] #[]] w fun e w' => e = .returned (.tuple #[.int .i64 (q : Int), .bool true]) ∧ Below w.heap.size w w' := by
 have hu36 := Tryz.underlying36
 have hu54 := Tryz.underlying54
 have eg : ∀ args w, (callFunc 53 args).run Tryz.prog w = .ok (.enter 53 args) w := enters_of Tryz.func53 (by kernel_rfl) rfl
 have HR := Aside0.mk hr
 have HU := Aside0.mk hU
 have hf := hU.few
 clear hr hU
 go_enter Tryz.func52, Tryz.ntmps52
 go_wp2_with (fail)
 go_loopg [9, 10] U.length (fun kx v9 v10 wr => ∃ i j : Nat, v9 = .int .i64 (i : Int) ∧ v10 = .int .i64 (j : Int) ∧ i ≤ q ∧ q ≤ j ∧ j ≤ U.length ∧ j - i ≤ kx ∧ Aside0 (Below w.heap.size w wr))
 case atStart => exact ⟨0, U.length, rfl, rfl, Nat.zero_le _, by omega, Nat.le_refl _, by omega, ⟨Below.refl _ _⟩⟩
 case round =>
  obtain ⟨i, j, rfl, rfl, hiq, hqj, hj, hk, HB⟩ := hrel
  by_cases hlt : i < j
  ·obtain ⟨h, hh⟩ : ∃ h, h = (i + j) / 2 := ⟨_, rfl⟩
   have hh1 : i ≤ h := by omega
   have hh2 : h < j := by omega
   have hhl : h < U.length := by omega
   obtain ⟨ad, rfl, h0, h1, h2⟩ := cells54 (Kd.C_below HR.out HB.out) h hhl
   have hs := HU.out.seq h hhl
   have hdiv : ((i : Int) + (j : Int)) / 2 = (h : Int) := by omega
   have hd1 : decide (i < j) = true := decide_eq_true hlt
   have HH := Aside0.mk hh
   clear hh
   rw [hs] at h0
   clear hs
   by_cases hq2 : h < q
   ·have hc : cmp2 ((h : Int) + 1) ((q : Int) + 1) = -1 := by unfold cmp2; rw [if_pos (by omega)]
    have hI := fun u1 u2 W => Zcy ((h : Int) + 1) u1 u2 ((q : Int) + 1) W
    rw [hc] at hI
    clear hc
    as_aux_lemma =>
     generalize U[h].f1 = y1 at h1
     generalize U[h].f2 = y2 at h2
     go_wp2_with (fail)
     refine (hI _ _ _).mono ?_
     rintro e w2 ⟨rfl, hb2⟩
     go_wp2_with (fail)
     go_roundg (gk - 1)
     case measure => omega
     case rel => exact ⟨h + 1, j, by go_num, rfl, by omega, hqj, hj, by omega, ⟨Zae HB.out hb2⟩⟩
   ·obtain ⟨r, hr0, hc⟩ : ∃ r : Int, decide (r < 0) = false ∧ cmp2 ((h : Int) + 1) ((q : Int) + 1) = r := ⟨_, by unfold cmp2; rw [if_neg (by omega)]; split <;> rfl, rfl⟩
    have hI := fun u1 u2 W => Zcy ((h : Int) + 1) u1 u2 ((q : Int) + 1) W
    rw [hc] at hI
    clear hc
    as_aux_lemma =>
     generalize U[h].f1 = y1 at h1
     generalize U[h].f2 = y2 at h2
     go_wp2_with (fail)
     refine (hI _ _ _).mono ?_
     rintro e w2 ⟨rfl, hb2⟩
     go_wp2_with (fail)
     go_roundg (gk - 1)
     case measure => omega
     case rel => exact ⟨i, h, rfl, rfl, hiq, by omega, by omega, by omega, ⟨Zae HB.out hb2⟩⟩
  ·have hie : i = q := by omega
   subst hie
   have hje : j = i := by omega
   subst hje
   obtain ⟨ad, rfl, h0, h1, h2⟩ := cells54 (Kd.C_below HR.out HB.out) j hq
   have hs := HU.out.seq j hq
   have hd1 : decide (j < U.length) = true := decide_eq_true hq
   rw [hs] at h0
   clear hs
   have hc : cmp2 ((j : Int) + 1) ((j : Int) + 1) = 0 := by unfold cmp2; rw [if_neg (by omega), if_neg (by omega)]
   have hI := fun u1 u2 W => Zcy ((j : Int) + 1) u1 u2 ((j : Int) + 1) W
   rw [hc] at hI
   clear hc
   as_aux_lemma =>
    generalize U[j].f1 = y1 at h1
    generalize U[j].f2 = y2 at h2
    go_wp2_with (fail)
    refine (hI _ _ _).mono ?_
    rintro e w2 ⟨rfl, hb2⟩
    go_wp2_with (fail)
    go_ret2
    exact ⟨by simp, Zae HB.out hb2⟩
end Go.Proofs.YtpfnaknmalojkaaGreat.PTopRows
