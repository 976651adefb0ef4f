/- YtpfnaknmalojkaaGreatC10: what this claim rests on. Words and contracts are those of the kit's print (print.sh wrote them, those that nothing here reaches are left out); all else is own work. Conditions: what each theorem says. -/
import Derived.Test.YtpfnaknmalojkaaGreatC9
import Derived.Deep.RegionHeld3
import Derived.Laws.EntriesVeiled
import Derived.WideKeyEntry
namespace Go.Proofs.YtpfnaknmalojkaaGreat.PTopRows
open Go.RowKit Go.Maps Go.Sort Go.Proofs.YtpfnaknmalojkaaGreatW.PrintWords Go.Proofs.YtpfnaknmalojkaaGreatW.PrintLast Go.Proofs.YtpfnaknmalojkaaGreatW.PrintMore
set_option linter.unusedVariables false
set_option linter.unusedSimpArgs false
set_option maxRecDepth 100000 in
set_option maxHeartbeats 4000000 in
theorem over121_calls (x : S86) (b : Nat) (n : Int) (hx : MayE x) (w : World) (hc : w.cell? ⟨b, 4, none⟩ = some (.int .i64 n)) :
  Calls Tryz.prog 121 #[.agg #[.int .i64 x.f0.f0, .int .i64 x.f0.f1, .int .i64 x.f1.f0, .int .i64 x.f1.f1], .pointer (some ⟨b, 0, none⟩)] w fun e w' => e = .returned (.bool (decide (n < endE x))) ∧ Below w.heap.size w w' := by
 have hu34 := Tryz.underlying34
 have hu3 := Tryz.underlying3
 have hu86 := Tryz.underlying86
 have hu70 := Tryz.underlying70
 obtain ⟨⟨x0, x1⟩, ⟨x2, x3⟩⟩ := x
 unfold endE
 simp only
 have hE := fun W => ZaN x0 x1 ⟨hx.1, hx.2.1, hx.2.2.1⟩ W
 have hbx := Zas w (.cells #[.int .i64 x0, .int .i64 x1, .int .i64 x2, .int .i64 x3] 86)
 have ba := Zab (Below.refl _ w) (.cells #[.int .i64 x0, .int .i64 x1, .int .i64 x2, .int .i64 x3] 86)
 have p0 := Zap ((Zaa hbx 0).trans (rfl : _ = some (Value.int .i64 x0)))
 have p1 := Zap ((Zaa hbx 1).trans (rfl : _ = some (Value.int .i64 x1)))
 have p4 := Zap (Zam ba hc)
 have HBA := Aside0.mk ba
 clear hbx ba hx hc
 go_enter Tryz.func121, Tryz.ntmps121
 go_wp2_with (fail)
 refine Zav (by kernel_rfl) (by kernel_rfl) ?_
 repeat (refine WQ.step (fun K hK => ?_); go_simp; first | (refine hK _ ?_; clear hK K) | (apply Exists.intro; refine ⟨fun _ => ?_, hK _ ?_⟩; (go_at_call 24; exact abv_of (hE _)); clear hK K))
 refine WQ.nil ?_
 rintro w5 ⟨⟨w5', hb5⟩, rfl⟩
 go_wp2_with (fail)
 go_ret
 exact ⟨rfl, Zae HBA.out hb5⟩
theorem any_over {n : Int} : ∀ {L : List S86}, (∀ x ∈ L, endE x ≤ n) → L.any (fun x => decide (n < endE x)) = false := fun {L} h => by
 rw [List.any_eq_false]
 intro x hx
 have := h x hx
 simp
 omega
set_option maxRecDepth 100000 in
set_option maxHeartbeats 4000000 in
theorem mapped_calls (s : Sb) (ns : List Int) (w : World) (hr : s.Reads w) (hs : s.Ok ns) : Calls Tryz.prog 81 #[s.val] w fun e w' => e = .returned (.bool true) ∧ Below w.heap.size w w' := by
 have HR := Aside0.mk hr.m
 have HRl := Aside0.mk hr.ml
 have HL := Aside0.mk hs.inv.ok
 have hlen := Aside0.mk (show s.L.length ≤ 1000 by have := hs.inv.ok.len; omega)
 have hz := hs.size
 have hu34 := Tryz.underlying34
 obtain ⟨key, ep, sq, up, sz, ma, mc, L, ra, rc, R, nt⟩ := s
 simp only at HR HRl HL hz hlen
 subst hz
 unfold Sb.val Sb.cells
 simp only
 clear hr hs
 generalize R.length = nR
 have ba := Zab (Below.refl _ w) (.cells #[.int .u64 key, .int .i64 ep, .int .i64 sq, .int .i64 up, .int .i64 64, .slice ma L.length mc, .slice ra nR rc, .string nt] 34)
 have hbx := Zas w (.cells #[.int .u64 key, .int .i64 ep, .int .i64 sq, .int .i64 up, .int .i64 64, .slice ma L.length mc, .slice ra nR rc, .string nt] 34)
 have HBX := Aside0.mk hbx
 have HBA := Aside0.mk ba
 clear ba hbx
 go_enter Tryz.func81, Tryz.ntmps81
 go_wp2_with (fail)
 generalize w.alloc (.cells #[.int .u64 key, .int .i64 ep, .int .i64 sq, .int .i64 up, .int .i64 64, .slice ma L.length mc, .slice ra nR rc, .string nt] 34) = w1 at HBX HBA ⊢
 have HBD := Aside0.mk (Zae HBA.out (ZaV (Below.refl _ w1)))
 have HXD := Aside0.mk (Zag HBX.out (ZaV (Below.refl _ w1)))
 have q5 := (Zaa HXD.out 5).trans (rfl : _ = some (Value.slice ma L.length mc))
 go_region_held3 (fun W => W.cell? ⟨w.heap.size, 5, none⟩ = some (.slice ma L.length mc)) (assumption) (first | ((go_at_call 120; refine (few_calls ma mc L _ (Kd.C_below HR.out HBD.out) HRl.out HL.out).mono ?_; rintro e w2 ⟨A1, c1, rfl, hc1, hC1, hb1⟩; have HB2 := Aside0.mk (Zae HBD.out hb1); have HX2 := Aside0.mk (Zag HXD.out hb1); have q5b := (Zaa HX2.out 5).trans (rfl : _ = some (Value.slice ma L.length mc)); have HC1 := Aside0.mk hC1; have Hc1 := Aside0.mk hc1; clear hC1 hc1 hb1)) | ((go_at_call 119; refine (equal_calls _ _ _ _ L _ HC1.out Hc1.out (Kd.C_below HR.out HB2.out) HRl.out hlen.out).mono ?_; rintro e w3 ⟨rfl, hb1⟩; have HB3 := Aside0.mk (Zae HB2.out hb1); have HX3 := Aside0.mk (Zag HX2.out hb1); have q5c := (Zaa HX3.out 5).trans (rfl : _ = some (Value.slice ma L.length mc)); clear hb1)) | ((go_at_call 72; refine (Zca 121 #[.pointer (some ⟨w.heap.size, 0, none⟩)] (fun x => decide (64 < endE x)) ma mc L _ (Kd.C_below HR.out HB3.out) (fun _ _ => rfl) (fun W x hx hb => over121_calls x w.heap.size 64 (HL.out.canon.1 x hx) W ((Zaa (Zag HX3.out hb) 4).trans rfl))).mono ?_; rintro e w4 ⟨rfl, hb1⟩; have HB4 := Aside0.mk (Zae HB3.out hb1); have HX4 := Aside0.mk (Zag HX3.out hb1); have q5d := (Zaa HX4.out 5).trans (rfl : _ = some (Value.slice ma L.length mc)); rw [any_over HL.out.ends]; clear hb1)))
 go_wp2_with (fail)
 go_ret
 exact ⟨rfl, HB4.out⟩
theorem Sb.Ok.rowsMay {s : Sb} {ns : List Int} (h : s.Ok ns) : (∀ x ∈ s.R, MayR x) ∧ s.R.length ≤ 12 := by
 rw [h.rows]
 exact ⟨rowsOf_may h.inv (by have := h.few; omega), by rw [ZaK]; exact h.few⟩
set_option maxRecDepth 100000 in
set_option maxHeartbeats 8000000 in
theorem Zb9 (s : Sb) (ns : List Int) (w : World) (hr : s.Reads w) (ho : s.Ok ns) : Calls Tryz.prog 40 #[s.val] w fun e w' => ∃ t : ByteArray, e = .returned (.string t) ∧ t.size ≤ 5000 ∧ Below w.heap.size w w' := by
 have hu34 := Tryz.underlying34
 have hu158 := Tryz.underlying158
 have hu189 := Tryz.underlying189
 have hu191 := Tryz.underlying191
 have hu30 := Tryz.underlying30
 have hu9 := Tryz.underlying9
 have hu3 := Tryz.underlying3
 have hu31 := Tryz.underlying31
 have hu32 := Tryz.underlying32
 have hu86 := Tryz.underlying86
 have hu51 := Tryz.underlying51
 have hu70 := Tryz.underlying70
 have hu84 := Tryz.underlying84
 have HR := Aside0.mk hr
 have HP := Aside0.mk ho.inv.ok
 have HRM := Aside0.mk ho.rowsMay.1
 have hlr := ho.rowsMay.2
 have hll := ho.inv.ok.len
 have hnt := ho.note
 have hk := ho.key
 have hee := ho.epoch
 have hse : 0 ≤ s.seq ∧ s.seq ≤ 12 := by rw [ho.seq]; have := ho.few; omega
 have hup := ho.upto
 have hsz := ho.size
 obtain ⟨key, ep, sq, up, sz, ma, mc, L, ra, rc, R, nt⟩ := s
 simp only at hnt hk hee hse hup hlr hll HP HRM hsz
 subst hsz
 unfold Sb.val Sb.cells
 simp only
 clear hr ho
 go_enter Tryz.func40, Tryz.ntmps40
 go_wp2_with (fail)
 have ba := Zab (Below.refl _ w) (.cells #[.int .u64 key, .int .i64 ep, .int .i64 sq, .int .i64 up, .int .i64 64, .slice ma L.length mc, .slice ra R.length rc, .string nt] 34)
 have hbx := Zas w (.cells #[.int .u64 key, .int .i64 ep, .int .i64 sq, .int .i64 up, .int .i64 64, .slice ma L.length mc, .slice ra R.length rc, .string nt] 34)
 have hs0 : (w.alloc (.cells #[.int .u64 key, .int .i64 ep, .int .i64 sq, .int .i64 up, .int .i64 64, .slice ma L.length mc, .slice ra R.length rc, .string nt] 34)).heap.size = w.heap.size + 1 := by simp
 generalize w.alloc (.cells #[.int .u64 key, .int .i64 ep, .int .i64 sq, .int .i64 up, .int .i64 64, .slice ma L.length mc, .slice ra R.length rc, .string nt] 34) = W0 at ba hbx hs0 ⊢
 have bb := Zab (Below.refl _ W0) (.cells #[.slice none 0 0] 158)
 have hnb := Zas W0 (.cells #[.slice none 0 0] 158)
 have hs1 : (W0.alloc (.cells #[.slice none 0 0] 158)).heap.size = w.heap.size + 1 + 1 := by simp [hs0]
 rw [hs0] at hnb
 have hbx1 := Zag hbx bb
 generalize W0.alloc (.cells #[.slice none 0 0] 158) = W1 at bb hnb hs1 hbx1 ⊢
 rw [← hs1]
 have ho1 : OutAt W1 w.heap.size (w.heap.size + 1) 0 := ⟨by omega, _, [], hnb, Kd.R_nil _ _ _ _ _, rfl⟩
 have HB1 := Aside0.mk (Zae ba bb)
 have HBX := Aside0.mk hbx1
 have HBS := Aside0.mk (show w.heap.size ≤ W1.heap.size by omega)
 have hrw := raw1A w.heap.size (w.heap.size + 1) 0 ⟨#[67, 75, 80, 49]⟩ W1 ho1 HBS.out (by show 0 + 4 ≤ _; omega)
 clear ba bb hbx hbx1 hnb hs0 hs1 ho1
 obtain ⟨B, hB⟩ : ∃ B, w.heap.size = B := ⟨_, rfl⟩
 rw [hB] at hrw HBX HBS HB1 ⊢
 obtain ⟨g, hg⟩ : ∃ g, B + 1 = g := ⟨_, rfl⟩
 rw [hg] at hrw ⊢
 clear hg
 refine hrw.mono ?_
 clear hrw
 rintro e w2 ⟨rfl, ho2, hb2⟩
 have ho2 : OutAt w2 B g 4 := ho2
 have HB2 := Aside0.mk hb2
 have HS2 := Aside0.mk (Nat.le_trans HBS.out hb2.bel.size)
 have hx2 := HB2.out.kept _ _ _ (by decide) (by decide) HBX.out
 have c0 := (Zaa hx2 0).trans rfl
 have HFx := Aside0.mk (Zb4 B g 4 8 key (by omega) w2 ho2 HS2.out (by omega))
 clear ho2 hb2 hx2
 go_wp2_with (fail)
 refine HFx.out.mono ?_
 rintro e w3 ⟨rfl, ho3, hb3⟩
 have HB3 := Aside0.mk (HB2.out.trans hb3)
 have HS3 := Aside0.mk (Nat.le_trans HBS.out HB3.out.bel.size)
 have hx3 := HB3.out.kept _ _ _ (by decide) (by decide) HBX.out
 have d1 := (Zaa hx3 1).trans rfl
 have d2 := (Zaa hx3 2).trans rfl
 have d3 := (Zaa hx3 3).trans rfl
 have d4 := (Zaa hx3 4).trans rfl
 have d5 := (Zaa hx3 5).trans rfl
 have HN := Aside0.mk (numbers90A B g 12 [ep, sq, up, 64, (L.length : Int)] #[.int .i64 ep, .int .i64 sq, .int .i64 up, .int .i64 64, .int .i64 (L.length : Int)] rfl 5 rfl (by
  intro x hx
  simp only [List.mem_cons, List.not_mem_nil, or_false] at hx
  rcases hx with rfl | rfl | rfl | rfl | rfl <;> exact ⟨by omega, by omega⟩) w3 ho3 HS3.out (by omega) (by simp))
 clear ho3 hb3 hx3 HFx c0
 go_wp2_with (fail)
 refine HN.out.mono ?_
 rintro e w4 ⟨k4, rfl, hk4, ho4, hb4⟩
 have HB4 := Aside0.mk (HB3.out.trans hb4)
 have HO4 := Aside0.mk ho4
 have hx4 := HB4.out.kept _ _ _ (by decide) (by decide) HBX.out
 have e5 := (Zaa hx4 5).trans rfl
 clear ho4 hb4 hx4 HN d1 d2 d3 d4 d5
 go_wp2_with (fail)
 go_loopg [29] L.length (fun kx v29 wr => ∃ i : Nat, v29 = .int .i64 (i : Int) ∧ i ≤ L.length ∧ L.length - i ≤ kx ∧ (∃ k, k ≤ 36 * i ∧ Aside0 (OutAt wr B g (12 + k4 + k))) ∧ Aside0 (BK B W1 wr))
 case atStart => exact ⟨0, rfl, Nat.zero_le _, by omega, ⟨0, by omega, HO4⟩, HB4⟩
 case round =>
  obtain ⟨i, rfl, hi, hik, ⟨k, hk, HO⟩, HB⟩ := hrel
  by_cases hlt : i < L.length
  ·have hi1 : i + 1 ≤ L.length := hlt
   have hBr : Below w.heap.size w wr := by
    rw [hB]
    exact HB1.out.trans HB.out.bel
   obtain ⟨ad, e, y0, y1, y2, y3⟩ := ZaF (Kd.C_below HR.out.m hBr) i hlt
   have e : ma = some ad := e
   subst e
   have hpm := HP.out.canon.1 L[i] (List.getElem_mem hlt)
   clear hBr
   as_aux_lemma =>
    generalize L[i] = x at y0 y1 y2 y3 hpm
    obtain ⟨⟨x0, x1⟩, ⟨x2, x3⟩⟩ := x
    simp only at y0 y1 y2 y3
    obtain ⟨p1, p2, p3, p4, p5, p6, p7⟩ := hpm
    simp only at p1 p2 p3 p4 p5 p6 p7
    have ba := Zab (Below.refl _ wr) (.cells #[.int .i64 x0, .int .i64 x1, .int .i64 x2, .int .i64 x3] 86)
    have hoa := HO.out.below ba
    have HBA := Aside0.mk (HB.out.trans (BK.of_below ba (Nat.le_trans HBS.out HB.out.bel.size)))
    have HOA := Aside0.mk hoa
    clear ba hoa
    have hsz : (wr.alloc (.cells #[.int .i64 x0, .int .i64 x1, .int .i64 x2, .int .i64 x3] 86)).heap.size = wr.heap.size + 1 := by simp
    have HSZ := Aside0.mk hsz
    clear hsz
    go_wp2_with (fail)
    generalize wr.alloc (.cells #[.int .i64 x0, .int .i64 x1, .int .i64 x2, .int .i64 x3] 86) = wa at HBA HOA HSZ ⊢
    rw [← HSZ.out]
    have hnn := numbers90A B g (12 + k4 + k) [x0, x1, x2, x3] #[.int .i64 x0, .int .i64 x1, .int .i64 x2, .int .i64 x3] rfl 4 rfl (by
     intro x hx
     simp only [List.mem_cons, List.not_mem_nil, or_false] at hx
     rcases hx with rfl | rfl | rfl | rfl <;> exact ⟨by omega, by omega⟩) wa HOA.out (Nat.le_trans HBS.out HBA.out.bel.size) (by omega) (by simp)
    refine hnn.mono ?_
    clear hnn
    rintro e w6 ⟨k6, rfl, hk6, ho6, hb6⟩
    have HB6 := Aside0.mk (HBA.out.trans hb6)
    have HO6 := Aside0.mk ho6
    clear ho6 hb6
    go_wp2_with (fail)
    go_roundg (gk - 1)
    case measure => omega
    case rel => exact ⟨i + 1, by go_num, hi1, by omega, ⟨k + k6, by omega, ⟨by rw [← Nat.add_assoc]; exact HO6.out⟩⟩, HB6⟩
  ·have hil : i = L.length := by omega
   subst hil
   have HSr := Aside0.mk (Nat.le_trans HBS.out HB.out.bel.size)
   have hx5 := HB.out.kept _ _ _ (by decide) (by decide) HBX.out
   have e6 := (Zaa hx5 6).trans rfl
   have HN := Aside0.mk (numbers90A B g (12 + k4 + k) [(R.length : Int)] #[.int .i64 (R.length : Int)] rfl 1 rfl (by
    intro x hx
    rw [List.mem_singleton.1 hx]
    exact ⟨by omega, by omega⟩) wr HO.out HSr.out (by omega) (by simp))
   clear hx5 e5
   go_wp2_with (fail)
   refine HN.out.mono ?_
   rintro e w6 ⟨k6, rfl, hk6, ho6, hb6⟩
   have HB6 := Aside0.mk (HB.out.trans hb6)
   have HO6 := Aside0.mk ho6
   have hx6 := HB6.out.kept _ _ _ (by decide) (by decide) HBX.out
   have f6 := (Zaa hx6 6).trans rfl
   clear ho6 hb6 hx6 e6 HN HSr
   go_wp2_with (fail)
   go_loopg [56] R.length (fun kx v56 wr => ∃ i : Nat, v56 = .int .i64 (i : Int) ∧ i ≤ R.length ∧ R.length - i ≤ kx ∧ (∃ q, q ≤ 27 * i ∧ Aside0 (OutAt wr B g (12 + k4 + k + k6 + q))) ∧ Aside0 (BK B W1 wr))
   case atStart => exact ⟨0, rfl, Nat.zero_le _, by omega, ⟨0, by omega, HO6⟩, HB6⟩
   case round =>
    obtain ⟨i, rfl, hi, hik, ⟨q, hq, HO⟩, HB⟩ := hrel
    by_cases hlt : i < R.length
    ·have hi1 : i + 1 ≤ R.length := hlt
     have hBr : Below w.heap.size w wr := by
      rw [hB]
      exact HB1.out.trans HB.out.bel
     obtain ⟨ad, e, y0, y1, y2⟩ := ZbN (Kd.C_below HR.out.r hBr) i hlt
     have e : ra = some ad := e
     subst e
     have hpm := HRM.out R[i] (List.getElem_mem hlt)
     clear hBr
     as_aux_lemma =>
      generalize R[i] = x at y0 y1 y2 hpm
      obtain ⟨x0, x1, x2⟩ := x
      simp only at y0 y1 y2
      obtain ⟨p1, p2, p3, p4, p5, p6⟩ := hpm
      simp only at p1 p2 p3 p4 p5 p6
      have ba := Zab (Below.refl _ wr) (.cells #[.int .i64 x0, .int .i64 x1, .int .i64 x2] 51)
      have hoa := HO.out.below ba
      have HBA := Aside0.mk (HB.out.trans (BK.of_below ba (Nat.le_trans HBS.out HB.out.bel.size)))
      have HOA := Aside0.mk hoa
      have hsz : (wr.alloc (.cells #[.int .i64 x0, .int .i64 x1, .int .i64 x2] 51)).heap.size = wr.heap.size + 1 := by simp
      have HSZ := Aside0.mk hsz
      clear ba hoa hsz
      go_wp2_with (fail)
      generalize wr.alloc (.cells #[.int .i64 x0, .int .i64 x1, .int .i64 x2] 51) = wa at HBA HOA HSZ ⊢
      rw [← HSZ.out]
      have hnn := numbers90A B g (12 + k4 + k + k6 + q) [x0, x1, x2] #[.int .i64 x0, .int .i64 x1, .int .i64 x2] rfl 3 rfl (by
       intro x hx
       simp only [List.mem_cons, List.not_mem_nil, or_false] at hx
       rcases hx with rfl | rfl | rfl <;> exact ⟨by omega, by omega⟩) wa HOA.out (Nat.le_trans HBS.out HBA.out.bel.size) (by omega) (by simp)
      refine hnn.mono ?_
      clear hnn
      rintro e w8 ⟨k8, rfl, hk8, ho8, hb8⟩
      have HB8 := Aside0.mk (HBA.out.trans hb8)
      have HO8 := Aside0.mk ho8
      clear ho8 hb8
      go_wp2_with (fail)
      go_roundg (gk - 1)
      case measure => omega
      case rel => exact ⟨i + 1, by go_num, hi1, by omega, ⟨q + k8, by omega, ⟨by rw [← Nat.add_assoc]; exact HO8.out⟩⟩, HB8⟩
    ·have hil : i = R.length := by omega
     subst hil
     have HSr := Aside0.mk (Nat.le_trans HBS.out HB.out.bel.size)
     have hx7 := HB.out.kept _ _ _ (by decide) (by decide) HBX.out
     have e7 := (Zaa hx7 7).trans rfl
     have HTx := Aside0.mk (text1A B g (12 + k4 + k + k6 + q) nt wr HO.out HSr.out (by omega))
     clear hx7 f6
     as_aux_lemma =>
      go_wp2_with (fail)
      refine HTx.out.mono ?_
      rintro e w8 ⟨k8, rfl, hk8, ho8, hb8⟩
      have HB8 := Aside0.mk (HB.out.trans hb8)
      have HST := Aside0.mk (Zcd B g _ w8 ho8)
      clear ho8 hb8 HTx e7
      go_wp2_with (fail)
      refine HST.out.mono ?_
      rintro e w10 ⟨s, rfl, hsz, hb10⟩
      have HB10 := Aside0.mk (Zb0 (HB1.out.trans HB8.out.bel) (hb10.mono (Nat.le_trans HBS.out HB8.out.bel.size)))
      have HSZ := Aside0.mk (show s.size ≤ 4900 by omega)
      have HSl := Aside0.mk (seal_calls s (by omega) w10)
      clear hb10 hsz HST
      go_wp2_with (fail)
      refine HSl.out.mono ?_
      rintro e w11 ⟨t, rfl, hts, hb11⟩
      have HB11 := Aside0.mk (Zb0 HB10.out (hb11.mono (hB ▸ HB10.out.size)))
      have HTS := Aside0.mk hts
      clear hb11 hts HSl
      go_wp2_with (fail)
      go_ret
      exact ⟨t, rfl, by have := HSZ.out; have := HTS.out; omega, by rw [hB]; exact HB11.out⟩
set_option maxRecDepth 100000 in
set_option maxHeartbeats 8000000 in
theorem Zdu (s : Sb) (ns : List Int) (w : World) (hr : s.Reads w) (ho : s.Ok ns) : Calls Tryz.prog 36 #[s.val] w fun e w' => e = .returned (.int .i64 0) ∧ Below w.heap.size w w' := by
 have hu34 := Tryz.underlying34
 have hu43 := Tryz.underlying43
 have hu9 := Tryz.underlying9
 have hu3 := Tryz.underlying3
 have HMp := Aside0.mk (fun W (hb : Below w.heap.size w W) => mapped_calls s ns W (hr.below hb) ho)
 have HRw := Aside0.mk (fun W (hb : Below w.heap.size w W) => rowed_calls s ns W (hr.below hb) ho)
 have HBy := Aside0.mk (fun W (hb : Below w.heap.size w W) => Zb9 s ns W (hr.below hb) ho)
 have HN1 := Aside0.mk (fun W => ZcY s.epoch 1 ho.epoch W)
 have HN2 := Aside0.mk (fun W => ZcY s.seq 0 (by rw [ho.seq]; have := ho.few; omega) W)
 have HN3 := Aside0.mk (fun W => ZcY s.upto 0 ho.upto W)
 have hnt := ho.note
 have hsz := ho.size
 obtain ⟨key, ep, sq, up, sz, ma, mc, L, ra, rc, R, nt⟩ := s
 simp only at hnt hsz HN1 HN2 HN3
 subst hsz
 unfold Sb.val Sb.cells at HMp HRw HBy ⊢
 simp only at HMp HRw HBy ⊢
 clear hr ho
 generalize L.length = nL at HMp HRw HBy ⊢
 generalize R.length = nR at HMp HRw HBy ⊢
 have ba := Zab (Below.refl _ w) (.cells #[.int .u64 key, .int .i64 ep, .int .i64 sq, .int .i64 up, .int .i64 64, .slice ma nL mc, .slice ra nR rc, .string nt] 34)
 have hbx := Zas w (.cells #[.int .u64 key, .int .i64 ep, .int .i64 sq, .int .i64 up, .int .i64 64, .slice ma nL mc, .slice ra nR rc, .string nt] 34)
 have HBA := Aside0.mk ba
 have HBX := Aside0.mk hbx
 clear ba hbx
 have BOX : ∀ W, Below (w.alloc (.cells #[.int .u64 key, .int .i64 ep, .int .i64 sq, .int .i64 up, .int .i64 64, .slice ma nL mc, .slice ra nR rc, .string nt] 34)).heap.size (w.alloc (.cells #[.int .u64 key, .int .i64 ep, .int .i64 sq, .int .i64 up, .int .i64 64, .slice ma nL mc, .slice ra nR rc, .string nt] 34)) W →
   W.cell? ⟨w.heap.size, 0, none⟩ = some (.int .u64 key) ∧ W.cell? ⟨w.heap.size, 1, none⟩ = some (.int .i64 ep) ∧ W.cell? ⟨w.heap.size, 2, none⟩ = some (.int .i64 sq) ∧ W.cell? ⟨w.heap.size, 3, none⟩ = some (.int .i64 up) ∧ W.cell? ⟨w.heap.size, 4, none⟩ = some (.int .i64 64) ∧ W.cell? ⟨w.heap.size, 5, none⟩ = some (.slice ma nL mc) ∧ W.cell? ⟨w.heap.size, 6, none⟩ = some (.slice ra nR rc) ∧ W.cell? ⟨w.heap.size, 7, none⟩ = some (.string nt) := fun W hb => by
  have hx := Zag HBX.out hb
  exact ⟨(Zaa hx 0).trans rfl, (Zaa hx 1).trans rfl, (Zaa hx 2).trans rfl, (Zaa hx 3).trans rfl, (Zaa hx 4).trans rfl, (Zaa hx 5).trans rfl, (Zaa hx 6).trans rfl, (Zaa hx 7).trans rfl⟩
 have BX := Aside0.mk BOX
 clear BOX HBX
 obtain ⟨q0, q1, q2, q3, q4, q5, q6, q7⟩ := BX.out _ (Below.refl _ _)
 go_enter Tryz.func36, Tryz.ntmps36
 go_wp2_with (fail)
 generalize w.alloc (.cells #[.int .u64 key, .int .i64 ep, .int .i64 sq, .int .i64 up, .int .i64 64, .slice ma nL mc, .slice ra nR rc, .string nt] 34) = W0 at HBA BX q0 q1 q2 q3 q4 q5 q6 q7 ⊢
 clear q0 q1 q2 q3 q4 q5 q6 q7
 have Hw0 := Aside0.mk (Below.refl W0.heap.size W0)
 refine (HN1.out _).mono ?_
 rintro e w1 ⟨rfl, hb⟩
 have Hw1 := Aside0.mk (Zae Hw0.out hb)
 obtain ⟨q0, q1, q2, q3, q4, q5, q6, q7⟩ := BX.out _ Hw1.out
 clear hb
 go_wp2_with (fail)
 clear q0 q1 q2 q3 q4 q5 q6 q7
 refine (HN2.out _).mono ?_
 rintro e w2 ⟨rfl, hb⟩
 have Hw2 := Aside0.mk (Zae Hw1.out hb)
 obtain ⟨q0, q1, q2, q3, q4, q5, q6, q7⟩ := BX.out _ Hw2.out
 clear hb
 go_wp2_with (fail)
 clear q0 q1 q2 q3 q4 q5 q6 q7
 refine (HN3.out _).mono ?_
 rintro e w3 ⟨rfl, hb⟩
 have Hw3 := Aside0.mk (Zae Hw2.out hb)
 obtain ⟨q0, q1, q2, q3, q4, q5, q6, q7⟩ := BX.out _ Hw3.out
 clear hb
 go_wp2_with (fail)
 clear q0 q1 q2 q3 q4 q5 q6 q7
 refine (HMp.out _ (Zae HBA.out Hw3.out)).mono ?_
 rintro e w4 ⟨rfl, hb⟩
 have Hw4 := Aside0.mk (Zae Hw3.out hb)
 obtain ⟨q0, q1, q2, q3, q4, q5, q6, q7⟩ := BX.out _ Hw4.out
 clear hb
 go_wp2_with (fail)
 clear q0 q1 q2 q3 q4 q5 q6 q7
 refine (HRw.out _ (Zae HBA.out Hw4.out)).mono ?_
 rintro e w5 ⟨rfl, hb⟩
 have Hw5 := Aside0.mk (Zae Hw4.out hb)
 obtain ⟨q0, q1, q2, q3, q4, q5, q6, q7⟩ := BX.out _ Hw5.out
 clear hb
 have hd8 : decide ((nt.size : Int) > 16384) = false := decide_eq_false (by omega)
 go_wp2_with (fail)
 clear q0 q1 q2 q3 q4 q5 q6 q7
 refine (HBy.out _ (Zae HBA.out Hw5.out)).mono ?_
 rintro e w6 ⟨s, rfl, hs, hb6⟩
 have Hw6 := Aside0.mk (Zae HBA.out (Zae Hw5.out hb6))
 have hd9 : decide ((s.size : Int) > 65536) = false := decide_eq_false (by omega)
 clear hb6
 go_wp2_with (fail)
 go_ret
 exact ⟨rfl, Hw6.out⟩
set_option maxRecDepth 100000 in
theorem Zdk (m n : Int) (b : Nat) (w : World) (hc : w.cell? ⟨b, 4, none⟩ = some (.int .i64 m)) :
  Calls Tryz.prog 83 #[.int .i64 n, .pointer (some ⟨b, 0, none⟩)] w fun e w' => e = .returned (.bool (decide (m < n))) ∧ w' = w := by
 have hu34 := Tryz.underlying34
 have hu3 := Tryz.underlying3
 go_enter Tryz.func83, Tryz.ntmps83
 go_wp2_with (fail)
 go_ret
 exact ⟨rfl, rfl⟩
set_option maxRecDepth 100000 in
set_option maxHeartbeats 4000000 in
theorem over85_calls (x : S92) (b q : Nat) (m : Int) (hx : MayS x.f0) (w : World) (hc : w.cell? ⟨b, 4, none⟩ = some (.int .i64 m)) (hq : w.cell? ⟨q, 0, none⟩ = some (.func (.func 83) #[] #[.pointer (some ⟨b, 0, none⟩)])) :
  Calls Tryz.prog 85 #[.agg #[.int .i64 x.f0.f0, .int .i64 x.f0.f1, .int .i64 x.f1.f0, .int .i64 x.f1.f1], .pointer (some ⟨q, 0, none⟩)] w fun e w' => e = .returned (.bool (decide (m < endS x.f0))) ∧ Below w.heap.size w w' := by
 have hu153 := Tryz.underlying153
 have hu3 := Tryz.underlying3
 have hu92 := Tryz.underlying92
 have hu70 := Tryz.underlying70
 obtain ⟨⟨x0, x1⟩, ⟨x2, x3⟩⟩ := x
 unfold endS
 simp only at hx ⊢
 have hE := fun W => ZaN x0 x1 hx W
 have hbx := Zas w (.cells #[.int .i64 x0, .int .i64 x1, .int .i64 x2, .int .i64 x3] 92)
 have ba := Zab (Below.refl _ w) (.cells #[.int .i64 x0, .int .i64 x1, .int .i64 x2, .int .i64 x3] 92)
 have p0 := Zap ((Zaa hbx 0).trans (rfl : _ = some (Value.int .i64 x0)))
 have p1 := Zap ((Zaa hbx 1).trans (rfl : _ = some (Value.int .i64 x1)))
 have p4 := Zap (Zam ba hq)
 have H3 := Aside0.mk (fun p : Abv (w.alloc (.cells #[.int .i64 x0, .int .i64 x1, .int .i64 x2, .int .i64 x3] 92)) => (Zdk m (x0 + x1) b p.out (Zam p.bel (Zam ba hc))).mono fun e w' h => (⟨h.1, by rw [h.2]; exact Below.refl _ _⟩ : _ ∧ Below p.out.heap.size p.out w'))
 have HBA := Aside0.mk ba
 clear hbx ba hx hc hq
 go_enter Tryz.func85, Tryz.ntmps85
 go_wp2_with (fail)
 refine Zav (by kernel_rfl) (by kernel_rfl) ?_
 repeat (refine WQ.step (fun K hK => ?_); go_simp; first | (refine hK _ ?_; clear hK K) | (apply Exists.intro; refine ⟨fun _ => ?_, hK _ ?_⟩; ((first | (go_at_call 24; exact abv_of (hE _)) | (go_at_call 83; exact abv_of (H3.out _)))); clear hK K))
 refine WQ.nil ?_
 rintro w5 ⟨⟨w5', hb5⟩, rfl⟩
 go_wp2_with (fail)
 go_ret
 exact ⟨rfl, Zae HBA.out hb5⟩
set_option maxRecDepth 100000 in
set_option maxHeartbeats 4000000 in
theorem over86_calls (x : S70) (b q : Nat) (m : Int) (hx : MayS x) (w : World) (hc : w.cell? ⟨b, 4, none⟩ = some (.int .i64 m)) (hq : w.cell? ⟨q, 0, none⟩ = some (.func (.func 83) #[] #[.pointer (some ⟨b, 0, none⟩)])) :
  Calls Tryz.prog 86 #[.agg #[.int .i64 x.f0, .int .i64 x.f1], .pointer (some ⟨q, 0, none⟩)] w fun e w' => e = .returned (.bool (decide (m < endS x))) ∧ Below w.heap.size w w' := by
 have hu153 := Tryz.underlying153
 have hu3 := Tryz.underlying3
 have hu70 := Tryz.underlying70
 obtain ⟨x0, x1⟩ := x
 unfold endS
 simp only at hx ⊢
 have hE := fun W => ZaN x0 x1 hx W
 have hbx := Zas w (.cells #[.int .i64 x0, .int .i64 x1] 70)
 have ba := Zab (Below.refl _ w) (.cells #[.int .i64 x0, .int .i64 x1] 70)
 have p0 := Zap ((Zaa hbx 0).trans (rfl : _ = some (Value.int .i64 x0)))
 have p1 := Zap ((Zaa hbx 1).trans (rfl : _ = some (Value.int .i64 x1)))
 have p4 := Zap (Zam ba hq)
 have H3 := Aside0.mk (fun p : Abv (w.alloc (.cells #[.int .i64 x0, .int .i64 x1] 70)) => (Zdk m (x0 + x1) b p.out (Zam p.bel (Zam ba hc))).mono fun e w' h => (⟨h.1, by rw [h.2]; exact Below.refl _ _⟩ : _ ∧ Below p.out.heap.size p.out w'))
 have HBA := Aside0.mk ba
 clear hbx ba hx hc hq
 go_enter Tryz.func86, Tryz.ntmps86
 go_wp2_with (fail)
 refine Zav (by kernel_rfl) (by kernel_rfl) ?_
 repeat (refine WQ.step (fun K hK => ?_); go_simp; first | (refine hK _ ?_; clear hK K) | (apply Exists.intro; refine ⟨fun _ => ?_, hK _ ?_⟩; ((first | (go_at_call 24; exact abv_of (hE _)) | (go_at_call 83; exact abv_of (H3.out _)))); clear hK K))
 refine WQ.nil ?_
 rintro w5 ⟨⟨w5', hb5⟩, rfl⟩
 go_wp2_with (fail)
 go_ret
 exact ⟨rfl, Zae HBA.out hb5⟩
theorem any_overS {n : Int} {L : List S70} (h : ∀ x ∈ L, endS x ≤ n) : L.any (fun x => decide (n < endS x)) = false := by
 rw [List.any_eq_false]
 intro x hx
 have := h x hx
 simp
 omega
theorem any_overP {n : Int} {L : List S70} (h : ∀ x ∈ L, endS x ≤ n) : (L.map part0).any (fun x => decide (n < endS x.f0)) = false := by
 rw [List.any_map]
 exact any_overS h
set_option maxRecDepth 100000 in
set_option maxHeartbeats 8000000 in
theorem mayO_calls (s : Sb) (o : Ob) (ns : List Int) (w : World) (hr : s.Reads w) (hs : s.Ok ns) (hro : o.Reads w) (ho : o.Ok) (hky : o.key = s.key) (hsq : o.seq = s.seq + 1) (hep : s.epoch ≤ o.epoch) (hup : s.upto ≤ o.upto) :
  Calls Tryz.prog 37 #[s.val, o.val] w fun e w' => e = .returned (.int .i64 0) ∧ Below w.heap.size w w' := by
 have hu34 := Tryz.underlying34
 have hu40 := Tryz.underlying40
 have hu43 := Tryz.underlying43
 have hu153 := Tryz.underlying153
 have hu3 := Tryz.underlying3
 have hu30 := Tryz.underlying30
 have HCk := Aside0.mk (fun W (hb : Below w.heap.size w W) => Zch o W (hro.below hb) ho)
 have HR := Aside0.mk hro
 have HP := Aside0.mk ho.obj
 have hsz := hs.size
 have hss : 0 ≤ s.seq ∧ s.seq ≤ 12 := by rw [hs.seq]; have := hs.few; omega
 obtain ⟨key, ep, sq, up, sz, ma, mc, L, ra, rc, R, nt⟩ := s
 obtain ⟨okey, oep, osq, oup, pa, pc, P, ca, cc, C, dt⟩ := o
 simp only at hsz hky hsq hep hup HR HP hss
 have hky := hky.symm
 subst hsz hky
 unfold Sb.val Sb.cells
 unfold Ob.val at HCk ⊢
 simp only at HCk ⊢
 have hwr : IntKind.i64.wrap (sq + 1) = sq + 1 := IntWalk.i64_in _ (by omega)
 subst hsq
 clear hr hs hro ho
 generalize L.length = nL
 generalize R.length = nR
 have hpl : (P.map part0).length = P.length := List.length_map _
 have HPL := Aside0.mk hpl
 rw [hpl] at HCk ⊢
 clear hpl
 have ba := Zab (Below.refl _ w) (.cells #[.int .u64 key, .int .i64 ep, .int .i64 sq, .int .i64 up, .int .i64 64, .slice ma nL mc, .slice ra nR rc, .string nt] 34)
 have hbx := Zas w (.cells #[.int .u64 key, .int .i64 ep, .int .i64 sq, .int .i64 up, .int .i64 64, .slice ma nL mc, .slice ra nR rc, .string nt] 34)
 have hs0 : (w.alloc (.cells #[.int .u64 key, .int .i64 ep, .int .i64 sq, .int .i64 up, .int .i64 64, .slice ma nL mc, .slice ra nR rc, .string nt] 34)).heap.size = w.heap.size + 1 := by simp
 generalize hW0 : w.alloc (.cells #[.int .u64 key, .int .i64 ep, .int .i64 sq, .int .i64 up, .int .i64 64, .slice ma nL mc, .slice ra nR rc, .string nt] 34) = W0 at ba hbx hs0
 have bb := Zab (Below.refl _ W0) (.cells #[.int .u64 key, .int .i64 oep, .int .i64 (sq + 1), .int .i64 oup, .slice pa P.length pc, .slice ca C.length cc, .string dt] 40)
 have hox := Zas W0 (.cells #[.int .u64 key, .int .i64 oep, .int .i64 (sq + 1), .int .i64 oup, .slice pa P.length pc, .slice ca C.length cc, .string dt] 40)
 rw [hs0] at hox
 have hbx := Zag hbx bb
 have HB1 := Aside0.mk (Zae ba bb)
 have hs1 : (W0.alloc (.cells #[.int .u64 key, .int .i64 oep, .int .i64 (sq + 1), .int .i64 oup, .slice pa P.length pc, .slice ca C.length cc, .string dt] 40)).heap.size = w.heap.size + 1 + 1 := by simp [hs0]
 go_enter Tryz.func37, Tryz.ntmps37
 go_wp2_with (fail)
 clear hW0 ba bb hs0
 generalize W0.alloc (.cells #[.int .u64 key, .int .i64 oep, .int .i64 (sq + 1), .int .i64 oup, .slice pa P.length pc, .slice ca C.length cc, .string dt] 40) = W1 at HB1 hbx hox hs1 ⊢
 have HBX := Aside0.mk hbx
 have HOX := Aside0.mk hox
 have HS1 := Aside0.mk hs1
 have BX : Aside0 (∀ W, Below W1.heap.size W1 W → W.cell? ⟨w.heap.size, 0, none⟩ = some (.int .u64 key) ∧ W.cell? ⟨w.heap.size, 1, none⟩ = some (.int .i64 ep) ∧ W.cell? ⟨w.heap.size, 2, none⟩ = some (.int .i64 sq) ∧ W.cell? ⟨w.heap.size, 3, none⟩ = some (.int .i64 up) ∧ W.cell? ⟨w.heap.size, 4, none⟩ = some (.int .i64 64) ∧ W.cell? ⟨(w.heap.size + 1), 0, none⟩ = some (.int .u64 key) ∧ W.cell? ⟨(w.heap.size + 1), 1, none⟩ = some (.int .i64 oep) ∧ W.cell? ⟨(w.heap.size + 1), 2, none⟩ = some (.int .i64 (sq + 1)) ∧ W.cell? ⟨(w.heap.size + 1), 3, none⟩ = some (.int .i64 oup) ∧ W.cell? ⟨(w.heap.size + 1), 4, none⟩ = some (.slice pa P.length pc) ∧ W.cell? ⟨(w.heap.size + 1), 5, none⟩ = some (.slice ca C.length cc)) := ⟨fun W hb => by
  have hx := Zag HBX.out hb
  have hy := Zag HOX.out hb
  exact ⟨(Zaa hx 0).trans rfl, (Zaa hx 1).trans rfl, (Zaa hx 2).trans rfl, (Zaa hx 3).trans rfl, (Zaa hx 4).trans rfl, (Zaa hy 0).trans rfl, (Zaa hy 1).trans rfl, (Zaa hy 2).trans rfl, (Zaa hy 3).trans rfl, (Zaa hy 4).trans rfl, (Zaa hy 5).trans rfl⟩⟩
 clear hbx hox hs1
 refine (HCk.out _ HB1.out).mono ?_
 rintro e w2 ⟨rfl, hb2⟩
 have ba := Zab (Below.refl _ w2) (.cells #[.func (.func 83) #[] #[.pointer (some ⟨w.heap.size, 0, none⟩)]] 153)
 have hfx := Zas w2 (.cells #[.func (.func 83) #[] #[.pointer (some ⟨w.heap.size, 0, none⟩)]] 153)
 have HB2 := Aside0.mk (Zae hb2 ba)
 have hs3 : (w2.alloc (.cells #[.func (.func 83) #[] #[.pointer (some ⟨w.heap.size, 0, none⟩)]] 153)).heap.size = w2.heap.size + 1 := by simp
 obtain ⟨q0, q1, q2, q3, q4, q5, q6, q7, q8, q9, q10⟩ := BX.out _ HB2.out
 clear ba hb2
 have hdk : decide (oep < ep) = false := decide_eq_false (by omega)
 have hdu : decide (oup < up) = false := decide_eq_false (by omega)
 go_wp2_with (fail)
 have HFX := Aside0.mk hfx
 generalize w2.alloc (.cells #[.func (.func 83) #[] #[.pointer (some ⟨w.heap.size, 0, none⟩)]] 153) = w3 at HB2 HFX q0 q1 q2 q3 q4 q5 q6 q7 q8 q9 q10 ⊢
 clear hfx hs3 q0 q1 q2 q3 q4 q5 q6 q7 q8 q9 q10
 have HW3 := Aside0.mk (Zae HB1.out HB2.out)
 have H92 := Zdx 85 #[.pointer (some ⟨w2.heap.size, 0, none⟩)] (fun x => decide (64 < endS x.f0)) pa pc (P.map part0) w3 (Kd.C_below HR.out.p HW3.out) (fun _ _ => rfl) (fun W x hx hb => by
  obtain ⟨y, hy, rfl⟩ := List.mem_map.1 hx
  exact over85_calls (part0 y) w.heap.size w2.heap.size 64 (HP.out.p.may y hy) W ((Zaa (Zag HBX.out (Zae HB2.out hb)) 4).trans rfl) ((Zaa (Zag HFX.out hb) 0).trans rfl))
 rw [HPL.out, any_overP (fun x hx => by have := HP.out.p.ends x hx; omega)] at H92
 refine H92.mono ?_
 clear H92
 rintro e w4 ⟨rfl, hb4⟩
 have HB4 := Aside0.mk (Zae HB2.out hb4)
 have HF4 := Aside0.mk (Zag HFX.out hb4)
 obtain ⟨q0, q1, q2, q3, q4, q5, q6, q7, q8, q9, q10⟩ := BX.out _ HB4.out
 clear hb4
 go_wp2_with (fail)
 have HW4 := Aside0.mk (Zae HB1.out HB4.out)
 have H70 := Zbr 86 #[.pointer (some ⟨w2.heap.size, 0, none⟩)] (fun x => decide (64 < endS x)) ca cc C w4 (Kd.C_below HR.out.c HW4.out) (fun _ _ => rfl) (fun W x hx hb =>
  over86_calls x w.heap.size w2.heap.size 64 (HP.out.c.may x hx) W ((Zaa (Zag HBX.out (Zae HB4.out hb)) 4).trans rfl) ((Zaa (Zag HF4.out hb) 0).trans rfl))
 rw [any_overS (fun x hx => by have := HP.out.c.ends x hx; omega)] at H70
 refine H70.mono ?_
 clear H70 q0 q1 q2 q3 q4 q5 q6 q7 q8 q9 q10
 rintro e w5 ⟨rfl, hb5⟩
 have HB5 := Aside0.mk (Zae HW4.out hb5)
 clear hb5
 go_wp2_with (fail)
 go_ret
 exact ⟨rfl, HB5.out⟩
def liveOf (L : List S86) (r : S51) : S51 := ⟨r.f0, r.f1, lenQ r.f0 L⟩
def firstL (L : List S86) (R : List S51) (i : Nat) : List S51 := (R.take i).map (liveOf L) ++ R.drop i
theorem firstL_len (L : List S86) (R : List S51) (i : Nat) (h : i ≤ R.length) : (firstL L R i).length = R.length := by
 unfold firstL
 rw [List.length_append, List.length_map, List.length_take, List.length_drop]
 omega
theorem firstL_get (L : List S86) (R : List S51) (i : Nat) (h : i < R.length) : (firstL L R i)[i]'(by rw [firstL_len L R i (by omega)]; exact h) = R[i] := by
 unfold firstL
 rw [List.getElem_append_right (by simp; omega)]
 simp only [List.length_map, List.length_take, List.getElem_drop]
 congr 1
 omega
theorem firstL_set (L : List S86) (R : List S51) (i : Nat) (h : i < R.length) : (firstL L R i).set i (liveOf L R[i]) = firstL L R (i + 1) := by
 unfold firstL
 rw [List.set_append_right _ _ (by simp; omega)]
 have e : i - ((R.take i).map (liveOf L)).length = 0 := by simp; omega
 rw [e, List.drop_eq_getElem_cons h, List.set_cons_zero, List.take_add_one, List.map_append, List.append_assoc]
 rw [List.getElem?_eq_getElem h]
 rfl
theorem firstL_zero (L : List S86) (R : List S51) : firstL L R 0 = R := by simp [firstL]
theorem firstL_all (L : List S86) (R : List S51) : firstL L R R.length = R.map (liveOf L) := by simp [firstL]
theorem add0 (g n : Nat) : (⟨g, 0, none⟩ : Addr).add n = ⟨g, n, none⟩ := by
 unfold Addr.add
 split
 ·rename_i h
  rw [h]
 ·simp
theorem cells3 {w : World} {g i : Nat} {u0 u1 u2 : Value} (h0 : w.cell? ⟨g, i * 3, none⟩ = some u0) (h1 : w.cell? ⟨g, i * 3 + 1, none⟩ = some u1) (h2 : w.cell? ⟨g, i * 3 + 2, none⟩ = some u2) :
  ∀ (j : Nat) (u : Value), [u0, u1, u2][j]? = some u → w.cell? ⟨g, (i : Int).toNat * k51.sz + j, none⟩ = some u := fun j u h => by
 rw [Int.toNat_natCast]
 match j, h with
 | 0, h => obtain rfl := Option.some.inj h; exact h0
 | 1, h => obtain rfl := Option.some.inj h; exact h1
 | 2, h => obtain rfl := Option.some.inj h; exact h2
theorem R_form {w : World} {base : Nat} {v : Value} {l : List S51} (h : k51.R 51 w base (fun _ => True) v l) : (v = .slice none 0 0 ∧ l = []) ∨ ∃ g c, v = .slice (some ⟨g, 0, none⟩) l.length c ∧ base ≤ g := by
 obtain ⟨inner, hown⟩ := Kd.R_own h
 rcases hown.2 with ⟨rfl, h0⟩ | ⟨g, cap, cur, rfl, hb, _⟩
 ·exact .inl ⟨rfl, List.length_eq_zero_iff.1 h0⟩
 ·exact .inr ⟨g, cap, rfl, hb⟩
set_option maxRecDepth 100000 in
set_option maxHeartbeats 8000000 in
theorem countedS_calls (s : Sb) (w : World) (hr : s.Reads w) (hL : Okm s.L) (hs : SeqOk s.L) (hR : ∀ x ∈ s.R, 1 ≤ x.f0 ∧ x.f0 < 1099511627776) (hl : s.R.length ≤ 1000) :
  Calls Tryz.prog 39 #[s.val] w fun e w' => ∃ A c, e = .returned (.slice A s.R.length c) ∧ s.R.length ≤ c ∧ Kd.C k51 w' A s.R.length (s.R.map (liveOf s.L)) ∧ k51.R 51 w' w.heap.size (fun _ => True) (.slice A s.R.length c) (s.R.map (liveOf s.L)) ∧ Below w.heap.size w w' := by
 have HLv := Aside0.mk (fun W (hb : Below w.heap.size w W) => ZdX s W (hr.below hb) hL hs)
 have HRc := Aside0.mk hr.r
 have HRm := Aside0.mk hR
 have hu105 := Tryz.underlying105
 have hu32 := Tryz.underlying32
 have hu51 := Tryz.underlying51
 have hu34 := Tryz.underlying34
 have hu3 := Tryz.underlying3
 obtain ⟨key, ep, sq, up, sz, ma, mc, L, ra, rc, R, nt⟩ := s
 simp only at HRc HRm hl
 have HLn := Aside0.mk hl
 unfold Sb.val Sb.cells at HLv ⊢
 simp only at HLv ⊢
 clear hr hs hR hL hl
 generalize L.length = nL at HLv ⊢
 have ba := Zab (Below.refl _ w) (.cells #[.int .u64 key, .int .i64 ep, .int .i64 sq, .int .i64 up, .int .i64 sz, .slice ma nL mc, .slice ra R.length rc, .string nt] 34)
 have hbx := Zas w (.cells #[.int .u64 key, .int .i64 ep, .int .i64 sq, .int .i64 up, .int .i64 sz, .slice ma nL mc, .slice ra R.length rc, .string nt] 34)
 have HBX := Aside0.mk hbx
 have HBA := Aside0.mk ba
 have q0 := (Zaa hbx 0).trans (rfl : _ = some (Value.int .u64 key))
 have q1 := (Zaa hbx 1).trans (rfl : _ = some (Value.int .i64 ep))
 have q2 := (Zaa hbx 2).trans (rfl : _ = some (Value.int .i64 sq))
 have q3 := (Zaa hbx 3).trans (rfl : _ = some (Value.int .i64 up))
 have q4 := (Zaa hbx 4).trans (rfl : _ = some (Value.int .i64 sz))
 have q5 := (Zaa hbx 5).trans (rfl : _ = some (Value.slice ma nL mc))
 have q6 := (Zaa hbx 6).trans (rfl : _ = some (Value.slice ra R.length rc))
 have q7 := (Zaa hbx 7).trans (rfl : _ = some (Value.string nt))
 clear ba hbx
 go_enter Tryz.func39, Tryz.ntmps39
 go_wp2_with (fail)
 refine (HLv.out _ HBA.out).mono ?_
 rintro e w1 ⟨b, rfl, hbb, hM, hb⟩
 have HB1 := Aside0.mk (Zae HBA.out hb)
 have HX1 := Aside0.mk (Zag HBX.out hb)
 have HM := Aside0.mk hM
 have r6 := (Zaa HX1.out 6).trans (rfl : _ = some (Value.slice ra R.length rc))
 have Hbw : Aside0 (w.heap.size ≤ b) := ⟨by
  have : (w.alloc (.cells #[.int .u64 key, .int .i64 ep, .int .i64 sq, .int .i64 up, .int .i64 sz, .slice ma nL mc, .slice ra R.length rc, .string nt] 34)).heap.size = w.heap.size + 1 := by simp
  omega⟩
 clear hb hM q0 q1 q2 q3 q4 q5 q6 q7 HLv hbb
 go_wp2_with (fail)
 have HCl := Aside0.mk (ZcU ra rc R w1 (Kd.C_below HRc.out HB1.out) (by have := HLn.out; omega))
 refine HCl.out.mono ?_
 rintro e w2 ⟨v, rfl, hRv, hb2⟩
 have HB2 := Aside0.mk (Zae HB1.out hb2)
 have HM2 := Aside0.mk (HM.out.below hb2)
 have Hbl := Aside0.mk (show b < w1.heap.size from HM.out.lt)
 have hsw : w.heap.size ≤ w1.heap.size := HB1.out.size
 rcases R_form hRv with ⟨rfl, h0⟩ | ⟨g, c, rfl, hg⟩
 ·subst h0
  as_aux_lemma =>
   go_wp2_with (fail)
   go_loopg [13] 0 (fun kx v13 wr => v13 = .int .i64 0 ∧ wr = w2)
   case atStart => exact ⟨rfl, rfl⟩
   case round =>
    obtain ⟨rfl, rfl⟩ := hrel
    go_wp2_with (fail)
    go_ret
    exact ⟨_, _, rfl, Nat.zero_le _, Kd.C_nil k51 _, Kd.R_nil k51 _ _ _ _, HB2.out⟩
 ·have HR2 := Aside0.mk hRv
  have HBw0 := Aside0.mk (hb2)
  have Hgb := Aside0.mk hg
  clear hRv hg hb2 HM r6
  go_wp2_with (fail)
  go_loopg [13] R.length (fun kx v13 wr => ∃ i : Nat, v13 = .int .i64 (i : Int) ∧ i ≤ R.length ∧ R.length - i ≤ kx ∧ Aside0 (Below w.heap.size w wr) ∧ Aside0 (Below w1.heap.size w1 wr) ∧ Aside0 (CMap wr b 64 (cntE [] L)) ∧ Aside0 (k51.R 51 wr w1.heap.size (fun _ => True) (.slice (some ⟨g, 0, none⟩) R.length c) (firstL L R i)))
  case atStart => exact ⟨0, rfl, Nat.zero_le _, by omega, HB2, HBw0, HM2, ⟨by rw [firstL_zero]; exact HR2.out⟩⟩
  case round =>
   obtain ⟨i, rfl, hi, hik, HB, HBw, HMi, HRi⟩ := hrel
   by_cases hlt : i < R.length
   ·have hi1 : i + 1 ≤ R.length := hlt
    have hsz9 : i < 1000000 := by have := HLn.out; omega
    have hrd := (Kd.R_reads' HRi.out).2.2
    obtain ⟨ad, e, c0, c1, c2⟩ := ZbN hrd i (by rw [firstL_len L R i (by omega)]; exact hlt)
    have e : (⟨g, 0, none⟩ : Addr) = ad := Option.some.inj e
    subst e
    rw [firstL_get L R i hlt] at c0 c1 c2
    have ea : (⟨g, 0, none⟩ : Addr).add (i * 3) = ⟨g, i * 3, none⟩ := add0 g _
    rw [ea] at c0 c1 c2
    simp only at c1 c2
    clear ea
    have hwm := HRm.out R[i] (List.getElem_mem hlt)
    have hset := Aside0.mk (firstL_set L R i hlt)
    clear hrd
    as_aux_lemma =>
     generalize hx : R[i] = x at c0 c1 c2 hwm hset
     have HX := Aside0.mk hx
     clear hx
     have hlk := HMi.out.look (k := x.f0) (wf_of (by omega) (by omega))
     have hvl : valT (cntE [] L) x.f0 = lenQ x.f0 L := by
      rw [cnt_val List.Pairwise.nil _ (by omega)]
      show 0 + _ = _
      omega
     rw [hvl] at hlk
     have HC0 := Aside0.mk c0
     have HC1 := Aside0.mk c1
     have HC2 := Aside0.mk c2
     clear hvl
     have HB0 := Aside0.mk (show b ≠ g by have := Hbl.out; have := Hgb.out; omega)
     have hin : (liveOf L x).f2 = lenQ x.f0 L := rfl
     clear hin
     go_wp2_with ((with_reducible refine gate_ (.store 3 (.tmp 26) (.tmp 24)) rfl ?_); go_loud (refine Kd.R_store k51 (w0 := w1) w1.heap.size rfl rfl 3 (.tmp 26) (.tmp 24) rfl 51 (i : Int) 2 (firstL L R i) (liveOf L x) (.int .i64 (lenQ x.f0 L)) [.int .i64 (lenQ x.f0 L)] [.int .i64 x.f0, .int .i64 x.f1, .int .i64 x.f2] (fun _ => True) (fun _ => False) rfl (by rw [Int.toNat_natCast]; rfl) rfl rfl (by kernel_rfl) (by intro q hq; rw [List.mem_singleton.1 hq]; rfl) HRi.out (by omega) (by omega) rfl (cells3 HC0.out HC1.out HC2.out) (Nat.le_refl 3) (k51_mkM _ _ _ (liveOf L x)) (fun _ hk => hk.elim) HBw.out ?_); intro w6 hR6 hB6 hG6)
     go_roundg (gk - 1)
     case measure => omega
     case rel =>
      refine ⟨i + 1, by go_num, hi1, by omega, ⟨?_⟩, ⟨hB6⟩, ⟨?_⟩, ⟨?_⟩⟩
      ·exact HB.out.grown hG6 HB.out.size (fun j hj => by have h1 := Nat.le_trans HB1.out.size Hgb.out; obtain rfl := Option.some.inj hj; exact h1)
      ·exact HMi.out.kept hG6 (by intro e; exact HB0.out (Option.some.inj e))
      ·rw [← hset.out]
       exact hR6
   ·have hil : i = R.length := by omega
    subst hil
    as_aux_lemma =>
     go_wp2_with (fail)
     go_ret
     have hrd := (Kd.R_reads' HRi.out)
     rw [firstL_all] at hrd
     refine ⟨_, _, rfl, hrd.2.1, ?_, ?_, HB.out⟩
     rotate_left
     ·have := HRi.out
      rw [firstL_all] at this
      exact Kd.R_lower this HB1.out.size
     have := hrd.2.2
     rwa [← hrd.1] at this
theorem upon_any {P : Program} {o : Oper} {a : Act} {K : Act → World → Prop} {Q Q' : Exit → Act → World → Prop} {r : Result Next} (hq : ∀ c a w, ¬ Q' (.panic c) a w) (ho : ¬ LetsOut Q') (h : o.upon P a K Q' r) : o.upon P a K Q r := by
 cases r with
 | ok n w' =>
  cases n <;> simp only [Oper.upon] at h ⊢ <;>
   first
    | exact h
    | exact Calls.mono h (fun e w'' he => by cases e <;> first | exact he | exact absurd he (hq _ _ _) | exact absurd he ho)
 | halt x w' => cases x <;> simp only [Oper.upon] at h ⊢ <;> first | exact absurd h (hq _ _ _) | exact h
theorem Za2 {P : Program} {ops : Array Oper} {o : Oper} {a : Act} {w : World} {K : Act → World → Prop} {Q : Exit → Act → World → Prop} {E : Prop} (hg : o.guard = none)
  (h : ∀ Q' : Exit → Act → World → Prop, (∀ a w, K a w → wpList P ops Q' [] a w) → wpList P ops Q' [o] a w) : if Region.wanted o (yielded ops a.tmps) = true then Oper.wp P o a w K Q else E := by
 have h1 := h (fun e a w => e = .normal ∧ K a w) (fun a w hk => ⟨rfl, hk⟩)
 have hw : Region.wanted o (yielded ops a.tmps) = true := by simp [Region.wanted, hg]
 unfold wpList at h1
 rw [if_pos hw] at h1 ⊢
 rcases h1 with h1 | ⟨_, a, w, h1, _⟩
 ·have h2 := Oper.wp_mono (K' := K) (fun a w hk => by unfold wpList at hk; exact hk.2) h1
  exact upon_any (fun c a w h => by cases h.1) (fun ⟨_, _, h⟩ => by cases h.1) h2
 ·cases h1
theorem c_awayB {w : World} {g : Nat} {k a b c : Int} {X Y : Option Addr} {n m n' m' : Nat} {s : ByteArray} {ad : Addr} {L : List S86} (hb : w.heap[g]? = some (.cells #[.int .u64 k, .int .i64 a, .int .i64 b, .int .i64 c, .int .i64 64, .slice X n m, .slice Y n' m', .string s] 34 (0, 0)))
  (h : Kd.C k86 w (some ad) L.length L) (hp : 0 < L.length) (h64 : L[0].f1.f1 ≠ 64) : ad.block ≠ g := by
 intro e
 obtain ⟨ad', e', h0, h1, h2, h3⟩ := ZaF h 0 hp
 cases e'
 rw [Nat.zero_mul] at h0 h1 h2 h3
 have e0 : ad.add 0 = ad := by unfold Addr.add; simp
 rw [e0] at h0 h1 h2 h3
 obtain ⟨bb, o, f⟩ := ad
 simp only at e
 subst e
 simp only [World.cell?, hb] at h0 h1 h2 h3
 clear h1 h2
 have h3' : (#[Value.int .u64 k, .int .i64 a, .int .i64 b, .int .i64 c, .int .i64 64, .slice X n m, .slice Y n' m', .string s] : Array Value)[o + 3]? = some (Value.int .i64 L[0].f1.f1) := h3
 cases f with
 | some f => simp at h0
 | none =>
  have h0' : (#[Value.int .u64 k, .int .i64 a, .int .i64 b, .int .i64 c, .int .i64 64, .slice X n m, .slice Y n' m', .string s] : Array Value)[o]? = some (Value.int .i64 L[0].f0.f0) := h0
  match o, h0', h3' with
  | 0, h0', _ => simp at h0'
  | 1, _, h3' =>
   have : (Value.int .i64 64) = Value.int .i64 L[0].f1.f1 := Option.some.inj h3'
   injection this with _ h5
   exact h64 h5.symm
  | 2, _, h3' => simp at h3'
  | 3, _, h3' => simp at h3'
  | 4, _, h3' => simp at h3'
  | o + 5, _, h3' => simp at h3'
theorem MapAt.setB {w w' : World} {q g : Nat} {k a b c : Int} {X Y : Option Addr} {n m n' m' : Nat} {s : ByteArray} {L : List S86} (hM : MapAt w q L) (hb : w.heap[g]? = some (.cells #[.int .u64 k, .int .i64 a, .int .i64 b, .int .i64 c, .int .i64 64, .slice X n m, .slice Y n' m', .string s] 34 (0, 0)))
  (h64 : ∀ x ∈ L, x.f1.f1 < 64) (hne : q ≠ g) (hg : w.grownBy w' (some g)) : MapAt w' q L := by
 obtain ⟨A, cc, hq, hc, h⟩ := hM
 refine ⟨A, cc, (hg.block q (blk_lt hq) (fun e => hne (Option.some.inj e))).trans hq, hc, ?_⟩
 by_cases hp : 0 < L.length
 ·obtain ⟨h1, h2, h3⟩ := h
  obtain ⟨ad, e, hr⟩ := h3 hp
  subst e
  have hne := c_awayB hb ⟨h1, h2, h3⟩ hp (by have := h64 L[0] (List.getElem_mem hp); omega)
  refine ⟨h1, h2, fun _ => ⟨ad, rfl, fun j p hj => ?_⟩⟩
  obtain ⟨cs, g1, g2, g3⟩ := hr j p hj
  refine ⟨cs, g1, ?_, fun i u hu => ?_⟩
  ·rw [ZcL g2]; exact k86_mk w' p
  ·have h4 := g3 i u hu
   have hbl : (ad.add (j * k86.sz + i)).block = ad.block := by
    unfold Addr.add
    split <;> rfl
   have hlt : ad.block < w.heap.size := by
    have := World.block_lt_of_cell? w _ h4
    rw [hbl] at this
    exact this
   rw [← h4]
   refine World.cell?_of_block ?_
   rw [hbl]
   exact hg.block _ hlt (fun e => hne (Option.some.inj e))
 ·have : L = [] := List.eq_nil_of_length_eq_zero (by omega)
  subst this
  exact ⟨rfl, by simp, fun h => absurd h (by simp)⟩
theorem Za1 (w : World) (g i : Nat) (v : Value) : w.grownBy (w.setCell ⟨g, i, none⟩ v) (some g) := by
 refine ⟨rfl, rfl, rfl, by simp [World.setCell], fun k _ hk => Below.heap_setCell w ⟨g, i, none⟩ v k fun e => hk (by rw [e])⟩
theorem Zbu {w : World} {B b : Nat} (h : B ≠ b) (i j : Nat) (v : Value) : (w.setCell ⟨B, i, none⟩ v).cell? ⟨b, j, none⟩ = w.cell? ⟨b, j, none⟩ := World.cell?_setCell_far w _ _ v h
structure Sb.Owns (s : Sb) (w : World) (base : Nat) : Prop where
 m : k86.R 86 w base (fun _ => True) (.slice s.ma s.L.length s.mc) s.L
 r : k51.R 51 w base (fun _ => True) (.slice s.ra s.R.length s.rc) s.R
theorem Sb.Owns.reads {s : Sb} {w : World} {base : Nat} (h : s.Owns w base) : s.Reads w := by
 have h1 := Kd.R_reads' h.m
 have h2 := Kd.R_reads' h.r
 exact ⟨h1.2.2, h1.2.1, h2.2.2, h2.2.1⟩
theorem Sb.Owns.below {s : Sb} {w w' : World} {base : Nat} (h : s.Owns w base) (hb : Below w.heap.size w w') : s.Owns w' base := ⟨Kd.R_below h.m hb, Kd.R_below h.r hb⟩
theorem Sb.Owns.lower {s : Sb} {w : World} {base base' : Nat} (h : s.Owns w base) (hb : base' ≤ base) : s.Owns w base' := ⟨Kd.R_lower h.m hb, Kd.R_lower h.r hb⟩
theorem ZaX {P : Program} {ops : Array Oper} {rest : List Oper} {o : Oper} {a : Act} {Q : Exit → Act → World → Prop} {W : World} (t : TypeId) (p x : Operand) (ho : o.op = .store t p x) (hgd : o.guard = none) (hN : o.dst = none) {g : Nat} {e : TypeId} {cur : Array Value} (u : Value) (seg : List Value)
  (haddr : a.eval p = .pointer (some ⟨g, 0, none⟩)) (hx : a.eval x = u) (hu : u.cells.toList = seg) (ht : (P.info? t).map (·.size) = some seg.length) (hh : W.heap[g]? = some (.cells cur e (0, 0))) (hfit : 0 + seg.length ≤ cur.size) (h1 : ∀ q ∈ seg, q.oneCell' = true)
  (h : wpList P ops Q rest a (W.setCells g 0 seg)) : wpList P ops Q (o :: rest) a W := by
 refine wpList_plain hgd fun K hK => ?_
 have hrun := ZcE t u seg hh hu ht hfit h1
 unfold Oper.wp execOp
 simp only [ho, haddr, hx, Sem.run_bind, Sem.run_pure, Result.andThen_ok, hrun]
 show K (a.put o.dst undef) _
 rw [hN]
 exact hK a _ h
theorem ZaJ (g : Nat) : ∀ (seg : List Value) (o : Nat) (w : World), w.grownBy (w.setCells g o seg) (some g)
 | [], _, w => ⟨rfl, rfl, rfl, Nat.le_refl _, fun _ _ _ => rfl⟩
 | v :: seg, o, w => (Za1 w g o v).trans (ZaJ g seg (o + 1) _)
theorem set8 {w : World} {g : Nat} {t : TypeId} {z0 z1 z2 z3 z4 z5 z6 z7 v0 v1 v2 v3 v4 v5 v6 v7 : Value} (h : w.heap[g]? = some (.cells #[z0, z1, z2, z3, z4, z5, z6, z7] t (0, 0))) :
  (w.setCells g 0 [v0, v1, v2, v3, v4, v5, v6, v7]).heap[g]? = some (.cells #[v0, v1, v2, v3, v4, v5, v6, v7] t (0, 0)) :=
 by
  have h0 : (w.setCell ⟨g, 0, none⟩ v0).heap[g]? = some (.cells #[v0, z1, z2, z3, z4, z5, z6, z7] t (0, 0)) := ZaG h 0 v0
  have h1 : ((w.setCell ⟨g, 0, none⟩ v0).setCell ⟨g, 1, none⟩ v1).heap[g]? = some (.cells #[v0, v1, z2, z3, z4, z5, z6, z7] t (0, 0)) := ZaG h0 1 v1
  have h2 : (((w.setCell ⟨g, 0, none⟩ v0).setCell ⟨g, 1, none⟩ v1).setCell ⟨g, 2, none⟩ v2).heap[g]? = some (.cells #[v0, v1, v2, z3, z4, z5, z6, z7] t (0, 0)) := ZaG h1 2 v2
  have h3 : ((((w.setCell ⟨g, 0, none⟩ v0).setCell ⟨g, 1, none⟩ v1).setCell ⟨g, 2, none⟩ v2).setCell ⟨g, 3, none⟩ v3).heap[g]? = some (.cells #[v0, v1, v2, v3, z4, z5, z6, z7] t (0, 0)) := ZaG h2 3 v3
  have h4 : (((((w.setCell ⟨g, 0, none⟩ v0).setCell ⟨g, 1, none⟩ v1).setCell ⟨g, 2, none⟩ v2).setCell ⟨g, 3, none⟩ v3).setCell ⟨g, 4, none⟩ v4).heap[g]? = some (.cells #[v0, v1, v2, v3, v4, z5, z6, z7] t (0, 0)) := ZaG h3 4 v4
  have h5 : ((((((w.setCell ⟨g, 0, none⟩ v0).setCell ⟨g, 1, none⟩ v1).setCell ⟨g, 2, none⟩ v2).setCell ⟨g, 3, none⟩ v3).setCell ⟨g, 4, none⟩ v4).setCell ⟨g, 5, none⟩ v5).heap[g]? = some (.cells #[v0, v1, v2, v3, v4, v5, z6, z7] t (0, 0)) := ZaG h4 5 v5
  have h6 : (((((((w.setCell ⟨g, 0, none⟩ v0).setCell ⟨g, 1, none⟩ v1).setCell ⟨g, 2, none⟩ v2).setCell ⟨g, 3, none⟩ v3).setCell ⟨g, 4, none⟩ v4).setCell ⟨g, 5, none⟩ v5).setCell ⟨g, 6, none⟩ v6).heap[g]? = some (.cells #[v0, v1, v2, v3, v4, v5, v6, z7] t (0, 0)) := ZaG h5 6 v6
  have h7 : ((((((((w.setCell ⟨g, 0, none⟩ v0).setCell ⟨g, 1, none⟩ v1).setCell ⟨g, 2, none⟩ v2).setCell ⟨g, 3, none⟩ v3).setCell ⟨g, 4, none⟩ v4).setCell ⟨g, 5, none⟩ v5).setCell ⟨g, 6, none⟩ v6).setCell ⟨g, 7, none⟩ v7).heap[g]? = some (.cells #[v0, v1, v2, v3, v4, v5, v6, v7] t (0, 0)) := ZaG h6 7 v7
  exact h7
theorem putE_nil {L : List S86} (h : Okm L) : putE [] L = L := by
 obtain ⟨h1, h2⟩ := ZdT L [] Okm.nil (fun x hx => ⟨h.good x hx, h.ends x hx⟩)
 refine canon_ext _ _ h1.canon h.canon fun i => ?_
 rw [h2 h.canon.rise i]
 cases look L i <;> rfl
def Ob.cells (o : Ob) : Array Value := #[.int .u64 o.key, .int .i64 o.epoch, .int .i64 o.seq, .int .i64 o.upto, .slice o.pa (o.P.map part0).length o.pc, .slice o.ca o.C.length o.cc, .string o.data]
theorem Zd8 (w : World) (a : Addr) : w.drew.cell? a = w.cell? a := rfl
theorem ocells {W : World} {g : Nat} {v0 v1 v2 v3 v4 v5 v6 : Value} (h : W.heap[g]? = some (.cells #[v0, v1, v2, v3, v4, v5, v6] 40 (0, 0))) :
  W.cell? ⟨g, 0, none⟩ = some v0 ∧ W.cell? ⟨g, 1, none⟩ = some v1 ∧ W.cell? ⟨g, 2, none⟩ = some v2 ∧ W.cell? ⟨g, 3, none⟩ = some v3 ∧ W.cell? ⟨g, 4, none⟩ = some v4 ∧ W.cell? ⟨g, 5, none⟩ = some v5 ∧ W.cell? ⟨g, 6, none⟩ = some v6 :=
 ⟨(Zaa h 0).trans rfl, (Zaa h 1).trans rfl, (Zaa h 2).trans rfl, (Zaa h 3).trans rfl, (Zaa h 4).trans rfl, (Zaa h 5).trans rfl, (Zaa h 6).trans rfl⟩
theorem not34m : ∀ q, q ∈ 86 :: k86.E → q ≠ 34 := by
 intro q hq
 have : k86.E = [] := rfl
 rw [this] at hq
 simp at hq
 omega
theorem not34 : ∀ q, q ∈ 51 :: k51.E → q ≠ 34 := by
 intro q hq
 have : k51.E = [] := rfl
 rw [this] at hq
 simp at hq
 omega
theorem Ivt.small {ns : List Int} {L : List S86} (h : Ivt ns L) : ∀ x ∈ L, x.f1.f1 < 64 := fun x hx => by
 obtain ⟨j, hj, h1, h2, h3⟩ := h.mem hx
 have h4 := h.ns _ (List.getElem_mem hj)
 have h5 := (h.ok.canon.1 x hx).2.1
 omega
theorem Sb.Ok.apply {s : Sb} {o : Ob} {ns : List Int} (h : s.Ok ns) (ho : o.Ok) (hq : o.seq = s.seq + 1) : Ivt (ns ++ [totS o.P]) (applyE s.L o.seq o.P o.C) := by
 obtain ⟨_, _, h3, h4⟩ := apply_ok h.inv.ok ho.obj ho.seq
 refine ho.obj.step h.inv h3 fun i => ?_
 rw [h4 i, hq, h.seq]
theorem map_rows (L L1 : List S86) (ns : List Int) : (rowsOf L ns).map (liveOf L1) = rowsOf L1 ns := by
 refine List.ext_getElem (by rw [List.length_map, ZaK, ZaK]) fun i h1 h2 => ?_
 rw [ZaK] at h2
 rw [List.getElem_map, Zbj L ns i h2, Zbj L1 ns i h2]
 rfl
theorem rows_next (L L1 : List S86) (ns : List Int) (t : Int) : (rowsOf L ns ++ [(⟨(ns.length : Int) + 1, t, 0⟩ : S51)]).map (liveOf L1) = rowsOf L1 (ns ++ [t]) := by
 rw [List.map_append, map_rows]
 unfold rowsOf
 rw [List.mapIdx_concat]
 rfl
theorem Sb.Ok.next {s : Sb} {o : Ob} {ns : List Int} (h : s.Ok ns) (ho : o.Ok) (hq : o.seq = s.seq + 1) (h12 : ns.length + 1 ≤ 12) (A6 : Option Addr) (c6 : Nat) (A8 : Option Addr) (c8 : Nat) :
  Sb.Ok ⟨s.key, o.epoch, o.seq, o.upto, 64, A6, c6, applyE s.L o.seq o.P o.C, A8, c8, (s.R ++ [(⟨o.seq, totS o.P, 0⟩ : S51)]).map (liveOf (applyE s.L o.seq o.P o.C)), s.note⟩ (ns ++ [totS o.P]) := by
 refine ⟨h.apply ho hq, ?_, h.key, ho.epoch, ?_, by simp; omega, ho.upto, rfl, h.note⟩
 ·show (s.R ++ [(⟨o.seq, totS o.P, 0⟩ : S51)]).map _ = _
  rw [h.rows, show o.seq = (ns.length : Int) + 1 by rw [hq, h.seq]]
  exact rows_next _ _ _ _
 ·show o.seq = _
  rw [hq, h.seq]
  simp
set_option maxRecDepth 100000 in
set_option maxHeartbeats 16000000 in
theorem Zbm (s : Sb) (o : Ob) (ns : List Int) (gs : Nat) (w : World) (hr : s.Reads w) (hs : s.Ok ns) (hro : o.Reads w) (ho : o.Ok) (hky : o.key = s.key) (hsq : o.seq = s.seq + 1) (hep : s.epoch ≤ o.epoch) (hup : s.upto ≤ o.upto)
  (hgs : w.heap[gs]? = some (.cells o.cells 40 (0, 0))) (h12 : ns.length + 1 ≤ 12) :
  Calls Tryz.prog 11 #[s.val, .slice (some ⟨gs, 0, none⟩) 1 1] w fun e w' => ∃ s' : Sb, e = .returned (.tuple #[s'.val, .int .i64 0]) ∧ s'.Owns w' w.heap.size ∧ s'.Ok (ns ++ [totS o.P]) ∧
   (s'.L = applyE s.L o.seq o.P o.C ∧ s'.key = s.key ∧ s'.epoch = o.epoch ∧ s'.upto = o.upto) ∧ Below w.heap.size w w' := by
 have hu34 := Tryz.underlying34
 have hu40 := Tryz.underlying40
 have hu43 := Tryz.underlying43
 have hu97 := Tryz.underlying97
 have hu3 := Tryz.underlying3
 have hu30 := Tryz.underlying30
 have hu31 := Tryz.underlying31
 have hu32 := Tryz.underlying32
 have hu44 := Tryz.underlying44
 have hu46 := Tryz.underlying46
 have hu51 := Tryz.underlying51
 have hu25 := Tryz.underlying25
 have hu88 := Tryz.underlying88
 have HR := Aside0.mk hr
 have HRO := Aside0.mk hro
 have HS := Aside0.mk hs
 have HO := Aside0.mk ho
 have HGs := Aside0.mk hgs
 have HCk := Aside0.mk (fun W (hb : Below w.heap.size w W) => Zdu s ns W (hr.below hb) hs)
 have HMy := Aside0.mk (fun W (hb : Below w.heap.size w W) => mayO_calls s o ns W (hr.below hb) hs (hro.below hb) ho hky hsq hep hup)
 have HAp := Aside0.mk (fun g W (hM : MapAt W g s.L) (hb : Below w.heap.size w W) => apply_calls g s.L o W hM hs.inv.ok (hro.below hb) ho)
 have HPt := Aside0.mk (fun g W (hM : MapAt W g []) (hb : Below w.heap.size w W) => put_calls g [] s.L s.ma s.mc W hM Okm.nil (fun x hx => ⟨hs.inv.ok.good x hx, hs.inv.ok.ends x hx⟩) (Kd.C_below hr.m hb) (by have := hs.inv.ok.len; omega))
 have HSc := Aside0.mk (fun W (hb : Below w.heap.size w W) => Ob.sectors o W (hro.below hb) ho)
 have hpn := Aside0.mk (putE_nil hs.inv.ok)
 have HQ := Aside0.mk (show s.key = o.key ∧ o.seq = s.seq + 1 ∧ s.epoch ≤ o.epoch ∧ s.upto ≤ o.upto from ⟨hky.symm, hsq, hep, hup⟩)
 have hsz := hs.size
 have HLr := Aside0.mk (show s.R.length ≤ 1000000 by have := hs.rowsMay.2; omega)
 have HNx := Aside0.mk (fun A6 c6 A8 c8 => hs.next ho hsq h12 A6 c6 A8 c8)
 have HRy := Aside0.mk (show (∀ x ∈ s.R ++ [⟨o.seq, totS o.P, 0⟩], 1 ≤ x.f0 ∧ x.f0 < 1099511627776) ∧ (s.R ++ [(⟨o.seq, totS o.P, 0⟩ : S51)]).length ≤ 1000 from ⟨fun x hx => by
  rcases List.mem_append.1 hx with hx | hx
  ·have := hs.rowsMay.1 x hx
   unfold MayR at this
   omega
  ·rw [List.mem_singleton.1 hx]
   exact ho.seq, by have := hs.rowsMay.2; simp; omega⟩)
 have HIv := Aside0.mk (hs.apply ho hsq)
 obtain ⟨key, ep, sq, up, sz, ma, mc, L, ra, rc, R, nt⟩ := s
 obtain ⟨okey, oep, osq, oup, pa, pc, P, ca, cc, C, dt⟩ := o
 simp only at hsz HNx HRy HIv HLr HAp HPt HSc hpn HQ ⊢
 subst hsz
 have hpl : (P.map part0).length = P.length := List.length_map _
 have HPL := Aside0.mk hpl
 unfold Sb.val Sb.cells at HCk HMy
 unfold Ob.val at HMy HAp HSc
 unfold Ob.cells at HGs
 simp only at HCk HMy HAp HSc HGs
 rw [hpl] at HMy HAp HSc HGs
 unfold Sb.val Sb.cells
 simp only
 clear hr hs hro ho hky hsq hep hup hgs hpl
 have ba := Zab (Below.refl _ w) (.cells #[.int .u64 key, .int .i64 ep, .int .i64 sq, .int .i64 up, .int .i64 64, .slice ma L.length mc, .slice ra R.length rc, .string nt] 34)
 have hbx := Zas w (.cells #[.int .u64 key, .int .i64 ep, .int .i64 sq, .int .i64 up, .int .i64 64, .slice ma L.length mc, .slice ra R.length rc, .string nt] 34)
 have hs0 : (w.alloc (.cells #[.int .u64 key, .int .i64 ep, .int .i64 sq, .int .i64 up, .int .i64 64, .slice ma L.length mc, .slice ra R.length rc, .string nt] 34)).heap.size = w.heap.size + 1 := by simp
 generalize hW0 : w.alloc (.cells #[.int .u64 key, .int .i64 ep, .int .i64 sq, .int .i64 up, .int .i64 64, .slice ma L.length mc, .slice ra R.length rc, .string nt] 34) = W0 at ba hbx hs0
 have bb := Zab (Below.refl _ W0) (.cells #[.int .u64 0, .int .i64 0, .int .i64 0, .int .i64 0, .int .i64 0, .slice none 0 0, .slice none 0 0, .string ⟨#[]⟩] 34)
 have hzx := Zas W0 (.cells #[.int .u64 0, .int .i64 0, .int .i64 0, .int .i64 0, .int .i64 0, .slice none 0 0, .slice none 0 0, .string ⟨#[]⟩] 34)
 rw [hs0] at hzx
 have hbx := Zag hbx bb
 have HB1 := Aside0.mk (Zae ba bb)
 have HSB : Aside0 (w.heap.size + 1 < (W0.alloc (.cells #[.int .u64 0, .int .i64 0, .int .i64 0, .int .i64 0, .int .i64 0, .slice none 0 0, .slice none 0 0, .string ⟨#[]⟩] 34)).heap.size) := ⟨by simp [hs0]⟩
 have HBX := Aside0.mk hbx
 have HZX := Aside0.mk hzx
 have HS0 := Aside0.mk hs0
 have q0 := (Zaa hbx 0).trans (rfl : _ = some (Value.int .u64 key))
 have q1 := (Zaa hbx 1).trans (rfl : _ = some (Value.int .i64 ep))
 have q2 := (Zaa hbx 2).trans (rfl : _ = some (Value.int .i64 sq))
 have q3 := (Zaa hbx 3).trans (rfl : _ = some (Value.int .i64 up))
 have q4 := (Zaa hbx 4).trans (rfl : _ = some (Value.int .i64 64))
 have q5 := (Zaa hbx 5).trans (rfl : _ = some (Value.slice ma L.length mc))
 have q6 := (Zaa hbx 6).trans (rfl : _ = some (Value.slice ra R.length rc))
 have q7 := (Zaa hbx 7).trans (rfl : _ = some (Value.string nt))
 clear ba hbx bb hzx hs0
 go_enter Tryz.func11, Tryz.ntmps11
 go_wp2_with (fail)
 clear hW0 q0 q1 q2 q3 q4 q5 q6 q7
 rw [HS0.out]
 generalize W0.alloc (.cells #[.int .u64 0, .int .i64 0, .int .i64 0, .int .i64 0, .int .i64 0, .slice none 0 0, .slice none 0 0, .string ⟨#[]⟩] 34) = W1 at HB1 HBX HZX HSB ⊢
 refine (HCk.out _ HB1.out).mono ?_
 rintro e w2 ⟨rfl, hb⟩
 have HB2 := Aside0.mk (Zae HB1.out hb)
 have HX2 := Aside0.mk (Zag HBX.out hb)
 have HZ2 := Aside0.mk (Zag HZX.out hb)
 have HN2 := Aside0.mk (Nat.lt_of_lt_of_le HSB.out hb.size)
 clear hb HBX HZX
 go_wp2_with (fail)
 refine (Zc5 w2).mono ?_
 rintro e w3 ⟨g, rfl, hg, hM3, hb⟩
 have HB3 := Aside0.mk (Zae HB2.out hb)
 have HX3 := Aside0.mk (Zag HX2.out hb)
 have HZ3 := Aside0.mk (Zag HZ2.out hb)
 have Hg := Aside0.mk (show w.heap.size + 1 < g by have := HN2.out; omega)
 have HM3 := Aside0.mk hM3
 have q5 := (Zaa HX3.out 5).trans (rfl : _ = some (Value.slice ma L.length mc))
 clear hb hg hM3 HX2 HZ2
 go_wp2_with (fail)
 refine (HPt.out g w3 HM3.out HB3.out).mono ?_
 rintro e w4 ⟨v4, rfl, hM4, hg4⟩
 rw [hpn.out] at hM4
 have HB4 := Aside0.mk (HB3.out.grown hg4 HB3.out.size (fun j hj => by have h1 := Hg.out; obtain rfl := Option.some.inj hj; omega))
 have HX4 := Aside0.mk (Zay HX3.out hg4 (by have h1 := Hg.out; intro e; have := Option.some.inj e; omega))
 have HZ4 := Aside0.mk (Zay HZ3.out hg4 (by have h1 := Hg.out; intro e; have := Option.some.inj e; omega))
 have HM4 := Aside0.mk hM4
 clear hM4 hg4 HM3 q5 HX3 HZ3
 go_wp2_with (fail)
 go_loopg [27] 1 (fun kx v27 wr => (v27 = .int .i64 0 ∧ wr = w4 ∧ 1 ≤ kx) ∨ (v27 = .int .i64 1 ∧ ∃ ra2 rc2, Aside0 (Below w.heap.size w wr) ∧ Aside0 (wr.heap[w.heap.size]? = some (.cells #[.int .u64 key, .int .i64 oep, .int .i64 osq, .int .i64 oup, .int .i64 64, .slice ma L.length mc, .slice ra2 (R.length + 1) rc2, .string nt] 34)) ∧ Aside0 (wr.heap[w.heap.size + 1]? = some (.cells #[.int .u64 0, .int .i64 0, .int .i64 0, .int .i64 0, .int .i64 0, .slice none 0 0, .slice none 0 0, .string ⟨#[]⟩] 34)) ∧ Aside0 (MapAt wr g (applyE L osq P C)) ∧ Aside0 (k51.R 51 wr w.heap.size (fun _ => True) (.slice ra2 (R.length + 1) rc2) (R ++ [⟨osq, totS P, 0⟩]))))
 case atStart => exact .inl ⟨rfl, rfl, by omega⟩
 case round =>
  rcases hrel with ⟨rfl, rfl, hk1⟩ | ⟨rfl, ra2, rc2, HB5, HX5, HZ5, HM5, HR5⟩
  ·have HGs4 := Aside0.mk (Zag HGs.out HB4.out)
   have p0 := (Zaa HGs4.out 0).trans (rfl : _ = some (Value.int .u64 okey))
   have p1 := (Zaa HGs4.out 1).trans (rfl : _ = some (Value.int .i64 oep))
   have p2 := (Zaa HGs4.out 2).trans (rfl : _ = some (Value.int .i64 osq))
   have p3 := (Zaa HGs4.out 3).trans (rfl : _ = some (Value.int .i64 oup))
   have p4 := (Zaa HGs4.out 4).trans (rfl : _ = some (Value.slice pa P.length pc))
   have p5 := (Zaa HGs4.out 5).trans (rfl : _ = some (Value.slice ca C.length cc))
   have p6 := (Zaa HGs4.out 6).trans (rfl : _ = some (Value.string dt))
   have q0 := (Zaa (Zag HX4.out (Zab (Below.refl _ wr) (.cells #[.int .u64 okey, .int .i64 oep, .int .i64 osq, .int .i64 oup, .slice pa P.length pc, .slice ca C.length cc, .string dt] 40))) 0).trans (rfl : _ = some (Value.int .u64 key))
   have q1 := (Zaa (Zag HX4.out (Zab (Below.refl _ wr) (.cells #[.int .u64 okey, .int .i64 oep, .int .i64 osq, .int .i64 oup, .slice pa P.length pc, .slice ca C.length cc, .string dt] 40))) 1).trans (rfl : _ = some (Value.int .i64 ep))
   have q2 := (Zaa (Zag HX4.out (Zab (Below.refl _ wr) (.cells #[.int .u64 okey, .int .i64 oep, .int .i64 osq, .int .i64 oup, .slice pa P.length pc, .slice ca C.length cc, .string dt] 40))) 2).trans (rfl : _ = some (Value.int .i64 sq))
   have q3 := (Zaa (Zag HX4.out (Zab (Below.refl _ wr) (.cells #[.int .u64 okey, .int .i64 oep, .int .i64 osq, .int .i64 oup, .slice pa P.length pc, .slice ca C.length cc, .string dt] 40))) 3).trans (rfl : _ = some (Value.int .i64 up))
   have q4 := (Zaa (Zag HX4.out (Zab (Below.refl _ wr) (.cells #[.int .u64 okey, .int .i64 oep, .int .i64 osq, .int .i64 oup, .slice pa P.length pc, .slice ca C.length cc, .string dt] 40))) 4).trans (rfl : _ = some (Value.int .i64 64))
   have q5 := (Zaa (Zag HX4.out (Zab (Below.refl _ wr) (.cells #[.int .u64 okey, .int .i64 oep, .int .i64 osq, .int .i64 oup, .slice pa P.length pc, .slice ca C.length cc, .string dt] 40))) 5).trans (rfl : _ = some (Value.slice ma L.length mc))
   have q6 := (Zaa (Zag HX4.out (Zab (Below.refl _ wr) (.cells #[.int .u64 okey, .int .i64 oep, .int .i64 osq, .int .i64 oup, .slice pa P.length pc, .slice ca C.length cc, .string dt] 40))) 6).trans (rfl : _ = some (Value.slice ra R.length rc))
   have q7 := (Zaa (Zag HX4.out (Zab (Below.refl _ wr) (.cells #[.int .u64 okey, .int .i64 oep, .int .i64 osq, .int .i64 oup, .slice pa P.length pc, .slice ca C.length cc, .string dt] 40))) 7).trans (rfl : _ = some (Value.string nt))
   have hs4 : (wr.alloc (.cells #[.int .u64 okey, .int .i64 oep, .int .i64 osq, .int .i64 oup, .slice pa P.length pc, .slice ca C.length cc, .string dt] 40)).heap.size = wr.heap.size + 1 := by simp
   have bo := Zab (Below.refl _ wr) (.cells #[.int .u64 okey, .int .i64 oep, .int .i64 osq, .int .i64 oup, .slice pa P.length pc, .slice ca C.length cc, .string dt] 40)
   have hox := Zas wr (.cells #[.int .u64 okey, .int .i64 oep, .int .i64 osq, .int .i64 oup, .slice pa P.length pc, .slice ca C.length cc, .string dt] 40)
   have HB5 := Aside0.mk (Zae HB4.out bo)
   have HX5 := Aside0.mk (Zag HX4.out bo)
   have HZ5 := Aside0.mk (Zag HZ4.out bo)
   have HM5 := Aside0.mk (HM4.out.below bo)
   have HOX := Aside0.mk hox
   have Hg5 := Aside0.mk HM4.out.lt
   clear bo hox hs4
   as_aux_lemma =>
    go_wp2_with (fail)
    clear p0 p1 p2 p3 p4 p5 p6 q0 q1 q2 q3 q4 q5 q6 q7
    generalize wr.alloc (.cells #[.int .u64 okey, .int .i64 oep, .int .i64 osq, .int .i64 oup, .slice pa P.length pc, .slice ca C.length cc, .string dt] 40) = w5 at HB5 HX5 HZ5 HM5 HOX ⊢
    obtain ⟨bo, hbo⟩ : ∃ bo, wr.heap.size = bo := ⟨_, rfl⟩
    rw [hbo] at HOX Hg5 ⊢
    refine (HMy.out _ HB5.out).mono ?_
    rintro e w6 ⟨rfl, hb⟩
    have HB6 := Aside0.mk (Zae HB5.out hb)
    have HX6 := Aside0.mk (Zag HX5.out hb)
    have HZ6 := Aside0.mk (Zag HZ5.out hb)
    have HM6 := Aside0.mk (HM5.out.below hb)
    have HO6 := Aside0.mk (Zag HOX.out hb)
    clear hb HOX HM5 HZ5 HX5 hbo
    have p0 := (Zaa HO6.out 0).trans (rfl : _ = some (Value.int .u64 okey))
    have p1 := (Zaa HO6.out 1).trans (rfl : _ = some (Value.int .i64 oep))
    have p2 := (Zaa HO6.out 2).trans (rfl : _ = some (Value.int .i64 osq))
    have p3 := (Zaa HO6.out 3).trans (rfl : _ = some (Value.int .i64 oup))
    have p4 := (Zaa HO6.out 4).trans (rfl : _ = some (Value.slice pa P.length pc))
    have p5 := (Zaa HO6.out 5).trans (rfl : _ = some (Value.slice ca C.length cc))
    have p6 := (Zaa HO6.out 6).trans (rfl : _ = some (Value.string dt))
    go_wp2_with (fail)
    refine (HAp.out g w6 HM6.out HB6.out).mono ?_
    rintro e w7 ⟨A1, c1, A2, c2, rfl, _, _, hM7, hg7⟩
    have HB7 := Aside0.mk (HB6.out.grown hg7 HB6.out.size (fun j hj => by have h1 := Hg.out; obtain rfl := Option.some.inj hj; omega))
    have HX7 := Aside0.mk (Zay HX6.out hg7 (by have h1 := Hg.out; intro e; have := Option.some.inj e; omega))
    have HZ7 := Aside0.mk (Zay HZ6.out hg7 (by have h1 := Hg.out; intro e; have := Option.some.inj e; omega))
    have HO7 := Aside0.mk (Zay HO6.out hg7 (by have h1 := Hg5.out; intro e; have := Option.some.inj e; omega))
    have HM7 := Aside0.mk hM7
    clear hM7 hg7 p0 p1 p2 p3 p4 p5 p6 HX6 HZ6 HO6 HM6
    go_wp2_with (fail)
    have hx7 := show w7.drew.heap[w.heap.size]? = _ from HX7.out
    have ho7 := show w7.drew.heap[bo]? = _ from HO7.out
    have p1 := (Zaa ho7 1).trans (rfl : _ = some (Value.int .i64 oep))
    have p2 := (Zaa ho7 2).trans (rfl : _ = some (Value.int .i64 osq))
    have p3 := (Zaa ho7 3).trans (rfl : _ = some (Value.int .i64 oup))
    have q1 := (Zaa hx7 1).trans (rfl : _ = some (Value.int .i64 ep))
    have q2 := (Zaa hx7 2).trans (rfl : _ = some (Value.int .i64 sq))
    have q3 := (Zaa hx7 3).trans (rfl : _ = some (Value.int .i64 up))
    have fr := fun i => Zad hx7 i
    have q2s := fun v => (Zaa (show (w7.setCell ⟨w.heap.size, 1, none⟩ v).drew.heap[w.heap.size]? = _ from ZaG HX7.out 1 v) 2).trans (rfl : _ = some (Value.int .i64 sq))
    have fr2 := fun v i => Zad (show (w7.setCell ⟨w.heap.size, 1, none⟩ v).drew.heap[w.heap.size]? = _ from ZaG HX7.out 1 v) i
    have q3s := fun v v' => (Zaa (show ((w7.setCell ⟨w.heap.size, 1, none⟩ v).setCell ⟨w.heap.size, 2, none⟩ v').drew.heap[w.heap.size]? = _ from ZaG (ZaG HX7.out 1 v) 2 v') 3).trans (rfl : _ = some (Value.int .i64 up))
    have fr3 := fun v v' i => Zad (show ((w7.setCell ⟨w.heap.size, 1, none⟩ v).setCell ⟨w.heap.size, 2, none⟩ v').drew.heap[w.heap.size]? = _ from ZaG (ZaG HX7.out 1 v) 2 v') i
    have hne : w.heap.size ≠ bo := by have := Hg.out; have := Hg5.out; omega
    have P3 := Aside0.mk (show w7.cell? ⟨bo, 1, none⟩ = some (.int .i64 oep) ∧ w7.cell? ⟨bo, 2, none⟩ = some (.int .i64 osq) ∧ w7.cell? ⟨bo, 3, none⟩ = some (.int .i64 oup) from ⟨p1, p2, p3⟩)
    clear hx7 ho7
    go_region_held3 (fun W => W.cell? ⟨bo, 1, none⟩ = some (.int .i64 oep) ∧ W.cell? ⟨bo, 2, none⟩ = some (.int .i64 osq) ∧ W.cell? ⟨bo, 3, none⟩ = some (.int .i64 oup)) ((simp only [Zd8, Zbu hne]; exact P3.out)) ((first | fail))
    clear P3 p1 p2 p3 q1 q2 q3 fr q2s fr2 q3s fr3
    have hgw := ((Za1 w7 w.heap.size 1 (.int .i64 oep)).trans (Za1 _ w.heap.size 2 (.int .i64 osq))).trans (Za1 _ w.heap.size 3 (.int .i64 oup))
    have hxw := ZaG (ZaG (ZaG HX7.out 1 (.int .i64 oep)) 2 (.int .i64 osq)) 3 (.int .i64 oup)
    generalize ((w7.setCell ⟨w.heap.size, 1, none⟩ (.int .i64 oep)).setCell ⟨w.heap.size, 2, none⟩ (.int .i64 osq)).setCell ⟨w.heap.size, 3, none⟩ (.int .i64 oup) = wz at hgw hxw ⊢
    have hgz : w7.grownBy wz.drew (some w.heap.size) := ⟨hgw.os, hgw.tape, hgw.output, hgw.size, hgw.block⟩
    have HX8 : Aside0 (wz.drew.heap[w.heap.size]? = some (.cells #[.int .u64 key, .int .i64 oep, .int .i64 osq, .int .i64 oup, .int .i64 64, .slice ma L.length mc, .slice ra R.length rc, .string nt] 34 (0, 0))) := ⟨hxw⟩
    have HB8 := Aside0.mk (HB7.out.grown hgz HB7.out.size (fun j hj => by obtain rfl := Option.some.inj hj; exact Nat.le_refl _))
    have HM8 := Aside0.mk (HM7.out.setB HX7.out HIv.out.small (by have := Hg.out; omega) hgz)
    have HO8 := Aside0.mk (Zay HO7.out hgz (by intro e; exact hne (Option.some.inj e).symm))
    have HZ8 := Aside0.mk (Zay HZ7.out hgz (by intro e; have := Option.some.inj e; omega))
    clear hgw hxw hgz HX7 HO7 HZ7 HM7
    generalize wz.drew = w8 at HX8 HB8 HM8 HO8 HZ8 ⊢
    go_wp2_with (fail)
    have HBd := Aside0.mk (Zae HB8.out (ZaV (Below.refl _ w8)))
    have HXd := Aside0.mk (show w8.drew.heap[w.heap.size]? = _ from HX8.out)
    have HOd := Aside0.mk (show w8.drew.heap[bo]? = _ from HO8.out)
    have q6 := (Zaa HXd.out 6).trans (rfl : _ = some (Value.slice ra R.length rc))
    have P8 := Aside0.mk (ocells HOd.out)
    refine wp_region_noPanic ?_
    refine wp_region_held_drew (S := (fun W => W.cell? ⟨bo, 0, none⟩ = some (.int .u64 okey) ∧ W.cell? ⟨bo, 1, none⟩ = some (.int .i64 oep) ∧ W.cell? ⟨bo, 2, none⟩ = some (.int .i64 osq) ∧ W.cell? ⟨bo, 3, none⟩ = some (.int .i64 oup) ∧ W.cell? ⟨bo, 4, none⟩ = some (.slice pa P.length pc) ∧ W.cell? ⟨bo, 5, none⟩ = some (.slice ca C.length cc) ∧ W.cell? ⟨bo, 6, none⟩ = some (.string dt))) (by kernel_rfl) P8.out (fun hHeld => ?_)
    refine wpAnyH_take (i := 0) (v := ?_) rfl (by kernel_rfl) (by kernel_rfl) (by kernel_rfl) (fun _ _ _ h => h) (Or.inl ⟨by rfl, ?_⟩) (by assumption) ?_
    rotate_left
    ·intro w hSw; (try dsimp only at hSw); go_simp; (try with_reducible rfl)
    try simp only [List.getElem_toArray, List.getElem_cons_succ, List.getElem_cons_zero, Act.put, List.setIfInBounds_toArray, List.set_cons_zero, List.set_cons_succ]
    refine wpAnyH_take (i := 3) (v := ?_) rfl (by kernel_rfl) (by kernel_rfl) (by kernel_rfl) (fun _ _ _ h => h) (Or.inl ⟨by rfl, ?_⟩) (by assumption) ?_
    rotate_left
    ·intro w hSw; (try dsimp only at hSw); go_simp; (try with_reducible rfl)
    try simp only [List.getElem_toArray, List.getElem_cons_succ, List.getElem_cons_zero, Act.put, List.setIfInBounds_toArray, List.set_cons_zero, List.set_cons_succ]
    refine wpAnyH_take (i := 4) (v := ?_) rfl (by kernel_rfl) (by kernel_rfl) (by kernel_rfl) (fun _ _ _ h => h) (Or.inl ⟨by rfl, ?_⟩) (by assumption) ?_
    rotate_left
    ·intro w hSw; (try dsimp only at hSw); go_simp; (try with_reducible rfl)
    try simp only [List.getElem_toArray, List.getElem_cons_succ, List.getElem_cons_zero, Act.put, List.setIfInBounds_toArray, List.set_cons_zero, List.set_cons_succ]
    refine wpAnyH_take (i := 5) (v := ?_) rfl (by kernel_rfl) (by kernel_rfl) (by kernel_rfl) (fun _ _ _ h => h) (Or.inl ⟨by rfl, ?_⟩) (by assumption) ?_
    rotate_left
    ·intro w hSw; (try dsimp only at hSw); go_simp; (try with_reducible rfl)
    try simp only [List.getElem_toArray, List.getElem_cons_succ, List.getElem_cons_zero, Act.put, List.setIfInBounds_toArray, List.set_cons_zero, List.set_cons_succ]
    refine wpAnyH_ready (rs := [1]) (by kernel_rfl) (by simp) ?_
    refine AllReadyH.cons rfl (fun K hK => ?_) AllReadyH.nil
    (go_simp)
    refine hK.out _ _ P8.out (fun hHeld => ?_)
    clear hK K
    try simp only [List.getElem_toArray, List.getElem_cons_succ, List.getElem_cons_zero, Act.put, List.setIfInBounds_toArray, List.set_cons_zero, List.set_cons_succ]
    refine wpAnyH_ready (rs := [2]) (by kernel_rfl) (by simp) ?_
    refine AllReadyH.cons rfl (fun K hK => ?_) AllReadyH.nil
    (go_simp; go_at_call 38; refine (ZcU ra rc R _ (Kd.C_below HR.out.r HBd.out) HLr.out).mono ?_; rintro e w9 ⟨v9, rfl, hR9, hb⟩; have HB9 := Aside0.mk (Zae HBd.out hb); have HX9 := Aside0.mk (Zag HXd.out hb); have HO9 := Aside0.mk (Zag HOd.out hb); have P9 := Aside0.mk (ocells HO9.out); have HR9 := Aside0.mk hR9; have HBr9 := Aside0.mk hb; clear hR9 hb; go_wp2_with (fail))
    refine hK.out _ _ P9.out (fun hHeld => ?_)
    clear hK K
    try simp only [List.getElem_toArray, List.getElem_cons_succ, List.getElem_cons_zero, Act.put, List.setIfInBounds_toArray, List.set_cons_zero, List.set_cons_succ]
    refine wpAnyH_ready (rs := [6]) (by kernel_rfl) (by simp) ?_
    refine AllReadyH.cons rfl (fun K hK => ?_) AllReadyH.nil
    (go_simp; go_at_call 12; refine (HSc.out _ HB9.out).mono ?_; rintro e w10 ⟨rfl, hb⟩; have HB10 := Aside0.mk (Zae HB9.out hb); have HX10 := Aside0.mk (Zag HX9.out hb); have HO10 := Aside0.mk (Zag HO9.out hb); have P10 := Aside0.mk (ocells HO10.out); have HR10 := Aside0.mk (Kd.R_below HR9.out hb); have HBr10 := Aside0.mk (Zae HBr9.out hb); have P11 := Aside0.mk (ocells (Zag HO10.out (Zab (Below.refl _ w10) (.cells #[.int .i64 osq, .int .i64 (totS P), .int .i64 0] 51)))); clear hb; go_wp2_with (fail))
    refine hK.out _ _ P10.out (fun hHeld => ?_)
    clear hK K
    try simp only [List.getElem_toArray, List.getElem_cons_succ, List.getElem_cons_zero, Act.put, List.setIfInBounds_toArray, List.set_cons_zero, List.set_cons_succ]
    refine wpAnyH_take (i := 7) (v := ?_) rfl (by kernel_rfl) (by kernel_rfl) (by kernel_rfl) (fun _ _ _ h => h) (Or.inl ⟨by rfl, ?_⟩) (by assumption) ?_
    rotate_left
    ·intro w hSw; (try dsimp only at hSw); go_simp; (try with_reducible rfl)
    try simp only [List.getElem_toArray, List.getElem_cons_succ, List.getElem_cons_zero, Act.put, List.setIfInBounds_toArray, List.set_cons_zero, List.set_cons_succ]
    refine wpAnyH_ready (rs := [8]) (by kernel_rfl) (by simp) ?_
    refine AllReadyH.cons rfl (fun K hK => ?_) AllReadyH.nil
    (go_simp)
    refine hK.out _ _ P11.out (fun hHeld => ?_)
    clear hK K
    try simp only [List.getElem_toArray, List.getElem_cons_succ, List.getElem_cons_zero, Act.put, List.setIfInBounds_toArray, List.set_cons_zero, List.set_cons_succ]
    refine wpAnyH_ready (rs := [9]) (by kernel_rfl) (by simp) ?_
    refine AllReadyH.cons rfl (fun K hK => ?_) AllReadyH.nil
    (refine Za2 rfl ?_; intro Q' hQ'; refine app51 (base := w8.drew.heap.size) rfl (.tmp 60) (.tmp 66) rfl v9 R ⟨osq, totS P, 0⟩ rfl rfl HR10.out HBr10.out.size HLr.out ?_; intro v11 w11 hR11 hb11 hg11; obtain ⟨A11, c11, rfl, hc11, _⟩ := Kd.R_reads hR11; have HBr11 := Aside0.mk (Zb0 HBr10.out hb11); have HR11 := Aside0.mk hR11; have P12 := Aside0.mk (ocells (Zag HOd.out HBr11.out)); have HX11 := Aside0.mk (Zag HXd.out HBr11.out); have HC11 := Aside0.mk hc11; have q6 := (Zaa HX11.out 6).trans (rfl : _ = some (Value.slice ra R.length rc)); have fr := fun i => Zad HX11.out i; clear hR11 hb11 hg11 hc11; refine hQ' _ _ ?_; clear hQ' Q')
    refine hK.out _ _ P12.out (fun hHeld => ?_)
    clear hK K
    try simp only [List.getElem_toArray, List.getElem_cons_succ, List.getElem_cons_zero, Act.put, List.setIfInBounds_toArray, List.set_cons_zero, List.set_cons_succ]
    refine wpAnyH_take (i := 10) (v := ?_) rfl (by kernel_rfl) (by kernel_rfl) (by kernel_rfl) (fun _ _ _ h => h) (Or.inl ⟨by rfl, ?_⟩) (by assumption) ?_
    rotate_left
    ·intro w hSw; (try dsimp only at hSw); go_simp; (try with_reducible rfl)
    try simp only [List.getElem_toArray, List.getElem_cons_succ, List.getElem_cons_zero, Act.put, List.setIfInBounds_toArray, List.set_cons_zero, List.set_cons_succ]
    refine wpAnyH_ready (rs := [11]) (by kernel_rfl) (by simp) ?_
    refine AllReadyH.cons rfl (fun K hK => ?_) AllReadyH.nil
    (go_simp)
    refine hK.out _ _ (by simp only [Zbu hne]; exact P12.out) (fun hHeld => ?_)
    clear hK K
    try simp only [List.getElem_toArray, List.getElem_cons_succ, List.getElem_cons_zero, Act.put, List.setIfInBounds_toArray, List.set_cons_zero, List.set_cons_succ]
    refine wpAnyH_done (by kernel_rfl) ?_ _
    refine NoPanic.normal ?_
    clear q6 fr P8 P9 P10 P11 P12
    have hgx := Za1 w11 w.heap.size 6 (.slice A11 (R.length + 1) c11)
    have hbw11 := Zae HBd.out HBr11.out
    have HB12 := Aside0.mk (hbw11.grown hgx hbw11.size (fun j hj => by obtain rfl := Option.some.inj hj; exact Nat.le_refl _))
    have HX12 : Aside0 ((w11.setCell ⟨w.heap.size, 6, none⟩ (.slice A11 (R.length + 1) c11)).heap[w.heap.size]? = some (.cells #[.int .u64 key, .int .i64 oep, .int .i64 osq, .int .i64 oup, .int .i64 64, .slice ma L.length mc, .slice A11 (R.length + 1) c11, .string nt] 34 (0, 0))) := ⟨ZaG HX11.out 6 _⟩
    have HZ12 := Aside0.mk (Zay (Zag HZ8.out (Zae (ZaV (Below.refl _ w8)) HBr11.out)) hgx (by intro e; have := Option.some.inj e; omega))
    have HM12 := Aside0.mk ((HM8.out.below (Zae (ZaV (Below.refl _ w8)) HBr11.out)).setB HX11.out HIv.out.small (by have := Hg.out; omega) hgx)
    have hr12 := Kd.R_lower (Kd.R_set HR11.out HX11.out not34 6 (.slice A11 (R.length + 1) c11)) HBd.out.size
    have hln : (R ++ [(⟨osq, totS P, 0⟩ : S51)]).length = R.length + 1 := by simp
    rw [hln] at hr12
    have HR12 := Aside0.mk hr12
    clear hr12 hln
    clear hgx hbw11
    generalize w11.setCell ⟨w.heap.size, 6, none⟩ (.slice A11 (R.length + 1) c11) = w12 at HB12 HX12 HZ12 HM12 HR12 ⊢
    go_wp2_with (fail)
    go_roundg (gk - 1)
    case measure => omega
    case rel => exact .inr ⟨by rfl, A11, c11, HB12, HX12, HZ12, HM12, HR12⟩
  ·obtain ⟨L1, hL1⟩ : ∃ L1, applyE L osq P C = L1 := ⟨_, rfl⟩
   simp only [hL1] at HM5 HIv HNx
   have HL1 := Aside0.mk hL1
   clear hL1
   have HAl := Aside0.mk (ZbL g L1 wr HM5.out (by have := HIv.out.ok.len; omega))
   as_aux_lemma =>
    go_wp2_with (fail)
    refine HAl.out.mono ?_
    rintro e w6 ⟨v6, rfl, hR6, hb6⟩
    obtain ⟨A6, c6, rfl, hc6, _⟩ := Kd.R_reads hR6
    have HB6 := Aside0.mk (Zae HB5.out hb6)
    have HX6 := Aside0.mk (Zag HX5.out hb6)
    have HZ6 := Aside0.mk (Zag HZ5.out hb6)
    have HR6r := Aside0.mk (Kd.R_below HR5.out hb6)
    have s5 := (Zaa HX6.out 5).trans (rfl : _ = some (Value.slice ma L.length mc))
    have fr := fun i => Zad HX6.out i
    have hx7 := ZaG HX6.out 5 (.slice A6 L1.length c6)
    have q0 := (Zaa hx7 0).trans (rfl : _ = some (Value.int .u64 key))
    have q1 := (Zaa hx7 1).trans (rfl : _ = some (Value.int .i64 oep))
    have q2 := (Zaa hx7 2).trans (rfl : _ = some (Value.int .i64 osq))
    have q3 := (Zaa hx7 3).trans (rfl : _ = some (Value.int .i64 oup))
    have q4 := (Zaa hx7 4).trans (rfl : _ = some (Value.int .i64 64))
    have q5 := (Zaa hx7 5).trans (rfl : _ = some (Value.slice A6 L1.length c6))
    have q6 := (Zaa hx7 6).trans (rfl : _ = some (Value.slice ra2 (R.length + 1) rc2))
    have q7 := (Zaa hx7 7).trans (rfl : _ = some (Value.string nt))
    have hgx := Za1 w6 w.heap.size 5 (.slice A6 L1.length c6)
    have HX7 : Aside0 ((w6.setCell ⟨w.heap.size, 5, none⟩ (.slice A6 L1.length c6)).heap[w.heap.size]? = some (.cells #[.int .u64 key, .int .i64 oep, .int .i64 osq, .int .i64 oup, .int .i64 64, .slice A6 L1.length c6, .slice ra2 (R.length + 1) rc2, .string nt] 34 (0, 0))) := ⟨hx7⟩
    have HB7 := Aside0.mk (HB6.out.grown hgx HB6.out.size (fun j hj => by obtain rfl := Option.some.inj hj; exact Nat.le_refl _))
    have HZ7 := Aside0.mk (Zay HZ6.out hgx (by intro e; have := Option.some.inj e; omega))
    have HR7 := Aside0.mk (Kd.R_lower (Kd.R_set hR6 HX6.out not34m 5 (.slice A6 L1.length c6)) HB5.out.size)
    have HR7r := Aside0.mk (Kd.R_set HR6r.out HX6.out not34 5 (.slice A6 L1.length c6))
    clear hR6 hb6 hc6 hgx hx7 HX6 HZ6 HR6r
    go_wp2_with (fail)
    generalize w6.setCell ⟨w.heap.size, 5, none⟩ (.slice A6 L1.length c6) = w7 at HX7 HB7 HZ7 HR7 HR7r q0 q1 q2 q3 q4 q5 q6 q7 ⊢
    clear q0 q1 q2 q3 q4 q5 q6 q7 s5 fr
    have hln : (R ++ [(⟨osq, totS P, 0⟩ : S51)]).length = R.length + 1 := by simp
    have hm7 := Kd.R_reads' HR7.out
    have hr7 := Kd.R_reads' HR7r.out
    have hcn := countedS_calls ⟨key, oep, osq, oup, 64, A6, c6, L1, ra2, rc2, R ++ [⟨osq, totS P, 0⟩], nt⟩ w7 ⟨hm7.2.2, hm7.2.1, hr7.2.2, by rw [← hr7.1]; exact hr7.2.1⟩ HIv.out.ok HIv.out.seqOk HRy.out.1 HRy.out.2
    unfold Sb.val Sb.cells at hcn
    simp only [hln] at hcn
    refine hcn.mono ?_
    clear hcn hm7 hr7 hln
    rintro e w8 ⟨A8, c8, rfl, hc8, hC8, hR8, hb8⟩
    have HB8 := Aside0.mk (Zae HB7.out hb8)
    have HX8 := Aside0.mk (Zag HX7.out hb8)
    have HZ8 := Aside0.mk (Zag HZ7.out hb8)
    have HR8 := Aside0.mk (Kd.R_below HR7.out hb8)
    have s6 := (Zaa HX8.out 6).trans (rfl : _ = some (Value.slice ra2 (R.length + 1) rc2))
    have fr := fun i => Zad HX8.out i
    have hx9 := ZaG HX8.out 6 (.slice A8 (R.length + 1) c8)
    have q0 := (Zaa hx9 0).trans (rfl : _ = some (Value.int .u64 key))
    have q1 := (Zaa hx9 1).trans (rfl : _ = some (Value.int .i64 oep))
    have q2 := (Zaa hx9 2).trans (rfl : _ = some (Value.int .i64 osq))
    have q3 := (Zaa hx9 3).trans (rfl : _ = some (Value.int .i64 oup))
    have q4 := (Zaa hx9 4).trans (rfl : _ = some (Value.int .i64 64))
    have q5 := (Zaa hx9 5).trans (rfl : _ = some (Value.slice A6 L1.length c6))
    have q6 := (Zaa hx9 6).trans (rfl : _ = some (Value.slice A8 (R.length + 1) c8))
    have q7 := (Zaa hx9 7).trans (rfl : _ = some (Value.string nt))
    have hgx := Za1 w8 w.heap.size 6 (.slice A8 (R.length + 1) c8)
    have HX9 : Aside0 ((w8.setCell ⟨w.heap.size, 6, none⟩ (.slice A8 (R.length + 1) c8)).heap[w.heap.size]? = some (.cells #[.int .u64 key, .int .i64 oep, .int .i64 osq, .int .i64 oup, .int .i64 64, .slice A6 L1.length c6, .slice A8 (R.length + 1) c8, .string nt] 34 (0, 0))) := ⟨hx9⟩
    have HB9 := Aside0.mk (HB8.out.grown hgx HB8.out.size (fun j hj => by obtain rfl := Option.some.inj hj; exact Nat.le_refl _))
    have HZ9 := Aside0.mk (Zay HZ8.out hgx (by intro e; have := Option.some.inj e; omega))
    have HR9 := Aside0.mk (Kd.R_set HR8.out HX8.out not34m 6 (.slice A8 (R.length + 1) c8))
    have HR9n := Aside0.mk (Kd.R_lower (Kd.R_set hR8 HX8.out not34 6 (.slice A8 (R.length + 1) c8)) HB7.out.size)
    clear hR8 hC8 hb8 hc8 hgx hx9 HX8 HZ8 HR8 HX7 HZ7 HR7 HR7r
    go_wp2_with (fail)
    generalize w8.setCell ⟨w.heap.size, 6, none⟩ (.slice A8 (R.length + 1) c8) = w9 at HX9 HB9 HZ9 HR9 HR9n q0 q1 q2 q3 q4 q5 q6 q7 ⊢
    clear q0 q1 q2 q3 q4 q5 q6 q7 s6 fr
    have hln : ((R ++ [(⟨osq, totS P, 0⟩ : S51)]).map (liveOf L1)).length = R.length + 1 := by simp
    have hm9 := Kd.R_reads' HR9.out
    have hr9 := Kd.R_reads' HR9n.out
    have hcn := Zb9 ⟨key, oep, osq, oup, 64, A6, c6, L1, A8, c8, (R ++ [(⟨osq, totS P, 0⟩ : S51)]).map (liveOf L1), nt⟩ (ns ++ [totS P]) w9 ⟨hm9.2.2, hm9.2.1, hr9.2.2, by rw [← hr9.1]; exact hr9.2.1⟩ (HNx.out A6 c6 A8 c8)
    unfold Sb.val Sb.cells at hcn
    simp only [hln] at hcn
    refine hcn.mono ?_
    clear hcn hm9 hr9 hln
    rintro e w10 ⟨t, rfl, hts, hb⟩
    have HB10 := Aside0.mk (Zae HB9.out hb)
    have HX10 := Aside0.mk (Zag HX9.out hb)
    have HZ10 := Aside0.mk (Zag HZ9.out hb)
    have HR10 := Aside0.mk (Kd.R_below HR9.out hb)
    have HR10n := Aside0.mk (Kd.R_below HR9n.out hb)
    have hd9 : decide ((t.size : Int) > 65536) = false := decide_eq_false (by omega)
    have q0 := (Zaa HX10.out 0).trans (rfl : _ = some (Value.int .u64 key))
    have q1 := (Zaa HX10.out 1).trans (rfl : _ = some (Value.int .i64 oep))
    have q2 := (Zaa HX10.out 2).trans (rfl : _ = some (Value.int .i64 osq))
    have q3 := (Zaa HX10.out 3).trans (rfl : _ = some (Value.int .i64 oup))
    have q4 := (Zaa HX10.out 4).trans (rfl : _ = some (Value.int .i64 64))
    have q5 := (Zaa HX10.out 5).trans (rfl : _ = some (Value.slice A6 L1.length c6))
    have q6 := (Zaa HX10.out 6).trans (rfl : _ = some (Value.slice A8 (R.length + 1) c8))
    have q7 := (Zaa HX10.out 7).trans (rfl : _ = some (Value.string nt))
    clear HX9 HZ9 HR9 HR9n hb hts
    go_wp2_with ((with_reducible refine gate_ (.store 34 (.tmp 4) (.tmp 81)) rfl ?_); refine ZaX 34 (.tmp 4) (.tmp 81) rfl rfl rfl (.agg #[.int .u64 key, .int .i64 oep, .int .i64 osq, .int .i64 oup, .int .i64 64, .slice A6 L1.length c6, .slice A8 (R.length + 1) c8, .string nt]) [.int .u64 key, .int .i64 oep, .int .i64 osq, .int .i64 oup, .int .i64 64, .slice A6 L1.length c6, .slice A8 (R.length + 1) c8, .string nt] rfl rfl rfl (by kernel_rfl) HZ10.out (Nat.le_refl 8) (by intro q hq; simp only [List.mem_cons, List.not_mem_nil, or_false] at hq; rcases hq with rfl | rfl | rfl | rfl | rfl | rfl | rfl | rfl <;> rfl) ?_; have hz11 := set8 (v0 := .int .u64 key) (v1 := .int .i64 oep) (v2 := .int .i64 osq) (v3 := .int .i64 oup) (v4 := .int .i64 64) (v5 := .slice A6 L1.length c6) (v6 := .slice A8 (R.length + 1) c8) (v7 := .string nt) HZ10.out; have hgx := ZaJ (w.heap.size + 1) [.int .u64 key, .int .i64 oep, .int .i64 osq, .int .i64 oup, .int .i64 64, .slice A6 L1.length c6, .slice A8 (R.length + 1) c8, .string nt] 0 w10; generalize w10.setCells (w.heap.size + 1) 0 [.int .u64 key, .int .i64 oep, .int .i64 osq, .int .i64 oup, .int .i64 64, .slice A6 L1.length c6, .slice A8 (R.length + 1) c8, .string nt] = w11 at hz11 hgx ⊢; have HZ11 := Aside0.mk hz11; have HG11 := Aside0.mk hgx; clear hz11 hgx q0 q1 q2 q3 q4 q5 q6 q7 hd9)
    (try simp only [Exit.inBlock, Exit.then])
    refine bodyPost_ret (Zc1 rfl _ _ _ _ _ _ _ rfl HZ11.out hu34 rfl (by kernel_rfl)) rfl ?_
    have hln : ((R ++ [(⟨osq, totS P, 0⟩ : S51)]).map (liveOf L1)).length = R.length + 1 := by simp
    have hm := Kd.R_mono (Kd.R_grown (Kd.R_types HR10.out HZ10.out not34m) HG11.out (fun k hk e => hk.2 (Option.some.inj e))) (fun _ _ => trivial : ∀ k, _ → True)
    have hr := Kd.R_mono (Kd.R_grown (Kd.R_types HR10n.out HZ10.out not34) HG11.out (fun k hk e => hk.2 (Option.some.inj e))) (fun _ _ => trivial : ∀ k, _ → True)
    refine ⟨⟨key, oep, osq, oup, 64, A6, c6, L1, A8, c8, (R ++ [(⟨osq, totS P, 0⟩ : S51)]).map (liveOf L1), nt⟩, ?_, ⟨hm, by simp only [hln]; exact hr⟩, HNx.out A6 c6 A8 c8, ⟨HL1.out.symm, rfl, rfl, rfl⟩, HB10.out.grown HG11.out HB10.out.size (fun j hj => by obtain rfl := Option.some.inj hj; omega)⟩
    simp only [hln]
    rfl
noncomputable abbrev strR : Value → Option (DataW Unit × List MemPlace) := plainElem Tryz.prog 129
def strD (s : ByteArray) : DataW Unit := .lit (.string s.data.toList)
theorem str_inv {P : Program} {e : TypeId} (he : P.underlying e = some .string) {v : Value} {z : DataW Unit × List MemPlace} (h : plainElem P e v = some z) : ∃ s : ByteArray, v = .string s ∧ z = (.lit (.string s.data.toList), []) := by
 unfold plainElem at h
 rw [he] at h
 split at h
 ·rename_i h1; simp at h1
 ·rename_i h1; simp at h1
 ·split at h
  ·cases h; exact ⟨_, rfl, rfl⟩
  ·cases h
 ·cases h
def secLen (b : Bool) : Nat := if b then 64 else 0
structure Bp where
 p : ByteArray → Prop
 nil : p ⟨#[]⟩
 ext : ∀ s a b, p s → p (s.extract a b)
 app : ∀ s t, p s → p t → p (s ++ t)
def Bp.Sec (π : Bp) (b : Bool) (s : ByteArray) : Prop := s.size = secLen b ∧ π.p s
theorem Bp.sec_nil (π : Bp) : π.Sec false ⟨#[]⟩ := ⟨rfl, π.nil⟩
theorem data_inj {s t : ByteArray} (h : s.data.toList = t.data.toList) : s = t := by
 cases s
 cases t
 simp only at h
 congr 1
 exact Array.toList_inj.1 h
structure SecOf (π : Bp) (D : DataW Unit) (T : Int → Option Bool) : Prop where
 has : ∀ kl, Maps.has D kl = true ↔ ∃ k, kl = .int .i64 k ∧ (T k).isSome = true
 val : ∀ k b, T k = some b → ∃ s : ByteArray, π.Sec b s ∧ ∀ zd, D.atKey (.int .i64 k) zd = strD s
 inn : ∀ k, (T k).isSome = true → 0 ≤ k ∧ k < 60
def setT (T : Int → Option Bool) (k : Int) (b : Bool) : Int → Option Bool := fun i => if i = k then some b else T i
theorem SecOf.nil (π : Bp) : SecOf π (.map []) (fun _ => none) := ⟨fun kl => by simp [Maps.has], fun _ _ h => (by cases h), fun _ h => (by cases h)⟩
theorem Zd1 {k : Int} (h : 0 ≤ k ∧ k < 60) : keyOf Tryz.prog 3 (.int .i64 k) = some (.int .i64 k) := keyOf_int_mk Tryz.underlying3 (wf_of (by omega) (by omega))
theorem SecOf.put {π : Bp} {D : DataW Unit} {T : Int → Option Bool} (h : SecOf π D T) {k : Int} (hk : 0 ≤ k ∧ k < 60) {s : ByteArray} {b : Bool} (hs : π.Sec b s) (hm : IsMap D) : SecOf π (D.put (.int .i64 k) (strD s)) (setT T k b) := by
 have hkl : WideAt.IsKeyLit (.int .i64 k) := keyed3.key (Zd1 hk)
 refine ⟨fun kl => ?_, fun i c hc => ?_, fun i hi => ?_⟩
 ·by_cases he : kl = .int .i64 k
  ·subst he
   rw [has_put_same hm hkl]
   simp only [true_iff]
   exact ⟨k, rfl, by simp [setT]⟩
  ·rw [has_put_other he, h.has]
   constructor
   ·rintro ⟨i, rfl, hi⟩
    refine ⟨i, rfl, ?_⟩
    unfold setT
    split <;> simp [hi]
   ·rintro ⟨i, rfl, hi⟩
    refine ⟨i, rfl, ?_⟩
    unfold setT at hi
    rw [if_neg (fun e => he (by rw [e]))] at hi
    exact hi
 ·unfold setT at hc
  by_cases he : i = k
  ·subst he
   rw [if_pos rfl] at hc
   cases hc
   exact ⟨s, hs, fun zd => atKey_put_same hm hkl _ _⟩
  ·rw [if_neg he] at hc
   obtain ⟨t, h1, h2⟩ := h.val i c hc
   exact ⟨t, h1, fun zd => by rw [atKey_put_other (by simpa using he)]; exact h2 zd⟩
 ·unfold setT at hi
  by_cases he : i = k
  ·subst he; exact hk
  ·rw [if_neg he] at hi
   exact h.inn i hi
def DMap (π : Bp) (w : World) (b N : Nat) (T : Int → Option Bool) : Prop := ∃ D, w.ownsMap Tryz.prog 3 strR b N D ∧ SecOf π D T
theorem DMap.lt {π : Bp} {w : World} {b N : Nat} {T : Int → Option Bool} (h : DMap π w b N T) : b < w.heap.size := by
 obtain ⟨D, h, _⟩ := h
 exact h.lt
theorem DMap.kept {π : Bp} {w w' : World} {b N : Nat} {T : Int → Option Bool} {row : Option Nat} (h : DMap π w b N T) (hg : w.grownBy w' row) (hne : some b ≠ row) : DMap π w' b N T := by
 obtain ⟨D, h, h1⟩ := h
 exact ⟨D, h.kept hg hne, h1⟩
theorem DMap.mono {π : Bp} {w : World} {b N M : Nat} {T : Int → Option Bool} (h : DMap π w b N T) (hM : N ≤ M) : DMap π w b M T := by
 obtain ⟨D, h, h1⟩ := h
 exact ⟨D, h.mono hM, h1⟩
theorem DMap.below {π : Bp} {w w' : World} {b N : Nat} {T : Int → Option Bool} (h : DMap π w b N T) (hb : Below w.heap.size w w') : DMap π w' b N T := h.kept (Zax hb none) (by simp)
theorem ZdH {s : ByteArray} (b : Bool) (h : s.size = secLen b) : strR (.string s) = some (strD s, []) := plainElem_string Tryz.underlying129 (by rw [h]; unfold secLen maxLen; split <;> omega)
theorem wp_putD {π : Bp} {ops : Array Oper} {rest : List Oper} {o : Oper} {a : Act} {Q : Exit → Act → World → Prop} {W : World} {b N : Nat} {T : Int → Option Bool} (hg : o.guard = none) (m x v : Operand) (hop : o.op = Op.mapUpdate 125 m x v)
  (hT : DMap π W b N T) (hN : N < 1000000) (k : Int) (hk : 0 ≤ k ∧ k < 60) (s : ByteArray) (c : Bool) (hs : π.Sec c s) (hm : a.eval m = .map (some b)) (hx : a.eval x = .int .i64 k) (hv : a.eval v = .string s)
  (hK : ∀ w', DMap π w' b (N + 1) (setT T k c) → W.grownBy w' (some b) → wpList Tryz.prog ops Q rest (a.put o.dst undef) w') : wpList Tryz.prog ops Q (o :: rest) a W := by
 obtain ⟨D, hown, hD⟩ := hT
 refine wpList_mapUpdate_own W hg m x v 125 hop 3 129 keyed3 Tryz.underlying125 strR b N D hm hown (by unfold maxLen; omega) _ _ _ hx hv (Zd1 hk) (strD s) [] (ZdH c hs.1) fun w' h1 h2 => ?_
 exact hK w' ⟨_, h1, hD.put hk hs hown.isMap⟩ h2
theorem zero129 (w : World) : (zeroValue 129).run Tryz.prog w = .ok (.string ⟨#[]⟩) w := Tryz.zeroValue129 w
theorem DMap.look {π : Bp} {w : World} {b N : Nat} {T : Int → Option Bool} {k : Int} {c : Bool} (h : DMap π w b N T) (hk : T k = some c) : ∃ s : ByteArray, π.Sec c s ∧ (Instr.lookup 125 (.map (some b)) (.int .i64 k) false).run Tryz.prog w = .ok (.string s) w := by
 obtain ⟨D, hown, hD⟩ := h
 have hkk := hD.inn k (by rw [hk]; rfl)
 obtain ⟨s, hs, hat⟩ := hD.val k c hk
 obtain ⟨v, ps, hrun, hv⟩ := hown.lookup keyed3 Tryz.underlying125 (zero129 w) (ZdH (s := ⟨#[]⟩) false rfl) (Zd1 hkk)
 refine ⟨s, hs, ?_⟩
 rw [hat] at hv
 rw [hrun]
 obtain ⟨t, rfl, h1⟩ := str_inv Tryz.underlying129 hv
 have h1 : DataW.lit (.string s.data.toList) = DataW.lit (.string t.data.toList) := (Prod.mk.inj h1).1
 rw [data_inj (Lit.string.inj (DataW.lit.inj h1))]
end Go.Proofs.YtpfnaknmalojkaaGreat.PTopRows
namespace Go.Proofs.YtpfnaknmalojkaaGreat.PTopRows
open Go.RowKit Go.Maps Go.Sort Go.Proofs.YtpfnaknmalojkaaGreatW.PrintWords Go.Proofs.YtpfnaknmalojkaaGreatW.PrintLast Go.Proofs.YtpfnaknmalojkaaGreatW.PrintMore
open Go.ChangeMaps Go.WideElems
set_option linter.unusedVariables false
set_option linter.unusedSimpArgs false
theorem Zcs (w : World) (b : Nat) (x y : Obj) : setBlock (setBlock w b x) b y = setBlock w b y := by simp [setBlock]
theorem entry_two {H : Type} {P : Program} {w : World} {t k e : TypeId} {R : Value → Option (DataW H × List MemPlace)} {b : Nat} {es : Array MapEntry} {clock : Nat} (K : Keyed P k) (ht : P.underlying t = some (.map k e)) {z : Value} (hz : ∀ u : World, (zeroValue e).run P u = .ok z u)
  (hb : w.heap[b]? = some (.map es clock)) (F : Fit P k R es clock) {key : Value} {kl : Lit} (hkey : keyOf P k key = some kl) (val : Value) :
  ∃ (v0 : Value) (st : Nat) (W1 W2 : World), (Instr.mapEntry t (.map (some b)) key).run P w = .ok (.tuple #[v0, .int .i64 st]) W1 ∧ (Instr.entryStore t (.map (some b)) (.int .i64 st) val).run P W1 = .ok () W2 ∧ (Instr.mapUpdate t (.map (some b)) key val).run P w = .ok () W2 ∧ w.grownBy W1 (some b) := by
 have hbl := blk_lt hb
 have grow : ∀ o, w.grownBy (setBlock w b o) (some b) := fun o => ⟨rfl, rfl, rfl, by simp [setBlock], fun i _ hi => heap_setBlock_other hb _ (fun e => hi (by rw [e]))⟩
 rcases K.find w hkey es.toList F.keys with ⟨h1, h2⟩ | ⟨j, e0, h1, h2, h3⟩
 ·have hb1 : (setBlock w b (.map (es.push ⟨key, z, clock⟩) (clock + 1))).heap[b]? = some (.map (es.push ⟨key, z, clock⟩) (clock + 1)) := heap_setBlock_same hb _
  refine ⟨z, clock, setBlock w b (.map (es.push ⟨key, z, clock⟩) (clock + 1)), setBlock w b (.map (es.push ⟨key, val, clock⟩) (clock + 1)), ?_, ?_, ?_, grow _⟩
  ·simp [Instr.mapEntry, run_underlying ht, MapKept.run_getObj_map hb, K.check w false hkey, h1, hz, MapKept.run_setObj_map _ hb, Result.andThen, setBlock, goInt]
  ·have hidx : (es.push ⟨key, z, clock⟩).findIdx? (fun e => ((e.born : Nat) : Int) == ((clock : Nat) : Int)) = some es.size := by
    rw [findIdx_arr]
    refine findIdx_born (l := (es.push ⟨key, z, clock⟩).toList) (j := es.size) (e0 := ⟨key, z, clock⟩) ?_ (by simp)
    obtain ⟨s1, s2, _⟩ := F.stamped
    simp only [Array.toList_push, List.map_append, List.map_cons, List.map_nil]
    refine List.nodup_append.2 ⟨s2, by simp, fun a ha c hc e1 => ?_⟩
    obtain ⟨x, hx, rfl⟩ := List.mem_map.1 ha
    have := s1 x hx
    rw [List.mem_singleton.1 hc] at e1
    omega
   have hmod : (es.push ⟨key, z, clock⟩).modify es.size (fun e => { e with val := val }) = es.push ⟨key, val, clock⟩ := by
    apply Array.ext'
    rw [Array.toList_modify, Array.toList_push, Array.toList_push, ← Array.length_toList, modify_last]
   refine Eq.trans ?_ (congrArg (Result.ok ()) (Zcs w b (.map (es.push ⟨key, z, clock⟩) (clock + 1)) (.map (es.push ⟨key, val, clock⟩) (clock + 1))))
   simp [Instr.entryStore, MapKept.run_getObj_map hb1, asInt, asIntOf, hidx, hmod, MapKept.run_setObj_map _ hb1, Result.andThen]
   rfl
  ·simp [Instr.mapUpdate, run_underlying ht, MapKept.run_getObj_map hb, K.check w false hkey, h1, MapKept.run_setObj_map _ hb, Result.andThen, setBlock]
 ·have hj : es[j]? = some e0 := by simpa using h2
  have hsame : es.modify j (fun e => { e with key := key }) = es := by
   apply Array.ext'
   rw [Array.toList_modify, modify_eq_set _ _ _ _ h2]
   have : ({ e0 with key := key } : MapEntry) = e0 := by rw [← h3]
   rw [this]
   exact set_self _ _ _ h2
  have hb1 : (setBlock w b (.map es clock)).heap[b]? = some (.map es clock) := heap_setBlock_same hb _
  have hidx : es.findIdx? (fun e => ((e.born : Nat) : Int) == ((e0.born : Nat) : Int)) = some j := by
   rw [findIdx_arr]
   exact findIdx_born F.stamped.2.1 h2
  have hmod : es.modify j (fun e => { e with val := val }) = es.modify j (fun e' => { e' with key := key, val := val }) := by
   apply Array.ext'
   rw [Array.toList_modify, Array.toList_modify, modify_eq_set _ _ _ _ h2, modify_eq_set _ _ _ _ h2, ← h3]
  refine ⟨e0.val, e0.born, setBlock w b (.map es clock), setBlock w b (.map (es.modify j (fun e' => { e' with key := key, val := val })) clock), ?_, ?_, ?_, grow _⟩
  ·simp [Instr.mapEntry, run_underlying ht, MapKept.run_getObj_map hb, K.check w false hkey, h1, hj, h3, K.stays w hkey, hsame, MapKept.run_setObj_map _ hb, Result.andThen, setBlock, goInt]
  ·refine Eq.trans ?_ (congrArg (Result.ok ()) (Zcs w b (.map es clock) (.map (es.modify j (fun e' => { e' with key := key, val := val })) clock)))
   simp [Instr.entryStore, MapKept.run_getObj_map hb1, asInt, asIntOf, hidx, hmod, MapKept.run_setObj_map _ hb1, Result.andThen]
   rfl
  ·simp [Instr.mapUpdate, run_underlying ht, MapKept.run_getObj_map hb, K.check w false hkey, h1, hj, h3, K.stays w hkey, MapKept.run_setObj_map _ hb, Result.andThen, setBlock]
theorem DMap.entry {π : Bp} {w : World} {b N : Nat} {T : Int → Option Bool} (h : DMap π w b N T) (hN : N < 1000000) {k : Int} (hk : 0 ≤ k ∧ k < 60) {s : ByteArray} {c : Bool} (hs : π.Sec c s) :
  ∃ (v0 : Value) (st : Nat) (W1 W2 : World), (Instr.mapEntry 125 (.map (some b)) (.int .i64 k)).run Tryz.prog w = .ok (.tuple #[v0, .int .i64 st]) W1 ∧ (Instr.entryStore 125 (.map (some b)) (.int .i64 st) (.string s)).run Tryz.prog W1 = .ok () W2 ∧ DMap π W2 b (N + 1) (setT T k c) ∧ w.grownBy W2 (some b) := by
 obtain ⟨D, hown, hD⟩ := h
 obtain ⟨w', hrun, hown', hg⟩ := hown.update keyed3 Tryz.underlying125 (by unfold maxLen; omega) (Zd1 hk) (ZdH c hs.1)
 obtain ⟨es, clock, hb, F, hsz, _⟩ := id hown
 obtain ⟨v0, st, W1, W2, h1, h2, h3, _⟩ := entry_two keyed3 Tryz.underlying125 zero129 hb F (Zd1 hk) (.string s)
 rw [hrun] at h3
 injection h3 with _ h3
 subst h3
 exact ⟨v0, st, W1, _, h1, h2, ⟨_, hown', hD.put hk hs hown.isMap⟩, hg⟩
end Go.Proofs.YtpfnaknmalojkaaGreat.PTopRows
namespace Go.Proofs.YtpfnaknmalojkaaGreat.PTopRows
open Go.RowKit Go.Maps Go.Sort Go.Proofs.YtpfnaknmalojkaaGreatW.PrintWords Go.Proofs.YtpfnaknmalojkaaGreatW.PrintLast Go.Proofs.YtpfnaknmalojkaaGreatW.PrintMore
set_option linter.unusedVariables false
set_option linter.unusedSimpArgs false
structure Rb where
 epoch : Int
 number : Int
 kind : Int
 sa : Option Addr
 sc : Nat
 S : List S70
 data : ByteArray
 text : ByteArray
def Rb.val (r : Rb) : Value := .agg #[.int .i64 r.epoch, .int .i64 r.number, .int .i64 r.kind, .slice r.sa r.S.length r.sc, .string r.data, .string r.text]
structure Rb.Reads (r : Rb) (w : World) : Prop where
 s : Kd.C k70 w r.sa r.S.length r.S
 sl : r.S.length ≤ r.sc
theorem Rb.Reads.below {r : Rb} {w w' : World} (h : r.Reads w) (hb : Below w.heap.size w w') : r.Reads w' := ⟨Kd.C_below h.s hb, h.sl⟩
structure InS (S : List S70) (n : Int) : Prop where
 may : ∀ x ∈ S, MayS x
 ends : ∀ x ∈ S, endS x ≤ n
structure Rb.Ok (r : Rb) : Prop where
 set : InS r.S 60
 tot : totS r.S ≤ 12
 kind : r.kind = 1 ∨ r.kind = 2
 data : r.kind = 1 → (r.data.size : Int) = 64 * totS r.S
 number : 1 ≤ r.number ∧ r.number < 1099511627776
 epoch : 0 ≤ r.epoch ∧ r.epoch < 4294967296
 some : 1 ≤ r.S.length
 text : r.text = ⟨#[]⟩
 cut : r.kind = 2 → r.data = ⟨#[]⟩
def saysN (T : Int → Option Bool) (a : Int) (j : Nat) (c : Bool) : Int → Option Bool := fun i => if a ≤ i ∧ i < a + j then some c else T i
theorem saysN_zero (T : Int → Option Bool) (a : Int) (c : Bool) : saysN T a 0 c = T := by
 funext i
 unfold saysN
 rw [if_neg (by omega)]
theorem ZcZ (T : Int → Option Bool) (a : Int) (j : Nat) (c : Bool) : saysN T a (j + 1) c = setT (saysN T a j c) (a + j) c := by
 funext i
 unfold saysN setT
 by_cases h : i = a + j
 ·rw [if_pos (by omega), if_pos h]
 ·rw [if_neg h]
  by_cases h2 : a ≤ i ∧ i < a + j
  ·rw [if_pos (by omega)]
   exact (if_pos h2).symm
  ·rw [if_neg (by omega)]
   exact (if_neg h2).symm
theorem setT_twice (T : Int → Option Bool) (k : Int) (b c : Bool) : setT (setT T k b) k c = setT T k c := by
 funext i
 unfold setT
 split <;> rfl
def saysF (T : Int → Option Bool) (S : List S70) (c : Bool) : Int → Option Bool := S.foldl (fun T s => saysN T s.f0 s.f1.toNat c) T
theorem saysF_take (T : Int → Option Bool) (S : List S70) (c : Bool) (i : Nat) (h : i < S.length) : saysF T (S.take (i + 1)) c = saysN (saysF T (S.take i) c) S[i].f0 S[i].f1.toNat c := by
 unfold saysF
 rw [← ZaM h, List.foldl_append]
 rfl
theorem totS_take (S : List S70) (i : Nat) (h : i < S.length) : totS (S.take (i + 1)) = totS (S.take i) + S[i].f1 := by
 rw [← ZaM h, ZbM]
 show _ + (S[i].f1 + 0) = _
 omega
theorem C70_of_obj {w w' : World} {b : Nat} {es : Array MapEntry} {clock : Nat} {A : Option Addr} {L : List S70} (hb : w.heap[b]? = some (.map es clock)) (h : Kd.C k70 w A L.length L) (hg : w.grownBy w' (some b)) : Kd.C k70 w' A L.length L := by
 obtain ⟨h1, h2, h3⟩ := h
 refine ⟨h1, h2, fun hp => ?_⟩
 obtain ⟨ad, e, hr⟩ := h3 hp
 refine ⟨ad, e, fun j p hj => ?_⟩
 obtain ⟨cs, g1, g2, g3⟩ := hr j p hj
 have hk := Zck g2
 refine ⟨cs, g1, by rw [hk]; exact k70_mk w' p, fun i u hu => ?_⟩
 have h4 := g3 i u hu
 rw [← h4]
 refine World.cell?_of_block ?_
 refine hg.block _ (World.block_lt_of_cell? w _ h4) fun e => ?_
 have hblk := Option.some.inj e
 generalize ad.add (j * k70.sz + i) = q at h4 hblk
 obtain ⟨b, o, f⟩ := q
 simp only at hblk
 subst hblk
 simp [World.cell?, hb] at h4
end Go.Proofs.YtpfnaknmalojkaaGreat.PTopRows
