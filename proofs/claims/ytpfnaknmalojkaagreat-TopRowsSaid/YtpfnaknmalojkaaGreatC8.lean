/- YtpfnaknmalojkaaGreatC8: what this claim rests on. Words and contracts are those of the kit's print (print.sh wrote them, those that nothing here reaches are left out); all else is own work. Conditions: what each theorem says. -/
import Derived.Test.YtpfnaknmalojkaaGreatC7
namespace Go.Proofs.YtpfnaknmalojkaaGreat.PTopRows
open Go.RowKit Go.Maps Go.Sort Go.Proofs.YtpfnaknmalojkaaGreatW.PrintWords Go.Proofs.YtpfnaknmalojkaaGreatW.PrintLast Go.Proofs.YtpfnaknmalojkaaGreatW.PrintMore
set_option linter.unusedVariables false
set_option linter.unusedSimpArgs false
def MapS (w : World) (g : Nat) (r : Option Nat) (L : List S86) : Prop := ∃ A c, w.heap[g]? = some (.cells #[.slice A L.length c] 72 (0, 0)) ∧ L.length ≤ c ∧ Stay w r A L
theorem MapS.at {w : World} {g : Nat} {r : Option Nat} {L : List S86} (h : MapS w g r L) : MapAt w g L := by
 obtain ⟨A, c, h1, h2, h3⟩ := h
 exact ⟨A, c, h1, h2, h3.now⟩
theorem MapAt.none {w : World} {g : Nat} {L : List S86} (h : MapAt w g L) : MapS w g none L := by
 obtain ⟨A, c, h1, h2, h3⟩ := h
 exact ⟨A, c, h1, h2, Stay.of_nil h3⟩
theorem MapS.step {w w1 : World} {g : Nat} {r r1 : Option Nat} {L : List S86} (h : MapS w g r L) (hg : w.grownBy w1 r) (hne : some g ≠ r) (hr : r1 = r ∨ ∃ b, r1 = some b ∧ w.heap.size ≤ b) : MapS w1 g r1 L := by
 obtain ⟨A, c, h1, h2, h3⟩ := h
 exact ⟨A, c, (hg.block g (blk_lt h1) hne).trans h1, h2, h3.step hg hr⟩
theorem MapAt.other {w w' : World} {g g' : Nat} {L L' : List S86} (h : MapAt w g L) (h' : MapAt w g' L') (hg : w.grownBy w' (some g')) (hne : g ≠ g') : MapAt w' g L := by
 obtain ⟨A, c, h1, h2, h3⟩ := h
 obtain ⟨A', c', h1', _⟩ := h'
 exact ⟨A, c, (hg.block g (blk_lt h1) (fun e => hne (Option.some.inj e))).trans h1, h2, Stay.of_map h1' h3 w' hg⟩
theorem Zbt {w W w1 : World} {r : Option Nat} (h : w.grownBy W r) (hb : Below w.heap.size W w1) : w.grownBy w1 r := ⟨hb.os.trans h.os, hb.tape.trans h.tape, hb.output.trans h.output, Nat.le_trans h.size hb.size, fun k hk hne => (hb.block k hk).trans (h.block k hk hne)⟩
theorem not72 : ∀ q, q ∈ 86 :: k86.E → q ≠ 72 := by
 intro q hq
 have : k86.E = [] := rfl
 rw [this] at hq
 simp at hq
 omega
theorem c_three {w : World} {A B D : Option Addr} {a b d c1 c2 c3 : Nat} {X Y Z : List S86} {g t : Nat} (hb : w.heap[g]? = some (.cells #[.slice A a c1, .slice B b c2, .slice D d c3] t)) (ha : a = X.length) (hbl : b = Y.length) (hd : d = Z.length) (h1 : X.length ≤ c1) (h2 : Y.length ≤ c2) (h3 : Z.length ≤ c3)
  (hX : Kd.C k86 w A X.length X) (hY : Kd.C k86 w B Y.length Y) (hZ : Kd.C k86 w D Z.length Z) : Kd.C (Kd.slice 86 k86) w (some ⟨g, 0, none⟩) [X, Y, Z].length [X, Y, Z] := by
 subst ha hbl hd
 refine ⟨rfl, by simp, fun _ => ⟨_, rfl, fun j p hj => ?_⟩⟩
 match j, hj with
 | 0, hj =>
  cases hj
  refine ⟨[.slice A X.length c1], rfl, ⟨A, c1, rfl, h1, hX⟩, fun i u hu => ?_⟩
  match i, hu with
  | 0, hu => cases hu; rw [Za9, Zaa hb]; rfl
 | 1, hj =>
  cases hj
  refine ⟨[.slice B Y.length c2], rfl, ⟨B, c2, rfl, h2, hY⟩, fun i u hu => ?_⟩
  match i, hu with
  | 0, hu => cases hu; rw [Za9, Zaa hb]; rfl
 | 2, hj =>
  cases hj
  refine ⟨[.slice D Z.length c3], rfl, ⟨D, c3, rfl, h3, hZ⟩, fun i u hu => ?_⟩
  match i, hu with
  | 0, hu => cases hu; rw [Za9, Zaa hb]; rfl
theorem cutTo_len (L : List S86) (s : Int) : (cutTo L s).length ≤ L.length := List.length_filterMap_le _ _
theorem cutFrom_len (L : List S86) (s : Int) : (cutFrom L s).length ≤ L.length := List.length_filterMap_le _ _
theorem Zdb (L : List S86) (s t : Int) : (cutMid L s t).length ≤ L.length := List.length_filterMap_le _ _
structure Within (X : List S86) (s : S70) : Prop where
 rise : Rise X
 good : ∀ x ∈ X, Good x
 inn : ∀ x ∈ X, s.f0 ≤ x.f0.f0 ∧ endE x ≤ endS s
theorem Within.nil (s : S70) : Within [] s := ⟨List.Pairwise.nil, by simp, by simp⟩
theorem lay_good {L X : List S86} {s : S70} (hL : Okm L) (hX : Within X s) : ∀ x ∈ cutTo L s.f0 ++ X ++ cutFrom L (endS s), MayE x := by
 intro x hx
 rw [List.mem_append, List.mem_append] at hx
 rcases hx with (hx | hx) | hx
 ·exact (cutTo_good hL.good _ x hx).1
 ·exact (hX.good x hx).1
 ·exact (Zdo hL.good _ x hx).1
theorem lay_okm {L X : List S86} {s : S70} (hL : Okm L) (hX : Within X s) (hs : MayS s) (he : endS s ≤ 64 ∨ X = []) : Okm (layE L s.f0 (endS s) X) ∧ ∀ i, look (layE L s.f0 (endS s) X) i = if s.f0 ≤ i ∧ i < endS s then look X i else look L i := by
 have hse : s.f0 < endS s := by have := hs.2.1; unfold endS; omega
 obtain ⟨h1, h2, h3⟩ := layE_ok hL.canon.rise hL.good hX.rise hX.good hX.inn hse
 refine ⟨⟨h1, h2, fun x hx => ?_⟩, h3⟩
 have hm := (h1.1 x hx).2.1
 have hl := Zcw h1.rise hx h1.1 (i := endE x - 1) (by unfold endE; omega) (by omega)
 rw [h3] at hl
 split at hl
 ·rename_i c
  rcases he with he | rfl
  ·omega
  ·cases hl
 ·have := look_range hL hl
  omega
def MapO (w : World) (g base : Nat) (L : List S86) : Prop := ∃ A c, w.heap[g]? = some (.cells #[.slice A L.length c] 72 (0, 0)) ∧ k86.R 86 w base (fun _ => True) (.slice A L.length c) L
theorem MapO.below {w w' : World} {g base : Nat} {L : List S86} (h : MapO w g base L) (hb : Below w.heap.size w w') : MapO w' g base L := by
 obtain ⟨A, c, h1, h2⟩ := h
 exact ⟨A, c, Zag h1 hb, Kd.R_below h2 hb⟩
theorem MapO.lower {w : World} {g base base' : Nat} {L : List S86} (h : MapO w g base L) (hb : base' ≤ base) : MapO w g base' L := by
 obtain ⟨A, c, h1, h2⟩ := h
 exact ⟨A, c, h1, Kd.R_lower h2 hb⟩
theorem MapO.far {w w' : World} {g base : Nat} {L : List S86} {row : Option Nat} (h : MapO w g base L) (hg : w.grownBy w' row) (hne : some g ≠ row) (hr : ∀ j, row = some j → j < base) : MapO w' g base L := by
 obtain ⟨A, c, h1, h2⟩ := h
 exact ⟨A, c, Zay h1 hg hne, Kd.R_mono (Kd.R_grown (Kd.R_bound h2) hg (fun k hk e => by have h3 := hk.2.1; have h4 := hr k e.symm; omega)) (fun _ _ => trivial)⟩
set_option maxRecDepth 100000 in
set_option maxHeartbeats 4000000 in
theorem lay_walkO (g : Nat) (L la lb lc L2 X : List S86) (s0 s1 : Int) (A : Option Addr) (c : Nat) (w : World) (hM : MapAt w g L) (hr : Kd.C k86 w A X.length X) (hc : X.length ≤ c)
  (hA : Calls Tryz.prog 76 #[.pointer (some ⟨g, 0, none⟩), .agg #[.int .i64 s0, .int .i64 s1]] (w.alloc (.cells #[.int .i64 s0, .int .i64 s1] 70)) fun e w' => ∃ A1 c1 A2 c2 A3 c3,
   e = .returned (.tuple #[.slice A1 la.length c1, .slice A2 lb.length c2, .slice A3 lc.length c3]) ∧ (la.length ≤ c1 ∧ lb.length ≤ c2 ∧ lc.length ≤ c3) ∧
   (Kd.C k86 w' A1 la.length la ∧ Kd.C k86 w' A2 lb.length lb ∧ Kd.C k86 w' A3 lc.length lc) ∧ Below (w.alloc (.cells #[.int .i64 s0, .int .i64 s1] 70)).heap.size (w.alloc (.cells #[.int .i64 s0, .int .i64 s1] 70)) w')
  (hG : ∀ x ∈ la ++ X ++ lc, MayE x) (hll : la.length + X.length + lc.length ≤ 2000) (hL2 : L2 = joinedE (la ++ X ++ lc)) :
  Calls Tryz.prog 71 #[.pointer (some ⟨g, 0, none⟩), .agg #[.int .i64 s0, .int .i64 s1], .slice A X.length c] w fun e w' => ∃ A2 c2,
   e = .returned (.slice A2 lb.length c2) ∧ lb.length ≤ c2 ∧ Kd.C k86 w' A2 lb.length lb ∧ (∀ r : Option Nat, (∀ j, r = some j → j < w.heap.size) → MapS w' g r L2) ∧ MapO w' g w.heap.size L2 ∧ w.grownBy w' (some g) := by
 have hu31 := Tryz.underlying31
 have hu70 := Tryz.underlying70
 have hu72 := Tryz.underlying72
 have hu25 := Tryz.underlying25
 have hbn := Zas w (.cells #[.int .i64 s0, .int .i64 s1] 70)
 have HA := Aside0.mk hA
 have HG := Aside0.mk hG
 have HM := Aside0.mk hM
 have HB1 := Aside0.mk (Zab (Below.refl _ w) (.cells #[.int .i64 s0, .int .i64 s1] 70))
 have HR := Aside0.mk hr
 have HLE := Aside0.mk hL2
 have c0 := (Zaa hbn 0).trans rfl
 have c1 := (Zaa hbn 1).trans rfl
 clear hM hr hbn hA hG hL2
 go_enter Tryz.func71, Tryz.ntmps71
 go_wp2_with (fail)
 refine HA.out.mono ?_
 rintro e w2 ⟨A1, k1, A2, k2, A3, k3, rfl, ⟨q1, q2, q3⟩, ⟨C1, C2, C3⟩, hb2⟩
 have HB2 := Aside0.mk (Zae HB1.out hb2)
 have HC1 := Aside0.mk C1
 have HC2 := Aside0.mk C2
 have HC3 := Aside0.mk C3
 have HQ2 := Aside0.mk q2
 clear C1 C2 C3 hb2 HA q2
 go_wp2_with (fail)
 have hnb := Zas w2 (.cells #[.slice A1 la.length k1, .slice A X.length c, .slice A3 lc.length k3] 31)
 have bb := Zab (Below.refl _ w2) (.cells #[.slice A1 la.length k1, .slice A X.length c, .slice A3 lc.length k3] 31)
 have hCc := c_three hnb rfl rfl rfl q1 hc q3 (Kd.C_below HC1.out bb) (Kd.C_below (Kd.C_below HR.out HB2.out) bb) (Kd.C_below HC3.out bb)
 have hcc := Zdp _ 3 [la, X, lc] _ hCc (by simp) (by simp; omega)
 have efl : [la, X, lc].flatten = la ++ X ++ lc := by simp
 rw [efl] at hcc
 have HB3 := Aside0.mk (Zae HB2.out bb)
 have HC23 := Aside0.mk (Kd.C_below HC2.out bb)
 clear hnb bb hCc HC1 HC2 HC3 HR
 refine hcc.mono ?_
 rintro e w3 ⟨v3, rfl, hR3, hb3⟩
 obtain ⟨A4, c4, rfl, hc4, hC4⟩ := Kd.R_reads hR3
 have hjj := Zdn A4 c4 (la ++ X ++ lc) w3 hC4 (by rw [List.length_append, List.length_append]; omega) HG.out
 rw [← HLE.out] at hjj
 generalize (la ++ X ++ lc).length = nj at hjj ⊢
 have HJ := Aside0.mk hjj
 have HB4 := Aside0.mk (Zae HB3.out hb3)
 have HC24 := Aside0.mk (Kd.C_below HC23.out hb3)
 clear hcc hR3 hb3 hC4 hjj HG HC23
 go_wp2_with (fail)
 refine HJ.out.mono ?_
 rintro e w4 ⟨v4, rfl, hR4, hb4⟩
 obtain ⟨A9, c9, rfl⟩ := Kd.R_slice hR4
 have HB5 := Aside0.mk (Zae HB4.out hb4)
 have hM5 := HM.out.below HB5.out
 obtain ⟨A0, k0, hg0, _, _⟩ := hM5
 have HR4 := Aside0.mk hR4
 have HC25 := Aside0.mk (Kd.C_below HC24.out hb4)
 have HG0 := Aside0.mk hg0
 have hfz : w4.frozen? ⟨g, 0, none⟩ = false := Zad hg0 0
 have hcl : w4.cell? ⟨g, 0, none⟩ = some (.slice A0 L.length k0) := (Zaa hg0 0).trans rfl
 clear hR4 hb4 hg0 HJ
 go_wp2_with (fail)
 go_ret
 have hset := ZaG HG0.out 0 (.slice A9 L2.length c9)
 have hgs := ZcM w4 g 0 (.slice A9 L2.length c9)
 refine ⟨A2, k2, rfl, HQ2.out, Stay.of_map HG0.out HC25.out _ hgs, fun r hr => ?_, ⟨A9, c9, hset, Kd.R_lower (Kd.R_set HR4.out HG0.out not72 0 (.slice A9 L2.length c9)) (by have := HB4.out.size; omega)⟩, ((Zax HB5.out (some g)).andThen hgs fun j hj => .inr hj)⟩
 obtain ⟨A8, c8, e8, hc8, hst8⟩ := Stay.of_R (r := r) (Kd.R_set HR4.out HG0.out not72 0 (.slice A9 L2.length c9)) (fun j hj => by have := hr j hj; have := HB4.out.size; omega)
 cases e8
 exact ⟨A9, c9, hset, hc8, hst8⟩
theorem lay_callsO (g : Nat) (L : List S86) (s : S70) (X : List S86) (A : Option Addr) (c : Nat) (w : World) (hM : MapAt w g L) (hL : Okm L) (hs : MayS s) (hX : Within X s) (hr : Kd.C k86 w A X.length X) (hc : X.length ≤ c) (hxl : X.length ≤ 1000) :
  Calls Tryz.prog 71 #[.pointer (some ⟨g, 0, none⟩), .agg #[.int .i64 s.f0, .int .i64 s.f1], .slice A X.length c] w fun e w' => ∃ A2 c2,
   e = .returned (.slice A2 (cutMid L s.f0 (endS s)).length c2) ∧ (cutMid L s.f0 (endS s)).length ≤ c2 ∧ Kd.C k86 w' A2 (cutMid L s.f0 (endS s)).length (cutMid L s.f0 (endS s)) ∧ (∀ r : Option Nat, (∀ j, r = some j → j < w.heap.size) → MapS w' g r (layE L s.f0 (endS s) X)) ∧ MapO w' g w.heap.size (layE L s.f0 (endS s) X) ∧ w.grownBy w' (some g) :=
 lay_walkO g L _ _ _ _ X s.f0 s.f1 A c w hM hr hc (Zds g L s _ (hM.below (Zab (Below.refl _ w) _)) (by have := hL.len; omega) hL.canon.1 hL.canon.rise hs) (lay_good hL hX)
  (by have := hL.len; have := cutTo_len L s.f0; have := cutFrom_len L (endS s); omega) rfl
set_option maxRecDepth 100000 in
set_option maxHeartbeats 4000000 in
theorem find_calls (g : Nat) (L : List S86) (s : S70) (w : World) (hM : MapAt w g L) (hL : Okm L) (hs : MayS s) :
  Calls Tryz.prog 78 #[.pointer (some ⟨g, 0, none⟩), .agg #[.int .i64 s.f0, .int .i64 s.f1]] w fun e w' => ∃ A2 c2,
   e = .returned (.tuple #[.slice A2 (cutMid L s.f0 (endS s)).length c2, .int .i64 0]) ∧ (cutMid L s.f0 (endS s)).length ≤ c2 ∧ Kd.C k86 w' A2 (cutMid L s.f0 (endS s)).length (cutMid L s.f0 (endS s)) ∧ Below w.heap.size w w' := by
 have hu31 := Tryz.underlying31
 have hu70 := Tryz.underlying70
 have hu72 := Tryz.underlying72
 have hu25 := Tryz.underlying25
 have hlen := hL.len
 have hb1 := Zab (Below.refl _ w) (.cells #[.int .i64 s.f0, .int .i64 s.f1] 70)
 have hbn := Zas w (.cells #[.int .i64 s.f0, .int .i64 s.f1] 70)
 have HA := Aside0.mk (fun W (hb : Below w.heap.size w W) => Zds g L s W (hM.below hb) (by omega) hL.canon.1 hL.canon.rise hs)
 have HMy := Aside0.mk (fun W => ZbY s.f0 s.f1 W)
 rw [if_pos (show MayS ⟨s.f0, s.f1⟩ from hs)] at HMy
 have HB1 := Aside0.mk hb1
 have HBN := Aside0.mk hbn
 obtain ⟨s0, s1⟩ := s
 have c0 := (Zaa hbn 0).trans rfl
 have c1 := (Zaa hbn 1).trans rfl
 clear hM hL hs hb1 hbn hlen
 simp only at HA HMy HB1 HBN c0 c1 ⊢
 generalize cutTo L _ = la at HA
 generalize cutFrom L _ = lc at HA
 generalize cutMid L _ _ = lb at HA ⊢
 go_enter Tryz.func78, Tryz.ntmps78
 go_wp2_with (fail)
 refine (HMy.out _).mono ?_
 rintro e w2 ⟨rfl, hb2⟩
 have HB2 := Aside0.mk (Zae HB1.out hb2)
 have hbn2 := Zag HBN.out hb2
 have d0 := (Zaa hbn2 0).trans rfl
 have d1 := (Zaa hbn2 1).trans rfl
 clear hb2 hbn2 HMy c0 c1
 go_wp2_with (fail)
 refine (HA.out _ HB2.out).mono ?_
 rintro e w3 ⟨A1, k1, A2, k2, A3, k3, rfl, ⟨q1, q2, q3⟩, ⟨C1, C2, C3⟩, hb3⟩
 have HC2 := Aside0.mk C2
 have HQ2 := Aside0.mk q2
 have HB3 := Aside0.mk (Zae HB2.out hb3)
 clear C1 C2 C3 q1 q2 q3 hb3 HA d0 d1
 go_wp2_with (fail)
 go_ret2
 exact ⟨A2, k2, rfl, HQ2.out, HC2.out, HB3.out⟩
theorem apps86h {ops : Array Oper} {o : Oper} {rest : List Oper} {a : Act} {Q : Exit → Act → World → Prop} {W : World} {base : Nat} (hg : o.guard = none) (s x : Operand)
  (ho : o.op = .call { callee := .builtin .append, args := #[s, x], argTypes := #[31, 31] }) (v : Value) (xs ys : List S86) (A : Option Addr) (m c : Nat) (hs : a.eval s = v) (hx : a.eval x = .slice A m c)
  (HO : k86.R 86 W base (fun _ => True) v xs) (HR : Kd.C k86 W A m ys) (hbase : base ≤ W.heap.size) (hl : xs.length + m ≤ 1000000)
  (h : ∀ v1 w1, k86.R 86 w1 base (fun _ => True) v1 (xs ++ ys) → RowKit.Below base W w1 → W.grownBy w1 v.ownBlock → (v1.ownBlock = v.ownBlock ∨ ∃ b, v1.ownBlock = some b ∧ W.heap.size ≤ b) → wpList Tryz.prog ops Q rest (a.put o.dst v1) w1) :
  wpList Tryz.prog ops Q (o :: rest) a W :=
 Kd.R_append_rows k86 (Rr := k86.K W) (w0 := W) base hg s x 31 86 (.agg #[.int .i64 0, .int .i64 0, .int .i64 0, .int .i64 0]) 32 ho Tryz.underlying31 info86 rfl (by decide) (by decide) v xs ys A m c (fun _ => True) (fun _ => False) hs hx HO HR (fun x cs h => k86_KM x cs h) (fun _ hk => hk.elim) (fun _ _ => trivial) (Below.refl _ _) hbase (by omega) (fun v1 w1 h1 h2 h3 h4 => h v1 w1 h1 h2 h3 h4)
def putE (L X : List S86) : List S86 := X.foldl (fun L x => layE L x.f0.f0 (endE x) [x]) L
def cutE (L : List S86) (S : List S70) : List S86 := S.foldl (fun L s => layE L s.f0 (endS s) []) L
theorem Within.one {x : S86} (h : Good x) : Within [x] x.f0 := ⟨List.pairwise_singleton _ _, by simpa using h, fun y hy => by rw [List.mem_singleton.1 hy]; exact ⟨Int.le_refl _, Int.le_refl _⟩⟩
theorem put_okm {L : List S86} {x : S86} (hL : Okm L) (hx : Good x) (he : endE x ≤ 64) : Okm (layE L x.f0.f0 (endE x) [x]) ∧ ∀ i, look (layE L x.f0.f0 (endE x) [x]) i = if x.f0.f0 ≤ i ∧ i < endE x then look [x] i else look L i :=
 lay_okm hL (Within.one hx) hx.1.span (.inl he)
theorem ZdT : ∀ (X L : List S86), Okm L → (∀ x ∈ X, Good x ∧ endE x ≤ 64) → Okm (putE L X) ∧ (Rise X → ∀ i, look (putE L X) i = (look X i).or (look L i))
 | [], L, hL, _ => ⟨hL, fun _ i => by simp [putE, Zbe]⟩
 | x :: X, L, hL, h => by
  have hx := h x (by simp)
  obtain ⟨h1, h2⟩ := put_okm hL hx.1 hx.2
  obtain ⟨h3, h4⟩ := ZdT X _ h1 fun y hy => h y (by simp [hy])
  refine ⟨h3, fun hr i => ?_⟩
  unfold Rise at hr
  rw [List.pairwise_cons] at hr
  show look (putE (layE L x.f0.f0 (endE x) [x]) X) i = _
  rw [h4 hr.2, h2, ZaA, ZaA]
  by_cases c : x.f0.f0 ≤ i ∧ i < endE x
  ·rw [if_pos c, if_pos c, if_pos c, ZbA (fun y hy => by have := hr.1 y hy; omega)]
   rfl
  ·rw [if_neg c, if_neg c]
theorem cut_okm {L : List S86} {s : S70} (hL : Okm L) (hs : MayS s) : Okm (layE L s.f0 (endS s) []) ∧ ∀ i, look (layE L s.f0 (endS s) []) i = if s.f0 ≤ i ∧ i < endS s then look [] i else look L i :=
 lay_okm hL (Within.nil s) hs (.inr rfl)
theorem cutE_ok : ∀ (S : List S70) (L : List S86), Okm L → (∀ s ∈ S, MayS s) → Okm (cutE L S) ∧ ∀ i, look (cutE L S) i = if S.any (covers · i) then none else look L i
 | [], L, hL, _ => ⟨hL, fun i => by simp [cutE]⟩
 | s :: S, L, hL, h => by
  have hs := h s (by simp)
  obtain ⟨h1, h2⟩ := cut_okm hL hs
  obtain ⟨h3, h4⟩ := cutE_ok S _ h1 fun y hy => h y (by simp [hy])
  refine ⟨h3, fun i => ?_⟩
  show look (cutE (layE L s.f0 (endS s) []) S) i = _
  rw [h4, h2, List.any_cons]
  by_cases c : s.f0 ≤ i ∧ i < endS s
  ·rw [if_pos c, Za0.2 c]
   simp [Zbe]
  ·have : covers s i = false := by
    cases hh : covers s i
    ·rfl
    ·exact absurd (Za0.1 hh) c
   rw [if_neg c, this, Bool.false_or]
theorem R_off {w w' : World} {base g : Nat} {v : Value} {xs : List S86} (h : k86.R 86 w base (fun _ => True) v xs) (hgb : g < base) (hg : w.grownBy w' (some g)) : k86.R 86 w' base (fun _ => True) v xs :=
 Kd.R_mono (Kd.R_grown (Kd.R_bound h) hg (fun k hk e => by have := hk.2.1; cases e; omega)) (fun _ _ => trivial)
theorem any_may {X : List S86} (h : ∀ x ∈ X, MayE x) : (X.any fun x => !decide (MayE x)) = false := by
 rw [List.any_eq_false]
 intro x hx
 rw [decide_eq_true (h x hx)]
 simp
theorem any_mayS {X : List S70} (h : ∀ x ∈ X, MayS x) : (X.any fun x => !decide (MayS x)) = false := by
 rw [List.any_eq_false]
 intro x hx
 rw [decide_eq_true (h x hx)]
 simp
theorem C70_of_map {w : World} {g n c : Nat} {X A : Option Addr} {L : List S70} (hb : w.heap[g]? = some (.cells #[.slice X n c] 72 (0, 0))) (h : Kd.C k70 w A L.length L) {w' : World} (hg : w.grownBy w' (some g)) : Kd.C k70 w' A L.length L := by
 obtain ⟨h1, h2, h3⟩ := h
 refine ⟨h1, h2, fun hp => ?_⟩
 obtain ⟨ad, e, hr⟩ := h3 hp
 refine ⟨ad, e, fun j p hj => ?_⟩
 obtain ⟨cs, g1, g2, g3⟩ := hr j p hj
 have hk := Zck g2
 refine ⟨cs, g1, by rw [hk]; exact k70_mk w' p, fun i u hu => ?_⟩
 have h4 := g3 i u hu
 rw [← h4]
 refine World.cell?_of_block ?_
 refine hg.block _ (World.block_lt_of_cell? w _ h4) fun e => ?_
 have hblk := Option.some.inj e
 have hu2 : ∃ z, u = .int .i64 z := by
  rw [hk] at hu
  match i, hu with
  | 0, hu => cases hu; exact ⟨_, rfl⟩
  | 1, hu => cases hu; exact ⟨_, rfl⟩
 obtain ⟨z, rfl⟩ := hu2
 generalize ad.add (j * k70.sz + i) = q at h4 hblk
 obtain ⟨b, o, f⟩ := q
 simp only at hblk
 subst hblk
 simp only [World.cell?, hb] at h4
 cases f with
 | some f => simp at h4
 | none =>
  cases o with
  | zero => simp at h4
  | succ o => simp at h4
set_option maxRecDepth 100000 in
set_option maxHeartbeats 4000000 in
theorem put_callsO (g : Nat) (L : List S86) (X : List S86) (A : Option Addr) (c : Nat) (w : World) (hM : MapAt w g L) (hL : Okm L) (hX : ∀ x ∈ X, Good x ∧ endE x ≤ 64) (hr : Kd.C k86 w A X.length X) (hxl : X.length ≤ 1000) :
  Calls Tryz.prog 33 #[.pointer (some ⟨g, 0, none⟩), .slice A X.length c] w fun e w' => ∃ v, e = .returned (.tuple #[v, .int .i64 0]) ∧ MapAt w' g (putE L X) ∧ (X = [] ∨ MapO w' g w.heap.size (putE L X)) ∧ w.grownBy w' (some g) := by
 have hu31 := Tryz.underlying31
 have hu70 := Tryz.underlying70
 have hu72 := Tryz.underlying72
 have hu86 := Tryz.underlying86
 have hu25 := Tryz.underlying25
 obtain ⟨A0, k0, hg0, hc0, hC0⟩ := id hM
 have hct := Zca 73 #[] (fun x => !decide (MayE x)) A c X w hr (enters_of Tryz.func73 (by kernel_rfl) rfl) (fun W x _ _ => put1_calls x W)
 rw [any_may (fun x hx => (hX x hx).1.1)] at hct
 have HCT := Aside0.mk hct
 have HX := Aside0.mk hX
 have HST := Aside0.mk (fun W (hgw : w.grownBy W (some g)) => Stay.of_map hg0 hr W hgw)
 have HOK := Aside0.mk (fun i : Nat => (ZdT (X.take i) L hL (fun x hx => hX x (List.mem_of_mem_take hx))).1)
 have HM := Aside0.mk hM
 clear hct hX hr hM hg0 hc0 hC0 hL
 go_enter Tryz.func33, Tryz.ntmps33
 go_wp2_with (fail)
 refine HCT.out.mono ?_
 rintro e w1 ⟨rfl, hb1⟩
 have HB1 := Aside0.mk hb1
 clear hb1 HCT
 go_wp2_with (fail)
 go_loopg [6, 17] X.length (fun kx v6 v17 wr => ∃ i : Nat, v17 = .int .i64 (i : Int) ∧ i ≤ X.length ∧ X.length - i ≤ kx ∧ (∃ O : List S86, O.length ≤ 64 * i ∧ Aside0 (k86.R 86 wr w.heap.size (fun _ => True) v6 O)) ∧ Aside0 (MapS wr g v6.ownBlock (putE L (X.take i))) ∧ Aside0 (i = 0 ∨ MapO wr g w.heap.size (putE L (X.take i))) ∧ Aside0 (w.grownBy wr (some g)))
 case atStart => exact ⟨0, rfl, Nat.zero_le _, by omega, ⟨[], Nat.le_refl _, ⟨Kd.R_nil _ _ _ _ _⟩⟩, ⟨(HM.out.below HB1.out).none⟩, ⟨.inl rfl⟩, ⟨Zax HB1.out _⟩⟩
 case round =>
  obtain ⟨i, rfl, hi, hik, ⟨O, hO, HO⟩, HMS, HMO, HGB⟩ := hrel
  by_cases hlt : i < X.length
  ·have hi1 : i + 1 ≤ X.length := hlt
   clear HMO
   obtain ⟨ad, rfl, h0, h1, h2, h3⟩ := ZaF (HST.out wr HGB.out) i hlt
   have hts : putE L (X.take (i + 1)) = (fun x => layE (putE L (X.take i)) x.f0.f0 (endE x) [x]) X[i] := by
    rw [← ZaM hlt]
    unfold putE
    rw [List.foldl_append]
    rfl
   have HTS := Aside0.mk hts
   have hgx := HX.out X[i] (List.getElem_mem hlt)
   have HOK1 := Aside0.mk (HOK.out i)
   clear hts
   generalize X[i] = x at h0 h1 h2 h3 HTS hgx
   generalize putE L (X.take i) = Li at HTS HMS HOK1 ⊢
   have HGX := Aside0.mk hgx
   clear hgx
   obtain ⟨⟨x0, x1⟩, ⟨x2, x3⟩⟩ := x
   simp only at h0 h1 h2 h3
   have hgl : g < w.heap.size := HM.out.lt
   have HOl := Aside0.mk (Kd.R_lt HO.out)
   have HOb := Aside0.mk (Kd.R_base HO.out)
   have ba := Zab (Below.refl _ wr) (.cells #[.int .i64 x0, .int .i64 x1, .int .i64 x2, .int .i64 x3] 86)
   have hnb := Zas (wr.alloc (.cells #[.int .i64 x0, .int .i64 x1, .int .i64 x2, .int .i64 x3] 86)) (.cells #[.int .i64 x0, .int .i64 x1, .int .i64 x2, .int .i64 x3] 86)
   have bb := Zab (Below.refl _ (wr.alloc (.cells #[.int .i64 x0, .int .i64 x1, .int .i64 x2, .int .i64 x3] 86))) (.cells #[.int .i64 x0, .int .i64 x1, .int .i64 x2, .int .i64 x3] 86)
   have hsz : (wr.alloc (.cells #[.int .i64 x0, .int .i64 x1, .int .i64 x2, .int .i64 x3] 86)).heap.size = wr.heap.size + 1 := by simp
   rw [hsz] at hnb
   have HBZ := Aside0.mk (Zae ba bb)
   have HNB := Aside0.mk hnb
   have hml := Zdb Li x0 (endS ⟨x0, x1⟩)
   have hml2 := HOK1.out.len
   clear ba bb hnb HST HOK HX hsz
   go_wp2_with (fail)
   generalize (wr.alloc (.cells #[.int .i64 x0, .int .i64 x1, .int .i64 x2, .int .i64 x3] 86)).alloc (.cells #[.int .i64 x0, .int .i64 x1, .int .i64 x2, .int .i64 x3] 86) = W2 at HBZ HNB ⊢
   generalize wr.heap.size + 1 = gb at HNB ⊢
   have hly : Calls Tryz.prog 71 #[.pointer (some ⟨g, 0, none⟩), .agg #[.int .i64 x0, .int .i64 x1], .slice (some ⟨gb, 0, none⟩) 1 1] W2 _ := lay_callsO g Li ⟨x0, x1⟩ [⟨⟨x0, x1⟩, ⟨x2, x3⟩⟩] (some ⟨gb, 0, none⟩) 1 W2 (HMS.out.at.below HBZ.out) HOK1.out HGX.out.1.1.span (Within.one HGX.out.1) (c_lit86 HNB.out) (Nat.le_refl 1) (by simp)
   refine hly.mono ?_
   clear hly
   rintro e w3 ⟨A2, c2, rfl, hcc2, hc3, hm3, hmo3, hg3⟩
   have hbz := HBZ.out
   have hnn : (cutMid Li x0 (endS ⟨x0, x1⟩)).length ≤ 64 := by omega
   change ∀ r : Option Nat, (∀ j, r = some j → j < W2.heap.size) → MapS w3 g r (layE Li x0 (endE ⟨⟨x0, x1⟩, ⟨x2, x3⟩⟩) [⟨⟨x0, x1⟩, ⟨x2, x3⟩⟩]) at hm3
   change MapO w3 g W2.heap.size (layE Li x0 (endE ⟨⟨x0, x1⟩, ⟨x2, x3⟩⟩) [⟨⟨x0, x1⟩, ⟨x2, x3⟩⟩]) at hmo3
   generalize cutMid Li x0 (endS ⟨x0, x1⟩) = mid at hcc2 hc3 hnn ⊢
   generalize hnnn : mid.length = nn at hcc2 hc3 hnn ⊢
   have HMID := Aside0.mk hnnn.symm
   clear hnnn HBZ HNB hml hml2 hcc2
   have HB3 := Aside0.mk (Zbt HGB.out (hbz.mono HGB.out.size))
   have hO2 := Kd.R_below HO.out hbz
   have HO3 := Aside0.mk (R_off hO2 hgl hg3)
   have HM3 := Aside0.mk (hm3 u6.ownBlock (fun j hj => Nat.lt_of_lt_of_le (HOl.out j hj) hbz.size))
   have HG3 := Aside0.mk (HB3.out.andThen hg3 fun j hj => .inr hj)
   have HC3 := Aside0.mk hc3
   have HMO3 := Aside0.mk hmo3
   have HW2 := Aside0.mk (show w.heap.size ≤ W2.heap.size ∧ ∀ j, u6.ownBlock = some j → j < W2.heap.size from ⟨Nat.le_trans HGB.out.size hbz.size, fun j hj => Nat.lt_of_lt_of_le (HOl.out j hj) hbz.size⟩)
   have HS3 := Aside0.mk (Nat.le_trans HGB.out.size (Nat.le_trans hbz.size hg3.size))
   have hnl : nn ≤ 64 := hnn
   clear hO2 hm3 hmo3 hg3 hc3 hbz
   go_wp2_with (at_builtin; refine apps86h rfl _ _ rfl u6 O _ A2 nn c2 rfl rfl HO3.out HC3.out HS3.out (by omega) ?_; intro v1 w4 hR4 hb4 hg4 hat4)
   have HR4 := Aside0.mk hR4
   have HM4 := Aside0.mk (HM3.out.step hg4 (fun e => by have := HOb.out g e.symm; omega) hat4)
   have HG4 := Aside0.mk (Zbt HG3.out hb4)
   have HMO4 := Aside0.mk ((HMO3.out.far hg4 (fun e => by have := HOb.out g e.symm; omega) HW2.out.2).lower HW2.out.1)
   have hln : (O ++ mid).length ≤ 64 * (i + 1) := by rw [List.length_append, ← HMID.out]; omega
   clear hR4 hb4 hg4 hat4
   go_wp2_with (fail)
   go_roundg (gk - 1)
   case measure => omega
   case rel => exact ⟨i + 1, by go_num, hi1, by omega, ⟨_, hln, HR4⟩, ⟨by rw [HTS.out]; exact HM4.out⟩, ⟨.inr (by rw [HTS.out]; exact HMO4.out)⟩, HG4⟩
  ·have hil : i = X.length := by omega
   subst hil
   have hms := HMS.out.at
   rw [List.take_length] at hms
   have HMS' := Aside0.mk hms
   have HMO' := Aside0.mk (show X = [] ∨ MapO wr g w.heap.size (putE L X) from HMO.out.imp (fun h => List.eq_nil_of_length_eq_zero h) (fun h => by rw [List.take_length] at h; exact h))
   clear hms HMS HMO
   as_aux_lemma =>
    go_wp2_with (fail)
    go_ret2
    exact ⟨_, rfl, HMS'.out, HMO'.out, HGB.out⟩
theorem put_calls (g : Nat) (L : List S86) (X : List S86) (A : Option Addr) (c : Nat) (w : World) (hM : MapAt w g L) (hL : Okm L) (hX : ∀ x ∈ X, Good x ∧ endE x ≤ 64) (hr : Kd.C k86 w A X.length X) (hxl : X.length ≤ 1000) :
  Calls Tryz.prog 33 #[.pointer (some ⟨g, 0, none⟩), .slice A X.length c] w fun e w' => ∃ v, e = .returned (.tuple #[v, .int .i64 0]) ∧ MapAt w' g (putE L X) ∧ w.grownBy w' (some g) :=
 (put_callsO g L X A c w hM hL hX hr hxl).mono fun _ _ ⟨v, h1, h2, _, h3⟩ => ⟨v, h1, h2, h3⟩
set_option maxRecDepth 100000 in
set_option maxHeartbeats 4000000 in
theorem cut_callsO (g : Nat) (L : List S86) (X : List S70) (A : Option Addr) (c : Nat) (w : World) (hM : MapAt w g L) (hL : Okm L) (hX : ∀ x ∈ X, MayS x) (hr : Kd.C k70 w A X.length X) (hxl : X.length ≤ 1000) :
  Calls Tryz.prog 30 #[.pointer (some ⟨g, 0, none⟩), .slice A X.length c] w fun e w' => ∃ v, e = .returned (.tuple #[v, .int .i64 0]) ∧ MapAt w' g (cutE L X) ∧ (X = [] ∨ MapO w' g w.heap.size (cutE L X)) ∧ w.grownBy w' (some g) := by
 have hu31 := Tryz.underlying31
 have hu70 := Tryz.underlying70
 have hu72 := Tryz.underlying72
 have hu86 := Tryz.underlying86
 have hu25 := Tryz.underlying25
 obtain ⟨A0, k0, hg0, hc0, hC0⟩ := id hM
 have hct := Zbr 69 #[] (fun x => !decide (MayS x)) A c X w hr (enters_of Tryz.func69 (by kernel_rfl) rfl) (fun W x _ _ => cut1_calls x W)
 rw [any_mayS hX] at hct
 have HCT := Aside0.mk hct
 have HX := Aside0.mk hX
 have HST := Aside0.mk (fun W (hgw : w.grownBy W (some g)) => C70_of_map hg0 hr hgw)
 have HOK := Aside0.mk (fun i : Nat => (cutE_ok (X.take i) L hL (fun x hx => hX x (List.mem_of_mem_take hx))).1)
 have HM := Aside0.mk hM
 clear hct hX hr hM hg0 hc0 hC0 hL
 go_enter Tryz.func30, Tryz.ntmps30
 go_wp2_with (fail)
 refine HCT.out.mono ?_
 rintro e w1 ⟨rfl, hb1⟩
 have HB1 := Aside0.mk hb1
 clear hb1 HCT
 go_wp2_with (fail)
 go_loopg [6, 17] X.length (fun kx v6 v17 wr => ∃ i : Nat, v17 = .int .i64 (i : Int) ∧ i ≤ X.length ∧ X.length - i ≤ kx ∧ (∃ O : List S86, O.length ≤ 64 * i ∧ Aside0 (k86.R 86 wr w.heap.size (fun _ => True) v6 O)) ∧ Aside0 (MapS wr g v6.ownBlock (cutE L (X.take i))) ∧ Aside0 (i = 0 ∨ MapO wr g w.heap.size (cutE L (X.take i))) ∧ Aside0 (w.grownBy wr (some g)))
 case atStart => exact ⟨0, rfl, Nat.zero_le _, by omega, ⟨[], Nat.le_refl _, ⟨Kd.R_nil _ _ _ _ _⟩⟩, ⟨(HM.out.below HB1.out).none⟩, ⟨.inl rfl⟩, ⟨Zax HB1.out _⟩⟩
 case round =>
  obtain ⟨i, rfl, hi, hik, ⟨O, hO, HO⟩, HMS, HMO, HGB⟩ := hrel
  by_cases hlt : i < X.length
  ·have hi1 : i + 1 ≤ X.length := hlt
   clear HMO
   obtain ⟨ad, rfl, h0, h1⟩ := cells70 (HST.out wr HGB.out) i hlt
   have hts : cutE L (X.take (i + 1)) = (fun x => layE (cutE L (X.take i)) x.f0 (endS x) []) X[i] := by
    rw [← ZaM hlt]
    unfold cutE
    rw [List.foldl_append]
    rfl
   have HTS := Aside0.mk hts
   have hgx := HX.out X[i] (List.getElem_mem hlt)
   have HOK1 := Aside0.mk (HOK.out i)
   clear hts
   generalize X[i] = x at h0 h1 HTS hgx
   generalize cutE L (X.take i) = Li at HTS HMS HOK1 ⊢
   have HGX := Aside0.mk hgx
   clear hgx
   obtain ⟨x0, x1⟩ := x
   simp only at h0 h1
   have hgl : g < w.heap.size := HM.out.lt
   have HOl := Aside0.mk (Kd.R_lt HO.out)
   have HOb := Aside0.mk (Kd.R_base HO.out)
   have ba := Zab (Below.refl _ wr) (.cells #[.int .i64 x0, .int .i64 x1] 70)
   have HBZ := Aside0.mk ba
   have hml := Zdb Li x0 (endS ⟨x0, x1⟩)
   have hml2 := HOK1.out.len
   clear ba HST HOK HX
   go_wp2_with (fail)
   generalize wr.alloc (.cells #[.int .i64 x0, .int .i64 x1] 70) = W2 at HBZ ⊢
   have hly : Calls Tryz.prog 71 #[.pointer (some ⟨g, 0, none⟩), .agg #[.int .i64 x0, .int .i64 x1], .slice none 0 0] W2 _ := lay_callsO g Li ⟨x0, x1⟩ [] none 0 W2 (HMS.out.at.below HBZ.out) HOK1.out HGX.out (Within.nil _) (Kd.C_nil _ _) (Nat.le_refl 0) (by simp)
   refine hly.mono ?_
   clear hly
   rintro e w3 ⟨A2, c2, rfl, hcc2, hc3, hm3, hmo3, hg3⟩
   have hbz := HBZ.out
   have hnn : (cutMid Li x0 (endS ⟨x0, x1⟩)).length ≤ 64 := by omega
   change ∀ r : Option Nat, (∀ j, r = some j → j < W2.heap.size) → MapS w3 g r (layE Li x0 (endS ⟨x0, x1⟩) []) at hm3
   change MapO w3 g W2.heap.size (layE Li x0 (endS ⟨x0, x1⟩) []) at hmo3
   generalize cutMid Li x0 (endS ⟨x0, x1⟩) = mid at hcc2 hc3 hnn ⊢
   generalize hnnn : mid.length = nn at hcc2 hc3 hnn ⊢
   have HMID := Aside0.mk hnnn.symm
   clear hnnn HBZ hml hml2 hcc2
   have HB3 := Aside0.mk (Zbt HGB.out (hbz.mono HGB.out.size))
   have hO2 := Kd.R_below HO.out hbz
   have HO3 := Aside0.mk (R_off hO2 hgl hg3)
   have HM3 := Aside0.mk (hm3 u6.ownBlock (fun j hj => Nat.lt_of_lt_of_le (HOl.out j hj) hbz.size))
   have HG3 := Aside0.mk (HB3.out.andThen hg3 fun j hj => .inr hj)
   have HC3 := Aside0.mk hc3
   have HMO3 := Aside0.mk hmo3
   have HW2 := Aside0.mk (show w.heap.size ≤ W2.heap.size ∧ ∀ j, u6.ownBlock = some j → j < W2.heap.size from ⟨Nat.le_trans HGB.out.size hbz.size, fun j hj => Nat.lt_of_lt_of_le (HOl.out j hj) hbz.size⟩)
   have HS3 := Aside0.mk (Nat.le_trans HGB.out.size (Nat.le_trans hbz.size hg3.size))
   have hnl : nn ≤ 64 := hnn
   clear hO2 hm3 hmo3 hg3 hc3 hbz
   go_wp2_with (at_builtin; refine apps86h rfl _ _ rfl u6 O _ A2 nn c2 rfl rfl HO3.out HC3.out HS3.out (by omega) ?_; intro v1 w4 hR4 hb4 hg4 hat4)
   have HR4 := Aside0.mk hR4
   have HM4 := Aside0.mk (HM3.out.step hg4 (fun e => by have := HOb.out g e.symm; omega) hat4)
   have HG4 := Aside0.mk (Zbt HG3.out hb4)
   have HMO4 := Aside0.mk ((HMO3.out.far hg4 (fun e => by have := HOb.out g e.symm; omega) HW2.out.2).lower HW2.out.1)
   have hln : (O ++ mid).length ≤ 64 * (i + 1) := by rw [List.length_append, ← HMID.out]; omega
   clear hR4 hb4 hg4 hat4
   go_wp2_with (fail)
   go_roundg (gk - 1)
   case measure => omega
   case rel => exact ⟨i + 1, by go_num, hi1, by omega, ⟨_, hln, HR4⟩, ⟨by rw [HTS.out]; exact HM4.out⟩, ⟨.inr (by rw [HTS.out]; exact HMO4.out)⟩, HG4⟩
  ·have hil : i = X.length := by omega
   subst hil
   have hms := HMS.out.at
   rw [List.take_length] at hms
   have HMS' := Aside0.mk hms
   have HMO' := Aside0.mk (show X = [] ∨ MapO wr g w.heap.size (cutE L X) from HMO.out.imp (fun h => List.eq_nil_of_length_eq_zero h) (fun h => by rw [List.take_length] at h; exact h))
   clear hms HMS HMO
   as_aux_lemma =>
    go_wp2_with (fail)
    go_ret2
    exact ⟨_, rfl, HMS'.out, HMO'.out, HGB.out⟩
theorem cut_calls (g : Nat) (L : List S86) (X : List S70) (A : Option Addr) (c : Nat) (w : World) (hM : MapAt w g L) (hL : Okm L) (hX : ∀ x ∈ X, MayS x) (hr : Kd.C k70 w A X.length X) (hxl : X.length ≤ 1000) :
  Calls Tryz.prog 30 #[.pointer (some ⟨g, 0, none⟩), .slice A X.length c] w fun e w' => ∃ v, e = .returned (.tuple #[v, .int .i64 0]) ∧ MapAt w' g (cutE L X) ∧ w.grownBy w' (some g) :=
 (cut_callsO g L X A c w hM hL hX hr hxl).mono fun _ _ ⟨v, h1, h2, _, h3⟩ => ⟨v, h1, h2, h3⟩
theorem c_lit70 {w : World} {g : Nat} {a b : Int} (h : w.heap[g]? = some (.cells #[.int .i64 a, .int .i64 b] 70)) : Kd.C k70 w (some ⟨g, 0, none⟩) [(⟨a, b⟩ : S70)].length [⟨a, b⟩] := by
 refine ⟨rfl, by simp, fun _ => ⟨_, rfl, fun j p hj => ?_⟩⟩
 match j, hj with
 | 0, hj =>
  cases hj
  refine ⟨_, rfl, k70_mk w _, fun i u hu => ?_⟩
  rw [Za9, Nat.zero_add, Zaa h, ← hu]
  match i with
  | 0 => rfl
  | 1 => rfl
  | i + 2 => rfl
def sameE (x y : S86) : Bool := decide (y.f1.f0 = x.f1.f0) && decide (y.f1.f1 - y.f0.f0 = x.f1.f1 - x.f0.f0)
def apIn (x : S86) (L : List S86) (y : S86) : List S86 := if sameE x y then layE L y.f0.f0 (endE y) [] else L
def apOut (L : List S86) (x : S86) : List S86 := (cutMid L x.f0.f0 (endE x)).foldl (apIn x) L
theorem apIn_ok (x : S86) : ∀ (M L : List S86), Okm L → (∀ y ∈ M, MayE y) → Okm (M.foldl (apIn x) L) ∧ ∀ i, look (M.foldl (apIn x) L) i = if M.any (fun y => sameE x y && covers y.f0 i) then none else look L i
 | [], L, hL, _ => ⟨hL, fun i => by simp⟩
 | y :: M, L, hL, hm => by
  rw [List.foldl_cons]
  unfold apIn
  by_cases c : sameE x y = true
  ·rw [if_pos c]
   obtain ⟨h1, h2⟩ := cut_okm hL (hm y (by simp)).span
   obtain ⟨h3, h4⟩ := apIn_ok x M _ h1 fun z hz => hm z (by simp [hz])
   unfold apIn at h3 h4
   refine ⟨h3, fun i => ?_⟩
   rw [List.any_cons, c, Bool.true_and]
   refine (h4 i).trans ?_
   by_cases q : y.f0.f0 ≤ i ∧ i < endS y.f0
   ·rw [Za0.2 q, Bool.true_or, if_pos rfl, h2, if_pos q]
    simp [Zbe]
   ·have : covers y.f0 i = false := by
     cases hh : covers y.f0 i
     ·rfl
     ·exact absurd (Za0.1 hh) q
    rw [this, Bool.false_or, h2, if_neg q]
  ·have c' : sameE x y = false := by simpa using c
   rw [if_neg c]
   obtain ⟨h3, h4⟩ := apIn_ok x M L hL fun z hz => hm z (by simp [hz])
   unfold apIn at h3 h4
   refine ⟨h3, fun i => ?_⟩
   rw [List.any_cons, c', Bool.false_and, Bool.false_or]
   exact h4 i
theorem apOut_ok {L : List S86} {x : S86} (hL : Okm L) (hx : Good x) : Okm (apOut L x) ∧ ∀ i, look (apOut L x) i = if look [x] i ≠ none ∧ look L i = look [x] i then none else look L i := by
 have hxe : x.f0.f0 < endE x := by have := hx.1.2.1; unfold endE; omega
 have hg := Zea hL.good x.f0.f0 (endE x) hxe
 have hr := cutMid_rise hL.canon.rise x.f0.f0 (endE x)
 obtain ⟨h1, h2⟩ := apIn_ok x (cutMid L x.f0.f0 (endE x)) L hL fun y hy => (hg y hy).1
 refine ⟨h1, fun i => ?_⟩
 unfold apOut
 rw [h2]
 have hlm := look_cutMid L x.f0.f0 (endE x) i
 have hxl := ZaA x [] i
 by_cases c : ((cutMid L x.f0.f0 (endE x)).any fun y => sameE x y && covers y.f0 i) = true
 ·rw [if_pos c]
  obtain ⟨y, hy, h3⟩ := List.any_eq_true.1 c
  simp only [Bool.and_eq_true, sameE, decide_eq_true_eq] at h3
  obtain ⟨⟨h4, h5⟩, h6⟩ := h3
  have h7 := Za0.1 h6
  have h8 := Zcw hr hy (fun z hz => (hg z hz).1) (i := i) h7.1 h7.2
  rw [hlm] at h8
  split at h8
  ·rename_i q
   rw [if_pos q] at hxl
   rw [if_pos]
   rw [hxl, h8]
   refine ⟨by simp, ?_⟩
   rw [h4]
   congr 2
   omega
  ·cases h8
 ·rw [if_neg c]
  by_cases q : look [x] i ≠ none ∧ look L i = look [x] i
  ·exfalso
   apply c
   rw [List.any_eq_true]
   have hix : x.f0.f0 ≤ i ∧ i < endE x := by
    by_cases hq : x.f0.f0 ≤ i ∧ i < endE x
    ·exact hq
    ·rw [if_neg hq] at hxl
     exact absurd hxl q.1
   rw [if_pos hix] at hlm hxl
   rw [q.2, hxl] at hlm
   obtain ⟨y, hy, h3, h4, h5⟩ := ZdB hlm
   refine ⟨y, hy, ?_⟩
   injection h5 with h6 h7
   simp only [Bool.and_eq_true, sameE, decide_eq_true_eq]
   exact ⟨⟨h6.symm, by omega⟩, Za0.2 ⟨h3, h4⟩⟩
  ·rw [if_neg q]
theorem ap_ok : ∀ (B L : List S86), Okm L → Rise B → (∀ x ∈ B, Good x) → Okm (B.foldl apOut L) ∧ ∀ i, look (B.foldl apOut L) i = if look B i ≠ none ∧ look L i = look B i then none else look L i
 | [], L, hL, _, _ => ⟨hL, fun i => by simp [Zbe]⟩
 | x :: B, L, hL, hr, hg => by
  unfold Rise at hr
  rw [List.pairwise_cons] at hr
  obtain ⟨h1, h2⟩ := apOut_ok hL (hg x (by simp))
  obtain ⟨h3, h4⟩ := ap_ok B _ h1 hr.2 fun y hy => hg y (by simp [hy])
  refine ⟨h3, fun i => ?_⟩
  rw [List.foldl_cons, h4, h2]
  rcases Zc6 hr.1 i with ⟨e1, e2⟩ | ⟨e1, e2⟩
  ·rw [e1, e2]
   simp
  ·rw [e1, e2]
   simp
theorem ap_diff {La Lb : List S86} (ha : Okm La) (hb : Okm Lb) : DiffOf La Lb (Lb.foldl apOut La) := by
 obtain ⟨h1, h2⟩ := ap_ok Lb La ha hb.canon.rise hb.good
 refine ⟨h1, fun i => ?_⟩
 rw [h2]
 by_cases c : look La i = look Lb i
 ·rw [if_pos c]
  by_cases q : look Lb i ≠ none
  ·rw [if_pos ⟨q, c⟩]
  ·rw [if_neg (fun h => q h.1), c]
   simpa using q
 ·rw [if_neg c, if_neg (fun h => c h.2)]
theorem mid_whole {L : List S86} (h : Okm L) : cutMid L 0 65536 = L := by
 have key : ∀ l : List S86, (∀ x ∈ l, MayE x ∧ endE x ≤ 64) → cutMid l 0 65536 = l := by
  intro l hl
  induction l with
  | nil => rfl
  | cons x l ih =>
   have hx := hl x (by simp)
   have h1 := hx.1.1
   have h2 := hx.1.2.1
   have h3 := hx.2
   have ih' := ih fun y hy => hl y (by simp [hy])
   unfold cutMid at ih' ⊢
   rw [List.filterMap_cons, if_pos ⟨by unfold endE at h3; omega, by unfold endE; omega⟩, ih']
   have : inE 0 65536 x = x := by
    unfold inE
    rw [show max x.f0.f0 0 = x.f0.f0 by omega, show min (endE x) 65536 = endE x by omega, ZdU]
   rw [this]
 exact key L fun x hx => ⟨h.canon.1 x hx, h.ends x hx⟩
set_option maxRecDepth 100000 in
set_option maxHeartbeats 4000000 in
theorem Zee (ga gb : Nat) (La Lb : List S86) (w : World) (hA : MapAt w ga La) (hB : MapAt w gb Lb) (oa : Okm La) (ob : Okm Lb) :
  Calls Tryz.prog 35 #[.pointer (some ⟨ga, 0, none⟩), .pointer (some ⟨gb, 0, none⟩)] w fun e w' => ∃ A c, e = .returned (.slice A (Lb.foldl apOut La).length c) ∧ (Lb.foldl apOut La).length ≤ c ∧
   Kd.C k86 w' A (Lb.foldl apOut La).length (Lb.foldl apOut La) ∧ Below w.heap.size w w' := by
 have hu31 := Tryz.underlying31
 have hu70 := Tryz.underlying70
 have hu72 := Tryz.underlying72
 have hu84 := Tryz.underlying84
 have hu86 := Tryz.underlying86
 have hu25 := Tryz.underlying25
 have HA := Aside0.mk hA
 have HB := Aside0.mk hB
 have HOA := Aside0.mk oa
 have HOB := Aside0.mk ob
 have hlb := ob.len
 have HCp := Aside0.mk (Zeb ga La w hA (by have := oa.len; omega))
 clear hA hB oa ob
 go_enter Tryz.func35, Tryz.ntmps35
 go_wp2_with (fail)
 refine HCp.out.mono ?_
 rintro e w1 ⟨gc, rfl, hgc, hM1, hb1⟩
 have HM1 := Aside0.mk hM1
 have HAll := Aside0.mk (ZbL gb Lb w1 (HB.out.below hb1) (by omega))
 have HB1 := Aside0.mk hb1
 clear hM1 hb1 HCp
 go_wp2_with (fail)
 refine HAll.out.mono ?_
 rintro e w2 ⟨v, rfl, hR, hb2⟩
 obtain ⟨AL, cL, rfl, hcL, hCL⟩ := Kd.R_reads hR
 have HM2 := Aside0.mk (HM1.out.below hb2)
 have HB2 := Aside0.mk (Zae HB1.out hb2)
 have HCL := Aside0.mk hCL
 obtain ⟨A0, k0, hg0, hc0, hC0⟩ := id HM2.out
 have HST := Aside0.mk (Stay.of_map hg0 hCL)
 clear hR hb2 hCL HAll HM1 hg0 hc0 hC0
 go_wp2_with (fail)
 go_loopg [8, 9, 19] Lb.length (fun kx v8 v9 v19 wr => ∃ i : Nat, v19 = .int .i64 (i : Int) ∧ i ≤ Lb.length ∧ Lb.length - i ≤ kx ∧ Aside0 (Okm ((Lb.take i).foldl apOut La)) ∧ Aside0 (MapAt wr gc ((Lb.take i).foldl apOut La)) ∧ Aside0 (w2.grownBy wr (some gc)))
 case atStart => exact ⟨0, rfl, Nat.zero_le _, by omega, HOA, HM2, ⟨ZbJ _ _⟩⟩
 case round =>
  obtain ⟨i, rfl, hi, hik, HOL, HML, HGB⟩ := hrel
  by_cases hlt : i < Lb.length
  ·have hi1 : i + 1 ≤ Lb.length := hlt
   obtain ⟨ad, rfl, h0, h1, h2, h3⟩ := ZaF (HST.out wr HGB.out) i hlt
   have hts : (Lb.take (i + 1)).foldl apOut La = apOut ((Lb.take i).foldl apOut La) Lb[i] := by
    rw [← ZaM hlt, List.foldl_append]
    rfl
   have HTS := Aside0.mk hts
   have hgx := HOB.out.good Lb[i] (List.getElem_mem hlt)
   have HGX := Aside0.mk hgx
   clear hts hgx
   generalize Lb[i] = x at h0 h1 h2 h3 HTS HGX
   generalize (Lb.take i).foldl apOut La = Li at HTS HOL HML ⊢
   have HOx := Aside0.mk (apOut_ok HOL.out HGX.out).1
   obtain ⟨⟨x0, x1⟩, ⟨x2, x3⟩⟩ := x
   simp only at h0 h1 h2 h3
   have ba := Zab (Below.refl _ wr) (.cells #[.int .i64 x0, .int .i64 x1, .int .i64 x2, .int .i64 x3] 86)
   have hz := Zas wr (.cells #[.int .i64 x0, .int .i64 x1, .int .i64 x2, .int .i64 x3] 86)
   have HBA := Aside0.mk ba
   have HZ := Aside0.mk hz
   have z0 := (Zaa hz 0).trans rfl
   have z1 := (Zaa hz 1).trans rfl
   have hfd : Calls Tryz.prog 78 #[.pointer (some ⟨gc, 0, none⟩), .agg #[.int .i64 x0, .int .i64 x1]] (wr.alloc (.cells #[.int .i64 x0, .int .i64 x1, .int .i64 x2, .int .i64 x3] 86)) _ := find_calls gc Li ⟨x0, x1⟩ _ (HML.out.below ba) HOL.out HGX.out.1.span
   have HFD := Aside0.mk hfd
   have hml := Zdb Li x0 (endS ⟨x0, x1⟩)
   have hml2 := HOL.out.len
   clear ba hz hfd
   go_wp2_with (fail)
   refine HFD.out.mono ?_
   clear HFD
   rintro e w3 ⟨A2, c2, rfl, hcc2, hc3, hb3⟩
   have HB3 := Aside0.mk (Zae HBA.out hb3)
   have HZ3 := Aside0.mk (Zag HZ.out hb3)
   have HC3 := Aside0.mk hc3
   have HM3 := Aside0.mk (HML.out.below HB3.out)
   clear hc3 hb3 z0 z1 HBA HZ
   generalize hz : wr.heap.size = z at HZ3 ⊢
   have HEZ := Aside0.mk hz
   clear hz
   change Aside0 (Okm ((cutMid Li x0 (endS ⟨x0, x1⟩)).foldl (apIn ⟨⟨x0, x1⟩, ⟨x2, x3⟩⟩) Li)) at HOx
   change Aside0 (_ = (cutMid Li x0 (endS ⟨x0, x1⟩)).foldl (apIn ⟨⟨x0, x1⟩, ⟨x2, x3⟩⟩) Li) at HTS
   have hmm : ∀ y ∈ cutMid Li x0 (endS ⟨x0, x1⟩), Good y := Zea HOL.out.good x0 _ (by have := HGX.out.1.2.1; unfold endS; simp only at this ⊢; omega)
   have HMM := Aside0.mk hmm
   clear hmm
   generalize cutMid Li x0 (endS ⟨x0, x1⟩) = Md at hcc2 HC3 HOx HTS HMM hml ⊢
   have hmd : Md.length ≤ 64 := by omega
   have HXB := Aside0.mk (show -1 ≤ x3 ∧ x3 ≤ 1099511627776 ∧ 0 ≤ x0 ∧ x0 ≤ 65536 from by
    obtain ⟨h1, h2, h3, h4, h5, h6, h7⟩ := HGX.out.1
    simp only at h1 h2 h3 h4 h5 h6 h7
    omega)
   obtain ⟨A0, k0, hg0, hc0, hC0⟩ := id HM3.out
   have HSM := Aside0.mk (Stay.of_map hg0 HC3.out)
   have hgz : gc < z := by have := HML.out.lt; have := HEZ.out; omega
   have hwx : IntKind.i64.wrap (x3 - x0) = x3 - x0 := IntWalk.i64_in _ (by have := HXB.out; omega)
   clear hg0 hc0 hC0
   obtain ⟨gq, hgq⟩ : ∃ gq, gq = gk := ⟨_, rfl⟩
   subst hgq
   obtain ⟨wq, hwq⟩ : ∃ wq, wq = wr := ⟨_, rfl⟩
   subst hwq
   go_wp2_with (fail)
   go_loopg [32] Md.length (fun kx v32 wr2 => ∃ j : Nat, v32 = .int .i64 (j : Int) ∧ j ≤ Md.length ∧ Md.length - j ≤ kx ∧ Aside0 (Okm ((Md.take j).foldl (apIn ⟨⟨x0, x1⟩, ⟨x2, x3⟩⟩) Li)) ∧ Aside0 (MapAt wr2 gc ((Md.take j).foldl (apIn ⟨⟨x0, x1⟩, ⟨x2, x3⟩⟩) Li)) ∧ Aside0 (w3.grownBy wr2 (some gc)))
   case atStart => exact ⟨0, rfl, Nat.zero_le _, by omega, HOL, HM3, ⟨ZbJ _ _⟩⟩
   case round =>
    obtain ⟨j, rfl, hj, hjk, HOj, HMj, HGj⟩ := hrel
    by_cases hlj : j < Md.length
    ·have hj1 : j + 1 ≤ Md.length := hlj
     obtain ⟨ad2, rfl, y0c, y1c, y2c, y3c⟩ := ZaF (HSM.out wr HGj.out) j hlj
     have hts : (Md.take (j + 1)).foldl (apIn ⟨⟨x0, x1⟩, ⟨x2, x3⟩⟩) Li = apIn ⟨⟨x0, x1⟩, ⟨x2, x3⟩⟩ ((Md.take j).foldl (apIn ⟨⟨x0, x1⟩, ⟨x2, x3⟩⟩) Li) Md[j] := by
      rw [← ZaM hlj, List.foldl_append]
      rfl
     have HTJ := Aside0.mk hts
     have hgy := HMM.out Md[j] (List.getElem_mem hlj)
     have HGY := Aside0.mk hgy
     clear hts hgy
     generalize Md[j] = y at y0c y1c y2c y3c HTJ HGY
     generalize (Md.take j).foldl (apIn ⟨⟨x0, x1⟩, ⟨x2, x3⟩⟩) Li = Lj at HTJ HOj HMj ⊢
     obtain ⟨⟨y0, y1⟩, ⟨y2, y3⟩⟩ := y
     simp only at y0c y1c y2c y3c
     have hyb : 0 ≤ y3 ∧ y3 < 1099511627776 ∧ 0 ≤ y0 ∧ y0 ≤ 65536 := by
      obtain ⟨h1, h2, h3, h4, h5, h6, h7⟩ := HGY.out.1
      simp only at h1 h2 h3 h4 h5 h6 h7
      omega
     have hwy : IntKind.i64.wrap (y3 - y0) = y3 - y0 := IntWalk.i64_in _ (by omega)
     have HZW := Aside0.mk ((HGj.out.block z (blk_lt HZ3.out) (fun e => by have := Option.some.inj e; omega)).trans HZ3.out)
     by_cases hq2 : y2 = x2
     ·subst hq2
      by_cases hq3 : y3 - y0 = x3 - x0
      ·have EA := Aside0.mk (show apIn ⟨⟨x0, x1⟩, ⟨y2, x3⟩⟩ Lj ⟨⟨y0, y1⟩, ⟨y2, y3⟩⟩ = layE Lj y0 (endS ⟨y0, y1⟩) [] by unfold apIn sameE; simp [hq3]; rfl)
       have HOK2 := Aside0.mk (cut_okm HOj.out HGY.out.1.span).1
       as_aux_lemma =>
        have ba2 := Zab (Below.refl _ wr) (.cells #[.int .i64 y0, .int .i64 y1, .int .i64 y2, .int .i64 y3] 86)
        have hz3 := Zag HZW.out ba2
        have z0 := (Zaa hz3 0).trans (rfl : _ = some (Value.int .i64 x0))
        have z2 := (Zaa hz3 2).trans (rfl : _ = some (Value.int .i64 y2))
        have z3 := (Zaa hz3 3).trans (rfl : _ = some (Value.int .i64 x3))
        have HBA2 := Aside0.mk ba2
        clear ba2 hz3
        have hnb := Zas (wr.alloc (.cells #[.int .i64 y0, .int .i64 y1, .int .i64 y2, .int .i64 y3] 86)) (.cells #[.int .i64 y0, .int .i64 y1] 70)
        have bb2 := Zab (Below.refl _ (wr.alloc (.cells #[.int .i64 y0, .int .i64 y1, .int .i64 y2, .int .i64 y3] 86))) (.cells #[.int .i64 y0, .int .i64 y1] 70)
        have hsz : (wr.alloc (.cells #[.int .i64 y0, .int .i64 y1, .int .i64 y2, .int .i64 y3] 86)).heap.size = wr.heap.size + 1 := by simp
        rw [hsz] at hnb
        have HBY := Aside0.mk (Zae HBA2.out bb2)
        have HNB := Aside0.mk hnb
        clear hnb bb2 hsz
        go_wp2_with (fail)
        generalize (wr.alloc (.cells #[.int .i64 y0, .int .i64 y1, .int .i64 y2, .int .i64 y3] 86)).alloc (.cells #[.int .i64 y0, .int .i64 y1] 70) = W2 at HBY HNB ⊢
        generalize wr.heap.size + 1 = gn at HNB ⊢
        have hct : Calls Tryz.prog 30 #[.pointer (some ⟨gc, 0, none⟩), .slice (some ⟨gn, 0, none⟩) 1 1] W2 _ := cut_calls gc Lj [⟨y0, y1⟩] (some ⟨gn, 0, none⟩) 1 W2 (HMj.out.below HBY.out) HOj.out (by intro s hs; rw [List.mem_singleton.1 hs]; exact HGY.out.1.span) (c_lit70 HNB.out) (by simp)
        refine hct.mono ?_
        clear hct
        rintro e w4 ⟨v, rfl, hm4, hg4⟩
        have HM4 := Aside0.mk hm4
        have HG4 := Aside0.mk ((Zax HBY.out (some gc)).andThen hg4 fun j hj => .inr hj)
        clear hm4 hg4
        go_wp2_with (fail)
        go_roundg (gk - 1)
        case measure => omega
        case rel => exact ⟨j + 1, by go_num, hj1, by omega, ⟨by rw [HTJ.out, EA.out]; exact HOK2.out⟩, ⟨by rw [HTJ.out, EA.out]; exact HM4.out⟩, ⟨HGj.out.andThen HG4.out fun j hj => .inr hj⟩⟩
      ·have EA := Aside0.mk (show apIn ⟨⟨x0, x1⟩, ⟨y2, x3⟩⟩ Lj ⟨⟨y0, y1⟩, ⟨y2, y3⟩⟩ = Lj by unfold apIn sameE; simp [hq3])
       as_aux_lemma =>
        have ba2 := Zab (Below.refl _ wr) (.cells #[.int .i64 y0, .int .i64 y1, .int .i64 y2, .int .i64 y3] 86)
        have hz3 := Zag HZW.out ba2
        have z0 := (Zaa hz3 0).trans (rfl : _ = some (Value.int .i64 x0))
        have z2 := (Zaa hz3 2).trans (rfl : _ = some (Value.int .i64 y2))
        have z3 := (Zaa hz3 3).trans (rfl : _ = some (Value.int .i64 x3))
        have HBA2 := Aside0.mk ba2
        clear ba2 hz3
        go_wp2_with (fail)
        go_roundg (gk - 1)
        case measure => omega
        case rel => exact ⟨j + 1, by go_num, hj1, by omega, ⟨by rw [HTJ.out, EA.out]; exact HOj.out⟩, ⟨by rw [HTJ.out, EA.out]; exact HMj.out.below HBA2.out⟩, ⟨HGj.out.andThen (Zax HBA2.out (some gc)) fun j hj => .inr hj⟩⟩
     ·have EA := Aside0.mk (show apIn ⟨⟨x0, x1⟩, ⟨x2, x3⟩⟩ Lj ⟨⟨y0, y1⟩, ⟨y2, y3⟩⟩ = Lj by unfold apIn sameE; simp [hq2])
      as_aux_lemma =>
       have ba2 := Zab (Below.refl _ wr) (.cells #[.int .i64 y0, .int .i64 y1, .int .i64 y2, .int .i64 y3] 86)
       have hz3 := Zag HZW.out ba2
       have z0 := (Zaa hz3 0).trans (rfl : _ = some (Value.int .i64 x0))
       have z2 := (Zaa hz3 2).trans (rfl : _ = some (Value.int .i64 x2))
       have z3 := (Zaa hz3 3).trans (rfl : _ = some (Value.int .i64 x3))
       have HBA2 := Aside0.mk ba2
       clear ba2 hz3
       go_wp2_with (fail)
       go_roundg (gk - 1)
       case measure => omega
       case rel => exact ⟨j + 1, by go_num, hj1, by omega, ⟨by rw [HTJ.out, EA.out]; exact HOj.out⟩, ⟨by rw [HTJ.out, EA.out]; exact HMj.out.below HBA2.out⟩, ⟨HGj.out.andThen (Zax HBA2.out (some gc)) fun j hj => .inr hj⟩⟩
    ·have hjl : j = Md.length := by omega
     subst hjl
     rw [List.take_length] at HMj HOj
     have HG4 := Aside0.mk ((Zax HB3.out (some gc)).andThen HGj.out fun j hj => .inr hj)
     have HG5 := Aside0.mk (HGB.out.andThen HG4.out fun j hj => .inr hj)
     as_aux_lemma =>
      go_wp2_with (fail)
      go_roundg (gq - 1)
      case measure => omega
      case rel => exact ⟨i + 1, by go_num, hi1, by omega, ⟨by rw [HTS.out]; exact HOx.out⟩, ⟨by rw [HTS.out]; exact HMj.out⟩, HG5⟩
  ·have hil : i = Lb.length := by omega
   subst hil
   rw [List.take_length] at HML HOL
   generalize hL : Lb.foldl apOut La = Ld at HML HOL ⊢
   have hwh := Zda.calls 0 65536 wr rfl
   have HB9 := Aside0.mk (HB2.out.grown HGB.out (by have := HB2.out.size; exact this) (fun k hk => by cases hk; exact hgc))
   go_wp2_with (fail)
   refine hwh.mono ?_
   clear hwh
   rintro e w5 ⟨rfl, hb5⟩
   have hfd : Calls Tryz.prog 78 #[.pointer (some ⟨gc, 0, none⟩), .agg #[.int .i64 0, .int .i64 65536]] w5 _ := find_calls gc Ld ⟨0, 65536⟩ w5 (HML.out.below hb5) HOL.out (by unfold MayS; decide)
   have e65 : endS ⟨0, 65536⟩ = 65536 := rfl
   rw [e65] at hfd
   simp only at hfd
   rw [mid_whole HOL.out] at hfd
   have HFD := Aside0.mk hfd
   have HB5 := Aside0.mk (Zae HB9.out hb5)
   clear hfd hb5 e65
   go_wp2_with (fail)
   refine HFD.out.mono ?_
   rintro e w6 ⟨A2, c2, rfl, hc2, hC, hb6⟩
   have HC6 := Aside0.mk hC
   have HQ6 := Aside0.mk hc2
   have HB6 := Aside0.mk (Zae HB5.out hb6)
   clear HFD hC hb6 hc2
   go_wp2_with (fail)
   go_ret
   rw [hL]
   exact ⟨A2, c2, rfl, HQ6.out, HC6.out, HB6.out⟩
theorem lenA_take {L : List S86} {i : Nat} (h : i < L.length) : lenA (L.take (i + 1)) = lenA (L.take i) + L[i].f0.f1 := by
 rw [← ZaM h, ZdY]
 show _ = _
 rw [Zbq]
 show _ + (_ + 0) = _
 omega
theorem Zdm {L : List S86} (hm : ∀ x ∈ L, MayE x) (i : Nat) : 0 ≤ lenA (L.take i) ∧ lenA (L.take i) ≤ lenA L := by
 have key : ∀ l : List S86, (∀ x ∈ l, MayE x) → 0 ≤ lenA l := by
  intro l hl
  have := len_lenA l hl
  omega
 refine ⟨key _ fun x hx => hm x (List.mem_of_mem_take hx), ?_⟩
 have h1 := key (L.drop i) fun x hx => hm x (List.mem_of_mem_drop hx)
 have h2 : lenA L = lenA (L.take i) + lenA (L.drop i) := by rw [← ZdY, List.take_append_drop]
 omega
set_option maxRecDepth 100000 in
set_option maxHeartbeats 4000000 in
theorem sectors_calls (g : Nat) (L : List S86) (w : World) (hM : MapAt w g L) (hL : Okm L) : Calls Tryz.prog 19 #[.pointer (some ⟨g, 0, none⟩)] w fun e w' => e = .returned (.int .i64 (lenA L)) ∧ Below w.heap.size w w' := by
 have hu31 := Tryz.underlying31
 have hu70 := Tryz.underlying70
 have hu86 := Tryz.underlying86
 have hu25 := Tryz.underlying25
 have HAll := Aside0.mk (ZbL g L w hM (by have := hL.len; omega))
 have hlA := hL.lenA
 have hln := hL.len
 have HL := Aside0.mk hL
 clear hM hL
 go_enter Tryz.func19, Tryz.ntmps19
 go_wp2_with (fail)
 refine HAll.out.mono ?_
 rintro e w1 ⟨v, rfl, hR, hb1⟩
 obtain ⟨AL, cL, rfl, hcL, hCL⟩ := Kd.R_reads hR
 have HC := Aside0.mk hCL
 have HB1 := Aside0.mk hb1
 clear hR hCL hb1 HAll
 go_wp2_with (fail)
 go_loopg [3, 9] L.length (fun kx v3 v9 wr => ∃ i : Nat, v9 = .int .i64 (i : Int) ∧ i ≤ L.length ∧ L.length - i ≤ kx ∧ v3 = .int .i64 (lenA (L.take i)) ∧ Aside0 (Below w1.heap.size w1 wr))
 case atStart => exact ⟨0, rfl, Nat.zero_le _, by omega, rfl, ⟨Below.refl _ _⟩⟩
 case round =>
  obtain ⟨i, rfl, hi, hik, rfl, HB⟩ := hrel
  by_cases hlt : i < L.length
  ·have hi1 : i + 1 ≤ L.length := hlt
   obtain ⟨ad, rfl, h0, h1, h2, h3⟩ := ZaF (Kd.C_below HC.out HB.out) i hlt
   have hst := lenA_take hlt
   have hb1 := Zdm HL.out.canon.1 i
   have hb2 := Zdm HL.out.canon.1 (i + 1)
   have HST := Aside0.mk hst
   have hw : IntKind.i64.wrap (lenA (L.take i) + L[i].f0.f1) = lenA (L.take i) + L[i].f0.f1 := IntWalk.i64_in _ (by omega)
   clear hst hb1 hb2
   as_aux_lemma =>
    generalize L[i] = x at h0 h1 h2 h3 HST hw
    obtain ⟨⟨x0, x1⟩, ⟨x2, x3⟩⟩ := x
    simp only at h0 h1 h2 h3 HST hw
    generalize lenA (L.take i) = t0 at HST hw ⊢
    have HB2 := Aside0.mk (Zab HB.out (.cells #[.int .i64 x0, .int .i64 x1, .int .i64 x2, .int .i64 x3] 86))
    go_wp2_with (fail)
    go_roundg (gk - 1)
    case measure => omega
    case rel => exact ⟨i + 1, by go_num, hi1, by omega, by rw [HST.out], HB2⟩
  ·have hil : i = L.length := by omega
   subst hil
   rw [List.take_length]
   as_aux_lemma =>
    go_wp2_with (fail)
    go_ret
    exact ⟨rfl, Zae HB1.out HB.out⟩
theorem mayE_calls (x : S86) (w : World) : Calls Tryz.prog 74 #[.agg #[.int .i64 x.f0.f0, .int .i64 x.f0.f1, .int .i64 x.f1.f0, .int .i64 x.f1.f1]] w fun e w' => e = .returned (.int .i64 (if MayE x then 0 else 1)) ∧ Below w.heap.size w w' := ZbB.calls _ _ _ _ _ w (mayE_f x)
set_option maxRecDepth 100000 in
set_option maxHeartbeats 4000000 in
theorem few_calls (A : Option Addr) (c : Nat) (L : List S86) (w : World) (hr : Kd.C k86 w A L.length L) (hc : L.length ≤ c) (hL : Okm L) : Calls Tryz.prog 120 #[.slice A L.length c] w fun e w' => ∃ A1 c1, e = .returned (.slice A1 L.length c1) ∧ L.length ≤ c1 ∧ Kd.C k86 w' A1 L.length L ∧ Below w.heap.size w w' := by
 have hu31 := Tryz.underlying31
 have hu70 := Tryz.underlying70
 have hu86 := Tryz.underlying86
 have HR := Aside0.mk hr
 have HL := Aside0.mk hL
 have hln := hL.len
 clear hr hL
 go_enter Tryz.func120, Tryz.ntmps120
 go_wp2_with (fail)
 go_loopg [3, 7] L.length (fun kx v3 v7 wr => ∃ i : Nat, v7 = .int .i64 (i : Int) ∧ i ≤ L.length ∧ L.length - i ≤ kx ∧ Aside0 (Below w.heap.size w wr))
 case atStart => exact ⟨0, rfl, Nat.zero_le _, by omega, ⟨Below.refl _ _⟩⟩
 case round =>
  obtain ⟨i, rfl, hi, hik, HB⟩ := hrel
  by_cases hlt : i < L.length
  ·have hi1 : i + 1 ≤ L.length := hlt
   obtain ⟨ad, rfl, h0, h1, h2, h3⟩ := ZaF (Kd.C_below HR.out HB.out) i hlt
   have hmx := HL.out.canon.1 L[i] (List.getElem_mem hlt)
   have HMy := Aside0.mk (fun W => mayE_calls L[i] W)
   rw [if_pos hmx] at HMy
   by_cases h00 : i = 0
   ·have hdi : decide ((i : Int) > 0) = false := decide_eq_false (by omega)
    have hdj : decide (0 < i) = false := decide_eq_false (by omega)
    clear h00
    as_aux_lemma =>
     generalize L[i] = x at h0 h1 h2 h3 HMy
     obtain ⟨⟨x0, x1⟩, ⟨x2, x3⟩⟩ := x
     simp only at h0 h1 h2 h3 HMy
     have ba := Zab (Below.refl _ wr) (.cells #[.int .i64 x0, .int .i64 x1, .int .i64 x2, .int .i64 x3] 86)
     have hz := Zas wr (.cells #[.int .i64 x0, .int .i64 x1, .int .i64 x2, .int .i64 x3] 86)
     have z0 := Zap ((Zaa hz 0).trans rfl)
     have z1 := Zap ((Zaa hz 1).trans rfl)
     have z2 := Zap ((Zaa hz 2).trans rfl)
     have z3 := Zap ((Zaa hz 3).trans rfl)
     have HBA := Aside0.mk (Zae HB.out ba)
     clear ba hz
     go_wp2_with (fail)
     refine Zav (by kernel_rfl) (by kernel_rfl) ?_
     repeat (refine WQ.step (fun K hK => ?_); go_simp; first | (refine hK _ ?_; clear hK K) | (apply Exists.intro; refine ⟨fun _ => ?_, hK _ ?_⟩; ((go_at_call 74; exact abv_of (HMy.out _))); clear hK K))
     refine WQ.nil ?_
     rintro w3 ⟨⟨w3', hb3⟩, rfl⟩
     have HB3 := Aside0.mk (Zae HBA.out hb3)
     clear hb3 z0 z1 z2 z3
     go_wp2_with (fail)
     go_roundg (gk - 1)
     case measure => omega
     case rel => exact ⟨i + 1, by go_num, hi1, by omega, HB3⟩
   ·obtain ⟨k, hki⟩ : ∃ k, i = k + 1 := ⟨i - 1, by omega⟩
    have hdi : decide ((i : Int) > 0) = true := decide_eq_true (by omega)
    have hdj : decide (0 < i) = true := decide_eq_true (by omega)
    have hk : k < L.length := by omega
    obtain ⟨ad', e', p0, p1, p2, p3⟩ := ZaF (Kd.C_below HR.out HB.out) k hk
    cases e'
    have hpy := HL.out.canon.1 L[k] (List.getElem_mem hk)
    have hpr := List.pairwise_iff_getElem.1 HL.out.canon.rise k i hk hlt (by omega)
    have HE := Aside0.mk (fun W => ZaN L[k].f0.f0 L[k].f0.f1 hpy.span W)
    as_aux_lemma =>
     generalize L[i] = x at h0 h1 h2 h3 HMy hpr
     generalize L[k] = y at p0 p1 p2 p3 HE hpr
     obtain ⟨⟨x0, x1⟩, ⟨x2, x3⟩⟩ := x
     obtain ⟨⟨y0, y1⟩, ⟨y2, y3⟩⟩ := y
     unfold endE at hpr
     simp only at h0 h1 h2 h3 p0 p1 p2 p3 HMy HE hpr
     have hd1 : decide (y0 + y1 > x0) = false := decide_eq_false (by omega)
     have hw1 : IntKind.i64.wrap ((i : Int) - 1) = (k : Int) := (IntWalk.i64_in _ (by omega)).trans (by omega)
     have HKI := Aside0.mk hki
     clear hki h00
     have ba := Zab (Below.refl _ wr) (.cells #[.int .i64 x0, .int .i64 x1, .int .i64 x2, .int .i64 x3] 86)
     have hz := Zas wr (.cells #[.int .i64 x0, .int .i64 x1, .int .i64 x2, .int .i64 x3] 86)
     have z0 := Zap ((Zaa hz 0).trans rfl)
     have z1 := Zap ((Zaa hz 1).trans rfl)
     have z2 := Zap ((Zaa hz 2).trans rfl)
     have z3 := Zap ((Zaa hz 3).trans rfl)
     have q0 := Zap (Zam ba p0)
     have q1 := Zap (Zam ba p1)
     have HBA := Aside0.mk (Zae HB.out ba)
     clear ba hz p0 p1 p2 p3 hpr
     go_wp2_with (fail)
     refine Zav (by kernel_rfl) (by kernel_rfl) ?_
     repeat (refine WQ.step (fun K hK => ?_); go_simp; first | (refine hK _ ?_; clear hK K) | (apply Exists.intro; refine ⟨fun _ => ?_, hK _ ?_⟩; ((first | (go_at_call 74; exact abv_of (HMy.out _)) | (go_at_call 24; exact abv_of (HE.out _)))); clear hK K))
     refine WQ.nil ?_
     rintro w3 ⟨⟨w3', hb3⟩, rfl⟩
     have HB3 := Aside0.mk (Zae HBA.out hb3)
     clear hb3 z0 z1 z2 z3 q0 q1
     go_wp2_with (fail)
     go_roundg (gk - 1)
     case measure => omega
     case rel => exact ⟨i + 1, by go_num, hi1, by omega, HB3⟩
  ·have hil : i = L.length := by omega
   subst hil
   have hjj := Zdn A c L wr (Kd.C_below HR.out HB.out) (by omega) HL.out.canon.1
   rw [joinedE_canon HL.out.canon] at hjj
   have HJ := Aside0.mk hjj
   clear hjj
   as_aux_lemma =>
    go_wp2_with (fail)
    refine HJ.out.mono ?_
    rintro e w2 ⟨v, rfl, hR, hb2⟩
    obtain ⟨A1, c1, rfl, hc1, hC1⟩ := Kd.R_reads hR
    have HC1 := Aside0.mk hC1
    have HB2 := Aside0.mk (Zae HB.out hb2)
    clear hR hC1 hb2
    go_wp2_with (fail)
    go_ret
    exact ⟨A1, c1, rfl, hc1, HC1.out, HB2.out⟩
theorem eq119_f (L : List S86) (k : Nat) : ∀ (d i : Nat), i + d = L.length → d < k → L.length ≤ 1000000 → ZaL.l0 k L L (L.length : Int) (i : Int) = some true := by
 induction k with
 | zero => intro d i _ h; omega
 | succ k ih =>
  intro d i hd hk hl
  unfold ZaL.l0
  by_cases h : i < L.length
  ·rw [if_pos (by omega), if_pos (by omega), if_pos (by omega), if_pos (by omega), if_neg (by simp), ZaH _ (by omega)]
   have := ih (d - 1) (i + 1) (by omega) (by omega) hl
   rw [← this]
   rfl
  ·rw [if_neg (by omega)]
theorem equal_calls (A B : Option Addr) (a b : Nat) (L : List S86) (w : World) (hr : Kd.C k86 w A L.length L) (ha : L.length ≤ a) (hs : Kd.C k86 w B L.length L) (hb : L.length ≤ b) (hl : L.length ≤ 1000) :
  Calls Tryz.prog 119 #[.slice A L.length a, .slice B L.length b] w fun e w' => e = .returned (.bool true) ∧ Below w.heap.size w w' :=
 (ZaL.calls 2000 A a L B b L true w hr ha hs hb (by unfold ZaL.f; rw [if_pos rfl]; exact eq119_f L 2000 L.length 0 (by omega) (by omega) (by omega))).mono fun e w' ⟨he, hd⟩ => ⟨he, hd.below⟩
def OutAt (w : World) (base g n : Nat) : Prop := base ≤ g ∧ ∃ v xs, w.heap[g]? = some (.cells #[v] 158 (0, 0)) ∧ (Kd.int .u8).R 5 w base (fun _ => True) v xs ∧ xs.length = n
theorem OutAt.below {w w' : World} {base g n : Nat} (h : OutAt w base g n) (hb : Below w.heap.size w w') : OutAt w' base g n := by
 obtain ⟨h0, v, xs, h1, h2, h3⟩ := h
 exact ⟨h0, v, xs, Zag h1 hb, Kd.R_below h2 hb, h3⟩
theorem not158 : ∀ q, q ∈ 5 :: (Kd.int .u8).E → q ≠ 158 := by
 intro q hq
 have : (Kd.int .u8).E = [] := rfl
 rw [this] at hq
 simp at hq
 omega
theorem info5 : (Tryz.prog.info? 5).map (fun i => (i.zero, i.size, i.bytes)) = some (some (.int .u8 0), 1, 1) := by kernel_rfl
theorem out_mid {W w1 : World} {base g : Nat} {v : Value} {xs : List Int} (h1 : W.heap[g]? = some (.cells #[v] 158 (0, 0))) (h2 : (Kd.int .u8).R 5 W base (fun _ => True) v xs) (hg : W.grownBy w1 v.ownBlock) : w1.heap[g]? = some (.cells #[v] 158 (0, 0)) :=
 Zay h1 hg (Kd.R_ne h2 h1 (by decide))
theorem out_set {w1 : World} {base g : Nat} {v v1 : Value} {ys : List Int} (hb : base ≤ g) (h1 : w1.heap[g]? = some (.cells #[v] 158 (0, 0))) (h2 : (Kd.int .u8).R 5 w1 base (fun _ => True) v1 ys) : OutAt (w1.setCell ⟨g, 0, none⟩ v1) base g ys.length :=
 ⟨hb, v1, ys, ZaG h1 0 v1, Kd.R_set h2 h1 not158 0 v1, rfl⟩
theorem out_below {w w1 : World} {base g : Nat} (hb : Below base w w1) (hg : base ≤ g) (v1 : Value) (hs : base ≤ w.heap.size) : Below base w (w1.setCell ⟨g, 0, none⟩ v1) :=
 hb.grown (ZcM w1 g 0 v1) (Nat.le_trans hs hb.size) (fun k hk => by cases hk; exact hg)
structure BK (base : Nat) (w w' : World) : Prop where
 bel : Below base w w'
 kept : ∀ (k : Nat) (cs : Array Value) (t : Nat), t ≠ 158 → t ≠ 5 → w.heap[k]? = some (Obj.cells cs t (0, 0)) → w'.heap[k]? = some (Obj.cells cs t (0, 0))
theorem BK.refl (base : Nat) (w : World) : BK base w w := ⟨Below.refl _ _, fun _ _ _ _ _ h => h⟩
theorem BK.trans {base : Nat} {a b c : World} (h : BK base a b) (k : BK base b c) : BK base a c := ⟨h.bel.trans k.bel, fun j cells t h1 h2 h3 => k.kept j cells t h1 h2 (h.kept j cells t h1 h2 h3)⟩
theorem BK.of_below {base : Nat} {w w' : World} (h : Below w.heap.size w w') (hb : base ≤ w.heap.size) : BK base w w' := ⟨h.mono hb, fun _ _ _ _ _ hk => Zag hk h⟩
theorem out_bk {W w1 : World} {base g : Nat} {v v0 v1 : Value} {xs : List Int} (hb1 : Below base W w1) (hg1 : W.grownBy w1 v.ownBlock) (h2 : (Kd.int .u8).R 5 W base (fun _ => True) v xs) (hm : w1.heap[g]? = some (.cells #[v0] 158 (0, 0))) (hgb : base ≤ g) (hs : base ≤ W.heap.size) : BK base W (w1.setCell ⟨g, 0, none⟩ v1) := by
 refine ⟨out_below hb1 hgb _ hs, fun k cells t t1 t2 hk => ?_⟩
 have h3 := Zay hk hg1 (Kd.R_ne h2 hk (fun e => t2 e.symm))
 refine Zbc h3 (fun e => ?_) v1
 have e' : k = g := e
 rw [e', hm] at h3
 injection h3 with h3
 injection h3 with _ ht _
 exact t1 ht.symm
theorem app5 {ops : Array Oper} {o : Oper} {rest : List Oper} {a : Act} {Q : Exit → Act → World → Prop} {W : World} {base : Nat} (hg : o.guard = none) (s x : Operand)
  (ho : o.op = .call { callee := .builtin .append, args := #[s, x], argTypes := #[76, 76] }) (v : Value) (xs : List Int) (p : Int) (hs : a.eval s = v) (hx : a.eval x = .slice (some ⟨W.heap.size, 0, none⟩) 1 1)
  (HO : (Kd.int .u8).R 5 W base (fun _ => True) v xs) (hbase : base ≤ W.heap.size) (hl : xs.length ≤ 10000000)
  (h : ∀ v1 w1, (Kd.int .u8).R 5 w1 base (fun _ => True) v1 (xs ++ [p]) → RowKit.Below base W w1 → W.grownBy w1 v.ownBlock → wpList Tryz.prog ops Q rest (a.put o.dst v1) w1) :
  wpList Tryz.prog ops Q (o :: rest) a (W.alloc (.cells #[.int .u8 p] 5)) :=
 Kd.R_append (Kd.int .u8) (w0 := W) base hg s x 76 5 (.int .u8 0) 1 ho Tryz.underlying76 info5 rfl (by decide) (by decide) v xs p [.int .u8 p] (fun _ => True) (fun _ => False) hs hx rfl (fun _ hk => hk.elim) (fun _ _ => trivial) HO (Below.refl _ _) hbase (by omega) (fun v1 w1 h1 h2 h3 _ => h v1 w1 h1 h2 h3)
set_option maxRecDepth 100000 in
set_option maxHeartbeats 4000000 in
theorem ZdS (base g n k : Nat) (x : Int) (hk : k ≤ 9) (w : World) (h : OutAt w base g n) (hb : base ≤ w.heap.size) (hn : n ≤ 1000000) :
  Calls Tryz.prog 123 #[.pointer (some ⟨g, 0, none⟩), .int .u64 x, .int .i64 (k : Int)] w fun e w' => e = .returned (.tuple #[]) ∧ OutAt w' base g (n + k) ∧ BK base w w' := by
 have hu76 := Tryz.underlying76
 have hu158 := Tryz.underlying158
 have hu162 := Tryz.underlying162
 have hu5 := Tryz.underlying5
 have hu3 := Tryz.underlying3
 have hu30 := Tryz.underlying30
 have hu168 := Tryz.underlying168
 have H := Aside0.mk h
 have hgb : base ≤ g := h.1
 have hw0 : IntKind.i64.wrap ((k : Int) - 1) = (k : Int) - 1 := IntWalk.i64_in _ (by omega)
 clear h
 go_enter Tryz.func123, Tryz.ntmps123
 go_wp2_with (fail)
 go_loopg [6] k (fun kx v6 wr => ∃ j : Nat, v6 = .int .i64 ((j : Int) - 1) ∧ j ≤ k ∧ j ≤ kx ∧ Aside0 (OutAt wr base g (n + (k - j))) ∧ Aside0 (BK base w wr))
 case atStart => exact ⟨k, rfl, Nat.le_refl _, Nat.le_refl _, ⟨by rw [Nat.sub_self]; exact H.out⟩, ⟨BK.refl _ _⟩⟩
 case round =>
  obtain ⟨j, rfl, hj, hjk, HO, HB⟩ := hrel
  by_cases hj0 : j = 0
  ·subst hj0
   have hd : decide (((0 : Nat) : Int) - 1 ≥ 0) = false := by decide
   as_aux_lemma =>
    go_wp2_with (fail)
    refine bodyPost_end (results_none rfl _ _ _) rfl ?_
    exact ⟨rfl, HO.out, HB.out⟩
  ·obtain ⟨q, rfl⟩ : ∃ q, j = q + 1 := ⟨j - 1, by omega⟩
   have e1 : (((q + 1 : Nat) : Int) - 1) = (q : Int) := by omega
   rw [e1]
   have hd : decide ((q : Int) ≥ 0) = true := decide_eq_true (by omega)
   have hw1 : IntKind.i64.wrap (8 * (q : Int)) = 8 * (q : Int) := IntWalk.i64_in _ (by omega)
   have hw2 : IntKind.i64.wrap ((q : Int) - 1) = (q : Int) - 1 := IntWalk.i64_in _ (by omega)
   obtain ⟨_, v, xs, h1, h2, h3⟩ := HO.out
   obtain ⟨A, c, rfl⟩ := Kd.R_slice h2
   have c0 : wr.cell? ⟨g, 0, none⟩ = some (.slice A xs.length c) := (Zaa h1 0).trans rfl
   have H1 := Aside0.mk h1
   have H2 := Aside0.mk h2
   have HBS := Aside0.mk (Nat.le_trans hb HB.out.bel.size)
   have hxl : xs.length ≤ 10000000 := by omega
   have H3 := Aside0.mk h3
   clear h1 h2 h3 HO e1
   go_wp2_with (at_builtin; refine app5 rfl _ _ rfl _ xs _ rfl rfl H2.out HBS.out hxl ?_; intro v1 w1 hr hb1 hg1; obtain ⟨A1, c1, rfl⟩ := Kd.R_slice hr; have hm := out_mid H1.out H2.out hg1; have cc := (Zaa hm 0).trans rfl; have fz := Zad hm 0)
   go_roundg (gk - 1)
   case measure => omega
   case rel =>
    refine ⟨q, rfl, by omega, by omega, ⟨?_⟩, ⟨HB.out.trans (out_bk hb1 hg1 H2.out hm hgb HBS.out)⟩⟩
    have := out_set hgb hm hr
    rw [List.length_append, List.length_singleton] at this
    rw [show n + (k - q) = xs.length + 1 by have := H3.out; omega]
    exact this
attribute [local go_sem] Za5 Za4 Zbp Zbo
theorem Zdr : ∀ f x : Nat, Lib.bitLenAux f x ≤ f
 | 0, _ => Nat.le_refl _
 | f + 1, x => by
  have := Zdr f (x / 2)
  unfold Lib.bitLenAux
  split <;> omega
theorem bitLen_le (x : Nat) : Lib.bitLen x ≤ 64 := Zdr 64 x
set_option maxRecDepth 100000 in
theorem size_calls (x : Int) (h0 : 0 ≤ x) (h1 : x ≤ 18446744073709551615) (w : World) : Calls Tryz.prog 150 #[.int .u64 x] w fun e w' => ∃ n : Nat, e = .returned (.int .i64 (n : Int)) ∧ 1 ≤ n ∧ n ≤ 9 ∧ w' = w := by
 have HB := Aside0.mk (bits_Len64 x w h0 h1)
 obtain ⟨b, hb⟩ : ∃ b : Nat, Lib.bitLen x.toNat = b := ⟨_, rfl⟩
 have hbl : b ≤ 64 := by rw [← hb]; exact bitLen_le _
 rw [hb] at HB
 clear hb
 have hw1 : IntKind.i64.wrap ((b : Int) + 7) = (b : Int) + 7 := IntWalk.i64_in _ (by omega)
 have hw2 : IntKind.i64.wrap ((b : Int) + 7 - 1) = (b : Int) + 7 - 1 := IntWalk.i64_in _ (by omega)
 obtain ⟨q, hq, hq1⟩ : ∃ q : Nat, ((b : Int) + 7 - 1).tdiv 7 = (q : Int) ∧ q ≤ 10 := ⟨(b + 6) / 7, by
  have : ((b : Int) + 7 - 1) = ((b + 6 : Nat) : Int) := by omega
  rw [this]
  rfl, by omega⟩
 have hw3 : wrap64 (q : Int) = (q : Int) := ZaH _ (by omega)
 go_enter Tryz.func150, Tryz.ntmps150
 go_wp2_with (fail)
 refine HB.out.mono ?_
 rintro e w1 ⟨rfl, rfl⟩
 go_wp2_with (fail)
 all_goals (go_ret; first | exact ⟨1, rfl, by omega, by omega, rfl⟩ | exact ⟨9, rfl, by omega, by omega, rfl⟩ | exact ⟨q, rfl, by omega, by omega, rfl⟩)
set_option maxRecDepth 100000 in
theorem Zb4 (base g n k : Nat) (x : Int) (hk : 1 ≤ k ∧ k ≤ 8) (w : World) (h : OutAt w base g n) (hb : base ≤ w.heap.size) (hn : n ≤ 1000000) :
  Calls Tryz.prog 89 #[.pointer (some ⟨g, 0, none⟩), .int .u64 x, .int .i64 (k : Int)] w fun e w' => e = .returned (.int .i64 0) ∧ OutAt w' base g (n + k) ∧ BK base w w' := by
 have hu162 := Tryz.underlying162
 have hP := Aside0.mk (ZdS base g n k x (by omega) w h hb hn)
 have hd1 : decide ((k : Int) < 1) = false := decide_eq_false (by omega)
 have hd2 : decide ((k : Int) > 8) = false := decide_eq_false (by omega)
 clear h hn hk
 go_enter Tryz.func89, Tryz.ntmps89
 go_wp2_with (fail)
 refine hP.out.mono ?_
 rintro e w1 ⟨rfl, ho, hb1⟩
 have HO := Aside0.mk ho
 have HB := Aside0.mk hb1
 clear hP ho hb1
 go_wp2_with (fail)
 go_ret
 exact ⟨rfl, HO.out, HB.out⟩
end Go.Proofs.YtpfnaknmalojkaaGreat.PTopRows
namespace Go.Proofs.YtpfnaknmalojkaaGreat.PTopRows
open Go.RowKit Go.Maps Go.Sort Go.Proofs.YtpfnaknmalojkaaGreatW.PrintWords Go.Proofs.YtpfnaknmalojkaaGreatW.PrintLast Go.Proofs.YtpfnaknmalojkaaGreatW.PrintMore
set_option linter.unusedVariables false
set_option linter.unusedSimpArgs false
def sumB (l : List ByteArray) : Nat := (l.map ByteArray.size).sum
def strBlk (w : World) (g : Nat) (l : List ByteArray) : Prop := w.heap[g]? = some (.cells (l.map Value.string).toArray 9 (0, 0))
theorem strBlk.cell {w : World} {g : Nat} {l : List ByteArray} (h : strBlk w g l) (i : Nat) (hi : i < l.length) : w.cell? ⟨g, i, none⟩ = some (.string l[i]) := by
 rw [Zaa h]
 simp [hi]
theorem appStr {ops : Array Oper} {o : Oper} {rest : List Oper} {a : Act} {Q : Exit → Act → World → Prop} {W : World} {base : Nat} (hg : o.guard = none) (s x : Operand)
  (ho : o.op = .call { callee := .builtin .append, args := #[s, x], argTypes := #[76, 9] }) (v : Value) (xs : List Int) (y : ByteArray) (hs : a.eval s = v) (hx : a.eval x = .string y)
  (HO : (Kd.int .u8).R 5 W base (fun _ => True) v xs) (hbase : base ≤ W.heap.size) (hl : xs.length + y.size ≤ 10000000)
  (h : ∀ v1 w1, (Kd.int .u8).R 5 w1 base (fun _ => True) v1 (xs ++ bytesOf y) → RowKit.Below base W w1 → W.grownBy w1 v.ownBlock → wpList Tryz.prog ops Q rest (a.put o.dst v1) w1) :
  wpList Tryz.prog ops Q (o :: rest) a W :=
 Zdv (w0 := W) base hg s x 76 9 5 ho Tryz.underlying76 Tryz.underlying9 info5 v xs y hs hx (Kd.own_of_R HO) (Below.refl _ _) hbase (by omega) fun v1 w1 h1 h2 h3 => h v1 w1 (Kd.R_of_own h1 (fun _ _ => trivial)) h2 h3
theorem sumB_take {l : List ByteArray} {i : Nat} (h : i < l.length) : sumB (l.take (i + 1)) = sumB (l.take i) + l[i].size := by
 unfold sumB
 rw [← ZaM h, List.map_append, List.sum_append]
 simp
theorem sumB_le (l : List ByteArray) (i : Nat) : sumB (l.take i) ≤ sumB l := by
 have : sumB l = sumB (l.take i) + sumB (l.drop i) := by
  unfold sumB
  conv => lhs; rw [← List.take_append_drop i l]
  rw [List.map_append, List.sum_append]
 omega
set_option maxRecDepth 100000 in
set_option maxHeartbeats 4000000 in
theorem ZdR (base g n gs : Nat) (ss : List ByteArray) (w : World) (h : OutAt w base g n) (hb : base ≤ w.heap.size) (hS : strBlk w gs ss) (hn : n + sumB ss ≤ 1000000) (hl : ss.length ≤ 1000) :
  Calls Tryz.prog 88 #[.pointer (some ⟨g, 0, none⟩), .slice (some ⟨gs, 0, none⟩) ss.length ss.length] w fun e w' => e = .returned (.tuple #[]) ∧ OutAt w' base g (n + sumB ss) ∧ BK base w w' := by
 have hu76 := Tryz.underlying76
 have hu158 := Tryz.underlying158
 have hu162 := Tryz.underlying162
 have hu189 := Tryz.underlying189
 have hu9 := Tryz.underlying9
 have H := Aside0.mk h
 have HS := Aside0.mk hS
 have hgb : base ≤ g := h.1
 clear h hS
 go_enter Tryz.func88, Tryz.ntmps88
 go_wp2_with (fail)
 go_loopg [5, 10] ss.length (fun kx v5 v10 wr => ∃ i : Nat, v10 = .int .i64 (i : Int) ∧ i ≤ ss.length ∧ ss.length - i ≤ kx ∧ Aside0 (OutAt wr base g (n + sumB (ss.take i))) ∧ Aside0 (strBlk wr gs ss) ∧ Aside0 (BK base w wr))
 case atStart => exact ⟨0, rfl, Nat.zero_le _, by omega, H, HS, ⟨BK.refl _ _⟩⟩
 case round =>
  obtain ⟨i, rfl, hi, hik, HO, HSr, HB⟩ := hrel
  by_cases hlt : i < ss.length
  ·have hi1 : i + 1 ≤ ss.length := hlt
   obtain ⟨_, v, xs, h1, h2, h3⟩ := HO.out
   obtain ⟨A, c, rfl⟩ := Kd.R_slice h2
   have c0 : wr.cell? ⟨g, 0, none⟩ = some (.slice A xs.length c) := (Zaa h1 0).trans rfl
   have hne1 : gs ≠ g := by
    rintro rfl
    have := HSr.out
    unfold strBlk at this
    rw [this] at h1
    injection h1 with h1
    injection h1 with _ ht _
    exact absurd ht (by decide)
   have hne2 : some gs ≠ (Value.slice A xs.length c).ownBlock := Kd.R_ne h2 HSr.out (by decide)
   have s0 := HSr.out.cell i hlt
   have H1 := Aside0.mk h1
   have H2 := Aside0.mk h2
   have HBS := Aside0.mk (Nat.le_trans hb HB.out.bel.size)
   have hst := sumB_take hlt
   have hle := sumB_le ss (i + 1)
   have hxl : xs.length + ss[i].size ≤ 10000000 := by omega
   have HST := Aside0.mk hst
   have H3 := Aside0.mk h3
   clear h1 h2 h3 HO hst hle
   as_aux_lemma =>
    generalize ss[i] = y at s0 hxl HST
    go_wp2_with (at_builtin; refine appStr rfl _ _ rfl _ xs y rfl rfl H2.out HBS.out hxl ?_; intro v1 w1 hr hb1 hg1; obtain ⟨A1, c1, rfl⟩ := Kd.R_slice hr; have hm := out_mid H1.out H2.out hg1; have cc := (Zaa hm 0).trans rfl; have fz := Zad hm 0)
    go_roundg (gk - 1)
    case measure => omega
    case rel =>
     refine ⟨i + 1, by go_num, hi1, by omega, ⟨?_⟩, ⟨Zbc ((hg1.block gs (blk_lt HSr.out) hne2).trans HSr.out) hne1 _⟩, ⟨HB.out.trans (out_bk hb1 hg1 H2.out hm hgb HBS.out)⟩⟩
     have := out_set hgb hm hr
     rw [HST.out, show n + (sumB (ss.take i) + y.size) = (xs ++ bytesOf y).length by rw [List.length_append, Zct]; have := H3.out; omega]
     simpa only [List.length_append] using this
  ·have hil : i = ss.length := by omega
   subst hil
   rw [List.take_length] at HO
   as_aux_lemma =>
    go_wp2_with (fail)
    go_end0
    exact ⟨rfl, HO.out, HB.out⟩
set_option maxRecDepth 100000 in
theorem Zcd (base g n : Nat) (w : World) (h : OutAt w base g n) : Calls Tryz.prog 93 #[.pointer (some ⟨g, 0, none⟩)] w fun e w' => ∃ s : ByteArray, e = .returned (.string s) ∧ s.size = n ∧ Below w.heap.size w w' := by
 have hu76 := Tryz.underlying76
 have hu158 := Tryz.underlying158
 have hu162 := Tryz.underlying162
 have hu5 := Tryz.underlying5
 have hu9 := Tryz.underlying9
 obtain ⟨_, v, xs, h1, h2, h3⟩ := h
 obtain ⟨A, c, rfl, hc, hC⟩ := Kd.R_reads h2
 have c0 : w.cell? ⟨g, 0, none⟩ = some (.slice A xs.length c) := (Zaa h1 0).trans rfl
 have hcv := Kd.C_string (P := Tryz.prog) (src := 76) (dst := 9) (c := c) hu76 hu5 hu9 hC
 have hsz : (strOfNums xs).size = n := by rw [strOfNums_size]; exact h3
 have HSZ := Aside0.mk hsz
 clear h1 h2 h3 hC hsz
 generalize strOfNums xs = s at hcv HSZ
 go_enter Tryz.func93, Tryz.ntmps93
 go_wp2_with (fail)
 go_ret
 exact ⟨s, rfl, HSZ.out, Below.refl _ _⟩
set_option maxRecDepth 100000 in
theorem head_one (n : Nat) (hn : 1 ≤ n ∧ n ≤ 9) : ∃ x, ∀ w, Calls Tryz.prog 151 #[.int .i64 (n : Int)] w fun e w' => e = .returned (.int .u8 x) ∧ Below w.heap.size w w' := by
 obtain ⟨q, hq⟩ : ∃ q : Nat, n = q + 1 := ⟨n - 1, by omega⟩
 refine ⟨bits BinOp.xor IntKind.u8 IntKind.u8.max (255 / 2 ^ min (IntKind.u64.wrap (q : Int)).toNat 8), fun w => ?_⟩
 have hu5 := Tryz.underlying5
 have hu168 := Tryz.underlying168
 have hu3 := Tryz.underlying3
 have hsg : IntKind.u8.signed = false := rfl
 have hw1 : IntKind.i64.wrap ((n : Int) - 1) = (q : Int) := (IntWalk.i64_in _ (by omega)).trans (by omega)
 clear hq
 go_enter Tryz.func151, Tryz.ntmps151
 go_wp2_with (fail)
 go_ret
 exact ⟨rfl, Below.refl _ _⟩
set_option maxRecDepth 100000 in
set_option maxHeartbeats 4000000 in
theorem ZdG (base g n gs : Nat) (x : Int) (hx : 0 ≤ x ∧ x ≤ 18446744073709551615) (w : World) (h : OutAt w base g n) (hb : base ≤ w.heap.size) (hS : w.heap[gs]? = some (.cells #[.int .u64 x] 30 (0, 0))) (hn : n ≤ 900000) :
  Calls Tryz.prog 124 #[.pointer (some ⟨g, 0, none⟩), .slice (some ⟨gs, 0, none⟩) 1 1] w fun e w' => ∃ k, e = .returned (.tuple #[]) ∧ k ≤ 9 ∧ OutAt w' base g (n + k) ∧ BK base w w' := by
 have hu76 := Tryz.underlying76
 have hu158 := Tryz.underlying158
 have hu162 := Tryz.underlying162
 have hu214 := Tryz.underlying214
 have hu30 := Tryz.underlying30
 have hu5 := Tryz.underlying5
 have hu3 := Tryz.underlying3
 have H := Aside0.mk h
 have HSz := Aside0.mk (fun W => size_calls x hx.1 hx.2 W)
 have hgb : base ≤ g := h.1
 have c0 : w.cell? ⟨gs, 0, none⟩ = some (.int .u64 x) := (Zaa hS 0).trans rfl
 have HC0 := Aside0.mk c0
 clear h hS c0
 go_enter Tryz.func124, Tryz.ntmps124
 go_wp2_with (fail)
 go_loopg [5, 6, 7, 12] 1 (fun kx v5 v6 v7 v12 wr => ∃ i : Nat, v12 = .int .i64 (i : Int) ∧ i ≤ 1 ∧ 1 - i ≤ kx ∧ (i = 0 → wr = w) ∧ (∃ k, k ≤ 9 ∧ Aside0 (OutAt wr base g (n + k))) ∧ Aside0 (BK base w wr))
 case atStart => exact ⟨0, rfl, by omega, by omega, fun _ => rfl, ⟨0, by omega, H⟩, ⟨BK.refl _ _⟩⟩
 case round =>
  obtain ⟨i, rfl, hi, hik, hw, ⟨k, hk, HO⟩, HB⟩ := hrel
  by_cases hlt : i = 0
  ·have hwr := hw hlt
   subst hlt hwr
   clear hw
   have c0 := HC0.out
   obtain ⟨_, v, xs, h1, h2, h3⟩ := H.out
   obtain ⟨A, c, rfl⟩ := Kd.R_slice h2
   have d0 : wr.cell? ⟨g, 0, none⟩ = some (.slice A xs.length c) := (Zaa h1 0).trans rfl
   have H1 := Aside0.mk h1
   have H2 := Aside0.mk h2
   have H3 := Aside0.mk h3
   have hxl : xs.length ≤ 10000000 := by omega
   clear h1 h2 h3
   go_wp2_with (fail)
   refine (HSz.out _).mono ?_
   rintro e w1 ⟨m, rfl, hm1, hm2, rfl⟩
   by_cases hm9 : m = 9
   ·subst hm9
    have hd : decide (((9 : Nat) : Int) = 9) = true := by decide
    as_aux_lemma =>
     go_wp2_with (at_builtin; refine app5 rfl _ _ rfl _ xs _ rfl rfl H2.out hb hxl ?_; intro v1 w1 hr hb1 hg1; obtain ⟨A1, c1, rfl⟩ := Kd.R_slice hr; have hm := out_mid H1.out H2.out hg1; have cc := (Zaa hm 0).trans rfl; have fz := Zad hm 0)
     have ho := out_set hgb hm hr
     have hb2 := out_bk (v1 := .slice A1 (xs ++ [255]).length c1) hb1 hg1 H2.out hm hgb hb
     have elen : (xs ++ [(255 : Int)]).length = xs.length + 1 := by simp
     rw [elen] at ho hb2
     have hp : Calls Tryz.prog 123 #[.pointer (some ⟨g, 0, none⟩), .int .u64 x, .int .i64 8] _ _ := ZdS base g (xs.length + 1) 8 x (by omega) _ ho (Nat.le_trans hb hb2.bel.size) (by have := H3.out; omega)
     refine hp.mono ?_
     clear hp
     rintro e w4 ⟨rfl, ho4, hb4⟩
     have HO4 := Aside0.mk ho4
     have HB4 := Aside0.mk (hb2.trans hb4)
     clear ho4 hb4 ho hb2 hr hb1 hg1 hm cc fz
     go_wp2_with (fail)
     go_roundg (gk - 1)
     case measure => omega
     case rel => exact ⟨1, by go_num, by omega, by omega, fun h => absurd h (by decide), ⟨9, by omega, ⟨by rw [show n + 9 = xs.length + 1 + 8 by have := H3.out; omega]; exact HO4.out⟩⟩, HB4⟩
   ·have hd : decide ((m : Int) = 9) = false := decide_eq_false (by omega)
    have hd' : ((m : Int) == 9) = false := by simp; omega
    as_aux_lemma =>
     go_wp2_with (fail)
     have hp : Calls Tryz.prog 123 #[.pointer (some ⟨g, 0, none⟩), .int .u64 x, .int .i64 (m : Int)] _ _ := ZdS base g n m x hm2 _ H.out hb (by omega)
     refine hp.mono ?_
     clear hp
     rintro e w4 ⟨rfl, ho4, hb4⟩
     obtain ⟨_, v4, ys, k1, k2, k3⟩ := ho4
     have hpos : 0 < ys.length := by omega
     obtain ⟨g4, cap4, rfl, hg4b, hg4l, cells4, hg4⟩ := Kd.R_form k2 hpos
     have hix : xs.length < ys.length := by have := H3.out; omega
     obtain ⟨x4, hx4⟩ := head_one m ⟨hm1, hm2⟩
     have HX4 := Aside0.mk hx4
     have hcell := Kd.R_cell (0 : Int) k2 (xs.length : Int) (by omega) (by omega)
     rw [Int.toNat_natCast] at hcell
     have p0 := Zap ((Zaa k1 0).trans rfl : w4.cell? ⟨g, 0, none⟩ = some (.slice (some ⟨g4, 0, none⟩) ys.length cap4))
     have p1 := Zap hcell.1
     have HK1 := Aside0.mk k1
     have HK2 := Aside0.mk k2
     have HK3 := Aside0.mk k3
     have HB4 := Aside0.mk hb4
     have HCL := Aside0.mk hcell
     have HG4 := Aside0.mk hg4
     have HG4b := Aside0.mk hg4b
     clear k1 k2 k3 hb4 hcell hx4 hg4 hg4b
     generalize rdOf (0 : Int) ys xs.length = y4 at p1 HCL
     go_wp2_with (fail)
     refine Zei 11 (by kernel_rfl) (by kernel_rfl) ?_
     simp only [List.take_succ_cons, List.take_zero]
     repeat (refine WQ.step (fun K hK => ?_); go_simp; first | (refine hK _ ?_; clear hK K) | (apply Exists.intro; refine ⟨fun _ => ?_, hK _ ?_⟩; ((go_at_call 151; exact abv_of (HX4.out _))); clear hK K))
     refine WQ.nil ?_
     rintro w5 ⟨⟨w5', hb5⟩, rfl⟩
     simp only [List.drop_succ_cons, List.drop_zero]
     have c5 := Zam hb5 HCL.out.1
     have hfz : w5.frozen? ⟨g4, xs.length, none⟩ = false := Zad (Zag HG4.out hb5) _
     have HR5 := Aside0.mk (Kd.R_below HK2.out hb5)
     have HK5 := Aside0.mk (Zag HK1.out hb5)
     have HB5 := Aside0.mk (HB4.out.trans (BK.of_below hb5 (Nat.le_trans hb HB4.out.bel.size)))
     clear p0 p1 hb5
     go_wp2_with (fail)
     go_roundg (gk - 1)
     case measure => omega
     case rel =>
      obtain ⟨hp1, hp2⟩ := Kd.R_put (HR5.out) (xs.length : Int) (bits BinOp.or IntKind.u8 y4 x4)
      rw [Int.toNat_natCast] at hp1 hp2
      have hne : g ≠ g4 := fun e => Kd.R_ne HR5.out HK5.out (by decide) (by rw [e]; rfl)
      refine ⟨1, by go_num, by omega, by omega, fun h => absurd h (by decide), ⟨m, hm2, ⟨hgb, _, ys.set xs.length (bits BinOp.or IntKind.u8 y4 x4), Zbc HK5.out hne _, ?_, ?_⟩⟩, ⟨HB5.out.trans ⟨(Below.refl _ _).grown hp2 (Nat.le_trans hb HB5.out.bel.size) (fun k hk => by cases hk; exact HG4b.out), fun k cells t t1 t2 hk => Zbc hk (fun e => Kd.R_ne HR5.out hk (fun e => t2 e.symm) (by rw [show k = g4 from e]; rfl)) _⟩⟩⟩
      ·have e : ys.length = (ys.set xs.length (bits BinOp.or IntKind.u8 y4 x4)).length := by simp
       exact hp1
      ·rw [List.length_set]; exact HK3.out
  ·have hi1 : i = 1 := by omega
   subst hi1
   as_aux_lemma =>
    go_wp2_with (fail)
    go_end0
    exact ⟨k, rfl, hk, HO.out, HB.out⟩
def InU (x : Int) : Prop := 0 ≤ x ∧ x ≤ 9223372036854775807
def intBlk (w : World) (g : Nat) (l : List Int) : Prop := w.heap[g]? = some (.cells (l.map (Value.int .i64)).toArray 3 (0, 0))
theorem intBlk.cell {w : World} {g : Nat} {l : List Int} (h : intBlk w g l) (i : Nat) (hi : i < l.length) : w.cell? ⟨g, i, none⟩ = some (.int .i64 l[i]) := by
 rw [Zaa h]
 simp [hi]
set_option maxRecDepth 100000 in
set_option maxHeartbeats 4000000 in
theorem Zdw (base g n gs : Nat) (l : List Int) (hl : ∀ x ∈ l, InU x) (w : World) (h : OutAt w base g n) (hb : base ≤ w.heap.size) (hS : intBlk w gs l) (hn : n ≤ 800000) (hll : l.length ≤ 1000) :
  Calls Tryz.prog 147 #[.pointer (some ⟨g, 0, none⟩), .slice (some ⟨gs, 0, none⟩) l.length l.length] w fun e w' => ∃ k, e = .returned (.tuple #[]) ∧ k ≤ 9 * l.length ∧ OutAt w' base g (n + k) ∧ BK base w w' := by
 have hu162 := Tryz.underlying162
 have hu191 := Tryz.underlying191
 have hu214 := Tryz.underlying214
 have hu30 := Tryz.underlying30
 have hu3 := Tryz.underlying3
 have H := Aside0.mk h
 have HS := Aside0.mk hS
 have HL := Aside0.mk hl
 clear h hS hl
 go_enter Tryz.func147, Tryz.ntmps147
 go_wp2_with (fail)
 go_loopg [5, 8] l.length (fun kx v5 v8 wr => ∃ i : Nat, v8 = .int .i64 (i : Int) ∧ i ≤ l.length ∧ l.length - i ≤ kx ∧ (∃ k, k ≤ 9 * i ∧ Aside0 (OutAt wr base g (n + k))) ∧ Aside0 (intBlk wr gs l) ∧ Aside0 (BK base w wr))
 case atStart => exact ⟨0, rfl, Nat.zero_le _, by omega, ⟨0, by omega, H⟩, HS, ⟨BK.refl _ _⟩⟩
 case round =>
  obtain ⟨i, rfl, hi, hik, ⟨k, hk, HO⟩, HSr, HB⟩ := hrel
  by_cases hlt : i < l.length
  ·have hi1 : i + 1 ≤ l.length := hlt
   have s0 := HSr.out.cell i hlt
   have hxm := HL.out l[i] (List.getElem_mem hlt)
   as_aux_lemma =>
    generalize l[i] = x at s0 hxm
    have hxu : 0 ≤ x ∧ x ≤ 9223372036854775807 := hxm
    have hcu : IntKind.u64.wrap x = x := by
     have : IntKind.u64.wrap x = x % 18446744073709551616 := rfl
     rw [this]; omega
    have ba := Zab (Below.refl _ wr) (.cells #[.int .u64 x] 30)
    have hnb := Zas wr (.cells #[.int .u64 x] 30)
    have HBA := Aside0.mk ba
    have HNB := Aside0.mk hnb
    have HOA := Aside0.mk (HO.out.below ba)
    have HBS := Aside0.mk (Nat.le_trans (Nat.le_trans hb HB.out.bel.size) ba.size)
    clear ba hnb
    go_wp2_with (fail)
    generalize wr.alloc (.cells #[.int .u64 x] 30) = W2 at HBA HNB HOA HBS ⊢
    generalize hwz : wr.heap.size = wz at HNB ⊢
    have hv := ZdG base g (n + k) wz x (by omega) W2 HOA.out HBS.out HNB.out (by omega)
    refine hv.mono ?_
    clear hv
    rintro e w4 ⟨k4, rfl, hk4, ho4, hb4⟩
    have HB4 := Aside0.mk ((HB.out.trans (BK.of_below HBA.out (Nat.le_trans hb HB.out.bel.size))).trans hb4)
    have HO4 := Aside0.mk ho4
    have HS4 := Aside0.mk (show intBlk w4 gs l from hb4.kept gs _ _ (by decide) (by decide) (Zag HSr.out HBA.out))
    clear ho4 hb4
    go_wp2_with (fail)
    go_roundg (gk - 1)
    case measure => omega
    case rel => exact ⟨i + 1, by go_num, hi1, by omega, ⟨k + k4, by omega, ⟨by rw [← Nat.add_assoc]; exact HO4.out⟩⟩, HS4, HB4⟩
  ·have hil : i = l.length := by omega
   subst hil
   as_aux_lemma =>
    go_wp2_with (fail)
    go_end0
    exact ⟨k, rfl, hk, HO.out, HB.out⟩
set_option maxRecDepth 100000 in
set_option maxHeartbeats 4000000 in
theorem ZdV (base g n gs : Nat) (l : List Int) (hl : ∀ x ∈ l, InU x) (w : World) (h : OutAt w base g n) (hb : base ≤ w.heap.size) (hS : intBlk w gs l) (hn : n ≤ 800000) (hll : l.length ≤ 1000) :
  Calls Tryz.prog 90 #[.pointer (some ⟨g, 0, none⟩), .slice (some ⟨gs, 0, none⟩) l.length l.length] w fun e w' => ∃ k, e = .returned (.tuple #[]) ∧ k ≤ 9 * l.length ∧ OutAt w' base g (n + k) ∧ BK base w w' := by
 have hu162 := Tryz.underlying162
 have hu191 := Tryz.underlying191
 have hu214 := Tryz.underlying214
 have hu30 := Tryz.underlying30
 have hu3 := Tryz.underlying3
 have H := Aside0.mk h
 have HS := Aside0.mk hS
 have HL := Aside0.mk hl
 clear h hS hl
 go_enter Tryz.func90, Tryz.ntmps90
 go_wp2_with (fail)
 go_loopg [5, 8] l.length (fun kx v5 v8 wr => ∃ i : Nat, v8 = .int .i64 (i : Int) ∧ i ≤ l.length ∧ l.length - i ≤ kx ∧ (∃ k, k ≤ 9 * i ∧ Aside0 (OutAt wr base g (n + k))) ∧ Aside0 (intBlk wr gs l) ∧ Aside0 (BK base w wr))
 case atStart => exact ⟨0, rfl, Nat.zero_le _, by omega, ⟨0, by omega, H⟩, HS, ⟨BK.refl _ _⟩⟩
 case round =>
  obtain ⟨i, rfl, hi, hik, ⟨k, hk, HO⟩, HSr, HB⟩ := hrel
  by_cases hlt : i < l.length
  ·have hi1 : i + 1 ≤ l.length := hlt
   have s0 := HSr.out.cell i hlt
   have hxm := HL.out l[i] (List.getElem_mem hlt)
   as_aux_lemma =>
    generalize l[i] = x at s0 hxm
    have hxu : 0 ≤ x ∧ x ≤ 9223372036854775807 := hxm
    have hcu : IntKind.u64.wrap x = x := by
     have : IntKind.u64.wrap x = x % 18446744073709551616 := rfl
     rw [this]; omega
    have ba := Zab (Below.refl _ wr) (.cells #[.int .u64 x] 30)
    have hnb := Zas wr (.cells #[.int .u64 x] 30)
    have HBA := Aside0.mk ba
    have HNB := Aside0.mk hnb
    have HOA := Aside0.mk (HO.out.below ba)
    have HBS := Aside0.mk (Nat.le_trans (Nat.le_trans hb HB.out.bel.size) ba.size)
    clear ba hnb
    go_wp2_with (fail)
    generalize wr.alloc (.cells #[.int .u64 x] 30) = W2 at HBA HNB HOA HBS ⊢
    generalize hwz : wr.heap.size = wz at HNB ⊢
    have hv := ZdG base g (n + k) wz x (by omega) W2 HOA.out HBS.out HNB.out (by omega)
    refine hv.mono ?_
    clear hv
    rintro e w4 ⟨k4, rfl, hk4, ho4, hb4⟩
    have HB4 := Aside0.mk ((HB.out.trans (BK.of_below HBA.out (Nat.le_trans hb HB.out.bel.size))).trans hb4)
    have HO4 := Aside0.mk ho4
    have HS4 := Aside0.mk (show intBlk w4 gs l from hb4.kept gs _ _ (by decide) (by decide) (Zag HSr.out HBA.out))
    clear ho4 hb4
    go_wp2_with (fail)
    go_roundg (gk - 1)
    case measure => omega
    case rel => exact ⟨i + 1, by go_num, hi1, by omega, ⟨k + k4, by omega, ⟨by rw [← Nat.add_assoc]; exact HO4.out⟩⟩, HS4, HB4⟩
  ·have hil : i = l.length := by omega
   subst hil
   as_aux_lemma =>
    go_wp2_with (fail)
    go_end0
    exact ⟨k, rfl, hk, HO.out, HB.out⟩
theorem byted_some : ∀ (d k i : Nat) (x : Int), i + d = 8 → d < k → ∃ r, Za3.l0 k x (i : Int) = some r
 | 0, k, i, x, h, hk => by
  obtain ⟨q, rfl⟩ : ∃ q, k = q + 1 := ⟨k - 1, by omega⟩
  refine ⟨x, ?_⟩
  unfold Za3.l0
  rw [if_neg (by omega)]
 | d + 1, k, i, x, h, hk => by
  obtain ⟨q, rfl⟩ : ∃ q, k = q + 1 := ⟨k - 1, by omega⟩
  unfold Za3.l0 ZcR.f
  rw [if_pos (by omega), Option.bind_some, ZaH _ (by omega)]
  obtain ⟨r, hr⟩ := byted_some d q (i + 1) (Go.bits .xor .u32 (x / 2) (Go.bits .and .u32 2197175160 ((-(Go.bits .and .u32 x 1)) % 4294967296))) (by omega) (by omega)
  exact ⟨r, hr⟩
theorem byted_any (x a : Int) (w : World) : Calls Tryz.prog 180 #[.int .u32 x, .int .u8 a] w fun e w' => ∃ r, e = .returned (.int .u32 r) ∧ Below w.heap.size w w' := by
 obtain ⟨r, hr⟩ := byted_some 8 20 0 (Go.bits .xor .u32 x (a % 4294967296)) (by omega) (by omega)
 exact (Za3.calls 20 x a r w hr).mono fun e w' ⟨he, hd⟩ => ⟨r, he, hd.below⟩
set_option maxRecDepth 100000 in
set_option maxHeartbeats 4000000 in
theorem more_calls (x0 : Int) (gs : Nat) (ss : List ByteArray) (w : World) (hS : strBlk w gs ss) (hl : ss.length ≤ 1000) (hsz : ∀ s ∈ ss, s.size ≤ 1000000) :
  Calls Tryz.prog 152 #[.int .u32 x0, .slice (some ⟨gs, 0, none⟩) ss.length ss.length] w fun e w' => ∃ y, e = .returned (.int .u32 y) ∧ Below w.heap.size w w' := by
 have hu189 := Tryz.underlying189
 have hu193 := Tryz.underlying193
 have hu9 := Tryz.underlying9
 have hu5 := Tryz.underlying5
 have hu3 := Tryz.underlying3
 have hsg : IntKind.u32.signed = false := rfl
 have HS := Aside0.mk hS
 have HZ := Aside0.mk hsz
 clear hS hsz
 go_enter Tryz.func152, Tryz.ntmps152
 go_wp2_with (fail)
 go_loopg [5, 7, 8, 13] ss.length (fun kx v5 v7 v8 v13 wr => ∃ i : Nat, v13 = .int .i64 (i : Int) ∧ i ≤ ss.length ∧ ss.length - i ≤ kx ∧ (∃ x, v5 = .int .u32 x) ∧ Aside0 (Below w.heap.size w wr))
 case atStart => exact ⟨0, rfl, Nat.zero_le _, by omega, ⟨_, rfl⟩, ⟨Below.refl _ _⟩⟩
 case round =>
  obtain ⟨i, rfl, hi, hik, ⟨x, rfl⟩, HB⟩ := hrel
  by_cases hlt : i < ss.length
  ·have hi1 : i + 1 ≤ ss.length := hlt
   have s0 := Zam HB.out (HS.out.cell i hlt)
   have hys := HZ.out ss[i] (List.getElem_mem hlt)
   generalize ss[i] = y at s0 hys
   obtain ⟨gq, hgq⟩ : ∃ gq, gq = gk := ⟨_, rfl⟩
   subst hgq
   obtain ⟨wq, hwq⟩ : ∃ wq, wq = wr := ⟨_, rfl⟩
   subst hwq
   go_wp2_with (fail)
   go_loopg [5, 8, 19] y.size (fun kx v5 v8 v19 wr => ∃ j : Nat, v19 = .int .i64 (j : Int) ∧ j ≤ y.size ∧ y.size - j ≤ kx ∧ (∃ x, v5 = .int .u32 x) ∧ Aside0 (Below w.heap.size w wr))
   case atStart => exact ⟨0, rfl, Nat.zero_le _, by omega, ⟨_, rfl⟩, HB⟩
   case round =>
    obtain ⟨j, rfl, hj, hjk, ⟨x2, rfl⟩, HB2⟩ := hrel
    by_cases hlj : j < y.size
    ·have hj1 : j + 1 ≤ y.size := hlj
     as_aux_lemma =>
      go_wp2_with (fail)
      refine (byted_any _ _ _).mono ?_
      rintro e w4 ⟨r, rfl, hb4⟩
      have HB4 := Aside0.mk (Zae HB2.out hb4)
      clear hb4
      go_wp2_with (fail)
      go_roundg (gk - 1)
      case measure => omega
      case rel => exact ⟨j + 1, by go_num, hj1, by omega, ⟨_, rfl⟩, HB4⟩
    ·have hjl : j = y.size := by omega
     subst hjl
     as_aux_lemma =>
      go_wp2_with (fail)
      go_roundg (gq - 1)
      case measure => omega
      case rel => exact ⟨i + 1, by go_num, hi1, by omega, ⟨_, rfl⟩, HB2⟩
  ·have hil : i = ss.length := by omega
   subst hil
   as_aux_lemma =>
    go_wp2_with (fail)
    go_ret
    exact ⟨_, rfl, HB.out⟩
theorem sum_calls (gs : Nat) (ss : List ByteArray) (w : World) (hS : strBlk w gs ss) (hl : ss.length ≤ 1000) (hsz : ∀ s ∈ ss, s.size ≤ 1000000) :
  Calls Tryz.prog 125 #[.slice (some ⟨gs, 0, none⟩) ss.length ss.length] w fun e w' => ∃ y, e = .returned (.int .u32 y) ∧ Below w.heap.size w w' := by
 have HM := Aside0.mk (more_calls 0 gs ss w hS hl hsz)
 clear hS hsz
 go_enter Tryz.func125, Tryz.ntmps125
 go_wp2_with (fail)
 refine HM.out.mono ?_
 rintro e w2 ⟨y, rfl, hb⟩
 have HB := Aside0.mk hb
 clear hb HM
 go_wp2_with (fail)
 go_ret
 exact ⟨_, rfl, HB.out⟩
set_option maxRecDepth 100000 in
theorem seal_calls (s : ByteArray) (hs : s.size ≤ 900000) (w : World) : Calls Tryz.prog 92 #[.string s] w fun e w' => ∃ t : ByteArray, e = .returned (.string t) ∧ t.size = s.size + 4 ∧ Below w.heap.size w w' := by
 have hu189 := Tryz.underlying189
 have hu193 := Tryz.underlying193
 have hu9 := Tryz.underlying9
 have hu5 := Tryz.underlying5
 have hu76 := Tryz.underlying76
 have hu3 := Tryz.underlying3
 have ba := Zab (Below.refl _ w) (.cells #[.string s] 9)
 have hsum : Calls Tryz.prog 125 #[.slice (some ⟨w.heap.size, 0, none⟩) 1 1] (w.alloc (.cells #[.string s] 9)) _ := sum_calls w.heap.size [s] (w.alloc (.cells #[.string s] 9)) (Zas w _) (by simp) (by intro y hy; rw [List.mem_singleton.1 hy]; omega)
 have HSm := Aside0.mk hsum
 have HBA := Aside0.mk ba
 clear hsum ba
 go_enter Tryz.func92, Tryz.ntmps92
 go_wp2_with (fail)
 refine HSm.out.mono ?_
 rintro e w2 ⟨y, rfl, hb⟩
 have HB := Aside0.mk (Zae HBA.out hb)
 clear hb HSm
 have hnb := Zas w2 (.cells #[.int .u8 (y % 256), .int .u8 (y / 256 % 256), .int .u8 (y / 65536 % 256), .int .u8 (y / 16777216 % 256)] 5)
 have HB2 := Aside0.mk (Zae HB.out (Zab (Below.refl _ w2) (.cells #[.int .u8 (y % 256), .int .u8 (y / 256 % 256), .int .u8 (y / 65536 % 256), .int .u8 (y / 16777216 % 256)] 5)))
 have hC : (Kd.int .u8).C (w2.alloc (.cells #[.int .u8 (y % 256), .int .u8 (y / 256 % 256), .int .u8 (y / 65536 % 256), .int .u8 (y / 16777216 % 256)] 5)) (some ⟨w2.heap.size, 0, none⟩) 4 [y % 256, y / 256 % 256, y / 65536 % 256, y / 16777216 % 256] := by
  refine ⟨rfl, by simp, fun _ => ⟨_, rfl, fun j p hj => ⟨[.int .u8 p], rfl, rfl, fun i u hu => ?_⟩⟩⟩
  match i, hu with
  | 0, hu =>
   cases hu
   rw [Za9, Zaa hnb]
   match j, hj with
   | 0, hj => cases hj; rfl
   | 1, hj => cases hj; rfl
   | 2, hj => cases hj; rfl
   | 3, hj => cases hj; rfl
 have hcv := Kd.C_string (P := Tryz.prog) (src := 76) (dst := 9) (c := 4) hu76 hu5 hu9 hC
 have HSZ := Aside0.mk (show (strOfNums [y % 256, y / 256 % 256, y / 65536 % 256, y / 16777216 % 256]).size = 4 by rw [strOfNums_size]; rfl)
 clear hnb hC
 generalize strOfNums [y % 256, y / 256 % 256, y / 65536 % 256, y / 16777216 % 256] = t at hcv HSZ
 have hlim : ¬ 9223372036854775807 < s.size + t.size := by have := HSZ.out; omega
 go_wp2_with (fail)
 go_ret
 exact ⟨s ++ t, rfl, by rw [ByteArray.size_append, HSZ.out], HB2.out⟩
set_option maxRecDepth 100000 in
set_option maxHeartbeats 4000000 in
theorem text_calls (base g n gs : Nat) (s : ByteArray) (w : World) (h : OutAt w base g n) (hb : base ≤ w.heap.size) (hS : strBlk w gs [s]) (hn : n + s.size ≤ 800000) :
  Calls Tryz.prog 91 #[.pointer (some ⟨g, 0, none⟩), .slice (some ⟨gs, 0, none⟩) 1 1] w fun e w' => ∃ k, e = .returned (.tuple #[]) ∧ k ≤ 9 ∧ OutAt w' base g (n + k + s.size) ∧ BK base w w' := by
 have hu162 := Tryz.underlying162
 have hu189 := Tryz.underlying189
 have hu214 := Tryz.underlying214
 have hu30 := Tryz.underlying30
 have hu9 := Tryz.underlying9
 have hu3 := Tryz.underlying3
 have H := Aside0.mk h
 have s0 : w.cell? ⟨gs, 0, none⟩ = some (.string s) := hS.cell 0 (by simp)
 have HS0 := Aside0.mk s0
 have hcu : IntKind.u64.wrap (s.size : Int) = (s.size : Int) := by
  have : IntKind.u64.wrap (s.size : Int) = (s.size : Int) % 18446744073709551616 := rfl
  rw [this]; omega
 clear h hS s0
 go_enter Tryz.func91, Tryz.ntmps91
 go_wp2_with (fail)
 go_loopg [5, 8] 1 (fun kx v5 v8 wr => ∃ i : Nat, v8 = .int .i64 (i : Int) ∧ i ≤ 1 ∧ 1 - i ≤ kx ∧ (i = 0 → wr = w) ∧ (i = 1 → ∃ k, k ≤ 9 ∧ OutAt wr base g (n + k + s.size)) ∧ Aside0 (BK base w wr))
 case atStart => exact ⟨0, rfl, by omega, by omega, fun _ => rfl, fun h => absurd h (by decide), ⟨BK.refl _ _⟩⟩
 case round =>
  obtain ⟨i, rfl, hi, hik, hw, hO, HB⟩ := hrel
  by_cases hlt : i = 0
  ·have hwr := hw hlt
   subst hlt
   subst hwr
   clear hw hO
   have s0 := HS0.out
   have ba := Zab (Below.refl _ wr) (.cells #[.int .u64 (s.size : Int)] 30)
   have hnb := Zas wr (.cells #[.int .u64 (s.size : Int)] 30)
   have HBA := Aside0.mk ba
   have hv := ZdG base g n wr.heap.size (s.size : Int) (by omega) _ (H.out.below ba) (Nat.le_trans hb ba.size) hnb (by omega)
   have HV := Aside0.mk hv
   clear ba hnb hv
   as_aux_lemma =>
    go_wp2_with (fail)
    refine HV.out.mono ?_
    rintro e w4 ⟨k4, rfl, hk4, ho4, hb4⟩
    have HB4 := Aside0.mk ((BK.of_below HBA.out hb).trans hb4)
    have ba4 := Zab (Below.refl _ w4) (.cells #[.string s] 9)
    have hBS := Nat.le_trans (Nat.le_trans hb HB4.out.bel.size) ba4.size
    have hrw : Calls Tryz.prog 88 #[.pointer (some ⟨g, 0, none⟩), .slice (some ⟨w4.heap.size, 0, none⟩) 1 1] (w4.alloc (.cells #[.string s] 9)) _ := ZdR base g (n + k4) w4.heap.size [s] (w4.alloc (.cells #[.string s] 9)) (ho4.below ba4) hBS (Zas w4 _) (by show n + k4 + (s.size + 0) ≤ _; omega) (by simp)
    have HRW := Aside0.mk hrw
    have HB5 := Aside0.mk (HB4.out.trans (BK.of_below ba4 (Nat.le_trans hb HB4.out.bel.size)))
    clear ho4 hb4 ba4 hBS hrw HV
    go_wp2_with (fail)
    refine HRW.out.mono ?_
    rintro e w6 ⟨rfl, ho6, hb6⟩
    have HB6 := Aside0.mk (HB5.out.trans hb6)
    have HO6 := Aside0.mk (show OutAt w6 base g (n + k4 + s.size) from ho6)
    clear ho6 hb6 HRW
    go_wp2_with (fail)
    go_roundg (gk - 1)
    case measure => omega
    case rel => exact ⟨1, by go_num, by omega, by omega, fun h => absurd h (by decide), fun _ => ⟨k4, hk4, HO6.out⟩, HB6⟩
  ·have hi1 : i = 1 := by omega
   have hO2 := Aside0.mk (hO hi1)
   subst hi1
   clear hO hw
   as_aux_lemma =>
    go_wp2_with (fail)
    go_end0
    obtain ⟨k, hk, ho⟩ := hO2.out
    exact ⟨k, rfl, hk, ho, HB.out⟩
end Go.Proofs.YtpfnaknmalojkaaGreat.PTopRows
