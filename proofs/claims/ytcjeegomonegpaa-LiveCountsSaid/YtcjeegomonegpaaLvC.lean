/- live.counted: how many sectors of each object extents have, told once. Conditions: what each theorem says. -/
import Derived.Test.YtcjeegomonegpaaLv7
import Derived.Test.YtcjeegomonegpaaPLivePlaysx3
import Derived.IntWalk
namespace Go.Proofs.Ytcjeegomonegpaa.PLivePlays
open Go.RowKit Go.Maps Go.Sort Go.Proofs.YtcjeegomonegpaaW.PrintWords Go.Proofs.YtcjeegomonegpaaW.PrintLast Go.Proofs.YtcjeegomonegpaaW.PrintMore
set_option linter.unusedVariables false
set_option linter.unusedSimpArgs false
noncomputable abbrev intR : Value → Option (DataW Unit × List MemPlace) := plainElem Try.prog 3
def numD (n : Int) : DataW Unit := .lit (.int .i64 n)
/-- A count that may be. -/
def CntR (x : S23) : Prop := 1 ≤ x.f0 ∧ x.f0 < 1099511627776 ∧ 0 ≤ x.f1 ∧ x.f1 ≤ 1000000000 ∧ x.f2 = x.f1
theorem key_cnt {x : S23} (h : CntR x) : keyOf Try.prog 3 (.int .i64 x.f0) = some (.int .i64 x.f0) := keyOf_int_mk Try.underlying3 (wf_of (by have := h.1; omega) (by have := h.2.1; omega))
/-- D is the counts T by their numbers. -/
def CntOf (D : DataW Unit) (T : List S23) : Prop :=
  T.Pairwise (fun x y => x.f0 < y.f0) ∧ (∀ x ∈ T, CntR x) ∧ (∀ kl, Maps.has D kl = true ↔ ∃ x ∈ T, kl = .int .i64 x.f0) ∧ ∀ x ∈ T, ∀ zd, D.atKey (.int .i64 x.f0) zd = numD x.f1
def CMap (w : World) (b N : Nat) (T : List S23) : Prop := T.length ≤ N ∧ ∃ D, w.ownsMap Try.prog 3 intR b N D ∧ CntOf D T
theorem CntOf.nil : CntOf (.map []) [] := ⟨List.Pairwise.nil, by simp, fun kl => by simp [Maps.has], by simp⟩
theorem CMap.lt {w : World} {b N : Nat} {T : List S23} (h : CMap w b N T) : b < w.heap.size := by
  obtain ⟨_, D, h, _⟩ := h
  exact h.lt
theorem CMap.kept {w w' : World} {b N : Nat} {T : List S23} {row : Option Nat} (h : CMap w b N T) (hg : w.grownBy w' row) (hne : some b ≠ row) : CMap w' b N T := by
  obtain ⟨h0, D, h, h1⟩ := h
  exact ⟨h0, D, h.kept hg hne, h1⟩
theorem CMap.mono {w : World} {b N M : Nat} {T : List S23} (h : CMap w b N T) (hM : N ≤ M) : CMap w b M T := by
  obtain ⟨h0, D, h, h1⟩ := h
  exact ⟨by omega, D, h.mono hM, h1⟩
theorem CMap.below {w w' : World} {b N : Nat} {T : List S23} (h : CMap w b N T) (hb : Below w.heap.size w w') : CMap w' b N T := h.kept (grown_of_below hb none) (by simp)
theorem CntOf.put {D : DataW Unit} {T : List S23} {x : S23} (h : CntOf D T) (hx : CntR x) (hm : IsMap D) : CntOf (D.put (.int .i64 x.f0) (numD x.f1)) (putT x T) := by
  obtain ⟨h1, h2, h3, h4⟩ := h
  have hk : WideAt.IsKeyLit (.int .i64 x.f0) := keyed3.key (key_cnt hx)
  refine ⟨putT_sorted h1, fun z hz => ?_, fun kl => ?_, fun z hz zd => ?_⟩
  · rcases (mem_putT h1).1 hz with rfl | ⟨hz, _⟩
    · exact hx
    · exact h2 z hz
  · by_cases he : kl = .int .i64 x.f0
    · subst he
      rw [has_put_same hm hk]
      simp only [true_iff]
      exact ⟨x, (mem_putT h1).2 (.inl rfl), rfl⟩
    · rw [has_put_other he, h3]
      constructor
      · rintro ⟨z, hz, rfl⟩
        exact ⟨z, (mem_putT h1).2 (.inr ⟨hz, fun e => he (by rw [e])⟩), rfl⟩
      · rintro ⟨z, hz, rfl⟩
        rcases (mem_putT h1).1 hz with rfl | ⟨hz, _⟩
        · exact absurd rfl he
        · exact ⟨z, hz, rfl⟩
  · rcases (mem_putT h1).1 hz with rfl | ⟨hz, hne⟩
    · exact atKey_put_same hm hk _ _
    · rw [atKey_put_other (by simpa using hne)]
      exact h4 z hz zd
/-- What the counts say of a number. -/
def valT (T : List S23) (k : Int) : Int := ((findT T k).map (·.f1)).getD 0
theorem CntOf.has_iff {D : DataW Unit} {T : List S23} (h : CntOf D T) (k : Int) : Maps.has D (.int .i64 k) = (findT T k).isSome := by
  cases hf : findT T k with
  | some x =>
    obtain ⟨hx, rfl⟩ := findT_some hf
    rw [(h.2.2.1 _).2 ⟨x, hx, rfl⟩]
    rfl
  | none =>
    have hn := findT_none hf
    cases hh : Maps.has D (.int .i64 k) with
    | false => rfl
    | true =>
      obtain ⟨x, hx, e⟩ := (h.2.2.1 _).1 hh
      injection e with _ e
      exact absurd e.symm (hn x hx)
theorem zero3c (w : World) : (zeroValue 3).run Try.prog w = .ok (.int .i64 0) w := Try.zeroValue3 w
/-- 'm[k]'. -/
theorem CMap.look {w : World} {b N : Nat} {T : List S23} {k : Int} (h : CMap w b N T) (hk : (Lit.int .i64 k).wf = true) :
    (Instr.lookup 70 (.map (some b)) (.int .i64 k) false).run Try.prog w = .ok (.int .i64 (valT T k)) w := by
  obtain ⟨_, D, h, hm⟩ := h
  obtain ⟨c, hrun, hat, hwc⟩ := h.lookup_int keyed3 Try.underlying70 Try.underlying3 (zero3c w) (keyOf_int_mk Try.underlying3 hk)
  refine hrun.trans ?_
  have hc : c = valT T k := ?_
  · rw [hc]
  unfold valT
  cases hf : findT T k with
  | some x =>
    obtain ⟨hx, rfl⟩ := findT_some hf
    rw [hm.2.2.2 x hx] at hat
    simp [numD] at hat
    simpa using hat.symm
  | none =>
    have hh : Maps.has D (.int .i64 k) = false := by rw [hm.has_iff, hf]; rfl
    rw [atKey_of_not_has hh] at hat
    simp at hat
    simpa using hat.symm
/-- 'm[x.Seq] = n'. -/
theorem wp_putC {ops : Array Oper} {rest : List Oper} {o : Oper} {a : Act} {Q : Exit → Act → World → Prop} {W : World} {b N : Nat} {T : List S23} (hg : o.guard = none) (m x v : Operand) (hop : o.op = Op.mapUpdate 70 m x v)
    (hT : CMap W b N T) (hN : N < 1000000) (X : S23) (hX : CntR X) (hm : a.eval m = .map (some b)) (hx : a.eval x = .int .i64 X.f0) (hv : a.eval v = .int .i64 X.f1)
    (hK : ∀ w', CMap w' b (N + 1) (putT X T) → W.grownBy w' (some b) → wpList Try.prog ops Q rest (a.put o.dst undef) w') : wpList Try.prog ops Q (o :: rest) a W := by
  obtain ⟨h0, D, hown, hD⟩ := hT
  have hwf : (Lit.int .i64 X.f1).wf = true := wf_of (by have := hX.2.2.1; omega) (by have := hX.2.2.2.1; omega)
  refine wpList_mapUpdate_own W hg m x v 70 hop 3 3 keyed3 Try.underlying70 intR b N D hm hown (by unfold maxLen; omega) _ _ _ hx hv (key_cnt hX) (numD X.f1) [] (plainElem_int Try.underlying3 hwf) fun w' h1 h2 => ?_
  refine hK w' ⟨?_, _, h1, hD.put hX hown.isMap⟩ h2
  have := putT_len X T
  omega
/-- An extent that may be. -/
def MayE (x : S66) : Prop := 0 ≤ x.f0.f0 ∧ 1 ≤ x.f0.f1 ∧ x.f0.f0 + x.f0.f1 ≤ 65536 ∧ 0 ≤ x.f1.f0 ∧ x.f1.f0 < 1099511627776 ∧ 0 ≤ x.f1.f1 ∧ x.f1.f1 < 1099511627776
instance (x : S66) : Decidable (MayE x) := by unfold MayE; infer_instance
theorem mayE_f (x : S66) : extmap_May.f x.f0.f0 x.f0.f1 x.f1.f0 x.f1.f1 = some (if MayE x then 0 else 1) := by
  unfold extmap_May.f span_May.f extmap_place.f
  by_cases h1 : x.f0.f0 < 0
  · simp [h1]
    unfold MayE
    omega
  · by_cases h2 : x.f0.f0 > 65536
    · simp [h1, h2]
      unfold MayE
      omega
    · have hw : wrap64 (65536 - x.f0.f0) = 65536 - x.f0.f0 := by unfold wrap64; omega
      rw [hw]
      by_cases h3 : x.f0.f1 < 1
      · simp [h1, h2, h3]
        unfold MayE
        omega
      · by_cases h4 : x.f0.f1 > 65536 - x.f0.f0
        · simp [h1, h2, h3, h4]
          unfold MayE
          omega
        · by_cases h5 : x.f1.f0 ≥ 0
          · by_cases h6 : x.f1.f0 < 1099511627776
            · by_cases h7 : x.f1.f1 ≥ 0
              · by_cases h8 : x.f1.f1 < 1099511627776
                · simp [h1, h2, h3, h4, h5, h6, h7, h8]
                  unfold MayE
                  omega
                · simp [h1, h2, h3, h4, h5, h6, h7, h8]
                  unfold MayE
                  omega
              · simp [h1, h2, h3, h4, h5, h6, h7]
                unfold MayE
                omega
            · simp [h1, h2, h3, h4, h5, h6]
              unfold MayE
              omega
          · simp [h1, h2, h3, h4, h5]
            unfold MayE
            omega
/-- One extent more in the counts. -/
def addE (T : List S23) (x : S66) : List S23 := if x.f1.f0 = 0 then T else putT ⟨x.f1.f0, valT T x.f1.f0 + x.f0.f1, valT T x.f1.f0 + x.f0.f1⟩ T
/-- The counts of extents. -/
def cntE : List S23 → List S66 → List S23
  | T, [] => T
  | T, x :: l => cntE (addE T x) l
theorem rd_T66_get {l : List S66} {k : Nat} (h : k < l.length) : rd_T66 l (k : Int) = l[k] := by
  unfold rd_T66
  rw [List.getD_eq_getElem?_getD, Int.toNat_natCast, List.getElem?_eq_getElem h]
  rfl
theorem ext_cells {w : World} {A : Option Addr} {l : List S66} (h : Kd.C k66 w A l.length l) (k : Nat) (hk : k < l.length) : ∃ ad, A = some ad ∧ w.cell? (ad.add (k * 4)) = some (.int .i64 l[k].f0.f0) ∧ w.cell? ⟨(ad.add (k * 4)).block, (ad.add (k * 4)).off + 1, none⟩ = some (.int .i64 l[k].f0.f1) ∧ w.cell? ⟨(ad.add (k * 4)).block, (ad.add (k * 4)).off + 2, none⟩ = some (.int .i64 l[k].f1.f0) ∧ w.cell? ⟨(ad.add (k * 4)).block, (ad.add (k * 4)).off + 3, none⟩ = some (.int .i64 l[k].f1.f1) := by
  obtain ⟨ad, e, h0, h1, h2, h3⟩ := at_T66 h (k : Int) (by omega) (by omega)
  rw [rd_T66_get hk, Int.toNat_natCast] at h0 h1 h2 h3
  exact ⟨ad, e, h0, h1, h2, h3⟩
theorem drop_cons66 {l : List S66} {k : Nat} (h : k < l.length) : l.drop k = l[k] :: l.drop (k + 1) := List.drop_eq_getElem_cons h
theorem valT_bound {T : List S23} {B : Int} (h : ∀ x ∈ T, 0 ≤ x.f1 ∧ x.f1 ≤ B) (hB : 0 ≤ B) (k : Int) : 0 ≤ valT T k ∧ valT T k ≤ B := by
  unfold valT
  cases hf : findT T k with
  | some x => simpa using h x (findT_some hf).1
  | none => simpa using hB
set_option maxRecDepth 100000 in
set_option maxHeartbeats 4000000 in
theorem counted_calls (A : Option Addr) (c : Nat) (l : List S66) (hl : l.length ≤ 40) (w : World) (hr : Kd.C k66 w A l.length l) :
    Calls Try.prog 31 #[.slice A l.length c] w fun e w' => Below w.heap.size w w' ∧
      (((∀ x ∈ l, MayE x) ∧ e = .returned (.tuple #[.map (some w.heap.size), .bool true]) ∧ CMap w' w.heap.size 40 (cntE [] l)) ∨ ((¬ ∀ x ∈ l, MayE x) ∧ e = .returned (.tuple #[.map none, .bool false]))) := by
  have HR := Aside0.mk hr
  clear hr
  have hmm := @run_makeMap Try.prog
  have hu70 := Try.underlying70
  have hu66 := Try.underlying66
  have hu62 := Try.underlying62
  have hu64 := Try.underlying64
  have hu3 := Try.underlying3
  have HM0 : Aside0 (CMap (w.alloc (.map #[] 0)) w.heap.size 0 []) := ⟨by simp, _, World.ownsMap_made w Try.prog 3 intR, CntOf.nil⟩
  have HB0 := Aside0.mk (below_alloc (Below.refl w.heap.size w) (.map #[] 0))
  go_enter Try.func31, Try.ntmps31
  go_wp2_with (fail)
  generalize (w.alloc (.map #[] 0)) = w1 at HM0 HB0 ⊢
  go_loopw [10] (fun v10 wr => ∃ (k : Nat) (T : List S23), k ≤ l.length ∧ v10 = .int .i64 k ∧ Aside0 (Below w.heap.size w wr) ∧ Aside0 (CMap wr w.heap.size k T) ∧ Aside0 (cntE [] l = cntE T (l.drop k)) ∧ Aside0 (∀ j (h : j < l.length), j < k → MayE l[j]) ∧ Aside0 (∀ x ∈ T, 0 ≤ x.f1 ∧ x.f1 ≤ 65536 * (k : Int))) (fun v10 _ => l.length - (intOf v10).toNat)
  case atStart => exact ⟨0, [], Nat.zero_le _, rfl, HB0, HM0, ⟨by simp⟩, ⟨fun j h hj => absurd hj (Nat.not_lt_zero _)⟩, ⟨by simp⟩⟩
  case round =>
    as_aux_lemma =>
      clear HM0 HB0
      obtain ⟨k, T, hk, rfl, HB, HM, HE, HA, HV⟩ := hrel
      by_cases hlt : k < l.length
      · have hk1 : k + 1 ≤ l.length := hlt
        obtain ⟨ad, rfl, c0, c1, c2, c3⟩ := ext_cells (Kd.C_below HR.out HB.out) k hlt
        have hcall := fun W => extmap_May.calls _ _ _ _ _ W (mayE_f l[k])
        generalize hx : l[k] = x at c0 c1 c2 c3 hcall
        have HX := Aside0.mk hx
        clear hx
        have hbx := Aside0.mk (blk_new wr (.cells #[.int .i64 x.f0.f0, .int .i64 x.f0.f1, .int .i64 x.f1.f0, .int .i64 x.f1.f1] 66))
        have HBa := Aside0.mk (below_alloc HB.out (.cells #[.int .i64 x.f0.f0, .int .i64 x.f0.f1, .int .i64 x.f1.f0, .int .i64 x.f1.f1] 66))
        have HMa := Aside0.mk (HM.out.below (below_alloc (Below.refl _ _) (.cells #[.int .i64 x.f0.f0, .int .i64 x.f0.f1, .int .i64 x.f1.f0, .int .i64 x.f1.f1] 66)))
        by_cases hm : MayE x
        · rw [if_pos hm] at hcall
          have HMx := Aside0.mk hm
          clear hm
          by_cases hz : x.f1.f0 = 0
          ·
            as_aux_lemma =>
              have hzb : (x.f1.f0 == 0) = true := by rw [hz]; rfl
              have HZ := Aside0.mk hz
              clear hz
              go_wp2_with (fail)
              refine (hcall _).mono ?_
              rintro e w2 ⟨rfl, hb2⟩
              have HB2 := Aside0.mk (below_step HBa.out hb2)
              have HM2 := Aside0.mk (HMa.out.below hb2)
              have bx := blk_below hbx.out hb2
              have k2 : w2.cell? ⟨wr.heap.size, 2, none⟩ = some (.int .i64 x.f1.f0) := (blk_cell bx 2).trans rfl
              clear hb2 bx c0 c1 c2 c3
              go_wp2_with (fail)
              refine ⟨⟨k + 1, T, hk1, by go_num, HB2, ⟨?_⟩, ⟨?_⟩, ⟨fun j h hj => ?_⟩, ⟨fun y hy => ?_⟩⟩, by simp [intOf]; omega⟩
              · exact HM2.out.mono (by omega)
              · rw [HE.out, drop_cons66 hlt, HX.out]
                show cntE (addE T x) _ = _
                unfold addE
                rw [if_pos HZ.out]
              · by_cases e : j = k
                · subst e
                  rw [HX.out]
                  exact HMx.out
                · exact HA.out j h (by omega)
              · have := HV.out y hy
                omega
          ·
            as_aux_lemma =>
              have hzb : (x.f1.f0 == 0) = false := by rw [beq_eq_false_iff_ne]; exact hz
              have HZ := Aside0.mk hz
              clear hz
              go_wp2_with (fail)
              refine (hcall _).mono ?_
              rintro e w2 ⟨rfl, hb2⟩
              have HB2 := Aside0.mk (below_step HBa.out hb2)
              have HM2 := Aside0.mk (HMa.out.below hb2)
              have bx := blk_below hbx.out hb2
              have k1 : w2.cell? ⟨wr.heap.size, 1, none⟩ = some (.int .i64 x.f0.f1) := (blk_cell bx 1).trans rfl
              have k2 : w2.cell? ⟨wr.heap.size, 2, none⟩ = some (.int .i64 x.f1.f0) := (blk_cell bx 2).trans rfl
              obtain ⟨m1, m2, m3, m4, m5, m6, m7⟩ := HMx.out
              have hlk := HM2.out.look (k := x.f1.f0) (wf_of (by omega) (by omega))
              obtain ⟨v1, v2⟩ := valT_bound (B := 65536 * (k : Int)) HV.out (by omega) x.f1.f0
              have hcn : CntR ⟨x.f1.f0, valT T x.f1.f0 + x.f0.f1, valT T x.f1.f0 + x.f0.f1⟩ := ⟨by have := HZ.out; simp only; omega, m5, by simp only; omega, by simp only; omega, rfl⟩
              have HCN := Aside0.mk hcn
              have hwr : IntKind.i64.wrap (valT T x.f1.f0 + x.f0.f1) = valT T x.f1.f0 + x.f0.f1 := IntWalk.i64_in _ (by omega)
              have hM2 := HM2.out
              clear hb2 bx c0 c1 c2 c3 hcn m1 m2 m3 m4 m5 m6 m7
              go_wp2_with (at_mapUpdate; go_loud (refine wp_putC rfl _ _ _ rfl hM2 (by omega) ⟨x.f1.f0, valT T x.f1.f0 + x.f0.f1, valT T x.f1.f0 + x.f0.f1⟩ HCN.out rfl rfl rfl ?_); intro w6 hT6 hg6)
              refine ⟨⟨k + 1, putT ⟨x.f1.f0, valT T x.f1.f0 + x.f0.f1, valT T x.f1.f0 + x.f0.f1⟩ T, hk1, by go_num, ⟨HB2.out.grown hg6 HB2.out.size (fun j hj => by obtain rfl := Option.some.inj hj; exact Nat.le_refl _)⟩, ⟨?_⟩, ⟨?_⟩, ⟨fun j h hj => ?_⟩, ⟨fun y hy => ?_⟩⟩, by simp [intOf]; omega⟩
              · exact hT6
              · rw [HE.out, drop_cons66 hlt, HX.out]
                show cntE (addE T x) _ = _
                unfold addE
                rw [if_neg HZ.out]
              · by_cases e : j = k
                · subst e
                  rw [HX.out]
                  exact HMx.out
                · exact HA.out j h (by omega)
              · have hs : T.Pairwise (fun x y => x.f0 < y.f0) := by obtain ⟨_, D, _, hD⟩ := HM.out; exact hD.1
                rcases (mem_putT hs).1 hy with rfl | ⟨hy, _⟩
                · have h1 := HMx.out.2.1
                  have h2 := HMx.out.1
                  have h3 := HMx.out.2.2.1
                  simp only
                  omega
                · have := HV.out y hy
                  omega
        ·
          as_aux_lemma =>
            rw [if_neg hm] at hcall
            have HMx := Aside0.mk hm
            clear hm
            go_wp2_with (fail)
            refine (hcall _).mono ?_
            rintro e w2 ⟨rfl, hb2⟩
            have HB2 := Aside0.mk (below_step HBa.out hb2)
            clear hb2 c0 c1 c2 c3
            go_wp2_with (fail)
            go_ret2
            exact ⟨HB2.out, .inr ⟨fun h => HMx.out (by rw [← HX.out]; exact h _ (List.getElem_mem hlt)), rfl⟩⟩
      · have : k = l.length := by omega
        subst this
        go_wp2_with (fail)
        go_ret2
        refine ⟨HB.out, .inl ⟨fun x hx => ?_, rfl, ?_⟩⟩
        · obtain ⟨j, hj, rfl⟩ := List.getElem_of_mem hx
          exact HA.out j hj hj
        · rw [HE.out, List.drop_length]
          exact HM.out.mono hl
end Go.Proofs.Ytcjeegomonegpaa.PLivePlays
