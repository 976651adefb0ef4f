/- maps.Clone at rows, live.New, Table.Add: told once. Conditions: what each theorem says. -/
import Derived.Test.YtcjeegomonegpaaLv1
import Derived.Shelf.SlMaps.Clone
namespace Go.Proofs.Ytcjeegomonegpaa.PLivePlays
open Go.RowKit Go.Maps Go.Proofs.YtcjeegomonegpaaW.PrintWords Go.Proofs.YtcjeegomonegpaaW.PrintLast Go.Proofs.YtcjeegomonegpaaW.PrintMore
set_option linter.unusedVariables false
set_option linter.unusedSimpArgs false
set_option maxRecDepth 100000 in
set_option maxHeartbeats 2000000 in
theorem clone_run (b : Nat) (es : Array MapEntry) (clock : Nat) (w : World) (hb : w.heap[b]? = some (.map es clock)) :
    Calls Try.prog 50 #[.map (some b)] w fun e w' => e = .returned (.map (some w.heap.size)) ∧ w' = w.alloc (.map es clock) := by
  have hq := fun w => run_eql_map_nil_sl (P := Try.prog) w 77 _ _ (some b) Try.underlying77
  go_enter Try.func50, Try.ntmps50
  go_wp2
  rw [run_callFunc_extern Try.func64 (by kernel_rfl) (by kernel_rfl) (by kernel_rfl) (e := Extern.MapsClone.clone) (by kernel_rfl), run_maps_clone_sl w 77 hb]
  simp only [Result.andThen]
  rw [Oper.upon_value]
  go_wp2
  rw [run_typeAssert_map_sl _ 77 20 _ _ _ Try.underlying77]
  simp only [Result.andThen]
  rw [Oper.upon_value]
  go_wp2
  go_ret
  exact ⟨rfl, rfl⟩
theorem clone_calls (b N : Nat) (T : List S23) (w : World) (h : TMap w b N T) :
    Calls Try.prog 50 #[.map (some b)] w fun e w' => e = .returned (.map (some w.heap.size)) ∧ TMap w' w.heap.size N T ∧ Below w.heap.size w w' := by
  obtain ⟨h0, D, ⟨es, clock, hb, F, hs, hD⟩, h1⟩ := h
  refine (clone_run b es clock w hb).mono fun e w' ⟨he, hw⟩ => ?_
  subst hw
  exact ⟨he, ⟨h0, D, ⟨es, clock, (MapKept.heap_alloc w _).1, F, hs, hD⟩, h1⟩, (Below.refl _ w).alloc (Nat.le_refl _) _⟩
/-- The table at block g has the rows T. -/
def Tb (w : World) (g N : Nat) (T : List S23) : Prop := ∃ b, w.heap[g]? = some (.cells #[.map (some b)] 79 (0, 0)) ∧ TMap w b N T
theorem Tb.below {w w' : World} {g N : Nat} {T : List S23} (h : Tb w g N T) (hb : Below w.heap.size w w') : Tb w' g N T := by
  obtain ⟨b, h1, h2⟩ := h
  exact ⟨b, blk_below h1 hb, h2.below hb⟩
theorem Tb.lt {w : World} {g N : Nat} {T : List S23} (h : Tb w g N T) : g < w.heap.size := by
  obtain ⟨b, h1, h2⟩ := h
  exact blk_lt h1
theorem new_calls (w : World) : Calls Try.prog 19 #[] w fun e w' => ∃ g, e = .returned (.pointer (some ⟨g, 0, none⟩)) ∧ w.heap.size ≤ g ∧ Tb w' g 0 [] ∧ Below w.heap.size w w' := by
  have hmm := @run_makeMap Try.prog
  go_enter Try.func19, Try.ntmps19
  go_wp2
  go_ret
  refine ⟨_, rfl, by simp, ⟨w.heap.size, (by have h := blk_new (w.alloc (Obj.map #[] 0)) (.cells #[.map (some w.heap.size)] 79); rwa [World.size_alloc] at h), ?_⟩, below_alloc (below_alloc (Below.refl _ _) _) _⟩
  exact TMap.below ⟨by simp, _, World.ownsMap_made w Try.prog 3 rowR, MapOf.nil⟩ (below_alloc (Below.refl _ _) _)
/-- 'm[x.Seq] = x'. -/
theorem wp_put {ops : Array Oper} {rest : List Oper} {o : Oper} {a : Act} {Q : Exit → Act → World → Prop} {W : World} {b N : Nat} {T : List S23} (hg : o.guard = none) (m x v : Operand) (hop : o.op = Op.mapUpdate 77 m x v)
    (hT : TMap W b N T) (hN : N < 1000000) (X : S23) (hX : MayR X) (hm : a.eval m = .map (some b)) (hx : a.eval x = .int .i64 X.f0) (hv : a.eval v = rowV X)
    (hK : ∀ w', TMap w' b (N + 1) (putT X T) → W.grownBy w' (some b) → wpList Try.prog ops Q rest (a.put o.dst undef) w') : wpList Try.prog ops Q (o :: rest) a W := by
  obtain ⟨h0, D, hown, hD⟩ := hT
  refine wpList_mapUpdate_own W hg m x v 77 hop 3 23 keyed3 Try.underlying77 rowR b N D hm hown (by unfold maxLen; omega) _ _ _ hx hv (key_row hX) (rowD X) [] (rowR_mk X) fun w' h1 h2 => ?_
  refine hK w' ⟨?_, _, h1, hD.put hX ?_⟩ h2
  · have := putT_len X T
    omega
  · exact hown.isMap
/-- Rows into rows; none: a number is there already. -/
def addAll : List S23 → List S23 → Option (List S23)
  | T, [] => some T
  | T, x :: l => match findT T x.f0 with
    | some _ => none
    | none => addAll (putT x T) l
/-- What Add leaves and answers. -/
def addR (T l : List S23) : List S23 × Int := if l.any (fun x => !decide (MayR x)) then (T, 1) else match addAll T l with
  | none => (T, 16)
  | some T' => (T', 0)
theorem Tb.mono {w : World} {g N M : Nat} {T : List S23} (h : Tb w g N T) (hM : N ≤ M) : Tb w g M T := by
  obtain ⟨b, h1, h2⟩ := h
  exact ⟨b, h1, h2.mono hM⟩
theorem grown_of_below {w w' : World} (h : Below w.heap.size w w') (row : Option Nat) : w.grownBy w' row := ⟨h.os, h.tape, h.output, h.size, fun k hk _ => h.block k hk⟩
theorem grown_set (w : World) (g i : Nat) (v : Value) : w.grownBy (w.setCell ⟨g, i, none⟩ v) (some g) := ⟨rfl, rfl, rfl, by simp [World.setCell], fun k hk hne => Below.heap_setCell w ⟨g, i, none⟩ v k (fun e => hne (by rw [e]))⟩
theorem grown_trans {a b c : World} {row row' : Option Nat} (h : a.grownBy b row) (k : b.grownBy c row') (hr : ∀ j, row' = some j → a.heap.size ≤ j ∨ row = some j) : a.grownBy c row := h.andThen k hr
theorem drop_cons {l : List S23} {k : Nat} (h : k < l.length) : l.drop k = l[k] :: l.drop (k + 1) := List.drop_eq_getElem_cons h
set_option maxRecDepth 100000 in
set_option maxHeartbeats 2000000 in
theorem add_calls (g N : Nat) (T : List S23) (A : Option Addr) (c : Nat) (l : List S23) (w : World) (hT : Tb w g N T) (hr : Kd.C k23 w A l.length l) (hN : N + l.length < 1000000) :
    Calls Try.prog 26 #[.pointer (some ⟨g, 0, none⟩), .slice A l.length c] w fun e w' => e = .returned (.int .i64 (addR T l).2) ∧ Tb w' g (N + l.length) (addR T l).1 ∧ w.grownBy w' (some g) := by
  have HR := Aside0.mk hr
  have HT := Aside0.mk hT
  have hmx : l.length ≤ 9223372036854775807 := hr.2.1
  have HC := fun W h => contains_calls 48 #[] (fun x => !decide (MayR x)) A c l W h (enters_of Try.func48 (by kernel_rfl) rfl) (fun W x _ => bad_calls x W)
  have HC := Aside0.mk HC
  clear hr hT
  by_cases hany : l.any (fun x => !decide (MayR x)) = true
  · have HA := Aside0.mk hany
    have hc := HC.out w HR.out
    rw [hany] at hc
    clear hany HC
    go_enter Try.func26, Try.ntmps26
    go_wp2_with (go_at_call 47; refine hc.mono ?_; rintro e w' ⟨rfl, hb⟩)
    go_ret
    have e1 : addR T l = (T, 1) := by unfold addR; rw [if_pos HA.out]
    rw [e1]
    obtain ⟨b, q1, q2⟩ := HT.out.below hb
    exact ⟨rfl, ⟨b, q1, q2.mono (by omega)⟩, hb.os, hb.tape, hb.output, hb.size, fun k hk _ => hb.block k hk⟩
  · have hany : l.any (fun x => !decide (MayR x)) = false := by simpa using hany
    have HA := Aside0.mk hany
    have hc := HC.out w HR.out
    rw [hany] at hc
    clear hany HC
    have hu77 := Try.underlying77
    have hu79 := Try.underlying79
    have hu23 := Try.underlying23
    obtain ⟨b0, hg0, hT0⟩ := HT.out
    have z0 := blk_lt hg0
    go_enter Try.func26, Try.ntmps26
    go_wp2_with (fail)
    refine hc.mono ?_
    rintro e w1 ⟨rfl, hb1⟩
    have hg1 := blk_below hg0 hb1
    have hT1 := hT0.below hb1
    have HB1 := Aside0.mk hb1
    have z1 := blk_lt hg1
    have c0 : w1.cell? ⟨g, 0, none⟩ = some (.map (some b0)) := (blk_cell hg1 0).trans rfl
    clear hg0 hT0 hb1
    have hcl := clone_calls b0 N T w1 hT1
    go_wp2_with (fail)
    refine hcl.mono ?_
    rintro e w2 ⟨rfl, hT2, hb2⟩
    have HB2 := Aside0.mk (below_step HB1.out hb2)
    have HG2 := Aside0.mk (blk_below hg1 hb2)
    have HS := Aside0.mk HB1.out.size
    have HT2 := Aside0.mk hT2
    clear hT2 hb2 hcl hT1 c0 hg1
    generalize w1.heap.size = b2 at HT2 z1 HS ⊢
    go_wp2_with (fail)
    go_loopw [21] (fun v21 wr => ∃ (k : Nat) (T' : List S23), k ≤ l.length ∧ v21 = .int .i64 k ∧ Aside0 (Below w.heap.size w wr) ∧ Aside0 (TMap wr b2 (N + k) T') ∧ Aside0 (addAll T l = addAll T' (l.drop k))) (fun v21 _ => l.length - (intOf v21).toNat)
    case atStart => exact ⟨0, T, Nat.zero_le _, rfl, ⟨HB2.out⟩, ⟨HT2.out⟩, ⟨by simp⟩⟩
    case round =>
      as_aux_lemma =>
        clear HB2 HG2 HT2
        obtain ⟨k, T', hk, rfl, HB, HM, HE⟩ := hrel
        by_cases hlt : k < l.length
        · have hk1 : k + 1 ≤ l.length := hlt
          obtain ⟨ad, rfl, h0, h1, h2⟩ := row_cells (Kd.C_below HR.out HB.out) k hlt
          have hd := HE.out
          rw [drop_cons hlt] at hd
          have hmay : MayR l[k] := by
            have := List.any_eq_false.1 HA.out l[k] (List.getElem_mem hlt)
            simpa using this
          generalize l[k] = x at h0 h1 h2 hd hmay
          have HD := Aside0.mk hd
          have HX := Aside0.mk hmay
          have hwf : (Lit.int .i64 x.f0).wf = true := wf_of (by have := hmay.1; omega) (by have := hmay.2.1; omega)
          clear hd hmay HE
          obtain ⟨x0, x1, x2⟩ := x
          simp only at h0 h1 h2 hwf
          have hl := TMap.look (HM.out.below (below_alloc (Below.refl _ _) (.cells #[.int .i64 x0, .int .i64 x1, .int .i64 x2] 23))) hwf
          cases hq : findT T' x0 with
          | some y =>
            as_aux_lemma =>
              rw [hq] at hl
              simp only [rowV, Option.getD_some, Option.isSome_some] at hl
              go_wp2_with (fail)
              go_ret
              have e1 : addR T l = (T, 16) := by
                have : addAll T l = none := by
                  rw [HD.out]
                  unfold addAll
                  rw [hq]
                unfold addR
                rw [if_neg (by rw [HA.out]; simp), this]
              rw [e1]
              have hb := below_alloc (below_alloc HB.out (.cells #[.int .i64 x0, .int .i64 x1, .int .i64 x2] 23)) (.cells #[.int .i64 y.f0, .int .i64 y.f1, .int .i64 y.f2] 23)
              exact ⟨rfl, (HT.out.below hb).mono (by omega), grown_of_below hb _⟩
          | none =>
            as_aux_lemma =>
              rw [hq] at hl
              simp only [rowV, Option.getD_none, Option.isSome_none] at hl
              have hT5 := HM.out.below (below_alloc (below_alloc (Below.refl _ _) (.cells #[.int .i64 x0, .int .i64 x1, .int .i64 x2] 23)) (.cells #[.int .i64 0, .int .i64 0, .int .i64 0] 23))
              go_wp2_with (at_mapUpdate; refine wp_put rfl _ _ _ rfl hT5 (by omega) ⟨x0, x1, x2⟩ HX.out rfl rfl rfl ?_; intro w6 hT6 hg6)
              have hb := below_alloc (below_alloc HB.out (.cells #[.int .i64 x0, .int .i64 x1, .int .i64 x2] 23)) (.cells #[.int .i64 0, .int .i64 0, .int .i64 0] 23)
              refine ⟨⟨k + 1, putT ⟨x0, x1, x2⟩ T', hk1, by go_num, ⟨hb.grown hg6 hb.size (fun j hj => by obtain rfl := Option.some.inj hj; exact HS.out)⟩, ⟨hT6.mono (by omega)⟩, ⟨?_⟩⟩, by simp [intOf]; omega⟩
              rw [HD.out]
              conv => lhs; unfold addAll
              rw [hq]
        · have : k = l.length := by omega
          subst this
          obtain ⟨b9, hg9, -⟩ := HT.out
          have hg3 := blk_below hg9 HB.out
          have f3 := blk_frozen hg3 0
          have c3 : wr.cell? ⟨g, 0, none⟩ = some (.map (some b9)) := (blk_cell hg3 0).trans rfl
          go_wp2_with (fail)
          go_ret
          have hAA : addAll T l = some T' := by
            rw [HE.out, List.drop_length]
            rfl
          have e1 : addR T l = (T', 0) := by
            unfold addR
            rw [if_neg (by rw [HA.out]; simp), hAA]
          rw [e1]
          have hgr : wr.grownBy (wr.setCell ⟨g, 0, none⟩ (.map (some b2))) (some g) := grown_set _ _ _ _
          have hne : b2 ≠ g := by have := HS.out; omega
          refine ⟨rfl, ⟨b2, by simpa using blk_set hg3 0 (.map (some b2)), HM.out.kept hgr (fun e => hne (Option.some.inj e))⟩, grown_trans (grown_of_below HB.out (some g)) hgr (fun j hj => .inr hj)⟩
end Go.Proofs.Ytcjeegomonegpaa.PLivePlays
