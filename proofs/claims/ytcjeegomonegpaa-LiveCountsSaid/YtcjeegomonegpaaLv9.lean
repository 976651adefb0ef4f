/- Table.Victims of a table of fewer than 20 rows. Conditions: what each theorem says. -/
import Derived.Test.YtcjeegomonegpaaLv8
namespace Go.Proofs.Ytcjeegomonegpaa.PLivePlays
open Go.RowKit Go.Maps Go.Sort Go.Proofs.YtcjeegomonegpaaW.PrintWords Go.Proofs.YtcjeegomonegpaaW.PrintLast Go.Proofs.YtcjeegomonegpaaW.PrintMore
set_option linter.unusedVariables false
set_option linter.unusedSimpArgs false
theorem infoI : (Try.prog.info? 3).map (fun i => (i.zero, i.size, i.bytes)) = some (some (.int .i64 0), 1, 8) := by kernel_rfl
def seqsV (l : List S23) : List Value := l.map fun x => .int .i64 x.f0
theorem seqs_step {l : List S23} {k : Nat} (h : k < l.length) : seqsV (l.take (k + 1)) = seqsV (l.take k) ++ [.int .i64 l[k].f0] := by
  unfold seqsV
  rw [List.take_add_one, List.getElem?_eq_getElem h, List.map_append]
  rfl
section
variable {P : S23 → Prop} [DecidablePred P] {z : S23}
set_option maxRecDepth 100000 in
set_option maxHeartbeats 4000000 in
theorem victims_calls (hz : P z) (hP : ∀ x, P x → PartOk x) (hS : SWO (ltOf (cmpQ P z))) (g N : Nat) (hN : N ≤ 1000000) (T : List S23) (hT0 : T ≠ []) (hTP : ∀ x ∈ T, P x) (hTn : T.length < 20) (pct : Int) (w : World) (hT : Tb w g N T) :
    Calls Try.prog 22 #[.pointer (some ⟨g, 0, none⟩), .int .i64 pct] w fun e w' => ∃ v l', e = .returned v ∧ l'.Perm (T.filter fun x => !dead pct x) ∧ l'.Pairwise (fun x y => ltOf (cmpQ P z) y x = false) ∧ w'.ownsRow w.heap.size 3 1 v l'.length (seqsV l') ∧ Below w.heap.size w w' := by
  have hu28 := Try.underlying28
  have hu23 := Try.underlying23
  have hu3 := Try.underlying3
  have hu47 := Try.underlying47
  obtain ⟨i0, hi0, hz0, hz1, hz2⟩ := info_parts infoI
  have HR := Aside0.mk (rows_calls g N hN T hT0 (w.alloc (.cells #[.int .i64 pct] 3)) (hT.below (below_alloc (Below.refl _ _) _)))
  have HBp := Aside0.mk (Boxed.new w 3 (.int .i64 pct))
  have HBw := Aside0.mk (below_alloc (Below.refl w.heap.size w) (.cells #[.int .i64 pct] 3))
  have HSz := Aside0.mk (World.size_alloc w (.cells #[.int .i64 pct] 3))
  clear hT
  go_enter Try.func22, Try.ntmps22
  go_wp2_with (fail)
  generalize (w.alloc (.cells #[.int .i64 pct] 3)) = wa at HR HBp HBw HSz ⊢
  refine HR.out.mono ?_
  rintro e w1 ⟨v, rfl, hv, hb1⟩
  rcases hv with ⟨-, h0⟩ | ⟨gs, o, cap, rfl, hgs, hgl, hcap, hh⟩
  · exact absurd h0 hT0
  have HB1 := Aside0.mk (below_step HBw.out hb1)
  have HD := Aside0.mk (delete_calls pct w.heap.size gs o cap T w1 hh hgl (by have := HSz.out; omega) (blk_below HBp.out hb1) (by omega) hcap)
  have HGS := Aside0.mk (show w.heap.size ≤ gs by have := HSz.out; omega)
  have HGL := Aside0.mk hgl
  clear hh hb1 hgs hgl hcap
  go_wp2_with (fail)
  refine HD.out.mono ?_
  rintro e w2 ⟨rfl, hh2, hg2⟩
  have hlen := List.length_filter_le (fun x => !dead pct x) T
  have hmem : ∀ x ∈ T.filter (fun x => !dead pct x), P x := fun x hx => hTP x (List.mem_filter.1 hx).1
  have HW1 := Aside0.mk (rfl : (T.filter fun x => !dead pct x) = T.filter fun x => !dead pct x)
  generalize hF : (T.filter fun x => !dead pct x) = F at hh2 hlen hmem ⊢
  clear HW1 HD
  have HL := Aside0.mk hlen
  have HSt := Aside0.mk (stable_calls hz hP hS gs o cap F hmem w2 hh2 (Nat.lt_of_lt_of_le HGL.out hg2.size) (by omega))
  have HB2 := Aside0.mk (HB1.out.grown hg2 HB1.out.size (fun j hj => by obtain rfl := Option.some.inj hj; exact HGS.out))
  have HGL2 := Aside0.mk (Nat.lt_of_lt_of_le HGL.out hg2.size)
  have HF := Aside0.mk hF
  clear hh2 hg2 HB1 HGL hmem hlen hF
  go_wp2_with (fail)
  refine HSt.out.mono ?_
  rintro e w3 ⟨rfl, l', hp3, hs3, hh3, hg3⟩
  have HP3 := Aside0.mk hp3
  have HS3 := Aside0.mk hs3
  have HH3 := Aside0.mk hh3
  have HB3 := Aside0.mk (HB2.out.grown hg3 HB2.out.size (fun j hj => by obtain rfl := Option.some.inj hj; exact HGS.out))
  have HGL3 := Aside0.mk (Nat.lt_of_lt_of_le HGL2.out hg3.size)
  have hfl : F.length = l'.length := hp3.length_eq.symm
  have hl20 : l'.length < 20 := by have := HL.out; omega
  rw [hfl]
  clear hp3 hs3 hh3 hg3 HB2 HSt HGL2 hfl
  go_wp2_with (fail)
  go_loopw [6, 17] (fun v6 v17 wr => ∃ k : Nat, k ≤ l'.length ∧ v17 = .int .i64 k ∧ Aside0 (wr.ownsRow w3.heap.size 3 1 v6 k (seqsV (l'.take k))) ∧ Aside0 (Below w3.heap.size w3 wr)) (fun _ v17 _ => l'.length - (intOf v17).toNat)
  case atStart => exact ⟨0, Nat.zero_le _, rfl, ⟨World.ownsRow_nil _ _ _ _⟩, ⟨Below.refl _ _⟩⟩
  case round =>
    as_aux_lemma =>
      obtain ⟨k, hk, rfl, HO, HB⟩ := hrel
      by_cases hlt : k < l'.length
      · have hk1 : k + 1 ≤ l'.length := hlt
        have hh := holds_below HH3.out HB.out HGL3.out
        obtain ⟨⟨c0, c1, c2⟩, -⟩ := three_cells hh hlt
        clear hh
        generalize hx : l'[k] = x at c0 c1 c2
        have HX := Aside0.mk hx
        clear hx
        obtain ⟨x0, x1, x2⟩ := x
        simp only at c0 c1 c2
        have hown := HO.out.alloc (.cells #[.int .i64 x0, .int .i64 x1, .int .i64 x2] 23)
        have hbs := HB.out.size
        have hown2 := hown.alloc (.cells #[.int .i64 x0] 3)
        have hsz2 : (wr.alloc (.cells #[.int .i64 x0, .int .i64 x1, .int .i64 x2] 23)).heap.size = wr.heap.size + 1 := World.size_alloc _ _
        have hnw := cell_one_new (wr.alloc (.cells #[.int .i64 x0, .int .i64 x1, .int .i64 x2] 23)) (.int .i64 x0) 3
        rw [hsz2] at hnw
        have HBa := Aside0.mk (below_alloc HB.out (.cells #[.int .i64 x0, .int .i64 x1, .int .i64 x2] 23))
        go_wp2_with (at_builtin; refine wpList_append_own _ rfl _ _ 47 rfl w3.heap.size 3 i0 (.int .i64 0) 1 8 Try.underlying47 hi0 hz0 hz1 hz2 rfl (by decide) _ k _ rfl hown2 ⟨wr.heap.size + 1, 0, none⟩ 1 1 [.int .i64 x0] rfl rfl hnw (by simp [Value.oneCell']) (by unfold maxLen; omega) (by omega) (by simp; omega) ?_; intro v' w5 hown' hgrow _)
        have hB4 := below_alloc HBa.out (.cells #[.int .i64 x0] 3)
        refine ⟨⟨k + 1, hk1, by go_num, ⟨?_⟩, ⟨hB4.grown hgrow hB4.size (fun j hj => own_base hown2 j hj)⟩⟩, by simp [intOf]; omega⟩
        rw [seqs_step hlt, HX.out]
        exact hown'
      · have : k = l'.length := by omega
        subst this
        go_wp2_with (fail)
        go_ret
        refine ⟨_, l', rfl, by rw [HF.out]; exact HP3.out, HS3.out, ?_, ?_⟩
        · have h := own_weaken HO.out HB3.out.size
          rw [List.take_length] at h
          exact h
        · exact below_step HB3.out HB.out
end
end Go.Proofs.Ytcjeegomonegpaa.PLivePlays
