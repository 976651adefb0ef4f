/- The sort of a map's rows by their numbers: SortedFunc, Table.Rows: told once. Conditions: what each theorem says. -/
import Derived.Test.YtcjeegomonegpaaLv6
import Derived.Test.YtcjeegomonegpaaLv4
import Derived.Test.YtcjeegomonegpaaLay
import Derived.Test.YtcjeegomonegpaaPLivePlaysx2
import Derived.Shelf.SlSortCmp.WholeK
namespace Go.Proofs.Ytcjeegomonegpaa.PLivePlays
open Go.RowKit Go.Maps Go.Sort Go.Proofs.YtcjeegomonegpaaW.PrintWords Go.Proofs.YtcjeegomonegpaaW.PrintLast Go.Proofs.YtcjeegomonegpaaW.PrintMore
set_option linter.unusedVariables false
set_option linter.unusedSimpArgs false
/-- The order by numbers. -/
def cmpS (x y : S23) : Int := if x.f0 < y.f0 then -1 else if x.f0 > y.f0 then 1 else 0
theorem cmpS_f (x y : S23) : cmp_Compare_int.f x.f0 y.f0 = some (cmpS x y) := by
  unfold cmp_Compare_int.f cmp_isNaN_int.f cmpS
  by_cases h1 : x.f0 < y.f0
  · simp [h1]
  · by_cases h2 : x.f0 > y.f0
    · simp [h1, h2]
    · simp [h1, h2]
theorem ltS (x y : S23) : ltOf cmpS x y = decide (x.f0 < y.f0) := by
  unfold ltOf cmpS
  by_cases h1 : x.f0 < y.f0
  · simp [h1]
  · by_cases h2 : x.f0 > y.f0 <;> simp [h1, h2]
theorem swoS : SWO (ltOf cmpS) where
  irrefl x := by rw [ltS]; simp
  trans x y z h1 h2 := by rw [ltS] at *; simp at *; omega
  ntrans x y z h1 h2 := by rw [ltS] at *; simp at *; omega
theorem bySeq_calls (x y : S23) (W : World) : Calls Try.prog 33 #[.agg #[.int .i64 x.f0, .int .i64 x.f1, .int .i64 x.f2], .agg #[.int .i64 y.f0, .int .i64 y.f1, .int .i64 y.f2]] W fun e w' => e = .returned (.int .i64 (cmpS x y)) ∧ GrowOf W w' := by
  have hcon := fun W => cmp_Compare_int.calls x.f0 y.f0 (cmpS x y) W (cmpS_f x y)
  generalize cmpS x y = r at hcon ⊢
  obtain ⟨x0, x1, x2⟩ := x
  obtain ⟨y0, y1, y2⟩ := y
  simp only at hcon ⊢
  have hu23 := Try.underlying23
  go_enter Try.func33, Try.ntmps33
  go_wp2_with (fail)
  refine (hcon _).mono ?_
  rintro e w' ⟨rfl, ⟨n, rfl⟩⟩
  go_wp2_with (fail)
  go_ret
  exact ⟨rfl, n, #[.cells #[.int .i64 x0, .int .i64 x1, .int .i64 x2] 23, .cells #[.int .i64 y0, .int .i64 y1, .int .i64 y2] 23], by rw [alloc_eq_grow, alloc_eq_grow, grow_grow]; rfl⟩
theorem cmpLaysS (blk off size : Nat) (w : World) : CmpLays Try.prog 33 #[] rowL 3 cmpS blk off size w := fun _ _ _ _ x y => bySeq_calls x y _
theorem grown_sortK (g o n : Nat) (l : List S23) (d' : Array S23) (os : Array Obj) (w : World) : w.grownBy (sortWorldK rowL 3 w g o n d' os) (some g) := by
  unfold sortWorldK putRowK
  refine ⟨rfl, rfl, rfl, by simp [grow, Sort.ahead], fun k hk hne => ?_⟩
  have hkg : k ≠ g := fun e => hne (by rw [e])
  show ((putRow id (Sort.ahead w n) g o (flatK rowL 3 d')).heap ++ os)[k]? = _
  rw [Array.getElem?_append_left (by simp; exact hk)]
  have : g ≠ k := fun e => hkg e.symm
  simp [putRow, mapBlock, Sort.ahead, Array.getElem?_modify, this]
set_option maxHeartbeats 1000000 in
/-- slices.SortFunc by numbers. -/
theorem sort_holds (g o cap : Nat) (l : List S23) (w : World) (hH : HoldsK rowL 3 w g o l.toArray) (hg : g < w.heap.size) (hl : l.length ≤ 1000000) :
    Calls Try.prog 32 #[.slice (some ⟨g, o, none⟩) l.length cap, .func (.func 33) #[] #[]] w fun e w' => e = .returned (.tuple #[]) ∧ ∃ l' : List S23, l'.Perm l ∧ l'.Pairwise (fun x y => ¬ y.f0 < x.f0) ∧ HoldsK rowL 3 w' g o l'.toArray ∧ w.grownBy w' (some g) := by
  have eg : ∀ args w, (callFunc 33 args).run Try.prog w = .ok (.enter 33 args) w := enters_of Try.func33 (by kernel_rfl) rfl
  have hcon := AnyQ.slices_SortFunc sortRow 3 Try.isAgg23 Try.sizeOf23 rowL (fun _ => rfl) rowL_one cmpS swoS 33 #[] g o cap l.toArray w eg (cmpLaysS g o l.toArray.size w) hH hg (by simp; omega)
  change Calls Try.prog 32 _ _ _ at hcon
  rw [List.size_toArray] at hcon
  refine hcon.mono fun e w' ⟨he, d', n, os, hp, hs, hw⟩ => ⟨he, d'.toList, ?_, ?_, ?_, ?_⟩
  · obtain ⟨h1, h2, h3⟩ := hp
    have e1 : d'.extract 0 l.toArray.size = d' := by rw [← h1]; simp
    have e2 : l.toArray.extract 0 l.toArray.size = l.toArray := by simp
    rw [List.size_toArray] at e1 e2
    rw [e1, e2] at h3
    exact h3
  · rw [List.pairwise_iff_getElem]
    intro i j hi hj hij
    have h1 := hs i j (Nat.zero_le _) hij (by have := hp.1; simp at this hj; omega)
    rw [ltS] at h1
    have hj' : j < d'.size := by simpa using hj
    have hi' : i < d'.size := by simpa using hi
    rw [getElem!_pos d' j hj', getElem!_pos d' i hi'] at h1
    simpa using h1
  · subst hw
    have := holdsK_sortWorldK_c rowL 3 w g o l.toArray d' n os hH hg (by have := hp.1; simpa using this)
    simpa using this
  · subst hw
    exact grown_sortK g o n l d' os w
theorem sorted_eq : ∀ {l T : List S23}, l.Perm T → l.Pairwise (fun x y => x.f0 < y.f0) → T.Pairwise (fun x y => x.f0 < y.f0) → l = T
  | [], T, hp, _, _ => by rw [hp.nil_eq]
  | a :: l, [], hp, _, _ => absurd hp.eq_nil (by simp)
  | a :: l, b :: T, hp, h1, h2 => by
    obtain ⟨q1, q2⟩ := List.pairwise_cons.1 h1
    obtain ⟨r1, r2⟩ := List.pairwise_cons.1 h2
    have hab : a = b := by
      rcases List.mem_cons.1 (hp.subset (List.mem_cons_self (a := a) (l := l))) with e | e
      · exact e
      · rcases List.mem_cons.1 (hp.symm.subset (List.mem_cons_self (a := b) (l := T))) with e' | e'
        · exact e'.symm
        · have := r1 a e
          have := q1 b e'
          omega
    subst hab
    rw [sorted_eq (List.perm_cons a |>.1 hp) q2 r2]
theorem sorted_uniq {l T : List S23} (hp : l.Perm T) (hl : l.Pairwise (fun x y => ¬ y.f0 < x.f0)) (hT : T.Pairwise (fun x y => x.f0 < y.f0)) : l = T := by
  have h1 : l.Pairwise (fun x y => x.f0 ≠ y.f0) := (hp.pairwise_iff (fun {_ _} h => Ne.symm h)).2 (hT.imp (fun h => by omega))
  refine sorted_eq hp ?_ hT
  exact List.Pairwise.imp₂ (fun _ _ h1 h2 => by omega) hl h1
set_option maxHeartbeats 1000000 in
theorem sortedfunc_calls (b N : Nat) (hN : N ≤ 1000000) (T : List S23) (hT0 : T ≠ []) (w : World) (Bm : Nat) (hm : w.heap[Bm]? = some (.cells #[.map (some b)] 77 (0, 0))) (hT : TMap w b N T) :
    Calls Try.prog 45 #[.func (.func 63) #[] #[.pointer (some ⟨Bm, 0, none⟩)], .func (.func 33) #[] #[]] w fun e w' => ∃ v, e = .returned v ∧ SlR w' w.heap.size v T ∧ Below w.heap.size w w' := by
  have hTl : T.length ≤ N := hT.1
  have hTs : T.Pairwise (fun x y => x.f0 < y.f0) := by obtain ⟨_, D, _, h⟩ := hT; exact h.1
  have HC := collect_calls b N hN T w Bm hm hT
  clear hT hm
  go_enter Try.func45, Try.ntmps45
  go_wp2_with (fail)
  refine HC.mono ?_
  rintro e w1 ⟨xs, v, rfl, hp, hown, hb⟩
  have hxl : xs.length = T.length := hp.length_eq
  rcases SlR.of_own hown with ⟨-, h0⟩ | ⟨gs, o, cap, rfl, hgs, hgl, hcap, hh⟩
  · subst h0
    exact absurd hp.nil_eq.symm hT0
  · have HS := Aside0.mk (sort_holds gs o cap xs w1 hh hgl (by omega))
    have HXL := Aside0.mk hxl
    clear hown hh hxl
    go_wp2_with (fail)
    refine HS.out.mono ?_
    rintro e w2 ⟨rfl, l', hp2, hs2, hh2, hg2⟩
    go_wp2_with (fail)
    go_ret
    have e1 : l' = T := sorted_uniq (hp2.trans hp) (hs2.imp (fun h => by omega)) hTs
    subst e1
    exact ⟨_, rfl, .inr ⟨gs, o, cap, by first | rfl | (rw [HXL.out]; rfl), hgs, Nat.lt_of_lt_of_le hgl hg2.size, by rw [← HXL.out]; exact hcap, hh2⟩, hb.grown hg2 hb.size (fun j hj => by obtain rfl := Option.some.inj hj; exact hgs)⟩
theorem rows_calls (g N : Nat) (hN : N ≤ 1000000) (T : List S23) (hT0 : T ≠ []) (w : World) (hT : Tb w g N T) :
    Calls Try.prog 25 #[.pointer (some ⟨g, 0, none⟩)] w fun e w' => ∃ v, e = .returned v ∧ SlR w' w.heap.size v T ∧ Below w.heap.size w w' := by
  obtain ⟨b, hg, hM⟩ := hT
  have hu77 := Try.underlying77
  have hu79 := Try.underlying79
  have c0 : w.cell? ⟨g, 0, none⟩ = some (.map (some b)) := (blk_cell hg 0).trans rfl
  have hS := sortedfunc_calls b N hN T hT0 (w.alloc (.cells #[.map (some b)] 77)) w.heap.size (blk_new w _) (hM.below (below_alloc (Below.refl _ _) _))
  go_enter Try.func25, Try.ntmps25
  go_wp2_with (fail)
  refine (val_plain _ _).mono ?_
  rintro e w' ⟨rfl, rfl⟩
  go_wp2_with (fail)
  refine hS.mono ?_
  rintro e w' ⟨v, rfl, hv, hb⟩
  go_wp2_with (fail)
  go_ret
  have hsz : (w.alloc (.cells #[.map (some b)] 77)).heap.size = w.heap.size + 1 := World.size_alloc _ _
  refine ⟨_, rfl, ?_, below_step (below_alloc (Below.refl _ _) _) hb⟩
  rcases hv with h | ⟨gs, o, cap, h1, h2, h3⟩
  · exact .inl h
  · exact .inr ⟨gs, o, cap, h1, by omega, h3⟩
end Go.Proofs.Ytcjeegomonegpaa.PLivePlays
