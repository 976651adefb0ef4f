/- slices.SortStableFunc at fewer than 20 rows, with the order that Victims hands in. Conditions: what each theorem says. -/
import Derived.Test.YtcjeegomonegpaaLv7
namespace Go.Proofs.Ytcjeegomonegpaa.PLivePlays
open Go.RowKit Go.Maps Go.Sort Go.Proofs.YtcjeegomonegpaaW.PrintWords Go.Proofs.YtcjeegomonegpaaW.PrintLast Go.Proofs.YtcjeegomonegpaaW.PrintMore
set_option linter.unusedVariables false
set_option linter.unusedSimpArgs false
section
variable (P : S23 → Prop) [DecidablePred P] (z : S23)
/-- A row that P holds of, or z. -/
def fixR (x : S23) : S23 := if P x then x else z
def encP (x : S23) : List Value := rowL (fixR P z x)
def cmpQ (x y : S23) : Int := cmpP (fixR P z x) (fixR P z y)
variable {P z}
theorem fixR_of {x : S23} (h : P x) : fixR P z x = x := if_pos h
theorem fixR_ok (hz : P z) (x : S23) : P (fixR P z x) := by
  unfold fixR
  split
  · assumption
  · exact hz
theorem holds_encP {w : World} {g o : Nat} {l : List S23} (hl : ∀ x ∈ l, P x) : HoldsK (encP P z) 3 w g o l.toArray ↔ HoldsK rowL 3 w g o l.toArray := by
  have e : flatK (encP P z) 3 l.toArray = flatK rowL 3 l.toArray := by
    refine ext_get! (by simp) fun t ht => ?_
    have ht' : t < l.length * 3 := by simpa using ht
    rw [get_flatK _ _ _ _ (by simpa using ht'), get_flatK _ _ _ _ (by simpa using ht'), arr_bang _ _ (by omega)]
    unfold encP
    rw [fixR_of (hl _ (List.getElem_mem _))]
  unfold HoldsK
  rw [e]
theorem cmpLaysQ (hz : P z) (hP : ∀ x, P x → PartOk x) (blk off size : Nat) (w : World) : CmpLays Try.prog 43 #[] (encP P z) 3 (cmpQ P z) blk off size w := fun _ _ _ _ x y =>
  less_calls (fixR P z x) (fixR P z y) (hP _ (fixR_ok hz x)) (hP _ (fixR_ok hz y)) _
set_option maxHeartbeats 1000000 in
theorem insert_holds (hz : P z) (hP : ∀ x, P x → PartOk x) (hS : SWO (ltOf (cmpQ P z))) (g o cap : Nat) (l : List S23) (hl : ∀ x ∈ l, P x) (w : World) (hH : HoldsK rowL 3 w g o l.toArray) (hg : g < w.heap.size) (hn : l.length ≤ 1000000) :
    Calls Try.prog 67 #[.slice (some ⟨g, o, none⟩) l.length cap, .int .i64 0, .int .i64 (l.length : Int), .func (.func 43) #[] #[]] w fun e w' => e = .returned (.tuple #[]) ∧ ∃ l' : List S23, l'.Perm l ∧ l'.Pairwise (fun x y => ltOf (cmpQ P z) y x = false) ∧ HoldsK rowL 3 w' g o l'.toArray ∧ w.grownBy w' (some g) := by
  have eg : ∀ args w, (callFunc 43 args).run Try.prog w = .ok (.enter 43 args) w := enters_of Try.func43 (by kernel_rfl) rfl
  have hcon := AnyQ.insertionSortCmpFunc insertRow 3 Try.isAgg23 Try.sizeOf23 (encP P z) (fun _ => rfl) (fun x => rowL_one _) (cmpQ P z) 43 #[] g o cap 0 l.length l.toArray w eg (cmpLaysQ hz hP g o l.toArray.size w) ((holds_encP hl).2 hH) hg (Nat.zero_le _) (by simp) (by simp; omega)
  change Calls Try.prog 67 _ _ _ at hcon
  rw [List.size_toArray] at hcon
  refine hcon.mono fun e w' ⟨he, n, os, hw⟩ => ⟨he, (Sort.insertionSort (ltOf (cmpQ P z)) l.toArray 0 l.length).toList, ?_⟩
  obtain ⟨hp, hs⟩ := insertionSort_holds (lt := ltOf (cmpQ P z)) hS l.toArray 0 l.length (Nat.zero_le _) (by simp)
  generalize Sort.insertionSort (ltOf (cmpQ P z)) l.toArray 0 l.length = d' at hp hs hw
  have hperm : d'.toList.Perm l := by
    obtain ⟨h1, h2, h3⟩ := hp
    have e1 : d'.extract 0 l.toArray.size = d' := by rw [← h1]; simp
    have e2 : l.toArray.extract 0 l.toArray.size = l.toArray := by simp
    rw [List.size_toArray] at e1 e2
    rw [e1, e2] at h3
    exact h3
  refine ⟨hperm, ?_, ?_, ?_⟩
  · rw [List.pairwise_iff_getElem]
    intro i j hi hj hij
    have h1 := hs i j (Nat.zero_le _) hij (by have := hp.1; simp at this hj; omega)
    have hj' : j < d'.size := by simpa using hj
    have hi' : i < d'.size := by simpa using hi
    rw [getElem!_pos d' j hj', getElem!_pos d' i hi'] at h1
    simpa using h1
  · subst hw
    have := holdsK_sortWorldK_c (encP P z) 3 w g o l.toArray d' n os ((holds_encP hl).2 hH) hg (by have := hp.1; simpa using this)
    have h2 : HoldsK (encP P z) 3 (sortWorldK (encP P z) 3 w g o n d' os) g o d'.toList.toArray := by simpa using this
    exact (holds_encP (fun x hx => hl x (hperm.subset hx))).1 h2
  · subst hw
    have e : sortWorldK (encP P z) 3 w g o n d' os = sortWorldK rowL 3 w g o n d' os := by
      unfold sortWorldK putRowK
      congr 2
      have h := hperm
      refine ext_get! (by simp) fun t ht => ?_
      have ht' : t < d'.size * 3 := by simpa using ht
      rw [get_flatK _ _ _ _ ht', get_flatK _ _ _ _ ht']
      have hi : t / 3 < d'.size := by omega
      rw [getElem!_pos d' (t / 3) hi]
      unfold encP
      rw [fixR_of (hl _ (hperm.subset (by rw [Array.mem_toList_iff]; exact Array.getElem_mem hi)))]
    rw [e]
    exact grown_sortK g o n l d' os w
set_option maxHeartbeats 1000000 in
theorem stable_calls (hz : P z) (hP : ∀ x, P x → PartOk x) (hS : SWO (ltOf (cmpQ P z))) (g o cap : Nat) (l : List S23) (hl : ∀ x ∈ l, P x) (w : World) (hH : HoldsK rowL 3 w g o l.toArray) (hg : g < w.heap.size) (hn : l.length < 20) :
    Calls Try.prog 42 #[.slice (some ⟨g, o, none⟩) l.length cap, .func (.func 43) #[] #[]] w fun e w' => e = .returned (.tuple #[]) ∧ ∃ l' : List S23, l'.Perm l ∧ l'.Pairwise (fun x y => ltOf (cmpQ P z) y x = false) ∧ HoldsK rowL 3 w' g o l'.toArray ∧ w.grownBy w' (some g) := by
  have HI := Aside0.mk (insert_holds hz hP hS g o cap l hl w hH hg (by omega))
  have h60 : Calls Try.prog 60 #[.slice (some ⟨g, o, none⟩) l.length cap, .int .i64 (l.length : Int), .func (.func 43) #[] #[]] w fun e w' => e = .returned (.tuple #[]) ∧ Aside0 (∃ l' : List S23, l'.Perm l ∧ l'.Pairwise (fun x y => ltOf (cmpQ P z) y x = false) ∧ HoldsK rowL 3 w' g o l'.toArray ∧ w.grownBy w' (some g)) := by
    clear hH hl
    have hne : ¬ (20 : Int) ≤ (l.length : Int) := by omega
    have hne2 : ¬ (20 : Int) < (l.length : Int) := by omega
    go_enter Try.func60, Try.ntmps60
    go_wp2
    refine wp_loop_rounds 1 ?_
    rw [rounds_succ]
    go_wp2_with (fail)
    refine HI.out.mono ?_
    rintro e w' ⟨rfl, h⟩
    have H := Aside0.mk h
    clear h
    go_wp2_with (fail)
    refine wp_loop_rounds 1 ?_
    rw [rounds_succ]
    go_wp2_with (fail)
    go_end0
    exact ⟨rfl, H⟩
  clear HI hH hl
  go_enter Try.func42, Try.ntmps42
  go_wp2_with (fail)
  refine h60.mono ?_
  rintro e w' ⟨rfl, H⟩
  go_wp2_with (fail)
  go_end0
  exact ⟨rfl, H.out⟩
end
end Go.Proofs.Ytcjeegomonegpaa.PLivePlays
