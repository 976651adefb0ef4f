/- What RingBack walks for a ring that may be and a list that it looks at. Conditions: what each theorem says. -/
import Derived.Test.YtkbohbelmgmlnaaBack1
import Derived.IntWalk
namespace Go.Proofs.Ytkbohbelmgmlnaa.PRingAsks
open Go.RowKit Go.Proofs.YtkbohbelmgmlnaaW.PrintWords Go.Proofs.YtkbohbelmgmlnaaW.PrintLast Go.Proofs.YtkbohbelmgmlnaaW.PrintMore
set_option linter.unusedVariables false
set_option linter.unusedSimpArgs false
/-- A list of spans in memory. -/
def SpR (W : World) (v : Value) (L : List S47) : Prop := (L = [] ∧ ∃ A c, v = .slice A 0 c) ∨ ∃ g cap cur, v = .slice (some ⟨g, 0, none⟩) L.length cap ∧ W.heap[g]? = some (.cells cur 47 (0, 0)) ∧ ∀ k x, L[k]? = some x → cur[2 * k]? = some (.int .i64 x.f0) ∧ cur[2 * k + 1]? = some (.int .i64 x.f1)
theorem spR_of {W : World} {base : Nat} {ok : Nat → Prop} {v : Value} {L : List S47} (h : Kd.R k47 47 W base ok v L) : SpR W v L := by
  cases L with
  | nil =>
    obtain ⟨S, k, rfl, _, _⟩ := Kd.R_reads h
    exact .inl ⟨rfl, _, _, rfl⟩
  | cons a L =>
    obtain ⟨S, k, hv, _, hC⟩ := Kd.R_reads h
    obtain ⟨h0, inner, hown, hr⟩ := h
    rcases hown.2 with ⟨_, hn⟩ | ⟨g, cap, cur, hv2, hb, hg, _⟩
    · simp at hn
    · rw [hv] at hv2
      injection hv2 with e1 e2 e3
      subst e1
      refine .inr ⟨g, cap, cur, by rw [hv, e3], hg, fun q x hx => ?_⟩
      have hq : q < (a :: L).length := (List.getElem?_eq_some_iff.1 hx).1
      obtain ⟨ad, e, h1, h2⟩ := at_T47 hC (q : Int) (by omega) (by omega)
      injection e with e
      subst e
      have hrd : rd_T47 (a :: L) (q : Int) = x := by
        have hh : (a :: L).getD q z47 = x := by rw [List.getD_eq_getElem?_getD, hx]; rfl
        exact hh
      rw [hrd] at h1 h2
      rw [Int.toNat_natCast, add_plain] at h1 h2
      rw [blk_cell hg] at h1
      rw [blk_cell hg] at h2
      rw [Nat.mul_comm] at h1 h2
      exact ⟨h1, h2⟩
theorem SpR.below {W W1 : World} {v : Value} {L : List S47} (h : SpR W v L) (hb : Below W.heap.size W W1) : SpR W1 v L := by
  rcases h with h | ⟨g, cap, cur, h1, h2, h3⟩
  · exact .inl h
  · exact .inr ⟨g, cap, cur, h1, blk_below h2 hb, h3⟩
theorem ne_types {W : World} {g k : Nat} {cs cs' : Array Value} {t t' : TypeId} {fr fr' : Nat × Nat} (h : W.heap[g]? = some (.cells cs t fr)) (h' : W.heap[k]? = some (.cells cs' t' fr')) (hne : t ≠ t') : g ≠ k := by
  rintro rfl
  rw [h] at h'
  injection h' with h'
  injection h' with _ ht
  exact hne ht
theorem SpR.grown {W W1 : World} {v : Value} {L : List S47} {row : Option Nat} (h : SpR W v L) (hg : W.grownBy W1 row) (hr : ∀ k, row = some k → ∃ cs t fr, W.heap[k]? = some (.cells cs t fr) ∧ t ≠ 47) : SpR W1 v L := by
  rcases h with h | ⟨g, cap, cur, h1, h2, h3⟩
  · exact .inl h
  · refine .inr ⟨g, cap, cur, h1, blk_grown h2 hg ?_, h3⟩
    intro e
    obtain ⟨cs, t, fr, h4, h5⟩ := hr g e.symm
    exact ne_types h4 h2 h5 rfl
theorem Tk.grown {W W1 : World} {base : Nat} {v : Value} {xs : List Int} {row : Option Nat} (h : Tk W base v xs) (hg : W.grownBy W1 row) (hr : ∀ k, row = some k → ∃ cs t fr, W.heap[k]? = some (.cells cs t fr) ∧ t ≠ 3) : Tk W1 base v xs := by
  rcases h with h | ⟨g, o, cap, cur, h1, h2, h3, h4⟩
  · exact .inl h
  · refine .inr ⟨g, o, cap, cur, h1, h2, blk_grown h3 hg ?_, h4⟩
    intro e
    obtain ⟨cs, t, fr, h5, h6⟩ := hr g e.symm
    exact ne_types h5 h3 h6 rfl
/-- The row of the list's own is of whole numbers, from base on. -/
theorem Tk.row {W : World} {base : Nat} {v : Value} {xs : List Int} (h : Tk W base v xs) (k : Nat) (hk : v.ownBlock = some k) : base ≤ k ∧ ∃ cs, W.heap[k]? = some (.cells cs 3 (0, 0)) := by
  rcases h with ⟨rfl, _⟩ | ⟨g, o, cap, cur, rfl, h2, h3, h4⟩
  · simp [Value.ownBlock] at hk
  · have : g = k := by simpa [Value.ownBlock] using hk
    subst this
    exact ⟨h2, _, h3⟩
theorem fwd {w W : World} {a : Addr} {v : Value} (h : Below w.heap.size w W) (hc : w.cell? a = some v) : W.cell? a = some v := pw_cell_below h hc
theorem set3 {W : World} {g : Nat} {a b c : Value} (x y z : Value) (h : W.heap[g]? = some (.cells #[a, b, c] 23 (0, 0))) :
    (((W.setCell ⟨g, 0, none⟩ x).setCell ⟨g, 1, none⟩ y).setCell ⟨g, 2, none⟩ z).heap[g]? = some (.cells #[x, y, z] 23 (0, 0)) ∧ W.grownBy (((W.setCell ⟨g, 0, none⟩ x).setCell ⟨g, 1, none⟩ y).setCell ⟨g, 2, none⟩ z) (some g) := by
  refine ⟨?_, rfl, rfl, rfl, by simp [World.setCell], fun k hk hne => ?_⟩
  · have h1 := blk_set (blk_set (blk_set h 0 x) 1 y) 2 z
    simpa using h1
  · have hk' : k ≠ g := fun e => hne (by rw [e])
    rw [Below.heap_setCell _ ⟨g, 2, none⟩ z k hk', Below.heap_setCell _ ⟨g, 1, none⟩ y k hk', Below.heap_setCell _ ⟨g, 0, none⟩ x k hk']
theorem some_row {W : World} {g t' : Nat} {a b c : Value} (h : W.heap[g]? = some (.cells #[a, b, c] 23 (0, 0))) (hn : 23 ≠ t') : ∀ k, some g = some k → ∃ cs t fr, W.heap[k]? = some (.cells cs t fr) ∧ t ≠ t' := fun k hk => by
  obtain rfl := Option.some.inj hk
  exact ⟨_, _, _, h, hn⟩
theorem SpR.shape {W : World} {v : Value} {L : List S47} (h : SpR W v L) : ∃ S k, v = .slice S L.length k := by
  rcases h with ⟨rfl, A, c, rfl⟩ | ⟨g, cap, cur, rfl, _⟩
  · exact ⟨_, _, rfl⟩
  · exact ⟨_, _, rfl⟩
theorem SpR.cell {W : World} {S : Option Addr} {n c : Nat} {L : List S47} (h : SpR W (.slice S n c) L) (k : Nat) (x : S47) (hx : L[k]? = some x) : ∃ g, S = some ⟨g, 0, none⟩ ∧ W.cell? ⟨g, k * 2, none⟩ = some (.int .i64 x.f0) ∧ W.cell? ⟨g, k * 2 + 1, none⟩ = some (.int .i64 x.f1) := by
  rcases h with ⟨rfl, _⟩ | ⟨g, cap, cur, hv, h2, h3⟩
  · simp at hx
  · injection hv with e1 e2 e3
    obtain ⟨h4, h5⟩ := h3 k x hx
    exact ⟨g, e1, by rw [blk_cell h2, Nat.mul_comm]; exact h4, by rw [blk_cell h2, Nat.mul_comm]; exact h5⟩
theorem Tk.seq {W : World} {base : Nat} {v : Value} {s t : Int} {n : Nat} (h : Tk W base v (seqS s t n)) : ∃ (A : Option Addr) (cap : Nat), v = .slice A n cap ∧ (0 < n → ∃ g o, A = some ⟨g, o, none⟩ ∧ base ≤ g ∧ n ≤ cap ∧ ∀ j, j < n → W.cell? ⟨g, o + j, none⟩ = some (.int .i64 ((t + (j : Int)) % s))) := by
  have hl := seqS_length s t n
  obtain ⟨A, cap, hv, h1⟩ := h.shape
  refine ⟨A, cap, by rw [hv, hl], fun hn => ?_⟩
  obtain ⟨g, o, h2, h3, h4, h5⟩ := h1 (by intro e; rw [e] at hl; simp at hl; omega)
  refine ⟨g, o, h2, h3, by omega, fun j hj => ?_⟩
  have hj' : j < (seqS s t n).length := by omega
  rw [h5 j hj']
  have := seqS_get s t n j hj
  rw [List.getElem?_eq_getElem hj'] at this
  rw [Option.some.inj this]
theorem info3b : (Try.prog.info? 3).map (fun i => (i.zero, i.size, i.bytes)) = some (some (.int .i64 0), 1, 8) := by kernel_rfl
theorem tk_append {ops : Array Oper} {rest : List Oper} {o : Oper} {a : Act} {Q : Exit → Act → World → Prop} {W : World} (base : Nat) (hgd : o.guard = none) (s x : Operand)
    (ho : o.op = .call { callee := .builtin .append, args := #[s, x], argTypes := #[45, 45] })
    (v : Value) (xs : List Int) (y : Int) (hs : a.eval s = v) (hx : a.eval x = .slice (some ⟨W.heap.size, 0, none⟩) 1 1) (HO : Tk W base v xs) (hbase : base ≤ W.heap.size) (hl : xs.length ≤ 1000000)
    (h : ∀ v1 w1, Tk w1 base v1 (xs ++ [y]) → (W.alloc (.cells #[.int .i64 y] 3)).grownBy w1 v.ownBlock → wpList Try.prog ops Q rest (a.put o.dst v1) w1) :
    wpList Try.prog ops Q (o :: rest) a (W.alloc (.cells #[.int .i64 y] 3)) := by
  have hi := info3b
  cases hq : Try.prog.info? 3 with
  | none => rw [hq] at hi; cases hi
  | some i =>
    rw [hq] at hi
    simp only [Option.map_some, Option.some.injEq, Prod.mk.injEq] at hi
    exact Tk.append base hgd s x ho Try.underlying45 i hq hi.1 hi.2.1 hi.2.2 v xs y hs hx HO hbase hl h
theorem step_push {w wr w1 : World} {b5 : Nat} {a b c : Value} {v v1 sl : Value} {L : List S47} {s t : Int} {nn : Nat} {y : Int} (hB : Below w.heap.size w wr) (h5 : wr.heap[b5]? = some (.cells #[a, b, c] 23 (0, 0))) (hS : SpR wr sl L) (hT : Tk wr w.heap.size v (seqS s t nn))
    (hT1 : Tk w1 w.heap.size v1 (seqS s t nn ++ [y])) (hg : (wr.alloc (.cells #[.int .i64 y] 3)).grownBy w1 v.ownBlock) (hy : y = (t + (nn : Int)) % s) :
    Below w.heap.size w w1 ∧ w1.heap[b5]? = some (.cells #[a, b, c] 23 (0, 0)) ∧ SpR w1 sl L ∧ Tk w1 w.heap.size v1 (seqS s t (nn + 1)) := by
  have hT' := hT.below (below_alloc (Below.refl _ _) (.cells #[.int .i64 y] 3))
  refine ⟨(below_alloc hB _).grown hg (below_alloc hB _).size (fun k hk => (hT'.row k hk).1), blk_grown (blk_alloc h5 _) hg ?_, (hS.below (below_alloc (Below.refl _ _) _)).grown hg (fun k hk => ?_), by rw [seqS_snoc, ← hy]; exact hT1⟩
  · intro e
    obtain ⟨_, cs, h3⟩ := hT'.row b5 e.symm
    exact ne_types (blk_alloc h5 _) h3 (by decide) rfl
  · obtain ⟨_, cs, h3⟩ := hT'.row k hk
    exact ⟨_, _, _, h3, by decide⟩
theorem tk_tail {W : World} {base g o ct nn : Nat} {s T : Int} (h : Tk W base (.slice (some ⟨g, o, none⟩) (nn + 1) ct) (seqS s T (nn + 1))) : Tk W base (.slice (if ct = 1 then some ⟨g, o, none⟩ else some ⟨g, o + 1, none⟩) nn (ct - 1)) (seqS s (T + 1) nn) := by
  rw [seqS_tail] at h
  have hl := seqS_length s (T + 1) nn
  have h2 := Tk.tail (xs := seqS s (T + 1) nn) (by rw [hl]; exact h)
  rw [hl] at h2
  exact h2
def back.T41 : Bool × List (List Nat × List Nat) := (true, [([], []), ([0], [0]), ([], []), ([2], [2]), ([1, 3], [1, 3]), ([4, 1], [4]), ([5], [5]), ([6, 5, 5], [5, 6]), ([5], [5]), ([8, 7, 5], [5, 8]), ([7, 9, 5], [5, 7, 9]), ([5], [5]), ([10, 11, 5], [5, 10, 11]), ([5, 12], [5, 12]), ([13, 9], [13]), ([14], [14]), ([15, 14], [14, 15]), ([14], [14]), ([16, 17, 14], [14, 16, 17]), ([14, 18], [14, 18])])
def back.B41 : List Nat := [0, 1, 0, 4, 15, 31, 63, 127, 63, 511, 1023, 63, 4095, 8191, 16383, 32767, 65535, 32767, 262143, 524287]
theorem back.tab41 : rtab .any (opsOf Try.f7 41) = back.T41 := by kernel_rfl
theorem back.bits41 : waitsOk back.T41.2 back.B41 = true := by kernel_rfl
def back.T11 : Bool × List (List Nat × List Nat) := (true, [([], []), ([], []), ([], []), ([1, 2], [1, 2]), ([3], [3]), ([0, 4], [0, 4]), ([5], [5]), ([6], [6]), ([6], [6]), ([6], [6]), ([], []), ([10, 7, 5, 0, 1, 2, 3, 4, 5, 6, 7, 10], [7, 10]), ([8, 11, 0, 1, 2, 3, 4, 5, 6, 7, 8, 10, 11], [8]), ([9, 12, 0, 1, 2, 3, 4, 5, 6, 7, 8, 9, 10, 11, 12], [9])])
def back.B11 : List Nat := [0, 0, 0, 6, 14, 31, 63, 127, 127, 127, 0, 1279, 3583, 8191]
theorem back.tab11 : rtab .any (opsOf Try.f7 11) = back.T11 := by kernel_rfl
theorem back.bits11 : waitsOk back.T11.2 back.B11 = true := by kernel_rfl
def back.T28 : Bool × List (List Nat × List Nat) := (true, [([], []), ([], []), ([], []), ([1, 2], [1, 2]), ([3], [3]), ([0, 4], [0, 4]), ([5], [5]), ([6], [6]), ([6], [6]), ([6], [6]), ([], []), ([10, 7, 5, 0, 1, 2, 3, 4, 5, 6, 7, 10], [7, 10]), ([8, 11, 0, 1, 2, 3, 4, 5, 6, 7, 8, 10, 11], [8]), ([9, 12, 0, 1, 2, 3, 4, 5, 6, 7, 8, 9, 10, 11, 12], [9])])
def back.B28 : List Nat := [0, 0, 0, 6, 14, 31, 63, 127, 127, 127, 0, 1279, 3583, 8191]
theorem back.tab28 : rtab .any (opsOf Try.f7 28) = back.T28 := by kernel_rfl
theorem back.bits28 : waitsOk back.T28.2 back.B28 = true := by kernel_rfl
def back.T38 : Bool × List (List Nat × List Nat) := (true, [([], []), ([0], [0]), ([1], [1]), ([2], [2]), ([3], [3]), ([4, 3], [3, 4]), ([5, 3], [3, 5]), ([3], [3]), ([3], [3]), ([7, 8, 3], [3, 7, 8]), ([9, 3], [3, 9]), ([10, 3], [3, 10]), ([3], [3]), ([11, 12, 3], [3, 11, 12]), ([6, 13, 3], [3, 6, 13]), ([3, 14], [3, 14])])
def back.B38 : List Nat := [0, 1, 3, 7, 15, 31, 63, 15, 15, 399, 911, 1935, 15, 8079, 16383, 32767]
theorem back.tab38 : rtab .any (opsOf Try.f7 38) = back.T38 := by kernel_rfl
theorem back.bits38 : waitsOk back.T38.2 back.B38 = true := by kernel_rfl
def back.T43 : Bool × List (List Nat × List Nat) := (true, [([], []), ([], []), ([1], [1]), ([], []), ([3], [3]), ([0, 2, 4, 4], [0, 2, 4]), ([5], [5]), ([6], [6]), ([6], [6]), ([7, 5, 0, 1, 2, 3, 4, 5, 6, 7], [7]), ([8, 9, 0, 1, 2, 3, 4, 5, 6, 7, 8, 9], [8])])
def back.B43 : List Nat := [0, 0, 2, 0, 8, 31, 63, 127, 127, 255, 1023]
theorem back.tab43 : rtab .any (opsOf Try.f7 43) = back.T43 := by kernel_rfl
theorem back.bits43 : waitsOk back.T43.2 back.B43 = true := by kernel_rfl
def back.T51 : Bool × List (List Nat × List Nat) := (true, [([], []), ([], []), ([1], [1]), ([0, 2], [0, 2]), ([3], [3]), ([4], [4]), ([4], [4]), ([5, 6, 4], [4, 5, 6]), ([7, 4], [4, 7]), ([4], [4]), ([4], [4]), ([9, 10, 4], [4, 9, 10]), ([11, 4], [4, 11]), ([12, 4], [4, 12]), ([4], [4]), ([13, 14, 4], [4, 13, 14]), ([8, 15, 4], [4, 8, 15]), ([4, 16], [4, 16])])
def back.B51 : List Nat := [0, 0, 2, 7, 15, 31, 31, 127, 255, 31, 31, 1567, 3615, 7711, 31, 32287, 65535, 131071]
theorem back.tab51 : rtab .any (opsOf Try.f7 51) = back.T51 := by kernel_rfl
theorem back.bits51 : waitsOk back.T51.2 back.B51 = true := by kernel_rfl
def back.T54 : Bool × List (List Nat × List Nat) := (true, [([], []), ([0], [0]), ([1], [1]), ([2], [2]), ([2], [2]), ([4, 2], [2, 4]), ([3, 5, 2], [2, 3, 5]), ([2, 6], [2, 6]), ([7, 2], [7]), ([8], [8]), ([8], [8]), ([10, 8], [8, 10]), ([8], [8]), ([12, 8, 8], [8, 12]), ([9, 11, 13, 13, 8], [8, 9, 11, 13]), ([8, 14], [8, 14]), ([15, 14], [15]), ([16], [16]), ([16], [16]), ([18, 16], [16, 18]), ([16], [16]), ([20, 16, 16], [16, 20]), ([21, 16], [16, 21]), ([17, 19, 22, 21, 16], [16, 17, 19, 22]), ([23, 16], [16, 23]), ([16, 24], [16, 24]), ([25, 23], [25]), ([26, 26], [26]), ([26, 27], [26, 27]), ([28, 27, 0, 1, 2, 3, 4, 5, 6, 7, 8, 9, 10, 11, 12, 13, 14, 15, 16, 17, 18, 19, 20, 21, 22, 23, 24, 25, 26, 27, 28], [28])])
def back.B54 : List Nat := [0, 1, 3, 7, 7, 23, 63, 127, 255, 511, 511, 1535, 511, 4607, 16383, 32767, 65535, 131071, 131071, 393215, 131071, 1179647, 3276799, 8388607, 16777215, 33554431, 67108863, 134217727, 268435455, 536870911]
theorem back.tab54 : rtab .any (opsOf Try.f7 54) = back.T54 := by kernel_rfl
theorem back.bits54 : waitsOk back.T54.2 back.B54 = true := by kernel_rfl
set_option maxRecDepth 100000 in
set_option maxHeartbeats 4000000 in
theorem back_mid (s : Int) (A : Option Addr) (c : Nat) (l : List Int) (h1 : 1 ≤ s) (h2 : s ≤ 300) (hl : l.length ≤ 60) (w : World) (hr : ReadsInt w .i64 A l.length l) :
    Calls Try.prog 7 #[.int .i64 s, .slice A l.length c] w fun e w' => e = .returned (.bool true) ∧ Below w.heap.size w w' := by
  have HR := Aside0.mk hr
  have A2 := Aside0.mk (new_yes (s := s) h1 (by omega) 3 (by omega))
  clear hr
  go_enter Try.func7, Try.ntmps7
  go_wp2_with (fail)
  refine (ring_New.calls 3 s _ _ _ _ _ A2.out).mono ?_
  rintro e w2 ⟨rfl, hb2⟩
  have HB := Aside0.mk (below_alloc hb2 (.cells #[.int .i64 s, .int .i64 0, .int .i64 0] 23))
  have B5 := Aside0.mk (blk_new w2 (.cells #[.int .i64 s, .int .i64 0, .int .i64 0] 23))
  have H5 := Aside0.mk hb2.size
  clear hb2
  go_wp2_with (fail)
  generalize w2.heap.size = b5 at B5 H5
  generalize (w2.alloc (.cells #[.int .i64 s, .int .i64 0, .int .i64 0] 23)) = w3 at B5 HB
  go_loopw [7, 8] (fun v7 v8 wr => ∃ (i : Nat) (h t : Int), i ≤ l.length ∧ v8 = .int .i64 i ∧ h ≤ 300 * i ∧ MayP s h t ∧ Aside0 (Below w.heap.size w wr ∧ wr.heap[b5]? = some (.cells #[.int .i64 s, .int .i64 h, .int .i64 t] 23 (0, 0)) ∧ Tk wr w.heap.size v7 (seqS s t (h - t).toNat))) (fun _ v8 _ => l.length - (intOf v8).toNat)
  case atStart => exact ⟨0, 0, 0, by omega, rfl, by omega, ⟨h1, by omega, by omega, by omega, by omega, by omega⟩, ⟨HB.out, B5.out, .inl ⟨rfl, rfl⟩⟩⟩
  case round =>
    clear HB B5
    obtain ⟨i, h, t, hi, rfl, hhi, hm, H⟩ := hrel
    by_cases hlt : i < l.length
    · obtain ⟨ad, e, hx⟩ := HR.out.at_ (i : Int) (by omega) (by omega)
      cases e
      generalize rd l (i : Int) = x at hx
      have HX := Aside0.mk hx
      clear hx
      have hB5 := H.out.2.1
      have z5 := blk_lt hB5
      by_cases hev : (i : Int).tmod 2 = 0
      · obtain ⟨h', L, e4, hf, hm', hh1, hh2, hsp, hL⟩ := push_any x hm (by omega) h2
        have AF := Aside0.mk hf
        have HSP := Aside0.mk hsp
        clear hf hsp
        go_wp2
        have H0 := H
        clear H hB5 z5
        refine start_ (n := 14) (S := fun w' => True) (ds := []) #[false, false, false, false, false, false, false, false, false, false, false, false, false, false] (by kernel_rfl) rfl rfl trivial (fun hHeld => ?_)
        refine with_tabW back.tab11 back.bits11 (fun HT_ HW_ => ?_)
        have HB := Aside0.mk (below_step H0.out.1 (below_drew (Below.refl _ _)))
        have B5 := Aside0.mk (blk_below H0.out.2.1 (below_drew (Below.refl _ _)))
        have TK := Aside0.mk (H0.out.2.2.below (below_drew (Below.refl _ _)))
        generalize wr.drew = wz at HB B5 TK hHeld ⊢
        clear hHeld H0
        refine pure_ (i := 1) (N := some 56) (v := ?_) (a' := ?_) #[false, true, false, false, false, false, false, false, false, false, false, false, false, false] rfl rfl (any_of HT_.out (by kernel_rfl)) (fun _ _ _ h => h) (Or.inl ⟨by rfl, ?_⟩) ?_ ?_
        rotate_left
        · intro w'
          go_simp
          with_reducible rfl
        rotate_left
        · simp only [Act.put, List.setIfInBounds_toArray, List.set_cons_zero, List.set_cons_succ, i64_w, i32_w]
          rfl
        refine pure_ (i := 2) (N := some 57) (v := ?_) (a' := ?_) #[false, true, true, false, false, false, false, false, false, false, false, false, false, false] rfl rfl (any_of HT_.out (by kernel_rfl)) (fun _ _ _ h => h) (Or.inl ⟨by rfl, ?_⟩) ?_ ?_
        rotate_left
        · intro w'
          go_simp
          with_reducible rfl
        rotate_left
        · simp only [Act.put, List.setIfInBounds_toArray, List.set_cons_zero, List.set_cons_succ, i64_w, i32_w]
          rfl
        refine inv_at [0, 3, 4, 5, 6, 7, 8, 9, 10, 11, 12, 13] (fun a0_ b a w' => ∃ (v4 : Value) (gN : Nat) (m5_ : Value) (m6_ : Value) (m8_ : Value) (m10_ : Value) (m12_ : Value), a = putSel a0_ b [(0, 55, .agg #[.int .i64 s, .int .i64 h, .int .i64 t]), (3, 58, .pointer (some (ad.add i))), (4, 59, .int .i64 x), (5, 60, m5_), (6, 54, m6_), (7, 61, .agg #[.int .i64 s, .int .i64 h', .int .i64 t]), (8, 62, m8_), (9, 63, .int .i64 e4), (10, 9, m10_), (12, 10, m12_), (13, 11, .int .i64 e4)] ∧ (Below w.heap.size w w') ∧ (w'.heap[b5]? = some (.cells #[.int .i64 s, .int .i64 h, .int .i64 t] 23 (0, 0))) ∧ (Tk w' w.heap.size u7 (seqS s t (h - t).toNat)) ∧ (b 5 = true → SpR w' v4 L) ∧ (b 10 = true → b 11 = false → w.heap.size ≤ gN ∧ gN ≠ b5 ∧ w'.heap[gN]? = some (.cells #[.int .i64 0, .int .i64 0, .int .i64 0] 23 (0, 0))) ∧ (b 11 = true → w'.heap[gN]? = some (.cells #[.int .i64 s, .int .i64 h', .int .i64 t] 23 (0, 0))) ∧ (b 5 = true → (m5_ : Value) = .tuple #[.agg #[.int .i64 s, .int .i64 h', .int .i64 t], v4, .int .i64 e4]) ∧ (b 6 = true → (m6_ : Value) = .tuple #[.agg #[.int .i64 s, .int .i64 h', .int .i64 t], v4, .int .i64 e4]) ∧ (b 8 = true → (m8_ : Value) = v4) ∧ (b 10 = true → (m10_ : Value) = .pointer (some ⟨gN, 0, none⟩)) ∧ (b 12 = true → (m12_ : Value) = v4)) HT_.out HW_.out (by kernel_rfl) (by kernel_rfl) ?_ ?_ ?_
        · exact ⟨.bool false, 0, .bool false, .bool false, .bool false, .bool false, .bool false, by simp only [putSel, Bool.false_eq_true, if_false], HB.out, B5.out, TK.out, fun h_ => absurd h_ (by decide), fun h_ => absurd h_ (by decide), fun h_ => absurd h_ (by decide), fun h_ => absurd h_ (by decide), fun h_ => absurd h_ (by decide), fun h_ => absurd h_ (by decide), fun h_ => absurd h_ (by decide), fun h_ => absurd h_ (by decide)⟩
        · skip
          clear B5 HB TK
          refine steps_cons ?_ ?_
          · as_aux_lemma =>
            rintro b a w' ⟨v4, gN, m5_, m6_, m8_, m10_, m12_, ha, Q_HB, Q_B5, Q_TK, Q_SR, Q_ZN, Q_XN, Q_X5_, Q_X6_, Q_X8_, Q_X10_, Q_X12_⟩ hb_ hon hoff
            refine ⟨_, rfl, fun K hK => ?_⟩
            have e5 : a.tmps[5]? = some (.pointer (some ⟨b5, 0, none⟩)) := by rw [ha]; exact (putSel_off rfl).trans rfl
            replace ha := Aside0.mk ha
            have HB := Aside0.mk Q_HB
            have B5 := Aside0.mk Q_B5
            have TK := Aside0.mk Q_TK
            have hs0_ : w'.cell? ⟨b5, 0, none⟩ = some (.int .i64 s) := (blk_cell B5.out 0).trans rfl
            have hs1_ : w'.cell? ⟨b5, 1, none⟩ = some (.int .i64 h) := (blk_cell B5.out 1).trans rfl
            have hs2_ : w'.cell? ⟨b5, 2, none⟩ = some (.int .i64 t) := (blk_cell B5.out 2).trans rfl
            refine value_ (w1 := w') (v := .agg #[.int .i64 s, .int .i64 h, .int .i64 t]) (by rfl) rfl ?_ ?_
            · go_simp
              (try simp only [i64_w])
              try rfl
            refine hK.out _ _ ⟨v4, gN, m5_, m6_, m8_, m10_, m12_, (by rw [ha.out]; exact putSel_upk 0 hb_ rfl rfl rfl), Q_HB, Q_B5, Q_TK, fun h0_ => absurd ((hoff 5 (by kernel_rfl)).symm.trans h0_) (by decide), Q_ZN, fun h0_ => absurd ((hoff 11 (by kernel_rfl)).symm.trans h0_) (by decide), fun h0_ => absurd ((hoff 5 (by kernel_rfl)).symm.trans h0_) (by decide), fun h0_ => absurd ((hoff 6 (by kernel_rfl)).symm.trans h0_) (by decide), fun h0_ => absurd ((hoff 8 (by kernel_rfl)).symm.trans h0_) (by decide), Q_X10_, fun h0_ => absurd ((hoff 12 (by kernel_rfl)).symm.trans h0_) (by decide)⟩
          refine steps_cons ?_ ?_
          · as_aux_lemma =>
            rintro b a w' ⟨v4, gN, m5_, m6_, m8_, m10_, m12_, ha, Q_HB, Q_B5, Q_TK, Q_SR, Q_ZN, Q_XN, Q_X5_, Q_X6_, Q_X8_, Q_X10_, Q_X12_⟩ hb_ hon hoff
            refine ⟨_, rfl, fun K hK => ?_⟩
            have e56 : a.tmps[56]? = some (.slice (some ad) l.length c) := by rw [ha]; exact (putSel_off rfl).trans rfl
            have e57 : a.tmps[57]? = some (.int .i64 (i : Int)) := by rw [ha]; exact (putSel_off rfl).trans rfl
            replace ha := Aside0.mk ha
            have HB := Aside0.mk Q_HB
            have B5 := Aside0.mk Q_B5
            have TK := Aside0.mk Q_TK
            refine value_ (w1 := w') (v := .pointer (some (ad.add i))) (by rfl) rfl ?_ ?_
            · go_simp
              (try simp only [i64_w])
              try rfl
            refine hK.out _ _ ⟨v4, gN, m5_, m6_, m8_, m10_, m12_, (by rw [ha.out]; exact putSel_upk 1 hb_ rfl rfl rfl), Q_HB, Q_B5, Q_TK, fun h0_ => absurd ((hoff 5 (by kernel_rfl)).symm.trans h0_) (by decide), Q_ZN, fun h0_ => absurd ((hoff 11 (by kernel_rfl)).symm.trans h0_) (by decide), fun h0_ => absurd ((hoff 5 (by kernel_rfl)).symm.trans h0_) (by decide), fun h0_ => absurd ((hoff 6 (by kernel_rfl)).symm.trans h0_) (by decide), fun h0_ => absurd ((hoff 8 (by kernel_rfl)).symm.trans h0_) (by decide), Q_X10_, fun h0_ => absurd ((hoff 12 (by kernel_rfl)).symm.trans h0_) (by decide)⟩
          refine steps_cons ?_ ?_
          · as_aux_lemma =>
            rintro b a w' ⟨v4, gN, m5_, m6_, m8_, m10_, m12_, ha, Q_HB, Q_B5, Q_TK, Q_SR, Q_ZN, Q_XN, Q_X5_, Q_X6_, Q_X8_, Q_X10_, Q_X12_⟩ hb_ hon hoff
            refine ⟨_, rfl, fun K hK => ?_⟩
            have e58 : a.tmps[58]? = some (.pointer (some (ad.add i))) := by rw [ha]; exact putSel_on (e := (3, 58, .pointer (some (ad.add i)))) 1 rfl rfl (hon 3 (by kernel_rfl)) rfl
            replace ha := Aside0.mk ha
            have HB := Aside0.mk Q_HB
            have B5 := Aside0.mk Q_B5
            have TK := Aside0.mk Q_TK
            have hs_ : w'.cell? (ad.add i) = some (.int .i64 x) := by have h_ := fwd HB.out HX.out; simpa using h_
            refine value_ (w1 := w') (v := .int .i64 x) (by rfl) rfl ?_ ?_
            · go_simp
              (try simp only [i64_w])
              try rfl
            refine hK.out _ _ ⟨v4, gN, m5_, m6_, m8_, m10_, m12_, (by rw [ha.out]; exact putSel_upk 2 hb_ rfl rfl rfl), Q_HB, Q_B5, Q_TK, fun h0_ => absurd ((hoff 5 (by kernel_rfl)).symm.trans h0_) (by decide), Q_ZN, fun h0_ => absurd ((hoff 11 (by kernel_rfl)).symm.trans h0_) (by decide), fun h0_ => absurd ((hoff 5 (by kernel_rfl)).symm.trans h0_) (by decide), fun h0_ => absurd ((hoff 6 (by kernel_rfl)).symm.trans h0_) (by decide), fun h0_ => absurd ((hoff 8 (by kernel_rfl)).symm.trans h0_) (by decide), Q_X10_, fun h0_ => absurd ((hoff 12 (by kernel_rfl)).symm.trans h0_) (by decide)⟩
          refine steps_cons ?_ ?_
          · as_aux_lemma =>
            rintro b a w' ⟨v4, gN, m5_, m6_, m8_, m10_, m12_, ha, Q_HB, Q_B5, Q_TK, Q_SR, Q_ZN, Q_XN, Q_X5_, Q_X6_, Q_X8_, Q_X10_, Q_X12_⟩ hb_ hon hoff
            refine ⟨_, rfl, fun K hK => ?_⟩
            have e55 : a.tmps[55]? = some (.agg #[.int .i64 s, .int .i64 h, .int .i64 t]) := by rw [ha]; exact putSel_on (e := (0, 55, .agg #[.int .i64 s, .int .i64 h, .int .i64 t])) 0 rfl rfl (hon 0 (by kernel_rfl)) rfl
            have e59 : a.tmps[59]? = some (.int .i64 x) := by rw [ha]; exact putSel_on (e := (4, 59, .int .i64 x)) 2 rfl rfl (hon 4 (by kernel_rfl)) rfl
            replace ha := Aside0.mk ha
            have HB := Aside0.mk Q_HB
            have B5 := Aside0.mk Q_B5
            have TK := Aside0.mk Q_TK
            refine goes_ Try.func8 (by kernel_rfl) rfl #[.agg #[.int .i64 s, .int .i64 h, .int .i64 t], .int .i64 x] (by rfl) rfl rfl (by first | (simp only [List.map_toArray, List.map_cons, List.map_nil, Act.eval, Array.getD_eq_getD_getElem?, Option.getD_some, e55, e59]; done) | (simp only [List.map_toArray, List.map_cons, List.map_nil, Act.eval, Array.getD_eq_getD_getElem?, Option.getD_some, e55, e59]; rfl)) ?_
            with_reducible refine (ring_Ring_Push.calls 3 s h t x _ _ _ _ _ _ AF.out).mono ?_
            rintro e w6 ⟨v4_, rfl, hR, hb⟩
            refine ⟨_, rfl, ?_⟩
            refine hK.out _ _ ⟨v4_, gN, (.tuple #[.agg #[.int .i64 s, .int .i64 h', .int .i64 t], v4_, .int .i64 e4]), m6_, m8_, m10_, m12_, (by rw [ha.out]; exact putSel_upk 3 hb_ rfl rfl rfl), below_step HB.out hb, blk_below B5.out hb, TK.out.below hb, fun _ => spR_of hR, fun h0_ h1_ => ⟨(Q_ZN h0_ h1_).1, (Q_ZN h0_ h1_).2.1, blk_below (Q_ZN h0_ h1_).2.2 hb⟩, fun h0_ => absurd ((hoff 11 (by kernel_rfl)).symm.trans h0_) (by decide), fun _ => rfl, fun h0_ => absurd ((hoff 6 (by kernel_rfl)).symm.trans h0_) (by decide), fun h0_ => absurd ((hoff 8 (by kernel_rfl)).symm.trans h0_) (by decide), Q_X10_, fun h0_ => absurd ((hoff 12 (by kernel_rfl)).symm.trans h0_) (by decide)⟩
          refine steps_cons ?_ ?_
          · as_aux_lemma =>
            rintro b a w' ⟨v4, gN, m5_, m6_, m8_, m10_, m12_, ha, Q_HB, Q_B5, Q_TK, Q_SR, Q_ZN, Q_XN, Q_X5_, Q_X6_, Q_X8_, Q_X10_, Q_X12_⟩ hb_ hon hoff
            refine ⟨_, rfl, fun K hK => ?_⟩
            have e60 : a.tmps[60]? = some (m5_) := by rw [ha]; exact putSel_on (e := (5, 60, m5_)) 3 rfl rfl (hon 5 (by kernel_rfl)) rfl
            rw [Q_X5_ (hon 5 (by kernel_rfl))] at e60
            replace ha := Aside0.mk ha
            have HB := Aside0.mk Q_HB
            have B5 := Aside0.mk Q_B5
            have TK := Aside0.mk Q_TK
            have SR := Aside0.mk (Q_SR (hon 5 (by kernel_rfl)))
            refine value_ (w1 := w') (v := .tuple #[.agg #[.int .i64 s, .int .i64 h', .int .i64 t], v4, .int .i64 e4]) (by rfl) rfl ?_ ?_
            · go_simp
              (try simp only [i64_w])
              try rfl
            refine hK.out _ _ ⟨v4, gN, m5_, (.tuple #[.agg #[.int .i64 s, .int .i64 h', .int .i64 t], v4, .int .i64 e4]), m8_, m10_, m12_, (by rw [ha.out]; exact putSel_upk 4 hb_ rfl rfl rfl), Q_HB, Q_B5, Q_TK, Q_SR, Q_ZN, fun h0_ => absurd ((hoff 11 (by kernel_rfl)).symm.trans h0_) (by decide), Q_X5_, fun _ => rfl, fun h0_ => absurd ((hoff 8 (by kernel_rfl)).symm.trans h0_) (by decide), Q_X10_, fun h0_ => absurd ((hoff 12 (by kernel_rfl)).symm.trans h0_) (by decide)⟩
          refine steps_cons ?_ ?_
          · as_aux_lemma =>
            rintro b a w' ⟨v4, gN, m5_, m6_, m8_, m10_, m12_, ha, Q_HB, Q_B5, Q_TK, Q_SR, Q_ZN, Q_XN, Q_X5_, Q_X6_, Q_X8_, Q_X10_, Q_X12_⟩ hb_ hon hoff
            refine ⟨_, rfl, fun K hK => ?_⟩
            have e54 : a.tmps[54]? = some (m6_) := by rw [ha]; exact putSel_on (e := (6, 54, m6_)) 4 rfl rfl (hon 6 (by kernel_rfl)) rfl
            rw [Q_X6_ (hon 6 (by kernel_rfl))] at e54
            replace ha := Aside0.mk ha
            have HB := Aside0.mk Q_HB
            have B5 := Aside0.mk Q_B5
            have TK := Aside0.mk Q_TK
            have SR := Aside0.mk (Q_SR (hon 5 (by kernel_rfl)))
            refine value_ (w1 := w') (v := .agg #[.int .i64 s, .int .i64 h', .int .i64 t]) (by rfl) rfl ?_ ?_
            · go_simp
              (try simp only [i64_w])
              try rfl
            refine hK.out _ _ ⟨v4, gN, m5_, m6_, m8_, m10_, m12_, (by rw [ha.out]; exact putSel_upk 5 hb_ rfl rfl rfl), Q_HB, Q_B5, Q_TK, Q_SR, Q_ZN, fun h0_ => absurd ((hoff 11 (by kernel_rfl)).symm.trans h0_) (by decide), Q_X5_, Q_X6_, Q_X8_, Q_X10_, fun h0_ => absurd ((hoff 12 (by kernel_rfl)).symm.trans h0_) (by decide)⟩
          refine steps_cons ?_ ?_
          · as_aux_lemma =>
            rintro b a w' ⟨v4, gN, m5_, m6_, m8_, m10_, m12_, ha, Q_HB, Q_B5, Q_TK, Q_SR, Q_ZN, Q_XN, Q_X5_, Q_X6_, Q_X8_, Q_X10_, Q_X12_⟩ hb_ hon hoff
            refine ⟨_, rfl, fun K hK => ?_⟩
            have e54 : a.tmps[54]? = some (m6_) := by rw [ha]; exact putSel_on (e := (6, 54, m6_)) 4 rfl rfl (hon 6 (by kernel_rfl)) rfl
            rw [Q_X6_ (hon 6 (by kernel_rfl))] at e54
            replace ha := Aside0.mk ha
            have HB := Aside0.mk Q_HB
            have B5 := Aside0.mk Q_B5
            have TK := Aside0.mk Q_TK
            have SR := Aside0.mk (Q_SR (hon 5 (by kernel_rfl)))
            refine value_ (w1 := w') (v := v4) (by rfl) rfl ?_ ?_
            · go_simp
              (try simp only [i64_w])
              try rfl
            refine hK.out _ _ ⟨v4, gN, m5_, m6_, (v4), m10_, m12_, (by rw [ha.out]; exact putSel_upk 6 hb_ rfl rfl rfl), Q_HB, Q_B5, Q_TK, Q_SR, Q_ZN, Q_XN, Q_X5_, Q_X6_, fun _ => rfl, Q_X10_, fun h0_ => absurd ((hoff 12 (by kernel_rfl)).symm.trans h0_) (by decide)⟩
          refine steps_cons ?_ ?_
          · as_aux_lemma =>
            rintro b a w' ⟨v4, gN, m5_, m6_, m8_, m10_, m12_, ha, Q_HB, Q_B5, Q_TK, Q_SR, Q_ZN, Q_XN, Q_X5_, Q_X6_, Q_X8_, Q_X10_, Q_X12_⟩ hb_ hon hoff
            refine ⟨_, rfl, fun K hK => ?_⟩
            have e54 : a.tmps[54]? = some (m6_) := by rw [ha]; exact putSel_on (e := (6, 54, m6_)) 4 rfl rfl (hon 6 (by kernel_rfl)) rfl
            rw [Q_X6_ (hon 6 (by kernel_rfl))] at e54
            replace ha := Aside0.mk ha
            have HB := Aside0.mk Q_HB
            have B5 := Aside0.mk Q_B5
            have TK := Aside0.mk Q_TK
            have SR := Aside0.mk (Q_SR (hon 5 (by kernel_rfl)))
            refine value_ (w1 := w') (v := .int .i64 e4) (by rfl) rfl ?_ ?_
            · go_simp
              (try simp only [i64_w])
              try rfl
            refine hK.out _ _ ⟨v4, gN, m5_, m6_, m8_, m10_, m12_, (by rw [ha.out]; exact putSel_upk 7 hb_ rfl rfl rfl), Q_HB, Q_B5, Q_TK, Q_SR, Q_ZN, Q_XN, Q_X5_, Q_X6_, Q_X8_, Q_X10_, Q_X12_⟩
          refine steps_cons ?_ ?_
          · as_aux_lemma =>
            rintro b a w' ⟨v4, gN, m5_, m6_, m8_, m10_, m12_, ha, Q_HB, Q_B5, Q_TK, Q_SR, Q_ZN, Q_XN, Q_X5_, Q_X6_, Q_X8_, Q_X10_, Q_X12_⟩ hb_ hon hoff
            refine ⟨_, rfl, fun K hK => ?_⟩
            replace ha := Aside0.mk ha
            have HB := Aside0.mk Q_HB
            have B5 := Aside0.mk Q_B5
            have TK := Aside0.mk Q_TK
            refine value_ (w1 := ?_) (v := ?_) (by rfl) rfl ?_ ?_
            rotate_left 2
            · go_simp
              constructor
              · rfl
              · rfl
            refine hK.out _ _ ⟨v4, w'.heap.size, m5_, m6_, m8_, (.pointer (some ⟨w'.heap.size, 0, none⟩)), m12_, (by rw [ha.out]; exact putSel_upk 8 hb_ rfl rfl rfl), below_alloc HB.out _, blk_alloc B5.out _, TK.out.below (below_alloc (Below.refl _ _) _), fun h0_ => (Q_SR h0_).below (below_alloc (Below.refl _ _) _), fun _ _ => ⟨HB.out.size, fun e => by have := blk_lt B5.out; omega, blk_new _ _⟩, fun h0_ => absurd ((hoff 11 (by kernel_rfl)).symm.trans h0_) (by decide), Q_X5_, Q_X6_, Q_X8_, fun _ => rfl, fun h0_ => absurd ((hoff 12 (by kernel_rfl)).symm.trans h0_) (by decide)⟩
          refine steps_cons ?_ ?_
          · as_aux_lemma =>
            rintro b a w' ⟨v4, gN, m5_, m6_, m8_, m10_, m12_, ha, Q_HB, Q_B5, Q_TK, Q_SR, Q_ZN, Q_XN, Q_X5_, Q_X6_, Q_X8_, Q_X10_, Q_X12_⟩ hb_ hon hoff
            refine ⟨_, rfl, fun K hK => ?_⟩
            have e9 : a.tmps[9]? = some (m10_) := by rw [ha]; exact putSel_on (e := (10, 9, m10_)) 8 rfl rfl (hon 10 (by kernel_rfl)) rfl
            rw [Q_X10_ (hon 10 (by kernel_rfl))] at e9
            have e61 : a.tmps[61]? = some (.agg #[.int .i64 s, .int .i64 h', .int .i64 t]) := by rw [ha]; exact putSel_on (e := (7, 61, .agg #[.int .i64 s, .int .i64 h', .int .i64 t])) 5 rfl rfl (hon 7 (by kernel_rfl)) rfl
            replace ha := Aside0.mk ha
            have HB := Aside0.mk Q_HB
            have B5 := Aside0.mk Q_B5
            have TK := Aside0.mk Q_TK
            have SR := Aside0.mk (Q_SR (hon 5 (by kernel_rfl)))
            have ZN := Aside0.mk (Q_ZN (hon 10 (by kernel_rfl)) hb_)
            have hz_ := blk_lt ZN.out.2.2
            have hf0_ := blk_frozen ZN.out.2.2 0
            have hf1_ := blk_frozen ZN.out.2.2 1
            have hf2_ := blk_frozen ZN.out.2.2 2
            have hc0_ := (blk_cell ZN.out.2.2 0).trans rfl
            have hc1_ := (blk_cell ZN.out.2.2 1).trans rfl
            have hc2_ := (blk_cell ZN.out.2.2 2).trans rfl
            refine skip_ (w1 := ?_) (by rfl) rfl ?_ ?_
            rotate_left
            · go_simp
              rfl
            have hS_ := set3 (.int .i64 s) (.int .i64 h') (.int .i64 t) ZN.out.2.2
            refine hK.out _ _ ⟨v4, gN, m5_, m6_, m8_, m10_, m12_, (by rw [ha.out]; exact putSel_none (v := undef) rfl), HB.out.grown hS_.2 HB.out.size (fun k hk => by obtain rfl := Option.some.inj hk; exact ZN.out.1), blk_grown B5.out hS_.2 (fun e => ZN.out.2.1 (Option.some.inj e).symm), TK.out.grown hS_.2 (some_row ZN.out.2.2 (by decide)), fun _ => SR.out.grown hS_.2 (some_row ZN.out.2.2 (by decide)), fun _ h1_ => absurd ((up_self b 11).symm.trans h1_) (by decide), fun _ => hS_.1, Q_X5_, Q_X6_, Q_X8_, Q_X10_, fun h0_ => absurd ((hoff 12 (by kernel_rfl)).symm.trans h0_) (by decide)⟩
          refine steps_cons ?_ ?_
          · as_aux_lemma =>
            rintro b a w' ⟨v4, gN, m5_, m6_, m8_, m10_, m12_, ha, Q_HB, Q_B5, Q_TK, Q_SR, Q_ZN, Q_XN, Q_X5_, Q_X6_, Q_X8_, Q_X10_, Q_X12_⟩ hb_ hon hoff
            refine ⟨_, rfl, fun K hK => ?_⟩
            have e62 : a.tmps[62]? = some (m8_) := by rw [ha]; exact putSel_on (e := (8, 62, m8_)) 6 rfl rfl (hon 8 (by kernel_rfl)) rfl
            rw [Q_X8_ (hon 8 (by kernel_rfl))] at e62
            replace ha := Aside0.mk ha
            have HB := Aside0.mk Q_HB
            have B5 := Aside0.mk Q_B5
            have TK := Aside0.mk Q_TK
            have SR := Aside0.mk (Q_SR (hon 5 (by kernel_rfl)))
            have XN := Aside0.mk (Q_XN (hon 11 (by kernel_rfl)))
            refine value_ (w1 := w') (v := v4) (by rfl) rfl ?_ ?_
            · go_simp
              (try simp only [i64_w])
              try rfl
            refine hK.out _ _ ⟨v4, gN, m5_, m6_, m8_, m10_, (v4), (by rw [ha.out]; exact putSel_upk 9 hb_ rfl rfl rfl), Q_HB, Q_B5, Q_TK, Q_SR, fun _ h1_ => absurd ((hon 11 (by kernel_rfl)).symm.trans h1_) (by decide), Q_XN, Q_X5_, Q_X6_, Q_X8_, Q_X10_, fun _ => rfl⟩
          refine steps_cons ?_ ?_
          · as_aux_lemma =>
            rintro b a w' ⟨v4, gN, m5_, m6_, m8_, m10_, m12_, ha, Q_HB, Q_B5, Q_TK, Q_SR, Q_ZN, Q_XN, Q_X5_, Q_X6_, Q_X8_, Q_X10_, Q_X12_⟩ hb_ hon hoff
            refine ⟨_, rfl, fun K hK => ?_⟩
            have e63 : a.tmps[63]? = some (.int .i64 e4) := by rw [ha]; exact putSel_on (e := (9, 63, .int .i64 e4)) 7 rfl rfl (hon 9 (by kernel_rfl)) rfl
            replace ha := Aside0.mk ha
            have HB := Aside0.mk Q_HB
            have B5 := Aside0.mk Q_B5
            have TK := Aside0.mk Q_TK
            have SR := Aside0.mk (Q_SR (hon 5 (by kernel_rfl)))
            have XN := Aside0.mk (Q_XN (hon 11 (by kernel_rfl)))
            refine value_ (w1 := w') (v := .int .i64 e4) (by rfl) rfl ?_ ?_
            · go_simp
              (try simp only [i64_w])
              try rfl
            refine hK.out _ _ ⟨v4, gN, m5_, m6_, m8_, m10_, m12_, (by rw [ha.out]; exact putSel_upk 10 hb_ rfl rfl rfl), Q_HB, Q_B5, Q_TK, Q_SR, fun _ h1_ => absurd ((hon 11 (by kernel_rfl)).symm.trans h1_) (by decide), Q_XN, Q_X5_, Q_X6_, Q_X8_, Q_X10_, Q_X12_⟩
          exact steps_nil
        rintro b a wA hall ⟨v4, gN, m5_, m6_, m8_, m10_, m12_, ha, Q_HB, Q_B5, Q_TK, Q_SR, Q_ZN, Q_XN, Q_X5_, Q_X6_, Q_X8_, Q_X10_, Q_X12_⟩
        clear B5 HB TK
        have hb0_ := hall 0 (by kernel_rfl)
        have hb3_ := hall 3 (by kernel_rfl)
        have hb4_ := hall 4 (by kernel_rfl)
        have hb5_ := hall 5 (by kernel_rfl)
        have hb6_ := hall 6 (by kernel_rfl)
        have hb7_ := hall 7 (by kernel_rfl)
        have hb8_ := hall 8 (by kernel_rfl)
        have hb9_ := hall 9 (by kernel_rfl)
        have hb10_ := hall 10 (by kernel_rfl)
        have hb11_ := hall 11 (by kernel_rfl)
        have hb12_ := hall 12 (by kernel_rfl)
        have hb13_ := hall 13 (by kernel_rfl)
        subst ha
        obtain rfl := Q_X5_ hb5_
        obtain rfl := Q_X6_ hb6_
        obtain rfl := Q_X8_ hb8_
        obtain rfl := Q_X10_ hb10_
        obtain rfl := Q_X12_ hb12_
        simp only [putSel, hb0_, hb3_, hb4_, hb5_, hb6_, hb7_, hb8_, hb9_, hb10_, hb11_, hb12_, hb13_, if_true, Act.put, List.setIfInBounds_toArray, List.set_cons_zero, List.set_cons_succ]
        have HB := Aside0.mk Q_HB
        clear Q_HB
        have B5 := Aside0.mk Q_B5
        clear Q_B5
        have TK := Aside0.mk Q_TK
        clear Q_TK
        have SR := Aside0.mk (Q_SR hb5_)
        clear Q_SR
        clear Q_ZN
        have XN := Aside0.mk (Q_XN hb11_)
        clear Q_XN
        clear hall hb0_ hb3_ hb4_ hb5_ hb6_ hb7_ hb8_ hb9_ hb10_ hb11_ hb12_ hb13_
        obtain ⟨S4, k4, rfl⟩ := SR.out.shape
        have c0 := three XN.out
        have d0 := three B5.out
        obtain ⟨⟨c0, c1, c2⟩, -⟩ := c0
        obtain ⟨⟨d0, d1, d2⟩, f0, f1, f2⟩ := d0
        have z5 := blk_lt B5.out
        have zN := blk_lt XN.out
        have hS_ := set3 (.int .i64 s) (.int .i64 h') (.int .i64 t) B5.out
        have HB := Aside0.mk (HB.out.grown hS_.2 HB.out.size (fun k hk => by obtain rfl := Option.some.inj hk; exact H5.out))
        have TK := Aside0.mk (TK.out.grown hS_.2 (some_row B5.out (by decide)))
        have SR := Aside0.mk (SR.out.grown hS_.2 (some_row B5.out (by decide)))
        have B5 := Aside0.mk hS_.1
        clear hS_ XN
        have he4 : e4 = 0 ∨ (¬ e4 = 0 ∧ L = []) := by
          rcases hL with hL | hL
          · exact .inl hL
          · by_cases h0 : e4 = 0
            · exact .inl h0
            · exact .inr ⟨h0, hL⟩
        clear hL
        have HL := Aside0.mk he4
        clear he4
        generalize hW : (((wA.setCell ⟨b5, 0, none⟩ (.int .i64 s)).setCell ⟨b5, 1, none⟩ (.int .i64 h')).setCell ⟨b5, 2, none⟩ (.int .i64 t)) = wB at HB TK SR B5
        have HW := Aside0.mk hW
        clear hW
        go_upto_region 13 with (fail)
        go_cut [71] (fun s71 wx => s71 = .bool false ∧ wx = wB)
        case first =>
          as_aux_lemma =>
            rcases HL.out with rfl | ⟨he, rfl⟩
            · go_wp2_with (fail)
              go_meet
              case rel => exact ⟨rfl, HW.out⟩
            · go_wp2_with (fail)
              go_meet
              case rel => exact ⟨rfl, HW.out⟩
        case rest =>
          as_aux_lemma =>
            obtain ⟨rfl, rfl⟩ := hcut
            clear HW c0 c1 c2 d0 d1 d2 f0 f1 f2 z5 zN
            have zB := blk_lt B5.out
            go_wp2_with (fail)
            go_loopw [7, 12] (fun v7 v12 wr => ∃ k : Nat, k ≤ L.length ∧ v12 = .int .i64 k ∧ Aside0 (Below w.heap.size w wr ∧ wr.heap[b5]? = some (.cells #[.int .i64 s, .int .i64 h', .int .i64 t] 23 (0, 0)) ∧ SpR wr (.slice S4 L.length k4) L ∧ Tk wr w.heap.size v7 (seqS s t (h - t + pre L k).toNat))) (fun _ v12 _ => L.length - (intOf v12).toNat)
            case atStart => 
              refine ⟨0, by omega, rfl, ⟨HB.out, B5.out, SR.out, ?_⟩⟩
              rw [show h - t + pre L 0 = h - t by simp [pre]]
              exact TK.out
            case round =>
              as_aux_lemma =>
                clear HB B5 SR TK
                obtain ⟨k, hk, rfl, H⟩ := hrel
                by_cases hkl : k < L.length
                · obtain ⟨X, hX⟩ : ∃ X, L[k]? = some X := ⟨_, List.getElem?_eq_getElem hkl⟩
                  obtain ⟨y1, y2, y3, y4, y5, y6, y7⟩ := HSP.out.2.2 k X hX
                  have hL2 : L.length ≤ 2 := HSP.out.2.1
                  obtain ⟨gL, rfl, -, -⟩ := H.out.2.2.1.cell k X hX
                  have HY := Aside0.mk (And.intro y3 y7)
                  have HX2 := Aside0.mk hX
                  clear y3 y7 hX
                  go_wp2_with (fail)
                  go_loopw [7, 13] (fun v7 v13 wr => ∃ j : Nat, (j : Int) ≤ X.f1 ∧ v13 = .int .i64 j ∧ Aside0 (Below w.heap.size w wr ∧ wr.heap[b5]? = some (.cells #[.int .i64 s, .int .i64 h', .int .i64 t] 23 (0, 0)) ∧ SpR wr (.slice (some ⟨gL, 0, none⟩) L.length k4) L ∧ Tk wr w.heap.size v7 (seqS s t (h - t + (pre L k + (j : Int))).toNat))) (fun _ v13 _ => X.f1.toNat - (intOf v13).toNat)
                  case atStart =>
                    refine ⟨0, by omega, rfl, ⟨H.out.1, H.out.2.1, H.out.2.2.1, ?_⟩⟩
                    rw [show h - t + (pre L k + ((0 : Nat) : Int)) = h - t + pre L k by omega]
                    exact H.out.2.2.2
                  case round =>
                    as_aux_lemma =>
                      clear H
                      obtain ⟨j, hj, rfl, H⟩ := hrel
                      obtain ⟨gL', e, hc0, hc1⟩ := H.out.2.2.1.cell k X HX2.out
                      cases e
                      by_cases hjl : (j : Int) < X.f1
                      · obtain ⟨nn, hnn⟩ : ∃ nn : Nat, (nn : Int) = h - t + (pre L k + (j : Int)) := ⟨(h - t + (pre L k + (j : Int))).toNat, by have := hm.2.2.2.1; omega⟩
                        have hns : (nn : Int) < s := by have := hm'.2.2.2.2.2; omega
                        have hTk := H.out.2.2.2
                        rw [← hnn, Int.toNat_natCast] at hTk
                        have hat : X.f0 + (j : Int) = (t + (nn : Int)) % s := by
                          rw [HY.out.2 j (by omega) hjl]
                          congr 1
                          omega
                        obtain ⟨At, ct, rfl, hTc⟩ := hTk.seq
                        have HT := Aside0.mk hTk
                        have HA := Aside0.mk hat
                        have HTc := Aside0.mk hTc
                        have HNN := Aside0.mk hnn
                        have hln : nn ≤ 300 := by omega
                        clear hTk hat hTc hnn
                        go_wp2_with (fail)
                        go_loopw [15] (fun v15 wq => ∃ q : Nat, q ≤ nn ∧ v15 = .int .i64 q ∧ wq = wr) (fun v15 _ => nn - (intOf v15).toNat)
                        case atStart => exact ⟨0, by omega, rfl, rfl⟩
                        case round =>
                          as_aux_lemma =>
                            obtain ⟨q, hq, rfl, rfl⟩ := hrel
                            by_cases hqn : q < nn
                            · obtain ⟨g, o, rfl, hbg, hcc, hcells⟩ := HTc.out (by omega)
                              have hcq := hcells q hqn
                              have hne := mod_ne s t q nn hqn hns
                              rw [← HA.out] at hne
                              generalize (t + (q : Int)) % s = tq at hcq hne
                              have hnb : (tq == X.f0 + (j : Int)) = false := by simpa using hne
                              clear hcells
                              go_wp2_with (fail)
                              exact ⟨⟨q + 1, by omega, by go_num, trivial⟩, by simp [intOf]; omega⟩
                            · have hqe : q = nn := by omega
                              have HQ := Aside0.mk hqe
                              clear hqe
                              have hbs := H.out.1.size
                              go_wp2_with ((with_reducible refine gate_builtin (b := .append) (xs := #[.tmp 106, .tmp 108]) rfl ?_); at_builtin; refine tk_append w.heap.size rfl (.tmp 106) (.tmp 108) rfl (.slice At nn ct) (seqS s t nn) (X.f0 + (j : Int)) rfl rfl HT.out hbs (by rw [seqS_length]; omega) ?_; intro v1 w1 hT1 hg1)
                              refine ⟨⟨j + 1, by omega, by go_num, ⟨?_⟩⟩, by simp [intOf]; omega⟩
                              have hst := step_push H.out.1 H.out.2.1 H.out.2.2.1 HT.out hT1 hg1 HA.out
                              rw [show (h - t + (pre L k + ((j + 1 : Nat) : Int))).toNat = nn + 1 by have := HNN.out; omega]
                              exact hst
                      · have hje : (j : Int) = X.f1 := by omega
                        go_wp2_with (fail)
                        refine ⟨⟨k + 1, by omega, by go_num, ⟨H.out.1, H.out.2.1, H.out.2.2.1, ?_⟩⟩, by simp [intOf]; omega⟩
                        rw [HY.out.1, ← hje]
                        exact H.out.2.2.2
                · have hke : k = L.length := by omega
                  have hTk := H.out.2.2.2
                  rw [hke, HSP.out.1, show h - t + (h' - h) = h' - t by omega] at hTk
                  obtain ⟨nn, hnn⟩ : ∃ nn : Nat, (nn : Int) = h' - t := ⟨(h' - t).toNat, by have := hm'.2.2.2.1; omega⟩
                  rw [← hnn, Int.toNat_natCast] at hTk
                  obtain ⟨At, ct, rfl, -⟩ := hTk.seq
                  have HTk := Aside0.mk hTk
                  have HK := Aside0.mk hke
                  have AU := Aside0.mk (show ring_Ring_Used.f 3 s h' t = some (nn : Int) by rw [used_yes hm' 3 (by omega), hnn])
                  have AV := Aside0.mk (show ring_Ring_Free.f 3 s h' t = some (s - (nn : Int)) by rw [free_yes hm' 3 (by omega), hnn])
                  have hns : ¬ (s < (nn : Int)) := by have := hm'.2.2.2.2.2; omega
                  have q1 : IntKind.i64.wrap ((nn : Int) + (s - (nn : Int))) = s := by rw [IntWalk.i64_in _ (by omega)]; omega
                  have HNN := Aside0.mk hnn
                  clear hTk hke hnn
                  go_wp2_with (fail)
                  refine start_ (n := 20) (S := fun w' => True) (ds := []) #[false, false, false, false, false, false, false, false, false, false, false, false, false, false, false, false, false, false, false, false] (by kernel_rfl) rfl rfl trivial (fun hHeld => ?_)
                  refine with_tabW back.tab41 back.bits41 (fun HT_ HW_ => ?_)
                  have HB := Aside0.mk (below_step H.out.1 (below_drew (Below.refl _ _)))
                  have B5 := Aside0.mk (blk_below H.out.2.1 (below_drew (Below.refl _ _)))
                  have TK := Aside0.mk (HTk.out.below (below_drew (Below.refl _ _)))
                  generalize wr.drew = wz at HB B5 TK hHeld ⊢
                  clear hHeld H HTk
                  refine pure_ (i := 2) (N := some 163) (v := ?_) (a' := ?_) #[false, false, true, false, false, false, false, false, false, false, false, false, false, false, false, false, false, false, false, false] rfl rfl (any_of HT_.out (by kernel_rfl)) (fun _ _ _ h => h) (Or.inl ⟨by rfl, ?_⟩) ?_ ?_
                  rotate_left
                  · intro w'
                    go_simp
                    with_reducible rfl
                  rotate_left
                  · simp only [Act.put, List.setIfInBounds_toArray, List.set_cons_zero, List.set_cons_succ, i64_w, i32_w]
                    rfl
                  refine inv_at [0, 1, 3, 4, 5, 6, 7, 8, 9, 10, 11, 12, 13, 14, 15, 16, 17, 18, 19] (fun a0_ b a w' => a = putSel a0_ b [(0, 161, .agg #[.int .i64 s, .int .i64 h', .int .i64 t]), (1, 162, .int .i64 (nn : Int)), (3, 164, .int .i64 (nn : Int)), (4, 165, .bool false), (5, 166, .bool false), (6, 167, .agg #[.int .i64 s, .int .i64 h', .int .i64 t]), (7, 168, .int .i64 (nn : Int)), (8, 169, .agg #[.int .i64 s, .int .i64 h', .int .i64 t]), (9, 170, .int .i64 (s - (nn : Int))), (10, 171, .int .i64 s), (11, 172, .int .i64 s), (12, 173, .bool false), (13, 174, .bool false), (14, 175, .bool false), (15, 176, .slice At nn ct), (16, 177, .int .i64 (nn : Int)), (17, 178, .int .i64 s), (18, 179, .bool false), (19, 180, .bool false)] ∧ (Below w.heap.size w w') ∧ (w'.heap[b5]? = some (.cells #[.int .i64 s, .int .i64 h', .int .i64 t] 23 (0, 0))) ∧ (Tk w' w.heap.size (.slice At nn ct) (seqS s t nn))) HT_.out HW_.out (by kernel_rfl) (by kernel_rfl) ?_ ?_ ?_
                  · exact ⟨by simp only [putSel, Bool.false_eq_true, if_false], HB.out, B5.out, TK.out⟩
                  · skip
                    clear B5 HB TK
                    refine steps_cons ?_ ?_
                    · as_aux_lemma =>
                      rintro b a w' ⟨ha, Q_HB, Q_B5, Q_TK⟩ hb_ hon hoff
                      refine ⟨_, rfl, fun K hK => ?_⟩
                      have e5 : a.tmps[5]? = some (.pointer (some ⟨b5, 0, none⟩)) := by rw [ha]; exact (putSel_off rfl).trans rfl
                      replace ha := Aside0.mk ha
                      have HB := Aside0.mk Q_HB
                      have B5 := Aside0.mk Q_B5
                      have TK := Aside0.mk Q_TK
                      have hs0_ : w'.cell? ⟨b5, 0, none⟩ = some (.int .i64 s) := (blk_cell B5.out 0).trans rfl
                      have hs1_ : w'.cell? ⟨b5, 1, none⟩ = some (.int .i64 h') := (blk_cell B5.out 1).trans rfl
                      have hs2_ : w'.cell? ⟨b5, 2, none⟩ = some (.int .i64 t) := (blk_cell B5.out 2).trans rfl
                      refine value_ (w1 := w') (v := .agg #[.int .i64 s, .int .i64 h', .int .i64 t]) (by rfl) rfl ?_ ?_
                      · go_simp
                        (try simp only [i64_w])
                        try rfl
                      refine hK.out _ _ ⟨(by rw [ha.out]; exact putSel_upk 0 hb_ rfl rfl rfl), Q_HB, Q_B5, Q_TK⟩
                    refine steps_cons ?_ ?_
                    · as_aux_lemma =>
                      rintro b a w' ⟨ha, Q_HB, Q_B5, Q_TK⟩ hb_ hon hoff
                      refine ⟨_, rfl, fun K hK => ?_⟩
                      have e161 : a.tmps[161]? = some (.agg #[.int .i64 s, .int .i64 h', .int .i64 t]) := by rw [ha]; exact putSel_on (e := (0, 161, .agg #[.int .i64 s, .int .i64 h', .int .i64 t])) 0 rfl rfl (hon 0 (by kernel_rfl)) rfl
                      replace ha := Aside0.mk ha
                      have HB := Aside0.mk Q_HB
                      have B5 := Aside0.mk Q_B5
                      have TK := Aside0.mk Q_TK
                      refine goes_ Try.func15 (by kernel_rfl) rfl #[.agg #[.int .i64 s, .int .i64 h', .int .i64 t]] (by rfl) rfl rfl (by first | (simp only [List.map_toArray, List.map_cons, List.map_nil, Act.eval, Array.getD_eq_getD_getElem?, Option.getD_some, e161]; done) | (simp only [List.map_toArray, List.map_cons, List.map_nil, Act.eval, Array.getD_eq_getD_getElem?, Option.getD_some, e161]; rfl)) ?_
                      with_reducible refine (ring_Ring_Used.calls 3 s h' t _ _ AU.out).mono ?_
                      rintro e w6 ⟨rfl, hb⟩
                      refine ⟨_, rfl, ?_⟩
                      refine hK.out _ _ ⟨(by rw [ha.out]; exact putSel_upk 1 hb_ rfl rfl rfl), below_step HB.out hb, blk_below B5.out hb, TK.out.below hb⟩
                    refine steps_cons ?_ ?_
                    · as_aux_lemma =>
                      rintro b a w' ⟨ha, Q_HB, Q_B5, Q_TK⟩ hb_ hon hoff
                      refine ⟨_, rfl, fun K hK => ?_⟩
                      have e163 : a.tmps[163]? = some (.slice At nn ct) := by rw [ha]; exact (putSel_off rfl).trans rfl
                      replace ha := Aside0.mk ha
                      have HB := Aside0.mk Q_HB
                      have B5 := Aside0.mk Q_B5
                      have TK := Aside0.mk Q_TK
                      refine value_ (w1 := w') (v := .int .i64 (nn : Int)) (by rfl) rfl ?_ ?_
                      · go_simp
                        (try simp only [i64_w])
                        try rfl
                      refine hK.out _ _ ⟨(by rw [ha.out]; exact putSel_upk 2 hb_ rfl rfl rfl), Q_HB, Q_B5, Q_TK⟩
                    refine steps_cons ?_ ?_
                    · as_aux_lemma =>
                      rintro b a w' ⟨ha, Q_HB, Q_B5, Q_TK⟩ hb_ hon hoff
                      refine ⟨_, rfl, fun K hK => ?_⟩
                      have e162 : a.tmps[162]? = some (.int .i64 (nn : Int)) := by rw [ha]; exact putSel_on (e := (1, 162, .int .i64 (nn : Int))) 1 rfl rfl (hon 1 (by kernel_rfl)) rfl
                      have e164 : a.tmps[164]? = some (.int .i64 (nn : Int)) := by rw [ha]; exact putSel_on (e := (3, 164, .int .i64 (nn : Int))) 2 rfl rfl (hon 3 (by kernel_rfl)) rfl
                      replace ha := Aside0.mk ha
                      have HB := Aside0.mk Q_HB
                      have B5 := Aside0.mk Q_B5
                      have TK := Aside0.mk Q_TK
                      refine value_ (w1 := w') (v := .bool false) (by rfl) rfl ?_ ?_
                      · go_simp
                        (try simp only [i64_w])
                        try rfl
                      refine hK.out _ _ ⟨(by rw [ha.out]; exact putSel_upk 3 hb_ rfl rfl rfl), Q_HB, Q_B5, Q_TK⟩
                    refine steps_cons ?_ ?_
                    · as_aux_lemma =>
                      rintro b a w' ⟨ha, Q_HB, Q_B5, Q_TK⟩ hb_ hon hoff
                      refine ⟨_, rfl, fun K hK => ?_⟩
                      have e165 : a.tmps[165]? = some (.bool false) := by rw [ha]; exact putSel_on (e := (4, 165, .bool false)) 3 rfl rfl (hon 4 (by kernel_rfl)) rfl
                      replace ha := Aside0.mk ha
                      have HB := Aside0.mk Q_HB
                      have B5 := Aside0.mk Q_B5
                      have TK := Aside0.mk Q_TK
                      refine value_ (w1 := w') (v := .bool false) (by rfl) rfl ?_ ?_
                      · go_simp
                        (try simp only [i64_w])
                        try rfl
                      refine hK.out _ _ ⟨(by rw [ha.out]; exact putSel_upk 4 hb_ rfl rfl rfl), Q_HB, Q_B5, Q_TK⟩
                    refine steps_cons ?_ ?_
                    · as_aux_lemma =>
                      rintro b a w' ⟨ha, Q_HB, Q_B5, Q_TK⟩ hb_ hon hoff
                      refine ⟨_, rfl, fun K hK => ?_⟩
                      have e5 : a.tmps[5]? = some (.pointer (some ⟨b5, 0, none⟩)) := by rw [ha]; exact (putSel_off rfl).trans rfl
                      have e166 : a.tmps[166]? = some (.bool false) := by rw [ha]; exact putSel_on (e := (5, 166, .bool false)) 4 rfl rfl (hon 5 (by kernel_rfl)) rfl
                      replace ha := Aside0.mk ha
                      have HB := Aside0.mk Q_HB
                      have B5 := Aside0.mk Q_B5
                      have TK := Aside0.mk Q_TK
                      have hs0_ : w'.cell? ⟨b5, 0, none⟩ = some (.int .i64 s) := (blk_cell B5.out 0).trans rfl
                      have hs1_ : w'.cell? ⟨b5, 1, none⟩ = some (.int .i64 h') := (blk_cell B5.out 1).trans rfl
                      have hs2_ : w'.cell? ⟨b5, 2, none⟩ = some (.int .i64 t) := (blk_cell B5.out 2).trans rfl
                      refine value_ (w1 := w') (v := .agg #[.int .i64 s, .int .i64 h', .int .i64 t]) (wanted_on rfl rfl rfl (e166.trans (by first | rfl | (simp [*]; done)))) rfl ?_ ?_
                      · go_simp
                        (try simp only [i64_w])
                        try rfl
                      refine hK.out _ _ ⟨(by rw [ha.out]; exact putSel_upk 5 hb_ rfl rfl rfl), Q_HB, Q_B5, Q_TK⟩
                    refine steps_cons ?_ ?_
                    · as_aux_lemma =>
                      rintro b a w' ⟨ha, Q_HB, Q_B5, Q_TK⟩ hb_ hon hoff
                      refine ⟨_, rfl, fun K hK => ?_⟩
                      have e167 : a.tmps[167]? = some (.agg #[.int .i64 s, .int .i64 h', .int .i64 t]) := by rw [ha]; exact putSel_on (e := (6, 167, .agg #[.int .i64 s, .int .i64 h', .int .i64 t])) 5 rfl rfl (hon 6 (by kernel_rfl)) rfl
                      have e166 : a.tmps[166]? = some (.bool false) := by rw [ha]; exact putSel_on (e := (5, 166, .bool false)) 4 rfl rfl (hon 5 (by kernel_rfl)) rfl
                      replace ha := Aside0.mk ha
                      have HB := Aside0.mk Q_HB
                      have B5 := Aside0.mk Q_B5
                      have TK := Aside0.mk Q_TK
                      refine goes_ Try.func15 (by kernel_rfl) rfl #[.agg #[.int .i64 s, .int .i64 h', .int .i64 t]] (wanted_on rfl rfl rfl (e166.trans rfl)) rfl rfl (by first | (simp only [List.map_toArray, List.map_cons, List.map_nil, Act.eval, Array.getD_eq_getD_getElem?, Option.getD_some, e167, e166]; done) | (simp only [List.map_toArray, List.map_cons, List.map_nil, Act.eval, Array.getD_eq_getD_getElem?, Option.getD_some, e167, e166]; rfl)) ?_
                      with_reducible refine (ring_Ring_Used.calls 3 s h' t _ _ AU.out).mono ?_
                      rintro e w6 ⟨rfl, hb⟩
                      refine ⟨_, rfl, ?_⟩
                      refine hK.out _ _ ⟨(by rw [ha.out]; exact putSel_upk 6 hb_ rfl rfl rfl), below_step HB.out hb, blk_below B5.out hb, TK.out.below hb⟩
                    refine steps_cons ?_ ?_
                    · as_aux_lemma =>
                      rintro b a w' ⟨ha, Q_HB, Q_B5, Q_TK⟩ hb_ hon hoff
                      refine ⟨_, rfl, fun K hK => ?_⟩
                      have e5 : a.tmps[5]? = some (.pointer (some ⟨b5, 0, none⟩)) := by rw [ha]; exact (putSel_off rfl).trans rfl
                      have e166 : a.tmps[166]? = some (.bool false) := by rw [ha]; exact putSel_on (e := (5, 166, .bool false)) 4 rfl rfl (hon 5 (by kernel_rfl)) rfl
                      replace ha := Aside0.mk ha
                      have HB := Aside0.mk Q_HB
                      have B5 := Aside0.mk Q_B5
                      have TK := Aside0.mk Q_TK
                      have hs0_ : w'.cell? ⟨b5, 0, none⟩ = some (.int .i64 s) := (blk_cell B5.out 0).trans rfl
                      have hs1_ : w'.cell? ⟨b5, 1, none⟩ = some (.int .i64 h') := (blk_cell B5.out 1).trans rfl
                      have hs2_ : w'.cell? ⟨b5, 2, none⟩ = some (.int .i64 t) := (blk_cell B5.out 2).trans rfl
                      refine value_ (w1 := w') (v := .agg #[.int .i64 s, .int .i64 h', .int .i64 t]) (wanted_on rfl rfl rfl (e166.trans (by first | rfl | (simp [*]; done)))) rfl ?_ ?_
                      · go_simp
                        (try simp only [i64_w])
                        try rfl
                      refine hK.out _ _ ⟨(by rw [ha.out]; exact putSel_upk 7 hb_ rfl rfl rfl), Q_HB, Q_B5, Q_TK⟩
                    refine steps_cons ?_ ?_
                    · as_aux_lemma =>
                      rintro b a w' ⟨ha, Q_HB, Q_B5, Q_TK⟩ hb_ hon hoff
                      refine ⟨_, rfl, fun K hK => ?_⟩
                      have e169 : a.tmps[169]? = some (.agg #[.int .i64 s, .int .i64 h', .int .i64 t]) := by rw [ha]; exact putSel_on (e := (8, 169, .agg #[.int .i64 s, .int .i64 h', .int .i64 t])) 7 rfl rfl (hon 8 (by kernel_rfl)) rfl
                      have e166 : a.tmps[166]? = some (.bool false) := by rw [ha]; exact putSel_on (e := (5, 166, .bool false)) 4 rfl rfl (hon 5 (by kernel_rfl)) rfl
                      replace ha := Aside0.mk ha
                      have HB := Aside0.mk Q_HB
                      have B5 := Aside0.mk Q_B5
                      have TK := Aside0.mk Q_TK
                      refine goes_ Try.func20 (by kernel_rfl) rfl #[.agg #[.int .i64 s, .int .i64 h', .int .i64 t]] (wanted_on rfl rfl rfl (e166.trans rfl)) rfl rfl (by first | (simp only [List.map_toArray, List.map_cons, List.map_nil, Act.eval, Array.getD_eq_getD_getElem?, Option.getD_some, e169, e166]; done) | (simp only [List.map_toArray, List.map_cons, List.map_nil, Act.eval, Array.getD_eq_getD_getElem?, Option.getD_some, e169, e166]; rfl)) ?_
                      with_reducible refine (ring_Ring_Free.calls 3 s h' t _ _ AV.out).mono ?_
                      rintro e w6 ⟨rfl, hb⟩
                      refine ⟨_, rfl, ?_⟩
                      refine hK.out _ _ ⟨(by rw [ha.out]; exact putSel_upk 8 hb_ rfl rfl rfl), below_step HB.out hb, blk_below B5.out hb, TK.out.below hb⟩
                    refine steps_cons ?_ ?_
                    · as_aux_lemma =>
                      rintro b a w' ⟨ha, Q_HB, Q_B5, Q_TK⟩ hb_ hon hoff
                      refine ⟨_, rfl, fun K hK => ?_⟩
                      have e168 : a.tmps[168]? = some (.int .i64 (nn : Int)) := by rw [ha]; exact putSel_on (e := (7, 168, .int .i64 (nn : Int))) 6 rfl rfl (hon 7 (by kernel_rfl)) rfl
                      have e170 : a.tmps[170]? = some (.int .i64 (s - (nn : Int))) := by rw [ha]; exact putSel_on (e := (9, 170, .int .i64 (s - (nn : Int)))) 8 rfl rfl (hon 9 (by kernel_rfl)) rfl
                      have e166 : a.tmps[166]? = some (.bool false) := by rw [ha]; exact putSel_on (e := (5, 166, .bool false)) 4 rfl rfl (hon 5 (by kernel_rfl)) rfl
                      replace ha := Aside0.mk ha
                      have HB := Aside0.mk Q_HB
                      have B5 := Aside0.mk Q_B5
                      have TK := Aside0.mk Q_TK
                      refine value_ (w1 := w') (v := .int .i64 s) (wanted_on rfl rfl rfl (e166.trans (by first | rfl | (simp [*]; done)))) rfl ?_ ?_
                      · go_simp
                        (try simp only [i64_w])
                        try rfl
                      refine hK.out _ _ ⟨(by rw [ha.out]; exact putSel_upk 9 hb_ rfl rfl rfl), Q_HB, Q_B5, Q_TK⟩
                    refine steps_cons ?_ ?_
                    · as_aux_lemma =>
                      rintro b a w' ⟨ha, Q_HB, Q_B5, Q_TK⟩ hb_ hon hoff
                      refine ⟨_, rfl, fun K hK => ?_⟩
                      have e0 : a.tmps[0]? = some (.int .i64 s) := by rw [ha]; exact (putSel_off rfl).trans rfl
                      have e166 : a.tmps[166]? = some (.bool false) := by rw [ha]; exact putSel_on (e := (5, 166, .bool false)) 4 rfl rfl (hon 5 (by kernel_rfl)) rfl
                      replace ha := Aside0.mk ha
                      have HB := Aside0.mk Q_HB
                      have B5 := Aside0.mk Q_B5
                      have TK := Aside0.mk Q_TK
                      refine value_ (w1 := w') (v := .int .i64 s) (wanted_on rfl rfl rfl (e166.trans (by first | rfl | (simp [*]; done)))) rfl ?_ ?_
                      · go_simp
                        (try simp only [i64_w])
                        try rfl
                      refine hK.out _ _ ⟨(by rw [ha.out]; exact putSel_upk 10 hb_ rfl rfl rfl), Q_HB, Q_B5, Q_TK⟩
                    refine steps_cons ?_ ?_
                    · as_aux_lemma =>
                      rintro b a w' ⟨ha, Q_HB, Q_B5, Q_TK⟩ hb_ hon hoff
                      refine ⟨_, rfl, fun K hK => ?_⟩
                      have e171 : a.tmps[171]? = some (.int .i64 s) := by rw [ha]; exact putSel_on (e := (10, 171, .int .i64 s)) 9 rfl rfl (hon 10 (by kernel_rfl)) rfl
                      have e172 : a.tmps[172]? = some (.int .i64 s) := by rw [ha]; exact putSel_on (e := (11, 172, .int .i64 s)) 10 rfl rfl (hon 11 (by kernel_rfl)) rfl
                      have e166 : a.tmps[166]? = some (.bool false) := by rw [ha]; exact putSel_on (e := (5, 166, .bool false)) 4 rfl rfl (hon 5 (by kernel_rfl)) rfl
                      replace ha := Aside0.mk ha
                      have HB := Aside0.mk Q_HB
                      have B5 := Aside0.mk Q_B5
                      have TK := Aside0.mk Q_TK
                      refine value_ (w1 := w') (v := .bool false) (wanted_on rfl rfl rfl (e166.trans (by first | rfl | (simp [*]; done)))) rfl ?_ ?_
                      · go_simp
                        (try simp only [i64_w])
                        try rfl
                      refine hK.out _ _ ⟨(by rw [ha.out]; exact putSel_upk 11 hb_ rfl rfl rfl), Q_HB, Q_B5, Q_TK⟩
                    refine steps_cons ?_ ?_
                    · as_aux_lemma =>
                      rintro b a w' ⟨ha, Q_HB, Q_B5, Q_TK⟩ hb_ hon hoff
                      refine ⟨_, rfl, fun K hK => ?_⟩
                      have e166 : a.tmps[166]? = some (.bool false) := by rw [ha]; exact putSel_on (e := (5, 166, .bool false)) 4 rfl rfl (hon 5 (by kernel_rfl)) rfl
                      have e173 : a.tmps[173]? = some (.bool false) := by rw [ha]; exact putSel_on (e := (12, 173, .bool false)) 11 rfl rfl (hon 12 (by kernel_rfl)) rfl
                      replace ha := Aside0.mk ha
                      have HB := Aside0.mk Q_HB
                      have B5 := Aside0.mk Q_B5
                      have TK := Aside0.mk Q_TK
                      refine value_ (w1 := w') (v := .bool false) (by rfl) rfl ?_ ?_
                      · go_simp
                        (try simp only [i64_w])
                        try rfl
                      refine hK.out _ _ ⟨(by rw [ha.out]; exact putSel_upk 12 hb_ rfl rfl rfl), Q_HB, Q_B5, Q_TK⟩
                    refine steps_cons ?_ ?_
                    · as_aux_lemma =>
                      rintro b a w' ⟨ha, Q_HB, Q_B5, Q_TK⟩ hb_ hon hoff
                      refine ⟨_, rfl, fun K hK => ?_⟩
                      have e174 : a.tmps[174]? = some (.bool false) := by rw [ha]; exact putSel_on (e := (13, 174, .bool false)) 12 rfl rfl (hon 13 (by kernel_rfl)) rfl
                      replace ha := Aside0.mk ha
                      have HB := Aside0.mk Q_HB
                      have B5 := Aside0.mk Q_B5
                      have TK := Aside0.mk Q_TK
                      refine value_ (w1 := w') (v := .bool false) (by rfl) rfl ?_ ?_
                      · go_simp
                        (try simp only [i64_w])
                        try rfl
                      refine hK.out _ _ ⟨(by rw [ha.out]; exact putSel_upk 13 hb_ rfl rfl rfl), Q_HB, Q_B5, Q_TK⟩
                    refine steps_cons ?_ ?_
                    · as_aux_lemma =>
                      rintro b a w' ⟨ha, Q_HB, Q_B5, Q_TK⟩ hb_ hon hoff
                      refine ⟨_, rfl, fun K hK => ?_⟩
                      have e7 : a.tmps[7]? = some (.slice At nn ct) := by rw [ha]; exact (putSel_off rfl).trans rfl
                      have e175 : a.tmps[175]? = some (.bool false) := by rw [ha]; exact putSel_on (e := (14, 175, .bool false)) 13 rfl rfl (hon 14 (by kernel_rfl)) rfl
                      replace ha := Aside0.mk ha
                      have HB := Aside0.mk Q_HB
                      have B5 := Aside0.mk Q_B5
                      have TK := Aside0.mk Q_TK
                      refine value_ (w1 := w') (v := .slice At nn ct) (wanted_on rfl rfl rfl (e175.trans (by first | rfl | (simp [*]; done)))) rfl ?_ ?_
                      · go_simp
                        (try simp only [i64_w])
                        try rfl
                      refine hK.out _ _ ⟨(by rw [ha.out]; exact putSel_upk 14 hb_ rfl rfl rfl), Q_HB, Q_B5, Q_TK⟩
                    refine steps_cons ?_ ?_
                    · as_aux_lemma =>
                      rintro b a w' ⟨ha, Q_HB, Q_B5, Q_TK⟩ hb_ hon hoff
                      refine ⟨_, rfl, fun K hK => ?_⟩
                      have e176 : a.tmps[176]? = some (.slice At nn ct) := by rw [ha]; exact putSel_on (e := (15, 176, .slice At nn ct)) 14 rfl rfl (hon 15 (by kernel_rfl)) rfl
                      have e175 : a.tmps[175]? = some (.bool false) := by rw [ha]; exact putSel_on (e := (14, 175, .bool false)) 13 rfl rfl (hon 14 (by kernel_rfl)) rfl
                      replace ha := Aside0.mk ha
                      have HB := Aside0.mk Q_HB
                      have B5 := Aside0.mk Q_B5
                      have TK := Aside0.mk Q_TK
                      refine value_ (w1 := w') (v := .int .i64 (nn : Int)) (wanted_on rfl rfl rfl (e175.trans (by first | rfl | (simp [*]; done)))) rfl ?_ ?_
                      · go_simp
                        (try simp only [i64_w])
                        try rfl
                      refine hK.out _ _ ⟨(by rw [ha.out]; exact putSel_upk 15 hb_ rfl rfl rfl), Q_HB, Q_B5, Q_TK⟩
                    refine steps_cons ?_ ?_
                    · as_aux_lemma =>
                      rintro b a w' ⟨ha, Q_HB, Q_B5, Q_TK⟩ hb_ hon hoff
                      refine ⟨_, rfl, fun K hK => ?_⟩
                      have e0 : a.tmps[0]? = some (.int .i64 s) := by rw [ha]; exact (putSel_off rfl).trans rfl
                      have e175 : a.tmps[175]? = some (.bool false) := by rw [ha]; exact putSel_on (e := (14, 175, .bool false)) 13 rfl rfl (hon 14 (by kernel_rfl)) rfl
                      replace ha := Aside0.mk ha
                      have HB := Aside0.mk Q_HB
                      have B5 := Aside0.mk Q_B5
                      have TK := Aside0.mk Q_TK
                      refine value_ (w1 := w') (v := .int .i64 s) (wanted_on rfl rfl rfl (e175.trans (by first | rfl | (simp [*]; done)))) rfl ?_ ?_
                      · go_simp
                        (try simp only [i64_w])
                        try rfl
                      refine hK.out _ _ ⟨(by rw [ha.out]; exact putSel_upk 16 hb_ rfl rfl rfl), Q_HB, Q_B5, Q_TK⟩
                    refine steps_cons ?_ ?_
                    · as_aux_lemma =>
                      rintro b a w' ⟨ha, Q_HB, Q_B5, Q_TK⟩ hb_ hon hoff
                      refine ⟨_, rfl, fun K hK => ?_⟩
                      have e177 : a.tmps[177]? = some (.int .i64 (nn : Int)) := by rw [ha]; exact putSel_on (e := (16, 177, .int .i64 (nn : Int))) 15 rfl rfl (hon 16 (by kernel_rfl)) rfl
                      have e178 : a.tmps[178]? = some (.int .i64 s) := by rw [ha]; exact putSel_on (e := (17, 178, .int .i64 s)) 16 rfl rfl (hon 17 (by kernel_rfl)) rfl
                      have e175 : a.tmps[175]? = some (.bool false) := by rw [ha]; exact putSel_on (e := (14, 175, .bool false)) 13 rfl rfl (hon 14 (by kernel_rfl)) rfl
                      replace ha := Aside0.mk ha
                      have HB := Aside0.mk Q_HB
                      have B5 := Aside0.mk Q_B5
                      have TK := Aside0.mk Q_TK
                      refine value_ (w1 := w') (v := .bool false) (wanted_on rfl rfl rfl (e175.trans (by first | rfl | (simp [*]; done)))) rfl ?_ ?_
                      · go_simp
                        (try simp only [i64_w])
                        try rfl
                      refine hK.out _ _ ⟨(by rw [ha.out]; exact putSel_upk 17 hb_ rfl rfl rfl), Q_HB, Q_B5, Q_TK⟩
                    refine steps_cons ?_ ?_
                    · as_aux_lemma =>
                      rintro b a w' ⟨ha, Q_HB, Q_B5, Q_TK⟩ hb_ hon hoff
                      refine ⟨_, rfl, fun K hK => ?_⟩
                      have e175 : a.tmps[175]? = some (.bool false) := by rw [ha]; exact putSel_on (e := (14, 175, .bool false)) 13 rfl rfl (hon 14 (by kernel_rfl)) rfl
                      have e179 : a.tmps[179]? = some (.bool false) := by rw [ha]; exact putSel_on (e := (18, 179, .bool false)) 17 rfl rfl (hon 18 (by kernel_rfl)) rfl
                      replace ha := Aside0.mk ha
                      have HB := Aside0.mk Q_HB
                      have B5 := Aside0.mk Q_B5
                      have TK := Aside0.mk Q_TK
                      refine value_ (w1 := w') (v := .bool false) (by rfl) rfl ?_ ?_
                      · go_simp
                        (try simp only [i64_w])
                        try rfl
                      refine hK.out _ _ ⟨(by rw [ha.out]; exact putSel_upk 18 hb_ rfl rfl rfl), Q_HB, Q_B5, Q_TK⟩
                    exact steps_nil
                  rintro b a wU hall ⟨ha, Q_HB, Q_B5, Q_TK⟩
                  clear B5 HB TK
                  have hb0_ := hall 0 (by kernel_rfl)
                  have hb1_ := hall 1 (by kernel_rfl)
                  have hb3_ := hall 3 (by kernel_rfl)
                  have hb4_ := hall 4 (by kernel_rfl)
                  have hb5_ := hall 5 (by kernel_rfl)
                  have hb6_ := hall 6 (by kernel_rfl)
                  have hb7_ := hall 7 (by kernel_rfl)
                  have hb8_ := hall 8 (by kernel_rfl)
                  have hb9_ := hall 9 (by kernel_rfl)
                  have hb10_ := hall 10 (by kernel_rfl)
                  have hb11_ := hall 11 (by kernel_rfl)
                  have hb12_ := hall 12 (by kernel_rfl)
                  have hb13_ := hall 13 (by kernel_rfl)
                  have hb14_ := hall 14 (by kernel_rfl)
                  have hb15_ := hall 15 (by kernel_rfl)
                  have hb16_ := hall 16 (by kernel_rfl)
                  have hb17_ := hall 17 (by kernel_rfl)
                  have hb18_ := hall 18 (by kernel_rfl)
                  have hb19_ := hall 19 (by kernel_rfl)
                  subst ha
                  simp only [putSel, hb0_, hb1_, hb3_, hb4_, hb5_, hb6_, hb7_, hb8_, hb9_, hb10_, hb11_, hb12_, hb13_, hb14_, hb15_, hb16_, hb17_, hb18_, hb19_, if_true, Act.put, List.setIfInBounds_toArray, List.set_cons_zero, List.set_cons_succ]
                  have HB := Aside0.mk Q_HB
                  clear Q_HB
                  have B5 := Aside0.mk Q_B5
                  clear Q_B5
                  have TK := Aside0.mk Q_TK
                  clear Q_TK
                  clear hall hb0_ hb1_ hb3_ hb4_ hb5_ hb6_ hb7_ hb8_ hb9_ hb10_ hb11_ hb12_ hb13_ hb14_ hb15_ hb16_ hb17_ hb18_ hb19_
                  clear q1
                  go_wp2_with (fail)
                  refine ⟨⟨i + 1, h', t, by omega, by go_num, by omega, hm', ⟨HB.out, B5.out, ?_⟩⟩, by simp [intOf]; omega⟩
                  rw [← HNN.out, Int.toNat_natCast]
                  exact TK.out
      · have hev : (i : Int).tmod 2 = 1 := by
          rw [Int.tmod_eq_emod_of_nonneg (by omega)] at hev ⊢
          omega
        obtain ⟨t', L, e4, hf, hm', hh1, hh2, hsp, hL⟩ := pop_any x hm (by omega) h2
        have AF := Aside0.mk hf
        have HSP := Aside0.mk hsp
        clear hf hsp
        go_wp2
        have H0 := H
        clear H hB5 z5
        refine start_ (n := 14) (S := fun w' => True) (ds := []) #[false, false, false, false, false, false, false, false, false, false, false, false, false, false] (by kernel_rfl) rfl rfl trivial (fun hHeld => ?_)
        refine with_tabW back.tab28 back.bits28 (fun HT_ HW_ => ?_)
        have HB := Aside0.mk (below_step H0.out.1 (below_drew (Below.refl _ _)))
        have B5 := Aside0.mk (blk_below H0.out.2.1 (below_drew (Below.refl _ _)))
        have TK := Aside0.mk (H0.out.2.2.below (below_drew (Below.refl _ _)))
        generalize wr.drew = wz at HB B5 TK hHeld ⊢
        clear hHeld H0
        refine pure_ (i := 1) (N := some 112) (v := ?_) (a' := ?_) #[false, true, false, false, false, false, false, false, false, false, false, false, false, false] rfl rfl (any_of HT_.out (by kernel_rfl)) (fun _ _ _ h => h) (Or.inl ⟨by rfl, ?_⟩) ?_ ?_
        rotate_left
        · intro w'
          go_simp
          with_reducible rfl
        rotate_left
        · simp only [Act.put, List.setIfInBounds_toArray, List.set_cons_zero, List.set_cons_succ, i64_w, i32_w]
          rfl
        refine pure_ (i := 2) (N := some 113) (v := ?_) (a' := ?_) #[false, true, true, false, false, false, false, false, false, false, false, false, false, false] rfl rfl (any_of HT_.out (by kernel_rfl)) (fun _ _ _ h => h) (Or.inl ⟨by rfl, ?_⟩) ?_ ?_
        rotate_left
        · intro w'
          go_simp
          with_reducible rfl
        rotate_left
        · simp only [Act.put, List.setIfInBounds_toArray, List.set_cons_zero, List.set_cons_succ, i64_w, i32_w]
          rfl
        refine inv_at [0, 3, 4, 5, 6, 7, 8, 9, 10, 11, 12, 13] (fun a0_ b a w' => ∃ (v4 : Value) (gN : Nat) (m5_ : Value) (m6_ : Value) (m8_ : Value) (m10_ : Value) (m12_ : Value), a = putSel a0_ b [(0, 111, .agg #[.int .i64 s, .int .i64 h, .int .i64 t]), (3, 114, .pointer (some (ad.add i))), (4, 115, .int .i64 x), (5, 116, m5_), (6, 110, m6_), (7, 117, .agg #[.int .i64 s, .int .i64 h, .int .i64 t']), (8, 118, m8_), (9, 119, .int .i64 e4), (10, 16, m10_), (12, 17, m12_), (13, 18, .int .i64 e4)] ∧ (Below w.heap.size w w') ∧ (w'.heap[b5]? = some (.cells #[.int .i64 s, .int .i64 h, .int .i64 t] 23 (0, 0))) ∧ (Tk w' w.heap.size u7 (seqS s t (h - t).toNat)) ∧ (b 5 = true → SpR w' v4 L) ∧ (b 10 = true → b 11 = false → w.heap.size ≤ gN ∧ gN ≠ b5 ∧ w'.heap[gN]? = some (.cells #[.int .i64 0, .int .i64 0, .int .i64 0] 23 (0, 0))) ∧ (b 11 = true → w'.heap[gN]? = some (.cells #[.int .i64 s, .int .i64 h, .int .i64 t'] 23 (0, 0))) ∧ (b 5 = true → (m5_ : Value) = .tuple #[.agg #[.int .i64 s, .int .i64 h, .int .i64 t'], v4, .int .i64 e4]) ∧ (b 6 = true → (m6_ : Value) = .tuple #[.agg #[.int .i64 s, .int .i64 h, .int .i64 t'], v4, .int .i64 e4]) ∧ (b 8 = true → (m8_ : Value) = v4) ∧ (b 10 = true → (m10_ : Value) = .pointer (some ⟨gN, 0, none⟩)) ∧ (b 12 = true → (m12_ : Value) = v4)) HT_.out HW_.out (by kernel_rfl) (by kernel_rfl) ?_ ?_ ?_
        · exact ⟨.bool false, 0, .bool false, .bool false, .bool false, .bool false, .bool false, by simp only [putSel, Bool.false_eq_true, if_false], HB.out, B5.out, TK.out, fun h_ => absurd h_ (by decide), fun h_ => absurd h_ (by decide), fun h_ => absurd h_ (by decide), fun h_ => absurd h_ (by decide), fun h_ => absurd h_ (by decide), fun h_ => absurd h_ (by decide), fun h_ => absurd h_ (by decide), fun h_ => absurd h_ (by decide)⟩
        · skip
          clear B5 HB TK
          refine steps_cons ?_ ?_
          · as_aux_lemma =>
            rintro b a w' ⟨v4, gN, m5_, m6_, m8_, m10_, m12_, ha, Q_HB, Q_B5, Q_TK, Q_SR, Q_ZN, Q_XN, Q_X5_, Q_X6_, Q_X8_, Q_X10_, Q_X12_⟩ hb_ hon hoff
            refine ⟨_, rfl, fun K hK => ?_⟩
            have e5 : a.tmps[5]? = some (.pointer (some ⟨b5, 0, none⟩)) := by rw [ha]; exact (putSel_off rfl).trans rfl
            replace ha := Aside0.mk ha
            have HB := Aside0.mk Q_HB
            have B5 := Aside0.mk Q_B5
            have TK := Aside0.mk Q_TK
            have hs0_ : w'.cell? ⟨b5, 0, none⟩ = some (.int .i64 s) := (blk_cell B5.out 0).trans rfl
            have hs1_ : w'.cell? ⟨b5, 1, none⟩ = some (.int .i64 h) := (blk_cell B5.out 1).trans rfl
            have hs2_ : w'.cell? ⟨b5, 2, none⟩ = some (.int .i64 t) := (blk_cell B5.out 2).trans rfl
            refine value_ (w1 := w') (v := .agg #[.int .i64 s, .int .i64 h, .int .i64 t]) (by rfl) rfl ?_ ?_
            · go_simp
              (try simp only [i64_w])
              try rfl
            refine hK.out _ _ ⟨v4, gN, m5_, m6_, m8_, m10_, m12_, (by rw [ha.out]; exact putSel_upk 0 hb_ rfl rfl rfl), Q_HB, Q_B5, Q_TK, fun h0_ => absurd ((hoff 5 (by kernel_rfl)).symm.trans h0_) (by decide), Q_ZN, fun h0_ => absurd ((hoff 11 (by kernel_rfl)).symm.trans h0_) (by decide), fun h0_ => absurd ((hoff 5 (by kernel_rfl)).symm.trans h0_) (by decide), fun h0_ => absurd ((hoff 6 (by kernel_rfl)).symm.trans h0_) (by decide), fun h0_ => absurd ((hoff 8 (by kernel_rfl)).symm.trans h0_) (by decide), Q_X10_, fun h0_ => absurd ((hoff 12 (by kernel_rfl)).symm.trans h0_) (by decide)⟩
          refine steps_cons ?_ ?_
          · as_aux_lemma =>
            rintro b a w' ⟨v4, gN, m5_, m6_, m8_, m10_, m12_, ha, Q_HB, Q_B5, Q_TK, Q_SR, Q_ZN, Q_XN, Q_X5_, Q_X6_, Q_X8_, Q_X10_, Q_X12_⟩ hb_ hon hoff
            refine ⟨_, rfl, fun K hK => ?_⟩
            have e112 : a.tmps[112]? = some (.slice (some ad) l.length c) := by rw [ha]; exact (putSel_off rfl).trans rfl
            have e113 : a.tmps[113]? = some (.int .i64 (i : Int)) := by rw [ha]; exact (putSel_off rfl).trans rfl
            replace ha := Aside0.mk ha
            have HB := Aside0.mk Q_HB
            have B5 := Aside0.mk Q_B5
            have TK := Aside0.mk Q_TK
            refine value_ (w1 := w') (v := .pointer (some (ad.add i))) (by rfl) rfl ?_ ?_
            · go_simp
              (try simp only [i64_w])
              try rfl
            refine hK.out _ _ ⟨v4, gN, m5_, m6_, m8_, m10_, m12_, (by rw [ha.out]; exact putSel_upk 1 hb_ rfl rfl rfl), Q_HB, Q_B5, Q_TK, fun h0_ => absurd ((hoff 5 (by kernel_rfl)).symm.trans h0_) (by decide), Q_ZN, fun h0_ => absurd ((hoff 11 (by kernel_rfl)).symm.trans h0_) (by decide), fun h0_ => absurd ((hoff 5 (by kernel_rfl)).symm.trans h0_) (by decide), fun h0_ => absurd ((hoff 6 (by kernel_rfl)).symm.trans h0_) (by decide), fun h0_ => absurd ((hoff 8 (by kernel_rfl)).symm.trans h0_) (by decide), Q_X10_, fun h0_ => absurd ((hoff 12 (by kernel_rfl)).symm.trans h0_) (by decide)⟩
          refine steps_cons ?_ ?_
          · as_aux_lemma =>
            rintro b a w' ⟨v4, gN, m5_, m6_, m8_, m10_, m12_, ha, Q_HB, Q_B5, Q_TK, Q_SR, Q_ZN, Q_XN, Q_X5_, Q_X6_, Q_X8_, Q_X10_, Q_X12_⟩ hb_ hon hoff
            refine ⟨_, rfl, fun K hK => ?_⟩
            have e114 : a.tmps[114]? = some (.pointer (some (ad.add i))) := by rw [ha]; exact putSel_on (e := (3, 114, .pointer (some (ad.add i)))) 1 rfl rfl (hon 3 (by kernel_rfl)) rfl
            replace ha := Aside0.mk ha
            have HB := Aside0.mk Q_HB
            have B5 := Aside0.mk Q_B5
            have TK := Aside0.mk Q_TK
            have hs_ : w'.cell? (ad.add i) = some (.int .i64 x) := by have h_ := fwd HB.out HX.out; simpa using h_
            refine value_ (w1 := w') (v := .int .i64 x) (by rfl) rfl ?_ ?_
            · go_simp
              (try simp only [i64_w])
              try rfl
            refine hK.out _ _ ⟨v4, gN, m5_, m6_, m8_, m10_, m12_, (by rw [ha.out]; exact putSel_upk 2 hb_ rfl rfl rfl), Q_HB, Q_B5, Q_TK, fun h0_ => absurd ((hoff 5 (by kernel_rfl)).symm.trans h0_) (by decide), Q_ZN, fun h0_ => absurd ((hoff 11 (by kernel_rfl)).symm.trans h0_) (by decide), fun h0_ => absurd ((hoff 5 (by kernel_rfl)).symm.trans h0_) (by decide), fun h0_ => absurd ((hoff 6 (by kernel_rfl)).symm.trans h0_) (by decide), fun h0_ => absurd ((hoff 8 (by kernel_rfl)).symm.trans h0_) (by decide), Q_X10_, fun h0_ => absurd ((hoff 12 (by kernel_rfl)).symm.trans h0_) (by decide)⟩
          refine steps_cons ?_ ?_
          · as_aux_lemma =>
            rintro b a w' ⟨v4, gN, m5_, m6_, m8_, m10_, m12_, ha, Q_HB, Q_B5, Q_TK, Q_SR, Q_ZN, Q_XN, Q_X5_, Q_X6_, Q_X8_, Q_X10_, Q_X12_⟩ hb_ hon hoff
            refine ⟨_, rfl, fun K hK => ?_⟩
            have e111 : a.tmps[111]? = some (.agg #[.int .i64 s, .int .i64 h, .int .i64 t]) := by rw [ha]; exact putSel_on (e := (0, 111, .agg #[.int .i64 s, .int .i64 h, .int .i64 t])) 0 rfl rfl (hon 0 (by kernel_rfl)) rfl
            have e115 : a.tmps[115]? = some (.int .i64 x) := by rw [ha]; exact putSel_on (e := (4, 115, .int .i64 x)) 2 rfl rfl (hon 4 (by kernel_rfl)) rfl
            replace ha := Aside0.mk ha
            have HB := Aside0.mk Q_HB
            have B5 := Aside0.mk Q_B5
            have TK := Aside0.mk Q_TK
            refine goes_ Try.func9 (by kernel_rfl) rfl #[.agg #[.int .i64 s, .int .i64 h, .int .i64 t], .int .i64 x] (by rfl) rfl rfl (by first | (simp only [List.map_toArray, List.map_cons, List.map_nil, Act.eval, Array.getD_eq_getD_getElem?, Option.getD_some, e111, e115]; done) | (simp only [List.map_toArray, List.map_cons, List.map_nil, Act.eval, Array.getD_eq_getD_getElem?, Option.getD_some, e111, e115]; rfl)) ?_
            with_reducible refine (ring_Ring_Pop.calls 3 s h t x _ _ _ _ _ _ AF.out).mono ?_
            rintro e w6 ⟨v4_, rfl, hR, hb⟩
            refine ⟨_, rfl, ?_⟩
            refine hK.out _ _ ⟨v4_, gN, (.tuple #[.agg #[.int .i64 s, .int .i64 h, .int .i64 t'], v4_, .int .i64 e4]), m6_, m8_, m10_, m12_, (by rw [ha.out]; exact putSel_upk 3 hb_ rfl rfl rfl), below_step HB.out hb, blk_below B5.out hb, TK.out.below hb, fun _ => spR_of hR, fun h0_ h1_ => ⟨(Q_ZN h0_ h1_).1, (Q_ZN h0_ h1_).2.1, blk_below (Q_ZN h0_ h1_).2.2 hb⟩, fun h0_ => absurd ((hoff 11 (by kernel_rfl)).symm.trans h0_) (by decide), fun _ => rfl, fun h0_ => absurd ((hoff 6 (by kernel_rfl)).symm.trans h0_) (by decide), fun h0_ => absurd ((hoff 8 (by kernel_rfl)).symm.trans h0_) (by decide), Q_X10_, fun h0_ => absurd ((hoff 12 (by kernel_rfl)).symm.trans h0_) (by decide)⟩
          refine steps_cons ?_ ?_
          · as_aux_lemma =>
            rintro b a w' ⟨v4, gN, m5_, m6_, m8_, m10_, m12_, ha, Q_HB, Q_B5, Q_TK, Q_SR, Q_ZN, Q_XN, Q_X5_, Q_X6_, Q_X8_, Q_X10_, Q_X12_⟩ hb_ hon hoff
            refine ⟨_, rfl, fun K hK => ?_⟩
            have e116 : a.tmps[116]? = some (m5_) := by rw [ha]; exact putSel_on (e := (5, 116, m5_)) 3 rfl rfl (hon 5 (by kernel_rfl)) rfl
            rw [Q_X5_ (hon 5 (by kernel_rfl))] at e116
            replace ha := Aside0.mk ha
            have HB := Aside0.mk Q_HB
            have B5 := Aside0.mk Q_B5
            have TK := Aside0.mk Q_TK
            have SR := Aside0.mk (Q_SR (hon 5 (by kernel_rfl)))
            refine value_ (w1 := w') (v := .tuple #[.agg #[.int .i64 s, .int .i64 h, .int .i64 t'], v4, .int .i64 e4]) (by rfl) rfl ?_ ?_
            · go_simp
              (try simp only [i64_w])
              try rfl
            refine hK.out _ _ ⟨v4, gN, m5_, (.tuple #[.agg #[.int .i64 s, .int .i64 h, .int .i64 t'], v4, .int .i64 e4]), m8_, m10_, m12_, (by rw [ha.out]; exact putSel_upk 4 hb_ rfl rfl rfl), Q_HB, Q_B5, Q_TK, Q_SR, Q_ZN, fun h0_ => absurd ((hoff 11 (by kernel_rfl)).symm.trans h0_) (by decide), Q_X5_, fun _ => rfl, fun h0_ => absurd ((hoff 8 (by kernel_rfl)).symm.trans h0_) (by decide), Q_X10_, fun h0_ => absurd ((hoff 12 (by kernel_rfl)).symm.trans h0_) (by decide)⟩
          refine steps_cons ?_ ?_
          · as_aux_lemma =>
            rintro b a w' ⟨v4, gN, m5_, m6_, m8_, m10_, m12_, ha, Q_HB, Q_B5, Q_TK, Q_SR, Q_ZN, Q_XN, Q_X5_, Q_X6_, Q_X8_, Q_X10_, Q_X12_⟩ hb_ hon hoff
            refine ⟨_, rfl, fun K hK => ?_⟩
            have e110 : a.tmps[110]? = some (m6_) := by rw [ha]; exact putSel_on (e := (6, 110, m6_)) 4 rfl rfl (hon 6 (by kernel_rfl)) rfl
            rw [Q_X6_ (hon 6 (by kernel_rfl))] at e110
            replace ha := Aside0.mk ha
            have HB := Aside0.mk Q_HB
            have B5 := Aside0.mk Q_B5
            have TK := Aside0.mk Q_TK
            have SR := Aside0.mk (Q_SR (hon 5 (by kernel_rfl)))
            refine value_ (w1 := w') (v := .agg #[.int .i64 s, .int .i64 h, .int .i64 t']) (by rfl) rfl ?_ ?_
            · go_simp
              (try simp only [i64_w])
              try rfl
            refine hK.out _ _ ⟨v4, gN, m5_, m6_, m8_, m10_, m12_, (by rw [ha.out]; exact putSel_upk 5 hb_ rfl rfl rfl), Q_HB, Q_B5, Q_TK, Q_SR, Q_ZN, fun h0_ => absurd ((hoff 11 (by kernel_rfl)).symm.trans h0_) (by decide), Q_X5_, Q_X6_, Q_X8_, Q_X10_, fun h0_ => absurd ((hoff 12 (by kernel_rfl)).symm.trans h0_) (by decide)⟩
          refine steps_cons ?_ ?_
          · as_aux_lemma =>
            rintro b a w' ⟨v4, gN, m5_, m6_, m8_, m10_, m12_, ha, Q_HB, Q_B5, Q_TK, Q_SR, Q_ZN, Q_XN, Q_X5_, Q_X6_, Q_X8_, Q_X10_, Q_X12_⟩ hb_ hon hoff
            refine ⟨_, rfl, fun K hK => ?_⟩
            have e110 : a.tmps[110]? = some (m6_) := by rw [ha]; exact putSel_on (e := (6, 110, m6_)) 4 rfl rfl (hon 6 (by kernel_rfl)) rfl
            rw [Q_X6_ (hon 6 (by kernel_rfl))] at e110
            replace ha := Aside0.mk ha
            have HB := Aside0.mk Q_HB
            have B5 := Aside0.mk Q_B5
            have TK := Aside0.mk Q_TK
            have SR := Aside0.mk (Q_SR (hon 5 (by kernel_rfl)))
            refine value_ (w1 := w') (v := v4) (by rfl) rfl ?_ ?_
            · go_simp
              (try simp only [i64_w])
              try rfl
            refine hK.out _ _ ⟨v4, gN, m5_, m6_, (v4), m10_, m12_, (by rw [ha.out]; exact putSel_upk 6 hb_ rfl rfl rfl), Q_HB, Q_B5, Q_TK, Q_SR, Q_ZN, Q_XN, Q_X5_, Q_X6_, fun _ => rfl, Q_X10_, fun h0_ => absurd ((hoff 12 (by kernel_rfl)).symm.trans h0_) (by decide)⟩
          refine steps_cons ?_ ?_
          · as_aux_lemma =>
            rintro b a w' ⟨v4, gN, m5_, m6_, m8_, m10_, m12_, ha, Q_HB, Q_B5, Q_TK, Q_SR, Q_ZN, Q_XN, Q_X5_, Q_X6_, Q_X8_, Q_X10_, Q_X12_⟩ hb_ hon hoff
            refine ⟨_, rfl, fun K hK => ?_⟩
            have e110 : a.tmps[110]? = some (m6_) := by rw [ha]; exact putSel_on (e := (6, 110, m6_)) 4 rfl rfl (hon 6 (by kernel_rfl)) rfl
            rw [Q_X6_ (hon 6 (by kernel_rfl))] at e110
            replace ha := Aside0.mk ha
            have HB := Aside0.mk Q_HB
            have B5 := Aside0.mk Q_B5
            have TK := Aside0.mk Q_TK
            have SR := Aside0.mk (Q_SR (hon 5 (by kernel_rfl)))
            refine value_ (w1 := w') (v := .int .i64 e4) (by rfl) rfl ?_ ?_
            · go_simp
              (try simp only [i64_w])
              try rfl
            refine hK.out _ _ ⟨v4, gN, m5_, m6_, m8_, m10_, m12_, (by rw [ha.out]; exact putSel_upk 7 hb_ rfl rfl rfl), Q_HB, Q_B5, Q_TK, Q_SR, Q_ZN, Q_XN, Q_X5_, Q_X6_, Q_X8_, Q_X10_, Q_X12_⟩
          refine steps_cons ?_ ?_
          · as_aux_lemma =>
            rintro b a w' ⟨v4, gN, m5_, m6_, m8_, m10_, m12_, ha, Q_HB, Q_B5, Q_TK, Q_SR, Q_ZN, Q_XN, Q_X5_, Q_X6_, Q_X8_, Q_X10_, Q_X12_⟩ hb_ hon hoff
            refine ⟨_, rfl, fun K hK => ?_⟩
            replace ha := Aside0.mk ha
            have HB := Aside0.mk Q_HB
            have B5 := Aside0.mk Q_B5
            have TK := Aside0.mk Q_TK
            refine value_ (w1 := ?_) (v := ?_) (by rfl) rfl ?_ ?_
            rotate_left 2
            · go_simp
              constructor
              · rfl
              · rfl
            refine hK.out _ _ ⟨v4, w'.heap.size, m5_, m6_, m8_, (.pointer (some ⟨w'.heap.size, 0, none⟩)), m12_, (by rw [ha.out]; exact putSel_upk 8 hb_ rfl rfl rfl), below_alloc HB.out _, blk_alloc B5.out _, TK.out.below (below_alloc (Below.refl _ _) _), fun h0_ => (Q_SR h0_).below (below_alloc (Below.refl _ _) _), fun _ _ => ⟨HB.out.size, fun e => by have := blk_lt B5.out; omega, blk_new _ _⟩, fun h0_ => absurd ((hoff 11 (by kernel_rfl)).symm.trans h0_) (by decide), Q_X5_, Q_X6_, Q_X8_, fun _ => rfl, fun h0_ => absurd ((hoff 12 (by kernel_rfl)).symm.trans h0_) (by decide)⟩
          refine steps_cons ?_ ?_
          · as_aux_lemma =>
            rintro b a w' ⟨v4, gN, m5_, m6_, m8_, m10_, m12_, ha, Q_HB, Q_B5, Q_TK, Q_SR, Q_ZN, Q_XN, Q_X5_, Q_X6_, Q_X8_, Q_X10_, Q_X12_⟩ hb_ hon hoff
            refine ⟨_, rfl, fun K hK => ?_⟩
            have e16 : a.tmps[16]? = some (m10_) := by rw [ha]; exact putSel_on (e := (10, 16, m10_)) 8 rfl rfl (hon 10 (by kernel_rfl)) rfl
            rw [Q_X10_ (hon 10 (by kernel_rfl))] at e16
            have e117 : a.tmps[117]? = some (.agg #[.int .i64 s, .int .i64 h, .int .i64 t']) := by rw [ha]; exact putSel_on (e := (7, 117, .agg #[.int .i64 s, .int .i64 h, .int .i64 t'])) 5 rfl rfl (hon 7 (by kernel_rfl)) rfl
            replace ha := Aside0.mk ha
            have HB := Aside0.mk Q_HB
            have B5 := Aside0.mk Q_B5
            have TK := Aside0.mk Q_TK
            have SR := Aside0.mk (Q_SR (hon 5 (by kernel_rfl)))
            have ZN := Aside0.mk (Q_ZN (hon 10 (by kernel_rfl)) hb_)
            have hz_ := blk_lt ZN.out.2.2
            have hf0_ := blk_frozen ZN.out.2.2 0
            have hf1_ := blk_frozen ZN.out.2.2 1
            have hf2_ := blk_frozen ZN.out.2.2 2
            have hc0_ := (blk_cell ZN.out.2.2 0).trans rfl
            have hc1_ := (blk_cell ZN.out.2.2 1).trans rfl
            have hc2_ := (blk_cell ZN.out.2.2 2).trans rfl
            refine skip_ (w1 := ?_) (by rfl) rfl ?_ ?_
            rotate_left
            · go_simp
              rfl
            have hS_ := set3 (.int .i64 s) (.int .i64 h) (.int .i64 t') ZN.out.2.2
            refine hK.out _ _ ⟨v4, gN, m5_, m6_, m8_, m10_, m12_, (by rw [ha.out]; exact putSel_none (v := undef) rfl), HB.out.grown hS_.2 HB.out.size (fun k hk => by obtain rfl := Option.some.inj hk; exact ZN.out.1), blk_grown B5.out hS_.2 (fun e => ZN.out.2.1 (Option.some.inj e).symm), TK.out.grown hS_.2 (some_row ZN.out.2.2 (by decide)), fun _ => SR.out.grown hS_.2 (some_row ZN.out.2.2 (by decide)), fun _ h1_ => absurd ((up_self b 11).symm.trans h1_) (by decide), fun _ => hS_.1, Q_X5_, Q_X6_, Q_X8_, Q_X10_, fun h0_ => absurd ((hoff 12 (by kernel_rfl)).symm.trans h0_) (by decide)⟩
          refine steps_cons ?_ ?_
          · as_aux_lemma =>
            rintro b a w' ⟨v4, gN, m5_, m6_, m8_, m10_, m12_, ha, Q_HB, Q_B5, Q_TK, Q_SR, Q_ZN, Q_XN, Q_X5_, Q_X6_, Q_X8_, Q_X10_, Q_X12_⟩ hb_ hon hoff
            refine ⟨_, rfl, fun K hK => ?_⟩
            have e118 : a.tmps[118]? = some (m8_) := by rw [ha]; exact putSel_on (e := (8, 118, m8_)) 6 rfl rfl (hon 8 (by kernel_rfl)) rfl
            rw [Q_X8_ (hon 8 (by kernel_rfl))] at e118
            replace ha := Aside0.mk ha
            have HB := Aside0.mk Q_HB
            have B5 := Aside0.mk Q_B5
            have TK := Aside0.mk Q_TK
            have SR := Aside0.mk (Q_SR (hon 5 (by kernel_rfl)))
            have XN := Aside0.mk (Q_XN (hon 11 (by kernel_rfl)))
            refine value_ (w1 := w') (v := v4) (by rfl) rfl ?_ ?_
            · go_simp
              (try simp only [i64_w])
              try rfl
            refine hK.out _ _ ⟨v4, gN, m5_, m6_, m8_, m10_, (v4), (by rw [ha.out]; exact putSel_upk 9 hb_ rfl rfl rfl), Q_HB, Q_B5, Q_TK, Q_SR, fun _ h1_ => absurd ((hon 11 (by kernel_rfl)).symm.trans h1_) (by decide), Q_XN, Q_X5_, Q_X6_, Q_X8_, Q_X10_, fun _ => rfl⟩
          refine steps_cons ?_ ?_
          · as_aux_lemma =>
            rintro b a w' ⟨v4, gN, m5_, m6_, m8_, m10_, m12_, ha, Q_HB, Q_B5, Q_TK, Q_SR, Q_ZN, Q_XN, Q_X5_, Q_X6_, Q_X8_, Q_X10_, Q_X12_⟩ hb_ hon hoff
            refine ⟨_, rfl, fun K hK => ?_⟩
            have e119 : a.tmps[119]? = some (.int .i64 e4) := by rw [ha]; exact putSel_on (e := (9, 119, .int .i64 e4)) 7 rfl rfl (hon 9 (by kernel_rfl)) rfl
            replace ha := Aside0.mk ha
            have HB := Aside0.mk Q_HB
            have B5 := Aside0.mk Q_B5
            have TK := Aside0.mk Q_TK
            have SR := Aside0.mk (Q_SR (hon 5 (by kernel_rfl)))
            have XN := Aside0.mk (Q_XN (hon 11 (by kernel_rfl)))
            refine value_ (w1 := w') (v := .int .i64 e4) (by rfl) rfl ?_ ?_
            · go_simp
              (try simp only [i64_w])
              try rfl
            refine hK.out _ _ ⟨v4, gN, m5_, m6_, m8_, m10_, m12_, (by rw [ha.out]; exact putSel_upk 10 hb_ rfl rfl rfl), Q_HB, Q_B5, Q_TK, Q_SR, fun _ h1_ => absurd ((hon 11 (by kernel_rfl)).symm.trans h1_) (by decide), Q_XN, Q_X5_, Q_X6_, Q_X8_, Q_X10_, Q_X12_⟩
          exact steps_nil
        rintro b a wA hall ⟨v4, gN, m5_, m6_, m8_, m10_, m12_, ha, Q_HB, Q_B5, Q_TK, Q_SR, Q_ZN, Q_XN, Q_X5_, Q_X6_, Q_X8_, Q_X10_, Q_X12_⟩
        clear B5 HB TK
        have hb0_ := hall 0 (by kernel_rfl)
        have hb3_ := hall 3 (by kernel_rfl)
        have hb4_ := hall 4 (by kernel_rfl)
        have hb5_ := hall 5 (by kernel_rfl)
        have hb6_ := hall 6 (by kernel_rfl)
        have hb7_ := hall 7 (by kernel_rfl)
        have hb8_ := hall 8 (by kernel_rfl)
        have hb9_ := hall 9 (by kernel_rfl)
        have hb10_ := hall 10 (by kernel_rfl)
        have hb11_ := hall 11 (by kernel_rfl)
        have hb12_ := hall 12 (by kernel_rfl)
        have hb13_ := hall 13 (by kernel_rfl)
        subst ha
        obtain rfl := Q_X5_ hb5_
        obtain rfl := Q_X6_ hb6_
        obtain rfl := Q_X8_ hb8_
        obtain rfl := Q_X10_ hb10_
        obtain rfl := Q_X12_ hb12_
        simp only [putSel, hb0_, hb3_, hb4_, hb5_, hb6_, hb7_, hb8_, hb9_, hb10_, hb11_, hb12_, hb13_, if_true, Act.put, List.setIfInBounds_toArray, List.set_cons_zero, List.set_cons_succ]
        have HB := Aside0.mk Q_HB
        clear Q_HB
        have B5 := Aside0.mk Q_B5
        clear Q_B5
        have TK := Aside0.mk Q_TK
        clear Q_TK
        have SR := Aside0.mk (Q_SR hb5_)
        clear Q_SR
        clear Q_ZN
        have XN := Aside0.mk (Q_XN hb11_)
        clear Q_XN
        clear hall hb0_ hb3_ hb4_ hb5_ hb6_ hb7_ hb8_ hb9_ hb10_ hb11_ hb12_ hb13_
        obtain ⟨S4, k4, rfl⟩ := SR.out.shape
        have c0 := three XN.out
        have d0 := three B5.out
        obtain ⟨⟨c0, c1, c2⟩, -⟩ := c0
        obtain ⟨⟨d0, d1, d2⟩, f0, f1, f2⟩ := d0
        have z5 := blk_lt B5.out
        have zN := blk_lt XN.out
        have hS_ := set3 (.int .i64 s) (.int .i64 h) (.int .i64 t') B5.out
        have HB := Aside0.mk (HB.out.grown hS_.2 HB.out.size (fun k hk => by obtain rfl := Option.some.inj hk; exact H5.out))
        have TK := Aside0.mk (TK.out.grown hS_.2 (some_row B5.out (by decide)))
        have SR := Aside0.mk (SR.out.grown hS_.2 (some_row B5.out (by decide)))
        have B5 := Aside0.mk hS_.1
        clear hS_ XN
        have he4 : e4 = 0 ∨ (¬ e4 = 0 ∧ L = []) := by
          rcases hL with hL | hL
          · exact .inl hL
          · by_cases h0 : e4 = 0
            · exact .inl h0
            · exact .inr ⟨h0, hL⟩
        clear hL
        have HL := Aside0.mk he4
        clear he4
        generalize hW : (((wA.setCell ⟨b5, 0, none⟩ (.int .i64 s)).setCell ⟨b5, 1, none⟩ (.int .i64 h)).setCell ⟨b5, 2, none⟩ (.int .i64 t')) = wB at HB TK SR B5
        have HW := Aside0.mk hW
        clear hW
        go_upto_region 30 with (fail)
        go_cut [127] (fun s127 wx => s127 = .bool false ∧ wx = wB)
        case first =>
          as_aux_lemma =>
            rcases HL.out with rfl | ⟨he, rfl⟩
            · go_wp2_with (fail)
              go_meet
              case rel => exact ⟨rfl, HW.out⟩
            · go_wp2_with (fail)
              go_meet
              case rel => exact ⟨rfl, HW.out⟩
        case rest =>
          as_aux_lemma =>
            obtain ⟨rfl, rfl⟩ := hcut
            clear HW c0 c1 c2 d0 d1 d2 f0 f1 f2 z5 zN
            have zB := blk_lt B5.out
            go_wp2_with (fail)
            go_loopw [7, 19] (fun v7 v19 wr => ∃ k : Nat, k ≤ L.length ∧ v19 = .int .i64 k ∧ Aside0 (Below w.heap.size w wr ∧ wr.heap[b5]? = some (.cells #[.int .i64 s, .int .i64 h, .int .i64 t'] 23 (0, 0)) ∧ SpR wr (.slice S4 L.length k4) L ∧ Tk wr w.heap.size v7 (seqS s (t + pre L k) (h - (t + pre L k)).toNat))) (fun _ v19 _ => L.length - (intOf v19).toNat)
            case atStart => 
              refine ⟨0, by omega, rfl, ⟨HB.out, B5.out, SR.out, ?_⟩⟩
              rw [show t + pre L 0 = t by simp [pre]]
              exact TK.out
            case round =>
              as_aux_lemma =>
                clear HB B5 SR TK
                obtain ⟨k, hk, rfl, H⟩ := hrel
                by_cases hkl : k < L.length
                · obtain ⟨X, hX⟩ : ∃ X, L[k]? = some X := ⟨_, List.getElem?_eq_getElem hkl⟩
                  obtain ⟨y1, y2, y3, y4, y5, y6, y7⟩ := HSP.out.2.2 k X hX
                  have hL2 : L.length ≤ 2 := HSP.out.2.1
                  obtain ⟨gL, rfl, -, -⟩ := H.out.2.2.1.cell k X hX
                  have HY := Aside0.mk (And.intro y3 y7)
                  have HX2 := Aside0.mk hX
                  clear y3 y7 hX
                  go_wp2_with (fail)
                  go_loopw [7, 20] (fun v7 v20 wr => ∃ j : Nat, (j : Int) ≤ X.f1 ∧ v20 = .int .i64 j ∧ Aside0 (Below w.heap.size w wr ∧ wr.heap[b5]? = some (.cells #[.int .i64 s, .int .i64 h, .int .i64 t'] 23 (0, 0)) ∧ SpR wr (.slice (some ⟨gL, 0, none⟩) L.length k4) L ∧ Tk wr w.heap.size v7 (seqS s (t + (pre L k + (j : Int))) (h - (t + (pre L k + (j : Int)))).toNat))) (fun _ v20 _ => X.f1.toNat - (intOf v20).toNat)
                  case atStart =>
                    refine ⟨0, by omega, rfl, ⟨H.out.1, H.out.2.1, H.out.2.2.1, ?_⟩⟩
                    rw [show t + (pre L k + ((0 : Nat) : Int)) = t + pre L k by omega]
                    exact H.out.2.2.2
                  case round =>
                    as_aux_lemma =>
                      clear H
                      obtain ⟨j, hj, rfl, H⟩ := hrel
                      obtain ⟨gL', e, hc0, hc1⟩ := H.out.2.2.1.cell k X HX2.out
                      cases e
                      by_cases hjl : (j : Int) < X.f1
                      · obtain ⟨nn, hnn⟩ : ∃ nn : Nat, (nn : Int) + 1 = h - (t + (pre L k + (j : Int))) := ⟨(h - (t + (pre L k + (j : Int))) - 1).toNat, by omega⟩
                        have hns : (nn : Int) < s := by have := hm.2.2.2.2.2; omega
                        have hTk := H.out.2.2.2
                        rw [← hnn, show ((nn : Int) + 1).toNat = nn + 1 by omega] at hTk
                        have hat : X.f0 + (j : Int) = (t + (pre L k + (j : Int))) % s := HY.out.2 j (by omega) hjl
                        obtain ⟨At, ct, rfl, hTc⟩ := hTk.seq
                        obtain ⟨g, o, rfl, hbg, hcc, hcells⟩ := hTc (by omega)
                        have hcq := hcells 0 (by omega)
                        rw [show (t + (pre L k + (j : Int))) + ((0 : Nat) : Int) = t + (pre L k + (j : Int)) by omega, ← hat] at hcq
                        have HT := Aside0.mk hTk
                        have HNN := Aside0.mk hnn
                        have HC0 := Aside0.mk hcq
                        have HC1 := Aside0.mk hc0
                        have hln : nn ≤ 300 := by omega
                        clear hTk hat hTc hnn hcells hcq
                        go_wp2_with (fail)
                        refine start_ (n := 16) (S := fun w' => True) (ds := []) #[false, false, false, false, false, false, false, false, false, false, false, false, false, false, false, false] (by kernel_rfl) rfl rfl trivial (fun hHeld => ?_)
                        refine with_tabW back.tab38 back.bits38 (fun HT_ HW_ => ?_)
                        have HB := Aside0.mk (below_step H.out.1 (below_drew (Below.refl _ _)))
                        have B5 := Aside0.mk (blk_below H.out.2.1 (below_drew (Below.refl _ _)))
                        have SR := Aside0.mk (H.out.2.2.1.below (below_drew (Below.refl _ _)))
                        have TK := Aside0.mk (HT.out.below (below_drew (Below.refl _ _)))
                        have C0 := Aside0.mk (pw_cell_below (below_drew (Below.refl _ _)) HC0.out)
                        have C1 := Aside0.mk (pw_cell_below (below_drew (Below.refl _ _)) HC1.out)
                        generalize wr.drew = wz at HB B5 SR TK C0 C1 hHeld ⊢
                        clear hHeld H HT HC0 HC1 hc0 hc1
                        refine pure_ (i := 0) (N := some 143) (v := ?_) (a' := ?_) #[true, false, false, false, false, false, false, false, false, false, false, false, false, false, false, false] rfl rfl (any_of HT_.out (by kernel_rfl)) (fun _ _ _ h => h) (Or.inl ⟨by rfl, ?_⟩) ?_ ?_
                        rotate_left
                        · intro w'
                          go_simp
                          with_reducible rfl
                        rotate_left
                        · simp only [Act.put, List.setIfInBounds_toArray, List.set_cons_zero, List.set_cons_succ, i64_w, i32_w]
                          rfl
                        refine inv_at [1, 2, 3, 4, 5, 6, 7, 8, 9, 10, 11, 12, 13, 14, 15] (fun a0_ b a w' => a = putSel a0_ b [(1, 144, .int .i64 ((nn : Int) + 1)), (2, 145, .bool false), (3, 146, .bool false), (4, 147, .slice (some ⟨g, o, none⟩) (nn + 1) ct), (5, 148, .pointer (some ⟨g, o, none⟩)), (6, 149, .int .i64 (X.f0 + (j : Int))), (7, 150, .slice (some ⟨gL, 0, none⟩) L.length k4), (8, 151, .int .i64 (k : Int)), (9, 152, .pointer (some ⟨gL, k * 2, none⟩)), (10, 153, .pointer (some ⟨gL, k * 2, none⟩)), (11, 154, .int .i64 X.f0), (12, 155, .int .i64 (j : Int)), (13, 156, .int .i64 (X.f0 + (j : Int))), (14, 157, .bool false), (15, 158, .bool false)] ∧ (Below w.heap.size w w') ∧ (w'.heap[b5]? = some (.cells #[.int .i64 s, .int .i64 h, .int .i64 t'] 23 (0, 0))) ∧ (SpR w' (.slice (some ⟨gL, 0, none⟩) L.length k4) L) ∧ (Tk w' w.heap.size (.slice (some ⟨g, o, none⟩) (nn + 1) ct) (seqS s (t + (pre L k + (j : Int))) (nn + 1))) ∧ (w'.cell? ⟨g, o, none⟩ = some (.int .i64 (X.f0 + (j : Int)))) ∧ (w'.cell? ⟨gL, k * 2, none⟩ = some (.int .i64 X.f0))) HT_.out HW_.out (by kernel_rfl) (by kernel_rfl) ?_ ?_ ?_
                        · exact ⟨by simp only [putSel, Bool.false_eq_true, if_false], HB.out, B5.out, SR.out, TK.out, C0.out, C1.out⟩
                        · skip
                          clear B5 C0 C1 HB SR TK
                          refine steps_cons ?_ ?_
                          · as_aux_lemma =>
                            rintro b a w' ⟨ha, Q_HB, Q_B5, Q_SR, Q_TK, Q_C0, Q_C1⟩ hb_ hon hoff
                            refine ⟨_, rfl, fun K hK => ?_⟩
                            have e143 : a.tmps[143]? = some (.slice (some ⟨g, o, none⟩) (nn + 1) ct) := by rw [ha]; exact (putSel_off rfl).trans rfl
                            replace ha := Aside0.mk ha
                            have HB := Aside0.mk Q_HB
                            have B5 := Aside0.mk Q_B5
                            have SR := Aside0.mk Q_SR
                            have TK := Aside0.mk Q_TK
                            have C0 := Aside0.mk Q_C0
                            have C1 := Aside0.mk Q_C1
                            refine value_ (w1 := w') (v := .int .i64 ((nn : Int) + 1)) (by rfl) rfl ?_ ?_
                            · go_simp
                              (try simp only [i64_w])
                              try rfl
                            refine hK.out _ _ ⟨(by rw [ha.out]; exact putSel_upk 0 hb_ rfl rfl rfl), Q_HB, Q_B5, Q_SR, Q_TK, Q_C0, Q_C1⟩
                          refine steps_cons ?_ ?_
                          · as_aux_lemma =>
                            rintro b a w' ⟨ha, Q_HB, Q_B5, Q_SR, Q_TK, Q_C0, Q_C1⟩ hb_ hon hoff
                            refine ⟨_, rfl, fun K hK => ?_⟩
                            have e144 : a.tmps[144]? = some (.int .i64 ((nn : Int) + 1)) := by rw [ha]; exact putSel_on (e := (1, 144, .int .i64 ((nn : Int) + 1))) 0 rfl rfl (hon 1 (by kernel_rfl)) rfl
                            replace ha := Aside0.mk ha
                            have HB := Aside0.mk Q_HB
                            have B5 := Aside0.mk Q_B5
                            have SR := Aside0.mk Q_SR
                            have TK := Aside0.mk Q_TK
                            have C0 := Aside0.mk Q_C0
                            have C1 := Aside0.mk Q_C1
                            have hn0_ : ¬ ((nn : Int) + 1 = 0) := by omega
                            refine value_ (w1 := w') (v := .bool false) (by rfl) rfl ?_ ?_
                            · go_simp
                              (try simp only [i64_w])
                              try rfl
                            refine hK.out _ _ ⟨(by rw [ha.out]; exact putSel_upk 1 hb_ rfl rfl rfl), Q_HB, Q_B5, Q_SR, Q_TK, Q_C0, Q_C1⟩
                          refine steps_cons ?_ ?_
                          · as_aux_lemma =>
                            rintro b a w' ⟨ha, Q_HB, Q_B5, Q_SR, Q_TK, Q_C0, Q_C1⟩ hb_ hon hoff
                            refine ⟨_, rfl, fun K hK => ?_⟩
                            have e145 : a.tmps[145]? = some (.bool false) := by rw [ha]; exact putSel_on (e := (2, 145, .bool false)) 1 rfl rfl (hon 2 (by kernel_rfl)) rfl
                            replace ha := Aside0.mk ha
                            have HB := Aside0.mk Q_HB
                            have B5 := Aside0.mk Q_B5
                            have SR := Aside0.mk Q_SR
                            have TK := Aside0.mk Q_TK
                            have C0 := Aside0.mk Q_C0
                            have C1 := Aside0.mk Q_C1
                            refine value_ (w1 := w') (v := .bool false) (by rfl) rfl ?_ ?_
                            · go_simp
                              (try simp only [i64_w])
                              try rfl
                            refine hK.out _ _ ⟨(by rw [ha.out]; exact putSel_upk 2 hb_ rfl rfl rfl), Q_HB, Q_B5, Q_SR, Q_TK, Q_C0, Q_C1⟩
                          refine steps_cons ?_ ?_
                          · as_aux_lemma =>
                            rintro b a w' ⟨ha, Q_HB, Q_B5, Q_SR, Q_TK, Q_C0, Q_C1⟩ hb_ hon hoff
                            refine ⟨_, rfl, fun K hK => ?_⟩
                            have e7 : a.tmps[7]? = some (.slice (some ⟨g, o, none⟩) (nn + 1) ct) := by rw [ha]; exact (putSel_off rfl).trans rfl
                            have e146 : a.tmps[146]? = some (.bool false) := by rw [ha]; exact putSel_on (e := (3, 146, .bool false)) 2 rfl rfl (hon 3 (by kernel_rfl)) rfl
                            replace ha := Aside0.mk ha
                            have HB := Aside0.mk Q_HB
                            have B5 := Aside0.mk Q_B5
                            have SR := Aside0.mk Q_SR
                            have TK := Aside0.mk Q_TK
                            have C0 := Aside0.mk Q_C0
                            have C1 := Aside0.mk Q_C1
                            refine value_ (w1 := w') (v := .slice (some ⟨g, o, none⟩) (nn + 1) ct) (wanted_on rfl rfl rfl (e146.trans (by first | rfl | (simp [*]; done)))) rfl ?_ ?_
                            · go_simp
                              (try simp only [i64_w])
                              try rfl
                            refine hK.out _ _ ⟨(by rw [ha.out]; exact putSel_upk 3 hb_ rfl rfl rfl), Q_HB, Q_B5, Q_SR, Q_TK, Q_C0, Q_C1⟩
                          refine steps_cons ?_ ?_
                          · as_aux_lemma =>
                            rintro b a w' ⟨ha, Q_HB, Q_B5, Q_SR, Q_TK, Q_C0, Q_C1⟩ hb_ hon hoff
                            refine ⟨_, rfl, fun K hK => ?_⟩
                            have e147 : a.tmps[147]? = some (.slice (some ⟨g, o, none⟩) (nn + 1) ct) := by rw [ha]; exact putSel_on (e := (4, 147, .slice (some ⟨g, o, none⟩) (nn + 1) ct)) 3 rfl rfl (hon 4 (by kernel_rfl)) rfl
                            have e146 : a.tmps[146]? = some (.bool false) := by rw [ha]; exact putSel_on (e := (3, 146, .bool false)) 2 rfl rfl (hon 3 (by kernel_rfl)) rfl
                            replace ha := Aside0.mk ha
                            have HB := Aside0.mk Q_HB
                            have B5 := Aside0.mk Q_B5
                            have SR := Aside0.mk Q_SR
                            have TK := Aside0.mk Q_TK
                            have C0 := Aside0.mk Q_C0
                            have C1 := Aside0.mk Q_C1
                            refine value_ (w1 := w') (v := .pointer (some ⟨g, o, none⟩)) (wanted_on rfl rfl rfl (e146.trans (by first | rfl | (simp [*]; done)))) rfl ?_ ?_
                            · go_simp
                              (try simp only [i64_w])
                              try rfl
                            refine hK.out _ _ ⟨(by rw [ha.out]; exact putSel_upk 4 hb_ rfl rfl rfl), Q_HB, Q_B5, Q_SR, Q_TK, Q_C0, Q_C1⟩
                          refine steps_cons ?_ ?_
                          · as_aux_lemma =>
                            rintro b a w' ⟨ha, Q_HB, Q_B5, Q_SR, Q_TK, Q_C0, Q_C1⟩ hb_ hon hoff
                            refine ⟨_, rfl, fun K hK => ?_⟩
                            have e148 : a.tmps[148]? = some (.pointer (some ⟨g, o, none⟩)) := by rw [ha]; exact putSel_on (e := (5, 148, .pointer (some ⟨g, o, none⟩))) 4 rfl rfl (hon 5 (by kernel_rfl)) rfl
                            have e146 : a.tmps[146]? = some (.bool false) := by rw [ha]; exact putSel_on (e := (3, 146, .bool false)) 2 rfl rfl (hon 3 (by kernel_rfl)) rfl
                            replace ha := Aside0.mk ha
                            have HB := Aside0.mk Q_HB
                            have B5 := Aside0.mk Q_B5
                            have SR := Aside0.mk Q_SR
                            have TK := Aside0.mk Q_TK
                            have C0 := Aside0.mk Q_C0
                            have C1 := Aside0.mk Q_C1
                            have hs_ := C0.out
                            refine value_ (w1 := w') (v := .int .i64 (X.f0 + (j : Int))) (wanted_on rfl rfl rfl (e146.trans (by first | rfl | (simp [*]; done)))) rfl ?_ ?_
                            · go_simp
                              (try simp only [i64_w])
                              try rfl
                            refine hK.out _ _ ⟨(by rw [ha.out]; exact putSel_upk 5 hb_ rfl rfl rfl), Q_HB, Q_B5, Q_SR, Q_TK, Q_C0, Q_C1⟩
                          refine steps_cons ?_ ?_
                          · as_aux_lemma =>
                            rintro b a w' ⟨ha, Q_HB, Q_B5, Q_SR, Q_TK, Q_C0, Q_C1⟩ hb_ hon hoff
                            refine ⟨_, rfl, fun K hK => ?_⟩
                            have e17 : a.tmps[17]? = some (.slice (some ⟨gL, 0, none⟩) L.length k4) := by rw [ha]; exact (putSel_off rfl).trans rfl
                            have e146 : a.tmps[146]? = some (.bool false) := by rw [ha]; exact putSel_on (e := (3, 146, .bool false)) 2 rfl rfl (hon 3 (by kernel_rfl)) rfl
                            replace ha := Aside0.mk ha
                            have HB := Aside0.mk Q_HB
                            have B5 := Aside0.mk Q_B5
                            have SR := Aside0.mk Q_SR
                            have TK := Aside0.mk Q_TK
                            have C0 := Aside0.mk Q_C0
                            have C1 := Aside0.mk Q_C1
                            refine value_ (w1 := w') (v := .slice (some ⟨gL, 0, none⟩) L.length k4) (wanted_on rfl rfl rfl (e146.trans (by first | rfl | (simp [*]; done)))) rfl ?_ ?_
                            · go_simp
                              (try simp only [i64_w])
                              try rfl
                            refine hK.out _ _ ⟨(by rw [ha.out]; exact putSel_upk 6 hb_ rfl rfl rfl), Q_HB, Q_B5, Q_SR, Q_TK, Q_C0, Q_C1⟩
                          refine steps_cons ?_ ?_
                          · as_aux_lemma =>
                            rintro b a w' ⟨ha, Q_HB, Q_B5, Q_SR, Q_TK, Q_C0, Q_C1⟩ hb_ hon hoff
                            refine ⟨_, rfl, fun K hK => ?_⟩
                            have e19 : a.tmps[19]? = some (.int .i64 (k : Int)) := by rw [ha]; exact (putSel_off rfl).trans rfl
                            have e146 : a.tmps[146]? = some (.bool false) := by rw [ha]; exact putSel_on (e := (3, 146, .bool false)) 2 rfl rfl (hon 3 (by kernel_rfl)) rfl
                            replace ha := Aside0.mk ha
                            have HB := Aside0.mk Q_HB
                            have B5 := Aside0.mk Q_B5
                            have SR := Aside0.mk Q_SR
                            have TK := Aside0.mk Q_TK
                            have C0 := Aside0.mk Q_C0
                            have C1 := Aside0.mk Q_C1
                            refine value_ (w1 := w') (v := .int .i64 (k : Int)) (wanted_on rfl rfl rfl (e146.trans (by first | rfl | (simp [*]; done)))) rfl ?_ ?_
                            · go_simp
                              (try simp only [i64_w])
                              try rfl
                            refine hK.out _ _ ⟨(by rw [ha.out]; exact putSel_upk 7 hb_ rfl rfl rfl), Q_HB, Q_B5, Q_SR, Q_TK, Q_C0, Q_C1⟩
                          refine steps_cons ?_ ?_
                          · as_aux_lemma =>
                            rintro b a w' ⟨ha, Q_HB, Q_B5, Q_SR, Q_TK, Q_C0, Q_C1⟩ hb_ hon hoff
                            refine ⟨_, rfl, fun K hK => ?_⟩
                            have e150 : a.tmps[150]? = some (.slice (some ⟨gL, 0, none⟩) L.length k4) := by rw [ha]; exact putSel_on (e := (7, 150, .slice (some ⟨gL, 0, none⟩) L.length k4)) 6 rfl rfl (hon 7 (by kernel_rfl)) rfl
                            have e151 : a.tmps[151]? = some (.int .i64 (k : Int)) := by rw [ha]; exact putSel_on (e := (8, 151, .int .i64 (k : Int))) 7 rfl rfl (hon 8 (by kernel_rfl)) rfl
                            have e146 : a.tmps[146]? = some (.bool false) := by rw [ha]; exact putSel_on (e := (3, 146, .bool false)) 2 rfl rfl (hon 3 (by kernel_rfl)) rfl
                            replace ha := Aside0.mk ha
                            have HB := Aside0.mk Q_HB
                            have B5 := Aside0.mk Q_B5
                            have SR := Aside0.mk Q_SR
                            have TK := Aside0.mk Q_TK
                            have C0 := Aside0.mk Q_C0
                            have C1 := Aside0.mk Q_C1
                            refine value_ (w1 := w') (v := .pointer (some ⟨gL, k * 2, none⟩)) (wanted_on rfl rfl rfl (e146.trans (by first | rfl | (simp [*]; done)))) rfl ?_ ?_
                            · go_simp
                              (try simp only [i64_w])
                              try rfl
                            refine hK.out _ _ ⟨(by rw [ha.out]; exact putSel_upk 8 hb_ rfl rfl rfl), Q_HB, Q_B5, Q_SR, Q_TK, Q_C0, Q_C1⟩
                          refine steps_cons ?_ ?_
                          · as_aux_lemma =>
                            rintro b a w' ⟨ha, Q_HB, Q_B5, Q_SR, Q_TK, Q_C0, Q_C1⟩ hb_ hon hoff
                            refine ⟨_, rfl, fun K hK => ?_⟩
                            have e152 : a.tmps[152]? = some (.pointer (some ⟨gL, k * 2, none⟩)) := by rw [ha]; exact putSel_on (e := (9, 152, .pointer (some ⟨gL, k * 2, none⟩))) 8 rfl rfl (hon 9 (by kernel_rfl)) rfl
                            have e146 : a.tmps[146]? = some (.bool false) := by rw [ha]; exact putSel_on (e := (3, 146, .bool false)) 2 rfl rfl (hon 3 (by kernel_rfl)) rfl
                            replace ha := Aside0.mk ha
                            have HB := Aside0.mk Q_HB
                            have B5 := Aside0.mk Q_B5
                            have SR := Aside0.mk Q_SR
                            have TK := Aside0.mk Q_TK
                            have C0 := Aside0.mk Q_C0
                            have C1 := Aside0.mk Q_C1
                            refine value_ (w1 := w') (v := .pointer (some ⟨gL, k * 2, none⟩)) (wanted_on rfl rfl rfl (e146.trans (by first | rfl | (simp [*]; done)))) rfl ?_ ?_
                            · go_simp
                              (try simp only [i64_w])
                              try rfl
                            refine hK.out _ _ ⟨(by rw [ha.out]; exact putSel_upk 9 hb_ rfl rfl rfl), Q_HB, Q_B5, Q_SR, Q_TK, Q_C0, Q_C1⟩
                          refine steps_cons ?_ ?_
                          · as_aux_lemma =>
                            rintro b a w' ⟨ha, Q_HB, Q_B5, Q_SR, Q_TK, Q_C0, Q_C1⟩ hb_ hon hoff
                            refine ⟨_, rfl, fun K hK => ?_⟩
                            have e153 : a.tmps[153]? = some (.pointer (some ⟨gL, k * 2, none⟩)) := by rw [ha]; exact putSel_on (e := (10, 153, .pointer (some ⟨gL, k * 2, none⟩))) 9 rfl rfl (hon 10 (by kernel_rfl)) rfl
                            have e146 : a.tmps[146]? = some (.bool false) := by rw [ha]; exact putSel_on (e := (3, 146, .bool false)) 2 rfl rfl (hon 3 (by kernel_rfl)) rfl
                            replace ha := Aside0.mk ha
                            have HB := Aside0.mk Q_HB
                            have B5 := Aside0.mk Q_B5
                            have SR := Aside0.mk Q_SR
                            have TK := Aside0.mk Q_TK
                            have C0 := Aside0.mk Q_C0
                            have C1 := Aside0.mk Q_C1
                            have hs_ := C1.out
                            refine value_ (w1 := w') (v := .int .i64 X.f0) (wanted_on rfl rfl rfl (e146.trans (by first | rfl | (simp [*]; done)))) rfl ?_ ?_
                            · go_simp
                              (try simp only [i64_w])
                              try rfl
                            refine hK.out _ _ ⟨(by rw [ha.out]; exact putSel_upk 10 hb_ rfl rfl rfl), Q_HB, Q_B5, Q_SR, Q_TK, Q_C0, Q_C1⟩
                          refine steps_cons ?_ ?_
                          · as_aux_lemma =>
                            rintro b a w' ⟨ha, Q_HB, Q_B5, Q_SR, Q_TK, Q_C0, Q_C1⟩ hb_ hon hoff
                            refine ⟨_, rfl, fun K hK => ?_⟩
                            have e20 : a.tmps[20]? = some (.int .i64 (j : Int)) := by rw [ha]; exact (putSel_off rfl).trans rfl
                            have e146 : a.tmps[146]? = some (.bool false) := by rw [ha]; exact putSel_on (e := (3, 146, .bool false)) 2 rfl rfl (hon 3 (by kernel_rfl)) rfl
                            replace ha := Aside0.mk ha
                            have HB := Aside0.mk Q_HB
                            have B5 := Aside0.mk Q_B5
                            have SR := Aside0.mk Q_SR
                            have TK := Aside0.mk Q_TK
                            have C0 := Aside0.mk Q_C0
                            have C1 := Aside0.mk Q_C1
                            refine value_ (w1 := w') (v := .int .i64 (j : Int)) (wanted_on rfl rfl rfl (e146.trans (by first | rfl | (simp [*]; done)))) rfl ?_ ?_
                            · go_simp
                              (try simp only [i64_w])
                              try rfl
                            refine hK.out _ _ ⟨(by rw [ha.out]; exact putSel_upk 11 hb_ rfl rfl rfl), Q_HB, Q_B5, Q_SR, Q_TK, Q_C0, Q_C1⟩
                          refine steps_cons ?_ ?_
                          · as_aux_lemma =>
                            rintro b a w' ⟨ha, Q_HB, Q_B5, Q_SR, Q_TK, Q_C0, Q_C1⟩ hb_ hon hoff
                            refine ⟨_, rfl, fun K hK => ?_⟩
                            have e154 : a.tmps[154]? = some (.int .i64 X.f0) := by rw [ha]; exact putSel_on (e := (11, 154, .int .i64 X.f0)) 10 rfl rfl (hon 11 (by kernel_rfl)) rfl
                            have e155 : a.tmps[155]? = some (.int .i64 (j : Int)) := by rw [ha]; exact putSel_on (e := (12, 155, .int .i64 (j : Int))) 11 rfl rfl (hon 12 (by kernel_rfl)) rfl
                            have e146 : a.tmps[146]? = some (.bool false) := by rw [ha]; exact putSel_on (e := (3, 146, .bool false)) 2 rfl rfl (hon 3 (by kernel_rfl)) rfl
                            replace ha := Aside0.mk ha
                            have HB := Aside0.mk Q_HB
                            have B5 := Aside0.mk Q_B5
                            have SR := Aside0.mk Q_SR
                            have TK := Aside0.mk Q_TK
                            have C0 := Aside0.mk Q_C0
                            have C1 := Aside0.mk Q_C1
                            have hw_ : IntKind.i64.wrap (X.f0 + (j : Int)) = X.f0 + (j : Int) := IntWalk.i64_in _ (by omega)
                            refine value_ (w1 := w') (v := .int .i64 (X.f0 + (j : Int))) (wanted_on rfl rfl rfl (e146.trans (by first | rfl | (simp [*]; done)))) rfl ?_ ?_
                            · go_simp
                              (try simp only [i64_w])
                              try rfl
                            refine hK.out _ _ ⟨(by rw [ha.out]; exact putSel_upk 12 hb_ rfl rfl rfl), Q_HB, Q_B5, Q_SR, Q_TK, Q_C0, Q_C1⟩
                          refine steps_cons ?_ ?_
                          · as_aux_lemma =>
                            rintro b a w' ⟨ha, Q_HB, Q_B5, Q_SR, Q_TK, Q_C0, Q_C1⟩ hb_ hon hoff
                            refine ⟨_, rfl, fun K hK => ?_⟩
                            have e149 : a.tmps[149]? = some (.int .i64 (X.f0 + (j : Int))) := by rw [ha]; exact putSel_on (e := (6, 149, .int .i64 (X.f0 + (j : Int)))) 5 rfl rfl (hon 6 (by kernel_rfl)) rfl
                            have e156 : a.tmps[156]? = some (.int .i64 (X.f0 + (j : Int))) := by rw [ha]; exact putSel_on (e := (13, 156, .int .i64 (X.f0 + (j : Int)))) 12 rfl rfl (hon 13 (by kernel_rfl)) rfl
                            have e146 : a.tmps[146]? = some (.bool false) := by rw [ha]; exact putSel_on (e := (3, 146, .bool false)) 2 rfl rfl (hon 3 (by kernel_rfl)) rfl
                            replace ha := Aside0.mk ha
                            have HB := Aside0.mk Q_HB
                            have B5 := Aside0.mk Q_B5
                            have SR := Aside0.mk Q_SR
                            have TK := Aside0.mk Q_TK
                            have C0 := Aside0.mk Q_C0
                            have C1 := Aside0.mk Q_C1
                            refine value_ (w1 := w') (v := .bool false) (wanted_on rfl rfl rfl (e146.trans (by first | rfl | (simp [*]; done)))) rfl ?_ ?_
                            · go_simp
                              (try simp only [i64_w])
                              try rfl
                            refine hK.out _ _ ⟨(by rw [ha.out]; exact putSel_upk 13 hb_ rfl rfl rfl), Q_HB, Q_B5, Q_SR, Q_TK, Q_C0, Q_C1⟩
                          refine steps_cons ?_ ?_
                          · as_aux_lemma =>
                            rintro b a w' ⟨ha, Q_HB, Q_B5, Q_SR, Q_TK, Q_C0, Q_C1⟩ hb_ hon hoff
                            refine ⟨_, rfl, fun K hK => ?_⟩
                            have e146 : a.tmps[146]? = some (.bool false) := by rw [ha]; exact putSel_on (e := (3, 146, .bool false)) 2 rfl rfl (hon 3 (by kernel_rfl)) rfl
                            have e157 : a.tmps[157]? = some (.bool false) := by rw [ha]; exact putSel_on (e := (14, 157, .bool false)) 13 rfl rfl (hon 14 (by kernel_rfl)) rfl
                            replace ha := Aside0.mk ha
                            have HB := Aside0.mk Q_HB
                            have B5 := Aside0.mk Q_B5
                            have SR := Aside0.mk Q_SR
                            have TK := Aside0.mk Q_TK
                            have C0 := Aside0.mk Q_C0
                            have C1 := Aside0.mk Q_C1
                            refine value_ (w1 := w') (v := .bool false) (by rfl) rfl ?_ ?_
                            · go_simp
                              (try simp only [i64_w])
                              try rfl
                            refine hK.out _ _ ⟨(by rw [ha.out]; exact putSel_upk 14 hb_ rfl rfl rfl), Q_HB, Q_B5, Q_SR, Q_TK, Q_C0, Q_C1⟩
                          exact steps_nil
                        rintro b a wP hall ⟨ha, Q_HB, Q_B5, Q_SR, Q_TK, Q_C0, Q_C1⟩
                        clear B5 C0 C1 HB SR TK
                        have hb1_ := hall 1 (by kernel_rfl)
                        have hb2_ := hall 2 (by kernel_rfl)
                        have hb3_ := hall 3 (by kernel_rfl)
                        have hb4_ := hall 4 (by kernel_rfl)
                        have hb5_ := hall 5 (by kernel_rfl)
                        have hb6_ := hall 6 (by kernel_rfl)
                        have hb7_ := hall 7 (by kernel_rfl)
                        have hb8_ := hall 8 (by kernel_rfl)
                        have hb9_ := hall 9 (by kernel_rfl)
                        have hb10_ := hall 10 (by kernel_rfl)
                        have hb11_ := hall 11 (by kernel_rfl)
                        have hb12_ := hall 12 (by kernel_rfl)
                        have hb13_ := hall 13 (by kernel_rfl)
                        have hb14_ := hall 14 (by kernel_rfl)
                        have hb15_ := hall 15 (by kernel_rfl)
                        subst ha
                        simp only [putSel, hb1_, hb2_, hb3_, hb4_, hb5_, hb6_, hb7_, hb8_, hb9_, hb10_, hb11_, hb12_, hb13_, hb14_, hb15_, if_true, Act.put, List.setIfInBounds_toArray, List.set_cons_zero, List.set_cons_succ]
                        have HB := Aside0.mk Q_HB
                        clear Q_HB
                        have B5 := Aside0.mk Q_B5
                        clear Q_B5
                        have SR := Aside0.mk Q_SR
                        clear Q_SR
                        have TK := Aside0.mk Q_TK
                        clear Q_TK
                        have C0 := Aside0.mk Q_C0
                        clear Q_C0
                        have C1 := Aside0.mk Q_C1
                        clear Q_C1
                        clear hall hb1_ hb2_ hb3_ hb4_ hb5_ hb6_ hb7_ hb8_ hb9_ hb10_ hb11_ hb12_ hb13_ hb14_ hb15_
                        go_wp2_with (fail)
                        refine ⟨⟨j + 1, by omega, by go_num, ⟨HB.out, B5.out, SR.out, ?_⟩⟩, by simp [intOf]; omega⟩
                        have hst := tk_tail TK.out
                        rw [show t + (pre L k + ((j + 1 : Nat) : Int)) = t + (pre L k + (j : Int)) + 1 by omega, show (h - (t + (pre L k + (j : Int)) + 1)).toNat = nn by have := HNN.out; omega]
                        exact hst
                      · have hje : (j : Int) = X.f1 := by omega
                        go_wp2_with (fail)
                        refine ⟨⟨k + 1, by omega, by go_num, ⟨H.out.1, H.out.2.1, H.out.2.2.1, ?_⟩⟩, by simp [intOf]; omega⟩
                        rw [HY.out.1, ← hje]
                        exact H.out.2.2.2
                · have hke : k = L.length := by omega
                  have hTk := H.out.2.2.2
                  rw [hke, HSP.out.1, show t + (t' - t) = t' by omega] at hTk
                  obtain ⟨nn, hnn⟩ : ∃ nn : Nat, (nn : Int) = h - t' := ⟨(h - t').toNat, by have := hm'.2.2.2.1; omega⟩
                  rw [← hnn, Int.toNat_natCast] at hTk
                  obtain ⟨At, ct, rfl, -⟩ := hTk.seq
                  have HTk := Aside0.mk hTk
                  have HK := Aside0.mk hke
                  have AU := Aside0.mk (show ring_Ring_Used.f 3 s h t' = some (nn : Int) by rw [used_yes hm' 3 (by omega), hnn])
                  have AV := Aside0.mk (show ring_Ring_Free.f 3 s h t' = some (s - (nn : Int)) by rw [free_yes hm' 3 (by omega), hnn])
                  have hns : ¬ (s < (nn : Int)) := by have := hm'.2.2.2.2.2; omega
                  have q1 : IntKind.i64.wrap ((nn : Int) + (s - (nn : Int))) = s := by rw [IntWalk.i64_in _ (by omega)]; omega
                  have HNN := Aside0.mk hnn
                  clear hTk hke hnn
                  go_wp2_with (fail)
                  refine start_ (n := 20) (S := fun w' => True) (ds := []) #[false, false, false, false, false, false, false, false, false, false, false, false, false, false, false, false, false, false, false, false] (by kernel_rfl) rfl rfl trivial (fun hHeld => ?_)
                  refine with_tabW back.tab41 back.bits41 (fun HT_ HW_ => ?_)
                  have HB := Aside0.mk (below_step H.out.1 (below_drew (Below.refl _ _)))
                  have B5 := Aside0.mk (blk_below H.out.2.1 (below_drew (Below.refl _ _)))
                  have TK := Aside0.mk (HTk.out.below (below_drew (Below.refl _ _)))
                  generalize wr.drew = wz at HB B5 TK hHeld ⊢
                  clear hHeld H HTk
                  refine pure_ (i := 2) (N := some 163) (v := ?_) (a' := ?_) #[false, false, true, false, false, false, false, false, false, false, false, false, false, false, false, false, false, false, false, false] rfl rfl (any_of HT_.out (by kernel_rfl)) (fun _ _ _ h => h) (Or.inl ⟨by rfl, ?_⟩) ?_ ?_
                  rotate_left
                  · intro w'
                    go_simp
                    with_reducible rfl
                  rotate_left
                  · simp only [Act.put, List.setIfInBounds_toArray, List.set_cons_zero, List.set_cons_succ, i64_w, i32_w]
                    rfl
                  refine inv_at [0, 1, 3, 4, 5, 6, 7, 8, 9, 10, 11, 12, 13, 14, 15, 16, 17, 18, 19] (fun a0_ b a w' => a = putSel a0_ b [(0, 161, .agg #[.int .i64 s, .int .i64 h, .int .i64 t']), (1, 162, .int .i64 (nn : Int)), (3, 164, .int .i64 (nn : Int)), (4, 165, .bool false), (5, 166, .bool false), (6, 167, .agg #[.int .i64 s, .int .i64 h, .int .i64 t']), (7, 168, .int .i64 (nn : Int)), (8, 169, .agg #[.int .i64 s, .int .i64 h, .int .i64 t']), (9, 170, .int .i64 (s - (nn : Int))), (10, 171, .int .i64 s), (11, 172, .int .i64 s), (12, 173, .bool false), (13, 174, .bool false), (14, 175, .bool false), (15, 176, .slice At nn ct), (16, 177, .int .i64 (nn : Int)), (17, 178, .int .i64 s), (18, 179, .bool false), (19, 180, .bool false)] ∧ (Below w.heap.size w w') ∧ (w'.heap[b5]? = some (.cells #[.int .i64 s, .int .i64 h, .int .i64 t'] 23 (0, 0))) ∧ (Tk w' w.heap.size (.slice At nn ct) (seqS s t' nn))) HT_.out HW_.out (by kernel_rfl) (by kernel_rfl) ?_ ?_ ?_
                  · exact ⟨by simp only [putSel, Bool.false_eq_true, if_false], HB.out, B5.out, TK.out⟩
                  · skip
                    clear B5 HB TK
                    refine steps_cons ?_ ?_
                    · as_aux_lemma =>
                      rintro b a w' ⟨ha, Q_HB, Q_B5, Q_TK⟩ hb_ hon hoff
                      refine ⟨_, rfl, fun K hK => ?_⟩
                      have e5 : a.tmps[5]? = some (.pointer (some ⟨b5, 0, none⟩)) := by rw [ha]; exact (putSel_off rfl).trans rfl
                      replace ha := Aside0.mk ha
                      have HB := Aside0.mk Q_HB
                      have B5 := Aside0.mk Q_B5
                      have TK := Aside0.mk Q_TK
                      have hs0_ : w'.cell? ⟨b5, 0, none⟩ = some (.int .i64 s) := (blk_cell B5.out 0).trans rfl
                      have hs1_ : w'.cell? ⟨b5, 1, none⟩ = some (.int .i64 h) := (blk_cell B5.out 1).trans rfl
                      have hs2_ : w'.cell? ⟨b5, 2, none⟩ = some (.int .i64 t') := (blk_cell B5.out 2).trans rfl
                      refine value_ (w1 := w') (v := .agg #[.int .i64 s, .int .i64 h, .int .i64 t']) (by rfl) rfl ?_ ?_
                      · go_simp
                        (try simp only [i64_w])
                        try rfl
                      refine hK.out _ _ ⟨(by rw [ha.out]; exact putSel_upk 0 hb_ rfl rfl rfl), Q_HB, Q_B5, Q_TK⟩
                    refine steps_cons ?_ ?_
                    · as_aux_lemma =>
                      rintro b a w' ⟨ha, Q_HB, Q_B5, Q_TK⟩ hb_ hon hoff
                      refine ⟨_, rfl, fun K hK => ?_⟩
                      have e161 : a.tmps[161]? = some (.agg #[.int .i64 s, .int .i64 h, .int .i64 t']) := by rw [ha]; exact putSel_on (e := (0, 161, .agg #[.int .i64 s, .int .i64 h, .int .i64 t'])) 0 rfl rfl (hon 0 (by kernel_rfl)) rfl
                      replace ha := Aside0.mk ha
                      have HB := Aside0.mk Q_HB
                      have B5 := Aside0.mk Q_B5
                      have TK := Aside0.mk Q_TK
                      refine goes_ Try.func15 (by kernel_rfl) rfl #[.agg #[.int .i64 s, .int .i64 h, .int .i64 t']] (by rfl) rfl rfl (by first | (simp only [List.map_toArray, List.map_cons, List.map_nil, Act.eval, Array.getD_eq_getD_getElem?, Option.getD_some, e161]; done) | (simp only [List.map_toArray, List.map_cons, List.map_nil, Act.eval, Array.getD_eq_getD_getElem?, Option.getD_some, e161]; rfl)) ?_
                      with_reducible refine (ring_Ring_Used.calls 3 s h t' _ _ AU.out).mono ?_
                      rintro e w6 ⟨rfl, hb⟩
                      refine ⟨_, rfl, ?_⟩
                      refine hK.out _ _ ⟨(by rw [ha.out]; exact putSel_upk 1 hb_ rfl rfl rfl), below_step HB.out hb, blk_below B5.out hb, TK.out.below hb⟩
                    refine steps_cons ?_ ?_
                    · as_aux_lemma =>
                      rintro b a w' ⟨ha, Q_HB, Q_B5, Q_TK⟩ hb_ hon hoff
                      refine ⟨_, rfl, fun K hK => ?_⟩
                      have e163 : a.tmps[163]? = some (.slice At nn ct) := by rw [ha]; exact (putSel_off rfl).trans rfl
                      replace ha := Aside0.mk ha
                      have HB := Aside0.mk Q_HB
                      have B5 := Aside0.mk Q_B5
                      have TK := Aside0.mk Q_TK
                      refine value_ (w1 := w') (v := .int .i64 (nn : Int)) (by rfl) rfl ?_ ?_
                      · go_simp
                        (try simp only [i64_w])
                        try rfl
                      refine hK.out _ _ ⟨(by rw [ha.out]; exact putSel_upk 2 hb_ rfl rfl rfl), Q_HB, Q_B5, Q_TK⟩
                    refine steps_cons ?_ ?_
                    · as_aux_lemma =>
                      rintro b a w' ⟨ha, Q_HB, Q_B5, Q_TK⟩ hb_ hon hoff
                      refine ⟨_, rfl, fun K hK => ?_⟩
                      have e162 : a.tmps[162]? = some (.int .i64 (nn : Int)) := by rw [ha]; exact putSel_on (e := (1, 162, .int .i64 (nn : Int))) 1 rfl rfl (hon 1 (by kernel_rfl)) rfl
                      have e164 : a.tmps[164]? = some (.int .i64 (nn : Int)) := by rw [ha]; exact putSel_on (e := (3, 164, .int .i64 (nn : Int))) 2 rfl rfl (hon 3 (by kernel_rfl)) rfl
                      replace ha := Aside0.mk ha
                      have HB := Aside0.mk Q_HB
                      have B5 := Aside0.mk Q_B5
                      have TK := Aside0.mk Q_TK
                      refine value_ (w1 := w') (v := .bool false) (by rfl) rfl ?_ ?_
                      · go_simp
                        (try simp only [i64_w])
                        try rfl
                      refine hK.out _ _ ⟨(by rw [ha.out]; exact putSel_upk 3 hb_ rfl rfl rfl), Q_HB, Q_B5, Q_TK⟩
                    refine steps_cons ?_ ?_
                    · as_aux_lemma =>
                      rintro b a w' ⟨ha, Q_HB, Q_B5, Q_TK⟩ hb_ hon hoff
                      refine ⟨_, rfl, fun K hK => ?_⟩
                      have e165 : a.tmps[165]? = some (.bool false) := by rw [ha]; exact putSel_on (e := (4, 165, .bool false)) 3 rfl rfl (hon 4 (by kernel_rfl)) rfl
                      replace ha := Aside0.mk ha
                      have HB := Aside0.mk Q_HB
                      have B5 := Aside0.mk Q_B5
                      have TK := Aside0.mk Q_TK
                      refine value_ (w1 := w') (v := .bool false) (by rfl) rfl ?_ ?_
                      · go_simp
                        (try simp only [i64_w])
                        try rfl
                      refine hK.out _ _ ⟨(by rw [ha.out]; exact putSel_upk 4 hb_ rfl rfl rfl), Q_HB, Q_B5, Q_TK⟩
                    refine steps_cons ?_ ?_
                    · as_aux_lemma =>
                      rintro b a w' ⟨ha, Q_HB, Q_B5, Q_TK⟩ hb_ hon hoff
                      refine ⟨_, rfl, fun K hK => ?_⟩
                      have e5 : a.tmps[5]? = some (.pointer (some ⟨b5, 0, none⟩)) := by rw [ha]; exact (putSel_off rfl).trans rfl
                      have e166 : a.tmps[166]? = some (.bool false) := by rw [ha]; exact putSel_on (e := (5, 166, .bool false)) 4 rfl rfl (hon 5 (by kernel_rfl)) rfl
                      replace ha := Aside0.mk ha
                      have HB := Aside0.mk Q_HB
                      have B5 := Aside0.mk Q_B5
                      have TK := Aside0.mk Q_TK
                      have hs0_ : w'.cell? ⟨b5, 0, none⟩ = some (.int .i64 s) := (blk_cell B5.out 0).trans rfl
                      have hs1_ : w'.cell? ⟨b5, 1, none⟩ = some (.int .i64 h) := (blk_cell B5.out 1).trans rfl
                      have hs2_ : w'.cell? ⟨b5, 2, none⟩ = some (.int .i64 t') := (blk_cell B5.out 2).trans rfl
                      refine value_ (w1 := w') (v := .agg #[.int .i64 s, .int .i64 h, .int .i64 t']) (wanted_on rfl rfl rfl (e166.trans (by first | rfl | (simp [*]; done)))) rfl ?_ ?_
                      · go_simp
                        (try simp only [i64_w])
                        try rfl
                      refine hK.out _ _ ⟨(by rw [ha.out]; exact putSel_upk 5 hb_ rfl rfl rfl), Q_HB, Q_B5, Q_TK⟩
                    refine steps_cons ?_ ?_
                    · as_aux_lemma =>
                      rintro b a w' ⟨ha, Q_HB, Q_B5, Q_TK⟩ hb_ hon hoff
                      refine ⟨_, rfl, fun K hK => ?_⟩
                      have e167 : a.tmps[167]? = some (.agg #[.int .i64 s, .int .i64 h, .int .i64 t']) := by rw [ha]; exact putSel_on (e := (6, 167, .agg #[.int .i64 s, .int .i64 h, .int .i64 t'])) 5 rfl rfl (hon 6 (by kernel_rfl)) rfl
                      have e166 : a.tmps[166]? = some (.bool false) := by rw [ha]; exact putSel_on (e := (5, 166, .bool false)) 4 rfl rfl (hon 5 (by kernel_rfl)) rfl
                      replace ha := Aside0.mk ha
                      have HB := Aside0.mk Q_HB
                      have B5 := Aside0.mk Q_B5
                      have TK := Aside0.mk Q_TK
                      refine goes_ Try.func15 (by kernel_rfl) rfl #[.agg #[.int .i64 s, .int .i64 h, .int .i64 t']] (wanted_on rfl rfl rfl (e166.trans rfl)) rfl rfl (by first | (simp only [List.map_toArray, List.map_cons, List.map_nil, Act.eval, Array.getD_eq_getD_getElem?, Option.getD_some, e167, e166]; done) | (simp only [List.map_toArray, List.map_cons, List.map_nil, Act.eval, Array.getD_eq_getD_getElem?, Option.getD_some, e167, e166]; rfl)) ?_
                      with_reducible refine (ring_Ring_Used.calls 3 s h t' _ _ AU.out).mono ?_
                      rintro e w6 ⟨rfl, hb⟩
                      refine ⟨_, rfl, ?_⟩
                      refine hK.out _ _ ⟨(by rw [ha.out]; exact putSel_upk 6 hb_ rfl rfl rfl), below_step HB.out hb, blk_below B5.out hb, TK.out.below hb⟩
                    refine steps_cons ?_ ?_
                    · as_aux_lemma =>
                      rintro b a w' ⟨ha, Q_HB, Q_B5, Q_TK⟩ hb_ hon hoff
                      refine ⟨_, rfl, fun K hK => ?_⟩
                      have e5 : a.tmps[5]? = some (.pointer (some ⟨b5, 0, none⟩)) := by rw [ha]; exact (putSel_off rfl).trans rfl
                      have e166 : a.tmps[166]? = some (.bool false) := by rw [ha]; exact putSel_on (e := (5, 166, .bool false)) 4 rfl rfl (hon 5 (by kernel_rfl)) rfl
                      replace ha := Aside0.mk ha
                      have HB := Aside0.mk Q_HB
                      have B5 := Aside0.mk Q_B5
                      have TK := Aside0.mk Q_TK
                      have hs0_ : w'.cell? ⟨b5, 0, none⟩ = some (.int .i64 s) := (blk_cell B5.out 0).trans rfl
                      have hs1_ : w'.cell? ⟨b5, 1, none⟩ = some (.int .i64 h) := (blk_cell B5.out 1).trans rfl
                      have hs2_ : w'.cell? ⟨b5, 2, none⟩ = some (.int .i64 t') := (blk_cell B5.out 2).trans rfl
                      refine value_ (w1 := w') (v := .agg #[.int .i64 s, .int .i64 h, .int .i64 t']) (wanted_on rfl rfl rfl (e166.trans (by first | rfl | (simp [*]; done)))) rfl ?_ ?_
                      · go_simp
                        (try simp only [i64_w])
                        try rfl
                      refine hK.out _ _ ⟨(by rw [ha.out]; exact putSel_upk 7 hb_ rfl rfl rfl), Q_HB, Q_B5, Q_TK⟩
                    refine steps_cons ?_ ?_
                    · as_aux_lemma =>
                      rintro b a w' ⟨ha, Q_HB, Q_B5, Q_TK⟩ hb_ hon hoff
                      refine ⟨_, rfl, fun K hK => ?_⟩
                      have e169 : a.tmps[169]? = some (.agg #[.int .i64 s, .int .i64 h, .int .i64 t']) := by rw [ha]; exact putSel_on (e := (8, 169, .agg #[.int .i64 s, .int .i64 h, .int .i64 t'])) 7 rfl rfl (hon 8 (by kernel_rfl)) rfl
                      have e166 : a.tmps[166]? = some (.bool false) := by rw [ha]; exact putSel_on (e := (5, 166, .bool false)) 4 rfl rfl (hon 5 (by kernel_rfl)) rfl
                      replace ha := Aside0.mk ha
                      have HB := Aside0.mk Q_HB
                      have B5 := Aside0.mk Q_B5
                      have TK := Aside0.mk Q_TK
                      refine goes_ Try.func20 (by kernel_rfl) rfl #[.agg #[.int .i64 s, .int .i64 h, .int .i64 t']] (wanted_on rfl rfl rfl (e166.trans rfl)) rfl rfl (by first | (simp only [List.map_toArray, List.map_cons, List.map_nil, Act.eval, Array.getD_eq_getD_getElem?, Option.getD_some, e169, e166]; done) | (simp only [List.map_toArray, List.map_cons, List.map_nil, Act.eval, Array.getD_eq_getD_getElem?, Option.getD_some, e169, e166]; rfl)) ?_
                      with_reducible refine (ring_Ring_Free.calls 3 s h t' _ _ AV.out).mono ?_
                      rintro e w6 ⟨rfl, hb⟩
                      refine ⟨_, rfl, ?_⟩
                      refine hK.out _ _ ⟨(by rw [ha.out]; exact putSel_upk 8 hb_ rfl rfl rfl), below_step HB.out hb, blk_below B5.out hb, TK.out.below hb⟩
                    refine steps_cons ?_ ?_
                    · as_aux_lemma =>
                      rintro b a w' ⟨ha, Q_HB, Q_B5, Q_TK⟩ hb_ hon hoff
                      refine ⟨_, rfl, fun K hK => ?_⟩
                      have e168 : a.tmps[168]? = some (.int .i64 (nn : Int)) := by rw [ha]; exact putSel_on (e := (7, 168, .int .i64 (nn : Int))) 6 rfl rfl (hon 7 (by kernel_rfl)) rfl
                      have e170 : a.tmps[170]? = some (.int .i64 (s - (nn : Int))) := by rw [ha]; exact putSel_on (e := (9, 170, .int .i64 (s - (nn : Int)))) 8 rfl rfl (hon 9 (by kernel_rfl)) rfl
                      have e166 : a.tmps[166]? = some (.bool false) := by rw [ha]; exact putSel_on (e := (5, 166, .bool false)) 4 rfl rfl (hon 5 (by kernel_rfl)) rfl
                      replace ha := Aside0.mk ha
                      have HB := Aside0.mk Q_HB
                      have B5 := Aside0.mk Q_B5
                      have TK := Aside0.mk Q_TK
                      refine value_ (w1 := w') (v := .int .i64 s) (wanted_on rfl rfl rfl (e166.trans (by first | rfl | (simp [*]; done)))) rfl ?_ ?_
                      · go_simp
                        (try simp only [i64_w])
                        try rfl
                      refine hK.out _ _ ⟨(by rw [ha.out]; exact putSel_upk 9 hb_ rfl rfl rfl), Q_HB, Q_B5, Q_TK⟩
                    refine steps_cons ?_ ?_
                    · as_aux_lemma =>
                      rintro b a w' ⟨ha, Q_HB, Q_B5, Q_TK⟩ hb_ hon hoff
                      refine ⟨_, rfl, fun K hK => ?_⟩
                      have e0 : a.tmps[0]? = some (.int .i64 s) := by rw [ha]; exact (putSel_off rfl).trans rfl
                      have e166 : a.tmps[166]? = some (.bool false) := by rw [ha]; exact putSel_on (e := (5, 166, .bool false)) 4 rfl rfl (hon 5 (by kernel_rfl)) rfl
                      replace ha := Aside0.mk ha
                      have HB := Aside0.mk Q_HB
                      have B5 := Aside0.mk Q_B5
                      have TK := Aside0.mk Q_TK
                      refine value_ (w1 := w') (v := .int .i64 s) (wanted_on rfl rfl rfl (e166.trans (by first | rfl | (simp [*]; done)))) rfl ?_ ?_
                      · go_simp
                        (try simp only [i64_w])
                        try rfl
                      refine hK.out _ _ ⟨(by rw [ha.out]; exact putSel_upk 10 hb_ rfl rfl rfl), Q_HB, Q_B5, Q_TK⟩
                    refine steps_cons ?_ ?_
                    · as_aux_lemma =>
                      rintro b a w' ⟨ha, Q_HB, Q_B5, Q_TK⟩ hb_ hon hoff
                      refine ⟨_, rfl, fun K hK => ?_⟩
                      have e171 : a.tmps[171]? = some (.int .i64 s) := by rw [ha]; exact putSel_on (e := (10, 171, .int .i64 s)) 9 rfl rfl (hon 10 (by kernel_rfl)) rfl
                      have e172 : a.tmps[172]? = some (.int .i64 s) := by rw [ha]; exact putSel_on (e := (11, 172, .int .i64 s)) 10 rfl rfl (hon 11 (by kernel_rfl)) rfl
                      have e166 : a.tmps[166]? = some (.bool false) := by rw [ha]; exact putSel_on (e := (5, 166, .bool false)) 4 rfl rfl (hon 5 (by kernel_rfl)) rfl
                      replace ha := Aside0.mk ha
                      have HB := Aside0.mk Q_HB
                      have B5 := Aside0.mk Q_B5
                      have TK := Aside0.mk Q_TK
                      refine value_ (w1 := w') (v := .bool false) (wanted_on rfl rfl rfl (e166.trans (by first | rfl | (simp [*]; done)))) rfl ?_ ?_
                      · go_simp
                        (try simp only [i64_w])
                        try rfl
                      refine hK.out _ _ ⟨(by rw [ha.out]; exact putSel_upk 11 hb_ rfl rfl rfl), Q_HB, Q_B5, Q_TK⟩
                    refine steps_cons ?_ ?_
                    · as_aux_lemma =>
                      rintro b a w' ⟨ha, Q_HB, Q_B5, Q_TK⟩ hb_ hon hoff
                      refine ⟨_, rfl, fun K hK => ?_⟩
                      have e166 : a.tmps[166]? = some (.bool false) := by rw [ha]; exact putSel_on (e := (5, 166, .bool false)) 4 rfl rfl (hon 5 (by kernel_rfl)) rfl
                      have e173 : a.tmps[173]? = some (.bool false) := by rw [ha]; exact putSel_on (e := (12, 173, .bool false)) 11 rfl rfl (hon 12 (by kernel_rfl)) rfl
                      replace ha := Aside0.mk ha
                      have HB := Aside0.mk Q_HB
                      have B5 := Aside0.mk Q_B5
                      have TK := Aside0.mk Q_TK
                      refine value_ (w1 := w') (v := .bool false) (by rfl) rfl ?_ ?_
                      · go_simp
                        (try simp only [i64_w])
                        try rfl
                      refine hK.out _ _ ⟨(by rw [ha.out]; exact putSel_upk 12 hb_ rfl rfl rfl), Q_HB, Q_B5, Q_TK⟩
                    refine steps_cons ?_ ?_
                    · as_aux_lemma =>
                      rintro b a w' ⟨ha, Q_HB, Q_B5, Q_TK⟩ hb_ hon hoff
                      refine ⟨_, rfl, fun K hK => ?_⟩
                      have e174 : a.tmps[174]? = some (.bool false) := by rw [ha]; exact putSel_on (e := (13, 174, .bool false)) 12 rfl rfl (hon 13 (by kernel_rfl)) rfl
                      replace ha := Aside0.mk ha
                      have HB := Aside0.mk Q_HB
                      have B5 := Aside0.mk Q_B5
                      have TK := Aside0.mk Q_TK
                      refine value_ (w1 := w') (v := .bool false) (by rfl) rfl ?_ ?_
                      · go_simp
                        (try simp only [i64_w])
                        try rfl
                      refine hK.out _ _ ⟨(by rw [ha.out]; exact putSel_upk 13 hb_ rfl rfl rfl), Q_HB, Q_B5, Q_TK⟩
                    refine steps_cons ?_ ?_
                    · as_aux_lemma =>
                      rintro b a w' ⟨ha, Q_HB, Q_B5, Q_TK⟩ hb_ hon hoff
                      refine ⟨_, rfl, fun K hK => ?_⟩
                      have e7 : a.tmps[7]? = some (.slice At nn ct) := by rw [ha]; exact (putSel_off rfl).trans rfl
                      have e175 : a.tmps[175]? = some (.bool false) := by rw [ha]; exact putSel_on (e := (14, 175, .bool false)) 13 rfl rfl (hon 14 (by kernel_rfl)) rfl
                      replace ha := Aside0.mk ha
                      have HB := Aside0.mk Q_HB
                      have B5 := Aside0.mk Q_B5
                      have TK := Aside0.mk Q_TK
                      refine value_ (w1 := w') (v := .slice At nn ct) (wanted_on rfl rfl rfl (e175.trans (by first | rfl | (simp [*]; done)))) rfl ?_ ?_
                      · go_simp
                        (try simp only [i64_w])
                        try rfl
                      refine hK.out _ _ ⟨(by rw [ha.out]; exact putSel_upk 14 hb_ rfl rfl rfl), Q_HB, Q_B5, Q_TK⟩
                    refine steps_cons ?_ ?_
                    · as_aux_lemma =>
                      rintro b a w' ⟨ha, Q_HB, Q_B5, Q_TK⟩ hb_ hon hoff
                      refine ⟨_, rfl, fun K hK => ?_⟩
                      have e176 : a.tmps[176]? = some (.slice At nn ct) := by rw [ha]; exact putSel_on (e := (15, 176, .slice At nn ct)) 14 rfl rfl (hon 15 (by kernel_rfl)) rfl
                      have e175 : a.tmps[175]? = some (.bool false) := by rw [ha]; exact putSel_on (e := (14, 175, .bool false)) 13 rfl rfl (hon 14 (by kernel_rfl)) rfl
                      replace ha := Aside0.mk ha
                      have HB := Aside0.mk Q_HB
                      have B5 := Aside0.mk Q_B5
                      have TK := Aside0.mk Q_TK
                      refine value_ (w1 := w') (v := .int .i64 (nn : Int)) (wanted_on rfl rfl rfl (e175.trans (by first | rfl | (simp [*]; done)))) rfl ?_ ?_
                      · go_simp
                        (try simp only [i64_w])
                        try rfl
                      refine hK.out _ _ ⟨(by rw [ha.out]; exact putSel_upk 15 hb_ rfl rfl rfl), Q_HB, Q_B5, Q_TK⟩
                    refine steps_cons ?_ ?_
                    · as_aux_lemma =>
                      rintro b a w' ⟨ha, Q_HB, Q_B5, Q_TK⟩ hb_ hon hoff
                      refine ⟨_, rfl, fun K hK => ?_⟩
                      have e0 : a.tmps[0]? = some (.int .i64 s) := by rw [ha]; exact (putSel_off rfl).trans rfl
                      have e175 : a.tmps[175]? = some (.bool false) := by rw [ha]; exact putSel_on (e := (14, 175, .bool false)) 13 rfl rfl (hon 14 (by kernel_rfl)) rfl
                      replace ha := Aside0.mk ha
                      have HB := Aside0.mk Q_HB
                      have B5 := Aside0.mk Q_B5
                      have TK := Aside0.mk Q_TK
                      refine value_ (w1 := w') (v := .int .i64 s) (wanted_on rfl rfl rfl (e175.trans (by first | rfl | (simp [*]; done)))) rfl ?_ ?_
                      · go_simp
                        (try simp only [i64_w])
                        try rfl
                      refine hK.out _ _ ⟨(by rw [ha.out]; exact putSel_upk 16 hb_ rfl rfl rfl), Q_HB, Q_B5, Q_TK⟩
                    refine steps_cons ?_ ?_
                    · as_aux_lemma =>
                      rintro b a w' ⟨ha, Q_HB, Q_B5, Q_TK⟩ hb_ hon hoff
                      refine ⟨_, rfl, fun K hK => ?_⟩
                      have e177 : a.tmps[177]? = some (.int .i64 (nn : Int)) := by rw [ha]; exact putSel_on (e := (16, 177, .int .i64 (nn : Int))) 15 rfl rfl (hon 16 (by kernel_rfl)) rfl
                      have e178 : a.tmps[178]? = some (.int .i64 s) := by rw [ha]; exact putSel_on (e := (17, 178, .int .i64 s)) 16 rfl rfl (hon 17 (by kernel_rfl)) rfl
                      have e175 : a.tmps[175]? = some (.bool false) := by rw [ha]; exact putSel_on (e := (14, 175, .bool false)) 13 rfl rfl (hon 14 (by kernel_rfl)) rfl
                      replace ha := Aside0.mk ha
                      have HB := Aside0.mk Q_HB
                      have B5 := Aside0.mk Q_B5
                      have TK := Aside0.mk Q_TK
                      refine value_ (w1 := w') (v := .bool false) (wanted_on rfl rfl rfl (e175.trans (by first | rfl | (simp [*]; done)))) rfl ?_ ?_
                      · go_simp
                        (try simp only [i64_w])
                        try rfl
                      refine hK.out _ _ ⟨(by rw [ha.out]; exact putSel_upk 17 hb_ rfl rfl rfl), Q_HB, Q_B5, Q_TK⟩
                    refine steps_cons ?_ ?_
                    · as_aux_lemma =>
                      rintro b a w' ⟨ha, Q_HB, Q_B5, Q_TK⟩ hb_ hon hoff
                      refine ⟨_, rfl, fun K hK => ?_⟩
                      have e175 : a.tmps[175]? = some (.bool false) := by rw [ha]; exact putSel_on (e := (14, 175, .bool false)) 13 rfl rfl (hon 14 (by kernel_rfl)) rfl
                      have e179 : a.tmps[179]? = some (.bool false) := by rw [ha]; exact putSel_on (e := (18, 179, .bool false)) 17 rfl rfl (hon 18 (by kernel_rfl)) rfl
                      replace ha := Aside0.mk ha
                      have HB := Aside0.mk Q_HB
                      have B5 := Aside0.mk Q_B5
                      have TK := Aside0.mk Q_TK
                      refine value_ (w1 := w') (v := .bool false) (by rfl) rfl ?_ ?_
                      · go_simp
                        (try simp only [i64_w])
                        try rfl
                      refine hK.out _ _ ⟨(by rw [ha.out]; exact putSel_upk 18 hb_ rfl rfl rfl), Q_HB, Q_B5, Q_TK⟩
                    exact steps_nil
                  rintro b a wU hall ⟨ha, Q_HB, Q_B5, Q_TK⟩
                  clear B5 HB TK
                  have hb0_ := hall 0 (by kernel_rfl)
                  have hb1_ := hall 1 (by kernel_rfl)
                  have hb3_ := hall 3 (by kernel_rfl)
                  have hb4_ := hall 4 (by kernel_rfl)
                  have hb5_ := hall 5 (by kernel_rfl)
                  have hb6_ := hall 6 (by kernel_rfl)
                  have hb7_ := hall 7 (by kernel_rfl)
                  have hb8_ := hall 8 (by kernel_rfl)
                  have hb9_ := hall 9 (by kernel_rfl)
                  have hb10_ := hall 10 (by kernel_rfl)
                  have hb11_ := hall 11 (by kernel_rfl)
                  have hb12_ := hall 12 (by kernel_rfl)
                  have hb13_ := hall 13 (by kernel_rfl)
                  have hb14_ := hall 14 (by kernel_rfl)
                  have hb15_ := hall 15 (by kernel_rfl)
                  have hb16_ := hall 16 (by kernel_rfl)
                  have hb17_ := hall 17 (by kernel_rfl)
                  have hb18_ := hall 18 (by kernel_rfl)
                  have hb19_ := hall 19 (by kernel_rfl)
                  subst ha
                  simp only [putSel, hb0_, hb1_, hb3_, hb4_, hb5_, hb6_, hb7_, hb8_, hb9_, hb10_, hb11_, hb12_, hb13_, hb14_, hb15_, hb16_, hb17_, hb18_, hb19_, if_true, Act.put, List.setIfInBounds_toArray, List.set_cons_zero, List.set_cons_succ]
                  have HB := Aside0.mk Q_HB
                  clear Q_HB
                  have B5 := Aside0.mk Q_B5
                  clear Q_B5
                  have TK := Aside0.mk Q_TK
                  clear Q_TK
                  clear hall hb0_ hb1_ hb3_ hb4_ hb5_ hb6_ hb7_ hb8_ hb9_ hb10_ hb11_ hb12_ hb13_ hb14_ hb15_ hb16_ hb17_ hb18_ hb19_
                  clear q1
                  go_wp2_with (fail)
                  refine ⟨⟨i + 1, h, t', by omega, by go_num, by omega, hm', ⟨HB.out, B5.out, ?_⟩⟩, by simp [intOf]; omega⟩
                  rw [← HNN.out, Int.toNat_natCast]
                  exact TK.out
    · have hil : i = l.length := by omega
      obtain ⟨nn, hnn⟩ : ∃ nn : Nat, (nn : Int) = h - t := ⟨(h - t).toNat, by have := hm.2.2.2.1; omega⟩
      have hns : (nn : Int) ≤ s := by have := hm.2.2.2.2.2; omega
      have hTk := H.out.2.2
      rw [← hnn, Int.toNat_natCast] at hTk
      obtain ⟨At, ct, rfl, hTc⟩ := hTk.seq
      have z5 := blk_lt H.out.2.1
      obtain ⟨L, hat, hsp⟩ : ∃ L, ring_Ring_At.f 3 s h t t (nn : Int) = some (L, 0) ∧ SP s t (nn : Int) L := ⟨_, at_ok hm hm.2.2.1 (by omega) (by omega) hns 3 (by omega), sp_spans s t _ h1 hm.2.2.1 (by omega) hns⟩
      have AF := Aside0.mk hat
      have HSP := Aside0.mk hsp
      have HTk := Aside0.mk hTk
      have AU := Aside0.mk (show ring_Ring_Used.f 3 s h t = some (nn : Int) by rw [used_yes hm 3 (by omega), hnn])
      have AH := Aside0.mk (show ring_Ring_Holds.f 3 s h t t (nn : Int) = some true by rw [holds_yes hm 3 (by omega)]; simp; omega)
      have AN := Aside0.mk (show ring_Ring_Holds.f 3 s h t t ((nn : Int) + 1) = some false by rw [holds_yes hm 3 (by omega)]; simp; omega)
      have hln : nn ≤ 300 := by omega
      have HIL := Aside0.mk hil
      have HNN := Aside0.mk hnn
      clear hat hsp hTk hTc hil hnn
      go_wp2_with (fail)
      have H0 := H
      clear H
      refine start_ (n := 11) (S := fun w' => True) (ds := []) #[false, false, false, false, false, false, false, false, false, false, false] (by kernel_rfl) rfl rfl trivial (fun hHeld => ?_)
      refine with_tabW back.tab43 back.bits43 (fun HT_ HW_ => ?_)
      have HB := Aside0.mk (below_step H0.out.1 (below_drew (Below.refl _ _)))
      have B5 := Aside0.mk (blk_below H0.out.2.1 (below_drew (Below.refl _ _)))
      have TK := Aside0.mk (HTk.out.below (below_drew (Below.refl _ _)))
      generalize wr.drew = wz at HB B5 TK hHeld ⊢
      clear hHeld H0 HTk
      refine inv_at [0, 1, 2, 3, 4, 5, 6, 7, 8, 9, 10] (fun a0_ b a w' => ∃ (v4 : Value) (m5_ : Value) (m6_ : Value) (m7_ : Value) (m9_ : Value), a = putSel a0_ b [(0, 182, .agg #[.int .i64 s, .int .i64 h, .int .i64 t]), (1, 183, .pointer (some ⟨b5, 2, none⟩)), (2, 184, .int .i64 t), (3, 185, .agg #[.int .i64 s, .int .i64 h, .int .i64 t]), (4, 186, .int .i64 (nn : Int)), (5, 187, m5_), (6, 181, m6_), (7, 188, m7_), (8, 189, .int .i64 0), (9, 21, m9_), (10, 22, .int .i64 0)] ∧ (Below w.heap.size w w') ∧ (w'.heap[b5]? = some (.cells #[.int .i64 s, .int .i64 h, .int .i64 t] 23 (0, 0))) ∧ (Tk w' w.heap.size (.slice At nn ct) (seqS s t nn)) ∧ (b 5 = true → SpR w' v4 L) ∧ (b 5 = true → (m5_ : Value) = .tuple #[v4, .int .i64 0]) ∧ (b 6 = true → (m6_ : Value) = .tuple #[v4, .int .i64 0]) ∧ (b 7 = true → (m7_ : Value) = v4) ∧ (b 9 = true → (m9_ : Value) = v4)) HT_.out HW_.out (by kernel_rfl) (by kernel_rfl) ?_ ?_ ?_
      · exact ⟨.bool false, .bool false, .bool false, .bool false, .bool false, by simp only [putSel, Bool.false_eq_true, if_false], HB.out, B5.out, TK.out, fun h_ => absurd h_ (by decide), fun h_ => absurd h_ (by decide), fun h_ => absurd h_ (by decide), fun h_ => absurd h_ (by decide), fun h_ => absurd h_ (by decide)⟩
      · skip
        clear B5 HB TK
        refine steps_cons ?_ ?_
        · as_aux_lemma =>
          rintro b a w' ⟨v4, m5_, m6_, m7_, m9_, ha, Q_HB, Q_B5, Q_TK, Q_SR, Q_X5_, Q_X6_, Q_X7_, Q_X9_⟩ hb_ hon hoff
          refine ⟨_, rfl, fun K hK => ?_⟩
          have e5 : a.tmps[5]? = some (.pointer (some ⟨b5, 0, none⟩)) := by rw [ha]; exact (putSel_off rfl).trans rfl
          replace ha := Aside0.mk ha
          have HB := Aside0.mk Q_HB
          have B5 := Aside0.mk Q_B5
          have TK := Aside0.mk Q_TK
          have hs0_ : w'.cell? ⟨b5, 0, none⟩ = some (.int .i64 s) := (blk_cell B5.out 0).trans rfl
          have hs1_ : w'.cell? ⟨b5, 1, none⟩ = some (.int .i64 h) := (blk_cell B5.out 1).trans rfl
          have hs2_ : w'.cell? ⟨b5, 2, none⟩ = some (.int .i64 t) := (blk_cell B5.out 2).trans rfl
          refine value_ (w1 := w') (v := .agg #[.int .i64 s, .int .i64 h, .int .i64 t]) (by rfl) rfl ?_ ?_
          · go_simp
            (try simp only [i64_w])
            try rfl
          refine hK.out _ _ ⟨v4, m5_, m6_, m7_, m9_, (by rw [ha.out]; exact putSel_upk 0 hb_ rfl rfl rfl), Q_HB, Q_B5, Q_TK, fun h0_ => absurd ((hoff 5 (by kernel_rfl)).symm.trans h0_) (by decide), fun h0_ => absurd ((hoff 5 (by kernel_rfl)).symm.trans h0_) (by decide), fun h0_ => absurd ((hoff 6 (by kernel_rfl)).symm.trans h0_) (by decide), fun h0_ => absurd ((hoff 7 (by kernel_rfl)).symm.trans h0_) (by decide), fun h0_ => absurd ((hoff 9 (by kernel_rfl)).symm.trans h0_) (by decide)⟩
        refine steps_cons ?_ ?_
        · as_aux_lemma =>
          rintro b a w' ⟨v4, m5_, m6_, m7_, m9_, ha, Q_HB, Q_B5, Q_TK, Q_SR, Q_X5_, Q_X6_, Q_X7_, Q_X9_⟩ hb_ hon hoff
          refine ⟨_, rfl, fun K hK => ?_⟩
          have e5 : a.tmps[5]? = some (.pointer (some ⟨b5, 0, none⟩)) := by rw [ha]; exact (putSel_off rfl).trans rfl
          replace ha := Aside0.mk ha
          have HB := Aside0.mk Q_HB
          have B5 := Aside0.mk Q_B5
          have TK := Aside0.mk Q_TK
          refine value_ (w1 := w') (v := .pointer (some ⟨b5, 2, none⟩)) (by rfl) rfl ?_ ?_
          · go_simp
            (try simp only [i64_w])
            try rfl
          refine hK.out _ _ ⟨v4, m5_, m6_, m7_, m9_, (by rw [ha.out]; exact putSel_upk 1 hb_ rfl rfl rfl), Q_HB, Q_B5, Q_TK, fun h0_ => absurd ((hoff 5 (by kernel_rfl)).symm.trans h0_) (by decide), fun h0_ => absurd ((hoff 5 (by kernel_rfl)).symm.trans h0_) (by decide), fun h0_ => absurd ((hoff 6 (by kernel_rfl)).symm.trans h0_) (by decide), fun h0_ => absurd ((hoff 7 (by kernel_rfl)).symm.trans h0_) (by decide), fun h0_ => absurd ((hoff 9 (by kernel_rfl)).symm.trans h0_) (by decide)⟩
        refine steps_cons ?_ ?_
        · as_aux_lemma =>
          rintro b a w' ⟨v4, m5_, m6_, m7_, m9_, ha, Q_HB, Q_B5, Q_TK, Q_SR, Q_X5_, Q_X6_, Q_X7_, Q_X9_⟩ hb_ hon hoff
          refine ⟨_, rfl, fun K hK => ?_⟩
          have e183 : a.tmps[183]? = some (.pointer (some ⟨b5, 2, none⟩)) := by rw [ha]; exact putSel_on (e := (1, 183, .pointer (some ⟨b5, 2, none⟩))) 1 rfl rfl (hon 1 (by kernel_rfl)) rfl
          replace ha := Aside0.mk ha
          have HB := Aside0.mk Q_HB
          have B5 := Aside0.mk Q_B5
          have TK := Aside0.mk Q_TK
          have hs0_ : w'.cell? ⟨b5, 0, none⟩ = some (.int .i64 s) := (blk_cell B5.out 0).trans rfl
          have hs1_ : w'.cell? ⟨b5, 1, none⟩ = some (.int .i64 h) := (blk_cell B5.out 1).trans rfl
          have hs2_ : w'.cell? ⟨b5, 2, none⟩ = some (.int .i64 t) := (blk_cell B5.out 2).trans rfl
          refine value_ (w1 := w') (v := .int .i64 t) (by rfl) rfl ?_ ?_
          · go_simp
            (try simp only [i64_w])
            try rfl
          refine hK.out _ _ ⟨v4, m5_, m6_, m7_, m9_, (by rw [ha.out]; exact putSel_upk 2 hb_ rfl rfl rfl), Q_HB, Q_B5, Q_TK, fun h0_ => absurd ((hoff 5 (by kernel_rfl)).symm.trans h0_) (by decide), fun h0_ => absurd ((hoff 5 (by kernel_rfl)).symm.trans h0_) (by decide), fun h0_ => absurd ((hoff 6 (by kernel_rfl)).symm.trans h0_) (by decide), fun h0_ => absurd ((hoff 7 (by kernel_rfl)).symm.trans h0_) (by decide), fun h0_ => absurd ((hoff 9 (by kernel_rfl)).symm.trans h0_) (by decide)⟩
        refine steps_cons ?_ ?_
        · as_aux_lemma =>
          rintro b a w' ⟨v4, m5_, m6_, m7_, m9_, ha, Q_HB, Q_B5, Q_TK, Q_SR, Q_X5_, Q_X6_, Q_X7_, Q_X9_⟩ hb_ hon hoff
          refine ⟨_, rfl, fun K hK => ?_⟩
          have e5 : a.tmps[5]? = some (.pointer (some ⟨b5, 0, none⟩)) := by rw [ha]; exact (putSel_off rfl).trans rfl
          replace ha := Aside0.mk ha
          have HB := Aside0.mk Q_HB
          have B5 := Aside0.mk Q_B5
          have TK := Aside0.mk Q_TK
          have hs0_ : w'.cell? ⟨b5, 0, none⟩ = some (.int .i64 s) := (blk_cell B5.out 0).trans rfl
          have hs1_ : w'.cell? ⟨b5, 1, none⟩ = some (.int .i64 h) := (blk_cell B5.out 1).trans rfl
          have hs2_ : w'.cell? ⟨b5, 2, none⟩ = some (.int .i64 t) := (blk_cell B5.out 2).trans rfl
          refine value_ (w1 := w') (v := .agg #[.int .i64 s, .int .i64 h, .int .i64 t]) (by rfl) rfl ?_ ?_
          · go_simp
            (try simp only [i64_w])
            try rfl
          refine hK.out _ _ ⟨v4, m5_, m6_, m7_, m9_, (by rw [ha.out]; exact putSel_upk 3 hb_ rfl rfl rfl), Q_HB, Q_B5, Q_TK, fun h0_ => absurd ((hoff 5 (by kernel_rfl)).symm.trans h0_) (by decide), fun h0_ => absurd ((hoff 5 (by kernel_rfl)).symm.trans h0_) (by decide), fun h0_ => absurd ((hoff 6 (by kernel_rfl)).symm.trans h0_) (by decide), fun h0_ => absurd ((hoff 7 (by kernel_rfl)).symm.trans h0_) (by decide), fun h0_ => absurd ((hoff 9 (by kernel_rfl)).symm.trans h0_) (by decide)⟩
        refine steps_cons ?_ ?_
        · as_aux_lemma =>
          rintro b a w' ⟨v4, m5_, m6_, m7_, m9_, ha, Q_HB, Q_B5, Q_TK, Q_SR, Q_X5_, Q_X6_, Q_X7_, Q_X9_⟩ hb_ hon hoff
          refine ⟨_, rfl, fun K hK => ?_⟩
          have e185 : a.tmps[185]? = some (.agg #[.int .i64 s, .int .i64 h, .int .i64 t]) := by rw [ha]; exact putSel_on (e := (3, 185, .agg #[.int .i64 s, .int .i64 h, .int .i64 t])) 3 rfl rfl (hon 3 (by kernel_rfl)) rfl
          replace ha := Aside0.mk ha
          have HB := Aside0.mk Q_HB
          have B5 := Aside0.mk Q_B5
          have TK := Aside0.mk Q_TK
          refine goes_ Try.func15 (by kernel_rfl) rfl #[.agg #[.int .i64 s, .int .i64 h, .int .i64 t]] (by rfl) rfl rfl (by first | (simp only [List.map_toArray, List.map_cons, List.map_nil, Act.eval, Array.getD_eq_getD_getElem?, Option.getD_some, e185]; done) | (simp only [List.map_toArray, List.map_cons, List.map_nil, Act.eval, Array.getD_eq_getD_getElem?, Option.getD_some, e185]; rfl)) ?_
          with_reducible refine (ring_Ring_Used.calls 3 s h t _ _ AU.out).mono ?_
          rintro e w6 ⟨rfl, hb⟩
          refine ⟨_, rfl, ?_⟩
          refine hK.out _ _ ⟨v4, m5_, m6_, m7_, m9_, (by rw [ha.out]; exact putSel_upk 4 hb_ rfl rfl rfl), below_step HB.out hb, blk_below B5.out hb, TK.out.below hb, fun h0_ => absurd ((hoff 5 (by kernel_rfl)).symm.trans h0_) (by decide), fun h0_ => absurd ((hoff 5 (by kernel_rfl)).symm.trans h0_) (by decide), fun h0_ => absurd ((hoff 6 (by kernel_rfl)).symm.trans h0_) (by decide), fun h0_ => absurd ((hoff 7 (by kernel_rfl)).symm.trans h0_) (by decide), fun h0_ => absurd ((hoff 9 (by kernel_rfl)).symm.trans h0_) (by decide)⟩
        refine steps_cons ?_ ?_
        · as_aux_lemma =>
          rintro b a w' ⟨v4, m5_, m6_, m7_, m9_, ha, Q_HB, Q_B5, Q_TK, Q_SR, Q_X5_, Q_X6_, Q_X7_, Q_X9_⟩ hb_ hon hoff
          refine ⟨_, rfl, fun K hK => ?_⟩
          have e182 : a.tmps[182]? = some (.agg #[.int .i64 s, .int .i64 h, .int .i64 t]) := by rw [ha]; exact putSel_on (e := (0, 182, .agg #[.int .i64 s, .int .i64 h, .int .i64 t])) 0 rfl rfl (hon 0 (by kernel_rfl)) rfl
          have e184 : a.tmps[184]? = some (.int .i64 t) := by rw [ha]; exact putSel_on (e := (2, 184, .int .i64 t)) 2 rfl rfl (hon 2 (by kernel_rfl)) rfl
          have e186 : a.tmps[186]? = some (.int .i64 (nn : Int)) := by rw [ha]; exact putSel_on (e := (4, 186, .int .i64 (nn : Int))) 4 rfl rfl (hon 4 (by kernel_rfl)) rfl
          replace ha := Aside0.mk ha
          have HB := Aside0.mk Q_HB
          have B5 := Aside0.mk Q_B5
          have TK := Aside0.mk Q_TK
          refine goes_ Try.func16 (by kernel_rfl) rfl #[.agg #[.int .i64 s, .int .i64 h, .int .i64 t], .int .i64 t, .int .i64 (nn : Int)] (by rfl) rfl rfl (by first | (simp only [List.map_toArray, List.map_cons, List.map_nil, Act.eval, Array.getD_eq_getD_getElem?, Option.getD_some, e182, e184, e186]; done) | (simp only [List.map_toArray, List.map_cons, List.map_nil, Act.eval, Array.getD_eq_getD_getElem?, Option.getD_some, e182, e184, e186]; rfl)) ?_
          with_reducible refine (ring_Ring_At.calls 3 s h t t (nn : Int) _ _ _ AF.out).mono ?_
          rintro e w6 ⟨v4_, rfl, hR, hb⟩
          refine ⟨_, rfl, ?_⟩
          refine hK.out _ _ ⟨v4_, (.tuple #[v4_, .int .i64 0]), m6_, m7_, m9_, (by rw [ha.out]; exact putSel_upk 5 hb_ rfl rfl rfl), below_step HB.out hb, blk_below B5.out hb, TK.out.below hb, fun _ => spR_of hR, fun _ => rfl, fun h0_ => absurd ((hoff 6 (by kernel_rfl)).symm.trans h0_) (by decide), fun h0_ => absurd ((hoff 7 (by kernel_rfl)).symm.trans h0_) (by decide), fun h0_ => absurd ((hoff 9 (by kernel_rfl)).symm.trans h0_) (by decide)⟩
        refine steps_cons ?_ ?_
        · as_aux_lemma =>
          rintro b a w' ⟨v4, m5_, m6_, m7_, m9_, ha, Q_HB, Q_B5, Q_TK, Q_SR, Q_X5_, Q_X6_, Q_X7_, Q_X9_⟩ hb_ hon hoff
          refine ⟨_, rfl, fun K hK => ?_⟩
          have e187 : a.tmps[187]? = some (m5_) := by rw [ha]; exact putSel_on (e := (5, 187, m5_)) 5 rfl rfl (hon 5 (by kernel_rfl)) rfl
          rw [Q_X5_ (hon 5 (by kernel_rfl))] at e187
          replace ha := Aside0.mk ha
          have HB := Aside0.mk Q_HB
          have B5 := Aside0.mk Q_B5
          have TK := Aside0.mk Q_TK
          have SR := Aside0.mk (Q_SR (hon 5 (by kernel_rfl)))
          refine value_ (w1 := w') (v := .tuple #[v4, .int .i64 0]) (by rfl) rfl ?_ ?_
          · go_simp
            (try simp only [i64_w])
            try rfl
          refine hK.out _ _ ⟨v4, m5_, (.tuple #[v4, .int .i64 0]), m7_, m9_, (by rw [ha.out]; exact putSel_upk 6 hb_ rfl rfl rfl), Q_HB, Q_B5, Q_TK, Q_SR, Q_X5_, fun _ => rfl, fun h0_ => absurd ((hoff 7 (by kernel_rfl)).symm.trans h0_) (by decide), fun h0_ => absurd ((hoff 9 (by kernel_rfl)).symm.trans h0_) (by decide)⟩
        refine steps_cons ?_ ?_
        · as_aux_lemma =>
          rintro b a w' ⟨v4, m5_, m6_, m7_, m9_, ha, Q_HB, Q_B5, Q_TK, Q_SR, Q_X5_, Q_X6_, Q_X7_, Q_X9_⟩ hb_ hon hoff
          refine ⟨_, rfl, fun K hK => ?_⟩
          have e181 : a.tmps[181]? = some (m6_) := by rw [ha]; exact putSel_on (e := (6, 181, m6_)) 6 rfl rfl (hon 6 (by kernel_rfl)) rfl
          rw [Q_X6_ (hon 6 (by kernel_rfl))] at e181
          replace ha := Aside0.mk ha
          have HB := Aside0.mk Q_HB
          have B5 := Aside0.mk Q_B5
          have TK := Aside0.mk Q_TK
          have SR := Aside0.mk (Q_SR (hon 5 (by kernel_rfl)))
          refine value_ (w1 := w') (v := v4) (by rfl) rfl ?_ ?_
          · go_simp
            (try simp only [i64_w])
            try rfl
          refine hK.out _ _ ⟨v4, m5_, m6_, (v4), m9_, (by rw [ha.out]; exact putSel_upk 7 hb_ rfl rfl rfl), Q_HB, Q_B5, Q_TK, Q_SR, Q_X5_, Q_X6_, fun _ => rfl, fun h0_ => absurd ((hoff 9 (by kernel_rfl)).symm.trans h0_) (by decide)⟩
        refine steps_cons ?_ ?_
        · as_aux_lemma =>
          rintro b a w' ⟨v4, m5_, m6_, m7_, m9_, ha, Q_HB, Q_B5, Q_TK, Q_SR, Q_X5_, Q_X6_, Q_X7_, Q_X9_⟩ hb_ hon hoff
          refine ⟨_, rfl, fun K hK => ?_⟩
          have e181 : a.tmps[181]? = some (m6_) := by rw [ha]; exact putSel_on (e := (6, 181, m6_)) 6 rfl rfl (hon 6 (by kernel_rfl)) rfl
          rw [Q_X6_ (hon 6 (by kernel_rfl))] at e181
          replace ha := Aside0.mk ha
          have HB := Aside0.mk Q_HB
          have B5 := Aside0.mk Q_B5
          have TK := Aside0.mk Q_TK
          have SR := Aside0.mk (Q_SR (hon 5 (by kernel_rfl)))
          refine value_ (w1 := w') (v := .int .i64 0) (by rfl) rfl ?_ ?_
          · go_simp
            (try simp only [i64_w])
            try rfl
          refine hK.out _ _ ⟨v4, m5_, m6_, m7_, m9_, (by rw [ha.out]; exact putSel_upk 8 hb_ rfl rfl rfl), Q_HB, Q_B5, Q_TK, Q_SR, Q_X5_, Q_X6_, Q_X7_, Q_X9_⟩
        refine steps_cons ?_ ?_
        · as_aux_lemma =>
          rintro b a w' ⟨v4, m5_, m6_, m7_, m9_, ha, Q_HB, Q_B5, Q_TK, Q_SR, Q_X5_, Q_X6_, Q_X7_, Q_X9_⟩ hb_ hon hoff
          refine ⟨_, rfl, fun K hK => ?_⟩
          have e188 : a.tmps[188]? = some (m7_) := by rw [ha]; exact putSel_on (e := (7, 188, m7_)) 7 rfl rfl (hon 7 (by kernel_rfl)) rfl
          rw [Q_X7_ (hon 7 (by kernel_rfl))] at e188
          replace ha := Aside0.mk ha
          have HB := Aside0.mk Q_HB
          have B5 := Aside0.mk Q_B5
          have TK := Aside0.mk Q_TK
          have SR := Aside0.mk (Q_SR (hon 5 (by kernel_rfl)))
          refine value_ (w1 := w') (v := v4) (by rfl) rfl ?_ ?_
          · go_simp
            (try simp only [i64_w])
            try rfl
          refine hK.out _ _ ⟨v4, m5_, m6_, m7_, (v4), (by rw [ha.out]; exact putSel_upk 9 hb_ rfl rfl rfl), Q_HB, Q_B5, Q_TK, Q_SR, Q_X5_, Q_X6_, Q_X7_, fun _ => rfl⟩
        refine steps_cons ?_ ?_
        · as_aux_lemma =>
          rintro b a w' ⟨v4, m5_, m6_, m7_, m9_, ha, Q_HB, Q_B5, Q_TK, Q_SR, Q_X5_, Q_X6_, Q_X7_, Q_X9_⟩ hb_ hon hoff
          refine ⟨_, rfl, fun K hK => ?_⟩
          have e189 : a.tmps[189]? = some (.int .i64 0) := by rw [ha]; exact putSel_on (e := (8, 189, .int .i64 0)) 8 rfl rfl (hon 8 (by kernel_rfl)) rfl
          replace ha := Aside0.mk ha
          have HB := Aside0.mk Q_HB
          have B5 := Aside0.mk Q_B5
          have TK := Aside0.mk Q_TK
          have SR := Aside0.mk (Q_SR (hon 5 (by kernel_rfl)))
          refine value_ (w1 := w') (v := .int .i64 0) (by rfl) rfl ?_ ?_
          · go_simp
            (try simp only [i64_w])
            try rfl
          refine hK.out _ _ ⟨v4, m5_, m6_, m7_, m9_, (by rw [ha.out]; exact putSel_upk 10 hb_ rfl rfl rfl), Q_HB, Q_B5, Q_TK, Q_SR, Q_X5_, Q_X6_, Q_X7_, Q_X9_⟩
        exact steps_nil
      rintro b a wT hall ⟨v4, m5_, m6_, m7_, m9_, ha, Q_HB, Q_B5, Q_TK, Q_SR, Q_X5_, Q_X6_, Q_X7_, Q_X9_⟩
      clear B5 HB TK
      have hb0_ := hall 0 (by kernel_rfl)
      have hb1_ := hall 1 (by kernel_rfl)
      have hb2_ := hall 2 (by kernel_rfl)
      have hb3_ := hall 3 (by kernel_rfl)
      have hb4_ := hall 4 (by kernel_rfl)
      have hb5_ := hall 5 (by kernel_rfl)
      have hb6_ := hall 6 (by kernel_rfl)
      have hb7_ := hall 7 (by kernel_rfl)
      have hb8_ := hall 8 (by kernel_rfl)
      have hb9_ := hall 9 (by kernel_rfl)
      have hb10_ := hall 10 (by kernel_rfl)
      subst ha
      obtain rfl := Q_X5_ hb5_
      obtain rfl := Q_X6_ hb6_
      obtain rfl := Q_X7_ hb7_
      obtain rfl := Q_X9_ hb9_
      simp only [putSel, hb0_, hb1_, hb2_, hb3_, hb4_, hb5_, hb6_, hb7_, hb8_, hb9_, hb10_, if_true, Act.put, List.setIfInBounds_toArray, List.set_cons_zero, List.set_cons_succ]
      have HB := Aside0.mk Q_HB
      clear Q_HB
      have B5 := Aside0.mk Q_B5
      clear Q_B5
      have TK := Aside0.mk Q_TK
      clear Q_TK
      have SR := Aside0.mk (Q_SR hb5_)
      clear Q_SR
      clear hall hb0_ hb1_ hb2_ hb3_ hb4_ hb5_ hb6_ hb7_ hb8_ hb9_ hb10_
      obtain ⟨S4, k4, rfl⟩ := SR.out.shape
      have hL2 : L.length ≤ 2 := HSP.out.2.1
      go_wp2_with (fail)
      go_loopw [23, 24] (fun v23 v24 wr => ∃ k : Nat, k ≤ L.length ∧ v24 = .int .i64 k ∧ v23 = .int .i64 (pre L k) ∧ Aside0 (Below w.heap.size w wr ∧ wr.heap[b5]? = some (.cells #[.int .i64 s, .int .i64 h, .int .i64 t] 23 (0, 0)) ∧ SpR wr (.slice S4 L.length k4) L ∧ Tk wr w.heap.size (.slice At nn ct) (seqS s t nn))) (fun _ v24 _ => L.length - (intOf v24).toNat)
      case atStart => exact ⟨0, by omega, rfl, by simp [pre], ⟨HB.out, B5.out, SR.out, TK.out⟩⟩
      case round =>
        as_aux_lemma =>
          clear HB B5 SR TK
          obtain ⟨k, hk, rfl, rfl, H⟩ := hrel
          by_cases hkl : k < L.length
          · obtain ⟨X, hX⟩ : ∃ X, L[k]? = some X := ⟨_, List.getElem?_eq_getElem hkl⟩
            obtain ⟨y1, y2, y3, y4, y5, y6, y7⟩ := HSP.out.2.2 k X hX
            obtain ⟨gL, rfl, -, -⟩ := H.out.2.2.1.cell k X hX
            have HY := Aside0.mk (And.intro y3 y7)
            have HX2 := Aside0.mk hX
            clear y3 y7 hX
            go_wp2_with (fail)
            go_loopw [23, 25] (fun v23 v25 wr => ∃ (j q : Nat), (j : Int) ≤ X.f1 ∧ v25 = .int .i64 j ∧ v23 = .int .i64 q ∧ (q : Int) = pre L k + (j : Int) ∧ Aside0 (Below w.heap.size w wr ∧ wr.heap[b5]? = some (.cells #[.int .i64 s, .int .i64 h, .int .i64 t] 23 (0, 0)) ∧ SpR wr (.slice (some ⟨gL, 0, none⟩) L.length k4) L ∧ Tk wr w.heap.size (.slice At nn ct) (seqS s t nn))) (fun _ v25 _ => X.f1.toNat - (intOf v25).toNat)
            case atStart =>
              refine ⟨0, (pre L k).toNat, by omega, rfl, by rw [Int.toNat_of_nonneg y2], by omega, H⟩
            case round =>
              as_aux_lemma =>
                clear H
                obtain ⟨j, q, hj, rfl, rfl, hq, H⟩ := hrel
                obtain ⟨gL', e, hc0, hc1⟩ := H.out.2.2.1.cell k X HX2.out
                cases e
                by_cases hjl : (j : Int) < X.f1
                · have hqn : q < nn := by have := HNN.out; omega
                  have hat : X.f0 + (j : Int) = (t + (q : Int)) % s := by rw [HY.out.2 j (by omega) hjl, hq]
                  obtain ⟨A', c', e, hTc⟩ := H.out.2.2.2.seq
                  cases e
                  obtain ⟨g, o, rfl, hbg, hcc, hcells⟩ := hTc (by omega)
                  have hcq := hcells q hqn
                  rw [← hat] at hcq
                  have HC0 := Aside0.mk hcq
                  have HC1 := Aside0.mk hc0
                  have HQ := Aside0.mk hq
                  clear hat hcells hcq hq hTc
                  go_wp2_with (fail)
                  refine start_ (n := 18) (S := fun w' => True) (ds := []) #[false, false, false, false, false, false, false, false, false, false, false, false, false, false, false, false, false, false] (by kernel_rfl) rfl rfl trivial (fun hHeld => ?_)
                  refine with_tabW back.tab51 back.bits51 (fun HT_ HW_ => ?_)
                  have HB := Aside0.mk (below_step H.out.1 (below_drew (Below.refl _ _)))
                  have B5 := Aside0.mk (blk_below H.out.2.1 (below_drew (Below.refl _ _)))
                  have SR := Aside0.mk (H.out.2.2.1.below (below_drew (Below.refl _ _)))
                  have TK := Aside0.mk (H.out.2.2.2.below (below_drew (Below.refl _ _)))
                  have C0 := Aside0.mk (pw_cell_below (below_drew (Below.refl _ _)) HC0.out)
                  have C1 := Aside0.mk (pw_cell_below (below_drew (Below.refl _ _)) HC1.out)
                  generalize wr.drew = wz at HB B5 SR TK C0 C1 hHeld ⊢
                  clear hHeld H HC0 HC1 hc0 hc1
                  refine pure_ (i := 0) (N := some 205) (v := ?_) (a' := ?_) #[true, false, false, false, false, false, false, false, false, false, false, false, false, false, false, false, false, false] rfl rfl (any_of HT_.out (by kernel_rfl)) (fun _ _ _ h => h) (Or.inl ⟨by rfl, ?_⟩) ?_ ?_
                  rotate_left
                  · intro w'
                    go_simp
                    with_reducible rfl
                  rotate_left
                  · simp only [Act.put, List.setIfInBounds_toArray, List.set_cons_zero, List.set_cons_succ, i64_w, i32_w]
                    rfl
                  refine pure_ (i := 1) (N := some 206) (v := ?_) (a' := ?_) #[true, true, false, false, false, false, false, false, false, false, false, false, false, false, false, false, false, false] rfl rfl (any_of HT_.out (by kernel_rfl)) (fun _ _ _ h => h) (Or.inl ⟨by rfl, ?_⟩) ?_ ?_
                  rotate_left
                  · intro w'
                    go_simp
                    with_reducible rfl
                  rotate_left
                  · simp only [Act.put, List.setIfInBounds_toArray, List.set_cons_zero, List.set_cons_succ, i64_w, i32_w]
                    rfl
                  refine inv_at [2, 3, 4, 5, 6, 7, 8, 9, 10, 11, 12, 13, 14, 15, 16, 17] (fun a0_ b a w' => a = putSel a0_ b [(2, 207, .int .i64 (nn : Int)), (3, 208, .bool false), (4, 209, .bool false), (5, 210, .slice (some ⟨g, o, none⟩) nn ct), (6, 211, .int .i64 (q : Int)), (7, 212, .pointer (some ⟨g, o + q, none⟩)), (8, 213, .int .i64 (X.f0 + (j : Int))), (9, 214, .slice (some ⟨gL, 0, none⟩) L.length k4), (10, 215, .int .i64 (k : Int)), (11, 216, .pointer (some ⟨gL, k * 2, none⟩)), (12, 217, .pointer (some ⟨gL, k * 2, none⟩)), (13, 218, .int .i64 X.f0), (14, 219, .int .i64 (j : Int)), (15, 220, .int .i64 (X.f0 + (j : Int))), (16, 221, .bool false), (17, 222, .bool false)] ∧ (Below w.heap.size w w') ∧ (w'.heap[b5]? = some (.cells #[.int .i64 s, .int .i64 h, .int .i64 t] 23 (0, 0))) ∧ (SpR w' (.slice (some ⟨gL, 0, none⟩) L.length k4) L) ∧ (Tk w' w.heap.size (.slice (some ⟨g, o, none⟩) nn ct) (seqS s t nn)) ∧ (w'.cell? ⟨g, o + q, none⟩ = some (.int .i64 (X.f0 + (j : Int)))) ∧ (w'.cell? ⟨gL, k * 2, none⟩ = some (.int .i64 X.f0))) HT_.out HW_.out (by kernel_rfl) (by kernel_rfl) ?_ ?_ ?_
                  · exact ⟨by simp only [putSel, Bool.false_eq_true, if_false], HB.out, B5.out, SR.out, TK.out, C0.out, C1.out⟩
                  · skip
                    clear B5 C0 C1 HB SR TK
                    refine steps_cons ?_ ?_
                    · as_aux_lemma =>
                      rintro b a w' ⟨ha, Q_HB, Q_B5, Q_SR, Q_TK, Q_C0, Q_C1⟩ hb_ hon hoff
                      refine ⟨_, rfl, fun K hK => ?_⟩
                      have e206 : a.tmps[206]? = some (.slice (some ⟨g, o, none⟩) nn ct) := by rw [ha]; exact (putSel_off rfl).trans rfl
                      replace ha := Aside0.mk ha
                      have HB := Aside0.mk Q_HB
                      have B5 := Aside0.mk Q_B5
                      have SR := Aside0.mk Q_SR
                      have TK := Aside0.mk Q_TK
                      have C0 := Aside0.mk Q_C0
                      have C1 := Aside0.mk Q_C1
                      refine value_ (w1 := w') (v := .int .i64 (nn : Int)) (by rfl) rfl ?_ ?_
                      · go_simp
                        (try simp only [i64_w])
                        try rfl
                      refine hK.out _ _ ⟨(by rw [ha.out]; exact putSel_upk 0 hb_ rfl rfl rfl), Q_HB, Q_B5, Q_SR, Q_TK, Q_C0, Q_C1⟩
                    refine steps_cons ?_ ?_
                    · as_aux_lemma =>
                      rintro b a w' ⟨ha, Q_HB, Q_B5, Q_SR, Q_TK, Q_C0, Q_C1⟩ hb_ hon hoff
                      refine ⟨_, rfl, fun K hK => ?_⟩
                      have e205 : a.tmps[205]? = some (.int .i64 (q : Int)) := by rw [ha]; exact (putSel_off rfl).trans rfl
                      have e207 : a.tmps[207]? = some (.int .i64 (nn : Int)) := by rw [ha]; exact putSel_on (e := (2, 207, .int .i64 (nn : Int))) 0 rfl rfl (hon 2 (by kernel_rfl)) rfl
                      replace ha := Aside0.mk ha
                      have HB := Aside0.mk Q_HB
                      have B5 := Aside0.mk Q_B5
                      have SR := Aside0.mk Q_SR
                      have TK := Aside0.mk Q_TK
                      have C0 := Aside0.mk Q_C0
                      have C1 := Aside0.mk Q_C1
                      have hn0_ : ¬ ((q : Int) ≥ (nn : Int)) := by omega
                      have hn1_ : ¬ (nn ≤ q) := by omega
                      refine value_ (w1 := w') (v := .bool false) (by rfl) rfl ?_ ?_
                      · go_simp
                        (try simp only [i64_w])
                        try rfl
                      refine hK.out _ _ ⟨(by rw [ha.out]; exact putSel_upk 1 hb_ rfl rfl rfl), Q_HB, Q_B5, Q_SR, Q_TK, Q_C0, Q_C1⟩
                    refine steps_cons ?_ ?_
                    · as_aux_lemma =>
                      rintro b a w' ⟨ha, Q_HB, Q_B5, Q_SR, Q_TK, Q_C0, Q_C1⟩ hb_ hon hoff
                      refine ⟨_, rfl, fun K hK => ?_⟩
                      have e208 : a.tmps[208]? = some (.bool false) := by rw [ha]; exact putSel_on (e := (3, 208, .bool false)) 1 rfl rfl (hon 3 (by kernel_rfl)) rfl
                      replace ha := Aside0.mk ha
                      have HB := Aside0.mk Q_HB
                      have B5 := Aside0.mk Q_B5
                      have SR := Aside0.mk Q_SR
                      have TK := Aside0.mk Q_TK
                      have C0 := Aside0.mk Q_C0
                      have C1 := Aside0.mk Q_C1
                      refine value_ (w1 := w') (v := .bool false) (by rfl) rfl ?_ ?_
                      · go_simp
                        (try simp only [i64_w])
                        try rfl
                      refine hK.out _ _ ⟨(by rw [ha.out]; exact putSel_upk 2 hb_ rfl rfl rfl), Q_HB, Q_B5, Q_SR, Q_TK, Q_C0, Q_C1⟩
                    refine steps_cons ?_ ?_
                    · as_aux_lemma =>
                      rintro b a w' ⟨ha, Q_HB, Q_B5, Q_SR, Q_TK, Q_C0, Q_C1⟩ hb_ hon hoff
                      refine ⟨_, rfl, fun K hK => ?_⟩
                      have e7 : a.tmps[7]? = some (.slice (some ⟨g, o, none⟩) nn ct) := by rw [ha]; exact (putSel_off rfl).trans rfl
                      have e209 : a.tmps[209]? = some (.bool false) := by rw [ha]; exact putSel_on (e := (4, 209, .bool false)) 2 rfl rfl (hon 4 (by kernel_rfl)) rfl
                      replace ha := Aside0.mk ha
                      have HB := Aside0.mk Q_HB
                      have B5 := Aside0.mk Q_B5
                      have SR := Aside0.mk Q_SR
                      have TK := Aside0.mk Q_TK
                      have C0 := Aside0.mk Q_C0
                      have C1 := Aside0.mk Q_C1
                      refine value_ (w1 := w') (v := .slice (some ⟨g, o, none⟩) nn ct) (wanted_on rfl rfl rfl (e209.trans (by first | rfl | (simp [*]; done)))) rfl ?_ ?_
                      · go_simp
                        (try simp only [i64_w])
                        try rfl
                      refine hK.out _ _ ⟨(by rw [ha.out]; exact putSel_upk 3 hb_ rfl rfl rfl), Q_HB, Q_B5, Q_SR, Q_TK, Q_C0, Q_C1⟩
                    refine steps_cons ?_ ?_
                    · as_aux_lemma =>
                      rintro b a w' ⟨ha, Q_HB, Q_B5, Q_SR, Q_TK, Q_C0, Q_C1⟩ hb_ hon hoff
                      refine ⟨_, rfl, fun K hK => ?_⟩
                      have e23 : a.tmps[23]? = some (.int .i64 (q : Int)) := by rw [ha]; exact (putSel_off rfl).trans rfl
                      have e209 : a.tmps[209]? = some (.bool false) := by rw [ha]; exact putSel_on (e := (4, 209, .bool false)) 2 rfl rfl (hon 4 (by kernel_rfl)) rfl
                      replace ha := Aside0.mk ha
                      have HB := Aside0.mk Q_HB
                      have B5 := Aside0.mk Q_B5
                      have SR := Aside0.mk Q_SR
                      have TK := Aside0.mk Q_TK
                      have C0 := Aside0.mk Q_C0
                      have C1 := Aside0.mk Q_C1
                      refine value_ (w1 := w') (v := .int .i64 (q : Int)) (wanted_on rfl rfl rfl (e209.trans (by first | rfl | (simp [*]; done)))) rfl ?_ ?_
                      · go_simp
                        (try simp only [i64_w])
                        try rfl
                      refine hK.out _ _ ⟨(by rw [ha.out]; exact putSel_upk 4 hb_ rfl rfl rfl), Q_HB, Q_B5, Q_SR, Q_TK, Q_C0, Q_C1⟩
                    refine steps_cons ?_ ?_
                    · as_aux_lemma =>
                      rintro b a w' ⟨ha, Q_HB, Q_B5, Q_SR, Q_TK, Q_C0, Q_C1⟩ hb_ hon hoff
                      refine ⟨_, rfl, fun K hK => ?_⟩
                      have e210 : a.tmps[210]? = some (.slice (some ⟨g, o, none⟩) nn ct) := by rw [ha]; exact putSel_on (e := (5, 210, .slice (some ⟨g, o, none⟩) nn ct)) 3 rfl rfl (hon 5 (by kernel_rfl)) rfl
                      have e211 : a.tmps[211]? = some (.int .i64 (q : Int)) := by rw [ha]; exact putSel_on (e := (6, 211, .int .i64 (q : Int))) 4 rfl rfl (hon 6 (by kernel_rfl)) rfl
                      have e209 : a.tmps[209]? = some (.bool false) := by rw [ha]; exact putSel_on (e := (4, 209, .bool false)) 2 rfl rfl (hon 4 (by kernel_rfl)) rfl
                      replace ha := Aside0.mk ha
                      have HB := Aside0.mk Q_HB
                      have B5 := Aside0.mk Q_B5
                      have SR := Aside0.mk Q_SR
                      have TK := Aside0.mk Q_TK
                      have C0 := Aside0.mk Q_C0
                      have C1 := Aside0.mk Q_C1
                      refine value_ (w1 := w') (v := .pointer (some ⟨g, o + q, none⟩)) (wanted_on rfl rfl rfl (e209.trans (by first | rfl | (simp [*]; done)))) rfl ?_ ?_
                      · go_simp
                        (try simp only [i64_w])
                        try rfl
                      refine hK.out _ _ ⟨(by rw [ha.out]; exact putSel_upk 5 hb_ rfl rfl rfl), Q_HB, Q_B5, Q_SR, Q_TK, Q_C0, Q_C1⟩
                    refine steps_cons ?_ ?_
                    · as_aux_lemma =>
                      rintro b a w' ⟨ha, Q_HB, Q_B5, Q_SR, Q_TK, Q_C0, Q_C1⟩ hb_ hon hoff
                      refine ⟨_, rfl, fun K hK => ?_⟩
                      have e212 : a.tmps[212]? = some (.pointer (some ⟨g, o + q, none⟩)) := by rw [ha]; exact putSel_on (e := (7, 212, .pointer (some ⟨g, o + q, none⟩))) 5 rfl rfl (hon 7 (by kernel_rfl)) rfl
                      have e209 : a.tmps[209]? = some (.bool false) := by rw [ha]; exact putSel_on (e := (4, 209, .bool false)) 2 rfl rfl (hon 4 (by kernel_rfl)) rfl
                      replace ha := Aside0.mk ha
                      have HB := Aside0.mk Q_HB
                      have B5 := Aside0.mk Q_B5
                      have SR := Aside0.mk Q_SR
                      have TK := Aside0.mk Q_TK
                      have C0 := Aside0.mk Q_C0
                      have C1 := Aside0.mk Q_C1
                      have hs_ := C0.out
                      refine value_ (w1 := w') (v := .int .i64 (X.f0 + (j : Int))) (wanted_on rfl rfl rfl (e209.trans (by first | rfl | (simp [*]; done)))) rfl ?_ ?_
                      · go_simp
                        (try simp only [i64_w])
                        try rfl
                      refine hK.out _ _ ⟨(by rw [ha.out]; exact putSel_upk 6 hb_ rfl rfl rfl), Q_HB, Q_B5, Q_SR, Q_TK, Q_C0, Q_C1⟩
                    refine steps_cons ?_ ?_
                    · as_aux_lemma =>
                      rintro b a w' ⟨ha, Q_HB, Q_B5, Q_SR, Q_TK, Q_C0, Q_C1⟩ hb_ hon hoff
                      refine ⟨_, rfl, fun K hK => ?_⟩
                      have e21 : a.tmps[21]? = some (.slice (some ⟨gL, 0, none⟩) L.length k4) := by rw [ha]; exact (putSel_off rfl).trans rfl
                      have e209 : a.tmps[209]? = some (.bool false) := by rw [ha]; exact putSel_on (e := (4, 209, .bool false)) 2 rfl rfl (hon 4 (by kernel_rfl)) rfl
                      replace ha := Aside0.mk ha
                      have HB := Aside0.mk Q_HB
                      have B5 := Aside0.mk Q_B5
                      have SR := Aside0.mk Q_SR
                      have TK := Aside0.mk Q_TK
                      have C0 := Aside0.mk Q_C0
                      have C1 := Aside0.mk Q_C1
                      refine value_ (w1 := w') (v := .slice (some ⟨gL, 0, none⟩) L.length k4) (wanted_on rfl rfl rfl (e209.trans (by first | rfl | (simp [*]; done)))) rfl ?_ ?_
                      · go_simp
                        (try simp only [i64_w])
                        try rfl
                      refine hK.out _ _ ⟨(by rw [ha.out]; exact putSel_upk 7 hb_ rfl rfl rfl), Q_HB, Q_B5, Q_SR, Q_TK, Q_C0, Q_C1⟩
                    refine steps_cons ?_ ?_
                    · as_aux_lemma =>
                      rintro b a w' ⟨ha, Q_HB, Q_B5, Q_SR, Q_TK, Q_C0, Q_C1⟩ hb_ hon hoff
                      refine ⟨_, rfl, fun K hK => ?_⟩
                      have e24 : a.tmps[24]? = some (.int .i64 (k : Int)) := by rw [ha]; exact (putSel_off rfl).trans rfl
                      have e209 : a.tmps[209]? = some (.bool false) := by rw [ha]; exact putSel_on (e := (4, 209, .bool false)) 2 rfl rfl (hon 4 (by kernel_rfl)) rfl
                      replace ha := Aside0.mk ha
                      have HB := Aside0.mk Q_HB
                      have B5 := Aside0.mk Q_B5
                      have SR := Aside0.mk Q_SR
                      have TK := Aside0.mk Q_TK
                      have C0 := Aside0.mk Q_C0
                      have C1 := Aside0.mk Q_C1
                      refine value_ (w1 := w') (v := .int .i64 (k : Int)) (wanted_on rfl rfl rfl (e209.trans (by first | rfl | (simp [*]; done)))) rfl ?_ ?_
                      · go_simp
                        (try simp only [i64_w])
                        try rfl
                      refine hK.out _ _ ⟨(by rw [ha.out]; exact putSel_upk 8 hb_ rfl rfl rfl), Q_HB, Q_B5, Q_SR, Q_TK, Q_C0, Q_C1⟩
                    refine steps_cons ?_ ?_
                    · as_aux_lemma =>
                      rintro b a w' ⟨ha, Q_HB, Q_B5, Q_SR, Q_TK, Q_C0, Q_C1⟩ hb_ hon hoff
                      refine ⟨_, rfl, fun K hK => ?_⟩
                      have e214 : a.tmps[214]? = some (.slice (some ⟨gL, 0, none⟩) L.length k4) := by rw [ha]; exact putSel_on (e := (9, 214, .slice (some ⟨gL, 0, none⟩) L.length k4)) 7 rfl rfl (hon 9 (by kernel_rfl)) rfl
                      have e215 : a.tmps[215]? = some (.int .i64 (k : Int)) := by rw [ha]; exact putSel_on (e := (10, 215, .int .i64 (k : Int))) 8 rfl rfl (hon 10 (by kernel_rfl)) rfl
                      have e209 : a.tmps[209]? = some (.bool false) := by rw [ha]; exact putSel_on (e := (4, 209, .bool false)) 2 rfl rfl (hon 4 (by kernel_rfl)) rfl
                      replace ha := Aside0.mk ha
                      have HB := Aside0.mk Q_HB
                      have B5 := Aside0.mk Q_B5
                      have SR := Aside0.mk Q_SR
                      have TK := Aside0.mk Q_TK
                      have C0 := Aside0.mk Q_C0
                      have C1 := Aside0.mk Q_C1
                      refine value_ (w1 := w') (v := .pointer (some ⟨gL, k * 2, none⟩)) (wanted_on rfl rfl rfl (e209.trans (by first | rfl | (simp [*]; done)))) rfl ?_ ?_
                      · go_simp
                        (try simp only [i64_w])
                        try rfl
                      refine hK.out _ _ ⟨(by rw [ha.out]; exact putSel_upk 9 hb_ rfl rfl rfl), Q_HB, Q_B5, Q_SR, Q_TK, Q_C0, Q_C1⟩
                    refine steps_cons ?_ ?_
                    · as_aux_lemma =>
                      rintro b a w' ⟨ha, Q_HB, Q_B5, Q_SR, Q_TK, Q_C0, Q_C1⟩ hb_ hon hoff
                      refine ⟨_, rfl, fun K hK => ?_⟩
                      have e216 : a.tmps[216]? = some (.pointer (some ⟨gL, k * 2, none⟩)) := by rw [ha]; exact putSel_on (e := (11, 216, .pointer (some ⟨gL, k * 2, none⟩))) 9 rfl rfl (hon 11 (by kernel_rfl)) rfl
                      have e209 : a.tmps[209]? = some (.bool false) := by rw [ha]; exact putSel_on (e := (4, 209, .bool false)) 2 rfl rfl (hon 4 (by kernel_rfl)) rfl
                      replace ha := Aside0.mk ha
                      have HB := Aside0.mk Q_HB
                      have B5 := Aside0.mk Q_B5
                      have SR := Aside0.mk Q_SR
                      have TK := Aside0.mk Q_TK
                      have C0 := Aside0.mk Q_C0
                      have C1 := Aside0.mk Q_C1
                      refine value_ (w1 := w') (v := .pointer (some ⟨gL, k * 2, none⟩)) (wanted_on rfl rfl rfl (e209.trans (by first | rfl | (simp [*]; done)))) rfl ?_ ?_
                      · go_simp
                        (try simp only [i64_w])
                        try rfl
                      refine hK.out _ _ ⟨(by rw [ha.out]; exact putSel_upk 10 hb_ rfl rfl rfl), Q_HB, Q_B5, Q_SR, Q_TK, Q_C0, Q_C1⟩
                    refine steps_cons ?_ ?_
                    · as_aux_lemma =>
                      rintro b a w' ⟨ha, Q_HB, Q_B5, Q_SR, Q_TK, Q_C0, Q_C1⟩ hb_ hon hoff
                      refine ⟨_, rfl, fun K hK => ?_⟩
                      have e217 : a.tmps[217]? = some (.pointer (some ⟨gL, k * 2, none⟩)) := by rw [ha]; exact putSel_on (e := (12, 217, .pointer (some ⟨gL, k * 2, none⟩))) 10 rfl rfl (hon 12 (by kernel_rfl)) rfl
                      have e209 : a.tmps[209]? = some (.bool false) := by rw [ha]; exact putSel_on (e := (4, 209, .bool false)) 2 rfl rfl (hon 4 (by kernel_rfl)) rfl
                      replace ha := Aside0.mk ha
                      have HB := Aside0.mk Q_HB
                      have B5 := Aside0.mk Q_B5
                      have SR := Aside0.mk Q_SR
                      have TK := Aside0.mk Q_TK
                      have C0 := Aside0.mk Q_C0
                      have C1 := Aside0.mk Q_C1
                      have hs_ := C1.out
                      refine value_ (w1 := w') (v := .int .i64 X.f0) (wanted_on rfl rfl rfl (e209.trans (by first | rfl | (simp [*]; done)))) rfl ?_ ?_
                      · go_simp
                        (try simp only [i64_w])
                        try rfl
                      refine hK.out _ _ ⟨(by rw [ha.out]; exact putSel_upk 11 hb_ rfl rfl rfl), Q_HB, Q_B5, Q_SR, Q_TK, Q_C0, Q_C1⟩
                    refine steps_cons ?_ ?_
                    · as_aux_lemma =>
                      rintro b a w' ⟨ha, Q_HB, Q_B5, Q_SR, Q_TK, Q_C0, Q_C1⟩ hb_ hon hoff
                      refine ⟨_, rfl, fun K hK => ?_⟩
                      have e25 : a.tmps[25]? = some (.int .i64 (j : Int)) := by rw [ha]; exact (putSel_off rfl).trans rfl
                      have e209 : a.tmps[209]? = some (.bool false) := by rw [ha]; exact putSel_on (e := (4, 209, .bool false)) 2 rfl rfl (hon 4 (by kernel_rfl)) rfl
                      replace ha := Aside0.mk ha
                      have HB := Aside0.mk Q_HB
                      have B5 := Aside0.mk Q_B5
                      have SR := Aside0.mk Q_SR
                      have TK := Aside0.mk Q_TK
                      have C0 := Aside0.mk Q_C0
                      have C1 := Aside0.mk Q_C1
                      refine value_ (w1 := w') (v := .int .i64 (j : Int)) (wanted_on rfl rfl rfl (e209.trans (by first | rfl | (simp [*]; done)))) rfl ?_ ?_
                      · go_simp
                        (try simp only [i64_w])
                        try rfl
                      refine hK.out _ _ ⟨(by rw [ha.out]; exact putSel_upk 12 hb_ rfl rfl rfl), Q_HB, Q_B5, Q_SR, Q_TK, Q_C0, Q_C1⟩
                    refine steps_cons ?_ ?_
                    · as_aux_lemma =>
                      rintro b a w' ⟨ha, Q_HB, Q_B5, Q_SR, Q_TK, Q_C0, Q_C1⟩ hb_ hon hoff
                      refine ⟨_, rfl, fun K hK => ?_⟩
                      have e218 : a.tmps[218]? = some (.int .i64 X.f0) := by rw [ha]; exact putSel_on (e := (13, 218, .int .i64 X.f0)) 11 rfl rfl (hon 13 (by kernel_rfl)) rfl
                      have e219 : a.tmps[219]? = some (.int .i64 (j : Int)) := by rw [ha]; exact putSel_on (e := (14, 219, .int .i64 (j : Int))) 12 rfl rfl (hon 14 (by kernel_rfl)) rfl
                      have e209 : a.tmps[209]? = some (.bool false) := by rw [ha]; exact putSel_on (e := (4, 209, .bool false)) 2 rfl rfl (hon 4 (by kernel_rfl)) rfl
                      replace ha := Aside0.mk ha
                      have HB := Aside0.mk Q_HB
                      have B5 := Aside0.mk Q_B5
                      have SR := Aside0.mk Q_SR
                      have TK := Aside0.mk Q_TK
                      have C0 := Aside0.mk Q_C0
                      have C1 := Aside0.mk Q_C1
                      have hw_ : IntKind.i64.wrap (X.f0 + (j : Int)) = X.f0 + (j : Int) := IntWalk.i64_in _ (by omega)
                      refine value_ (w1 := w') (v := .int .i64 (X.f0 + (j : Int))) (wanted_on rfl rfl rfl (e209.trans (by first | rfl | (simp [*]; done)))) rfl ?_ ?_
                      · go_simp
                        (try simp only [i64_w])
                        try rfl
                      refine hK.out _ _ ⟨(by rw [ha.out]; exact putSel_upk 13 hb_ rfl rfl rfl), Q_HB, Q_B5, Q_SR, Q_TK, Q_C0, Q_C1⟩
                    refine steps_cons ?_ ?_
                    · as_aux_lemma =>
                      rintro b a w' ⟨ha, Q_HB, Q_B5, Q_SR, Q_TK, Q_C0, Q_C1⟩ hb_ hon hoff
                      refine ⟨_, rfl, fun K hK => ?_⟩
                      have e213 : a.tmps[213]? = some (.int .i64 (X.f0 + (j : Int))) := by rw [ha]; exact putSel_on (e := (8, 213, .int .i64 (X.f0 + (j : Int)))) 6 rfl rfl (hon 8 (by kernel_rfl)) rfl
                      have e220 : a.tmps[220]? = some (.int .i64 (X.f0 + (j : Int))) := by rw [ha]; exact putSel_on (e := (15, 220, .int .i64 (X.f0 + (j : Int)))) 13 rfl rfl (hon 15 (by kernel_rfl)) rfl
                      have e209 : a.tmps[209]? = some (.bool false) := by rw [ha]; exact putSel_on (e := (4, 209, .bool false)) 2 rfl rfl (hon 4 (by kernel_rfl)) rfl
                      replace ha := Aside0.mk ha
                      have HB := Aside0.mk Q_HB
                      have B5 := Aside0.mk Q_B5
                      have SR := Aside0.mk Q_SR
                      have TK := Aside0.mk Q_TK
                      have C0 := Aside0.mk Q_C0
                      have C1 := Aside0.mk Q_C1
                      refine value_ (w1 := w') (v := .bool false) (wanted_on rfl rfl rfl (e209.trans (by first | rfl | (simp [*]; done)))) rfl ?_ ?_
                      · go_simp
                        (try simp only [i64_w])
                        try rfl
                      refine hK.out _ _ ⟨(by rw [ha.out]; exact putSel_upk 14 hb_ rfl rfl rfl), Q_HB, Q_B5, Q_SR, Q_TK, Q_C0, Q_C1⟩
                    refine steps_cons ?_ ?_
                    · as_aux_lemma =>
                      rintro b a w' ⟨ha, Q_HB, Q_B5, Q_SR, Q_TK, Q_C0, Q_C1⟩ hb_ hon hoff
                      refine ⟨_, rfl, fun K hK => ?_⟩
                      have e209 : a.tmps[209]? = some (.bool false) := by rw [ha]; exact putSel_on (e := (4, 209, .bool false)) 2 rfl rfl (hon 4 (by kernel_rfl)) rfl
                      have e221 : a.tmps[221]? = some (.bool false) := by rw [ha]; exact putSel_on (e := (16, 221, .bool false)) 14 rfl rfl (hon 16 (by kernel_rfl)) rfl
                      replace ha := Aside0.mk ha
                      have HB := Aside0.mk Q_HB
                      have B5 := Aside0.mk Q_B5
                      have SR := Aside0.mk Q_SR
                      have TK := Aside0.mk Q_TK
                      have C0 := Aside0.mk Q_C0
                      have C1 := Aside0.mk Q_C1
                      refine value_ (w1 := w') (v := .bool false) (by rfl) rfl ?_ ?_
                      · go_simp
                        (try simp only [i64_w])
                        try rfl
                      refine hK.out _ _ ⟨(by rw [ha.out]; exact putSel_upk 15 hb_ rfl rfl rfl), Q_HB, Q_B5, Q_SR, Q_TK, Q_C0, Q_C1⟩
                    exact steps_nil
                  rintro b a wP hall ⟨ha, Q_HB, Q_B5, Q_SR, Q_TK, Q_C0, Q_C1⟩
                  clear B5 C0 C1 HB SR TK
                  have hb2_ := hall 2 (by kernel_rfl)
                  have hb3_ := hall 3 (by kernel_rfl)
                  have hb4_ := hall 4 (by kernel_rfl)
                  have hb5_ := hall 5 (by kernel_rfl)
                  have hb6_ := hall 6 (by kernel_rfl)
                  have hb7_ := hall 7 (by kernel_rfl)
                  have hb8_ := hall 8 (by kernel_rfl)
                  have hb9_ := hall 9 (by kernel_rfl)
                  have hb10_ := hall 10 (by kernel_rfl)
                  have hb11_ := hall 11 (by kernel_rfl)
                  have hb12_ := hall 12 (by kernel_rfl)
                  have hb13_ := hall 13 (by kernel_rfl)
                  have hb14_ := hall 14 (by kernel_rfl)
                  have hb15_ := hall 15 (by kernel_rfl)
                  have hb16_ := hall 16 (by kernel_rfl)
                  have hb17_ := hall 17 (by kernel_rfl)
                  subst ha
                  simp only [putSel, hb2_, hb3_, hb4_, hb5_, hb6_, hb7_, hb8_, hb9_, hb10_, hb11_, hb12_, hb13_, hb14_, hb15_, hb16_, hb17_, if_true, Act.put, List.setIfInBounds_toArray, List.set_cons_zero, List.set_cons_succ]
                  have HB := Aside0.mk Q_HB
                  clear Q_HB
                  have B5 := Aside0.mk Q_B5
                  clear Q_B5
                  have SR := Aside0.mk Q_SR
                  clear Q_SR
                  have TK := Aside0.mk Q_TK
                  clear Q_TK
                  have C0 := Aside0.mk Q_C0
                  clear Q_C0
                  have C1 := Aside0.mk Q_C1
                  clear Q_C1
                  clear hall hb2_ hb3_ hb4_ hb5_ hb6_ hb7_ hb8_ hb9_ hb10_ hb11_ hb12_ hb13_ hb14_ hb15_ hb16_ hb17_
                  go_wp2_with (fail)
                  refine ⟨⟨j + 1, q + 1, by omega, by go_num, by go_num, by have := HQ.out; omega, ⟨HB.out, B5.out, SR.out, TK.out⟩⟩, by simp [intOf]; omega⟩
                · have hje : (j : Int) = X.f1 := by omega
                  go_wp2_with (fail)
                  refine ⟨⟨k + 1, by omega, by go_num, ?_, H⟩, by simp [intOf]; omega⟩
                  rw [HY.out.1, ← hje, hq]
          · have hke : k = L.length := by omega
            have hpre : pre L k = (nn : Int) := by rw [hke, HSP.out.1]
            rw [hpre]
            have HK := Aside0.mk hke
            clear hke hpre
            go_wp2_with (fail)
            refine start_ (n := 30) (S := fun w' => True) (ds := []) #[false, false, false, false, false, false, false, false, false, false, false, false, false, false, false, false, false, false, false, false, false, false, false, false, false, false, false, false, false, false] (by kernel_rfl) rfl rfl trivial (fun hHeld => ?_)
            refine with_tabW back.tab54 back.bits54 (fun HT_ HW_ => ?_)
            have HB := Aside0.mk (below_step H.out.1 (below_drew (Below.refl _ _)))
            have B5 := Aside0.mk (blk_below H.out.2.1 (below_drew (Below.refl _ _)))
            generalize wr.drew = wz at HB B5 hHeld ⊢
            clear hHeld H
            refine pure_ (i := 0) (N := some 225) (v := ?_) (a' := ?_) #[true, false, false, false, false, false, false, false, false, false, false, false, false, false, false, false, false, false, false, false, false, false, false, false, false, false, false, false, false, false] rfl rfl (any_of HT_.out (by kernel_rfl)) (fun _ _ _ h => h) (Or.inl ⟨by rfl, ?_⟩) ?_ ?_
            rotate_left
            · intro w'
              go_simp
              with_reducible rfl
            rotate_left
            · simp only [Act.put, List.setIfInBounds_toArray, List.set_cons_zero, List.set_cons_succ, i64_w, i32_w]
              rfl
            refine inv_at [1, 2, 3, 4, 5, 6, 7, 8, 9, 10, 11, 12, 13, 14, 15, 16, 17, 18, 19, 20, 21, 22, 23, 24, 25, 26, 27, 28, 29] (fun a0_ b a w' => a = putSel a0_ b [(1, 226, .bool true), (2, 227, .bool true), (3, 228, .int .i64 (nn : Int)), (4, 229, .slice At nn ct), (5, 230, .int .i64 (nn : Int)), (6, 231, .bool true), (7, 232, .bool true), (8, 233, .bool true), (9, 234, .agg #[.int .i64 s, .int .i64 h, .int .i64 t]), (10, 235, .pointer (some ⟨b5, 2, none⟩)), (11, 236, .int .i64 t), (12, 237, .agg #[.int .i64 s, .int .i64 h, .int .i64 t]), (13, 238, .int .i64 (nn : Int)), (14, 239, .bool true), (15, 240, .bool true), (16, 241, .bool true), (17, 242, .agg #[.int .i64 s, .int .i64 h, .int .i64 t]), (18, 243, .pointer (some ⟨b5, 2, none⟩)), (19, 244, .int .i64 t), (20, 245, .agg #[.int .i64 s, .int .i64 h, .int .i64 t]), (21, 246, .int .i64 (nn : Int)), (22, 247, .int .i64 ((nn : Int) + 1)), (23, 248, .bool false), (24, 249, .bool true), (25, 250, .bool true), (26, 251, .bool true), (27, 252, .bool true), (28, 253, .bool true), (29, 4, .bool true)] ∧ (Below w.heap.size w w') ∧ (w'.heap[b5]? = some (.cells #[.int .i64 s, .int .i64 h, .int .i64 t] 23 (0, 0)))) HT_.out HW_.out (by kernel_rfl) (by kernel_rfl) ?_ ?_ ?_
            · exact ⟨by simp only [putSel, Bool.false_eq_true, if_false], HB.out, B5.out⟩
            · skip
              clear B5 HB
              refine steps_cons ?_ ?_
              · as_aux_lemma =>
                rintro b a w' ⟨ha, Q_HB, Q_B5⟩ hb_ hon hoff
                refine ⟨_, rfl, fun K hK => ?_⟩
                have e225 : a.tmps[225]? = some (.int .i64 0) := by rw [ha]; exact (putSel_off rfl).trans rfl
                replace ha := Aside0.mk ha
                have HB := Aside0.mk Q_HB
                have B5 := Aside0.mk Q_B5
                refine value_ (w1 := w') (v := .bool true) (by rfl) rfl ?_ ?_
                · go_simp
                  (try simp only [i64_w])
                  try rfl
                refine hK.out _ _ ⟨(by rw [ha.out]; exact putSel_upk 0 hb_ rfl rfl rfl), Q_HB, Q_B5⟩
              refine steps_cons ?_ ?_
              · as_aux_lemma =>
                rintro b a w' ⟨ha, Q_HB, Q_B5⟩ hb_ hon hoff
                refine ⟨_, rfl, fun K hK => ?_⟩
                have e226 : a.tmps[226]? = some (.bool true) := by rw [ha]; exact putSel_on (e := (1, 226, .bool true)) 0 rfl rfl (hon 1 (by kernel_rfl)) rfl
                replace ha := Aside0.mk ha
                have HB := Aside0.mk Q_HB
                have B5 := Aside0.mk Q_B5
                refine value_ (w1 := w') (v := .bool true) (by rfl) rfl ?_ ?_
                · go_simp
                  (try simp only [i64_w])
                  try rfl
                refine hK.out _ _ ⟨(by rw [ha.out]; exact putSel_upk 1 hb_ rfl rfl rfl), Q_HB, Q_B5⟩
              refine steps_cons ?_ ?_
              · as_aux_lemma =>
                rintro b a w' ⟨ha, Q_HB, Q_B5⟩ hb_ hon hoff
                refine ⟨_, rfl, fun K hK => ?_⟩
                have e23 : a.tmps[23]? = some (.int .i64 (nn : Int)) := by rw [ha]; exact (putSel_off rfl).trans rfl
                have e227 : a.tmps[227]? = some (.bool true) := by rw [ha]; exact putSel_on (e := (2, 227, .bool true)) 1 rfl rfl (hon 2 (by kernel_rfl)) rfl
                replace ha := Aside0.mk ha
                have HB := Aside0.mk Q_HB
                have B5 := Aside0.mk Q_B5
                refine value_ (w1 := w') (v := .int .i64 (nn : Int)) (wanted_on rfl rfl rfl (e227.trans (by first | rfl | (simp [*]; done)))) rfl ?_ ?_
                · go_simp
                  (try simp only [i64_w])
                  try rfl
                refine hK.out _ _ ⟨(by rw [ha.out]; exact putSel_upk 2 hb_ rfl rfl rfl), Q_HB, Q_B5⟩
              refine steps_cons ?_ ?_
              · as_aux_lemma =>
                rintro b a w' ⟨ha, Q_HB, Q_B5⟩ hb_ hon hoff
                refine ⟨_, rfl, fun K hK => ?_⟩
                have e7 : a.tmps[7]? = some (.slice At nn ct) := by rw [ha]; exact (putSel_off rfl).trans rfl
                have e227 : a.tmps[227]? = some (.bool true) := by rw [ha]; exact putSel_on (e := (2, 227, .bool true)) 1 rfl rfl (hon 2 (by kernel_rfl)) rfl
                replace ha := Aside0.mk ha
                have HB := Aside0.mk Q_HB
                have B5 := Aside0.mk Q_B5
                refine value_ (w1 := w') (v := .slice At nn ct) (wanted_on rfl rfl rfl (e227.trans (by first | rfl | (simp [*]; done)))) rfl ?_ ?_
                · go_simp
                  (try simp only [i64_w])
                  try rfl
                refine hK.out _ _ ⟨(by rw [ha.out]; exact putSel_upk 3 hb_ rfl rfl rfl), Q_HB, Q_B5⟩
              refine steps_cons ?_ ?_
              · as_aux_lemma =>
                rintro b a w' ⟨ha, Q_HB, Q_B5⟩ hb_ hon hoff
                refine ⟨_, rfl, fun K hK => ?_⟩
                have e229 : a.tmps[229]? = some (.slice At nn ct) := by rw [ha]; exact putSel_on (e := (4, 229, .slice At nn ct)) 3 rfl rfl (hon 4 (by kernel_rfl)) rfl
                have e227 : a.tmps[227]? = some (.bool true) := by rw [ha]; exact putSel_on (e := (2, 227, .bool true)) 1 rfl rfl (hon 2 (by kernel_rfl)) rfl
                replace ha := Aside0.mk ha
                have HB := Aside0.mk Q_HB
                have B5 := Aside0.mk Q_B5
                refine value_ (w1 := w') (v := .int .i64 (nn : Int)) (wanted_on rfl rfl rfl (e227.trans (by first | rfl | (simp [*]; done)))) rfl ?_ ?_
                · go_simp
                  (try simp only [i64_w])
                  try rfl
                refine hK.out _ _ ⟨(by rw [ha.out]; exact putSel_upk 4 hb_ rfl rfl rfl), Q_HB, Q_B5⟩
              refine steps_cons ?_ ?_
              · as_aux_lemma =>
                rintro b a w' ⟨ha, Q_HB, Q_B5⟩ hb_ hon hoff
                refine ⟨_, rfl, fun K hK => ?_⟩
                have e228 : a.tmps[228]? = some (.int .i64 (nn : Int)) := by rw [ha]; exact putSel_on (e := (3, 228, .int .i64 (nn : Int))) 2 rfl rfl (hon 3 (by kernel_rfl)) rfl
                have e230 : a.tmps[230]? = some (.int .i64 (nn : Int)) := by rw [ha]; exact putSel_on (e := (5, 230, .int .i64 (nn : Int))) 4 rfl rfl (hon 5 (by kernel_rfl)) rfl
                have e227 : a.tmps[227]? = some (.bool true) := by rw [ha]; exact putSel_on (e := (2, 227, .bool true)) 1 rfl rfl (hon 2 (by kernel_rfl)) rfl
                replace ha := Aside0.mk ha
                have HB := Aside0.mk Q_HB
                have B5 := Aside0.mk Q_B5
                refine value_ (w1 := w') (v := .bool true) (wanted_on rfl rfl rfl (e227.trans (by first | rfl | (simp [*]; done)))) rfl ?_ ?_
                · go_simp
                  (try simp only [i64_w])
                  try rfl
                refine hK.out _ _ ⟨(by rw [ha.out]; exact putSel_upk 5 hb_ rfl rfl rfl), Q_HB, Q_B5⟩
              refine steps_cons ?_ ?_
              · as_aux_lemma =>
                rintro b a w' ⟨ha, Q_HB, Q_B5⟩ hb_ hon hoff
                refine ⟨_, rfl, fun K hK => ?_⟩
                have e227 : a.tmps[227]? = some (.bool true) := by rw [ha]; exact putSel_on (e := (2, 227, .bool true)) 1 rfl rfl (hon 2 (by kernel_rfl)) rfl
                have e231 : a.tmps[231]? = some (.bool true) := by rw [ha]; exact putSel_on (e := (6, 231, .bool true)) 5 rfl rfl (hon 6 (by kernel_rfl)) rfl
                replace ha := Aside0.mk ha
                have HB := Aside0.mk Q_HB
                have B5 := Aside0.mk Q_B5
                refine value_ (w1 := w') (v := .bool true) (by rfl) rfl ?_ ?_
                · go_simp
                  (try simp only [i64_w])
                  try rfl
                refine hK.out _ _ ⟨(by rw [ha.out]; exact putSel_upk 6 hb_ rfl rfl rfl), Q_HB, Q_B5⟩
              refine steps_cons ?_ ?_
              · as_aux_lemma =>
                rintro b a w' ⟨ha, Q_HB, Q_B5⟩ hb_ hon hoff
                refine ⟨_, rfl, fun K hK => ?_⟩
                have e232 : a.tmps[232]? = some (.bool true) := by rw [ha]; exact putSel_on (e := (7, 232, .bool true)) 6 rfl rfl (hon 7 (by kernel_rfl)) rfl
                replace ha := Aside0.mk ha
                have HB := Aside0.mk Q_HB
                have B5 := Aside0.mk Q_B5
                refine value_ (w1 := w') (v := .bool true) (by rfl) rfl ?_ ?_
                · go_simp
                  (try simp only [i64_w])
                  try rfl
                refine hK.out _ _ ⟨(by rw [ha.out]; exact putSel_upk 7 hb_ rfl rfl rfl), Q_HB, Q_B5⟩
              refine steps_cons ?_ ?_
              · as_aux_lemma =>
                rintro b a w' ⟨ha, Q_HB, Q_B5⟩ hb_ hon hoff
                refine ⟨_, rfl, fun K hK => ?_⟩
                have e5 : a.tmps[5]? = some (.pointer (some ⟨b5, 0, none⟩)) := by rw [ha]; exact (putSel_off rfl).trans rfl
                have e233 : a.tmps[233]? = some (.bool true) := by rw [ha]; exact putSel_on (e := (8, 233, .bool true)) 7 rfl rfl (hon 8 (by kernel_rfl)) rfl
                replace ha := Aside0.mk ha
                have HB := Aside0.mk Q_HB
                have B5 := Aside0.mk Q_B5
                have hs0_ : w'.cell? ⟨b5, 0, none⟩ = some (.int .i64 s) := (blk_cell B5.out 0).trans rfl
                have hs1_ : w'.cell? ⟨b5, 1, none⟩ = some (.int .i64 h) := (blk_cell B5.out 1).trans rfl
                have hs2_ : w'.cell? ⟨b5, 2, none⟩ = some (.int .i64 t) := (blk_cell B5.out 2).trans rfl
                refine value_ (w1 := w') (v := .agg #[.int .i64 s, .int .i64 h, .int .i64 t]) (wanted_on rfl rfl rfl (e233.trans (by first | rfl | (simp [*]; done)))) rfl ?_ ?_
                · go_simp
                  (try simp only [i64_w])
                  try rfl
                refine hK.out _ _ ⟨(by rw [ha.out]; exact putSel_upk 8 hb_ rfl rfl rfl), Q_HB, Q_B5⟩
              refine steps_cons ?_ ?_
              · as_aux_lemma =>
                rintro b a w' ⟨ha, Q_HB, Q_B5⟩ hb_ hon hoff
                refine ⟨_, rfl, fun K hK => ?_⟩
                have e5 : a.tmps[5]? = some (.pointer (some ⟨b5, 0, none⟩)) := by rw [ha]; exact (putSel_off rfl).trans rfl
                have e233 : a.tmps[233]? = some (.bool true) := by rw [ha]; exact putSel_on (e := (8, 233, .bool true)) 7 rfl rfl (hon 8 (by kernel_rfl)) rfl
                replace ha := Aside0.mk ha
                have HB := Aside0.mk Q_HB
                have B5 := Aside0.mk Q_B5
                refine value_ (w1 := w') (v := .pointer (some ⟨b5, 2, none⟩)) (wanted_on rfl rfl rfl (e233.trans (by first | rfl | (simp [*]; done)))) rfl ?_ ?_
                · go_simp
                  (try simp only [i64_w])
                  try rfl
                refine hK.out _ _ ⟨(by rw [ha.out]; exact putSel_upk 9 hb_ rfl rfl rfl), Q_HB, Q_B5⟩
              refine steps_cons ?_ ?_
              · as_aux_lemma =>
                rintro b a w' ⟨ha, Q_HB, Q_B5⟩ hb_ hon hoff
                refine ⟨_, rfl, fun K hK => ?_⟩
                have e235 : a.tmps[235]? = some (.pointer (some ⟨b5, 2, none⟩)) := by rw [ha]; exact putSel_on (e := (10, 235, .pointer (some ⟨b5, 2, none⟩))) 9 rfl rfl (hon 10 (by kernel_rfl)) rfl
                have e233 : a.tmps[233]? = some (.bool true) := by rw [ha]; exact putSel_on (e := (8, 233, .bool true)) 7 rfl rfl (hon 8 (by kernel_rfl)) rfl
                replace ha := Aside0.mk ha
                have HB := Aside0.mk Q_HB
                have B5 := Aside0.mk Q_B5
                have hs0_ : w'.cell? ⟨b5, 0, none⟩ = some (.int .i64 s) := (blk_cell B5.out 0).trans rfl
                have hs1_ : w'.cell? ⟨b5, 1, none⟩ = some (.int .i64 h) := (blk_cell B5.out 1).trans rfl
                have hs2_ : w'.cell? ⟨b5, 2, none⟩ = some (.int .i64 t) := (blk_cell B5.out 2).trans rfl
                refine value_ (w1 := w') (v := .int .i64 t) (wanted_on rfl rfl rfl (e233.trans (by first | rfl | (simp [*]; done)))) rfl ?_ ?_
                · go_simp
                  (try simp only [i64_w])
                  try rfl
                refine hK.out _ _ ⟨(by rw [ha.out]; exact putSel_upk 10 hb_ rfl rfl rfl), Q_HB, Q_B5⟩
              refine steps_cons ?_ ?_
              · as_aux_lemma =>
                rintro b a w' ⟨ha, Q_HB, Q_B5⟩ hb_ hon hoff
                refine ⟨_, rfl, fun K hK => ?_⟩
                have e5 : a.tmps[5]? = some (.pointer (some ⟨b5, 0, none⟩)) := by rw [ha]; exact (putSel_off rfl).trans rfl
                have e233 : a.tmps[233]? = some (.bool true) := by rw [ha]; exact putSel_on (e := (8, 233, .bool true)) 7 rfl rfl (hon 8 (by kernel_rfl)) rfl
                replace ha := Aside0.mk ha
                have HB := Aside0.mk Q_HB
                have B5 := Aside0.mk Q_B5
                have hs0_ : w'.cell? ⟨b5, 0, none⟩ = some (.int .i64 s) := (blk_cell B5.out 0).trans rfl
                have hs1_ : w'.cell? ⟨b5, 1, none⟩ = some (.int .i64 h) := (blk_cell B5.out 1).trans rfl
                have hs2_ : w'.cell? ⟨b5, 2, none⟩ = some (.int .i64 t) := (blk_cell B5.out 2).trans rfl
                refine value_ (w1 := w') (v := .agg #[.int .i64 s, .int .i64 h, .int .i64 t]) (wanted_on rfl rfl rfl (e233.trans (by first | rfl | (simp [*]; done)))) rfl ?_ ?_
                · go_simp
                  (try simp only [i64_w])
                  try rfl
                refine hK.out _ _ ⟨(by rw [ha.out]; exact putSel_upk 11 hb_ rfl rfl rfl), Q_HB, Q_B5⟩
              refine steps_cons ?_ ?_
              · as_aux_lemma =>
                rintro b a w' ⟨ha, Q_HB, Q_B5⟩ hb_ hon hoff
                refine ⟨_, rfl, fun K hK => ?_⟩
                have e237 : a.tmps[237]? = some (.agg #[.int .i64 s, .int .i64 h, .int .i64 t]) := by rw [ha]; exact putSel_on (e := (12, 237, .agg #[.int .i64 s, .int .i64 h, .int .i64 t])) 11 rfl rfl (hon 12 (by kernel_rfl)) rfl
                have e233 : a.tmps[233]? = some (.bool true) := by rw [ha]; exact putSel_on (e := (8, 233, .bool true)) 7 rfl rfl (hon 8 (by kernel_rfl)) rfl
                replace ha := Aside0.mk ha
                have HB := Aside0.mk Q_HB
                have B5 := Aside0.mk Q_B5
                refine goes_ Try.func15 (by kernel_rfl) rfl #[.agg #[.int .i64 s, .int .i64 h, .int .i64 t]] (wanted_on rfl rfl rfl (e233.trans rfl)) rfl rfl (by first | (simp only [List.map_toArray, List.map_cons, List.map_nil, Act.eval, Array.getD_eq_getD_getElem?, Option.getD_some, e237, e233]; done) | (simp only [List.map_toArray, List.map_cons, List.map_nil, Act.eval, Array.getD_eq_getD_getElem?, Option.getD_some, e237, e233]; rfl)) ?_
                with_reducible refine (ring_Ring_Used.calls 3 s h t _ _ AU.out).mono ?_
                rintro e w6 ⟨rfl, hb⟩
                refine ⟨_, rfl, ?_⟩
                refine hK.out _ _ ⟨(by rw [ha.out]; exact putSel_upk 12 hb_ rfl rfl rfl), below_step HB.out hb, blk_below B5.out hb⟩
              refine steps_cons ?_ ?_
              · as_aux_lemma =>
                rintro b a w' ⟨ha, Q_HB, Q_B5⟩ hb_ hon hoff
                refine ⟨_, rfl, fun K hK => ?_⟩
                have e234 : a.tmps[234]? = some (.agg #[.int .i64 s, .int .i64 h, .int .i64 t]) := by rw [ha]; exact putSel_on (e := (9, 234, .agg #[.int .i64 s, .int .i64 h, .int .i64 t])) 8 rfl rfl (hon 9 (by kernel_rfl)) rfl
                have e236 : a.tmps[236]? = some (.int .i64 t) := by rw [ha]; exact putSel_on (e := (11, 236, .int .i64 t)) 10 rfl rfl (hon 11 (by kernel_rfl)) rfl
                have e238 : a.tmps[238]? = some (.int .i64 (nn : Int)) := by rw [ha]; exact putSel_on (e := (13, 238, .int .i64 (nn : Int))) 12 rfl rfl (hon 13 (by kernel_rfl)) rfl
                have e233 : a.tmps[233]? = some (.bool true) := by rw [ha]; exact putSel_on (e := (8, 233, .bool true)) 7 rfl rfl (hon 8 (by kernel_rfl)) rfl
                replace ha := Aside0.mk ha
                have HB := Aside0.mk Q_HB
                have B5 := Aside0.mk Q_B5
                refine goes_ Try.func21 (by kernel_rfl) rfl #[.agg #[.int .i64 s, .int .i64 h, .int .i64 t], .int .i64 t, .int .i64 (nn : Int)] (wanted_on rfl rfl rfl (e233.trans rfl)) rfl rfl (by first | (simp only [List.map_toArray, List.map_cons, List.map_nil, Act.eval, Array.getD_eq_getD_getElem?, Option.getD_some, e234, e236, e238, e233]; done) | (simp only [List.map_toArray, List.map_cons, List.map_nil, Act.eval, Array.getD_eq_getD_getElem?, Option.getD_some, e234, e236, e238, e233]; rfl)) ?_
                with_reducible refine (ring_Ring_Holds.calls 3 s h t t (nn : Int) _ _ AH.out).mono ?_
                rintro e w6 ⟨rfl, hb⟩
                refine ⟨_, rfl, ?_⟩
                refine hK.out _ _ ⟨(by rw [ha.out]; exact putSel_upk 13 hb_ rfl rfl rfl), below_step HB.out hb, blk_below B5.out hb⟩
              refine steps_cons ?_ ?_
              · as_aux_lemma =>
                rintro b a w' ⟨ha, Q_HB, Q_B5⟩ hb_ hon hoff
                refine ⟨_, rfl, fun K hK => ?_⟩
                have e233 : a.tmps[233]? = some (.bool true) := by rw [ha]; exact putSel_on (e := (8, 233, .bool true)) 7 rfl rfl (hon 8 (by kernel_rfl)) rfl
                have e239 : a.tmps[239]? = some (.bool true) := by rw [ha]; exact putSel_on (e := (14, 239, .bool true)) 13 rfl rfl (hon 14 (by kernel_rfl)) rfl
                replace ha := Aside0.mk ha
                have HB := Aside0.mk Q_HB
                have B5 := Aside0.mk Q_B5
                refine value_ (w1 := w') (v := .bool true) (by rfl) rfl ?_ ?_
                · go_simp
                  (try simp only [i64_w])
                  try rfl
                refine hK.out _ _ ⟨(by rw [ha.out]; exact putSel_upk 14 hb_ rfl rfl rfl), Q_HB, Q_B5⟩
              refine steps_cons ?_ ?_
              · as_aux_lemma =>
                rintro b a w' ⟨ha, Q_HB, Q_B5⟩ hb_ hon hoff
                refine ⟨_, rfl, fun K hK => ?_⟩
                have e240 : a.tmps[240]? = some (.bool true) := by rw [ha]; exact putSel_on (e := (15, 240, .bool true)) 14 rfl rfl (hon 15 (by kernel_rfl)) rfl
                replace ha := Aside0.mk ha
                have HB := Aside0.mk Q_HB
                have B5 := Aside0.mk Q_B5
                refine value_ (w1 := w') (v := .bool true) (by rfl) rfl ?_ ?_
                · go_simp
                  (try simp only [i64_w])
                  try rfl
                refine hK.out _ _ ⟨(by rw [ha.out]; exact putSel_upk 15 hb_ rfl rfl rfl), Q_HB, Q_B5⟩
              refine steps_cons ?_ ?_
              · as_aux_lemma =>
                rintro b a w' ⟨ha, Q_HB, Q_B5⟩ hb_ hon hoff
                refine ⟨_, rfl, fun K hK => ?_⟩
                have e5 : a.tmps[5]? = some (.pointer (some ⟨b5, 0, none⟩)) := by rw [ha]; exact (putSel_off rfl).trans rfl
                have e241 : a.tmps[241]? = some (.bool true) := by rw [ha]; exact putSel_on (e := (16, 241, .bool true)) 15 rfl rfl (hon 16 (by kernel_rfl)) rfl
                replace ha := Aside0.mk ha
                have HB := Aside0.mk Q_HB
                have B5 := Aside0.mk Q_B5
                have hs0_ : w'.cell? ⟨b5, 0, none⟩ = some (.int .i64 s) := (blk_cell B5.out 0).trans rfl
                have hs1_ : w'.cell? ⟨b5, 1, none⟩ = some (.int .i64 h) := (blk_cell B5.out 1).trans rfl
                have hs2_ : w'.cell? ⟨b5, 2, none⟩ = some (.int .i64 t) := (blk_cell B5.out 2).trans rfl
                refine value_ (w1 := w') (v := .agg #[.int .i64 s, .int .i64 h, .int .i64 t]) (wanted_on rfl rfl rfl (e241.trans (by first | rfl | (simp [*]; done)))) rfl ?_ ?_
                · go_simp
                  (try simp only [i64_w])
                  try rfl
                refine hK.out _ _ ⟨(by rw [ha.out]; exact putSel_upk 16 hb_ rfl rfl rfl), Q_HB, Q_B5⟩
              refine steps_cons ?_ ?_
              · as_aux_lemma =>
                rintro b a w' ⟨ha, Q_HB, Q_B5⟩ hb_ hon hoff
                refine ⟨_, rfl, fun K hK => ?_⟩
                have e5 : a.tmps[5]? = some (.pointer (some ⟨b5, 0, none⟩)) := by rw [ha]; exact (putSel_off rfl).trans rfl
                have e241 : a.tmps[241]? = some (.bool true) := by rw [ha]; exact putSel_on (e := (16, 241, .bool true)) 15 rfl rfl (hon 16 (by kernel_rfl)) rfl
                replace ha := Aside0.mk ha
                have HB := Aside0.mk Q_HB
                have B5 := Aside0.mk Q_B5
                refine value_ (w1 := w') (v := .pointer (some ⟨b5, 2, none⟩)) (wanted_on rfl rfl rfl (e241.trans (by first | rfl | (simp [*]; done)))) rfl ?_ ?_
                · go_simp
                  (try simp only [i64_w])
                  try rfl
                refine hK.out _ _ ⟨(by rw [ha.out]; exact putSel_upk 17 hb_ rfl rfl rfl), Q_HB, Q_B5⟩
              refine steps_cons ?_ ?_
              · as_aux_lemma =>
                rintro b a w' ⟨ha, Q_HB, Q_B5⟩ hb_ hon hoff
                refine ⟨_, rfl, fun K hK => ?_⟩
                have e243 : a.tmps[243]? = some (.pointer (some ⟨b5, 2, none⟩)) := by rw [ha]; exact putSel_on (e := (18, 243, .pointer (some ⟨b5, 2, none⟩))) 17 rfl rfl (hon 18 (by kernel_rfl)) rfl
                have e241 : a.tmps[241]? = some (.bool true) := by rw [ha]; exact putSel_on (e := (16, 241, .bool true)) 15 rfl rfl (hon 16 (by kernel_rfl)) rfl
                replace ha := Aside0.mk ha
                have HB := Aside0.mk Q_HB
                have B5 := Aside0.mk Q_B5
                have hs0_ : w'.cell? ⟨b5, 0, none⟩ = some (.int .i64 s) := (blk_cell B5.out 0).trans rfl
                have hs1_ : w'.cell? ⟨b5, 1, none⟩ = some (.int .i64 h) := (blk_cell B5.out 1).trans rfl
                have hs2_ : w'.cell? ⟨b5, 2, none⟩ = some (.int .i64 t) := (blk_cell B5.out 2).trans rfl
                refine value_ (w1 := w') (v := .int .i64 t) (wanted_on rfl rfl rfl (e241.trans (by first | rfl | (simp [*]; done)))) rfl ?_ ?_
                · go_simp
                  (try simp only [i64_w])
                  try rfl
                refine hK.out _ _ ⟨(by rw [ha.out]; exact putSel_upk 18 hb_ rfl rfl rfl), Q_HB, Q_B5⟩
              refine steps_cons ?_ ?_
              · as_aux_lemma =>
                rintro b a w' ⟨ha, Q_HB, Q_B5⟩ hb_ hon hoff
                refine ⟨_, rfl, fun K hK => ?_⟩
                have e5 : a.tmps[5]? = some (.pointer (some ⟨b5, 0, none⟩)) := by rw [ha]; exact (putSel_off rfl).trans rfl
                have e241 : a.tmps[241]? = some (.bool true) := by rw [ha]; exact putSel_on (e := (16, 241, .bool true)) 15 rfl rfl (hon 16 (by kernel_rfl)) rfl
                replace ha := Aside0.mk ha
                have HB := Aside0.mk Q_HB
                have B5 := Aside0.mk Q_B5
                have hs0_ : w'.cell? ⟨b5, 0, none⟩ = some (.int .i64 s) := (blk_cell B5.out 0).trans rfl
                have hs1_ : w'.cell? ⟨b5, 1, none⟩ = some (.int .i64 h) := (blk_cell B5.out 1).trans rfl
                have hs2_ : w'.cell? ⟨b5, 2, none⟩ = some (.int .i64 t) := (blk_cell B5.out 2).trans rfl
                refine value_ (w1 := w') (v := .agg #[.int .i64 s, .int .i64 h, .int .i64 t]) (wanted_on rfl rfl rfl (e241.trans (by first | rfl | (simp [*]; done)))) rfl ?_ ?_
                · go_simp
                  (try simp only [i64_w])
                  try rfl
                refine hK.out _ _ ⟨(by rw [ha.out]; exact putSel_upk 19 hb_ rfl rfl rfl), Q_HB, Q_B5⟩
              refine steps_cons ?_ ?_
              · as_aux_lemma =>
                rintro b a w' ⟨ha, Q_HB, Q_B5⟩ hb_ hon hoff
                refine ⟨_, rfl, fun K hK => ?_⟩
                have e245 : a.tmps[245]? = some (.agg #[.int .i64 s, .int .i64 h, .int .i64 t]) := by rw [ha]; exact putSel_on (e := (20, 245, .agg #[.int .i64 s, .int .i64 h, .int .i64 t])) 19 rfl rfl (hon 20 (by kernel_rfl)) rfl
                have e241 : a.tmps[241]? = some (.bool true) := by rw [ha]; exact putSel_on (e := (16, 241, .bool true)) 15 rfl rfl (hon 16 (by kernel_rfl)) rfl
                replace ha := Aside0.mk ha
                have HB := Aside0.mk Q_HB
                have B5 := Aside0.mk Q_B5
                refine goes_ Try.func15 (by kernel_rfl) rfl #[.agg #[.int .i64 s, .int .i64 h, .int .i64 t]] (wanted_on rfl rfl rfl (e241.trans rfl)) rfl rfl (by first | (simp only [List.map_toArray, List.map_cons, List.map_nil, Act.eval, Array.getD_eq_getD_getElem?, Option.getD_some, e245, e241]; done) | (simp only [List.map_toArray, List.map_cons, List.map_nil, Act.eval, Array.getD_eq_getD_getElem?, Option.getD_some, e245, e241]; rfl)) ?_
                with_reducible refine (ring_Ring_Used.calls 3 s h t _ _ AU.out).mono ?_
                rintro e w6 ⟨rfl, hb⟩
                refine ⟨_, rfl, ?_⟩
                refine hK.out _ _ ⟨(by rw [ha.out]; exact putSel_upk 20 hb_ rfl rfl rfl), below_step HB.out hb, blk_below B5.out hb⟩
              refine steps_cons ?_ ?_
              · as_aux_lemma =>
                rintro b a w' ⟨ha, Q_HB, Q_B5⟩ hb_ hon hoff
                refine ⟨_, rfl, fun K hK => ?_⟩
                have e246 : a.tmps[246]? = some (.int .i64 (nn : Int)) := by rw [ha]; exact putSel_on (e := (21, 246, .int .i64 (nn : Int))) 20 rfl rfl (hon 21 (by kernel_rfl)) rfl
                have e241 : a.tmps[241]? = some (.bool true) := by rw [ha]; exact putSel_on (e := (16, 241, .bool true)) 15 rfl rfl (hon 16 (by kernel_rfl)) rfl
                replace ha := Aside0.mk ha
                have HB := Aside0.mk Q_HB
                have B5 := Aside0.mk Q_B5
                have hw_ : IntKind.i64.wrap ((nn : Int) + 1) = (nn : Int) + 1 := IntWalk.i64_in _ (by omega)
                refine value_ (w1 := w') (v := .int .i64 ((nn : Int) + 1)) (wanted_on rfl rfl rfl (e241.trans (by first | rfl | (simp [*]; done)))) rfl ?_ ?_
                · go_simp
                  (try simp only [i64_w])
                  try rfl
                refine hK.out _ _ ⟨(by rw [ha.out]; exact putSel_upk 21 hb_ rfl rfl rfl), Q_HB, Q_B5⟩
              refine steps_cons ?_ ?_
              · as_aux_lemma =>
                rintro b a w' ⟨ha, Q_HB, Q_B5⟩ hb_ hon hoff
                refine ⟨_, rfl, fun K hK => ?_⟩
                have e242 : a.tmps[242]? = some (.agg #[.int .i64 s, .int .i64 h, .int .i64 t]) := by rw [ha]; exact putSel_on (e := (17, 242, .agg #[.int .i64 s, .int .i64 h, .int .i64 t])) 16 rfl rfl (hon 17 (by kernel_rfl)) rfl
                have e244 : a.tmps[244]? = some (.int .i64 t) := by rw [ha]; exact putSel_on (e := (19, 244, .int .i64 t)) 18 rfl rfl (hon 19 (by kernel_rfl)) rfl
                have e247 : a.tmps[247]? = some (.int .i64 ((nn : Int) + 1)) := by rw [ha]; exact putSel_on (e := (22, 247, .int .i64 ((nn : Int) + 1))) 21 rfl rfl (hon 22 (by kernel_rfl)) rfl
                have e241 : a.tmps[241]? = some (.bool true) := by rw [ha]; exact putSel_on (e := (16, 241, .bool true)) 15 rfl rfl (hon 16 (by kernel_rfl)) rfl
                replace ha := Aside0.mk ha
                have HB := Aside0.mk Q_HB
                have B5 := Aside0.mk Q_B5
                refine goes_ Try.func21 (by kernel_rfl) rfl #[.agg #[.int .i64 s, .int .i64 h, .int .i64 t], .int .i64 t, .int .i64 ((nn : Int) + 1)] (wanted_on rfl rfl rfl (e241.trans rfl)) rfl rfl (by first | (simp only [List.map_toArray, List.map_cons, List.map_nil, Act.eval, Array.getD_eq_getD_getElem?, Option.getD_some, e242, e244, e247, e241]; done) | (simp only [List.map_toArray, List.map_cons, List.map_nil, Act.eval, Array.getD_eq_getD_getElem?, Option.getD_some, e242, e244, e247, e241]; rfl)) ?_
                with_reducible refine (ring_Ring_Holds.calls 3 s h t t ((nn : Int) + 1) _ _ AN.out).mono ?_
                rintro e w6 ⟨rfl, hb⟩
                refine ⟨_, rfl, ?_⟩
                refine hK.out _ _ ⟨(by rw [ha.out]; exact putSel_upk 22 hb_ rfl rfl rfl), below_step HB.out hb, blk_below B5.out hb⟩
              refine steps_cons ?_ ?_
              · as_aux_lemma =>
                rintro b a w' ⟨ha, Q_HB, Q_B5⟩ hb_ hon hoff
                refine ⟨_, rfl, fun K hK => ?_⟩
                have e248 : a.tmps[248]? = some (.bool false) := by rw [ha]; exact putSel_on (e := (23, 248, .bool false)) 22 rfl rfl (hon 23 (by kernel_rfl)) rfl
                have e241 : a.tmps[241]? = some (.bool true) := by rw [ha]; exact putSel_on (e := (16, 241, .bool true)) 15 rfl rfl (hon 16 (by kernel_rfl)) rfl
                replace ha := Aside0.mk ha
                have HB := Aside0.mk Q_HB
                have B5 := Aside0.mk Q_B5
                refine value_ (w1 := w') (v := .bool true) (wanted_on rfl rfl rfl (e241.trans (by first | rfl | (simp [*]; done)))) rfl ?_ ?_
                · go_simp
                  (try simp only [i64_w])
                  try rfl
                refine hK.out _ _ ⟨(by rw [ha.out]; exact putSel_upk 23 hb_ rfl rfl rfl), Q_HB, Q_B5⟩
              refine steps_cons ?_ ?_
              · as_aux_lemma =>
                rintro b a w' ⟨ha, Q_HB, Q_B5⟩ hb_ hon hoff
                refine ⟨_, rfl, fun K hK => ?_⟩
                have e241 : a.tmps[241]? = some (.bool true) := by rw [ha]; exact putSel_on (e := (16, 241, .bool true)) 15 rfl rfl (hon 16 (by kernel_rfl)) rfl
                have e249 : a.tmps[249]? = some (.bool true) := by rw [ha]; exact putSel_on (e := (24, 249, .bool true)) 23 rfl rfl (hon 24 (by kernel_rfl)) rfl
                replace ha := Aside0.mk ha
                have HB := Aside0.mk Q_HB
                have B5 := Aside0.mk Q_B5
                refine value_ (w1 := w') (v := .bool true) (by rfl) rfl ?_ ?_
                · go_simp
                  (try simp only [i64_w])
                  try rfl
                refine hK.out _ _ ⟨(by rw [ha.out]; exact putSel_upk 24 hb_ rfl rfl rfl), Q_HB, Q_B5⟩
              refine steps_cons ?_ ?_
              · as_aux_lemma =>
                rintro b a w' ⟨ha, Q_HB, Q_B5⟩ hb_ hon hoff
                refine ⟨_, rfl, fun K hK => ?_⟩
                have e250 : a.tmps[250]? = some (.bool true) := by rw [ha]; exact putSel_on (e := (25, 250, .bool true)) 24 rfl rfl (hon 25 (by kernel_rfl)) rfl
                replace ha := Aside0.mk ha
                have HB := Aside0.mk Q_HB
                have B5 := Aside0.mk Q_B5
                refine value_ (w1 := w') (v := .bool true) (by rfl) rfl ?_ ?_
                · go_simp
                  (try simp only [i64_w])
                  try rfl
                refine hK.out _ _ ⟨(by rw [ha.out]; exact putSel_upk 25 hb_ rfl rfl rfl), Q_HB, Q_B5⟩
              refine steps_cons ?_ ?_
              · as_aux_lemma =>
                rintro b a w' ⟨ha, Q_HB, Q_B5⟩ hb_ hon hoff
                refine ⟨_, rfl, fun K hK => ?_⟩
                have e251 : a.tmps[251]? = some (.bool true) := by rw [ha]; exact putSel_on (e := (26, 251, .bool true)) 25 rfl rfl (hon 26 (by kernel_rfl)) rfl
                replace ha := Aside0.mk ha
                have HB := Aside0.mk Q_HB
                have B5 := Aside0.mk Q_B5
                refine goes_ Try.func11 (by kernel_rfl) rfl #[] (wanted_on rfl rfl rfl (e251.trans rfl)) rfl rfl (by first | (simp only [List.map_toArray, List.map_cons, List.map_nil, Act.eval, Array.getD_eq_getD_getElem?, Option.getD_some, e251]; done) | (simp only [List.map_toArray, List.map_cons, List.map_nil, Act.eval, Array.getD_eq_getD_getElem?, Option.getD_some, e251]; rfl)) ?_
                with_reducible refine (lighterlaw09_awake.calls 10 true _ awake10).mono ?_
                rintro e w6 ⟨rfl, hb⟩
                refine ⟨_, rfl, ?_⟩
                refine hK.out _ _ ⟨(by rw [ha.out]; exact putSel_upk 26 hb_ rfl rfl rfl), below_step HB.out hb, blk_below B5.out hb⟩
              refine steps_cons ?_ ?_
              · as_aux_lemma =>
                rintro b a w' ⟨ha, Q_HB, Q_B5⟩ hb_ hon hoff
                refine ⟨_, rfl, fun K hK => ?_⟩
                have e251 : a.tmps[251]? = some (.bool true) := by rw [ha]; exact putSel_on (e := (26, 251, .bool true)) 25 rfl rfl (hon 26 (by kernel_rfl)) rfl
                have e252 : a.tmps[252]? = some (.bool true) := by rw [ha]; exact putSel_on (e := (27, 252, .bool true)) 26 rfl rfl (hon 27 (by kernel_rfl)) rfl
                replace ha := Aside0.mk ha
                have HB := Aside0.mk Q_HB
                have B5 := Aside0.mk Q_B5
                refine value_ (w1 := w') (v := .bool true) (by rfl) rfl ?_ ?_
                · go_simp
                  (try simp only [i64_w])
                  try rfl
                refine hK.out _ _ ⟨(by rw [ha.out]; exact putSel_upk 27 hb_ rfl rfl rfl), Q_HB, Q_B5⟩
              refine steps_cons ?_ ?_
              · as_aux_lemma =>
                rintro b a w' ⟨ha, Q_HB, Q_B5⟩ hb_ hon hoff
                refine ⟨_, rfl, fun K hK => ?_⟩
                have e253 : a.tmps[253]? = some (.bool true) := by rw [ha]; exact putSel_on (e := (28, 253, .bool true)) 27 rfl rfl (hon 28 (by kernel_rfl)) rfl
                replace ha := Aside0.mk ha
                have HB := Aside0.mk Q_HB
                have B5 := Aside0.mk Q_B5
                refine value_ (w1 := w') (v := .bool true) (by rfl) rfl ?_ ?_
                · go_simp
                  (try simp only [i64_w])
                  try rfl
                refine hK.out _ _ ⟨(by rw [ha.out]; exact putSel_upk 28 hb_ rfl rfl rfl), Q_HB, Q_B5⟩
              exact steps_nil
            rintro b a wZ hall ⟨ha, Q_HB, Q_B5⟩
            clear B5 HB
            have hb1_ := hall 1 (by kernel_rfl)
            have hb2_ := hall 2 (by kernel_rfl)
            have hb3_ := hall 3 (by kernel_rfl)
            have hb4_ := hall 4 (by kernel_rfl)
            have hb5_ := hall 5 (by kernel_rfl)
            have hb6_ := hall 6 (by kernel_rfl)
            have hb7_ := hall 7 (by kernel_rfl)
            have hb8_ := hall 8 (by kernel_rfl)
            have hb9_ := hall 9 (by kernel_rfl)
            have hb10_ := hall 10 (by kernel_rfl)
            have hb11_ := hall 11 (by kernel_rfl)
            have hb12_ := hall 12 (by kernel_rfl)
            have hb13_ := hall 13 (by kernel_rfl)
            have hb14_ := hall 14 (by kernel_rfl)
            have hb15_ := hall 15 (by kernel_rfl)
            have hb16_ := hall 16 (by kernel_rfl)
            have hb17_ := hall 17 (by kernel_rfl)
            have hb18_ := hall 18 (by kernel_rfl)
            have hb19_ := hall 19 (by kernel_rfl)
            have hb20_ := hall 20 (by kernel_rfl)
            have hb21_ := hall 21 (by kernel_rfl)
            have hb22_ := hall 22 (by kernel_rfl)
            have hb23_ := hall 23 (by kernel_rfl)
            have hb24_ := hall 24 (by kernel_rfl)
            have hb25_ := hall 25 (by kernel_rfl)
            have hb26_ := hall 26 (by kernel_rfl)
            have hb27_ := hall 27 (by kernel_rfl)
            have hb28_ := hall 28 (by kernel_rfl)
            have hb29_ := hall 29 (by kernel_rfl)
            subst ha
            simp only [putSel, hb1_, hb2_, hb3_, hb4_, hb5_, hb6_, hb7_, hb8_, hb9_, hb10_, hb11_, hb12_, hb13_, hb14_, hb15_, hb16_, hb17_, hb18_, hb19_, hb20_, hb21_, hb22_, hb23_, hb24_, hb25_, hb26_, hb27_, hb28_, hb29_, if_true, Act.put, List.setIfInBounds_toArray, List.set_cons_zero, List.set_cons_succ]
            have HB := Aside0.mk Q_HB
            clear Q_HB
            have B5 := Aside0.mk Q_B5
            clear Q_B5
            clear hall hb1_ hb2_ hb3_ hb4_ hb5_ hb6_ hb7_ hb8_ hb9_ hb10_ hb11_ hb12_ hb13_ hb14_ hb15_ hb16_ hb17_ hb18_ hb19_ hb20_ hb21_ hb22_ hb23_ hb24_ hb25_ hb26_ hb27_ hb28_ hb29_
            go_wp2_with (fail)
            go_ret
            exact ⟨rfl, HB.out⟩
end Go.Proofs.Ytkbohbelmgmlnaa.PRingAsks
