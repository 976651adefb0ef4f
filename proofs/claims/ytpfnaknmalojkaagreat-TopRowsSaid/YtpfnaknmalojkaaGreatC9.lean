/- YtpfnaknmalojkaaGreatC9: what this claim rests on. Words and contracts are those of the kit's print (print.sh wrote them, those that nothing here reaches are left out); all else is own work. Conditions: what each theorem says. -/
import Derived.Test.YtpfnaknmalojkaaGreatC8
namespace Go.Proofs.YtpfnaknmalojkaaGreat.PTopRows
open Go.RowKit Go.Maps Go.Sort Go.Proofs.YtpfnaknmalojkaaGreatW.PrintWords Go.Proofs.YtpfnaknmalojkaaGreatW.PrintLast Go.Proofs.YtpfnaknmalojkaaGreatW.PrintMore
set_option linter.unusedVariables false
set_option linter.unusedSimpArgs false
theorem numbers147A (base g n : Nat) (l : List Int) (cs : Array Value) (hcs : cs = (l.map (Value.int .i64)).toArray) (k : Nat) (hk : k = l.length) (hl : ∀ x ∈ l, InU x) (W : World) (h : OutAt W base g n) (hb : base ≤ W.heap.size) (hn : n ≤ 800000) (hll : l.length ≤ 1000) :
  Calls Tryz.prog 147 #[.pointer (some ⟨g, 0, none⟩), .slice (some ⟨W.heap.size, 0, none⟩) k k] (W.alloc (.cells cs 3)) fun e w' => ∃ j, e = .returned (.tuple #[]) ∧ j ≤ 9 * k ∧ OutAt w' base g (n + j) ∧ BK base W w' := by
 subst hk hcs
 have ba := Zab (Below.refl _ W) (.cells (l.map (Value.int .i64)).toArray 3)
 exact (Zdw base g n W.heap.size l hl _ (h.below ba) (Nat.le_trans hb ba.size) (Zas W _) hn hll).mono fun e w' ⟨j, h1, h2, h3, h4⟩ => ⟨j, h1, h2, h3, (BK.of_below ba hb).trans h4⟩
theorem numbers90A (base g n : Nat) (l : List Int) (cs : Array Value) (hcs : cs = (l.map (Value.int .i64)).toArray) (k : Nat) (hk : k = l.length) (hl : ∀ x ∈ l, InU x) (W : World) (h : OutAt W base g n) (hb : base ≤ W.heap.size) (hn : n ≤ 800000) (hll : l.length ≤ 1000) :
  Calls Tryz.prog 90 #[.pointer (some ⟨g, 0, none⟩), .slice (some ⟨W.heap.size, 0, none⟩) k k] (W.alloc (.cells cs 3)) fun e w' => ∃ j, e = .returned (.tuple #[]) ∧ j ≤ 9 * k ∧ OutAt w' base g (n + j) ∧ BK base W w' := by
 subst hk hcs
 have ba := Zab (Below.refl _ W) (.cells (l.map (Value.int .i64)).toArray 3)
 exact (ZdV base g n W.heap.size l hl _ (h.below ba) (Nat.le_trans hb ba.size) (Zas W _) hn hll).mono fun e w' ⟨j, h1, h2, h3, h4⟩ => ⟨j, h1, h2, h3, (BK.of_below ba hb).trans h4⟩
theorem raw1A (base g n : Nat) (s : ByteArray) (W : World) (h : OutAt W base g n) (hb : base ≤ W.heap.size) (hn : n + s.size ≤ 900000) :
  Calls Tryz.prog 88 #[.pointer (some ⟨g, 0, none⟩), .slice (some ⟨W.heap.size, 0, none⟩) 1 1] (W.alloc (.cells #[.string s] 9)) fun e w' => e = .returned (.tuple #[]) ∧ OutAt w' base g (n + s.size) ∧ BK base W w' := by
 have ba := Zab (Below.refl _ W) (.cells #[.string s] 9)
 exact (ZdR base g n W.heap.size [s] _ (h.below ba) (Nat.le_trans hb ba.size) (Zas W _) (by show n + (s.size + 0) ≤ _; omega) (by simp)).mono fun e w' ⟨h1, h2, h3⟩ => ⟨h1, h2, (BK.of_below ba hb).trans h3⟩
theorem raw2A (base g n : Nat) (s t : ByteArray) (W : World) (h : OutAt W base g n) (hb : base ≤ W.heap.size) (hn : n + s.size + t.size ≤ 900000) :
  Calls Tryz.prog 88 #[.pointer (some ⟨g, 0, none⟩), .slice (some ⟨W.heap.size, 0, none⟩) 2 2] (W.alloc (.cells #[.string s, .string t] 9)) fun e w' => e = .returned (.tuple #[]) ∧ OutAt w' base g (n + s.size + t.size) ∧ BK base W w' := by
 have ba := Zab (Below.refl _ W) (.cells #[.string s, .string t] 9)
 exact (ZdR base g n W.heap.size [s, t] _ (h.below ba) (Nat.le_trans hb ba.size) (Zas W _) (by show n + (s.size + (t.size + 0)) ≤ _; omega) (by simp)).mono fun e w' ⟨h1, h2, h3⟩ => ⟨h1, by rw [show n + s.size + t.size = n + (s.size + (t.size + 0)) by omega]; exact h2, (BK.of_below ba hb).trans h3⟩
theorem text1A (base g n : Nat) (s : ByteArray) (W : World) (h : OutAt W base g n) (hb : base ≤ W.heap.size) (hn : n + s.size ≤ 800000) :
  Calls Tryz.prog 91 #[.pointer (some ⟨g, 0, none⟩), .slice (some ⟨W.heap.size, 0, none⟩) 1 1] (W.alloc (.cells #[.string s] 9)) fun e w' => ∃ k, e = .returned (.tuple #[]) ∧ k ≤ 9 ∧ OutAt w' base g (n + k + s.size) ∧ BK base W w' := by
 have ba := Zab (Below.refl _ W) (.cells #[.string s] 9)
 exact (text_calls base g n W.heap.size s _ (h.below ba) (Nat.le_trans hb ba.size) (Zas W _) hn).mono fun e w' ⟨k, h1, h2, h3, h4⟩ => ⟨k, h1, h2, h3, (BK.of_below ba hb).trans h4⟩
theorem sum1A (s : ByteArray) (hs : s.size ≤ 1000000) (W : World) :
  Calls Tryz.prog 125 #[.slice (some ⟨W.heap.size, 0, none⟩) 1 1] (W.alloc (.cells #[.string s] 9)) fun e w' => ∃ y, e = .returned (.int .u32 y) ∧ Below W.heap.size W w' := by
 have ba := Zab (Below.refl _ W) (.cells #[.string s] 9)
 exact (sum_calls W.heap.size [s] _ (Zas W _) (by simp) (by intro y hy; rw [List.mem_singleton.1 hy]; exact hs)).mono fun e w' ⟨y, h1, h2⟩ => ⟨y, h1, Zae ba h2⟩
structure Ob where
 key : Int
 epoch : Int
 seq : Int
 upto : Int
 pa : Option Addr
 pc : Nat
 P : List S70
 ca : Option Addr
 cc : Nat
 C : List S70
 data : ByteArray
def part0 (s : S70) : S92 := ⟨s, ⟨0, 0⟩⟩
def Ob.val (o : Ob) : Value := .agg #[.int .u64 o.key, .int .i64 o.epoch, .int .i64 o.seq, .int .i64 o.upto, .slice o.pa (o.P.map part0).length o.pc, .slice o.ca o.C.length o.cc, .string o.data]
structure Ob.Reads (o : Ob) (w : World) : Prop where
 p : Kd.C k92 w o.pa (o.P.map part0).length (o.P.map part0)
 pl : (o.P.map part0).length ≤ o.pc
 c : Kd.C k70 w o.ca o.C.length o.C
 cl : o.C.length ≤ o.cc
theorem Ob.Reads.below {o : Ob} {w w' : World} (h : o.Reads w) (hb : Below w.heap.size w w') : o.Reads w' := ⟨Kd.C_below h.p hb, h.pl, Kd.C_below h.c hb, h.cl⟩
structure Ob.Ok (o : Ob) : Prop where
 obj : ObjOk o.P o.C
 key : 0 ≤ o.key ∧ o.key ≤ 18446744073709551615
 epoch : 1 ≤ o.epoch ∧ o.epoch < 1099511627776
 seq : 1 ≤ o.seq ∧ o.seq < 1099511627776
 upto : 0 ≤ o.upto ∧ o.upto < 1099511627776
 data : (o.data.size : Int) = 64 * totS o.P
theorem ZcK (S : List S70) (h : ∀ x ∈ S, MayS x) : (S.length : Int) ≤ totS S := by
 induction S with
 | nil => exact Int.le_refl _
 | cons x l ih =>
  have := ih fun y hy => h y (by simp [hy])
  have := (h x (by simp)).2.1
  rw [List.length_cons, Zby]
  omega
theorem ObjOk.lens {P C : List S70} (h : ObjOk P C) : P.length ≤ 12 ∧ C.length ≤ 12 ∧ 0 ≤ totS P ∧ totS P ≤ 12 := by
 have h1 := ZcK P h.p.may
 have h2 := ZcK C h.c.may
 have h3 := h.tot
 refine ⟨by omega, by omega, by omega, by omega⟩
set_option maxRecDepth 100000 in
set_option maxHeartbeats 4000000 in
theorem head_bytes (o : Ob) (w : World) (hr : o.Reads w) (ho : o.Ok) : Calls Tryz.prog 112 #[o.val] w fun e w' => ∃ s : ByteArray, e = .returned (.string s) ∧ s.size ≤ 2000 ∧ Below w.heap.size w w' := by
 have hu40 := Tryz.underlying40
 have hu158 := Tryz.underlying158
 have hu189 := Tryz.underlying189
 have hu191 := Tryz.underlying191
 have hu30 := Tryz.underlying30
 have hu193 := Tryz.underlying193
 have hu9 := Tryz.underlying9
 have hu3 := Tryz.underlying3
 have hu37 := Tryz.underlying37
 have hu38 := Tryz.underlying38
 have hu92 := Tryz.underlying92
 have hu70 := Tryz.underlying70
 have hu84 := Tryz.underlying84
 have HR := Aside0.mk hr
 obtain ⟨hlp, hlc, ht0, ht1⟩ := ho.obj.lens
 have HP := Aside0.mk ho.obj
 have hds := ho.data
 have hk := ho.key
 have hee := ho.epoch
 have hse := ho.seq
 have hup := ho.upto
 obtain ⟨key, ep, sq, up, pa, pc, P, ca, cc, C, dt⟩ := o
 simp only at hds hk hee hse hup hlp hlc HP
 have hpl : (P.map part0).length = P.length := List.length_map _
 unfold Ob.val
 simp only
 rw [hpl]
 clear hr ho
 go_enter Tryz.func112, Tryz.ntmps112
 go_wp2_with (fail)
 have ba := Zab (Below.refl _ w) (.cells #[.int .u64 key, .int .i64 ep, .int .i64 sq, .int .i64 up, .slice pa P.length pc, .slice ca C.length cc, .string dt] 40)
 have hbx := Zas w (.cells #[.int .u64 key, .int .i64 ep, .int .i64 sq, .int .i64 up, .slice pa P.length pc, .slice ca C.length cc, .string dt] 40)
 have hs0 : (w.alloc (.cells #[.int .u64 key, .int .i64 ep, .int .i64 sq, .int .i64 up, .slice pa P.length pc, .slice ca C.length cc, .string dt] 40)).heap.size = w.heap.size + 1 := by simp
 generalize w.alloc (.cells #[.int .u64 key, .int .i64 ep, .int .i64 sq, .int .i64 up, .slice pa P.length pc, .slice ca C.length cc, .string dt] 40) = W0 at ba hbx hs0 ⊢
 have bb := Zab (Below.refl _ W0) (.cells #[.slice none 0 0] 158)
 have hnb := Zas W0 (.cells #[.slice none 0 0] 158)
 have hs1 : (W0.alloc (.cells #[.slice none 0 0] 158)).heap.size = w.heap.size + 1 + 1 := by simp [hs0]
 rw [hs0] at hnb
 have hbx1 := Zag hbx bb
 generalize W0.alloc (.cells #[.slice none 0 0] 158) = W1 at bb hnb hs1 hbx1 ⊢
 rw [← hs1]
 have ho1 : OutAt W1 w.heap.size (w.heap.size + 1) 0 := ⟨by omega, _, [], hnb, Kd.R_nil _ _ _ _ _, rfl⟩
 have HB1 := Aside0.mk (Zae ba bb)
 have HBX := Aside0.mk hbx1
 have HBS := Aside0.mk (show w.heap.size ≤ W1.heap.size by omega)
 have hrw := raw1A w.heap.size (w.heap.size + 1) 0 ⟨#[68, 79, 66, 49]⟩ W1 ho1 HBS.out (by show 0 + 4 ≤ _; omega)
 clear ba bb hbx hbx1 hnb hs0 hs1 ho1
 obtain ⟨B, hB⟩ : ∃ B, w.heap.size = B := ⟨_, rfl⟩
 rw [hB] at hrw HBX HBS HB1 ⊢
 obtain ⟨g, hg⟩ : ∃ g, B + 1 = g := ⟨_, rfl⟩
 rw [hg] at hrw ⊢
 clear hg
 refine hrw.mono ?_
 clear hrw
 rintro e w2 ⟨rfl, ho2, hb2⟩
 have ho2 : OutAt w2 B g 4 := ho2
 have HB2 := Aside0.mk hb2
 have HS2 := Aside0.mk (Nat.le_trans HBS.out hb2.bel.size)
 have hx2 := HB2.out.kept _ _ _ (by decide) (by decide) HBX.out
 have c0 := (Zaa hx2 0).trans rfl
 have HFx := Aside0.mk (Zb4 B g 4 8 key (by omega) w2 ho2 HS2.out (by omega))
 clear ho2 hb2 hx2
 go_wp2_with (fail)
 refine HFx.out.mono ?_
 rintro e w3 ⟨rfl, ho3, hb3⟩
 have HB3 := Aside0.mk (HB2.out.trans hb3)
 have HS3 := Aside0.mk (Nat.le_trans HBS.out HB3.out.bel.size)
 have hx3 := HB3.out.kept _ _ _ (by decide) (by decide) HBX.out
 have d1 := (Zaa hx3 1).trans rfl
 have d2 := (Zaa hx3 2).trans rfl
 have d3 := (Zaa hx3 3).trans rfl
 have d4 := (Zaa hx3 4).trans rfl
 have HN := Aside0.mk (numbers147A B g 12 [ep, sq, up, (P.length : Int)] #[.int .i64 ep, .int .i64 sq, .int .i64 up, .int .i64 (P.length : Int)] rfl 4 rfl (by
  intro x hx
  simp only [List.mem_cons, List.not_mem_nil, or_false] at hx
  rcases hx with rfl | rfl | rfl | rfl <;> exact ⟨by omega, by omega⟩) w3 ho3 HS3.out (by omega) (by simp))
 clear ho3 hb3 hx3 HFx c0
 go_wp2_with (fail)
 refine HN.out.mono ?_
 rintro e w4 ⟨k4, rfl, hk4, ho4, hb4⟩
 have HB4 := Aside0.mk (HB3.out.trans hb4)
 have HO4 := Aside0.mk ho4
 have hx4 := HB4.out.kept _ _ _ (by decide) (by decide) HBX.out
 have e4 := (Zaa hx4 4).trans rfl
 clear ho4 hb4 hx4 HN d1 d2 d3 d4
 go_wp2_with (fail)
 go_loopg [27] P.length (fun kx v27 wr => ∃ i : Nat, v27 = .int .i64 (i : Int) ∧ i ≤ P.length ∧ P.length - i ≤ kx ∧ (∃ k, k ≤ 36 * i ∧ Aside0 (OutAt wr B g (12 + k4 + k))) ∧ Aside0 (BK B W1 wr))
 case atStart => exact ⟨0, rfl, Nat.zero_le _, by omega, ⟨0, by omega, HO4⟩, HB4⟩
 case round =>
  obtain ⟨i, rfl, hi, hik, ⟨k, hk, HO⟩, HB⟩ := hrel
  by_cases hlt : i < P.length
  ·have hi1 : i + 1 ≤ P.length := hlt
   have hBr : Below w.heap.size w wr := by
    rw [hB]
    exact HB1.out.trans HB.out.bel
   obtain ⟨ad, e, y0, y1, y2, y3⟩ := cells92 (Kd.C_below HR.out.p hBr) i (by rw [hpl]; exact hlt)
   have e : pa = some ad := e
   subst e
   have eg : (P.map part0)[i]'(by rw [hpl]; exact hlt) = part0 P[i] := List.getElem_map _
   rw [eg] at y0 y1 y2 y3
   have hpm := HP.out.p.may P[i] (List.getElem_mem hlt)
   clear eg hBr
   as_aux_lemma =>
    generalize P[i] = x at y0 y1 y2 y3 hpm
    obtain ⟨x0, x1⟩ := x
    simp only [part0] at y0 y1 y2 y3
    have hxs : 0 ≤ x0 ∧ 1 ≤ x1 ∧ x0 + x1 ≤ 65536 := hpm
    have ba := Zab (Below.refl _ wr) (.cells #[.int .i64 x0, .int .i64 x1, .int .i64 0, .int .i64 0] 92)
    have hoa := HO.out.below ba
    have HBA := Aside0.mk (HB.out.trans (BK.of_below ba (Nat.le_trans HBS.out HB.out.bel.size)))
    have HOA := Aside0.mk hoa
    clear ba hoa
    have hsz : (wr.alloc (.cells #[.int .i64 x0, .int .i64 x1, .int .i64 0, .int .i64 0] 92)).heap.size = wr.heap.size + 1 := by simp
    have HSZ := Aside0.mk hsz
    clear hsz
    go_wp2_with (fail)
    generalize wr.alloc (.cells #[.int .i64 x0, .int .i64 x1, .int .i64 0, .int .i64 0] 92) = wa at HBA HOA HSZ ⊢
    rw [← HSZ.out]
    have hnn := numbers147A B g (12 + k4 + k) [x0, x1, 0, 0] #[.int .i64 x0, .int .i64 x1, .int .i64 0, .int .i64 0] rfl 4 rfl (by
     intro x hx
     simp only [List.mem_cons, List.not_mem_nil, or_false] at hx
     rcases hx with rfl | rfl | rfl | rfl <;> exact ⟨by omega, by omega⟩) wa HOA.out (Nat.le_trans HBS.out HBA.out.bel.size) (by omega) (by simp)
    refine hnn.mono ?_
    clear hnn
    rintro e w6 ⟨k6, rfl, hk6, ho6, hb6⟩
    have HB6 := Aside0.mk (HBA.out.trans hb6)
    have HO6 := Aside0.mk ho6
    clear ho6 hb6
    go_wp2_with (fail)
    go_roundg (gk - 1)
    case measure => omega
    case rel => exact ⟨i + 1, by go_num, hi1, by omega, ⟨k + k6, by omega, ⟨by rw [← Nat.add_assoc]; exact HO6.out⟩⟩, HB6⟩
  ·have hil : i = P.length := by omega
   subst hil
   have HSr := Aside0.mk (Nat.le_trans HBS.out HB.out.bel.size)
   have hx5 := HB.out.kept _ _ _ (by decide) (by decide) HBX.out
   have e5 := (Zaa hx5 5).trans rfl
   have HN := Aside0.mk (numbers147A B g (12 + k4 + k) [(C.length : Int)] #[.int .i64 (C.length : Int)] rfl 1 rfl (by
    intro x hx
    rw [List.mem_singleton.1 hx]
    exact ⟨by omega, by omega⟩) wr HO.out HSr.out (by omega) (by simp))
   clear hx5 e4
   go_wp2_with (fail)
   refine HN.out.mono ?_
   rintro e w6 ⟨k6, rfl, hk6, ho6, hb6⟩
   have HB6 := Aside0.mk (HB.out.trans hb6)
   have HO6 := Aside0.mk ho6
   have hx6 := HB6.out.kept _ _ _ (by decide) (by decide) HBX.out
   have f5 := (Zaa hx6 5).trans rfl
   clear ho6 hb6 hx6 e5 HN HSr
   go_wp2_with (fail)
   go_loopg [54] C.length (fun kx v54 wr => ∃ i : Nat, v54 = .int .i64 (i : Int) ∧ i ≤ C.length ∧ C.length - i ≤ kx ∧ (∃ q, q ≤ 18 * i ∧ Aside0 (OutAt wr B g (12 + k4 + k + k6 + q))) ∧ Aside0 (BK B W1 wr))
   case atStart => exact ⟨0, rfl, Nat.zero_le _, by omega, ⟨0, by omega, HO6⟩, HB6⟩
   case round =>
    obtain ⟨i, rfl, hi, hik, ⟨q, hq, HO⟩, HB⟩ := hrel
    by_cases hlt : i < C.length
    ·have hi1 : i + 1 ≤ C.length := hlt
     have hBr : Below w.heap.size w wr := by
      rw [hB]
      exact HB1.out.trans HB.out.bel
     obtain ⟨ad, e, y0, y1⟩ := cells70 (Kd.C_below HR.out.c hBr) i hlt
     have e : ca = some ad := e
     subst e
     have hpm := HP.out.c.may C[i] (List.getElem_mem hlt)
     clear hBr
     as_aux_lemma =>
      generalize C[i] = x at y0 y1 hpm
      obtain ⟨x0, x1⟩ := x
      simp only at y0 y1
      have hxs : 0 ≤ x0 ∧ 1 ≤ x1 ∧ x0 + x1 ≤ 65536 := hpm
      have ba := Zab (Below.refl _ wr) (.cells #[.int .i64 x0, .int .i64 x1] 70)
      have hoa := HO.out.below ba
      have HBA := Aside0.mk (HB.out.trans (BK.of_below ba (Nat.le_trans HBS.out HB.out.bel.size)))
      have HOA := Aside0.mk hoa
      have hsz : (wr.alloc (.cells #[.int .i64 x0, .int .i64 x1] 70)).heap.size = wr.heap.size + 1 := by simp
      have HSZ := Aside0.mk hsz
      clear ba hoa hsz
      go_wp2_with (fail)
      generalize wr.alloc (.cells #[.int .i64 x0, .int .i64 x1] 70) = wa at HBA HOA HSZ ⊢
      rw [← HSZ.out]
      have hnn := numbers147A B g (12 + k4 + k + k6 + q) [x0, x1] #[.int .i64 x0, .int .i64 x1] rfl 2 rfl (by
       intro x hx
       simp only [List.mem_cons, List.not_mem_nil, or_false] at hx
       rcases hx with rfl | rfl <;> exact ⟨by omega, by omega⟩) wa HOA.out (Nat.le_trans HBS.out HBA.out.bel.size) (by omega) (by simp)
      refine hnn.mono ?_
      clear hnn
      rintro e w8 ⟨k8, rfl, hk8, ho8, hb8⟩
      have HB8 := Aside0.mk (HBA.out.trans hb8)
      have HO8 := Aside0.mk ho8
      clear ho8 hb8
      go_wp2_with (fail)
      go_roundg (gk - 1)
      case measure => omega
      case rel => exact ⟨i + 1, by go_num, hi1, by omega, ⟨q + k8, by omega, ⟨by rw [← Nat.add_assoc]; exact HO8.out⟩⟩, HB8⟩
    ·have hil : i = C.length := by omega
     subst hil
     have HSr := Aside0.mk (Nat.le_trans HBS.out HB.out.bel.size)
     have hx7 := HB.out.kept _ _ _ (by decide) (by decide) HBX.out
     have e7 := (Zaa hx7 6).trans rfl
     have HSm := Aside0.mk (sum1A dt (by omega) wr)
     clear hx7 f5
     as_aux_lemma =>
      go_wp2_with (fail)
      refine HSm.out.mono ?_
      rintro e w8 ⟨y, rfl, hb8⟩
      have HB8 := Aside0.mk (HB.out.trans (BK.of_below hb8 HSr.out))
      have HFx := Aside0.mk (fun z => Zb4 B g (12 + k4 + k + k6 + q) 4 z (by omega) w8 (HO.out.below hb8) (Nat.le_trans HSr.out hb8.size) (by omega))
      clear hb8 HSm e7
      go_wp2_with (fail)
      refine (HFx.out _).mono ?_
      rintro e w9 ⟨rfl, ho9, hb9⟩
      have HB9 := Aside0.mk (HB8.out.trans hb9)
      have HST := Aside0.mk (Zcd B g _ w9 ho9)
      clear ho9 hb9 HFx
      go_wp2_with (fail)
      refine HST.out.mono ?_
      rintro e w10 ⟨s, rfl, hsz, hb10⟩
      have HB10 := Aside0.mk (Zb0 (HB1.out.trans HB9.out.bel) (hb10.mono (Nat.le_trans HBS.out HB9.out.bel.size)))
      have HSZ := Aside0.mk hsz
      clear hb10 hsz HST
      go_wp2_with (fail)
      go_ret
      exact ⟨s, rfl, by have := HSZ.out; omega, by rw [hB]; exact HB10.out⟩
end Go.Proofs.YtpfnaknmalojkaaGreat.PTopRows
namespace Go.Proofs.YtpfnaknmalojkaaGreat.PTopRows
open Go.RowKit Go.Proofs.YtpfnaknmalojkaaGreatW.PrintWords Go.Proofs.YtpfnaknmalojkaaGreatW.PrintLast Go.Proofs.YtpfnaknmalojkaaGreatW.PrintMore
attribute [local go_sem] Za5 Za4 Zbp Zbo Za7 Za6 Zbl Zbk   -- for this text's walks alone
set_option linter.unusedVariables false
set_option linter.unusedSimpArgs false
def ZaE.l0 : Nat → List (S70) → List (S92) → Int → Int → Option ((List (S70)))
 | 0, _, _, _, _ => none
 | k + 1, x3, x7, x8, x9 => if x9 < x8 then (if 0 ≤ x9 then (if x9 < (x7.length : Int) then (if x3.length < 8796093022208 then (ZaE.l0 k (x3 ++ [(⟨(rd_T92 x7 x9).f0.f0, (rd_T92 x7 x9).f0.f1⟩ : S70)]) x7 x8 (wrap64 (x9 + 1))) else (none)) else (none)) else (none)) else (some x3)
def ZaE.f (k : Nat) (a0_0 : Int) (a0_1 : Int) (a0_2 : Int) (a0_3 : Int) (l0_4 : List (S92)) (l0_5 : List (S70)) (a0_6 : ByteArray) : Option ((List (S70))) := ZaE.l0 k ([] : List (S70)) l0_4 (l0_4.length : Int) 0
set_option maxHeartbeats 8000000 in
set_option maxRecDepth 100000 in
theorem ZaE.calls (k : Nat) (a0_0 : Int) (a0_1 : Int) (a0_2 : Int) (a0_3 : Int) (A0_4 : Option Addr) (c0_4 : Nat) (l0_4 : List (S92)) (A0_5 : Option Addr) (c0_5 : Nat) (l0_5 : List (S70)) (a0_6 : ByteArray) (r : List (S70)) (w : World) (hr0_4 : Kd.C k92 w A0_4 l0_4.length l0_4) (hc0_4 : l0_4.length ≤ c0_4) (hr0_5 : Kd.C k70 w A0_5 l0_5.length l0_5) (hc0_5 : l0_5.length ≤ c0_5) (h : ZaE.f k a0_0 a0_1 a0_2 a0_3 l0_4 l0_5 a0_6 = some r) :
  Calls Tryz.prog 110 #[.agg #[.int .u64 a0_0, .int .i64 a0_1, .int .i64 a0_2, .int .i64 a0_3, .slice A0_4 l0_4.length c0_4, .slice A0_5 l0_5.length c0_5, .string a0_6]] w fun e w' => ∃ v0_ : Value, e = .returned (v0_) ∧ Kd.R k70 70 w' w.heap.size (fun _ => True) v0_ r ∧ Below w.heap.size w w' := by
 have hu40 := Tryz.underlying40
 have hu92 := Tryz.underlying92
 have hu70 := Tryz.underlying70
 have HR0_4 := Aside0.mk hr0_4
 have HC0_4 := Aside0.mk hc0_4
 clear hr0_4 hc0_4
 have HR0_5 := Aside0.mk hr0_5
 have HC0_5 := Aside0.mk hc0_5
 clear hr0_5 hc0_5
 have HB := Aside0.mk (Below.refl w.heap.size w)
 have H : (ZaE.l0 k ([] : List (S70)) l0_4 (l0_4.length : Int) 0) = some r := h
 clear h
 have H' := Aside0.mk H
 clear H
 go_enter Tryz.func110, Tryz.ntmps110
 go_wp2_with (first | ((with_reducible refine Zaw (N := 1) rfl ?_); refine Zau ?hg (N := 1) ?hd (cs := #[.int .u64 a0_0, .int .i64 a0_1, .int .i64 a0_2, .int .i64 a0_3, .slice A0_4 l0_4.length c0_4, .slice A0_5 l0_5.length c0_5, .string a0_6]) (t := 40) ?hr ?_; (case hd => rfl); (case hg => rfl); (case hr => first | (go_simp; done) | (go_simp; rfl)); intro gb131 hg w2 hbox hb; have n0_ := Aside0.mk (Zae (by repeat (first | (with_reducible first | exact HB.out | apply Zab | apply Zac | apply Zaf) | exact HB.out)) hb); have n1_ := Aside0.mk (hbox); have n2_ := Aside0.mk ((by rw [hg]; exact (Zai (by repeat (first | (with_reducible first | exact HB.out | apply Zab | apply Zac | apply Zaf) | exact HB.out))) : w.heap.size ≤ gb131)); have n3_ := Aside0.mk ((by rw [hg]; exact (Zai (by repeat (first | (with_reducible first | exact HB.out | apply Zab | apply Zac | apply Zaf) | exact HB.out))) : w.heap.size ≤ gb131)); clear HB; have HB := n0_; have BK131 := n1_; have GW131 := n2_; have GE131 := n3_; clear n0_ n1_ n2_ n3_; clear hb hbox hg; have hcz3_0 : w2.cell? ⟨gb131, 0, none⟩ = some (.int .u64 a0_0) := (Zaa BK131.out 0).trans rfl; have hcz3_1 : w2.cell? ⟨gb131, 1, none⟩ = some (.int .i64 a0_1) := (Zaa BK131.out 1).trans rfl; have hcz3_2 : w2.cell? ⟨gb131, 2, none⟩ = some (.int .i64 a0_2) := (Zaa BK131.out 2).trans rfl; have hcz3_3 : w2.cell? ⟨gb131, 3, none⟩ = some (.int .i64 a0_3) := (Zaa BK131.out 3).trans rfl; have hcz3_4 : w2.cell? ⟨gb131, 4, none⟩ = some (.slice A0_4 l0_4.length c0_4) := (Zaa BK131.out 4).trans rfl; have hcz3_5 : w2.cell? ⟨gb131, 5, none⟩ = some (.slice A0_5 l0_5.length c0_5) := (Zaa BK131.out 5).trans rfl; have hcz3_6 : w2.cell? ⟨gb131, 6, none⟩ = some (.string a0_6) := (Zaa BK131.out 6).trans rfl; have hfz3_0 := Zad BK131.out 0; have hfz3_1 := Zad BK131.out 1; have hfz3_2 := Zad BK131.out 2; have hfz3_3 := Zad BK131.out 3; have hfz3_4 := Zad BK131.out 4; have hfz3_5 := Zad BK131.out 5; have hfz3_6 := Zad BK131.out 6))
 go_loopg [3, 9] k (fun kq v3 v9 w' => ∃ (x3_1 : List (S70)) (x9_1 : Int), v9 = .int .i64 x9_1 ∧ Aside0 (ZaE.l0 kq x3_1 l0_4 (l0_4.length : Int) x9_1 = some r) ∧ Aside0 (kq ≤ k) ∧ Aside0 (Kd.R k70 70 w' w.heap.size (fun _ => True) v3 x3_1) ∧ Aside0 (w'.heap[gb131]? = some (.cells #[.int .u64 a0_0, .int .i64 a0_1, .int .i64 a0_2, .int .i64 a0_3, (.slice A0_4 l0_4.length c0_4), (.slice A0_5 l0_5.length c0_5), .string a0_6] 40 (0, 0))) ∧ Aside0 (Below w.heap.size w w'))
 case atStart => exact ⟨(([] : List (S70))), (0), (by first | rfl | (simp; done) | (simp [*]; done)), H', ⟨Nat.le_refl _⟩, ⟨by first | exact Kd.R_nil _ _ _ _ _ | exact Kd.N_nil _ _ _ _ _ | exact Kd.V_nil _ _ _ _ _ | exact Kd.Q_nil _ _ _ _ _ | exact Kd.S_nil _ _ _ _ _⟩, ⟨by (with_reducible repeat (first | refine Zao ?_ _ | refine Zaq ?_ | refine Zan ?_ _)); exact BK131.out⟩, ⟨by repeat (first | (with_reducible first | exact HB.out | apply Zab | apply Zac | apply Zaf | refine Zaj ?_ GE131.out) | exact HB.out)⟩⟩
 case round =>
  clear H'
  try clear c1
  try clear p2
  try clear hcz3_0
  try clear hcz3_1
  try clear hcz3_2
  try clear hcz3_3
  try clear hcz3_4
  try clear hcz3_5
  try clear hcz3_6
  try clear hfz3_0
  try clear hfz3_1
  try clear hfz3_2
  try clear hfz3_3
  try clear hfz3_4
  try clear hfz3_5
  try clear hfz3_6
  obtain ⟨x3_1, x9_1, rfl, HA, HK1, HO_3, BK131, HB⟩ := hrel
  cases gk with
  | zero => exact absurd HA.out (by simp [ZaE.l0])
  | succ k1 =>
   have H := HA.out
   clear HA
   simp only [ZaE.l0] at H
   by_cases c4 : x9_1 < (l0_4.length : Int)
   ·rw [if_pos c4] at H
    have c4b0 : decide (x9_1 < (l0_4.length : Int)) = true := decide_eq_true c4
    clear c4
    by_cases c5 : 0 ≤ x9_1
    ·rw [if_pos c5] at H
     have c5b0 : decide (0 ≤ x9_1) = true := decide_eq_true c5
     clear c5
     by_cases c6 : x9_1 < (l0_4.length : Int)
     ·rw [if_pos c6] at H
      have c6b0 : decide (x9_1 < (l0_4.length : Int)) = true := decide_eq_true c6
      clear c6
      by_cases c7 : x3_1.length < 8796093022208
      ·rw [if_pos c7] at H
       have LMc7 := Aside0.mk c7
       clear c7
       obtain ⟨y134, hy134⟩ : ∃ y_ : List (S70), y_ = (x3_1 ++ [(⟨(rd_T92 l0_4 x9_1).f0.f0, (rd_T92 l0_4 x9_1).f0.f1⟩ : S70)]) := ⟨_, rfl⟩
       replace H : (ZaE.l0 k1 y134 l0_4 (l0_4.length : Int) (wrap64 (x9_1 + 1))) = some r := by first | (rw [hy134]; with_reducible exact H) | (have H2_ := (Option.bind_some _ _).symm.trans H; rw [hy134]; with_reducible exact H2_) | (have H2_ := (Option.bind_some _ _).symm.trans H; with_reducible exact H2_) | with_reducible exact H | (rw [hy134]; exact H) | exact H
       have Ny134 := Aside0.mk hy134
       clear hy134
       have H' := Aside0.mk H
       clear H
       have p132 : 0 ≤ (x9_1 : Int) := of_decide_eq_true (by first | (with_reducible assumption) | assumption)
       have q132 : x9_1 < (l0_4.length : Int) := of_decide_eq_true (by first | (with_reducible assumption) | assumption)
       obtain ⟨ad132, e132, hx132_0, hx132_1, hx132_2, hx132_3⟩ := at_T92 HR0_4.out x9_1 p132 q132
       cases e132
       replace hx132_0 := (HB.out.cell (World.block_lt_of_cell? w _ hx132_0)).trans hx132_0
       replace hx132_1 := (HB.out.cell (World.block_lt_of_cell? w _ hx132_1)).trans hx132_1
       replace hx132_2 := (HB.out.cell (World.block_lt_of_cell? w _ hx132_2)).trans hx132_2
       replace hx132_3 := (HB.out.cell (World.block_lt_of_cell? w _ hx132_3)).trans hx132_3
       replace p132 := eq_true p132
       replace q132 := eq_true q132
       go_wp2_with (first | ((with_reducible refine Zaw (N := 5) rfl ?_); refine Zau ?hg (N := 5) ?hd (cs := #[.int .i64 0, .int .i64 0, .int .i64 0, .int .i64 0]) (t := 92) ?hr ?_; (case hd => rfl); (case hg => rfl); (case hr => first | (go_simp; done) | (go_simp; rfl)); intro gb133 hg w8 hbox hb; have n0_ := Aside0.mk (Kd.R_below (by (with_reducible repeat (first | apply Kd.R_alloc | apply Kd.R_drewN | apply Kd.R_drew)); exact HO_3.out) hb); have n1_ := Aside0.mk (Zag (g := gb131) (o := .cells #[.int .u64 a0_0, .int .i64 a0_1, .int .i64 a0_2, .int .i64 a0_3, .slice (some ad132) l0_4.length c0_4, .slice A0_5 l0_5.length c0_5, .string a0_6] 40 (0, 0)) (by (with_reducible repeat (first | refine Zao ?_ _ | refine Zaq ?_ | refine Zan ?_ _)); exact BK131.out) hb); have n2_ := Aside0.mk (Zae (by repeat (first | (with_reducible first | exact HB.out | apply Zab | apply Zac | apply Zaf | refine Zaj ?_ GE131.out) | exact HB.out)) hb); have n3_ := Aside0.mk (hbox); have n4_ := Aside0.mk ((by rw [hg]; exact (Zai (by repeat (first | (with_reducible first | exact HB.out | apply Zab | apply Zac | apply Zaf | refine Zaj ?_ GE131.out) | exact HB.out))) : w.heap.size ≤ gb133)); have n5_ := Aside0.mk ((by rw [hg]; exact (Zai (by repeat (first | (with_reducible first | exact HB.out | apply Zab | apply Zac | apply Zaf | refine Zaj ?_ GE131.out) | exact HB.out))) : w.heap.size ≤ gb133)); have n6_ := Aside0.mk ((by rw [hg]; exact Nat.ne_of_lt (blk_lt (g := gb131) (o := .cells #[.int .u64 a0_0, .int .i64 a0_1, .int .i64 a0_2, .int .i64 a0_3, .slice (some ad132) l0_4.length c0_4, .slice A0_5 l0_5.length c0_5, .string a0_6] 40 (0, 0)) (by (with_reducible repeat (first | refine Zao ?_ _ | refine Zaq ?_ | refine Zan ?_ _)); exact BK131.out)) : gb131 ≠ gb133)); have n7_ := Aside0.mk ((by rw [hg]; exact Nat.ne_of_gt (blk_lt (g := gb131) (o := .cells #[.int .u64 a0_0, .int .i64 a0_1, .int .i64 a0_2, .int .i64 a0_3, .slice (some ad132) l0_4.length c0_4, .slice A0_5 l0_5.length c0_5, .string a0_6] 40 (0, 0)) (by (with_reducible repeat (first | refine Zao ?_ _ | refine Zaq ?_ | refine Zan ?_ _)); exact BK131.out)) : gb133 ≠ gb131)); clear HO_3; clear BK131; clear HB; have HO_3 := n0_; have BK131 := n1_; have HB := n2_; have BK133 := n3_; have GW133 := n4_; have GE133 := n5_; have NB131_133 := n6_; have NB133_131 := n7_; clear n0_ n1_ n2_ n3_ n4_ n5_ n6_ n7_; clear hb hbox hg; have hnb9 := NB133_131.out; have hnc9 := NB131_133.out; have hcz10_0 : w8.cell? ⟨gb133, 0, none⟩ = some (.int .i64 0) := (Zaa BK133.out 0).trans rfl; have hcz10_1 : w8.cell? ⟨gb133, 1, none⟩ = some (.int .i64 0) := (Zaa BK133.out 1).trans rfl; have hcz10_2 : w8.cell? ⟨gb133, 2, none⟩ = some (.int .i64 0) := (Zaa BK133.out 2).trans rfl; have hcz10_3 : w8.cell? ⟨gb133, 3, none⟩ = some (.int .i64 0) := (Zaa BK133.out 3).trans rfl; have hfz10_0 := Zad BK133.out 0; have hfz10_1 := Zad BK133.out 1; have hfz10_2 := Zad BK133.out 2; have hfz10_3 := Zad BK133.out 3) | ((with_reducible refine Zbx (b := .append) (xs := #[.tmp 13, .tmp 16]) rfl ?_); at_builtin; refine Kd.R_append k70 (w0 := w) w.heap.size rfl (.tmp 13) (.tmp 16) 38 70 (.agg #[(.int .i64 0), (.int .i64 0)]) 16 rfl Tryz.underlying38 info70 rfl (by decide) (by omega) u3 x3_1 (⟨(rd_T92 l0_4 x9_1).f0.f0, (rd_T92 l0_4 x9_1).f0.f1⟩ : S70) [.int .i64 ((rd_T92 l0_4 x9_1).f0.f0), .int .i64 ((rd_T92 l0_4 x9_1).f0.f1)] (fun _ => True) (fun _ => False) rfl (by first | (go_simp; done) | (go_simp; rfl)) ?aP (fun _ hk => hk.elim) ?aF ?aO ?aB ?aS ?aL ?_; (case aP => exact Zc9 _ _ _ (⟨(rd_T92 l0_4 x9_1).f0.f0, (rd_T92 l0_4 x9_1).f0.f1⟩ : S70)); (case aB => exact (by repeat (first | (with_reducible first | exact HB.out | apply Zab | apply Zac | apply Zaf | refine Zaj ?_ GE131.out | refine Zaj ?_ GE133.out) | exact HB.out))); (case aF => exact (fun _ _ => trivial)); (case aO => exact (by (with_reducible repeat (first | apply Kd.R_alloc | apply Kd.R_drewN | apply Kd.R_drew)); exact Kd.R_mono (Kd.R_far (p := ⟨gb133, 3, none⟩) (Kd.R_far (p := ⟨gb133, 2, none⟩) (Kd.R_far (p := ⟨gb133, 1, none⟩) (Kd.R_far (p := ⟨gb133, 0, none⟩) (Kd.R_types HO_3.out BK133.out (by decide)) (fun _ hk => hk.2) (.int .i64 ((rd_T92 l0_4 x9_1).f0.f0))) (fun _ hk => hk.2) (.int .i64 ((rd_T92 l0_4 x9_1).f0.f1))) (fun _ hk => hk.2) (.int .i64 ((rd_T92 l0_4 x9_1).f1.f0))) (fun _ hk => hk.2) (.int .i64 ((rd_T92 l0_4 x9_1).f1.f1))) (fun _ hk => trivial))); (case aS => exact (Zai (by repeat (first | (with_reducible first | exact HB.out | apply Zab | apply Zac | apply Zaf | refine Zaj ?_ GE131.out | refine Zaj ?_ GE133.out) | exact HB.out)))); (case aL => have := LMc7.out; omega); intro v135 w11 ho hb hg hat; rw [← Ny134.out] at ho; have n0_ := Aside0.mk (Zay (g := gb131) (o := .cells #[.int .u64 a0_0, .int .i64 a0_1, .int .i64 a0_2, .int .i64 a0_3, .slice (some ad132) l0_4.length c0_4, .slice A0_5 l0_5.length c0_5, .string a0_6] 40 (0, 0)) (by (with_reducible repeat (first | refine Zao ?_ _ | refine Zaq ?_ | refine Zan ?_ _)); refine Zbc ?_ NB131_133.out _; (with_reducible repeat (first | refine Zao ?_ _ | refine Zaq ?_ | refine Zan ?_ _)); refine Zbc ?_ NB131_133.out _; (with_reducible repeat (first | refine Zao ?_ _ | refine Zaq ?_ | refine Zan ?_ _)); refine Zbc ?_ NB131_133.out _; (with_reducible repeat (first | refine Zao ?_ _ | refine Zaq ?_ | refine Zan ?_ _)); refine Zbc ?_ NB131_133.out _; (with_reducible repeat (first | refine Zao ?_ _ | refine Zaq ?_ | refine Zan ?_ _)); exact BK131.out) hg (Kd.R_ne HO_3.out BK131.out (by decide))); have n1_ := Aside0.mk (Zay (g := gb133) (o := .cells #[.int .i64 ((rd_T92 l0_4 x9_1).f0.f0), .int .i64 ((rd_T92 l0_4 x9_1).f0.f1), .int .i64 ((rd_T92 l0_4 x9_1).f1.f0), .int .i64 ((rd_T92 l0_4 x9_1).f1.f1)] 92 (0, 0)) (by (with_reducible repeat (first | refine Zao ?_ _ | refine Zaq ?_ | refine Zan ?_ _)); refine ZaU (cs := #[.int .i64 ((rd_T92 l0_4 x9_1).f0.f0), .int .i64 ((rd_T92 l0_4 x9_1).f0.f1), .int .i64 ((rd_T92 l0_4 x9_1).f1.f0), .int .i64 0]) ?_ 3 _ rfl; (with_reducible repeat (first | refine Zao ?_ _ | refine Zaq ?_ | refine Zan ?_ _)); refine ZaU (cs := #[.int .i64 ((rd_T92 l0_4 x9_1).f0.f0), .int .i64 ((rd_T92 l0_4 x9_1).f0.f1), .int .i64 0, .int .i64 0]) ?_ 2 _ rfl; (with_reducible repeat (first | refine Zao ?_ _ | refine Zaq ?_ | refine Zan ?_ _)); refine ZaU (cs := #[.int .i64 ((rd_T92 l0_4 x9_1).f0.f0), .int .i64 0, .int .i64 0, .int .i64 0]) ?_ 1 _ rfl; (with_reducible repeat (first | refine Zao ?_ _ | refine Zaq ?_ | refine Zan ?_ _)); refine ZaU (cs := #[.int .i64 0, .int .i64 0, .int .i64 0, .int .i64 0]) ?_ 0 _ rfl; (with_reducible repeat (first | refine Zao ?_ _ | refine Zaq ?_ | refine Zan ?_ _)); exact BK133.out) hg (Kd.R_ne HO_3.out BK133.out (by decide))); have n2_ := Aside0.mk (hb); have n3_ := Aside0.mk (ho); clear BK131; clear BK133; clear HB; clear HO_3; have BK131 := n0_; have BK133 := n1_; have HB := n2_; have HO136 := n3_; clear n0_ n1_ n2_ n3_; clear ho hb hg hat))
       go_roundg k1
       case measure => have := HK1.out; omega
       case rel => exact ⟨(y134), (wrap64 (x9_1 + 1)), (by first | rfl | (simp; done) | (simp [*]; done)), H', ⟨by have := HK1.out; omega⟩, ⟨by (with_reducible repeat (first | apply Kd.R_alloc | apply Kd.R_drewN | apply Kd.R_drew)); exact HO136.out⟩, ⟨by (with_reducible repeat (first | refine Zao ?_ _ | refine Zaq ?_ | refine Zan ?_ _)); exact BK131.out⟩, ⟨by repeat (first | (with_reducible first | exact HB.out | apply Zab | apply Zac | apply Zaf | refine Zaj ?_ GE131.out | refine Zaj ?_ GE133.out) | exact HB.out)⟩⟩
      ·rw [if_neg c7] at H
       exact absurd H (by simp)
     ·rw [if_neg c6] at H
      exact absurd H (by simp)
    ·rw [if_neg c5] at H
     exact absurd H (by simp)
   ·rw [if_neg c4] at H
    have c4b0 : decide (x9_1 < (l0_4.length : Int)) = false := decide_eq_false c4
    clear c4
    obtain rfl := Option.some.inj H
    go_wp2
    go_ret
    exact ⟨_, by first | rfl | (simp [Zal, Zak] <;> rfl) | (simp [*, Zal, Zak] <;> rfl), by (with_reducible repeat (first | apply Kd.R_alloc | apply Kd.R_drewN | apply Kd.R_drew)); exact HO_3.out, by repeat (first | (with_reducible first | exact HB.out | apply Zab | apply Zac | apply Zaf | refine Zaj ?_ GE131.out) | exact HB.out)⟩
end Go.Proofs.YtpfnaknmalojkaaGreat.PTopRows
namespace Go.Proofs.YtpfnaknmalojkaaGreat.PTopRows
open Go.RowKit Go.Proofs.YtpfnaknmalojkaaGreatW.PrintWords Go.Proofs.YtpfnaknmalojkaaGreatW.PrintLast Go.Proofs.YtpfnaknmalojkaaGreatW.PrintMore
attribute [local go_sem] Za5 Za4 Zbp Zbo Za7 Za6 Zbl Zbk   -- for this text's walks alone
set_option linter.unusedVariables false
set_option linter.unusedSimpArgs false
def ZaP.l0 : Nat → List (S86) → Int → List (S92) → Int → Int → Int → Int → Int → Int → List (S92) → List (S70) → ByteArray → Option ((List (S86)))
 | 0, _, _, _, _, _, _, _, _, _, _, _, _ => none
 | k + 1, x3, x4, x8, x9, x10, x189000, x189001, x189002, x189003, x189004, x189005, x189006 => if x10 < x9 then (if 0 ≤ x10 then (if x10 < (x8.length : Int) then (if x3.length < 4398046511104 then (ZaP.l0 k (x3 ++ [(⟨(⟨(rd_T92 x8 x10).f0.f0, (rd_T92 x8 x10).f0.f1⟩ : S70), (⟨x189002, x4⟩ : S84)⟩ : S86)]) (wrap64 (x4 + ((rd_T92 x8 x10).f0.f1))) x8 x9 (wrap64 (x10 + 1)) x189000 x189001 x189002 x189003 x189004 x189005 x189006) else (none)) else (none)) else (none)) else (some x3)
def ZaP.f (k : Nat) (a0_0 : Int) (a0_1 : Int) (a0_2 : Int) (a0_3 : Int) (l0_4 : List (S92)) (l0_5 : List (S70)) (a0_6 : ByteArray) : Option ((List (S86))) := ZaP.l0 k ([] : List (S86)) 0 l0_4 (l0_4.length : Int) 0 a0_0 a0_1 a0_2 a0_3 l0_4 l0_5 a0_6
set_option maxHeartbeats 8000000 in
set_option maxRecDepth 100000 in
theorem ZaP.calls (k : Nat) (a0_0 : Int) (a0_1 : Int) (a0_2 : Int) (a0_3 : Int) (A0_4 : Option Addr) (c0_4 : Nat) (l0_4 : List (S92)) (A0_5 : Option Addr) (c0_5 : Nat) (l0_5 : List (S70)) (a0_6 : ByteArray) (r : List (S86)) (w : World) (hr0_4 : Kd.C k92 w A0_4 l0_4.length l0_4) (hc0_4 : l0_4.length ≤ c0_4) (hr0_5 : Kd.C k70 w A0_5 l0_5.length l0_5) (hc0_5 : l0_5.length ≤ c0_5) (h : ZaP.f k a0_0 a0_1 a0_2 a0_3 l0_4 l0_5 a0_6 = some r) :
  Calls Tryz.prog 31 #[.agg #[.int .u64 a0_0, .int .i64 a0_1, .int .i64 a0_2, .int .i64 a0_3, .slice A0_4 l0_4.length c0_4, .slice A0_5 l0_5.length c0_5, .string a0_6]] w fun e w' => ∃ v0_ : Value, e = .returned (v0_) ∧ Kd.R k86 86 w' w.heap.size (fun _ => True) v0_ r ∧ Below w.heap.size w w' := by
 have hu40 := Tryz.underlying40
 have hu92 := Tryz.underlying92
 have hu70 := Tryz.underlying70
 have hu84 := Tryz.underlying84
 have hu86 := Tryz.underlying86
 have HR0_4 := Aside0.mk hr0_4
 have HC0_4 := Aside0.mk hc0_4
 clear hr0_4 hc0_4
 have HR0_5 := Aside0.mk hr0_5
 have HC0_5 := Aside0.mk hc0_5
 clear hr0_5 hc0_5
 have HB := Aside0.mk (Below.refl w.heap.size w)
 have H : (ZaP.l0 k ([] : List (S86)) 0 l0_4 (l0_4.length : Int) 0 a0_0 a0_1 a0_2 a0_3 l0_4 l0_5 a0_6) = some r := h
 clear h
 have H' := Aside0.mk H
 clear H
 go_enter Tryz.func31, Tryz.ntmps31
 go_wp2_with (first | ((with_reducible refine Zaw (N := 1) rfl ?_); refine Zau ?hg (N := 1) ?hd (cs := #[.int .u64 a0_0, .int .i64 a0_1, .int .i64 a0_2, .int .i64 a0_3, .slice A0_4 l0_4.length c0_4, .slice A0_5 l0_5.length c0_5, .string a0_6]) (t := 40) ?hr ?_; (case hd => rfl); (case hg => rfl); (case hr => first | (go_simp; done) | (go_simp; rfl)); intro gb188 hg w2 hbox hb; have n0_ := Aside0.mk (Zae (by repeat (first | (with_reducible first | exact HB.out | apply Zab | apply Zac | apply Zaf) | exact HB.out)) hb); have n1_ := Aside0.mk (hbox); have n2_ := Aside0.mk ((by rw [hg]; exact (Zai (by repeat (first | (with_reducible first | exact HB.out | apply Zab | apply Zac | apply Zaf) | exact HB.out))) : w.heap.size ≤ gb188)); have n3_ := Aside0.mk ((by rw [hg]; exact (Zai (by repeat (first | (with_reducible first | exact HB.out | apply Zab | apply Zac | apply Zaf) | exact HB.out))) : w.heap.size ≤ gb188)); clear HB; have HB := n0_; have BK188 := n1_; have GW188 := n2_; have GE188 := n3_; clear n0_ n1_ n2_ n3_; clear hb hbox hg; have hcz3_0 : w2.cell? ⟨gb188, 0, none⟩ = some (.int .u64 a0_0) := (Zaa BK188.out 0).trans rfl; have hcz3_1 : w2.cell? ⟨gb188, 1, none⟩ = some (.int .i64 a0_1) := (Zaa BK188.out 1).trans rfl; have hcz3_2 : w2.cell? ⟨gb188, 2, none⟩ = some (.int .i64 a0_2) := (Zaa BK188.out 2).trans rfl; have hcz3_3 : w2.cell? ⟨gb188, 3, none⟩ = some (.int .i64 a0_3) := (Zaa BK188.out 3).trans rfl; have hcz3_4 : w2.cell? ⟨gb188, 4, none⟩ = some (.slice A0_4 l0_4.length c0_4) := (Zaa BK188.out 4).trans rfl; have hcz3_5 : w2.cell? ⟨gb188, 5, none⟩ = some (.slice A0_5 l0_5.length c0_5) := (Zaa BK188.out 5).trans rfl; have hcz3_6 : w2.cell? ⟨gb188, 6, none⟩ = some (.string a0_6) := (Zaa BK188.out 6).trans rfl; have hfz3_0 := Zad BK188.out 0; have hfz3_1 := Zad BK188.out 1; have hfz3_2 := Zad BK188.out 2; have hfz3_3 := Zad BK188.out 3; have hfz3_4 := Zad BK188.out 4; have hfz3_5 := Zad BK188.out 5; have hfz3_6 := Zad BK188.out 6))
 go_loopg [3, 4, 10] k (fun kq v3 v4 v10 w' => ∃ (x3_1 : List (S86)) (x4_1 : Int) (x10_1 : Int), v4 = .int .i64 x4_1 ∧ v10 = .int .i64 x10_1 ∧ Aside0 (ZaP.l0 kq x3_1 x4_1 l0_4 (l0_4.length : Int) x10_1 a0_0 a0_1 a0_2 a0_3 l0_4 l0_5 a0_6 = some r) ∧ Aside0 (kq ≤ k) ∧ Aside0 (Kd.R k86 86 w' w.heap.size (fun _ => True) v3 x3_1) ∧ Aside0 (w'.heap[gb188]? = some (.cells #[.int .u64 a0_0, .int .i64 a0_1, .int .i64 a0_2, .int .i64 a0_3, (.slice A0_4 l0_4.length c0_4), (.slice A0_5 l0_5.length c0_5), .string a0_6] 40 (0, 0))) ∧ Aside0 (Below w.heap.size w w'))
 case atStart => exact ⟨(([] : List (S86))), (0), (0), (by first | rfl | (simp; done) | (simp [*]; done)), (by first | rfl | (simp; done) | (simp [*]; done)), H', ⟨Nat.le_refl _⟩, ⟨by first | exact Kd.R_nil _ _ _ _ _ | exact Kd.N_nil _ _ _ _ _ | exact Kd.V_nil _ _ _ _ _ | exact Kd.Q_nil _ _ _ _ _ | exact Kd.S_nil _ _ _ _ _⟩, ⟨by (with_reducible repeat (first | refine Zao ?_ _ | refine Zaq ?_ | refine Zan ?_ _)); exact BK188.out⟩, ⟨by repeat (first | (with_reducible first | exact HB.out | apply Zab | apply Zac | apply Zaf | refine Zaj ?_ GE188.out) | exact HB.out)⟩⟩
 case round =>
  clear H'
  try clear p2
  try clear c3
  try clear hcz3_0
  try clear hcz3_1
  try clear hcz3_2
  try clear hcz3_3
  try clear hcz3_4
  try clear hcz3_5
  try clear hcz3_6
  try clear hfz3_0
  try clear hfz3_1
  try clear hfz3_2
  try clear hfz3_3
  try clear hfz3_4
  try clear hfz3_5
  try clear hfz3_6
  obtain ⟨x3_1, x4_1, x10_1, rfl, rfl, HA, HK1, HO_3, BK188, HB⟩ := hrel
  cases gk with
  | zero => exact absurd HA.out (by simp [ZaP.l0])
  | succ k1 =>
   have H := HA.out
   clear HA
   simp only [ZaP.l0] at H
   by_cases c4 : x10_1 < (l0_4.length : Int)
   ·rw [if_pos c4] at H
    have c4b0 : decide (x10_1 < (l0_4.length : Int)) = true := decide_eq_true c4
    clear c4
    by_cases c5 : 0 ≤ x10_1
    ·rw [if_pos c5] at H
     have c5b0 : decide (0 ≤ x10_1) = true := decide_eq_true c5
     clear c5
     by_cases c6 : x10_1 < (l0_4.length : Int)
     ·rw [if_pos c6] at H
      have c6b0 : decide (x10_1 < (l0_4.length : Int)) = true := decide_eq_true c6
      clear c6
      by_cases c7 : x3_1.length < 4398046511104
      ·rw [if_pos c7] at H
       have LMc7 := Aside0.mk c7
       clear c7
       obtain ⟨y191, hy191⟩ : ∃ y_ : List (S86), y_ = (x3_1 ++ [(⟨(⟨(rd_T92 l0_4 x10_1).f0.f0, (rd_T92 l0_4 x10_1).f0.f1⟩ : S70), (⟨a0_2, x4_1⟩ : S84)⟩ : S86)]) := ⟨_, rfl⟩
       replace H : (ZaP.l0 k1 y191 (wrap64 (x4_1 + ((rd_T92 l0_4 x10_1).f0.f1))) l0_4 (l0_4.length : Int) (wrap64 (x10_1 + 1)) a0_0 a0_1 a0_2 a0_3 l0_4 l0_5 a0_6) = some r := by first | (rw [hy191]; with_reducible exact H) | (have H2_ := (Option.bind_some _ _).symm.trans H; rw [hy191]; with_reducible exact H2_) | (have H2_ := (Option.bind_some _ _).symm.trans H; with_reducible exact H2_) | with_reducible exact H | (rw [hy191]; exact H) | exact H
       have Ny191 := Aside0.mk hy191
       clear hy191
       have H' := Aside0.mk H
       clear H
       have p189 : 0 ≤ (x10_1 : Int) := of_decide_eq_true (by first | (with_reducible assumption) | assumption)
       have q189 : x10_1 < (l0_4.length : Int) := of_decide_eq_true (by first | (with_reducible assumption) | assumption)
       obtain ⟨ad189, e189, hx189_0, hx189_1, hx189_2, hx189_3⟩ := at_T92 HR0_4.out x10_1 p189 q189
       cases e189
       replace hx189_0 := (HB.out.cell (World.block_lt_of_cell? w _ hx189_0)).trans hx189_0
       replace hx189_1 := (HB.out.cell (World.block_lt_of_cell? w _ hx189_1)).trans hx189_1
       replace hx189_2 := (HB.out.cell (World.block_lt_of_cell? w _ hx189_2)).trans hx189_2
       replace hx189_3 := (HB.out.cell (World.block_lt_of_cell? w _ hx189_3)).trans hx189_3
       replace p189 := eq_true p189
       replace q189 := eq_true q189
       go_wp2_with (first | ((with_reducible refine Zaw (N := 6) rfl ?_); refine Zau ?hg (N := 6) ?hd (cs := #[.int .i64 0, .int .i64 0, .int .i64 0, .int .i64 0]) (t := 92) ?hr ?_; (case hd => rfl); (case hg => rfl); (case hr => first | (go_simp; done) | (go_simp; rfl)); intro gb190 hg w8 hbox hb; have n0_ := Aside0.mk (Kd.R_below (by (with_reducible repeat (first | apply Kd.R_alloc | apply Kd.R_drewN | apply Kd.R_drew)); exact HO_3.out) hb); have n1_ := Aside0.mk (Zag (g := gb188) (o := .cells #[.int .u64 a0_0, .int .i64 a0_1, .int .i64 a0_2, .int .i64 a0_3, .slice (some ad189) l0_4.length c0_4, .slice A0_5 l0_5.length c0_5, .string a0_6] 40 (0, 0)) (by (with_reducible repeat (first | refine Zao ?_ _ | refine Zaq ?_ | refine Zan ?_ _)); exact BK188.out) hb); have n2_ := Aside0.mk (Zae (by repeat (first | (with_reducible first | exact HB.out | apply Zab | apply Zac | apply Zaf | refine Zaj ?_ GE188.out) | exact HB.out)) hb); have n3_ := Aside0.mk (hbox); have n4_ := Aside0.mk ((by rw [hg]; exact (Zai (by repeat (first | (with_reducible first | exact HB.out | apply Zab | apply Zac | apply Zaf | refine Zaj ?_ GE188.out) | exact HB.out))) : w.heap.size ≤ gb190)); have n5_ := Aside0.mk ((by rw [hg]; exact (Zai (by repeat (first | (with_reducible first | exact HB.out | apply Zab | apply Zac | apply Zaf | refine Zaj ?_ GE188.out) | exact HB.out))) : w.heap.size ≤ gb190)); have n6_ := Aside0.mk ((by rw [hg]; exact Nat.ne_of_lt (blk_lt (g := gb188) (o := .cells #[.int .u64 a0_0, .int .i64 a0_1, .int .i64 a0_2, .int .i64 a0_3, .slice (some ad189) l0_4.length c0_4, .slice A0_5 l0_5.length c0_5, .string a0_6] 40 (0, 0)) (by (with_reducible repeat (first | refine Zao ?_ _ | refine Zaq ?_ | refine Zan ?_ _)); exact BK188.out)) : gb188 ≠ gb190)); have n7_ := Aside0.mk ((by rw [hg]; exact Nat.ne_of_gt (blk_lt (g := gb188) (o := .cells #[.int .u64 a0_0, .int .i64 a0_1, .int .i64 a0_2, .int .i64 a0_3, .slice (some ad189) l0_4.length c0_4, .slice A0_5 l0_5.length c0_5, .string a0_6] 40 (0, 0)) (by (with_reducible repeat (first | refine Zao ?_ _ | refine Zaq ?_ | refine Zan ?_ _)); exact BK188.out)) : gb190 ≠ gb188)); clear HO_3; clear BK188; clear HB; have HO_3 := n0_; have BK188 := n1_; have HB := n2_; have BK190 := n3_; have GW190 := n4_; have GE190 := n5_; have NB188_190 := n6_; have NB190_188 := n7_; clear n0_ n1_ n2_ n3_ n4_ n5_ n6_ n7_; clear hb hbox hg; have hnb9 := NB190_188.out; have hnc9 := NB188_190.out; have hcz10_0 : w8.cell? ⟨gb190, 0, none⟩ = some (.int .i64 0) := (Zaa BK190.out 0).trans rfl; have hcz10_1 : w8.cell? ⟨gb190, 1, none⟩ = some (.int .i64 0) := (Zaa BK190.out 1).trans rfl; have hcz10_2 : w8.cell? ⟨gb190, 2, none⟩ = some (.int .i64 0) := (Zaa BK190.out 2).trans rfl; have hcz10_3 : w8.cell? ⟨gb190, 3, none⟩ = some (.int .i64 0) := (Zaa BK190.out 3).trans rfl; have hfz10_0 := Zad BK190.out 0; have hfz10_1 := Zad BK190.out 1; have hfz10_2 := Zad BK190.out 2; have hfz10_3 := Zad BK190.out 3; have hcz11_0 : w8.cell? ⟨gb188, 0, none⟩ = some (.int .u64 a0_0) := (Zaa BK188.out 0).trans rfl; have hcz11_1 : w8.cell? ⟨gb188, 1, none⟩ = some (.int .i64 a0_1) := (Zaa BK188.out 1).trans rfl; have hcz11_2 : w8.cell? ⟨gb188, 2, none⟩ = some (.int .i64 a0_2) := (Zaa BK188.out 2).trans rfl; have hcz11_3 : w8.cell? ⟨gb188, 3, none⟩ = some (.int .i64 a0_3) := (Zaa BK188.out 3).trans rfl; have hcz11_4 : w8.cell? ⟨gb188, 4, none⟩ = some (.slice (some ad189) l0_4.length c0_4) := (Zaa BK188.out 4).trans rfl; have hcz11_5 : w8.cell? ⟨gb188, 5, none⟩ = some (.slice A0_5 l0_5.length c0_5) := (Zaa BK188.out 5).trans rfl; have hcz11_6 : w8.cell? ⟨gb188, 6, none⟩ = some (.string a0_6) := (Zaa BK188.out 6).trans rfl; have hfz11_0 := Zad BK188.out 0; have hfz11_1 := Zad BK188.out 1; have hfz11_2 := Zad BK188.out 2; have hfz11_3 := Zad BK188.out 3; have hfz11_4 := Zad BK188.out 4; have hfz11_5 := Zad BK188.out 5; have hfz11_6 := Zad BK188.out 6) | ((with_reducible refine Zbx (b := .append) (xs := #[.tmp 14, .tmp 22]) rfl ?_); at_builtin; refine Kd.R_append k86 (w0 := w) w.heap.size rfl (.tmp 14) (.tmp 22) 31 86 (.agg #[(.int .i64 0), (.int .i64 0), (.int .i64 0), (.int .i64 0)]) 32 rfl Tryz.underlying31 info86 rfl (by decide) (by omega) u3 x3_1 (⟨(⟨(rd_T92 l0_4 x10_1).f0.f0, (rd_T92 l0_4 x10_1).f0.f1⟩ : S70), (⟨a0_2, x4_1⟩ : S84)⟩ : S86) [.int .i64 ((rd_T92 l0_4 x10_1).f0.f0), .int .i64 ((rd_T92 l0_4 x10_1).f0.f1), .int .i64 a0_2, .int .i64 x4_1] (fun _ => True) (fun _ => False) rfl (by first | (go_simp; done) | (go_simp; rfl)) ?aP (fun _ hk => hk.elim) ?aF ?aO ?aB ?aS ?aL ?_; (case aP => exact Zc8 _ _ _ (⟨(⟨(rd_T92 l0_4 x10_1).f0.f0, (rd_T92 l0_4 x10_1).f0.f1⟩ : S70), (⟨a0_2, x4_1⟩ : S84)⟩ : S86)); (case aB => exact (by repeat (first | (with_reducible first | exact HB.out | apply Zab | apply Zac | apply Zaf | refine Zaj ?_ GE188.out | refine Zaj ?_ GE190.out) | exact HB.out))); (case aF => exact (fun _ _ => trivial)); (case aO => exact (by (with_reducible repeat (first | apply Kd.R_alloc | apply Kd.R_drewN | apply Kd.R_drew)); exact Kd.R_mono (Kd.R_far (p := ⟨gb190, 3, none⟩) (Kd.R_far (p := ⟨gb190, 2, none⟩) (Kd.R_far (p := ⟨gb190, 1, none⟩) (Kd.R_far (p := ⟨gb190, 0, none⟩) (Kd.R_types HO_3.out BK190.out (by decide)) (fun _ hk => hk.2) (.int .i64 ((rd_T92 l0_4 x10_1).f0.f0))) (fun _ hk => hk.2) (.int .i64 ((rd_T92 l0_4 x10_1).f0.f1))) (fun _ hk => hk.2) (.int .i64 ((rd_T92 l0_4 x10_1).f1.f0))) (fun _ hk => hk.2) (.int .i64 ((rd_T92 l0_4 x10_1).f1.f1))) (fun _ hk => trivial))); (case aS => exact (Zai (by repeat (first | (with_reducible first | exact HB.out | apply Zab | apply Zac | apply Zaf | refine Zaj ?_ GE188.out | refine Zaj ?_ GE190.out) | exact HB.out)))); (case aL => have := LMc7.out; omega); intro v192 w12 ho hb hg hat; rw [← Ny191.out] at ho; have n0_ := Aside0.mk (Zay (g := gb188) (o := .cells #[.int .u64 a0_0, .int .i64 a0_1, .int .i64 a0_2, .int .i64 a0_3, .slice (some ad189) l0_4.length c0_4, .slice A0_5 l0_5.length c0_5, .string a0_6] 40 (0, 0)) (by (with_reducible repeat (first | refine Zao ?_ _ | refine Zaq ?_ | refine Zan ?_ _)); refine Zbc ?_ NB188_190.out _; (with_reducible repeat (first | refine Zao ?_ _ | refine Zaq ?_ | refine Zan ?_ _)); refine Zbc ?_ NB188_190.out _; (with_reducible repeat (first | refine Zao ?_ _ | refine Zaq ?_ | refine Zan ?_ _)); refine Zbc ?_ NB188_190.out _; (with_reducible repeat (first | refine Zao ?_ _ | refine Zaq ?_ | refine Zan ?_ _)); refine Zbc ?_ NB188_190.out _; (with_reducible repeat (first | refine Zao ?_ _ | refine Zaq ?_ | refine Zan ?_ _)); exact BK188.out) hg (Kd.R_ne HO_3.out BK188.out (by decide))); have n1_ := Aside0.mk (Zay (g := gb190) (o := .cells #[.int .i64 ((rd_T92 l0_4 x10_1).f0.f0), .int .i64 ((rd_T92 l0_4 x10_1).f0.f1), .int .i64 ((rd_T92 l0_4 x10_1).f1.f0), .int .i64 ((rd_T92 l0_4 x10_1).f1.f1)] 92 (0, 0)) (by (with_reducible repeat (first | refine Zao ?_ _ | refine Zaq ?_ | refine Zan ?_ _)); refine ZaU (cs := #[.int .i64 ((rd_T92 l0_4 x10_1).f0.f0), .int .i64 ((rd_T92 l0_4 x10_1).f0.f1), .int .i64 ((rd_T92 l0_4 x10_1).f1.f0), .int .i64 0]) ?_ 3 _ rfl; (with_reducible repeat (first | refine Zao ?_ _ | refine Zaq ?_ | refine Zan ?_ _)); refine ZaU (cs := #[.int .i64 ((rd_T92 l0_4 x10_1).f0.f0), .int .i64 ((rd_T92 l0_4 x10_1).f0.f1), .int .i64 0, .int .i64 0]) ?_ 2 _ rfl; (with_reducible repeat (first | refine Zao ?_ _ | refine Zaq ?_ | refine Zan ?_ _)); refine ZaU (cs := #[.int .i64 ((rd_T92 l0_4 x10_1).f0.f0), .int .i64 0, .int .i64 0, .int .i64 0]) ?_ 1 _ rfl; (with_reducible repeat (first | refine Zao ?_ _ | refine Zaq ?_ | refine Zan ?_ _)); refine ZaU (cs := #[.int .i64 0, .int .i64 0, .int .i64 0, .int .i64 0]) ?_ 0 _ rfl; (with_reducible repeat (first | refine Zao ?_ _ | refine Zaq ?_ | refine Zan ?_ _)); exact BK190.out) hg (Kd.R_ne HO_3.out BK190.out (by decide))); have n2_ := Aside0.mk (hb); have n3_ := Aside0.mk (ho); clear BK188; clear BK190; clear HB; clear HO_3; have BK188 := n0_; have BK190 := n1_; have HB := n2_; have HO193 := n3_; clear n0_ n1_ n2_ n3_; clear ho hb hg hat; have hcz13_0 : w12.cell? ⟨gb190, 0, none⟩ = some (.int .i64 ((rd_T92 l0_4 x10_1).f0.f0)) := (Zaa BK190.out 0).trans rfl; have hcz13_1 : w12.cell? ⟨gb190, 1, none⟩ = some (.int .i64 ((rd_T92 l0_4 x10_1).f0.f1)) := (Zaa BK190.out 1).trans rfl; have hcz13_2 : w12.cell? ⟨gb190, 2, none⟩ = some (.int .i64 ((rd_T92 l0_4 x10_1).f1.f0)) := (Zaa BK190.out 2).trans rfl; have hcz13_3 : w12.cell? ⟨gb190, 3, none⟩ = some (.int .i64 ((rd_T92 l0_4 x10_1).f1.f1)) := (Zaa BK190.out 3).trans rfl; have hfz13_0 := Zad BK190.out 0; have hfz13_1 := Zad BK190.out 1; have hfz13_2 := Zad BK190.out 2; have hfz13_3 := Zad BK190.out 3))
       go_roundg k1
       case measure => have := HK1.out; omega
       case rel => exact ⟨(y191), (wrap64 (x4_1 + ((rd_T92 l0_4 x10_1).f0.f1))), (wrap64 (x10_1 + 1)), (by first | rfl | (simp; done) | (simp [*]; done)), (by first | rfl | (simp; done) | (simp [*]; done)), H', ⟨by have := HK1.out; omega⟩, ⟨by (with_reducible repeat (first | apply Kd.R_alloc | apply Kd.R_drewN | apply Kd.R_drew)); exact HO193.out⟩, ⟨by (with_reducible repeat (first | refine Zao ?_ _ | refine Zaq ?_ | refine Zan ?_ _)); exact BK188.out⟩, ⟨by repeat (first | (with_reducible first | exact HB.out | apply Zab | apply Zac | apply Zaf | refine Zaj ?_ GE188.out | refine Zaj ?_ GE190.out) | exact HB.out)⟩⟩
      ·rw [if_neg c7] at H
       exact absurd H (by simp)
     ·rw [if_neg c6] at H
      exact absurd H (by simp)
    ·rw [if_neg c5] at H
     exact absurd H (by simp)
   ·rw [if_neg c4] at H
    have c4b0 : decide (x10_1 < (l0_4.length : Int)) = false := decide_eq_false c4
    clear c4
    obtain rfl := Option.some.inj H
    go_wp2
    go_ret
    exact ⟨_, by first | rfl | (simp [Zal, Zak] <;> rfl) | (simp [*, Zal, Zak] <;> rfl), by (with_reducible repeat (first | apply Kd.R_alloc | apply Kd.R_drewN | apply Kd.R_drew)); exact HO_3.out, by repeat (first | (with_reducible first | exact HB.out | apply Zab | apply Zac | apply Zaf | refine Zaj ?_ GE188.out) | exact HB.out)⟩
end Go.Proofs.YtpfnaknmalojkaaGreat.PTopRows
namespace Go.Proofs.YtpfnaknmalojkaaGreat.PTopRows
open Go.RowKit Go.Maps Go.Sort Go.Proofs.YtpfnaknmalojkaaGreatW.PrintWords Go.Proofs.YtpfnaknmalojkaaGreatW.PrintLast Go.Proofs.YtpfnaknmalojkaaGreatW.PrintMore
set_option linter.unusedVariables false
set_option linter.unusedSimpArgs false
theorem rd_part0 {P : List S70} {i : Nat} (h : i < P.length) : rd_T92 (P.map part0) (i : Int) = part0 P[i] := by
 rw [rd92_get (by rw [List.length_map]; exact h), List.getElem_map]
theorem ZcQ {P : List S70} {i : Nat} (h : i < P.length) : totS (P.drop i) = P[i].f1 + totS (P.drop (i + 1)) := by
 rw [List.drop_eq_getElem_cons h]
 rfl
theorem sectors_l0 (P : List S70) (hm : ∀ x ∈ P, MayS x) (hl : P.length ≤ 1000) : ∀ (d k i : Nat) (acc : Int), i + d = P.length → d < k → 0 ≤ acc ∧ acc ≤ 65536 * (i : Int) → ZaO.l0 k acc (P.map part0) ((P.map part0).length : Int) (i : Int) = some (acc + totS (P.drop i))
 | 0, k, i, acc, h, hk, hb => by
  obtain ⟨q, rfl⟩ : ∃ q, k = q + 1 := ⟨k - 1, by omega⟩
  unfold ZaO.l0
  rw [if_neg (by rw [List.length_map]; omega), List.drop_of_length_le (by omega)]
  show _ = some (acc + 0)
  rw [Int.add_zero]
 | d + 1, k, i, acc, h, hk, hb => by
  obtain ⟨q, rfl⟩ : ∃ q, k = q + 1 := ⟨k - 1, by omega⟩
  have hi : i < P.length := by omega
  have hx := hm P[i] (List.getElem_mem hi)
  have hxs : 1 ≤ P[i].f1 ∧ P[i].f1 ≤ 65536 := ⟨hx.2.1, by have := hx.1; have := hx.2.2; omega⟩
  unfold ZaO.l0
  rw [if_pos (by rw [List.length_map]; omega), if_pos (by omega), if_pos (by rw [List.length_map]; omega), rd_part0 hi, ZaH (i + 1) (by omega)]
  show ZaO.l0 q (wrap64 (acc + P[i].f1)) _ _ _ = _
  rw [ZaH (acc + P[i].f1) (by omega)]
  have := sectors_l0 P hm hl d q (i + 1) (acc + P[i].f1) (by omega) (by omega) (by omega)
  rw [ZcQ hi, ← Int.add_assoc]
  exact this
theorem Ob.sectors (o : Ob) (w : World) (hr : o.Reads w) (ho : o.Ok) : Calls Tryz.prog 12 #[o.val] w fun e w' => e = .returned (.int .i64 (totS o.P)) ∧ Below w.heap.size w w' :=
 ZaO.calls 1100 o.key o.epoch o.seq o.upto o.pa o.pc (o.P.map part0) o.ca o.cc o.C o.data (totS o.P) w hr.p hr.pl hr.c hr.cl (by
  have h := sectors_l0 o.P ho.obj.p.may (by have := ho.obj.lens; omega) o.P.length 1100 0 0 (by omega) (by have := ho.obj.lens; omega) (by omega)
  rw [List.drop_zero, Int.zero_add] at h
  exact h)
theorem spans_l0 (P : List S70) (hl : P.length ≤ 1000) : ∀ (d k i : Nat) (acc : List S70), i + d = P.length → d < k → acc.length ≤ i → ZaE.l0 k acc (P.map part0) ((P.map part0).length : Int) (i : Int) = some (acc ++ P.drop i)
 | 0, k, i, acc, h, hk, hb => by
  obtain ⟨q, rfl⟩ : ∃ q, k = q + 1 := ⟨k - 1, by omega⟩
  unfold ZaE.l0
  rw [if_neg (by rw [List.length_map]; omega), List.drop_of_length_le (by omega), List.append_nil]
 | d + 1, k, i, acc, h, hk, hb => by
  obtain ⟨q, rfl⟩ : ∃ q, k = q + 1 := ⟨k - 1, by omega⟩
  have hi : i < P.length := by omega
  unfold ZaE.l0
  rw [if_pos (by rw [List.length_map]; omega), if_pos (by omega), if_pos (by rw [List.length_map]; omega), if_pos (by omega), rd_part0 hi, ZaH (i + 1) (by omega)]
  have := spans_l0 P hl d q (i + 1) (acc ++ [P[i]]) (by omega) (by omega) (by simp; omega)
  rw [List.drop_eq_getElem_cons hi]
  rw [List.append_assoc] at this
  exact this
theorem Ob.spans (o : Ob) (w : World) (hr : o.Reads w) (ho : o.Ok) : Calls Tryz.prog 110 #[o.val] w fun e w' => ∃ v, e = .returned v ∧ k70.R 70 w' w.heap.size (fun _ => True) v o.P ∧ Below w.heap.size w w' :=
 ZaE.calls 1100 o.key o.epoch o.seq o.upto o.pa o.pc (o.P.map part0) o.ca o.cc o.C o.data o.P w hr.p hr.pl hr.c hr.cl (by
  have h := spans_l0 o.P (by have := ho.obj.lens; omega) o.P.length 1100 0 [] (by omega) (by have := ho.obj.lens; omega) (by simp)
  rw [List.drop_zero, List.nil_append] at h
  exact h)
theorem extents_l0 (P : List S70) (hm : ∀ x ∈ P, MayS x) (hl : P.length ≤ 1000) (a0 a1 q a3 : Int) (L : List S92) (M : List S70) (s : ByteArray) : ∀ (d k i : Nat) (acc : List S86) (at_ : Int), i + d = P.length → d < k → acc.length ≤ i → 0 ≤ at_ ∧ at_ ≤ 65536 * (i : Int) →
  ZaP.l0 k acc at_ (P.map part0) ((P.map part0).length : Int) (i : Int) a0 a1 q a3 L M s = some (acc ++ extS q at_ (P.drop i))
 | 0, k, i, acc, at_, h, hk, hb, hat => by
  obtain ⟨q, rfl⟩ : ∃ q, k = q + 1 := ⟨k - 1, by omega⟩
  unfold ZaP.l0
  rw [if_neg (by rw [List.length_map]; omega), List.drop_of_length_le (by omega)]
  show _ = some (acc ++ [])
  rw [List.append_nil]
 | d + 1, k, i, acc, at_, h, hk, hb, hat => by
  obtain ⟨r, rfl⟩ : ∃ q, k = q + 1 := ⟨k - 1, by omega⟩
  have hi : i < P.length := by omega
  have hx := hm P[i] (List.getElem_mem hi)
  have hxs : 1 ≤ P[i].f1 ∧ P[i].f1 ≤ 65536 := ⟨hx.2.1, by have := hx.1; have := hx.2.2; omega⟩
  unfold ZaP.l0
  rw [if_pos (by rw [List.length_map]; omega), if_pos (by omega), if_pos (by rw [List.length_map]; omega), if_pos (by omega), rd_part0 hi, ZaH (i + 1) (by omega)]
  have h1 : wrap64 (at_ + (part0 P[i]).f0.f1) = at_ + P[i].f1 := ZaH (at_ + P[i].f1) (by omega)
  rw [h1]
  have := extents_l0 P hm hl a0 a1 q a3 L M s d r (i + 1) (acc ++ [⟨P[i], ⟨q, at_⟩⟩]) (at_ + P[i].f1) (by omega) (by omega) (by simp; omega) (by omega)
  rw [List.drop_eq_getElem_cons hi, ZbO]
  rw [List.append_assoc] at this
  exact this
theorem Ob.extents (o : Ob) (w : World) (hr : o.Reads w) (ho : o.Ok) : Calls Tryz.prog 31 #[o.val] w fun e w' => ∃ v, e = .returned v ∧ k86.R 86 w' w.heap.size (fun _ => True) v (extS o.seq 0 o.P) ∧ Below w.heap.size w w' :=
 ZaP.calls 1100 o.key o.epoch o.seq o.upto o.pa o.pc (o.P.map part0) o.ca o.cc o.C o.data (extS o.seq 0 o.P) w hr.p hr.pl hr.c hr.cl (by
  have h := extents_l0 o.P ho.obj.p.may (by have := ho.obj.lens; omega) o.key o.epoch o.seq o.upto (o.P.map part0) o.C o.data o.P.length 1100 0 [] 0 (by omega) (by have := ho.obj.lens; omega) (by simp) (by omega)
  rw [List.drop_zero, List.nil_append] at h
  exact h)
theorem pmay_calls (x : S70) (hx : MayS x) (q : Int) (w : World) : Calls Tryz.prog 108 #[.agg #[.int .i64 x.f0, .int .i64 x.f1, .int .i64 0, .int .i64 0], .int .i64 q] w fun e w' => e = .returned (.bool true) ∧ Below w.heap.size w w' :=
 ZbH.calls x.f0 x.f1 0 0 q true w (by
  unfold ZbH.f ZaS.f
  rw [mayS_f, if_pos hx, Option.bind_some, if_pos rfl]
  rfl)
theorem pput_calls (x : S70) (w : World) : Calls Tryz.prog 32 #[.agg #[.int .i64 x.f0, .int .i64 x.f1, .int .i64 0, .int .i64 0]] w fun e w' => e = .returned (.bool true) ∧ Below w.heap.size w w' :=
 ZaS.calls x.f0 x.f1 0 0 true w rfl
theorem Zc4 (n f : Int) (h : f ≤ n ∧ n < 1099511627776) (w : World) : Calls Tryz.prog 65 #[.int .i64 n, .int .i64 f] w fun e w' => e = .returned (.bool true) ∧ Below w.heap.size w w' :=
 (Zb7.calls n f true w (by unfold Zb7.f; rw [if_pos h.1, decide_eq_true h.2])).mono fun e w' ⟨he, hd⟩ => ⟨he, hd.below⟩
theorem ZcY (n f : Int) (h : f ≤ n ∧ n < 1099511627776) (w : World) : Calls Tryz.prog 80 #[.int .i64 n, .int .i64 f] w fun e w' => e = .returned (.bool true) ∧ Below w.heap.size w w' :=
 (Zb8.calls n f true w (by unfold Zb8.f; rw [if_pos h.1, decide_eq_true h.2])).mono fun e w' ⟨he, hd⟩ => ⟨he, hd.below⟩
set_option maxRecDepth 100000 in
set_option maxHeartbeats 4000000 in
theorem Ob.bytes (o : Ob) (w : World) (hr : o.Reads w) (ho : o.Ok) : Calls Tryz.prog 67 #[o.val] w fun e w' => ∃ s : ByteArray, e = .returned (.string s) ∧ s.size ≤ 5000 ∧ Below w.heap.size w w' := by
 have hu40 := Tryz.underlying40
 have hu158 := Tryz.underlying158
 have hu189 := Tryz.underlying189
 have hu30 := Tryz.underlying30
 have hu9 := Tryz.underlying9
 have hu3 := Tryz.underlying3
 obtain ⟨hlp, hlc, ht0, ht1⟩ := ho.obj.lens
 have hds := ho.data
 have HHd := Aside0.mk (fun W (hb : Below w.heap.size w W) => head_bytes o W (hr.below hb) ho)
 obtain ⟨key, ep, sq, up, pa, pc, P, ca, cc, C, dt⟩ := o
 simp only at hds ht0 ht1
 unfold Ob.val at HHd ⊢
 simp only at HHd ⊢
 clear hr ho
 generalize (P.map part0).length = nP at HHd ⊢
 generalize C.length = nC at HHd ⊢
 have ba := Zab (Below.refl _ w) (.cells #[.int .u64 key, .int .i64 ep, .int .i64 sq, .int .i64 up, .slice pa nP pc, .slice ca nC cc, .string dt] 40)
 have hbx := Zas w (.cells #[.int .u64 key, .int .i64 ep, .int .i64 sq, .int .i64 up, .slice pa nP pc, .slice ca nC cc, .string dt] 40)
 have HBA := Aside0.mk ba
 have HBX := Aside0.mk hbx
 clear ba hbx
 go_enter Tryz.func67, Tryz.ntmps67
 go_wp2_with (fail)
 refine (HHd.out _ HBA.out).mono ?_
 rintro e w2 ⟨s1, rfl, hs1, hb2⟩
 have HB2 := Aside0.mk (Zae HBA.out hb2)
 have HX2 := Aside0.mk (Zag HBX.out hb2)
 have HSl := Aside0.mk (fun W => seal_calls s1 (by omega) W)
 clear hb2 HHd HBX
 go_wp2_with (fail)
 refine (HSl.out _).mono ?_
 rintro e w3 ⟨s2, rfl, hs2, hb3⟩
 have HB3 := Aside0.mk (Zae HB2.out hb3)
 have hx3 := Zag HX2.out hb3
 clear hb3 HX2 HSl
 have hx4 := Zag hx3 (Zab (Below.refl _ w3) (.cells #[.slice none 0 0] 158))
 have hnb := Zas w3 (.cells #[.slice none 0 0] 158)
 have hb4 := Zab (Below.refl _ w3) (.cells #[.slice none 0 0] 158)
 have hs4 : (w3.alloc (.cells #[.slice none 0 0] 158)).heap.size = w3.heap.size + 1 := by simp
 have e6 := (Zaa hx4 6).trans rfl
 have HX4 := Aside0.mk hx4
 have HNB := Aside0.mk hnb
 have HB4 := Aside0.mk hb4
 have HS4 := Aside0.mk hs4
 clear hx3 hx4 hnb hb4 hs4
 go_wp2_with (fail)
 generalize w3.alloc (.cells #[.slice none 0 0] 158) = W4 at HX4 HNB HB4 HS4 ⊢
 rw [← HS4.out]
 have ho4 : OutAt W4 w3.heap.size w3.heap.size 0 := ⟨Nat.le_refl _, _, [], HNB.out, Kd.R_nil _ _ _ _ _, rfl⟩
 have hrw := raw2A w3.heap.size w3.heap.size 0 dt s2 W4 ho4 HB4.out.size (by omega)
 refine hrw.mono ?_
 clear hrw ho4 e6
 rintro e w5 ⟨rfl, ho5, hb5⟩
 have HB5 := Aside0.mk hb5
 have hcu : IntKind.u64.wrap (s2.size : Int) = (s2.size : Int) := by
  have : IntKind.u64.wrap (s2.size : Int) = (s2.size : Int) % 18446744073709551616 := rfl
  rw [this]; omega
 have HFx := Aside0.mk (fun z => Zb4 w3.heap.size w3.heap.size _ 4 z (by omega) w5 ho5 (Nat.le_trans HB4.out.size hb5.bel.size) (by omega))
 clear ho5 hb5
 go_wp2_with (fail)
 refine (HFx.out _).mono ?_
 rintro e w6 ⟨rfl, ho6, hb6⟩
 have HB6 := Aside0.mk (HB5.out.trans hb6)
 have HST := Aside0.mk (Zcd _ _ _ w6 ho6)
 clear ho6 hb6 HFx
 go_wp2_with (fail)
 refine HST.out.mono ?_
 rintro e w7 ⟨s, rfl, hsz, hb7⟩
 have HB7 := Aside0.mk (Zae HB3.out (Zb0 (HB4.out.trans HB6.out.bel) (hb7.mono (Nat.le_trans HB4.out.size HB6.out.bel.size))))
 have HSZ := Aside0.mk hsz
 clear hb7 hsz HST
 go_wp2_with (fail)
 go_ret
 exact ⟨s, rfl, by have := HSZ.out; omega, HB7.out⟩
def endAt (P : List S70) (i : Nat) : Int := match P[i - 1]? with
 | some x => if i = 0 then 0 else endS x
 | none => 0
theorem endAt_zero (P : List S70) : endAt P 0 = 0 := by
 unfold endAt
 cases P[0 - 1]? <;> simp
theorem endAt_succ {P : List S70} {i : Nat} (h : i < P.length) : endAt P (i + 1) = endS P[i] := by
 unfold endAt
 rw [Nat.add_sub_cancel, List.getElem?_eq_getElem h]
 simp
theorem endAt_le {P : List S70} (hs : SetS P 60) {i : Nat} (h : i < P.length) : endAt P i ≤ P[i].f0 := by
 cases i with
 | zero => rw [endAt_zero]; exact (hs.may _ (List.getElem_mem h)).1
 | succ i =>
  rw [endAt_succ (by omega)]
  have := List.pairwise_iff_getElem.1 hs.sep i (i + 1) (by omega) h (by omega)
  omega
theorem ObjOk.apart {P C : List S70} (h : ObjOk P C) : ApartS P C := by
 intro x hx y hy
 rcases h.one with rfl | rfl
 ·simp at hx
 ·simp at hy
set_option maxRecDepth 100000 in
set_option maxHeartbeats 4000000 in
theorem laid_calls (o : Ob) (w : World) (hr : o.Reads w) (ho : o.Ok) : Calls Tryz.prog 66 #[o.val] w fun e w' => e = .returned (.bool true) ∧ Below w.heap.size w w' := by
 have hu40 := Tryz.underlying40
 have hu92 := Tryz.underlying92
 have hu70 := Tryz.underlying70
 have hu37 := Tryz.underlying37
 have hu38 := Tryz.underlying38
 have hu43 := Tryz.underlying43
 have HR := Aside0.mk hr
 obtain ⟨hlp, hlc, ht0, ht1⟩ := ho.obj.lens
 have HP := Aside0.mk ho.obj
 have HSp := Aside0.mk (fun W (hb : Below w.heap.size w W) => Ob.spans o W (hr.below hb) ho)
 obtain ⟨key, ep, sq, up, pa, pc, P, ca, cc, C, dt⟩ := o
 simp only at hlp hlc HP
 have hpl : (P.map part0).length = P.length := List.length_map _
 unfold Ob.val at HSp ⊢
 simp only at HSp ⊢
 rw [hpl] at HSp ⊢
 clear hr ho
 have ba := Zab (Below.refl _ w) (.cells #[.int .u64 key, .int .i64 ep, .int .i64 sq, .int .i64 up, .slice pa P.length pc, .slice ca C.length cc, .string dt] 40)
 have hbx := Zas w (.cells #[.int .u64 key, .int .i64 ep, .int .i64 sq, .int .i64 up, .slice pa P.length pc, .slice ca C.length cc, .string dt] 40)
 have HBA := Aside0.mk ba
 have HBX := Aside0.mk hbx
 have c4 := (Zaa hbx 4).trans (rfl : _ = some (Value.slice pa P.length pc))
 have c5 := (Zaa hbx 5).trans (rfl : _ = some (Value.slice ca C.length cc))
 have hd1 : decide ((P.length : Int) > 1024) = false := decide_eq_false (by omega)
 have hd2 : decide ((C.length : Int) > 1024) = false := decide_eq_false (by omega)
 clear ba hbx
 go_enter Tryz.func66, Tryz.ntmps66
 go_wp2_with (fail)
 go_loopg [3, 22] P.length (fun kx v3 v22 wr => ∃ i : Nat, v22 = .int .i64 (i : Int) ∧ i ≤ P.length ∧ P.length - i ≤ kx ∧ v3 = .int .i64 (endAt P i) ∧ Aside0 (Below w.heap.size w wr) ∧ Aside0 (wr.heap[w.heap.size]? = some (.cells #[.int .u64 key, .int .i64 ep, .int .i64 sq, .int .i64 up, .slice pa P.length pc, .slice ca C.length cc, .string dt] 40)))
 case atStart => exact ⟨0, rfl, Nat.zero_le _, by omega, by rw [endAt_zero], HBA, HBX⟩
 case round =>
  obtain ⟨i, rfl, hi, hik, rfl, HB, HX⟩ := hrel
  by_cases hlt : i < P.length
  ·have hi1 : i + 1 ≤ P.length := hlt
   obtain ⟨ad, e, y0, y1, y2, y3⟩ := cells92 (Kd.C_below HR.out.p HB.out) i (by rw [hpl]; exact hlt)
   have e : pa = some ad := e
   subst e
   have eg : (P.map part0)[i]'(by rw [hpl]; exact hlt) = part0 P[i] := List.getElem_map _
   rw [eg] at y0 y1 y2 y3
   have hpm := HP.out.p.may P[i] (List.getElem_mem hlt)
   have hle := endAt_le HP.out.p hlt
   have HES := Aside0.mk (endAt_succ hlt)
   clear eg c4 c5
   as_aux_lemma =>
    generalize P[i] = x at y0 y1 y2 y3 hpm hle HES
    generalize endAt P i = en at hle ⊢
    obtain ⟨x0, x1⟩ := x
    simp only [part0] at y0 y1 y2 y3 hle
    have ba := Zab (Below.refl _ wr) (.cells #[.int .i64 x0, .int .i64 x1, .int .i64 0, .int .i64 0] 92)
    have hz := Zas wr (.cells #[.int .i64 x0, .int .i64 x1, .int .i64 0, .int .i64 0] 92)
    have HZ := Aside0.mk hz
    have HBz := Aside0.mk (Zae HB.out ba)
    have HXz := Aside0.mk (Zag HX.out ba)
    have d2 := (Zaa HXz.out 2).trans (rfl : _ = some (Value.int .i64 sq))
    have HPM := Aside0.mk (fun W => pmay_calls ⟨x0, x1⟩ hpm sq W)
    have HEn := Aside0.mk (fun W => ZaN x0 x1 hpm W)
    have hd3 : decide (x0 < en) = false := decide_eq_false (by omega)
    clear ba hz hle
    go_wp2_with (fail)
    refine (HPM.out _).mono ?_
    rintro e w3 ⟨rfl, hb3⟩
    have HB3 := Aside0.mk (Zae HBz.out hb3)
    have HX3 := Aside0.mk (Zag HXz.out hb3)
    have hz3 := Zag HZ.out hb3
    have z0 := (Zaa hz3 0).trans (rfl : _ = some (Value.int .i64 x0))
    have z1 := (Zaa hz3 1).trans (rfl : _ = some (Value.int .i64 x1))
    clear hb3 hz3 d2 HPM
    go_wp2_with (fail)
    refine (HEn.out _).mono ?_
    rintro e w4 ⟨rfl, hb4⟩
    have HB4 := Aside0.mk (Zae HB3.out hb4)
    have HX4 := Aside0.mk (Zag HX3.out hb4)
    clear hb4 z0 z1
    go_wp2_with (fail)
    go_roundg (gk - 1)
    case measure => omega
    case rel => exact ⟨i + 1, by go_num, hi1, by omega, by rw [HES.out]; rfl, HB4, HX4⟩
  ·have hil : i = P.length := by omega
   subst hil
   have f0 := (Zaa HX.out 0).trans (rfl : _ = some (Value.int .u64 key))
   have f1 := (Zaa HX.out 1).trans (rfl : _ = some (Value.int .i64 ep))
   have f2 := (Zaa HX.out 2).trans (rfl : _ = some (Value.int .i64 sq))
   have f3 := (Zaa HX.out 3).trans (rfl : _ = some (Value.int .i64 up))
   have f4 := (Zaa HX.out 4).trans (rfl : _ = some (Value.slice pa P.length pc))
   have f5 := (Zaa HX.out 5).trans (rfl : _ = some (Value.slice ca C.length cc))
   have f6 := (Zaa HX.out 6).trans (rfl : _ = some (Value.string dt))
   clear c4 c5
   as_aux_lemma =>
    go_wp2_with (fail)
    refine (HSp.out _ HB.out).mono ?_
    rintro e w2 ⟨v, rfl, hR, hb2⟩
    obtain ⟨A1, k1, rfl, hk1, hC1⟩ := Kd.R_reads hR
    have HB2 := Aside0.mk (Zae HB.out hb2)
    have HX2 := Aside0.mk (Zag HX.out hb2)
    have HJ := Aside0.mk (join_calls A1 k1 P w2 hC1 (by omega) HP.out.p.may HP.out.p.sep)
    clear hR hb2 hC1 f0 f1 f2 f3 f4 f5 f6 HSp
    go_wp2_with (fail)
    refine HJ.out.mono ?_
    rintro e w3 ⟨v3, rfl, hR3, hb3⟩
    obtain ⟨A3, k3, rfl, hk3, hC3⟩ := Kd.R_reads hR3
    have HB3 := Aside0.mk (Zae HB2.out hb3)
    have hx3 := Zag HX2.out hb3
    have g5 := (Zaa hx3 5).trans (rfl : _ = some (Value.slice ca C.length cc))
    have HMt := Aside0.mk (meet_calls A3 k3 P ca cc C w3 hC3 (Kd.C_below HR.out.c HB3.out) hk3 HR.out.cl (by omega) (by omega) HP.out.p.may HP.out.c.may HP.out.p.sep HP.out.c.sep HP.out.apart)
    clear hR3 hb3 hC3 HJ hx3
    go_wp2_with (fail)
    refine HMt.out.mono ?_
    rintro e w4 ⟨rfl, hb4⟩
    have HB4 := Aside0.mk (Zae HB3.out hb4)
    clear hb4 HMt g5
    go_wp2_with (fail)
    go_ret
    exact ⟨rfl, HB4.out⟩
set_option maxRecDepth 100000 in
set_option maxHeartbeats 4000000 in
theorem Zch (o : Ob) (w : World) (hr : o.Reads w) (ho : o.Ok) : Calls Tryz.prog 28 #[o.val] w fun e w' => e = .returned (.int .i64 0) ∧ Below w.heap.size w w' := by
 have hu40 := Tryz.underlying40
 have hu43 := Tryz.underlying43
 have hu9 := Tryz.underlying9
 have hu3 := Tryz.underlying3
 have HLd := Aside0.mk (fun W (hb : Below w.heap.size w W) => laid_calls o W (hr.below hb) ho)
 have HSc := Aside0.mk (fun W (hb : Below w.heap.size w W) => Ob.sectors o W (hr.below hb) ho)
 have HBy := Aside0.mk (fun W (hb : Below w.heap.size w W) => Ob.bytes o W (hr.below hb) ho)
 have HN1 := Aside0.mk (fun W => Zc4 o.epoch 1 ho.epoch W)
 have HN2 := Aside0.mk (fun W => Zc4 o.seq 1 ho.seq W)
 have HN3 := Aside0.mk (fun W => Zc4 o.upto 0 ho.upto W)
 obtain ⟨_, _, ht0, ht1⟩ := ho.obj.lens
 have hds := ho.data
 obtain ⟨key, ep, sq, up, pa, pc, P, ca, cc, C, dt⟩ := o
 simp only at hds ht0 ht1 HN1 HN2 HN3
 unfold Ob.val at HLd HSc HBy ⊢
 simp only at HLd HSc HBy ⊢
 clear hr ho
 generalize (P.map part0).length = nP at HLd HSc HBy ⊢
 generalize C.length = nC at HLd HSc HBy ⊢
 generalize totS P = tp at HSc hds ht0 ht1
 have ba := Zab (Below.refl _ w) (.cells #[.int .u64 key, .int .i64 ep, .int .i64 sq, .int .i64 up, .slice pa nP pc, .slice ca nC cc, .string dt] 40)
 have hbx := Zas w (.cells #[.int .u64 key, .int .i64 ep, .int .i64 sq, .int .i64 up, .slice pa nP pc, .slice ca nC cc, .string dt] 40)
 have HBA := Aside0.mk ba
 have HBX := Aside0.mk hbx
 clear ba hbx
 have BOX : ∀ W, Below (w.alloc (.cells #[.int .u64 key, .int .i64 ep, .int .i64 sq, .int .i64 up, .slice pa nP pc, .slice ca nC cc, .string dt] 40)).heap.size (w.alloc (.cells #[.int .u64 key, .int .i64 ep, .int .i64 sq, .int .i64 up, .slice pa nP pc, .slice ca nC cc, .string dt] 40)) W →
   W.cell? ⟨w.heap.size, 0, none⟩ = some (.int .u64 key) ∧ W.cell? ⟨w.heap.size, 1, none⟩ = some (.int .i64 ep) ∧ W.cell? ⟨w.heap.size, 2, none⟩ = some (.int .i64 sq) ∧ W.cell? ⟨w.heap.size, 3, none⟩ = some (.int .i64 up) ∧ W.cell? ⟨w.heap.size, 4, none⟩ = some (.slice pa nP pc) ∧ W.cell? ⟨w.heap.size, 5, none⟩ = some (.slice ca nC cc) ∧ W.cell? ⟨w.heap.size, 6, none⟩ = some (.string dt) := fun W hb => by
  have hx := Zag HBX.out hb
  exact ⟨(Zaa hx 0).trans rfl, (Zaa hx 1).trans rfl, (Zaa hx 2).trans rfl, (Zaa hx 3).trans rfl, (Zaa hx 4).trans rfl, (Zaa hx 5).trans rfl, (Zaa hx 6).trans rfl⟩
 have BX := Aside0.mk BOX
 clear BOX HBX
 obtain ⟨q0, q1, q2, q3, q4, q5, q6⟩ := BX.out _ (Below.refl _ _)
 go_enter Tryz.func28, Tryz.ntmps28
 go_wp2_with (fail)
 generalize w.alloc (.cells #[.int .u64 key, .int .i64 ep, .int .i64 sq, .int .i64 up, .slice pa nP pc, .slice ca nC cc, .string dt] 40) = W0 at HBA BX q0 q1 q2 q3 q4 q5 q6 ⊢
 clear q0 q1 q2 q3 q4 q5 q6
 refine (HN1.out _).mono ?_
 rintro e w1 ⟨rfl, hb⟩
 have Hw1 := Aside0.mk (Zae (Below.refl _ _) hb)
 obtain ⟨q0, q1, q2, q3, q4, q5, q6⟩ := BX.out _ Hw1.out
 clear hb
 go_wp2_with (fail)
 clear q0 q1 q2 q3 q4 q5 q6
 refine (HN2.out _).mono ?_
 rintro e w2 ⟨rfl, hb⟩
 have Hw2 := Aside0.mk (Zae Hw1.out hb)
 obtain ⟨q0, q1, q2, q3, q4, q5, q6⟩ := BX.out _ Hw2.out
 clear hb
 go_wp2_with (fail)
 clear q0 q1 q2 q3 q4 q5 q6
 refine (HN3.out _).mono ?_
 rintro e w3 ⟨rfl, hb⟩
 have Hw3 := Aside0.mk (Zae Hw2.out hb)
 obtain ⟨q0, q1, q2, q3, q4, q5, q6⟩ := BX.out _ Hw3.out
 clear hb
 go_wp2_with (fail)
 clear q0 q1 q2 q3 q4 q5 q6
 refine (HLd.out _ (Zae HBA.out Hw3.out)).mono ?_
 rintro e w4 ⟨rfl, hb⟩
 have Hw4 := Aside0.mk (Zae Hw3.out hb)
 have hBX4 := BX.out _ Hw4.out
 obtain ⟨q0, q1, q2, q3, q4, q5, q6⟩ := hBX4
 have p0 := Zap q0
 have p1 := Zap q1
 have p2 := Zap q2
 have p3 := Zap q3
 have p4 := Zap q4
 have p5 := Zap q5
 have p6 := Zap q6
 have hw64 : IntKind.i64.wrap (64 * tp) = 64 * tp := IntWalk.i64_in _ (by omega)
 have HSc2 := Aside0.mk (fun p : Abv w4 => HSc.out p.out (Zae HBA.out (Zae Hw4.out p.bel)))
 clear hb
 go_wp2_with (fail)
 refine Zav (by kernel_rfl) (by kernel_rfl) ?_
 repeat (refine WQ.step (fun K hK => ?_); go_simp; first | (refine hK _ ?_; clear hK K) | (apply Exists.intro; refine ⟨fun _ => ?_, hK _ ?_⟩; ((go_at_call 12; exact abv_of (HSc2.out _))); clear hK K))
 refine WQ.nil ?_
 rintro w5 ⟨⟨w5', hb5⟩, rfl⟩
 have Hw5 := Aside0.mk (Zae Hw4.out hb5)
 have hBX5 := BX.out _ Hw5.out
 clear q0 q1 q2 q3 q4 q5 q6 p0 p1 p2 p3 p4 p5 p6 hb5
 obtain ⟨q0, q1, q2, q3, q4, q5, q6⟩ := hBX5
 go_wp2_with (fail)
 refine (HBy.out _ (Zae HBA.out Hw5.out)).mono ?_
 rintro e w6 ⟨s, rfl, hs, hb6⟩
 have Hw6 := Aside0.mk (Zae HBA.out (Zae Hw5.out hb6))
 have hd9 : decide ((s.size : Int) > 65536) = false := decide_eq_false (by omega)
 clear hb6
 go_wp2_with (fail)
 go_ret
 exact ⟨rfl, Hw6.out⟩
theorem C92_of_map {w : World} {g n c : Nat} {X A : Option Addr} {L : List S92} (hb : w.heap[g]? = some (.cells #[.slice X n c] 72 (0, 0))) (h : Kd.C k92 w A L.length L) {w' : World} (hg : w.grownBy w' (some g)) : Kd.C k92 w' A L.length L := by
 obtain ⟨h1, h2, h3⟩ := h
 refine ⟨h1, h2, fun hp => ?_⟩
 obtain ⟨ad, e, hr⟩ := h3 hp
 refine ⟨ad, e, fun j p hj => ?_⟩
 obtain ⟨cs, g1, g2, g3⟩ := hr j p hj
 have hk := k92_open g2
 refine ⟨cs, g1, by rw [hk]; exact k92_mk w' p, fun i u hu => ?_⟩
 have h4 := g3 i u hu
 rw [← h4]
 refine World.cell?_of_block ?_
 refine hg.block _ (World.block_lt_of_cell? w _ h4) fun e => ?_
 have hblk := Option.some.inj e
 have hu2 : ∃ z, u = .int .i64 z := by
  rw [hk] at hu
  match i, hu with
  | 0, hu => cases hu; exact ⟨_, rfl⟩
  | 1, hu => cases hu; exact ⟨_, rfl⟩
  | 2, hu => cases hu; exact ⟨_, rfl⟩
  | 3, hu => cases hu; exact ⟨_, rfl⟩
 obtain ⟨z, rfl⟩ := hu2
 generalize ad.add (j * k92.sz + i) = q at h4 hblk
 obtain ⟨b, o, f⟩ := q
 simp only at hblk
 subst hblk
 simp only [World.cell?, hb] at h4
 cases f with
 | some f => simp at h4
 | none =>
  cases o with
  | zero => simp at h4
  | succ o => simp at h4
theorem Ob.Reads.map {o : Ob} {w w' : World} {g n c : Nat} {X : Option Addr} (h : o.Reads w) (hb : w.heap[g]? = some (.cells #[.slice X n c] 72 (0, 0))) (hg : w.grownBy w' (some g)) : o.Reads w' := ⟨C92_of_map hb h.p hg, h.pl, C70_of_map hb h.c hg, h.cl⟩
def applyE (L : List S86) (q : Int) (P C : List S70) : List S86 := putE (cutE L C) (extS q 0 P)
theorem apply_ok {L : List S86} {q : Int} {P C : List S70} (hL : Okm L) (ho : ObjOk P C) (hq : 1 ≤ q ∧ q < 1099511627776) :
  Okm (cutE L C) ∧ (∀ x ∈ extS q 0 P, Good x ∧ endE x ≤ 64) ∧ Okm (applyE L q P C) ∧ ∀ i, look (applyE L q P C) i = stepF L (extS q 0 P) C i := by
 obtain ⟨h1, h2⟩ := cutE_ok C L hL ho.c.may
 have hlens := ho.lens
 have hX : ∀ x ∈ extS q 0 P, Good x ∧ endE x ≤ 64 := fun x hx => by
  refine ⟨extS_good (by omega) (Int.le_refl _) (by omega) ho.p.may x hx, ?_⟩
  have := ho.p.ends _ (Zcm ho.p.may x hx).1
  unfold endS at this
  unfold endE
  omega
 obtain ⟨h3, h4⟩ := ZdT (extS q 0 P) (cutE L C) h1 hX
 refine ⟨h1, hX, h3, fun i => ?_⟩
 unfold applyE
 rw [h4 (Zd6 ho.p.may ho.p.sep), h2]
 unfold stepF
 cases look (extS q 0 P) i with
 | some p => rfl
 | none => rfl
set_option maxRecDepth 100000 in
set_option maxHeartbeats 4000000 in
theorem Zdt (g : Nat) (L : List S86) (o : Ob) (w : World) (hM : MapAt w g L) (hL : Okm L) (hr : o.Reads w) (ho : o.Ok) :
  Calls Tryz.prog 10 #[.pointer (some ⟨g, 0, none⟩), o.val] w fun e w' => ∃ A1 c1 A2 c2, e = .returned (.tuple #[.slice A1 (L.foldl apOut (applyE L o.seq o.P o.C)).length c1, .slice A2 ((applyE L o.seq o.P o.C).foldl apOut L).length c2, .int .i64 0]) ∧
   ((L.foldl apOut (applyE L o.seq o.P o.C)).length ≤ c1 ∧ ((applyE L o.seq o.P o.C).foldl apOut L).length ≤ c2) ∧
   (Kd.C k86 w' A1 (L.foldl apOut (applyE L o.seq o.P o.C)).length (L.foldl apOut (applyE L o.seq o.P o.C)) ∧ Kd.C k86 w' A2 ((applyE L o.seq o.P o.C).foldl apOut L).length ((applyE L o.seq o.P o.C).foldl apOut L)) ∧
   MapAt w' g (applyE L o.seq o.P o.C) ∧ (¬ (o.P = [] ∧ o.C = []) → MapO w' g w.heap.size (applyE L o.seq o.P o.C)) ∧ w.grownBy w' (some g) := by
 have hu40 := Tryz.underlying40
 have hu25 := Tryz.underlying25
 have hu43 := Tryz.underlying43
 have hu31 := Tryz.underlying31
 have hu37 := Tryz.underlying37
 have hu38 := Tryz.underlying38
 have hu92 := Tryz.underlying92
 have hu86 := Tryz.underlying86
 obtain ⟨k1, k2, k3, k4⟩ := apply_ok hL ho.obj ho.seq
 have HK1 := Aside0.mk k1
 have HK2 := Aside0.mk k2
 have HK3 := Aside0.mk k3
 have hlens := ho.obj.lens
 have HL := Aside0.mk hL
 have HM := Aside0.mk hM
 have HR := Aside0.mk hr
 have HOk := Aside0.mk ho
 have hpl : (o.P.map part0).length = o.P.length := List.length_map _
 have HPL := Aside0.mk hpl
 have hgl : g < w.heap.size := hM.lt
 clear hM hL hr ho k1 k2 k3 k4 hpl
 have ba := Zab (Below.refl _ w) (.cells #[.int .u64 o.key, .int .i64 o.epoch, .int .i64 o.seq, .int .i64 o.upto, .slice o.pa (o.P.map part0).length o.pc, .slice o.ca o.C.length o.cc, .string o.data] 40)
 have hbx := Zas w (.cells #[.int .u64 o.key, .int .i64 o.epoch, .int .i64 o.seq, .int .i64 o.upto, .slice o.pa (o.P.map part0).length o.pc, .slice o.ca o.C.length o.cc, .string o.data] 40)
 have HBX := Aside0.mk hbx
 have HBA := Aside0.mk ba
 have HCh := Aside0.mk (Zch o _ (HR.out.below ba) HOk.out)
 have q0 := (Zaa hbx 0).trans (rfl : _ = some (Value.int .u64 o.key))
 have q1 := (Zaa hbx 1).trans (rfl : _ = some (Value.int .i64 o.epoch))
 have q2 := (Zaa hbx 2).trans (rfl : _ = some (Value.int .i64 o.seq))
 have q3 := (Zaa hbx 3).trans (rfl : _ = some (Value.int .i64 o.upto))
 have q4 := (Zaa hbx 4).trans (rfl : _ = some (Value.slice o.pa (o.P.map part0).length o.pc))
 have q5 := (Zaa hbx 5).trans (rfl : _ = some (Value.slice o.ca o.C.length o.cc))
 have q6 := (Zaa hbx 6).trans (rfl : _ = some (Value.string o.data))
 clear ba hbx
 unfold Ob.val at HCh ⊢
 generalize (o.P.map part0).length = nP at HBX HBA HCh HPL q4 ⊢
 generalize hnC : o.C.length = nC at HBX HBA HCh q5 ⊢
 have HNC := Aside0.mk hnC
 clear hnC
 go_enter Tryz.func10, Tryz.ntmps10
 go_wp2_with (fail)
 refine HCh.out.mono ?_
 rintro e w1 ⟨rfl, hb⟩
 have HB1 := Aside0.mk (Zae HBA.out hb)
 have HX1 := Aside0.mk (Zag HBX.out hb)
 have HCp := Aside0.mk (Zeb g L w1 (HM.out.below HB1.out) (by have := HL.out.len; omega))
 clear hb q0 q1 q2 q3 q4 q5 q6 HCh HBX HBA
 go_wp2_with (fail)
 refine HCp.out.mono ?_
 rintro e w2 ⟨gc, rfl, hgc, hMc, hb⟩
 have HB2 := Aside0.mk (Zae HB1.out hb)
 have HX2 := Aside0.mk (Zag HX1.out hb)
 have HMc := Aside0.mk hMc
 have hM2 := HM.out.below HB2.out
 have hcut : Calls Tryz.prog 30 #[.pointer (some ⟨g, 0, none⟩), .slice o.ca o.C.length o.cc] w2 _ := cut_callsO g L o.C o.ca o.cc w2 hM2 HL.out HOk.out.obj.c.may (HR.out.below HB2.out).c (by omega)
 rw [HNC.out] at hcut
 have HCt := Aside0.mk hcut
 have q5 := (Zaa HX2.out 5).trans (rfl : _ = some (Value.slice o.ca nC o.cc))
 have hgne : gc ≠ g := by have := HB1.out.size; omega
 clear hb hMc hM2 hcut HCp HX1
 go_wp2_with (fail)
 refine HCt.out.mono ?_
 rintro e w3 ⟨v3, rfl, hM3, hmo3, hg3⟩
 have HMO3 := Aside0.mk hmo3
 have HW2 := Aside0.mk HB2.out.size
 clear hmo3
 have HM3 := Aside0.mk hM3
 have HG3 := Aside0.mk hg3
 have HX3 := Aside0.mk ((hg3.block w.heap.size (blk_lt HX2.out) (fun e => by have := Option.some.inj e; omega)).trans HX2.out)
 obtain ⟨A0, k0, hg0, _, _⟩ := id (HM.out.below HB2.out)
 have HR3 := Aside0.mk ((HR.out.below HB2.out).map hg0 hg3)
 have hMc3 := HMc.out.other (HM.out.below HB2.out) hg3 hgne
 have HMc3 := Aside0.mk hMc3
 have HEx := Aside0.mk (Ob.extents o w3 HR3.out HOk.out)
 have q0 := (Zaa HX3.out 0).trans (rfl : _ = some (Value.int .u64 o.key))
 have q1 := (Zaa HX3.out 1).trans (rfl : _ = some (Value.int .i64 o.epoch))
 have q2 := (Zaa HX3.out 2).trans (rfl : _ = some (Value.int .i64 o.seq))
 have q3 := (Zaa HX3.out 3).trans (rfl : _ = some (Value.int .i64 o.upto))
 have q4 := (Zaa HX3.out 4).trans (rfl : _ = some (Value.slice o.pa nP o.pc))
 have q5 := (Zaa HX3.out 5).trans (rfl : _ = some (Value.slice o.ca nC o.cc))
 have q6 := (Zaa HX3.out 6).trans (rfl : _ = some (Value.string o.data))
 clear hM3 hg3 hg0 hMc3 HCt
 unfold Ob.val at HEx
 have hnP : (o.P.map part0).length = nP := by rw [List.length_map]; exact HPL.out.symm
 rw [hnP, HNC.out] at HEx
 clear hnP
 go_wp2_with (fail)
 refine HEx.out.mono ?_
 rintro e w4 ⟨v, rfl, hRx, hb⟩
 obtain ⟨AX, cX, rfl, hcX, hCX⟩ := Kd.R_reads hRx
 have HM4 := Aside0.mk (HM3.out.below hb)
 have HMO4 : Aside0 (o.C = [] ∨ MapO w4 g w.heap.size (cutE L o.C)) := ⟨HMO3.out.imp id (fun h => (h.below hb).lower HW2.out)⟩
 have HW4 := Aside0.mk (show w.heap.size ≤ w4.heap.size from Nat.le_trans HW2.out (Nat.le_trans HG3.out.size hb.size))
 have HMc4 := Aside0.mk (HMc3.out.below hb)
 have HR4 := Aside0.mk (HR3.out.below hb)
 have HX4 := Aside0.mk (Zag HX3.out hb)
 obtain ⟨A1, k1, hg1, hk1', hC1'⟩ := id HM4.out
 have HG1 := Aside0.mk hg1
 have HST := Aside0.mk (Stay.of_map hg1 hCX)
 have HG4 := Aside0.mk ((Zax HB2.out (some g)).andThen (HG3.out.andThen (Zax hb (some g)) fun j hj => .inr hj) fun j hj => .inr hj)
 have HXL := Aside0.mk (extS_len o.seq 0 o.P)
 have hxl12 : (extS o.seq 0 o.P).length ≤ 12 := by rw [extS_len]; exact hlens.1
 clear hRx hb hCX q0 q1 q2 q3 q4 q5 q6 HEx hg1 hk1' hC1' HM3 HMc3 HR3 HX3 HX2 HMc
 go_wp2_with (fail)
 go_loopg [9, 28] (extS o.seq 0 o.P).length (fun kx v9 v28 wr => ∃ i : Nat, v28 = .int .i64 (i : Int) ∧ i ≤ (extS o.seq 0 o.P).length ∧ (extS o.seq 0 o.P).length - i ≤ kx ∧ Aside0 (Okm (putE (cutE L o.C) ((extS o.seq 0 o.P).take i))) ∧ Aside0 (MapAt wr g (putE (cutE L o.C) ((extS o.seq 0 o.P).take i))) ∧ Aside0 ((i = 0 ∧ o.C = []) ∨ MapO wr g w.heap.size (putE (cutE L o.C) ((extS o.seq 0 o.P).take i))) ∧ Aside0 (w4.grownBy wr (some g)))
 case atStart => exact ⟨0, rfl, Nat.zero_le _, by omega, HK1, HM4, ⟨HMO4.out.imp (fun h => ⟨rfl, h⟩) (fun h => h)⟩, ⟨ZbJ _ _⟩⟩
 case round =>
  obtain ⟨i, rfl, hi, hik, HOi, HMi, HMOi, HGi⟩ := hrel
  by_cases hlt : i < (extS o.seq 0 o.P).length
  ·have hi1 : i + 1 ≤ (extS o.seq 0 o.P).length := hlt
   clear HMOi
   have hlp : i < o.P.length := by rw [← HXL.out]; exact hlt
   obtain ⟨ad, rfl, y0, y1, y2, y3⟩ := ZaF (HST.out wr HGi.out) i hlt
   have hRr := HR4.out.map HG1.out HGi.out
   obtain ⟨ap, epa, p0, p1, p2, p3⟩ := cells92 hRr.p i (by rw [List.length_map]; exact hlp)
   have eg : (o.P.map part0)[i]'(by rw [List.length_map]; exact hlp) = part0 o.P[i] := List.getElem_map _
   rw [eg] at p0 p1 p2 p3
   have hxr := (HGi.out.block w.heap.size (blk_lt HX4.out) (fun e => by have := Option.some.inj e; omega)).trans HX4.out
   have HXR := Aside0.mk hxr
   have HTS := Aside0.mk (show putE (cutE L o.C) ((extS o.seq 0 o.P).take (i + 1)) = putE (putE (cutE L o.C) ((extS o.seq 0 o.P).take i)) [(extS o.seq 0 o.P)[i]] from by
    rw [← ZaM hlt]
    unfold putE
    rw [List.foldl_append])
   have HGX := Aside0.mk (HK2.out _ (List.getElem_mem hlt))
   have HPP := Aside0.mk (fun W => pput_calls o.P[i] W)
   have hnp : i < nP := by rw [HPL.out]; exact hlp
   have HEPA := Aside0.mk (show o.pa = some ap from epa)
   clear eg hRr hxr epa
   as_aux_lemma =>
    generalize (extS o.seq 0 o.P)[i] = x at y0 y1 y2 y3 HTS HGX
    generalize o.P[i] = pp at p0 p1 p2 p3 HPP
    generalize putE (cutE L o.C) ((extS o.seq 0 o.P).take i) = Li at HTS HOi HMi
    obtain ⟨⟨x0, x1⟩, ⟨x2, x3⟩⟩ := x
    obtain ⟨pp0, pp1⟩ := pp
    simp only [part0] at y0 y1 y2 y3 p0 p1 p2 p3 HPP
    have ba := Zab (Below.refl _ wr) (.cells #[.int .i64 x0, .int .i64 x1, .int .i64 x2, .int .i64 x3] 86)
    have hz := Zas wr (.cells #[.int .i64 x0, .int .i64 x1, .int .i64 x2, .int .i64 x3] 86)
    have bb := Zab (Below.refl _ (wr.alloc (.cells #[.int .i64 x0, .int .i64 x1, .int .i64 x2, .int .i64 x3] 86))) (.cells #[.int .i64 pp0, .int .i64 pp1, .int .i64 0, .int .i64 0] 92)
    have hxa := Zag HXR.out ba
    have q4 := (Zaa hxa 4).trans (rfl : _ = some (Value.slice o.pa nP o.pc))
    rw [HEPA.out] at q4
    have r0 := Zam ba p0
    have r1 := Zam ba p1
    have r2 := Zam ba p2
    have r3 := Zam ba p3
    have HBB := Aside0.mk (Zae ba bb)
    have HZ := Aside0.mk (Zag hz bb)
    clear ba bb hz hxa
    go_wp2_with (fail)
    refine (HPP.out _).mono ?_
    rintro e w6 ⟨rfl, hb6⟩
    have HB6 := Aside0.mk (Zae HBB.out hb6)
    have hz6 := Zag HZ.out hb6
    have z0 := (Zaa hz6 0).trans (rfl : _ = some (Value.int .i64 x0))
    have z1 := (Zaa hz6 1).trans (rfl : _ = some (Value.int .i64 x1))
    have z2 := (Zaa hz6 2).trans (rfl : _ = some (Value.int .i64 x2))
    have z3 := (Zaa hz6 3).trans (rfl : _ = some (Value.int .i64 x3))
    have hnb := Zas w6 (.cells #[.int .i64 x0, .int .i64 x1, .int .i64 x2, .int .i64 x3] 86)
    have bn := Zab (Below.refl _ w6) (.cells #[.int .i64 x0, .int .i64 x1, .int .i64 x2, .int .i64 x3] 86)
    have HB7 := Aside0.mk (Zae HB6.out bn)
    have hpt : Calls Tryz.prog 33 #[.pointer (some ⟨g, 0, none⟩), .slice (some ⟨w6.heap.size, 0, none⟩) 1 1] _ _ := put_callsO g Li [⟨⟨x0, x1⟩, ⟨x2, x3⟩⟩] (some ⟨w6.heap.size, 0, none⟩) 1 _ (HMi.out.below HB7.out) HOi.out (by intro y hy; rw [List.mem_singleton.1 hy]; exact HGX.out) (c_lit86 hnb) (by simp)
    have HPt := Aside0.mk hpt
    have HOK2 := Aside0.mk (ZdT [⟨⟨x0, x1⟩, ⟨x2, x3⟩⟩] Li HOi.out (by intro y hy; rw [List.mem_singleton.1 hy]; exact HGX.out)).1
    clear hb6 hz6 hnb bn hpt q4 r0 r1 r2 r3 HPP
    go_wp2_with (fail)
    refine HPt.out.mono ?_
    rintro e w8 ⟨v8, rfl, hM8, hmo8, hg8⟩
    have HMO8 := Aside0.mk ((hmo8.resolve_left (by simp)).lower (Nat.le_trans HW4.out (Nat.le_trans HGi.out.size HB7.out.size)))
    clear hmo8
    have HM8 := Aside0.mk hM8
    have HG8 := Aside0.mk (HGi.out.andThen ((Zax HB7.out (some g)).andThen hg8 fun j hj => .inr hj) fun j hj => .inr hj)
    clear hM8 hg8 HPt z0 z1 z2 z3
    go_wp2_with (fail)
    go_roundg (gk - 1)
    case measure => omega
    case rel => exact ⟨i + 1, by go_num, hi1, by omega, ⟨by rw [HTS.out]; exact HOK2.out⟩, ⟨by rw [HTS.out]; exact HM8.out⟩, ⟨.inr (by rw [HTS.out]; exact HMO8.out)⟩, HG8⟩
  ·have hil : i = (extS o.seq 0 o.P).length := by omega
   subst hil
   rw [List.take_length] at HMi HOi HMOi
   have HMOe := Aside0.mk (show ¬ (o.P = [] ∧ o.C = []) → MapO wr g w.heap.size (applyE L o.seq o.P o.C) from fun hn => HMOi.out.resolve_left (fun h => hn ⟨List.eq_nil_of_length_eq_zero (by rw [← HXL.out]; exact h.1), h.2⟩))
   clear HMOi
   change Aside0 (MapAt wr g (applyE L o.seq o.P o.C)) at HMi
   change Aside0 (Okm (applyE L o.seq o.P o.C)) at HOi
   have hMc5 := HMc4.out.other HM4.out HGi.out hgne
   have HMc5 := Aside0.mk hMc5
   have hap : Calls Tryz.prog 35 #[.pointer (some ⟨g, 0, none⟩), .pointer (some ⟨gc, 0, none⟩)] wr _ := Zee g gc (applyE L o.seq o.P o.C) L wr HMi.out hMc5 HOi.out HL.out
   have HAp := Aside0.mk hap
   have HAp2 := Aside0.mk (fun W (hb : Below wr.heap.size wr W) => Zee gc g L (applyE L o.seq o.P o.C) W (HMc5.out.below hb) (HMi.out.below hb) HL.out HOi.out)
   clear hMc5 hap HMc4
   as_aux_lemma =>
    go_wp2_with (fail)
    refine HAp.out.mono ?_
    rintro e w5 ⟨B1, b1, rfl, hb1, hD1, hbb⟩
    have HB5 := Aside0.mk hbb
    have HD1 := Aside0.mk hD1
    have HQ1 := Aside0.mk hb1
    clear hbb hD1 hb1 HAp
    go_wp2_with (fail)
    refine (HAp2.out _ HB5.out).mono ?_
    rintro e w6 ⟨B2, b2, rfl, hb2, hD2, hbb⟩
    have HB6 := Aside0.mk (Zae HB5.out hbb)
    have HD1' := Aside0.mk (Kd.C_below HD1.out hbb)
    have HD2 := Aside0.mk hD2
    have HQ2 := Aside0.mk hb2
    clear hbb hD2 hb2 HAp2
    go_wp2_with (fail)
    go_ret3
    exact ⟨B1, b1, B2, b2, rfl, ⟨HQ1.out, HQ2.out⟩, ⟨HD1'.out, HD2.out⟩, HMi.out.below HB6.out, fun hn => (HMOe.out hn).below HB6.out, HG4.out.andThen (HGi.out.andThen (Zax HB6.out (some g)) fun j hj => .inr hj) fun j hj => .inr hj⟩
theorem apply_calls (g : Nat) (L : List S86) (o : Ob) (w : World) (hM : MapAt w g L) (hL : Okm L) (hr : o.Reads w) (ho : o.Ok) :
  Calls Tryz.prog 10 #[.pointer (some ⟨g, 0, none⟩), o.val] w fun e w' => ∃ A1 c1 A2 c2, e = .returned (.tuple #[.slice A1 (L.foldl apOut (applyE L o.seq o.P o.C)).length c1, .slice A2 ((applyE L o.seq o.P o.C).foldl apOut L).length c2, .int .i64 0]) ∧
   ((L.foldl apOut (applyE L o.seq o.P o.C)).length ≤ c1 ∧ ((applyE L o.seq o.P o.C).foldl apOut L).length ≤ c2) ∧
   (Kd.C k86 w' A1 (L.foldl apOut (applyE L o.seq o.P o.C)).length (L.foldl apOut (applyE L o.seq o.P o.C)) ∧ Kd.C k86 w' A2 ((applyE L o.seq o.P o.C).foldl apOut L).length ((applyE L o.seq o.P o.C).foldl apOut L)) ∧
   MapAt w' g (applyE L o.seq o.P o.C) ∧ w.grownBy w' (some g) :=
 (Zdt g L o w hM hL hr ho).mono fun _ _ ⟨A1, c1, A2, c2, h1, h2, h3, h4, _, h5⟩ => ⟨A1, c1, A2, c2, h1, h2, h3, h4, h5⟩
structure Sb where
 key : Int
 epoch : Int
 seq : Int
 upto : Int
 size : Int
 ma : Option Addr
 mc : Nat
 L : List S86
 ra : Option Addr
 rc : Nat
 R : List S51
 note : ByteArray
def Sb.cells (s : Sb) : Array Value := #[.int .u64 s.key, .int .i64 s.epoch, .int .i64 s.seq, .int .i64 s.upto, .int .i64 s.size, .slice s.ma s.L.length s.mc, .slice s.ra s.R.length s.rc, .string s.note]
def Sb.val (s : Sb) : Value := .agg s.cells
structure Sb.Reads (s : Sb) (w : World) : Prop where
 m : Kd.C k86 w s.ma s.L.length s.L
 ml : s.L.length ≤ s.mc
 r : Kd.C k51 w s.ra s.R.length s.R
 rl : s.R.length ≤ s.rc
theorem Sb.Reads.below {s : Sb} {w w' : World} (h : s.Reads w) (hb : Below w.heap.size w w') : s.Reads w' := ⟨Kd.C_below h.m hb, h.ml, Kd.C_below h.r hb, h.rl⟩
def SeqOk (L : List S86) : Prop := ∀ x ∈ L, 1 ≤ x.f1.f0
set_option maxRecDepth 100000 in
set_option maxHeartbeats 4000000 in
theorem ZdX (s : Sb) (w : World) (hr : s.Reads w) (hL : Okm s.L) (hs : SeqOk s.L) : Calls Tryz.prog 87 #[s.val] w fun e w' => ∃ b, e = .returned (.map (some b)) ∧ w.heap.size ≤ b ∧ CMap w' b 64 (cntE [] s.L) ∧ Below w.heap.size w w' := by
 have HR := Aside0.mk hr.m
 have HL := Aside0.mk hL
 have HS := Aside0.mk hs
 have hln := hL.len
 have hmm := @run_makeMap Tryz.prog
 have hu105 := Tryz.underlying105
 have hu86 := Tryz.underlying86
 have hu84 := Tryz.underlying84
 have hu70 := Tryz.underlying70
 have hu34 := Tryz.underlying34
 have hu3 := Tryz.underlying3
 obtain ⟨key, ep, sq, up, sz, ma, mc, L, ra, rc, R, nt⟩ := s
 simp only at HR HL HS hln
 unfold Sb.val Sb.cells
 simp only
 clear hr hL hs
 generalize R.length = nR
 have hbx := Zas w (.cells #[.int .u64 key, .int .i64 ep, .int .i64 sq, .int .i64 up, .int .i64 sz, .slice ma L.length mc, .slice ra nR rc, .string nt] 34)
 have ba := Zab (Below.refl _ w) (.cells #[.int .u64 key, .int .i64 ep, .int .i64 sq, .int .i64 up, .int .i64 sz, .slice ma L.length mc, .slice ra nR rc, .string nt] 34)
 have hs0 : (w.alloc (.cells #[.int .u64 key, .int .i64 ep, .int .i64 sq, .int .i64 up, .int .i64 sz, .slice ma L.length mc, .slice ra nR rc, .string nt] 34)).heap.size = w.heap.size + 1 := by simp
 have HM0 : Aside0 (CMap ((w.alloc (.cells #[.int .u64 key, .int .i64 ep, .int .i64 sq, .int .i64 up, .int .i64 sz, .slice ma L.length mc, .slice ra nR rc, .string nt] 34)).alloc (.map #[] 0)) (w.alloc (.cells #[.int .u64 key, .int .i64 ep, .int .i64 sq, .int .i64 up, .int .i64 sz, .slice ma L.length mc, .slice ra nR rc, .string nt] 34)).heap.size 0 []) := ⟨by simp, _, World.ownsMap_made _ Tryz.prog 3 intR, CntOf.nil⟩
 rw [hs0] at HM0
 have bm := Zab (Below.refl _ (w.alloc (.cells #[.int .u64 key, .int .i64 ep, .int .i64 sq, .int .i64 up, .int .i64 sz, .slice ma L.length mc, .slice ra nR rc, .string nt] 34))) (.map #[] 0)
 have c5 := (Zaa (Zag hbx bm) 5).trans (rfl : _ = some (Value.slice ma L.length mc))
 have HB0 := Aside0.mk (Zae ba bm)
 clear hbx ba bm hs0
 go_enter Tryz.func87, Tryz.ntmps87
 go_wp2_with (fail)
 generalize (w.alloc (.cells #[.int .u64 key, .int .i64 ep, .int .i64 sq, .int .i64 up, .int .i64 sz, .slice ma L.length mc, .slice ra nR rc, .string nt] 34)).alloc (.map #[] 0) = w1 at HM0 HB0 c5 ⊢
 obtain ⟨b, hb⟩ : ∃ b, w.heap.size + 1 = b := ⟨_, rfl⟩
 rw [hb] at HM0 ⊢
 have HBb := Aside0.mk (show w.heap.size ≤ b by omega)
 clear hb c5
 go_loopg [10] L.length (fun kx v10 wr => ∃ (i : Nat) (T : List S51), v10 = .int .i64 (i : Int) ∧ i ≤ L.length ∧ L.length - i ≤ kx ∧ Aside0 (Below w.heap.size w wr) ∧ Aside0 (CMap wr b i T) ∧ Aside0 (cntE [] L = cntE T (L.drop i)) ∧ Aside0 (∀ x ∈ T, 0 ≤ x.f1 ∧ x.f1 ≤ 65536 * (i : Int)))
 case atStart => exact ⟨0, [], rfl, Nat.zero_le _, by omega, HB0, HM0, ⟨by simp⟩, ⟨by simp⟩⟩
 case round =>
  obtain ⟨i, T, rfl, hi, hik, HB, HM, HE, HV⟩ := hrel
  by_cases hlt : i < L.length
  ·have hi1 : i + 1 ≤ L.length := hlt
   obtain ⟨ad, rfl, c0, c1, c2, c3⟩ := ZaF (Kd.C_below HR.out HB.out) i hlt
   have hmx := HL.out.canon.1 L[i] (List.getElem_mem hlt)
   have hsx := HS.out L[i] (List.getElem_mem hlt)
   have hdr := Zcx hlt
   as_aux_lemma =>
    generalize L[i] = x at c0 c1 c2 c3 hmx hsx hdr
    have HE2 := Aside0.mk (show cntE [] L = cntE (addE T x) (L.drop (i + 1)) by rw [HE.out, hdr]; rfl)
    have hms := hmx
    obtain ⟨m1, m2, m3, m4, m5, m6, m7⟩ := hms
    have HAd := Aside0.mk (show addE T x = putT ⟨x.f1.f0, valT T x.f1.f0 + x.f0.f1, valT T x.f1.f0 + x.f0.f1⟩ T by unfold addE; rw [if_neg (by omega)])
    obtain ⟨v1, v2⟩ := ZcX (B := 65536 * (i : Int)) HV.out (by omega) x.f1.f0
    have ba := Zab (Below.refl _ wr) (.cells #[.int .i64 x.f0.f0, .int .i64 x.f0.f1, .int .i64 x.f1.f0, .int .i64 x.f1.f1] 86)
    have hM2 := HM.out.below ba
    have HB2 := Aside0.mk (Zdd HB.out HB.out.size ba)
    have hlk := hM2.look (k := x.f1.f0) (wf_of (by omega) (by omega))
    have hcn : CntR ⟨x.f1.f0, valT T x.f1.f0 + x.f0.f1, valT T x.f1.f0 + x.f0.f1⟩ := ⟨hsx, m5, by simp only; omega, by simp only; omega, rfl⟩
    have HCN := Aside0.mk hcn
    have hwr : IntKind.i64.wrap (valT T x.f1.f0 + x.f0.f1) = valT T x.f1.f0 + x.f0.f1 := IntWalk.i64_in _ (by omega)
    have hsz : i < 1000000 := by omega
    have HSo := Aside0.mk (show T.Pairwise (fun x y => x.f0 < y.f0) by obtain ⟨_, D, _, hD⟩ := HM.out; exact hD.1)
    have HNV := Aside0.mk (show valT T x.f1.f0 + x.f0.f1 ≤ 65536 * ((i + 1 : Nat) : Int) ∧ 0 ≤ valT T x.f1.f0 + x.f0.f1 by omega)
    clear hdr hmx ba hcn m1 m2 m3 m4 m5 m6 m7 v1 v2 HE
    go_wp2_with (at_mapUpdate; go_loud (refine wp_putC rfl _ _ _ rfl hM2 hsz ⟨x.f1.f0, valT T x.f1.f0 + x.f0.f1, valT T x.f1.f0 + x.f0.f1⟩ HCN.out rfl rfl rfl ?_); intro w6 hT6 hg6)
    go_roundg (gk - 1)
    case measure => omega
    case rel =>
     refine ⟨i + 1, putT ⟨x.f1.f0, valT T x.f1.f0 + x.f0.f1, valT T x.f1.f0 + x.f0.f1⟩ T, by go_num, hi1, by omega, ⟨HB2.out.grown hg6 HB2.out.size (fun j hj => by obtain rfl := Option.some.inj hj; exact HBb.out)⟩, ⟨hT6⟩, ⟨by rw [HE2.out, HAd.out]⟩, ⟨fun y hy => ?_⟩⟩
     rcases (ZaI HSo.out).1 hy with rfl | ⟨hy, _⟩
     ·have := HNV.out
      simp only
      omega
     ·have := HV.out y hy
      omega
  ·have hil : i = L.length := by omega
   subst hil
   have HEf := Aside0.mk (show T = cntE [] L by rw [HE.out, List.drop_length]; rfl)
   as_aux_lemma =>
    go_wp2_with (fail)
    go_ret
    exact ⟨b, rfl, HBb.out, by rw [← HEf.out]; exact HM.out.mono (by omega), HB.out⟩
theorem CntOf.del {D : DataW Unit} {T : List S51} {k : Int} (h : CntOf D T) : CntOf (D.del (.int .i64 k)) (T.filter fun x => x.f0 != k) := by
 obtain ⟨h1, h2, h3, h4⟩ := h
 refine ⟨h1.filter _, fun x hx => h2 x (List.mem_filter.1 hx).1, fun kl => ?_, fun x hx zd => ?_⟩
 ·by_cases he : kl = .int .i64 k
  ·subst he
   rw [has_del_same]
   simp only [Bool.false_eq_true, false_iff]
   rintro ⟨x, hx, e⟩
   injection e with _ e
   have := (List.mem_filter.1 hx).2
   simp at this
   exact this e.symm
  ·rw [has_del_other he, h3]
   constructor
   ·rintro ⟨x, hx, rfl⟩
    exact ⟨x, List.mem_filter.2 ⟨hx, by simp; intro e; exact he (by rw [e])⟩, rfl⟩
   ·rintro ⟨x, hx, rfl⟩
    exact ⟨x, (List.mem_filter.1 hx).1, rfl⟩
 ·obtain ⟨q1, q2⟩ := List.mem_filter.1 hx
  rw [atKey_del_other (by simp at q2; simpa using q2)]
  exact h4 x q1 zd
theorem CMap.len {w : World} {b N : Nat} (h : CMap w b N []) (ty : TypeId) : (Builtin.len_ #[105] ty #[.map (some b)]).run Tryz.prog w = .ok (.int .i64 0) w := by
 obtain ⟨_, D, hown, hD⟩ := h
 have h1 := hown.len Tryz.underlying105 ty
 have h2 : Maps.size D = 0 := by
  obtain ⟨es, rfl, _, hk⟩ := hown.entries keyed3
  cases es with
  | nil => rfl
  | cons p es =>
   have h3 := (hD.2.2.1 p.1)
   have h4 := hk p (by simp)
   have h5 : Maps.has (DataW.map (p :: es)) p.1 = true := by
    rw [Maps.has_eq, List.any_cons]
    have : p.1.sameKey p.1 = true := by
     generalize p.1 = q at h4
     cases q <;> simp [WideAt.IsKeyLit] at h4 <;> simp [Lit.sameKey]
    rw [this]
    rfl
   obtain ⟨x, hx, _⟩ := h3.1 h5
   simp at hx
 rw [h1, h2]
 rfl
def behindT (T : List S51) (i : Nat) : List S51 := T.filter fun x => decide ((i : Int) < x.f0)
theorem behindT_step (T : List S51) (i : Nat) : (behindT T i).filter (fun x => x.f0 != ((i : Int) + 1)) = behindT T (i + 1) := by
 unfold behindT
 rw [List.filter_filter]
 apply List.filter_congr
 intro x _
 by_cases h : ((i + 1 : Nat) : Int) < x.f0
 ·rw [decide_eq_true h, decide_eq_true (by omega)]
  simp
  omega
 ·rw [decide_eq_false h]
  simp only [Bool.and_eq_false_iff, decide_eq_false_iff_not, bne_eq_false_iff_eq]
  omega
theorem behindT_val (T : List S51) (i : Nat) : valT (behindT T i) ((i : Int) + 1) = valT T ((i : Int) + 1) := by
 refine ZcB ?_
 unfold findT behindT
 induction T with
 | nil => rfl
 | cons x T ih =>
  rw [List.filter_cons]
  by_cases h : (i : Int) < x.f0
  ·rw [if_pos (decide_eq_true h), List.find?_cons, List.find?_cons, ih]
  ·rw [if_neg (by simpa using h), ih, List.find?_cons]
   have : (x.f0 == (i : Int) + 1) = false := by simp; omega
   rw [this]
theorem cntE_mem {L : List S86} : ∀ {T : List S51}, T.Pairwise (fun x y => x.f0 < y.f0) → ∀ y ∈ cntE T L, y ∈ T ∨ (∃ z ∈ T, z.f0 = y.f0) ∨ ∃ x ∈ L, x.f1.f0 = y.f0 := by
 induction L with
 | nil => intro T _ y hy; exact .inl hy
 | cons x l ih =>
  intro T hT y hy
  rcases ih (Zef hT x) y hy with h | ⟨z, h, e⟩ | ⟨z, h, e⟩
  ·unfold addE at h
   split at h
   ·exact .inl h
   ·rcases (ZaI hT).1 h with rfl | ⟨h, _⟩
    ·exact .inr (.inr ⟨x, by simp, rfl⟩)
    ·exact .inl h
  ·unfold addE at h
   split at h
   ·exact .inr (.inl ⟨z, h, e⟩)
   ·rcases (ZaI hT).1 h with rfl | ⟨h, _⟩
    ·exact .inr (.inr ⟨x, by simp, e⟩)
    ·exact .inr (.inl ⟨z, h, e⟩)
  ·exact .inr (.inr ⟨z, by simp [h], e⟩)
theorem behindT_all {ns : List Int} {L : List S86} (h : Ivt ns L) : behindT (cntE [] L) ns.length = [] := by
 unfold behindT
 rw [List.filter_eq_nil_iff]
 intro y hy
 rcases cntE_mem (T := []) List.Pairwise.nil y hy with q | ⟨z, q, _⟩ | ⟨x, hx, e⟩
 ·simp at q
 ·simp at q
 ·obtain ⟨j, hj, h1, _⟩ := h.mem hx
  simp
  omega
theorem behindT_zero {ns : List Int} {L : List S86} (h : Ivt ns L) : behindT (cntE [] L) 0 = cntE [] L := by
 unfold behindT
 rw [List.filter_eq_self]
 intro y hy
 rcases cntE_mem (T := []) List.Pairwise.nil y hy with q | ⟨z, q, _⟩ | ⟨x, hx, e⟩
 ·simp at q
 ·simp at q
 ·obtain ⟨j, hj, h1, _⟩ := h.mem hx
  simp
  omega
theorem Ivt.seqOk {ns : List Int} {L : List S86} (h : Ivt ns L) : SeqOk L := fun x hx => by
 obtain ⟨j, hj, h1, _⟩ := h.mem hx
 omega
structure Sb.Ok (s : Sb) (ns : List Int) : Prop where
 inv : Ivt ns s.L
 rows : s.R = rowsOf s.L ns
 key : 0 ≤ s.key ∧ s.key ≤ 18446744073709551615
 epoch : 1 ≤ s.epoch ∧ s.epoch < 1099511627776
 seq : s.seq = (ns.length : Int)
 few : ns.length ≤ 12
 upto : 0 ≤ s.upto ∧ s.upto < 1099511627776
 size : s.size = 64
 note : s.note.size ≤ 1000
set_option maxRecDepth 100000 in
set_option maxHeartbeats 4000000 in
theorem rowed_calls (s : Sb) (ns : List Int) (w : World) (hr : s.Reads w) (hs : s.Ok ns) : Calls Tryz.prog 82 #[s.val] w fun e w' => e = .returned (.bool true) ∧ Below w.heap.size w w' := by
 have HLv := Aside0.mk (fun W (hb : Below w.heap.size w W) => ZdX s W (hr.below hb) hs.inv.ok hs.inv.seqOk)
 have HR := Aside0.mk hr.r
 have HI := Aside0.mk hs.inv
 have HRw := Aside0.mk hs.rows
 have hsq := Aside0.mk hs.seq
 have hfw := hs.few
 have hu105 := Tryz.underlying105
 have hu51 := Tryz.underlying51
 have hu34 := Tryz.underlying34
 have hu3 := Tryz.underlying3
 obtain ⟨key, ep, sq, up, sz, ma, mc, L, ra, rc, R, nt⟩ := s
 simp only at HR HI HRw hsq
 unfold Sb.val Sb.cells at HLv ⊢
 simp only at HLv ⊢
 clear hr hs
 have hnR := Aside0.mk (show R.length = ns.length by rw [HRw.out, ZaK])
 generalize L.length = nL at HLv ⊢
 have ba := Zab (Below.refl _ w) (.cells #[.int .u64 key, .int .i64 ep, .int .i64 sq, .int .i64 up, .int .i64 sz, .slice ma nL mc, .slice ra R.length rc, .string nt] 34)
 have hbx := Zas w (.cells #[.int .u64 key, .int .i64 ep, .int .i64 sq, .int .i64 up, .int .i64 sz, .slice ma nL mc, .slice ra R.length rc, .string nt] 34)
 have HBX := Aside0.mk hbx
 have HBA := Aside0.mk ba
 have q0 := (Zaa hbx 0).trans (rfl : _ = some (Value.int .u64 key))
 have q1 := (Zaa hbx 1).trans (rfl : _ = some (Value.int .i64 ep))
 have q2 := (Zaa hbx 2).trans (rfl : _ = some (Value.int .i64 sq))
 have q3 := (Zaa hbx 3).trans (rfl : _ = some (Value.int .i64 up))
 have q4 := (Zaa hbx 4).trans (rfl : _ = some (Value.int .i64 sz))
 have q5 := (Zaa hbx 5).trans (rfl : _ = some (Value.slice ma nL mc))
 have q6 := (Zaa hbx 6).trans (rfl : _ = some (Value.slice ra R.length rc))
 have q7 := (Zaa hbx 7).trans (rfl : _ = some (Value.string nt))
 clear ba hbx
 go_enter Tryz.func82, Tryz.ntmps82
 go_wp2_with (fail)
 refine (HLv.out _ HBA.out).mono ?_
 rintro e w1 ⟨b, rfl, hbb, hM, hb⟩
 have HB1 := Aside0.mk (Zae HBA.out hb)
 have HX1 := Aside0.mk (Zag HBX.out hb)
 have HM := Aside0.mk hM
 have r6 := (Zaa HX1.out 6).trans (rfl : _ = some (Value.slice ra R.length rc))
 have hbw : w.heap.size ≤ b ∧ w.heap.size ≠ b := by
  have : (w.alloc (.cells #[.int .u64 key, .int .i64 ep, .int .i64 sq, .int .i64 up, .int .i64 sz, .slice ma nL mc, .slice ra R.length rc, .string nt] 34)).heap.size = w.heap.size + 1 := by simp
  omega
 clear hb hM q0 q1 q2 q3 q4 q5 q6 q7 HLv hbb
 go_wp2_with (fail)
 clear r6
 have HHi := Aside0.mk (show ns.length ≤ 12 from hfw)
 clear hfw
 go_loopg [4, 12] R.length (fun kx v4 v12 wr => ∃ i : Nat, v4 = .int .i64 (i : Int) ∧ v12 = .int .i64 (i : Int) ∧ i ≤ R.length ∧ R.length - i ≤ kx ∧ Aside0 (Below w.heap.size w wr) ∧ Aside0 (wr.heap[w.heap.size]? = some (.cells #[.int .u64 key, .int .i64 ep, .int .i64 sq, .int .i64 up, .int .i64 sz, .slice ma nL mc, .slice ra R.length rc, .string nt] 34)) ∧ Aside0 (CMap wr b 64 (behindT (cntE [] L) i)))
 case atStart => exact ⟨0, rfl, rfl, Nat.zero_le _, by omega, HB1, HX1, ⟨by rw [behindT_zero HI.out]; exact HM.out⟩⟩
 case round =>
  obtain ⟨i, rfl, rfl, hi, hik, HB, HBK, HMi⟩ := hrel
  by_cases hlt : i < R.length
  ·have hi1 : i + 1 ≤ R.length := hlt
   have hin : i < ns.length := by have := hnR.out; omega
   obtain ⟨ad, rfl, c0, c1, c2⟩ := ZbN (Kd.C_below HR.out HB.out) i hlt
   have hge : R[i] = ⟨(i : Int) + 1, ns[i], lenQ ((i : Int) + 1) L⟩ := by
    have := Zbj L ns i hin
    rw [← this]
    congr 1
    exact HRw.out
   rw [hge] at c0 c1 c2
   obtain ⟨l1, l2⟩ := HI.out.lenQ i hin
   obtain ⟨n1, n2⟩ : 0 ≤ ns[i] ∧ ns[i] ≤ 65536 := by have := HI.out.ns ns[i] (List.getElem_mem hin); omega
   have hsi : (i : Int) + 1 ≤ sq := by rw [hsq.out]; omega
   have hs2 : sq ≤ 12 := by rw [hsq.out]; have := HHi.out; omega
   have hvl : valT (behindT (cntE [] L) i) ((i : Int) + 1) = lenQ ((i : Int) + 1) L := by
    rw [behindT_val, cnt_val List.Pairwise.nil _ (by omega)]
    show 0 + _ = _
    omega
   generalize ns[i] = n at c1 n1 n2 l2
   generalize lenQ ((i : Int) + 1) L = q at c2 l1 l2 hvl
   simp only at c0 c1 c2
   as_aux_lemma =>
    have ba := Zab (Below.refl _ wr) (.cells #[.int .i64 ((i : Int) + 1), .int .i64 n, .int .i64 q] 51)
    have hM2 := HMi.out.below ba
    have hlk := hM2.look (k := (i : Int) + 1) (wf_of (by omega) (by omega))
    rw [hvl] at hlk
    have HB2 := Aside0.mk (Zdd HB.out HB.out.size ba)
    have HX2 := Aside0.mk (Zag HBK.out ba)
    have f2 := (Zaa HX2.out 2).trans (rfl : _ = some (Value.int .i64 sq))
    have HM2 := Aside0.mk hM2
    have hk := Aside0.mk (keyOf_int_mk Tryz.underlying3 (show (Lit.int .i64 ((i : Int) + 1)).wf = true from wf_of (by omega) (by omega)))
    clear ba hM2 hvl
    obtain ⟨hNT, D, hown, hD⟩ := HM2.out
    have HD := Aside0.mk hD
    have HNT := Aside0.mk hNT
    clear hD hNT
    have hkw : Aside0 ((Lit.int .i64 ((i : Int) + 1)).wf = true) := ⟨wf_of (by omega) (by omega)⟩
    go_wp2_with (at_delete; refine wpList_delete_own _ rfl _ _ 105 3 rfl 3 keyed3 Tryz.underlying105 intR b 64 D rfl hown _ _ rfl (keyOf_int_mk Tryz.underlying3 hkw.out) ?_; intro w6 hown6 hturn6)
    have hg6 := hturn6.grown
    go_roundg (gk - 1)
    case measure => omega
    case rel =>
     have hb6 := HB2.out.grown hg6 HB2.out.size (fun j hj => by obtain rfl := Option.some.inj hj; exact hbw.1)
     refine ⟨i + 1, by go_num, by go_num, hi1, by omega, ⟨hb6⟩, ⟨?_⟩, ⟨?_⟩⟩
     ·exact Zay HX2.out hg6 (by intro e; exact hbw.2 (Option.some.inj e))
     ·rw [← behindT_step]
      exact ⟨Nat.le_trans (List.length_filter_le _ _) HNT.out, _, hown6, HD.out.del⟩
  ·have hil : i = R.length := by omega
   subst hil
   have hM3 := HMi.out
   rw [hnR.out, behindT_all HI.out] at hM3
   have hln := hM3.len 3
   clear hM3
   as_aux_lemma =>
    go_wp2_with (fail)
    go_ret
    exact ⟨rfl, HB.out⟩
end Go.Proofs.YtpfnaknmalojkaaGreat.PTopRows
