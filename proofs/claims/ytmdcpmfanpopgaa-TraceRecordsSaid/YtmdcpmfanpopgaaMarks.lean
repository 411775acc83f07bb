/- Rows of bytes that a conversion []byte(s) makes: their block bears a mark behind its last cell, so they are told by a word of their own (Kd.B), with the laws that a walk asks of such a row: made, read, written, told as a string, kept. -/
import Derived.Test.YtmdcpmfanpopgaaWMore
import Derived.Test.YtmdcpmfanpopgaaWQPut
import Derived.Lib.ConvBytes
set_option linter.unusedVariables false
set_option linter.unusedSimpArgs false
namespace Go.Proofs.YtmdcpmfanpopgaaW.PrintWords
open Go.RowKit
namespace Kd

def B (_d : Kd Int) (e : Nat) (w : World) (base : Nat) (ok : Nat → Prop) (v : Value) (xs : List Int) : Prop :=
  (∀ k, v.ownBlock = some k → ok k) ∧ ∃ g cap cur, v = .slice (some ⟨g, 0, none⟩) xs.length cap ∧ base ≤ g ∧ w.heap[g]? = some (.cells cur e (cur.size, cur.size + 1)) ∧
    xs.length ≤ cap ∧ xs.length ≤ cur.size ∧ xs.length ≤ 9223372036854775807 ∧ ∀ j, j < xs.length → cur[j]? = some (.int .u8 (xs.getD j 0))
section
variable {d : Kd Int} {e : Nat} {w w1 : World} {base : Nat} {ok ok' : Nat → Prop} {v : Value} {xs : List Int}
theorem B_lt (h : B d e w base ok v xs) : ∀ k, v.ownBlock = some k → k < w.heap.size := by
  obtain ⟨h0, g, cap, cur, rfl, hb, hh, r⟩ := h
  intro k hk
  have e' : g = k := by simpa [Value.ownBlock] using hk
  subst e'
  rcases Nat.lt_or_ge g w.heap.size with h' | h'
  · exact h'
  · rw [Array.getElem?_eq_none h'] at hh; cases hh
theorem B_mono (h : B d e w base ok v xs) (hok : ∀ k, ok k → ok' k) : B d e w base ok' v xs := ⟨fun k hk => hok k (h.1 k hk), h.2⟩
theorem B_lower {base' : Nat} (h : B d e w base ok v xs) (hb : base' ≤ base) : B d e w base' ok v xs := by
  obtain ⟨h0, g, cap, cur, he, hg, r⟩ := h
  exact ⟨h0, g, cap, cur, he, Nat.le_trans hb hg, r⟩
theorem B_step (h : B d e w base ok v xs) (hm : ∀ k, ok k → k < w.heap.size → w1.heap[k]? = w.heap[k]?) : B d e w1 base ok v xs := by
  have hlt := B_lt h
  obtain ⟨h0, g, cap, cur, rfl, hg, hh, r⟩ := h
  exact ⟨h0, g, cap, cur, rfl, hg, (hm g (h0 g rfl) (hlt g rfl)).trans hh, r⟩
theorem B_below (h : B d e w base ok v xs) (hb : Below w.heap.size w w1) : B d e w1 base ok v xs := B_step h (fun k _ hk => hb.block k hk)
theorem B_alloc (h : B d e w base ok v xs) (o : Obj) : B d e (w.alloc o) base ok v xs := B_below h (below_alloc (Below.refl _ _) o)
theorem B_drew (h : B d e w base ok v xs) : B d e w.drew base ok v xs := B_below h (below_drew (Below.refl _ _))
theorem B_drewN (h : B d e w base ok v xs) (m : Nat) : B d e (w.drewN m) base ok v xs := B_below h (pw_below_drewN (Below.refl _ _) m)
theorem B_base (h : B d e w base ok v xs) : ∀ k, v.ownBlock = some k → base ≤ k := by
  obtain ⟨h0, g, cap, cur, rfl, hg, r⟩ := h
  intro k hk
  have e' : g = k := by simpa [Value.ownBlock] using hk
  subst e'
  exact hg
theorem B_far {p : Addr} (h : B d e w base ok v xs) (hok : ∀ k, ok k → k ≠ p.block) (u : Value) : B d e (w.setCell p u) base ok v xs := B_step h (fun k ho _ => Below.heap_setCell w p u k (hok k ho))
theorem B_grown (h : B d e w base ok v xs) {row : Option Nat} (hg : w.grownBy w1 row) (hok : ∀ k, ok k → some k ≠ row) : B d e w1 base ok v xs := B_step h (fun k ho hk => hg.block k hk (hok k ho))
theorem B_slice (h : B d e w base ok v xs) : ∃ A c, v = .slice A xs.length c := by
  obtain ⟨_, g, cap, _, he, _⟩ := h
  exact ⟨_, cap, he⟩
theorem B_form (h : B d e w base ok v xs) (_hp : 0 < xs.length) : ∃ g cap, v = .slice (some ⟨g, 0, none⟩) xs.length cap ∧ base ≤ g ∧ g < w.heap.size ∧ ∃ cells fr, w.heap[g]? = some (.cells cells e fr) := by
  have hlt := B_lt h
  obtain ⟨h0, g, cap, cur, rfl, hg, hh, r⟩ := h
  exact ⟨g, cap, rfl, hg, hlt g rfl, cur, _, hh⟩
theorem B_typed (h : B d e w base ok v xs) : ∀ k, v.ownBlock = some k → ∃ cells fr, w.heap[k]? = some (.cells cells e fr) := by
  obtain ⟨h0, g, cap, cur, rfl, hg, hh, r⟩ := h
  intro k hk
  have e' : g = k := by simpa [Value.ownBlock] using hk
  subst e'
  exact ⟨cur, _, hh⟩
theorem B_reads {A : Option Addr} {n c : Nat} (h : B d e w base ok (.slice A n c) xs) : ReadsInt w .u8 A xs.length xs := by
  obtain ⟨h0, g, cap, cur, he, hg, hh, h1, h2, h3, h4⟩ := h
  injection he with e1 e2 e3
  subst e1
  refine ⟨rfl, h3, fun _ => ⟨_, rfl, fun j hj => ?_⟩⟩
  rw [add_plain, ← h4 j hj]
  exact cell_of_row w g j cur e _ hh
theorem B_reads' {A : Option Addr} {n c : Nat} (h : B d e w base ok (.slice A n c) xs) : n = xs.length ∧ n ≤ c ∧ (Kd.int .u8).C w A xs.length xs := by
  refine ⟨?_, ?_, C_of_reads (d := (0 : Int)) (h1 := fun _ => rfl) (B_reads h)⟩
  · obtain ⟨h0, g, cap, cur, he, _⟩ := h
    injection he with _ e2 _
  · obtain ⟨h0, g, cap, cur, he, _, _, h1, _⟩ := h
    injection he with _ e2 e3
    omega
theorem B_celln (z : Int) {g n cap : Nat} (h : B d e w base ok (.slice (some ⟨g, 0, none⟩) n cap) xs) (i : Int) (h0 : 0 ≤ i) (hi : i < n) : w.cell? ⟨g, i.toNat, none⟩ = some (.int .u8 (rdOf z xs i)) ∧ w.frozen? ⟨g, i.toNat, none⟩ = false := by
  obtain ⟨_, g', cap', cur, he, hg, hh, h1, h2, h3, h4⟩ := h
  injection he with e1 e2 e3
  injection e1 with e1
  injection e1 with e1
  subst e1
  have hj : i.toNat < xs.length := by omega
  constructor
  · rw [cell_of_row w g i.toNat cur e _ hh, h4 _ hj]
    unfold rdOf
    simp [List.getD_eq_getElem?_getD, List.getElem?_eq_getElem hj]
  · simp [World.frozen?, hh]
    omega
theorem B_putg {g n cap : Nat} (h : B d e w base ok (.slice (some ⟨g, 0, none⟩) n cap) xs) (i : Int) (x : Int) : B d e (w.setCell ⟨g, i.toNat, none⟩ (.int .u8 x)) base ok (.slice (some ⟨g, 0, none⟩) n cap) (xs.set i.toNat x) ∧ w.grownBy (w.setCell ⟨g, i.toNat, none⟩ (.int .u8 x)) (some g) := by
  obtain ⟨h0, g', cap', cur, he, hg, hh, h1, h2, h3, h4⟩ := h
  injection he with e1 e2 e3
  injection e1 with e1
  injection e1 with e1
  subst e1
  subst e2
  refine ⟨⟨h0, g, cap, cur.setIfInBounds i.toNat (.int .u8 x), by rw [List.length_set], hg, ?_, by rw [List.length_set]; omega, by rw [List.length_set, Array.size_setIfInBounds]; exact h2, by rw [List.length_set]; exact h3, fun j hj => ?_⟩, ⟨rfl, rfl, rfl, by simp, fun k _ hk => Below.heap_setCell _ _ _ k (fun e => hk (by rw [e]))⟩⟩
  · simp only [World.setCell, Array.getElem?_modify, hh, if_true, Option.map_some, Array.size_setIfInBounds]
    rfl
  · rw [List.length_set] at hj
    rw [Array.getElem?_setIfInBounds]
    by_cases hij : i.toNat = j
    · subst hij
      have hs : i.toNat < cur.size := by omega
      simp [hs, List.getD_eq_getElem?_getD, hj]
    · rw [if_neg hij, h4 j hj]
      simp [List.getD_eq_getElem?_getD, hij]
theorem B_putn {g n cap : Nat} (h : B d e w base ok (.slice (some ⟨g, 0, none⟩) n cap) xs) (i : Int) (x : Int) : B d e (w.setCell ⟨g, i.toNat, none⟩ (.int .u8 x)) base ok (.slice (some ⟨g, 0, none⟩) n cap) (xs.set i.toNat x) := (B_putg h i x).1
theorem B_string {P : Program} {src dst : TypeId} (hs : P.underlying src = some (.slice e)) (he : P.underlying e = some (.int .u8)) (hd : P.underlying dst = some .string) (h : B d e w base ok v xs) : (convert src dst v).run P w = .ok (.string (strOfNums xs)) w := by
  obtain ⟨A, c, rfl⟩ := B_slice h
  exact Kd.C_string hs he hd (B_reads' h).2.2
theorem R_overB' {α : Type} {d' : Kd α} {e' : Nat} {u : Value} {ys : List α} {b : Nat} (h : d'.R e' w b ok u ys) (hty : ∀ k, v.ownBlock = some k → ∃ cells fr, w.heap[k]? = some (.cells cells e fr)) (ht : ∀ q, q ∈ e' :: d'.E → q ≠ e) (hg : w.grownBy w1 v.ownBlock) : d'.R e' w1 b ok u ys := by
  refine R_mono (R_move (R_bound h) (fun k hk => hg.block k hk.2.2.1 (fun he => ?_))) (fun _ hk => hk.1)
  obtain ⟨_, _, _, q, hq, cells, hc⟩ := hk
  obtain ⟨cells', fr, hc'⟩ := hty k he.symm
  rw [hc] at hc'
  injection hc' with hc'
  injection hc' with _ hc'
  exact ht q hq hc'
end
section
variable {P : Program} {ops : Array Oper} {rest : List Oper} {o : Oper} {a : Act} {Q : Exit → Act → World → Prop}
theorem B_conv {w0 W : World} (base e : Nat) (hgd : o.guard = none) {N : Tmp} (_hd : o.dst = some N) (src dst : TypeId) (x : Operand) (ho : o.op = .convert src dst x) (s : ByteArray) (hx : a.eval x = .string s) {u : TypeDesc}
    (hs : P.underlying src = some u) (hdst : P.underlying dst = some (.slice e)) (he : P.underlying e = some (.int .u8)) {ok : Nat → Prop} (hok : ok W.heap.size) (hsz : s.size ≤ 9223372036854775807) (HB : Below base w0 W) (hbase : base ≤ W.heap.size)
    (h : ∀ v1 w1, B (Kd.int .u8) e w1 base ok v1 (bytesOf s) → Below base w0 w1 → W.grownBy w1 none → (∃ b, v1.ownBlock = some b ∧ W.heap.size ≤ b) → wpList P ops Q rest (a.put o.dst v1) w1) : wpList P ops Q (o :: rest) a W := by
  have hrun : (execOp a.eval o).run P W = .ok (.value (.slice (some ⟨W.heap.size, 0, none⟩) s.size (grownCap W s.size 0 e))) (Lib.bytesWorld W e s) := by
    have hr := Lib.run_convert_string_bytes (P := P) W src dst e s hs hdst he
    simp [execOp, ho, hx, hr]
  refine event_run hgd hrun (h _ _ ⟨fun k hk => ?_, W.heap.size, grownCap W s.size 0 e, Lib.bytesCells W e s, by rw [bytesOf_length], hbase, Lib.bytesWorld_at_new W e s, by rw [bytesOf_length]; exact grownCap_ge W s.size 0 e, ?_, by rw [bytesOf_length]; exact hsz, fun j hj => ?_⟩ (bytes_below HB hbase e s) ⟨rfl, rfl, rfl, by rw [Lib.bytesWorld_size]; omega, fun k hk _ => Lib.bytesWorld_at_old W e s k hk⟩ ⟨W.heap.size, by simp [Value.ownBlock], Nat.le_refl _⟩)
  · have : W.heap.size = k := by simpa [Value.ownBlock] using hk
    subst this
    exact hok
  · rw [bytesOf_length]; simp [Lib.bytesCells]
  · have hj' : j < s.data.toList.length := by rw [← bytesOf_length s] at *; simpa [bytesOf] using hj
    have hj2 : j < s.data.size := by simpa using hj'
    have hj3 : j < s.size := hj2
    simp [Lib.bytesCells, bytesOf, Array.getElem?_append, hj2, hj3, List.getD_eq_getElem?_getD]
end
end Kd
end Go.Proofs.YtmdcpmfanpopgaaW.PrintWords
