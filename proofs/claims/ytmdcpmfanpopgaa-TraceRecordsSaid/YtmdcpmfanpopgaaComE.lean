/- Written by wip/tools/genrect.py: the walk of the law TraceRecords behind its first Get. -/
import Derived.Test.YtmdcpmfanpopgaaComC
import Derived.Test.YtmdcpmfanpopgaaComD
namespace Go.Proofs.Ytmdcpmfanpopgaa
open Go Go.Conc Go.RowKit Go.Proofs.Ytmdcpmfanpopgaa.M Go.Proofs.Ytmdcpmfanpopgaa.B Go.Proofs.YtmdcpmfanpopgaaW.PrintWords Go.Proofs.YtmdcpmfanpopgaaW.PrintLast Go.Proofs.YtmdcpmfanpopgaaW.PrintMore
set_option linter.unusedSimpArgs false
set_option linter.unusedVariables false

/-- What the law comes to: its return with true. -/
abbrev QT (W : World) (g : Goroutine) (w : World) : Prop := ∃ T todo, g = G { (base 6).at ⟨T, []⟩ todo with mode := .returning } [] ∧ T.getD 8 undef = .bool true ∧ Below W.heap.size W w

/-- The two records' blocks. -/
structure RS (W : World) (p q : Nat) (va vb : Array Value) (w : World) : Prop where
  lp : W.heap.size ≤ p
  lq : W.heap.size ≤ q
  below : Below W.heap.size W w
  p : w.heap[p]? = some (.cells va 27 (0, 0))
  q : w.heap[q]? = some (.cells vb 27 (0, 0))
theorem RS.next {W w w' : World} {p q : Nat} {va vb : Array Value} (h : RS W p q va vb w) (hb : Below w.heap.size w w') : RS W p q va vb w' :=
  ⟨h.lp, h.lq, below_step' h.below h.below.size hb, by rw [hb.block p (Array.getElem?_eq_some_iff.1 h.p).1]; exact h.p, by rw [hb.block q (Array.getElem?_eq_some_iff.1 h.q).1]; exact h.q⟩
theorem chain_false {α : Sort _} {c1 c2 c3 c4 : Prop} [Decidable c1] [Decidable c2] [Decidable c3] [Decidable c4] {t r : α} (h : ¬(c1 ∧ c2 ∧ c3 ∧ c4)) : (if c1 then if c2 then if c3 then if c4 then t else r else r else r else r) = r := by
  by_cases h1 : c1 <;> by_cases h2 : c2 <;> by_cases h3 : c3 <;> by_cases h4 : c4 <;> simp_all
/-- The three blocks. -/
abbrev RC3 (W : World) (p q c : Nat) (va vb : Array Value) (w : World) : Prop := RS W p q va vb w ∧ w.heap[c]? = some (.cells va 27 (0, 0))
theorem RC3.next {W w w' : World} {p q c : Nat} {va vb : Array Value} (h : RC3 W p q c va vb w) (hb : Below w.heap.size w w') : RC3 W p q c va vb w' :=
  ⟨h.1.next hb, by rw [hb.block c (Array.getElem?_eq_some_iff.1 h.2).1]; exact h.2⟩
theorem more_ne (P : ByteArray) : P.toList ≠ (P ++ ⟨#[0]⟩ : ByteArray).toList := by
  intro h
  rw [L_toList, L_toList] at h
  have := congrArg List.length h
  rw [L_append, List.length_append] at this
  simp [L] at this
theorem sm_at {n : Int} (h0 : 0 ≤ n) (h1 : n < 65536) : Sm n := ⟨by omega, by omega⟩
theorem B.InOk.sm0 {x : S25} (h : InOk x) : Sm x.f0 := ⟨by have := h.k0; omega, by have := h.k1; omega⟩
theorem B.InOk.sm1 {x : S25} (h : InOk x) : Sm x.f1 := ⟨by have := h.n0; omega, by have := h.n1; omega⟩

noncomputable def c6 : Code := Try.f6.body.getD .skip
noncomputable def rest6 : Code := rgt (rgt (rgt (rgt (rgt (rgt (rgt c6))))))

set_option maxHeartbeats 2000000 in
set_option maxRecDepth 100000 in
theorem rec_tail {W : World} {p q cc : Nat} {PA PB : ByteArray} {at_ bt : Int} {x y : S25} {j0 j1 j2 j3 j4 j5 j6 j7 j9 j10 j19 j20 j21 j22 j23 j24 j25 j26 j27 j28 j29 j30 j31 j32 j33 j34 j35 j36 j37 j38 j39 j40 j41 j42 j43 j44 j45 j46 j47 j48 j49 j50 j51 j52 j53 j54 j55 j56 j57 j58 j59 j60 j61 j62 j63 j64 j65 j66 j67 j68 j69 j70 j71 j72 j73 j74 j75 j76 j77 j78 j79 j80 j81 j82 j83 j84 j85 j86 j87 j88 j89 j90 j91 j92 j93 j94 j95 j96 j97 j98 j99 j100 j101 j102 j103 j104 j105 j106 j107 j108 j109 j110 j111 j112 j113 j114 : Value} (w7 : World) (hRA : RecF at_ x.f0 x.f1 x.f2 PA) (hRB : RecF bt y.f0 y.f1 y.f2 PB) (g4 : RS W p q #[.int .i64 at_, .int .i64 x.f0, .int .i64 x.f1, .string x.f2] #[.int .i64 bt, .int .i64 y.f0, .int .i64 y.f1, .string y.f2] w7) (hcc : w7.heap[cc]? = some (.cells #[.int .i64 at_, .int .i64 x.f0, .int .i64 x.f1, .string x.f2] 27 (0, 0))) :
    GoesW Try.prog true DM (fun g w => Reach g w (QT W)) (G ((base 6).at ⟨#[j0, j1, j2, j3, j4, j5, j6, j7, .bool false, j9, j10, .pointer (some ⟨p, 0, none⟩), .pointer (some ⟨q, 0, none⟩), .string PA, .int .i64 0, .string PB, .int .i64 0, .pointer (some ⟨cc, 0, none⟩), .int .i64 0, j19, j20, j21, j22, j23, j24, j25, j26, j27, j28, j29, j30, j31, j32, j33, j34, j35, j36, j37, j38, j39, j40, j41, j42, j43, j44, j45, j46, j47, j48, j49, j50, j51, j52, j53, j54, j55, j56, j57, j58, j59, j60, j61, j62, j63, j64, j65, j66, j67, j68, j69, j70, j71, j72, j73, j74, j75, j76, j77, j78, j79, j80, j81, j82, j83, j84, j85, j86, j87, j88, j89, j90, j91, j92, j93, j94, j95, j96, j97, j98, j99, j100, j101, j102, j103, j104, j105, j106, j107, j108, j109, j110, j111, j112, j113, j114], []⟩ [.code rest6]) []) w7 := by
  simp only [rest6, c6, Try.f6, Option.getD_some, rgt]
  have hsz : (9223372036854775807 < PA.size + 1) = False := eq_false (by have := hRA.size.2; omega)
  refine gw_seq ?_
  refine gw_region _ rfl ?_
  simp only [List.size_toArray, List.length_cons, List.length_nil, Nat.reduceAdd, Nat.zero_add, List.range, List.range.loop]
  refine gw_op rfl (by rfl) (by decide) rfl (fun K hK => ?_)
  go_simp
  refine hK _ _ rfl ?_
  clear hK K
  try walk_nrm
  refine gw_op rfl (by rfl) (by decide) rfl (fun K hK => ?_)
  go_simp
  refine hK _ _ rfl ?_
  clear hK K
  try walk_nrm
  have hmore := hRA.more
  have hne := more_ne PA
  generalize (PA ++ ⟨#[0]⟩ : ByteArray) = s1 at hmore hne ⊢
  obtain ⟨a1, a2, a3, a4, k1, k2, k3, k4⟩ := hmore
  refine gw_into (args := #[.string s1]) rfl (by rfl) (by decide) rfl Try.func14 rfl (by kernel_rfl) (by simp only [List.map_toArray, List.map_cons, List.map_nil, Act.eval] <;> rfl) ?_
  refine get_walk 100 s1 x.f2 PA at_ x.f0 x.f1 a1 a2 a3 a4 0 _ _ _ k1 k2 k3 k4 (fun _ => hRA.put) zero27 4 (.inr (.inl ⟨rfl, hne, rfl, rfl⟩)) ?_
  intro w8 hb
  have g5 := g4.next hb
  have hcc' := (hb.block _ (Array.getElem?_eq_some_iff.1 hcc).1).trans hcc
  clear hb g4 hcc w7 k1 k2 k3 k4 a1 a2 a3 a4
  rw [finish_op rfl]
  simp only [zero27]
  try walk_nrm
  refine gw_op rfl (by rfl) (by decide) rfl (fun K hK => ?_)
  go_simp
  refine hK _ _ rfl ?_
  clear hK K
  try walk_nrm
  refine gw_op rfl (by rfl) (by decide) rfl (fun K hK => ?_)
  go_simp
  refine hK _ _ rfl ?_
  clear hK K
  try walk_nrm
  refine gw_op rfl (by rfl) (by decide) rfl (fun K hK => ?_)
  go_simp
  refine hK _ _ rfl ?_
  clear hK K
  try walk_nrm
  refine gw_op rfl (by rfl) (by decide) rfl (fun K hK => ?_)
  go_simp
  refine hK _ _ rfl ?_
  clear hK K
  try walk_nrm
  refine gw_op rfl (by rfl) (by decide) rfl (fun K hK => ?_)
  go_simp
  refine hK _ _ rfl ?_
  clear hK K
  try walk_nrm
  refine gw_op rfl (by rfl) (by decide) rfl (fun K hK => ?_)
  go_simp
  refine hK _ _ rfl ?_
  clear hK K
  try walk_nrm
  refine gw_region_end ?_
  refine gw_seq ?_
  have g6 : RS W p q #[.int .i64 at_, .int .i64 x.f0, .int .i64 x.f1, .string x.f2] #[.int .i64 bt, .int .i64 y.f0, .int .i64 y.f1, .string y.f2] (w8.alloc (.cells #[.int .i64 0, .int .i64 0, .int .i64 0, .string ⟨#[]⟩] 27)) := g5.next ((Below.refl _ _).alloc (Nat.le_refl _) _)
  have hc6 : (w8.alloc (.cells #[.int .i64 0, .int .i64 0, .int .i64 0, .string ⟨#[]⟩] 27)).heap[cc]? = _ := (heap_alloc_lt _ (Array.getElem?_eq_some_iff.1 hcc').1).trans hcc'
  revert g6 hc6
  generalize w8.alloc (.cells #[.int .i64 0, .int .i64 0, .int .i64 0, .string ⟨#[]⟩] 27) = w9
  intro g6 hc6
  clear g5 hcc' hsz hne
  have hsz1 := hRA.size.1
  have hsz2 := hRA.size.2
  have hw1 : IntKind.i64.wrap ((PA.size : Int) - 1) = (PA.size : Int) - 1 := by rw [IntKind.wrap_i64]; omega
  have hw2 : IntKind.i64.wrap 1 = 1 := by decide
  have hm1 : ((PA.size : Int) - 1 < 0) = False := eq_false (by omega)
  have hm2 : (0 ≤ (PA.size : Int) - 1) = True := eq_true (by omega)
  have hm3 : ((PA.size : Int) - 1 ≤ (PA.size : Int)) = True := eq_true (by omega)
  have hm4 : ((PA.size : Int) - 1).toNat = PA.size - 1 := by omega
  have hm5 : ((1 : Int) ≤ (PA.size : Int)) = True := eq_true (by omega)
  refine gw_region _ rfl ?_
  simp only [List.size_toArray, List.length_cons, List.length_nil, Nat.reduceAdd, Nat.zero_add, List.range, List.range.loop]
  refine gw_op rfl (by rfl) (by decide) rfl (fun K hK => ?_)
  go_simp
  refine hK _ _ rfl ?_
  clear hK K
  try walk_nrm
  refine gw_op rfl (by rfl) (by decide) rfl (fun K hK => ?_)
  go_simp
  refine hK _ _ rfl ?_
  clear hK K
  try walk_nrm
  refine gw_op rfl (by rfl) (by decide) rfl (fun K hK => ?_)
  go_simp
  refine hK _ _ rfl ?_
  clear hK K
  try walk_nrm
  refine gw_op rfl (by rfl) (by decide) rfl (fun K hK => ?_)
  go_simp
  refine hK _ _ rfl ?_
  clear hK K
  try walk_nrm
  refine gw_op rfl (by rfl) (by decide) rfl (fun K hK => ?_)
  go_simp
  refine hK _ _ rfl ?_
  clear hK K
  try walk_nrm
  refine gw_op rfl (by rfl) (by decide) rfl (fun K hK => ?_)
  go_simp
  refine hK _ _ rfl ?_
  clear hK K
  try walk_nrm
  have hcut := hRA.cut
  clear hw1 hw2 hm1 hm2 hm3 hm4 hm5 hsz1 hsz2
  generalize PA.extract 0 (PA.size - 1) = s2 at hcut ⊢
  obtain ⟨a1, a2, a3, t', a4, k1, k2, k3, k4⟩ := hcut
  refine gw_into (args := #[.string s2]) rfl (by rfl) (by decide) rfl Try.func14 rfl (by kernel_rfl) (by simp only [List.map_toArray, List.map_cons, List.map_nil, Act.eval] <;> rfl) ?_
  refine get_walk 100 s2 t' PA at_ x.f0 x.f1 a1 a2 a3 a4 3 _ _ _ k1 k2 k3 k4 (fun h => by cases h) zero27 4 (.inl ⟨by decide, rfl, rfl⟩) ?_
  intro w10 hb
  have g7 := g6.next hb
  have hc7 := (hb.block _ (Array.getElem?_eq_some_iff.1 hc6).1).trans hc6
  clear hb g6 hc6 w9 k1 k2 k3 k4 a1 a2 a3 a4
  rw [finish_op rfl]
  simp only [zero27]
  try walk_nrm
  refine gw_op rfl (by rfl) (by decide) rfl (fun K hK => ?_)
  go_simp
  refine hK _ _ rfl ?_
  clear hK K
  try walk_nrm
  refine gw_op rfl (by rfl) (by decide) rfl (fun K hK => ?_)
  go_simp
  refine hK _ _ rfl ?_
  clear hK K
  try walk_nrm
  refine gw_op rfl (by rfl) (by decide) rfl (fun K hK => ?_)
  go_simp
  refine hK _ _ rfl ?_
  clear hK K
  try walk_nrm
  refine gw_op rfl (by rfl) (by decide) rfl (fun K hK => ?_)
  go_simp
  refine hK _ _ rfl ?_
  clear hK K
  try walk_nrm
  refine gw_op rfl (by rfl) (by decide) rfl (fun K hK => ?_)
  go_simp
  refine hK _ _ rfl ?_
  clear hK K
  try walk_nrm
  refine gw_op rfl (by rfl) (by decide) rfl (fun K hK => ?_)
  go_simp
  refine hK _ _ rfl ?_
  clear hK K
  try walk_nrm
  refine gw_region_end ?_
  have g8 : RS W p q #[.int .i64 at_, .int .i64 x.f0, .int .i64 x.f1, .string x.f2] #[.int .i64 bt, .int .i64 y.f0, .int .i64 y.f1, .string y.f2] (w10.alloc (.cells #[.int .i64 0, .int .i64 0, .int .i64 0, .string ⟨#[]⟩] 27)) := g7.next ((Below.refl _ _).alloc (Nat.le_refl _) _)
  have hc8 : (w10.alloc (.cells #[.int .i64 0, .int .i64 0, .int .i64 0, .string ⟨#[]⟩] 27)).heap[cc]? = _ := (heap_alloc_lt _ (Array.getElem?_eq_some_iff.1 hc7).1).trans hc7
  revert g8 hc8
  generalize w10.alloc (.cells #[.int .i64 0, .int .i64 0, .int .i64 0, .string ⟨#[]⟩] 27) = w11
  generalize w10.heap.size = ee
  generalize w8.heap.size = dd
  intro g8 hc8
  clear g7 hc7 w10 w8
  have hc9 : RC3 W p q cc #[.int .i64 at_, .int .i64 x.f0, .int .i64 x.f1, .string x.f2] #[.int .i64 bt, .int .i64 y.f0, .int .i64 y.f1, .string y.f2] w11 := ⟨g8, hc8⟩
  clear g8 hc8
  refine gw_seq ?_
  refine gw_region _ rfl ?_
  simp only [List.size_toArray, List.length_cons, List.length_nil, Nat.reduceAdd, Nat.zero_add, List.range, List.range.loop]
  refine gw_op rfl (by rfl) (by decide) rfl (fun K hK => ?_)
  go_simp
  refine hK _ _ rfl ?_
  clear hK K
  try walk_nrm
  refine gw_callB (args := #[.int .i64 0]) (.int .i64 0) rfl (by rfl) (by decide) rfl Try.func13 rfl (by kernel_rfl) (by simp only [List.map_toArray, List.map_cons, List.map_nil, Act.eval] <;> rfl) (ent_ok rfl rfl) (fun u hu => (boomeranglaw1_Err.calls 0 0 u rfl).mono fun e w' h => ⟨h.1, h.2.below⟩) ?_
  intro w12 hb
  have hd0 := hc9.next hb
  clear hb hc9 w11
  try walk_nrm
  refine gw_op rfl (by rfl) (by decide) rfl (fun K hK => ?_)
  go_simp
  refine hK _ _ rfl ?_
  clear hK K
  try walk_nrm
  refine gw_callB (args := #[.int .i64 0]) (.int .i64 0) rfl (by rfl) (by decide) rfl Try.func13 rfl (by kernel_rfl) (by simp only [List.map_toArray, List.map_cons, List.map_nil, Act.eval] <;> rfl) (ent_ok rfl rfl) (fun u hu => (boomeranglaw1_Err.calls 0 0 u rfl).mono fun e w' h => ⟨h.1, h.2.below⟩) ?_
  intro w13 hb
  have hd1 := hd0.next hb
  clear hb hd0 w12
  try walk_nrm
  refine gw_op rfl (by rfl) (by decide) rfl (fun K hK => ?_)
  go_simp
  refine hK _ _ rfl ?_
  clear hK K
  try walk_nrm
  refine gw_op rfl (by rfl) (by decide) rfl (fun K hK => ?_)
  go_simp
  refine hK _ _ rfl ?_
  clear hK K
  try walk_nrm
  refine gw_callB (args := #[.int .i64 0]) (.int .i64 0) rfl (by rfl) (by decide) rfl Try.func13 rfl (by kernel_rfl) (by simp only [List.map_toArray, List.map_cons, List.map_nil, Act.eval] <;> rfl) (ent_ok rfl rfl) (fun u hu => (boomeranglaw1_Err.calls 0 0 u rfl).mono fun e w' h => ⟨h.1, h.2.below⟩) ?_
  intro w14 hb
  have hd2 := hd1.next hb
  clear hb hd1 w13
  try walk_nrm
  have hw0 : IntKind.i64.wrap 0 = 0 := by decide
  refine gw_op rfl (by rfl) (by decide) rfl (fun K hK => ?_)
  go_simp
  refine hK _ _ rfl ?_
  clear hK K
  try walk_nrm
  refine gw_op rfl (by rfl) (by decide) rfl (fun K hK => ?_)
  go_simp
  refine hK _ _ rfl ?_
  clear hK K
  try walk_nrm
  refine gw_op rfl (by rfl) (by decide) rfl (fun K hK => ?_)
  go_simp
  refine hK _ _ rfl ?_
  clear hK K
  try walk_nrm
  have fp0 := cell_of (o := 0) hd2.1.p
  have fp1 := cell_of (o := 1) hd2.1.p
  have fp2 := cell_of (o := 2) hd2.1.p
  have fp3 := cell_of (o := 3) hd2.1.p
  have fq0 := cell_of (o := 0) hd2.1.q
  have fq1 := cell_of (o := 1) hd2.1.q
  have fq2 := cell_of (o := 2) hd2.1.q
  have fq3 := cell_of (o := 3) hd2.1.q
  have fc0 := cell_of (o := 0) hd2.2
  have fc1 := cell_of (o := 1) hd2.2
  have fc2 := cell_of (o := 2) hd2.2
  have fc3 := cell_of (o := 3) hd2.2
  simp only [List.getElem?_toArray, List.getElem?_cons_succ, List.getElem?_cons_zero] at fp0 fp1 fp2 fp3 fq0 fq1 fq2 fq3 fc0 fc1 fc2 fc3
  have hu27 := Try.underlying27
  have hu25 := Try.underlying25
  refine gw_op rfl (by rfl) (by decide) rfl (fun K hK => ?_)
  go_simp
  refine hK _ _ rfl ?_
  clear hK K
  try walk_nrm
  refine gw_op rfl (by rfl) (by decide) rfl (fun K hK => ?_)
  go_simp
  refine hK _ _ rfl ?_
  clear hK K
  try walk_nrm
  refine gw_op rfl (by rfl) (by decide) rfl (fun K hK => ?_)
  go_simp
  refine hK _ _ rfl ?_
  clear hK K
  try walk_nrm
  refine gw_op rfl (by rfl) (by decide) rfl (fun K hK => ?_)
  go_simp
  refine hK _ _ rfl ?_
  clear hK K
  try walk_nrm
  refine gw_op rfl (by rfl) (by decide) rfl (fun K hK => ?_)
  go_simp
  refine hK _ _ rfl ?_
  clear hK K
  try walk_nrm
  have hw4 : IntKind.i64.wrap 4 = 4 := by decide
  by_cases hPQ : PA = PB
  · skip
    subst hPQ
    obtain ⟨rfl, e2, e3, e4⟩ := hRA.inj hRB
    obtain rfl : x = y := by
      cases x
      cases y
      simp only at e2 e3 e4
      subst e2 e3 e4
      rfl
    refine gw_op rfl (by rfl) (by decide) rfl (fun K hK => ?_)
    go_simp
    refine hK _ _ rfl ?_
    clear hK K
    try walk_nrm
    refine gw_op rfl (by rfl) (by decide) rfl (fun K hK => ?_)
    go_simp
    refine hK _ _ rfl ?_
    clear hK K
    try walk_nrm
    refine gw_op rfl (by rfl) (by decide) rfl (fun K hK => ?_)
    go_simp
    refine hK _ _ rfl ?_
    clear hK K
    try walk_nrm
    refine gw_op rfl (by rfl) (by decide) rfl (fun K hK => ?_)
    go_simp
    refine hK _ _ rfl ?_
    clear hK K
    try walk_nrm
    refine gw_op rfl (by rfl) (by decide) rfl (fun K hK => ?_)
    go_simp
    refine hK _ _ rfl ?_
    clear hK K
    try walk_nrm
    refine gw_op rfl (by rfl) (by decide) rfl (fun K hK => ?_)
    go_simp
    refine hK _ _ rfl ?_
    clear hK K
    try walk_nrm
    clear fp0 fp1 fp2 fp3 fq0 fq1 fq2 fq3 fc0 fc1 fc2 fc3
    refine gw_op rfl (by rfl) (by decide) rfl (fun K hK => ?_)
    go_simp
    refine hK _ _ rfl ?_
    clear hK K
    try walk_nrm
    refine gw_op rfl (by rfl) (by decide) rfl (fun K hK => ?_)
    go_simp
    refine hK _ _ rfl ?_
    clear hK K
    try walk_nrm
    refine gw_op rfl (by rfl) (by decide) rfl (fun K hK => ?_)
    go_simp
    refine hK _ _ rfl ?_
    clear hK K
    try walk_nrm
    refine gw_op rfl (by rfl) (by decide) rfl (fun K hK => ?_)
    go_simp
    refine hK _ _ rfl ?_
    clear hK K
    try walk_nrm
    refine gw_callB (args := #[.int .i64 4]) (.int .i64 4) rfl (by rfl) (by decide) rfl Try.func13 rfl (by kernel_rfl) (by simp only [List.map_toArray, List.map_cons, List.map_nil, Act.eval] <;> rfl) (ent_ok rfl rfl) (fun u hu => (boomeranglaw1_Err.calls 4 4 u rfl).mono fun e w' h => ⟨h.1, h.2.below⟩) ?_
    intro w15 hb
    have hd3 := hd2.next hb
    clear hb hd2 w14
    try walk_nrm
    refine gw_op rfl (by rfl) (by decide) rfl (fun K hK => ?_)
    go_simp
    refine hK _ _ rfl ?_
    clear hK K
    try walk_nrm
    refine gw_op rfl (by rfl) (by decide) rfl (fun K hK => ?_)
    go_simp
    refine hK _ _ rfl ?_
    clear hK K
    try walk_nrm
    refine gw_op rfl (by rfl) (by decide) rfl (fun K hK => ?_)
    go_simp
    refine hK _ _ rfl ?_
    clear hK K
    try walk_nrm
    refine gw_op rfl (by rfl) (by decide) rfl (fun K hK => ?_)
    go_simp
    refine hK _ _ rfl ?_
    clear hK K
    try walk_nrm
    refine gw_callB (args := #[.int .i64 4]) (.int .i64 4) rfl (by rfl) (by decide) rfl Try.func13 rfl (by kernel_rfl) (by simp only [List.map_toArray, List.map_cons, List.map_nil, Act.eval] <;> rfl) (ent_ok rfl rfl) (fun u hu => (boomeranglaw1_Err.calls 4 4 u rfl).mono fun e w' h => ⟨h.1, h.2.below⟩) ?_
    intro w16 hb
    have hd4 := hd3.next hb
    clear hb hd3 w15
    try walk_nrm
    refine gw_op rfl (by rfl) (by decide) rfl (fun K hK => ?_)
    go_simp
    refine hK _ _ rfl ?_
    clear hK K
    try walk_nrm
    refine gw_op rfl (by rfl) (by decide) rfl (fun K hK => ?_)
    go_simp
    refine hK _ _ rfl ?_
    clear hK K
    try walk_nrm
    refine gw_op rfl (by rfl) (by decide) rfl (fun K hK => ?_)
    go_simp
    refine hK _ _ rfl ?_
    clear hK K
    try walk_nrm
    refine gw_into (args := #[]) rfl (by rfl) (by decide) rfl Try.func8 rfl (by kernel_rfl) (by simp only [List.map_toArray, List.map_cons, List.map_nil, Act.eval] <;> rfl) ?_
    refine .stop fun d => (awake_reach _ _ _).trans ?_
    rintro g w17 ⟨rfl, hb⟩
    have hbl : Below W.heap.size W w17 := below_step' hd4.1.below hd4.1.below.size ⟨hb.os, hb.tape, hb.output, hb.size, hb.block⟩
    rw [finish_op rfl]
    refine Reach.join ?_
    walk_nrm
    refine gw_op rfl (by rfl) (by decide) rfl (fun K hK => ?_)
    go_simp
    refine hK _ _ rfl ?_
    clear hK K
    try walk_nrm
    refine gw_op rfl (by rfl) (by decide) rfl (fun K hK => ?_)
    go_simp
    refine hK _ _ rfl ?_
    clear hK K
    try walk_nrm
    refine gw_region_end ?_
    exact gw_ret (.stop fun d => Reach.done ⟨_, _, rfl, rfl, below_at hbl d⟩)
  have hbq : (PA.toList == PB.toList) = false := by
    simp only [beq_eq_false_iff_ne, ne_eq, L_toList]
    exact fun h => hPQ (L_inj h)
  have hne : ¬(at_ = bt ∧ x.f0 = y.f0 ∧ x.f1 = y.f1 ∧ x.f2.toList = y.f2.toList) := by
    rintro ⟨e1, e2, e3, e4⟩
    have e5 : x.f2 = y.f2 := L_inj (by rw [← L_toList, ← L_toList]; exact e4)
    have h1 := hRA.put
    rw [e1, e2, e3, e5, hRB.put] at h1
    simp only [Option.some.injEq, Prod.mk.injEq] at h1
    exact hPQ h1.1.symm
  refine gw_op rfl (by rfl) (by decide) rfl (fun K hK => ?_)
  go_simp
  refine hK _ _ rfl ?_
  clear hK K
  try walk_nrm
  refine gw_op rfl (by rfl) (by decide) rfl (fun K hK => ?_)
  go_simp
  refine hK _ _ rfl ?_
  clear hK K
  try walk_nrm
  refine gw_op rfl (by rfl) (by decide) rfl (fun K hK => ?_)
  go_simp
  refine hK _ _ rfl ?_
  clear hK K
  try walk_nrm
  refine gw_op rfl (by rfl) (by decide) rfl (fun K hK => ?_)
  go_simp
  refine hK _ _ rfl ?_
  clear hK K
  try walk_nrm
  refine gw_op rfl (by rfl) (by decide) rfl (fun K hK => ?_)
  go_simp
  refine hK _ _ rfl ?_
  clear hK K
  try walk_nrm
  refine gw_op rfl (by rfl) (by decide) rfl (fun K hK => ?_)
  go_simp
  rw [chain_false hne]
  refine hK _ _ rfl ?_
  clear hK K
  try walk_nrm
  clear fp0 fp1 fp2 fp3 fq0 fq1 fq2 fq3 fc0 fc1 fc2 fc3
  refine gw_op rfl (by rfl) (by decide) rfl (fun K hK => ?_)
  go_simp
  refine hK _ _ rfl ?_
  clear hK K
  try walk_nrm
  refine gw_op rfl (by rfl) (by decide) rfl (fun K hK => ?_)
  go_simp
  refine hK _ _ rfl ?_
  clear hK K
  try walk_nrm
  refine gw_op rfl (by rfl) (by decide) rfl (fun K hK => ?_)
  go_simp
  refine hK _ _ rfl ?_
  clear hK K
  try walk_nrm
  refine gw_op rfl (by rfl) (by decide) rfl (fun K hK => ?_)
  go_simp
  refine hK _ _ rfl ?_
  clear hK K
  try walk_nrm
  refine gw_callB (args := #[.int .i64 4]) (.int .i64 4) rfl (by rfl) (by decide) rfl Try.func13 rfl (by kernel_rfl) (by simp only [List.map_toArray, List.map_cons, List.map_nil, Act.eval] <;> rfl) (ent_ok rfl rfl) (fun u hu => (boomeranglaw1_Err.calls 4 4 u rfl).mono fun e w' h => ⟨h.1, h.2.below⟩) ?_
  intro w15 hb
  have hd3 := hd2.next hb
  clear hb hd2 w14
  try walk_nrm
  refine gw_op rfl (by rfl) (by decide) rfl (fun K hK => ?_)
  go_simp
  refine hK _ _ rfl ?_
  clear hK K
  try walk_nrm
  refine gw_op rfl (by rfl) (by decide) rfl (fun K hK => ?_)
  go_simp
  refine hK _ _ rfl ?_
  clear hK K
  try walk_nrm
  refine gw_op rfl (by rfl) (by decide) rfl (fun K hK => ?_)
  go_simp
  refine hK _ _ rfl ?_
  clear hK K
  try walk_nrm
  refine gw_op rfl (by rfl) (by decide) rfl (fun K hK => ?_)
  go_simp
  refine hK _ _ rfl ?_
  clear hK K
  try walk_nrm
  refine gw_callB (args := #[.int .i64 4]) (.int .i64 4) rfl (by rfl) (by decide) rfl Try.func13 rfl (by kernel_rfl) (by simp only [List.map_toArray, List.map_cons, List.map_nil, Act.eval] <;> rfl) (ent_ok rfl rfl) (fun u hu => (boomeranglaw1_Err.calls 4 4 u rfl).mono fun e w' h => ⟨h.1, h.2.below⟩) ?_
  intro w16 hb
  have hd4 := hd3.next hb
  clear hb hd3 w15
  try walk_nrm
  refine gw_op rfl (by rfl) (by decide) rfl (fun K hK => ?_)
  go_simp
  refine hK _ _ rfl ?_
  clear hK K
  try walk_nrm
  refine gw_op rfl (by rfl) (by decide) rfl (fun K hK => ?_)
  go_simp
  refine hK _ _ rfl ?_
  clear hK K
  try walk_nrm
  refine gw_op rfl (by rfl) (by decide) rfl (fun K hK => ?_)
  go_simp
  refine hK _ _ rfl ?_
  clear hK K
  try walk_nrm
  refine gw_into (args := #[]) rfl (by rfl) (by decide) rfl Try.func8 rfl (by kernel_rfl) (by simp only [List.map_toArray, List.map_cons, List.map_nil, Act.eval] <;> rfl) ?_
  refine .stop fun d => (awake_reach _ _ _).trans ?_
  rintro g w17 ⟨rfl, hb⟩
  have hbl : Below W.heap.size W w17 := below_step' hd4.1.below hd4.1.below.size ⟨hb.os, hb.tape, hb.output, hb.size, hb.block⟩
  rw [finish_op rfl]
  refine Reach.join ?_
  walk_nrm
  refine gw_op rfl (by rfl) (by decide) rfl (fun K hK => ?_)
  go_simp
  refine hK _ _ rfl ?_
  clear hK K
  try walk_nrm
  refine gw_op rfl (by rfl) (by decide) rfl (fun K hK => ?_)
  go_simp
  refine hK _ _ rfl ?_
  clear hK K
  try walk_nrm
  refine gw_region_end ?_
  exact gw_ret (.stop fun d => Reach.done ⟨_, _, rfl, rfl, below_at hbl d⟩)
end Go.Proofs.Ytmdcpmfanpopgaa
/- Written by wip/tools/genrec.py: the walk of the law TraceRecords. -/
namespace Go.Proofs.Ytmdcpmfanpopgaa
open Go Go.Conc Go.RowKit Go.Proofs.Ytmdcpmfanpopgaa.M Go.Proofs.Ytmdcpmfanpopgaa.B Go.Proofs.YtmdcpmfanpopgaaW.PrintWords Go.Proofs.YtmdcpmfanpopgaaW.PrintLast Go.Proofs.YtmdcpmfanpopgaaW.PrintMore
set_option linter.unusedSimpArgs false
set_option linter.unusedVariables false

/-- A result row of Host's. -/
def RHost (l : List S25) (v : Value) (w : World) : Prop := ∃ A c, v = .slice A l.length c ∧ Kd.C k25 w A l.length l
theorem Kd.C_world {α : Type} {d : Kd α} {w w1 : World} {A : Option Addr} {n : Nat} {xs : List α} (h : d.C w A n xs) (hb : Below w.heap.size w w1) : d.C w1 A n xs := Kd.C_below h hb

set_option maxHeartbeats 8000000 in
set_option maxRecDepth 100000 in
theorem rec_walk (at_ bt : Int) (A0 B0 : Option Addr) (ca cb : Nat) (la lb : List Int) (xs ys : List S25) (W : World) (ha : Kd.C (Kd.int .u8) W A0 la.length la) (hca : la.length ≤ ca) (hb : Kd.C (Kd.int .u8) W B0 lb.length lb) (hcb : lb.length ≤ cb)
    (hxs : boomeranglaw4_Host.f 100 la = some xs) (hys : boomeranglaw4_Host.f 100 lb = some ys) (hat : IntKind.i64.wrap at_ = at_) (hbt : IntKind.i64.wrap bt = bt)
    (hat0 : 0 ≤ at_) (hat1 : at_ < 65536) (hbt0 : 0 ≤ bt) (hbt1 : bt < 65536) (hxok : ∀ z ∈ xs, InOk z) (hyok : ∀ z ∈ ys, InOk z) :
    Reach (G (Frame.enter Try.prog 6 #[.int .u16 at_, .int .u16 bt, .slice A0 la.length ca, .slice B0 lb.length cb] .normal) []) W (QT W) := by
  refine Reach.join (gw_enter Try.func6 rfl ?_)
  simp only [Try.f6]
  walk_nrm
  repeat (first
    | with_reducible refine gw_seq ?_
    | with_reducible refine gw_skip ?_
    | with_reducible refine gw_inBlock ?_
    | with_reducible refine gw_block ?_
    | with_reducible refine gw_loop ?_
    | with_reducible refine gw_inLoop ?_
    | with_reducible refine gw_region_end ?_
    | (refine gw_region _ rfl ?_; simp only [List.size_toArray, List.length_cons, List.length_nil, Nat.reduceAdd, Nat.zero_add, List.range, List.range.loop])
    | (refine gw_exit rfl ?_)
    | (refine gw_cond _ rfl ?_; simp only [if_true, if_false, Bool.false_eq_true, reduceIte, Bool.not_true, Bool.not_false, decide_true, decide_false, decide_eq_true_eq, not_true_eq_false, not_false_eq_true])
    | (refine gw_unwanted rfl (by rfl) ?_; try walk_nrm)
    | (refine gw_op rfl (by rfl) (by decide) rfl (fun K hK => ?_); go_simp; refine hK _ _ rfl ?_; clear hK K; try walk_nrm)
    )
  refine gw_callR (args := #[.slice A0 la.length ca]) (RHost xs) (fun v u τ d h => h) rfl (by rfl) (by decide) rfl Try.func23 rfl (by kernel_rfl) (by simp only [List.map_toArray, List.map_cons, List.map_nil, Act.eval] <;> rfl) (ent_ok rfl rfl) (fun u hu => (boomeranglaw4_Host.calls 100 A0 ca la xs u (by unfold Kd.C ReadsRow World.cell? at ha ⊢; rw [hu]; exact ha) hca hxs).mono ?_) ?_
  · rintro e w' ⟨v0, rfl, hR, hb'⟩
    obtain ⟨A, c, rfl, _, hC⟩ := Kd.R_reads hR
    exact ⟨_, rfl, ⟨A, c, rfl, hC⟩, hb'⟩
  rintro v w1 ⟨X1, c1, rfl, hC1⟩ hb1
  have hb' := Kd.C_world hb hb1
  clear ha hb
  try walk_nrm
  repeat (first
    | with_reducible refine gw_seq ?_
    | with_reducible refine gw_skip ?_
    | with_reducible refine gw_inBlock ?_
    | with_reducible refine gw_block ?_
    | with_reducible refine gw_loop ?_
    | with_reducible refine gw_inLoop ?_
    | with_reducible refine gw_region_end ?_
    | (refine gw_region _ rfl ?_; simp only [List.size_toArray, List.length_cons, List.length_nil, Nat.reduceAdd, Nat.zero_add, List.range, List.range.loop])
    | (refine gw_exit rfl ?_)
    | (refine gw_cond _ rfl ?_; simp only [if_true, if_false, Bool.false_eq_true, reduceIte, Bool.not_true, Bool.not_false, decide_true, decide_false, decide_eq_true_eq, not_true_eq_false, not_false_eq_true])
    | (refine gw_unwanted rfl (by rfl) ?_; try walk_nrm)
    | (refine gw_op rfl (by rfl) (by decide) rfl (fun K hK => ?_); go_simp; refine hK _ _ rfl ?_; clear hK K; try walk_nrm)
    )
  refine gw_callR (args := #[.slice B0 lb.length cb]) (RHost ys) (fun v u τ d h => h) rfl (by rfl) (by decide) rfl Try.func23 rfl (by kernel_rfl) (by simp only [List.map_toArray, List.map_cons, List.map_nil, Act.eval] <;> rfl) (ent_ok rfl rfl) (fun u hu => (boomeranglaw4_Host.calls 100 B0 cb lb ys u (by unfold Kd.C ReadsRow World.cell? at hb' ⊢; rw [hu]; exact hb') hcb hys).mono ?_) ?_
  · rintro e w' ⟨v0, rfl, hR, hb'⟩
    obtain ⟨A, c, rfl, _, hC⟩ := Kd.R_reads hR
    exact ⟨_, rfl, ⟨A, c, rfl, hC⟩, hb'⟩
  rintro v w2 ⟨X2, c2, rfl, hC2⟩ hb2
  have hC1' := Kd.C_world hC1 hb2
  have hbl : Below W.heap.size W w2 := below_step' hb1 hb1.size hb2
  clear hC1 hb' hb1 hb2 w1
  try walk_nrm
  repeat (first
    | with_reducible refine gw_seq ?_
    | with_reducible refine gw_skip ?_
    | with_reducible refine gw_inBlock ?_
    | with_reducible refine gw_block ?_
    | with_reducible refine gw_loop ?_
    | with_reducible refine gw_inLoop ?_
    | with_reducible refine gw_region_end ?_
    | (refine gw_region _ rfl ?_; simp only [List.size_toArray, List.length_cons, List.length_nil, Nat.reduceAdd, Nat.zero_add, List.range, List.range.loop])
    | (refine gw_exit rfl ?_)
    | (refine gw_cond _ rfl ?_; simp only [if_true, if_false, Bool.false_eq_true, reduceIte, Bool.not_true, Bool.not_false, decide_true, decide_false, decide_eq_true_eq, not_true_eq_false, not_false_eq_true])
    | (refine gw_unwanted rfl (by rfl) ?_; try walk_nrm)
    | (refine gw_op rfl (by rfl) (by decide) rfl (fun K hK => ?_); go_simp; refine hK _ _ rfl ?_; clear hK K; try walk_nrm)
    )
  rcases xs with _ | ⟨x, xs⟩
  · have e0 : ((([] : List S25).length : Int) == 0) = true := rfl
    simp only [e0]
    repeat (first
      | with_reducible refine gw_seq ?_
      | with_reducible refine gw_skip ?_
      | with_reducible refine gw_inBlock ?_
      | with_reducible refine gw_block ?_
      | with_reducible refine gw_loop ?_
      | with_reducible refine gw_inLoop ?_
      | with_reducible refine gw_region_end ?_
      | (refine gw_region _ rfl ?_; simp only [List.size_toArray, List.length_cons, List.length_nil, Nat.reduceAdd, Nat.zero_add, List.range, List.range.loop])
      | (refine gw_exit rfl ?_)
      | (refine gw_cond _ rfl ?_; simp only [if_true, if_false, Bool.false_eq_true, reduceIte, Bool.not_true, Bool.not_false, decide_true, decide_false, decide_eq_true_eq, not_true_eq_false, not_false_eq_true])
      | (refine gw_unwanted rfl (by rfl) ?_; try walk_nrm)
      | (refine gw_op rfl (by rfl) (by decide) rfl (fun K hK => ?_); go_simp; refine hK _ _ rfl ?_; clear hK K; try walk_nrm)
      )
    refine gw_into (args := #[]) rfl (by rfl) (by decide) rfl Try.func8 rfl (by kernel_rfl) (by simp only [List.map_toArray, List.map_cons, List.map_nil, Act.eval] <;> rfl) ?_
    refine .stop fun d => (awake_reach _ _ _).trans ?_
    rintro g w3 ⟨rfl, hb3⟩
    have hbl3 : Below W.heap.size W w3 := below_step' hbl hbl.size ⟨hb3.os, hb3.tape, hb3.output, hb3.size, hb3.block⟩
    rw [finish_op rfl]
    refine Reach.join ?_
    walk_nrm
    repeat (first
      | with_reducible refine gw_seq ?_
      | with_reducible refine gw_skip ?_
      | with_reducible refine gw_inBlock ?_
      | with_reducible refine gw_block ?_
      | with_reducible refine gw_loop ?_
      | with_reducible refine gw_inLoop ?_
      | with_reducible refine gw_region_end ?_
      | (refine gw_region _ rfl ?_; simp only [List.size_toArray, List.length_cons, List.length_nil, Nat.reduceAdd, Nat.zero_add, List.range, List.range.loop])
      | (refine gw_exit rfl ?_)
      | (refine gw_cond _ rfl ?_; simp only [if_true, if_false, Bool.false_eq_true, reduceIte, Bool.not_true, Bool.not_false, decide_true, decide_false, decide_eq_true_eq, not_true_eq_false, not_false_eq_true])
      | (refine gw_unwanted rfl (by rfl) ?_; try walk_nrm)
      | (refine gw_op rfl (by rfl) (by decide) rfl (fun K hK => ?_); go_simp; refine hK _ _ rfl ?_; clear hK K; try walk_nrm)
      )
    exact gw_ret (.stop fun d => Reach.done ⟨_, _, rfl, rfl, below_at hbl3 d⟩)
  have e1 : (((x :: xs).length : Int) == 0) = false := beq_eq_false_iff_ne.2 (by have : 0 < (x :: xs).length := Nat.succ_pos _; omega)
  simp only [e1]
  repeat (first
    | with_reducible refine gw_seq ?_
    | with_reducible refine gw_skip ?_
    | with_reducible refine gw_inBlock ?_
    | with_reducible refine gw_block ?_
    | with_reducible refine gw_loop ?_
    | with_reducible refine gw_inLoop ?_
    | with_reducible refine gw_region_end ?_
    | (refine gw_region _ rfl ?_; simp only [List.size_toArray, List.length_cons, List.length_nil, Nat.reduceAdd, Nat.zero_add, List.range, List.range.loop])
    | (refine gw_exit rfl ?_)
    | (refine gw_cond _ rfl ?_; simp only [if_true, if_false, Bool.false_eq_true, reduceIte, Bool.not_true, Bool.not_false, decide_true, decide_false, decide_eq_true_eq, not_true_eq_false, not_false_eq_true])
    | (refine gw_unwanted rfl (by rfl) ?_; try walk_nrm)
    | (refine gw_op rfl (by rfl) (by decide) rfl (fun K hK => ?_); go_simp; refine hK _ _ rfl ?_; clear hK K; try walk_nrm)
    )
  rcases ys with _ | ⟨y, ys⟩
  · have e0 : ((([] : List S25).length : Int) == 0) = true := rfl
    simp only [e0]
    repeat (first
      | with_reducible refine gw_seq ?_
      | with_reducible refine gw_skip ?_
      | with_reducible refine gw_inBlock ?_
      | with_reducible refine gw_block ?_
      | with_reducible refine gw_loop ?_
      | with_reducible refine gw_inLoop ?_
      | with_reducible refine gw_region_end ?_
      | (refine gw_region _ rfl ?_; simp only [List.size_toArray, List.length_cons, List.length_nil, Nat.reduceAdd, Nat.zero_add, List.range, List.range.loop])
      | (refine gw_exit rfl ?_)
      | (refine gw_cond _ rfl ?_; simp only [if_true, if_false, Bool.false_eq_true, reduceIte, Bool.not_true, Bool.not_false, decide_true, decide_false, decide_eq_true_eq, not_true_eq_false, not_false_eq_true])
      | (refine gw_unwanted rfl (by rfl) ?_; try walk_nrm)
      | (refine gw_op rfl (by rfl) (by decide) rfl (fun K hK => ?_); go_simp; refine hK _ _ rfl ?_; clear hK K; try walk_nrm)
      )
    refine gw_into (args := #[]) rfl (by rfl) (by decide) rfl Try.func8 rfl (by kernel_rfl) (by simp only [List.map_toArray, List.map_cons, List.map_nil, Act.eval] <;> rfl) ?_
    refine .stop fun d => (awake_reach _ _ _).trans ?_
    rintro g w3 ⟨rfl, hb3⟩
    have hbl3 : Below W.heap.size W w3 := below_step' hbl hbl.size ⟨hb3.os, hb3.tape, hb3.output, hb3.size, hb3.block⟩
    rw [finish_op rfl]
    refine Reach.join ?_
    walk_nrm
    repeat (first
      | with_reducible refine gw_seq ?_
      | with_reducible refine gw_skip ?_
      | with_reducible refine gw_inBlock ?_
      | with_reducible refine gw_block ?_
      | with_reducible refine gw_loop ?_
      | with_reducible refine gw_inLoop ?_
      | with_reducible refine gw_region_end ?_
      | (refine gw_region _ rfl ?_; simp only [List.size_toArray, List.length_cons, List.length_nil, Nat.reduceAdd, Nat.zero_add, List.range, List.range.loop])
      | (refine gw_exit rfl ?_)
      | (refine gw_cond _ rfl ?_; simp only [if_true, if_false, Bool.false_eq_true, reduceIte, Bool.not_true, Bool.not_false, decide_true, decide_false, decide_eq_true_eq, not_true_eq_false, not_false_eq_true])
      | (refine gw_unwanted rfl (by rfl) ?_; try walk_nrm)
      | (refine gw_op rfl (by rfl) (by decide) rfl (fun K hK => ?_); go_simp; refine hK _ _ rfl ?_; clear hK K; try walk_nrm)
      )
    exact gw_ret (.stop fun d => Reach.done ⟨_, _, rfl, rfl, below_at hbl3 d⟩)
  have e2 : (((y :: ys).length : Int) == 0) = false := beq_eq_false_iff_ne.2 (by have : 0 < (y :: ys).length := Nat.succ_pos _; omega)
  simp only [e2]
  repeat (first
    | with_reducible refine gw_seq ?_
    | with_reducible refine gw_skip ?_
    | with_reducible refine gw_inBlock ?_
    | with_reducible refine gw_block ?_
    | with_reducible refine gw_loop ?_
    | with_reducible refine gw_inLoop ?_
    | with_reducible refine gw_region_end ?_
    | (refine gw_region _ rfl ?_; simp only [List.size_toArray, List.length_cons, List.length_nil, Nat.reduceAdd, Nat.zero_add, List.range, List.range.loop])
    | (refine gw_exit rfl ?_)
    | (refine gw_cond _ rfl ?_; simp only [if_true, if_false, Bool.false_eq_true, reduceIte, Bool.not_true, Bool.not_false, decide_true, decide_false, decide_eq_true_eq, not_true_eq_false, not_false_eq_true])
    | (refine gw_unwanted rfl (by rfl) ?_; try walk_nrm)
    | (refine gw_op rfl (by rfl) (by decide) rfl (fun K hK => ?_); go_simp; refine hK _ _ rfl ?_; clear hK K; try walk_nrm)
    )
  obtain ⟨ad1, rfl, hx0', hx1', hx2'⟩ := at_T25 hC1' 0 (Int.le_refl 0) (by simp)
  obtain ⟨ad2, rfl, hy0', hy1', hy2'⟩ := at_T25 hC2 0 (Int.le_refl 0) (by simp)
  have hx0 : w2.cell? ad1 = some (.int .i64 x.f0) := hx0'
  have hx1 : w2.cell? ⟨ad1.block, ad1.off + 1, none⟩ = some (.int .i64 x.f1) := hx1'
  have hx2 : w2.cell? ⟨ad1.block, ad1.off + 2, none⟩ = some (.string x.f2) := hx2'
  have hy0 : w2.cell? ad2 = some (.int .i64 y.f0) := hy0'
  have hy1 : w2.cell? ⟨ad2.block, ad2.off + 1, none⟩ = some (.int .i64 y.f1) := hy1'
  have hy2 : w2.cell? ⟨ad2.block, ad2.off + 2, none⟩ = some (.string y.f2) := hy2'
  clear hx0' hx1' hx2' hy0' hy1' hy2' hC1' hC2
  have hu27 := Try.underlying27
  have hu25 := Try.underlying25
  refine gw_draw (S := fun w => Below w2.heap.size w2 w) (Q := fun _ a' w' => ∃ p q, p ≠ q ∧ w2.heap.size ≤ p ∧ w2.heap.size ≤ q ∧ Below w2.heap.size w2 w' ∧ w'.heap[p]? = some (.cells #[.int .i64 at_, .int .i64 x.f0, .int .i64 x.f1, .string x.f2] 27 (0, 0)) ∧ w'.heap[q]? = some (.cells #[.int .i64 bt, .int .i64 y.f0, .int .i64 y.f1, .string y.f2] 27 (0, 0)) ∧
    a' = ⟨#[.int .u16 at_, .int .u16 bt, .slice A0 la.length ca, .slice B0 lb.length cb, undef, undef, undef, undef, .bool false, .slice (some ad1) (xs.length + 1) c1, .slice (some ad2) (y :: ys).length c2, .pointer (some ⟨p, 0, none⟩), .pointer (some ⟨q, 0, none⟩), undef, undef, undef, undef, undef, undef, undef, undef, undef, undef, .slice A0 la.length ca, .slice (some ad1) (xs.length + 1) c1, .slice B0 lb.length cb, .slice (some ad2) (y :: ys).length c2, .slice (some ad1) (xs.length + 1) c1, .int .i64 ((xs.length : Int) + 1), .bool false, .bool false, .slice (some ad2) (y :: ys).length c2, .int .i64 ((y :: ys).length : Nat), .bool false, .bool false, undef, .int .u16 at_, .int .i64 at_, .slice (some ad1) (xs.length + 1) c1, .pointer (some ad1), .agg #[.int .i64 x.f0, .int .i64 x.f1, .string x.f2], .agg #[.int .i64 at_, .int .i64 x.f0, .int .i64 x.f1, .string x.f2], .int .u16 bt, .int .i64 bt, .slice (some ad2) (y :: ys).length c2, .pointer (some ad2), .agg #[.int .i64 y.f0, .int .i64 y.f1, .string y.f2], .agg #[.int .i64 bt, .int .i64 y.f0, .int .i64 y.f1, .string y.f2], undef, undef, undef, undef, undef, undef, undef, undef, undef, undef, undef, undef, undef, undef, undef, undef, undef, undef, undef, undef, undef, undef, undef, undef, undef, undef, undef, undef, undef, undef, undef, undef, undef, undef, undef, undef, undef, undef, undef, undef, undef, undef, undef, undef, undef, undef, undef, undef, undef, undef, undef, undef, undef, undef, undef, undef, undef, undef, undef, undef, undef, undef, undef, undef, undef, undef, undef], []⟩) followsMixed (by decide) (fun d => ?_) ?_
  · have hS0 : Below w2.heap.size w2 (w2.at d) := below_at (Below.refl _ _) d
    refine anyCH_take (i := 0) (v := .int .u16 at_) terms_at (fun x y h r => by obtain ⟨d, rfl⟩ := r; exact below_at h d) (fun _ _ _ h r => ?_) rfl (by kernel_rfl) (by kernel_rfl) (by kernel_rfl) (yields_plain rfl rfl fun w hS => ?_) hS0 ?_
    · obtain ⟨p, q, h1, h2, h3, h4, h5, h6, h7⟩ := h
      obtain ⟨d', rfl⟩ := r
      exact ⟨p, q, h1, h2, h3, below_at h4 d', h5, h6, h7⟩
    · simp [go_sem, execOp, Act.eval]
    walk_nrm
    refine anyCH_take (i := 1) (v := .int .i64 at_) terms_at (fun x y h r => by obtain ⟨d, rfl⟩ := r; exact below_at h d) (fun _ _ _ h r => ?_) rfl (by kernel_rfl) (by kernel_rfl) (by kernel_rfl) (yields_plain rfl rfl fun w hS => ?_) hS0 ?_
    · obtain ⟨p, q, h1, h2, h3, h4, h5, h6, h7⟩ := h
      obtain ⟨d', rfl⟩ := r
      exact ⟨p, q, h1, h2, h3, below_at h4 d', h5, h6, h7⟩
    · simp [go_sem, execOp, Act.eval, hat]
    walk_nrm
    refine anyCH_take (i := 2) (v := .slice (some ad1) (xs.length + 1) c1) terms_at (fun x y h r => by obtain ⟨d, rfl⟩ := r; exact below_at h d) (fun _ _ _ h r => ?_) rfl (by kernel_rfl) (by kernel_rfl) (by kernel_rfl) (yields_plain rfl rfl fun w hS => ?_) hS0 ?_
    · obtain ⟨p, q, h1, h2, h3, h4, h5, h6, h7⟩ := h
      obtain ⟨d', rfl⟩ := r
      exact ⟨p, q, h1, h2, h3, below_at h4 d', h5, h6, h7⟩
    · simp [go_sem, execOp, Act.eval]
    walk_nrm
    refine anyCH_take (i := 3) (v := .pointer (some ad1)) terms_at (fun x y h r => by obtain ⟨d, rfl⟩ := r; exact below_at h d) (fun _ _ _ h r => ?_) rfl (by kernel_rfl) (by kernel_rfl) (by kernel_rfl) (yields_plain rfl rfl fun w hS => ?_) hS0 ?_
    · obtain ⟨p, q, h1, h2, h3, h4, h5, h6, h7⟩ := h
      obtain ⟨d', rfl⟩ := r
      exact ⟨p, q, h1, h2, h3, below_at h4 d', h5, h6, h7⟩
    · simp [go_sem, execOp, Act.eval]
    walk_nrm
    refine anyCH_take (i := 4) (v := .agg #[.int .i64 x.f0, .int .i64 x.f1, .string x.f2]) terms_at (fun x y h r => by obtain ⟨d, rfl⟩ := r; exact below_at h d) (fun _ _ _ h r => ?_) rfl (by kernel_rfl) (by kernel_rfl) (by kernel_rfl) (yields_plain rfl rfl fun w hS => ?_) hS0 ?_
    · obtain ⟨p, q, h1, h2, h3, h4, h5, h6, h7⟩ := h
      obtain ⟨d', rfl⟩ := r
      exact ⟨p, q, h1, h2, h3, below_at h4 d', h5, h6, h7⟩
    · have g0 := (hS.cell (World.block_lt_of_cell? w2 _ hx0)).trans hx0
      have g1 := (hS.cell (World.block_lt_of_cell? w2 _ hx1)).trans hx1
      have g2 := (hS.cell (World.block_lt_of_cell? w2 _ hx2)).trans hx2
      simp [go_sem, execOp, Act.eval, hu25, g0, g1, g2]
    walk_nrm
    refine anyCH_take (i := 5) (v := .agg #[.int .i64 at_, .int .i64 x.f0, .int .i64 x.f1, .string x.f2]) terms_at (fun x y h r => by obtain ⟨d, rfl⟩ := r; exact below_at h d) (fun _ _ _ h r => ?_) rfl (by kernel_rfl) (by kernel_rfl) (by kernel_rfl) (yields_plain rfl rfl fun w hS => ?_) hS0 ?_
    · obtain ⟨p, q, h1, h2, h3, h4, h5, h6, h7⟩ := h
      obtain ⟨d', rfl⟩ := r
      exact ⟨p, q, h1, h2, h3, below_at h4 d', h5, h6, h7⟩
    · simp [go_sem, execOp, Act.eval, hu27, hu25]
    walk_nrm
    refine anyCH_take (i := 6) (v := .int .u16 bt) terms_at (fun x y h r => by obtain ⟨d, rfl⟩ := r; exact below_at h d) (fun _ _ _ h r => ?_) rfl (by kernel_rfl) (by kernel_rfl) (by kernel_rfl) (yields_plain rfl rfl fun w hS => ?_) hS0 ?_
    · obtain ⟨p, q, h1, h2, h3, h4, h5, h6, h7⟩ := h
      obtain ⟨d', rfl⟩ := r
      exact ⟨p, q, h1, h2, h3, below_at h4 d', h5, h6, h7⟩
    · simp [go_sem, execOp, Act.eval]
    walk_nrm
    refine anyCH_take (i := 7) (v := .int .i64 bt) terms_at (fun x y h r => by obtain ⟨d, rfl⟩ := r; exact below_at h d) (fun _ _ _ h r => ?_) rfl (by kernel_rfl) (by kernel_rfl) (by kernel_rfl) (yields_plain rfl rfl fun w hS => ?_) hS0 ?_
    · obtain ⟨p, q, h1, h2, h3, h4, h5, h6, h7⟩ := h
      obtain ⟨d', rfl⟩ := r
      exact ⟨p, q, h1, h2, h3, below_at h4 d', h5, h6, h7⟩
    · simp [go_sem, execOp, Act.eval, hbt]
    walk_nrm
    refine anyCH_take (i := 8) (v := .slice (some ad2) (y :: ys).length c2) terms_at (fun x y h r => by obtain ⟨d, rfl⟩ := r; exact below_at h d) (fun _ _ _ h r => ?_) rfl (by kernel_rfl) (by kernel_rfl) (by kernel_rfl) (yields_plain rfl rfl fun w hS => ?_) hS0 ?_
    · obtain ⟨p, q, h1, h2, h3, h4, h5, h6, h7⟩ := h
      obtain ⟨d', rfl⟩ := r
      exact ⟨p, q, h1, h2, h3, below_at h4 d', h5, h6, h7⟩
    · simp [go_sem, execOp, Act.eval]
    walk_nrm
    refine anyCH_take (i := 9) (v := .pointer (some ad2)) terms_at (fun x y h r => by obtain ⟨d, rfl⟩ := r; exact below_at h d) (fun _ _ _ h r => ?_) rfl (by kernel_rfl) (by kernel_rfl) (by kernel_rfl) (yields_plain rfl rfl fun w hS => ?_) hS0 ?_
    · obtain ⟨p, q, h1, h2, h3, h4, h5, h6, h7⟩ := h
      obtain ⟨d', rfl⟩ := r
      exact ⟨p, q, h1, h2, h3, below_at h4 d', h5, h6, h7⟩
    · simp [go_sem, execOp, Act.eval]
    walk_nrm
    refine anyCH_take (i := 10) (v := .agg #[.int .i64 y.f0, .int .i64 y.f1, .string y.f2]) terms_at (fun x y h r => by obtain ⟨d, rfl⟩ := r; exact below_at h d) (fun _ _ _ h r => ?_) rfl (by kernel_rfl) (by kernel_rfl) (by kernel_rfl) (yields_plain rfl rfl fun w hS => ?_) hS0 ?_
    · obtain ⟨p, q, h1, h2, h3, h4, h5, h6, h7⟩ := h
      obtain ⟨d', rfl⟩ := r
      exact ⟨p, q, h1, h2, h3, below_at h4 d', h5, h6, h7⟩
    · have g0 := (hS.cell (World.block_lt_of_cell? w2 _ hy0)).trans hy0
      have g1 := (hS.cell (World.block_lt_of_cell? w2 _ hy1)).trans hy1
      have g2 := (hS.cell (World.block_lt_of_cell? w2 _ hy2)).trans hy2
      simp [go_sem, execOp, Act.eval, hu25, g0, g1, g2]
    walk_nrm
    refine anyCH_take (i := 11) (v := .agg #[.int .i64 bt, .int .i64 y.f0, .int .i64 y.f1, .string y.f2]) terms_at (fun x y h r => by obtain ⟨d, rfl⟩ := r; exact below_at h d) (fun _ _ _ h r => ?_) rfl (by kernel_rfl) (by kernel_rfl) (by kernel_rfl) (yields_plain rfl rfl fun w hS => ?_) hS0 ?_
    · obtain ⟨p, q, h1, h2, h3, h4, h5, h6, h7⟩ := h
      obtain ⟨d', rfl⟩ := r
      exact ⟨p, q, h1, h2, h3, below_at h4 d', h5, h6, h7⟩
    · simp [go_sem, execOp, Act.eval, hu27, hu25]
    walk_nrm
    refine anyCH_all (rs := [12, 13]) (by kernel_rfl) (by simp) ?_
    intro i hi
    simp only [List.mem_cons, List.not_mem_nil, or_false] at hi
    rcases hi with rfl | rfl
    · skip
      refine opC_k rfl rfl rfl (fun d' K' hK => ?_)
      go_simp
      refine hK _ _ ⟨(below_at hS0 d').alloc (Nat.le_refl _) _, ?_⟩
      clear hK K'
      have hB4 : Below w2.heap.size w2 (((w2.at d).at d').alloc (.cells #[.int .i64 0, .int .i64 0, .int .i64 0, .string ⟨#[]⟩] 27)) := (below_at hS0 d').alloc (Nat.le_refl _) _
      have hz4 : (((w2.at d).at d').alloc (.cells #[.int .i64 0, .int .i64 0, .int .i64 0, .string ⟨#[]⟩] 27)).heap.size = w2.heap.size + 1 := size_alloc' _ _
      have hp4 : (((w2.at d).at d').alloc (.cells #[.int .i64 0, .int .i64 0, .int .i64 0, .string ⟨#[]⟩] 27)).heap[w2.heap.size]? = some (.cells #[.int .i64 0, .int .i64 0, .int .i64 0, .string ⟨#[]⟩] 27 (0, 0)) := heap_alloc_self _ _
      revert hB4 hz4 hp4
      generalize ((w2.at d).at d').alloc (.cells #[.int .i64 0, .int .i64 0, .int .i64 0, .string ⟨#[]⟩] 27) = w4
      intro hB4 hz4 hp4
      clear hS0
      try walk_nrm
      refine anyCH_all (rs := [13]) (by kernel_rfl) (by simp) ?_
      intro i hi
      simp only [List.mem_cons, List.not_mem_nil, or_false] at hi
      subst hi
      refine opC_k rfl rfl rfl (fun d' K' hK => ?_)
      go_simp
      refine hK _ _ ⟨(below_at hB4 d').alloc (by show _ ≤ w4.heap.size; omega) _, ?_⟩
      clear hK K'
      try simp only [hz4]
      have hB : Below w2.heap.size w2 ((w4.at d').alloc (.cells #[.int .i64 0, .int .i64 0, .int .i64 0, .string ⟨#[]⟩] 27)) := (below_at hB4 d').alloc (by show _ ≤ w4.heap.size; omega) _
      have h1st : ((w4.at d').alloc (.cells #[.int .i64 0, .int .i64 0, .int .i64 0, .string ⟨#[]⟩] 27)).heap[w2.heap.size]? = some (.cells #[.int .i64 0, .int .i64 0, .int .i64 0, .string ⟨#[]⟩] 27 (0, 0)) := (heap_alloc_lt _ (by show _ < w4.heap.size; omega)).trans hp4
      have h2nd : ((w4.at d').alloc (.cells #[.int .i64 0, .int .i64 0, .int .i64 0, .string ⟨#[]⟩] 27)).heap[w2.heap.size + 1]? = some (.cells #[.int .i64 0, .int .i64 0, .int .i64 0, .string ⟨#[]⟩] 27 (0, 0)) := by rw [← hz4]; exact heap_alloc_self (w4.at d') _
      revert hB h1st h2nd
      generalize (w4.at d').alloc (.cells #[.int .i64 0, .int .i64 0, .int .i64 0, .string ⟨#[]⟩] 27) = w5
      intro hB h1st h2nd
      clear hB4 hz4 hp4 w4
      try walk_nrm
      have hpz := h1st
      have hqz := h2nd
      clear h1st h2nd
      refine anyCH_all (rs := [14]) (by kernel_rfl) (by simp) ?_
      intro i hi
      simp only [List.mem_cons, List.not_mem_nil, or_false] at hi
      subst hi
      refine opC_k rfl rfl rfl (fun d' K' hK => ?_)
      have f0 : (w5.at d').cell? ⟨w2.heap.size, 0, none⟩ = _ := cell_of (o := 0) hpz
      have f1 : (w5.at d').cell? ⟨w2.heap.size, 1, none⟩ = _ := cell_of (o := 1) hpz
      have f2 : (w5.at d').cell? ⟨w2.heap.size, 2, none⟩ = _ := cell_of (o := 2) hpz
      have f3 : (w5.at d').cell? ⟨w2.heap.size, 3, none⟩ = _ := cell_of (o := 3) hpz
      have z_ : ∀ j, (w5.at d').frozen? ⟨w2.heap.size, j, none⟩ = false := fun j => frozen_of hpz
      simp only [List.getElem?_toArray, List.getElem?_cons_succ, List.getElem?_cons_zero] at f0 f1 f2 f3
      have hB' : Below w2.heap.size w2 (((((w5.at d').setCell ⟨w2.heap.size, 0, none⟩ (.int .i64 at_)).setCell ⟨w2.heap.size, 1, none⟩ (.int .i64 x.f0)).setCell ⟨w2.heap.size, 2, none⟩ (.int .i64 x.f1)).setCell ⟨w2.heap.size, 3, none⟩ (.string x.f2)) := ((((below_at hB d').setCell (by show w2.heap.size ≤ w2.heap.size; omega) _).setCell (by show w2.heap.size ≤ w2.heap.size; omega) _).setCell (by show w2.heap.size ≤ w2.heap.size; omega) _).setCell (by show w2.heap.size ≤ w2.heap.size; omega) _
      have hP' : (((((w5.at d').setCell ⟨w2.heap.size, 0, none⟩ (.int .i64 at_)).setCell ⟨w2.heap.size, 1, none⟩ (.int .i64 x.f0)).setCell ⟨w2.heap.size, 2, none⟩ (.int .i64 x.f1)).setCell ⟨w2.heap.size, 3, none⟩ (.string x.f2)).heap[w2.heap.size]? = some (.cells #[.int .i64 at_, .int .i64 x.f0, .int .i64 x.f1, .string x.f2] 27 (0, 0)) := by
        have k0 := heap_setCell_self (w := w5.at d') (o := 0) hpz (.int .i64 at_)
        have k1 := heap_setCell_self (o := 1) k0 (.int .i64 x.f0)
        have k2 := heap_setCell_self (o := 2) k1 (.int .i64 x.f1)
        exact heap_setCell_self (o := 3) k2 (.string x.f2)
      have hO' : (((((w5.at d').setCell ⟨w2.heap.size, 0, none⟩ (.int .i64 at_)).setCell ⟨w2.heap.size, 1, none⟩ (.int .i64 x.f0)).setCell ⟨w2.heap.size, 2, none⟩ (.int .i64 x.f1)).setCell ⟨w2.heap.size, 3, none⟩ (.string x.f2)).heap[w2.heap.size + 1]? = _ := (heap_setCell_ne _ (by omega)).trans ((heap_setCell_ne _ (by omega)).trans ((heap_setCell_ne _ (by omega)).trans ((heap_setCell_ne _ (by omega)).trans hqz)))
      go_simp
      refine hK _ _ ⟨hB', ?_⟩
      clear hK K' f0 f1 f2 f3 z_
      revert hB' hP' hO'
      generalize ((((w5.at d').setCell ⟨w2.heap.size, 0, none⟩ (.int .i64 at_)).setCell ⟨w2.heap.size, 1, none⟩ (.int .i64 x.f0)).setCell ⟨w2.heap.size, 2, none⟩ (.int .i64 x.f1)).setCell ⟨w2.heap.size, 3, none⟩ (.string x.f2) = w6
      intro hB' hP' hO'
      clear hB hpz hqz
      have hB := hB'
      clear hB'
      try walk_nrm
      have hqz := hO'
      have hpA := hP'
      clear hO' hP'
      refine anyCH_all (rs := [15]) (by kernel_rfl) (by simp) ?_
      intro i hi
      simp only [List.mem_cons, List.not_mem_nil, or_false] at hi
      subst hi
      refine opC_k rfl rfl rfl (fun d' K' hK => ?_)
      have f0 : (w6.at d').cell? ⟨w2.heap.size + 1, 0, none⟩ = _ := cell_of (o := 0) hqz
      have f1 : (w6.at d').cell? ⟨w2.heap.size + 1, 1, none⟩ = _ := cell_of (o := 1) hqz
      have f2 : (w6.at d').cell? ⟨w2.heap.size + 1, 2, none⟩ = _ := cell_of (o := 2) hqz
      have f3 : (w6.at d').cell? ⟨w2.heap.size + 1, 3, none⟩ = _ := cell_of (o := 3) hqz
      have z_ : ∀ j, (w6.at d').frozen? ⟨w2.heap.size + 1, j, none⟩ = false := fun j => frozen_of hqz
      simp only [List.getElem?_toArray, List.getElem?_cons_succ, List.getElem?_cons_zero] at f0 f1 f2 f3
      have hB' : Below w2.heap.size w2 (((((w6.at d').setCell ⟨w2.heap.size + 1, 0, none⟩ (.int .i64 bt)).setCell ⟨w2.heap.size + 1, 1, none⟩ (.int .i64 y.f0)).setCell ⟨w2.heap.size + 1, 2, none⟩ (.int .i64 y.f1)).setCell ⟨w2.heap.size + 1, 3, none⟩ (.string y.f2)) := ((((below_at hB d').setCell (by show w2.heap.size ≤ w2.heap.size + 1; omega) _).setCell (by show w2.heap.size ≤ w2.heap.size + 1; omega) _).setCell (by show w2.heap.size ≤ w2.heap.size + 1; omega) _).setCell (by show w2.heap.size ≤ w2.heap.size + 1; omega) _
      have hP' : (((((w6.at d').setCell ⟨w2.heap.size + 1, 0, none⟩ (.int .i64 bt)).setCell ⟨w2.heap.size + 1, 1, none⟩ (.int .i64 y.f0)).setCell ⟨w2.heap.size + 1, 2, none⟩ (.int .i64 y.f1)).setCell ⟨w2.heap.size + 1, 3, none⟩ (.string y.f2)).heap[w2.heap.size + 1]? = some (.cells #[.int .i64 bt, .int .i64 y.f0, .int .i64 y.f1, .string y.f2] 27 (0, 0)) := by
        have k0 := heap_setCell_self (w := w6.at d') (o := 0) hqz (.int .i64 bt)
        have k1 := heap_setCell_self (o := 1) k0 (.int .i64 y.f0)
        have k2 := heap_setCell_self (o := 2) k1 (.int .i64 y.f1)
        exact heap_setCell_self (o := 3) k2 (.string y.f2)
      have hO' : (((((w6.at d').setCell ⟨w2.heap.size + 1, 0, none⟩ (.int .i64 bt)).setCell ⟨w2.heap.size + 1, 1, none⟩ (.int .i64 y.f0)).setCell ⟨w2.heap.size + 1, 2, none⟩ (.int .i64 y.f1)).setCell ⟨w2.heap.size + 1, 3, none⟩ (.string y.f2)).heap[w2.heap.size]? = _ := (heap_setCell_ne _ (by omega)).trans ((heap_setCell_ne _ (by omega)).trans ((heap_setCell_ne _ (by omega)).trans ((heap_setCell_ne _ (by omega)).trans hpA)))
      go_simp
      refine hK _ _ ⟨hB', ?_⟩
      clear hK K' f0 f1 f2 f3 z_
      revert hB' hP' hO'
      generalize ((((w6.at d').setCell ⟨w2.heap.size + 1, 0, none⟩ (.int .i64 bt)).setCell ⟨w2.heap.size + 1, 1, none⟩ (.int .i64 y.f0)).setCell ⟨w2.heap.size + 1, 2, none⟩ (.int .i64 y.f1)).setCell ⟨w2.heap.size + 1, 3, none⟩ (.string y.f2) = w7
      intro hB' hP' hO'
      clear hB hqz hpA
      have hB := hB'
      clear hB'
      try walk_nrm
      exact anyCH_done (by kernel_rfl) ⟨_, _, by omega, by omega, by omega, hB, hO', hP', rfl⟩ _
    · skip
      refine opC_k rfl rfl rfl (fun d' K' hK => ?_)
      go_simp
      refine hK _ _ ⟨(below_at hS0 d').alloc (Nat.le_refl _) _, ?_⟩
      clear hK K'
      have hB4 : Below w2.heap.size w2 (((w2.at d).at d').alloc (.cells #[.int .i64 0, .int .i64 0, .int .i64 0, .string ⟨#[]⟩] 27)) := (below_at hS0 d').alloc (Nat.le_refl _) _
      have hz4 : (((w2.at d).at d').alloc (.cells #[.int .i64 0, .int .i64 0, .int .i64 0, .string ⟨#[]⟩] 27)).heap.size = w2.heap.size + 1 := size_alloc' _ _
      have hp4 : (((w2.at d).at d').alloc (.cells #[.int .i64 0, .int .i64 0, .int .i64 0, .string ⟨#[]⟩] 27)).heap[w2.heap.size]? = some (.cells #[.int .i64 0, .int .i64 0, .int .i64 0, .string ⟨#[]⟩] 27 (0, 0)) := heap_alloc_self _ _
      revert hB4 hz4 hp4
      generalize ((w2.at d).at d').alloc (.cells #[.int .i64 0, .int .i64 0, .int .i64 0, .string ⟨#[]⟩] 27) = w4
      intro hB4 hz4 hp4
      clear hS0
      try walk_nrm
      refine anyCH_all (rs := [12]) (by kernel_rfl) (by simp) ?_
      intro i hi
      simp only [List.mem_cons, List.not_mem_nil, or_false] at hi
      subst hi
      refine opC_k rfl rfl rfl (fun d' K' hK => ?_)
      go_simp
      refine hK _ _ ⟨(below_at hB4 d').alloc (by show _ ≤ w4.heap.size; omega) _, ?_⟩
      clear hK K'
      try simp only [hz4]
      have hB : Below w2.heap.size w2 ((w4.at d').alloc (.cells #[.int .i64 0, .int .i64 0, .int .i64 0, .string ⟨#[]⟩] 27)) := (below_at hB4 d').alloc (by show _ ≤ w4.heap.size; omega) _
      have h1st : ((w4.at d').alloc (.cells #[.int .i64 0, .int .i64 0, .int .i64 0, .string ⟨#[]⟩] 27)).heap[w2.heap.size]? = some (.cells #[.int .i64 0, .int .i64 0, .int .i64 0, .string ⟨#[]⟩] 27 (0, 0)) := (heap_alloc_lt _ (by show _ < w4.heap.size; omega)).trans hp4
      have h2nd : ((w4.at d').alloc (.cells #[.int .i64 0, .int .i64 0, .int .i64 0, .string ⟨#[]⟩] 27)).heap[w2.heap.size + 1]? = some (.cells #[.int .i64 0, .int .i64 0, .int .i64 0, .string ⟨#[]⟩] 27 (0, 0)) := by rw [← hz4]; exact heap_alloc_self (w4.at d') _
      revert hB h1st h2nd
      generalize (w4.at d').alloc (.cells #[.int .i64 0, .int .i64 0, .int .i64 0, .string ⟨#[]⟩] 27) = w5
      intro hB h1st h2nd
      clear hB4 hz4 hp4 w4
      try walk_nrm
      have hpz := h2nd
      have hqz := h1st
      clear h1st h2nd
      refine anyCH_all (rs := [14]) (by kernel_rfl) (by simp) ?_
      intro i hi
      simp only [List.mem_cons, List.not_mem_nil, or_false] at hi
      subst hi
      refine opC_k rfl rfl rfl (fun d' K' hK => ?_)
      have f0 : (w5.at d').cell? ⟨w2.heap.size + 1, 0, none⟩ = _ := cell_of (o := 0) hpz
      have f1 : (w5.at d').cell? ⟨w2.heap.size + 1, 1, none⟩ = _ := cell_of (o := 1) hpz
      have f2 : (w5.at d').cell? ⟨w2.heap.size + 1, 2, none⟩ = _ := cell_of (o := 2) hpz
      have f3 : (w5.at d').cell? ⟨w2.heap.size + 1, 3, none⟩ = _ := cell_of (o := 3) hpz
      have z_ : ∀ j, (w5.at d').frozen? ⟨w2.heap.size + 1, j, none⟩ = false := fun j => frozen_of hpz
      simp only [List.getElem?_toArray, List.getElem?_cons_succ, List.getElem?_cons_zero] at f0 f1 f2 f3
      have hB' : Below w2.heap.size w2 (((((w5.at d').setCell ⟨w2.heap.size + 1, 0, none⟩ (.int .i64 at_)).setCell ⟨w2.heap.size + 1, 1, none⟩ (.int .i64 x.f0)).setCell ⟨w2.heap.size + 1, 2, none⟩ (.int .i64 x.f1)).setCell ⟨w2.heap.size + 1, 3, none⟩ (.string x.f2)) := ((((below_at hB d').setCell (by show w2.heap.size ≤ w2.heap.size + 1; omega) _).setCell (by show w2.heap.size ≤ w2.heap.size + 1; omega) _).setCell (by show w2.heap.size ≤ w2.heap.size + 1; omega) _).setCell (by show w2.heap.size ≤ w2.heap.size + 1; omega) _
      have hP' : (((((w5.at d').setCell ⟨w2.heap.size + 1, 0, none⟩ (.int .i64 at_)).setCell ⟨w2.heap.size + 1, 1, none⟩ (.int .i64 x.f0)).setCell ⟨w2.heap.size + 1, 2, none⟩ (.int .i64 x.f1)).setCell ⟨w2.heap.size + 1, 3, none⟩ (.string x.f2)).heap[w2.heap.size + 1]? = some (.cells #[.int .i64 at_, .int .i64 x.f0, .int .i64 x.f1, .string x.f2] 27 (0, 0)) := by
        have k0 := heap_setCell_self (w := w5.at d') (o := 0) hpz (.int .i64 at_)
        have k1 := heap_setCell_self (o := 1) k0 (.int .i64 x.f0)
        have k2 := heap_setCell_self (o := 2) k1 (.int .i64 x.f1)
        exact heap_setCell_self (o := 3) k2 (.string x.f2)
      have hO' : (((((w5.at d').setCell ⟨w2.heap.size + 1, 0, none⟩ (.int .i64 at_)).setCell ⟨w2.heap.size + 1, 1, none⟩ (.int .i64 x.f0)).setCell ⟨w2.heap.size + 1, 2, none⟩ (.int .i64 x.f1)).setCell ⟨w2.heap.size + 1, 3, none⟩ (.string x.f2)).heap[w2.heap.size]? = _ := (heap_setCell_ne _ (by omega)).trans ((heap_setCell_ne _ (by omega)).trans ((heap_setCell_ne _ (by omega)).trans ((heap_setCell_ne _ (by omega)).trans hqz)))
      go_simp
      refine hK _ _ ⟨hB', ?_⟩
      clear hK K' f0 f1 f2 f3 z_
      revert hB' hP' hO'
      generalize ((((w5.at d').setCell ⟨w2.heap.size + 1, 0, none⟩ (.int .i64 at_)).setCell ⟨w2.heap.size + 1, 1, none⟩ (.int .i64 x.f0)).setCell ⟨w2.heap.size + 1, 2, none⟩ (.int .i64 x.f1)).setCell ⟨w2.heap.size + 1, 3, none⟩ (.string x.f2) = w6
      intro hB' hP' hO'
      clear hB hpz hqz
      have hB := hB'
      clear hB'
      try walk_nrm
      have hqz := hO'
      have hpA := hP'
      clear hO' hP'
      refine anyCH_all (rs := [15]) (by kernel_rfl) (by simp) ?_
      intro i hi
      simp only [List.mem_cons, List.not_mem_nil, or_false] at hi
      subst hi
      refine opC_k rfl rfl rfl (fun d' K' hK => ?_)
      have f0 : (w6.at d').cell? ⟨w2.heap.size, 0, none⟩ = _ := cell_of (o := 0) hqz
      have f1 : (w6.at d').cell? ⟨w2.heap.size, 1, none⟩ = _ := cell_of (o := 1) hqz
      have f2 : (w6.at d').cell? ⟨w2.heap.size, 2, none⟩ = _ := cell_of (o := 2) hqz
      have f3 : (w6.at d').cell? ⟨w2.heap.size, 3, none⟩ = _ := cell_of (o := 3) hqz
      have z_ : ∀ j, (w6.at d').frozen? ⟨w2.heap.size, j, none⟩ = false := fun j => frozen_of hqz
      simp only [List.getElem?_toArray, List.getElem?_cons_succ, List.getElem?_cons_zero] at f0 f1 f2 f3
      have hB' : Below w2.heap.size w2 (((((w6.at d').setCell ⟨w2.heap.size, 0, none⟩ (.int .i64 bt)).setCell ⟨w2.heap.size, 1, none⟩ (.int .i64 y.f0)).setCell ⟨w2.heap.size, 2, none⟩ (.int .i64 y.f1)).setCell ⟨w2.heap.size, 3, none⟩ (.string y.f2)) := ((((below_at hB d').setCell (by show w2.heap.size ≤ w2.heap.size; omega) _).setCell (by show w2.heap.size ≤ w2.heap.size; omega) _).setCell (by show w2.heap.size ≤ w2.heap.size; omega) _).setCell (by show w2.heap.size ≤ w2.heap.size; omega) _
      have hP' : (((((w6.at d').setCell ⟨w2.heap.size, 0, none⟩ (.int .i64 bt)).setCell ⟨w2.heap.size, 1, none⟩ (.int .i64 y.f0)).setCell ⟨w2.heap.size, 2, none⟩ (.int .i64 y.f1)).setCell ⟨w2.heap.size, 3, none⟩ (.string y.f2)).heap[w2.heap.size]? = some (.cells #[.int .i64 bt, .int .i64 y.f0, .int .i64 y.f1, .string y.f2] 27 (0, 0)) := by
        have k0 := heap_setCell_self (w := w6.at d') (o := 0) hqz (.int .i64 bt)
        have k1 := heap_setCell_self (o := 1) k0 (.int .i64 y.f0)
        have k2 := heap_setCell_self (o := 2) k1 (.int .i64 y.f1)
        exact heap_setCell_self (o := 3) k2 (.string y.f2)
      have hO' : (((((w6.at d').setCell ⟨w2.heap.size, 0, none⟩ (.int .i64 bt)).setCell ⟨w2.heap.size, 1, none⟩ (.int .i64 y.f0)).setCell ⟨w2.heap.size, 2, none⟩ (.int .i64 y.f1)).setCell ⟨w2.heap.size, 3, none⟩ (.string y.f2)).heap[w2.heap.size + 1]? = _ := (heap_setCell_ne _ (by omega)).trans ((heap_setCell_ne _ (by omega)).trans ((heap_setCell_ne _ (by omega)).trans ((heap_setCell_ne _ (by omega)).trans hpA)))
      go_simp
      refine hK _ _ ⟨hB', ?_⟩
      clear hK K' f0 f1 f2 f3 z_
      revert hB' hP' hO'
      generalize ((((w6.at d').setCell ⟨w2.heap.size, 0, none⟩ (.int .i64 bt)).setCell ⟨w2.heap.size, 1, none⟩ (.int .i64 y.f0)).setCell ⟨w2.heap.size, 2, none⟩ (.int .i64 y.f1)).setCell ⟨w2.heap.size, 3, none⟩ (.string y.f2) = w7
      intro hB' hP' hO'
      clear hB hqz hpA
      have hB := hB'
      clear hB'
      try walk_nrm
      exact anyCH_done (by kernel_rfl) ⟨_, _, by omega, by omega, by omega, hB, hO', hP', rfl⟩ _
  rintro a' w3 ⟨p, q, hpq, hp, hq, hB3, hP, hQ, rfl⟩
  obtain ⟨PA, hRA⟩ : ∃ PA, RecF at_ x.f0 x.f1 x.f2 PA := ⟨_, recF hat0 (sm_at hat0 hat1) (hxok x (List.mem_cons_self ..)).sm0 (hxok x (List.mem_cons_self ..)).sm1 (Nat.le_trans (hxok x (List.mem_cons_self ..)).size (by decide)) (hxok x (List.mem_cons_self ..)).may⟩
  obtain ⟨PB, hRB⟩ : ∃ PB, RecF bt y.f0 y.f1 y.f2 PB := ⟨_, recF hbt0 (sm_at hbt0 hbt1) (hyok y (List.mem_cons_self ..)).sm0 (hyok y (List.mem_cons_self ..)).sm1 (Nat.le_trans (hyok y (List.mem_cons_self ..)).size (by decide)) (hyok y (List.mem_cons_self ..)).may⟩
  have g0 : RS W p q #[.int .i64 at_, .int .i64 x.f0, .int .i64 x.f1, .string x.f2] #[.int .i64 bt, .int .i64 y.f0, .int .i64 y.f1, .string y.f2] w3 := ⟨Nat.le_trans hbl.size hp, Nat.le_trans hbl.size hq, below_step' hbl hbl.size hB3, hP, hQ⟩
  clear hP hQ hB3 hp hq hbl hx0 hx1 hx2 hy0 hy1 hy2 hxs hys e1 e2
  walk_nrm
  have fp0 := cell_of (o := 0) g0.p
  have fp1 := cell_of (o := 1) g0.p
  have fp2 := cell_of (o := 2) g0.p
  have fp3 := cell_of (o := 3) g0.p
  have fq0 := cell_of (o := 0) g0.q
  have fq1 := cell_of (o := 1) g0.q
  have fq2 := cell_of (o := 2) g0.q
  have fq3 := cell_of (o := 3) g0.q
  simp only [List.getElem?_toArray, List.getElem?_cons_succ, List.getElem?_cons_zero] at fp0 fp1 fp2 fp3 fq0 fq1 fq2 fq3
  repeat (first
    | with_reducible refine gw_seq ?_
    | with_reducible refine gw_skip ?_
    | with_reducible refine gw_inBlock ?_
    | with_reducible refine gw_block ?_
    | with_reducible refine gw_loop ?_
    | with_reducible refine gw_inLoop ?_
    | with_reducible refine gw_region_end ?_
    | (refine gw_region _ rfl ?_; simp only [List.size_toArray, List.length_cons, List.length_nil, Nat.reduceAdd, Nat.zero_add, List.range, List.range.loop])
    | (refine gw_exit rfl ?_)
    | (refine gw_cond _ rfl ?_; simp only [if_true, if_false, Bool.false_eq_true, reduceIte, Bool.not_true, Bool.not_false, decide_true, decide_false, decide_eq_true_eq, not_true_eq_false, not_false_eq_true])
    | (refine gw_unwanted rfl (by rfl) ?_; try walk_nrm)
    | (refine gw_op rfl (by rfl) (by decide) rfl (fun K hK => ?_); go_simp; refine hK _ _ rfl ?_; clear hK K; try walk_nrm)
    )
  refine gw_callB (args := #[.agg #[.int .i64 at_, .int .i64 x.f0, .int .i64 x.f1, .string x.f2]]) (.tuple #[.string PA, .int .i64 0]) rfl (by rfl) (by decide) rfl Try.func9 rfl (by kernel_rfl) (by simp only [List.map_toArray, List.map_cons, List.map_nil, Act.eval] <;> rfl) (ent_ok rfl rfl) (fun u hu => trace_Put.calls 100 at_ x.f0 x.f1 x.f2 PA 0 u hRA.put) ?_
  intro w4 hb
  have g1 := g0.next hb
  clear fp0 fp1 fp2 fp3 fq0 fq1 fq2 fq3
  clear hb g0 w3
  try walk_nrm
  have fp0 := cell_of (o := 0) g1.p
  have fp1 := cell_of (o := 1) g1.p
  have fp2 := cell_of (o := 2) g1.p
  have fp3 := cell_of (o := 3) g1.p
  have fq0 := cell_of (o := 0) g1.q
  have fq1 := cell_of (o := 1) g1.q
  have fq2 := cell_of (o := 2) g1.q
  have fq3 := cell_of (o := 3) g1.q
  simp only [List.getElem?_toArray, List.getElem?_cons_succ, List.getElem?_cons_zero] at fp0 fp1 fp2 fp3 fq0 fq1 fq2 fq3
  repeat (first
    | with_reducible refine gw_seq ?_
    | with_reducible refine gw_skip ?_
    | with_reducible refine gw_inBlock ?_
    | with_reducible refine gw_block ?_
    | with_reducible refine gw_loop ?_
    | with_reducible refine gw_inLoop ?_
    | with_reducible refine gw_region_end ?_
    | (refine gw_region _ rfl ?_; simp only [List.size_toArray, List.length_cons, List.length_nil, Nat.reduceAdd, Nat.zero_add, List.range, List.range.loop])
    | (refine gw_exit rfl ?_)
    | (refine gw_cond _ rfl ?_; simp only [if_true, if_false, Bool.false_eq_true, reduceIte, Bool.not_true, Bool.not_false, decide_true, decide_false, decide_eq_true_eq, not_true_eq_false, not_false_eq_true])
    | (refine gw_unwanted rfl (by rfl) ?_; try walk_nrm)
    | (refine gw_op rfl (by rfl) (by decide) rfl (fun K hK => ?_); go_simp; refine hK _ _ rfl ?_; clear hK K; try walk_nrm)
    )
  refine gw_callB (args := #[.agg #[.int .i64 bt, .int .i64 y.f0, .int .i64 y.f1, .string y.f2]]) (.tuple #[.string PB, .int .i64 0]) rfl (by rfl) (by decide) rfl Try.func9 rfl (by kernel_rfl) (by simp only [List.map_toArray, List.map_cons, List.map_nil, Act.eval] <;> rfl) (ent_ok rfl rfl) (fun u hu => trace_Put.calls 100 bt y.f0 y.f1 y.f2 PB 0 u hRB.put) ?_
  intro w5 hb
  have g2 := g1.next hb
  clear fp0 fp1 fp2 fp3 fq0 fq1 fq2 fq3
  clear hb g1 w4
  try walk_nrm
  repeat (first
    | with_reducible refine gw_seq ?_
    | with_reducible refine gw_skip ?_
    | with_reducible refine gw_inBlock ?_
    | with_reducible refine gw_block ?_
    | with_reducible refine gw_loop ?_
    | with_reducible refine gw_inLoop ?_
    | with_reducible refine gw_region_end ?_
    | (refine gw_region _ rfl ?_; simp only [List.size_toArray, List.length_cons, List.length_nil, Nat.reduceAdd, Nat.zero_add, List.range, List.range.loop])
    | (refine gw_exit rfl ?_)
    | (refine gw_cond _ rfl ?_; simp only [if_true, if_false, Bool.false_eq_true, reduceIte, Bool.not_true, Bool.not_false, decide_true, decide_false, decide_eq_true_eq, not_true_eq_false, not_false_eq_true])
    | (refine gw_unwanted rfl (by rfl) ?_; try walk_nrm)
    | (refine gw_op rfl (by rfl) (by decide) rfl (fun K hK => ?_); go_simp; refine hK _ _ rfl ?_; clear hK K; try walk_nrm)
    )
  obtain ⟨a1, a2, a3, a4, k1, k2, k3, k4⟩ := hRA.ok
  refine gw_into (args := #[.string PA]) rfl (by rfl) (by decide) rfl Try.func14 rfl (by kernel_rfl) (by simp only [List.map_toArray, List.map_cons, List.map_nil, Act.eval] <;> rfl) ?_
  refine get_walk 100 PA x.f2 PA at_ x.f0 x.f1 a1 a2 a3 a4 0 _ _ _ k1 k2 k3 k4 (fun _ => hRA.put) _ 0 (.inr (.inr ⟨rfl, rfl, rfl, rfl⟩)) ?_
  intro w6 hb
  have g3 := g2.next hb
  clear hb g2 w5 k1 k2 k3 k4 a1 a2 a3 a4
  rw [finish_op rfl]
  try walk_nrm
  refine gw_op rfl (by rfl) (by decide) rfl (fun K hK => ?_)
  go_simp
  refine hK _ _ rfl ?_
  clear hK K
  try walk_nrm
  refine gw_op rfl (by rfl) (by decide) rfl (fun K hK => ?_)
  go_simp
  refine hK _ _ rfl ?_
  clear hK K
  try walk_nrm
  refine gw_op rfl (by rfl) (by decide) rfl (fun K hK => ?_)
  go_simp
  refine hK _ _ rfl ?_
  clear hK K
  try walk_nrm
  refine gw_op rfl (by rfl) (by decide) rfl (fun K hK => ?_)
  go_simp
  refine hK _ _ rfl ?_
  clear hK K
  try walk_nrm
  refine gw_op rfl (by rfl) (by decide) rfl (fun K hK => ?_)
  go_simp
  refine hK _ _ rfl ?_
  clear hK K
  try walk_nrm
  refine gw_op rfl (by rfl) (by decide) rfl (fun K hK => ?_)
  go_simp
  refine hK _ _ rfl ?_
  clear hK K
  try walk_nrm
  have g4 : RS W p q #[.int .i64 at_, .int .i64 x.f0, .int .i64 x.f1, .string x.f2] #[.int .i64 bt, .int .i64 y.f0, .int .i64 y.f1, .string y.f2] (w6.alloc (.cells #[.int .i64 at_, .int .i64 x.f0, .int .i64 x.f1, .string x.f2] 27)) := g3.next ((Below.refl _ _).alloc (Nat.le_refl _) _)
  have hcc : (w6.alloc (.cells #[.int .i64 at_, .int .i64 x.f0, .int .i64 x.f1, .string x.f2] 27)).heap[w6.heap.size]? = some (.cells #[.int .i64 at_, .int .i64 x.f0, .int .i64 x.f1, .string x.f2] 27 (0, 0)) := heap_alloc_self _ _
  refine gw_region_end ?_
  exact rec_tail _ hRA hRB g4 hcc
end Go.Proofs.Ytmdcpmfanpopgaa
