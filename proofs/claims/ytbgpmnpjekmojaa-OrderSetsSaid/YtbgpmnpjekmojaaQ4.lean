/- Part 4 of the texts that the proof rests on: an abstract machine over pure values, what functions of the program come to. No condition. -/
import Derived.Test.YtbgpmnpjekmojaaQ3

set_option linter.unusedSimpArgs false
set_option linter.unusedVariables false
set_option linter.unnecessarySimpa false

/- The order of texts; the reference's Order. No condition. -/
namespace Go.Vai
open Go.Proofs

theorem less_irr : ∀ x : List UInt8, Op.bytesLess x x = false
  | [] => rfl
  | a :: x => by simp [Op.bytesLess, less_irr x]
theorem less_tri : ∀ {x y : List UInt8}, Op.bytesLess x y = false → Op.bytesLess y x = false → x = y
  | [], [], _, _ => rfl
  | [], _ :: _, h, _ => by cases h
  | _ :: _, [], _, h => by cases h
  | a :: x, b :: y, h1, h2 => by
    rw [Op.bytesLess, Bool.or_eq_false_iff, decide_eq_false_iff_not] at h1 h2
    have hab : a = b := UInt8.le_antisymm (UInt8.not_lt.1 h2.1) (UInt8.not_lt.1 h1.1)
    subst hab
    have := less_tri (x := x) (y := y) (by simpa using h1.2) (by simpa using h2.2)
    rw [this]
theorem less_trans : ∀ {x y z : List UInt8}, Op.bytesLess x y = true → Op.bytesLess y z = true → Op.bytesLess x z = true
  | [], [], _, h, _ => by cases h
  | _ :: _, [], _, h, _ => by cases h
  | _, _ :: _, [], _, h => by cases h
  | [], _ :: _, _ :: _, _, _ => rfl
  | a :: x, b :: y, c :: z, h1, h2 => by
    simp [Op.bytesLess] at h1 h2 ⊢
    rcases h1 with h1 | ⟨rfl, h1⟩
    · rcases h2 with h2 | ⟨rfl, _⟩
      · exact .inl (UInt8.lt_trans h1 h2)
      · exact .inl h1
    · rcases h2 with h2 | ⟨rfl, h2⟩
      · exact .inl h2
      · exact .inr ⟨rfl, less_trans h1 h2⟩
theorem less_asymm {x y : List UInt8} (h : Op.bytesLess x y = true) : Op.bytesLess y x = false := by
  cases h2 : Op.bytesLess y x with
  | false => rfl
  | true =>
    have := less_trans h h2
    rw [less_irr] at this
    cases this

theorem refCmp_ok (a b : Int) : Snd 77 [iv a, iv b] [iv (cmpI a b)] := by
  refine sound_pure (Γ := G 13 (fun _ => false) (fun _ => false) (fun _ => false)) (G_ok _ _ _ _) Try.func77 rfl (by decide) rfl rfl rfl ?_
  repeat' ((try conv => whnf); with_reducible first | refine AWP.seq ?_ | refine AWP.region (G_ok _ _ _ _) rfl ?_ | refine AWP.block ?_ | refine AWP.cond rfl ?_ | refine AWP.ret ?_ | refine AWP.skip ?_ | refine AWP.exit ?_ | refine AWP.label ?_ | refine AWP.goto ?_ | refine Br (fun h => ?_) (fun h => ?_))
  all_goals (try conv => whnf)
  all_goals (refine finI rfl ?_; simp at *; simp [cmpI]; omega)
theorem refLess_ok (a b : Int) : Snd 100 [uv a, uv b] [iv (cmpI a b)] := by
  refine sound_pure (Γ := G 13 (fun _ => false) (fun _ => false) (fun _ => false)) (G_ok _ _ _ _) Try.func100 rfl (by decide) rfl rfl rfl ?_
  repeat' ((try conv => whnf); with_reducible first | refine AWP.seq ?_ | refine AWP.region (G_ok _ _ _ _) rfl ?_ | refine AWP.block ?_ | refine AWP.cond rfl ?_ | refine AWP.ret ?_ | refine AWP.skip ?_ | refine AWP.exit ?_ | refine AWP.label ?_ | refine AWP.goto ?_ | refine Br (fun h => ?_) (fun h => ?_))
  all_goals (try conv => whnf)
  all_goals (refine finI rfl ?_; simp at *; simp [cmpI]; omega)
theorem refText_ok (a b : ByteArray) : Snd 80 [sv a, sv b] [iv (cmpS a b)] := by
  refine sound_pure (Γ := G 13 (fun _ => false) (fun _ => false) (fun _ => false)) (G_ok _ _ _ _) Try.func80 rfl (by decide) rfl rfl rfl ?_
  repeat' ((try conv => whnf); with_reducible first | refine AWP.seq ?_ | refine AWP.region (G_ok _ _ _ _) rfl ?_ | refine AWP.block ?_ | refine AWP.cond rfl ?_ | refine AWP.ret ?_ | refine AWP.skip ?_ | refine AWP.exit ?_ | refine AWP.label ?_ | refine AWP.goto ?_ | refine Br (fun h => ?_) (fun h => ?_))
  all_goals (try conv => whnf)
  · refine finI rfl ?_; simp [cmpS, h]
  · rename_i h1
    refine finI rfl ?_
    simp at h
    simp [cmpS, h]
  · rename_i h1
    refine finI rfl ?_
    simp at h
    have h2 := h h1
    simp [cmpS, h2, less_irr]
theorem refCompareC_ok (a b c d : Int) : Snd 79 [uv a, uv b, uv c, uv d] [iv (orL [cmpI a c, cmpI b d])] := by
  refine sound_pure (Γ := G 19 (fun _ => false) (fun _ => false) (fun _ => false)) (G_ok _ _ _ _) Try.func79 rfl (by decide) rfl rfl rfl ?_
  repeat' ((try conv => whnf); with_reducible first | refine AWP.seq ?_ | refine AWP.region (G_ok _ _ _ _) rfl ?_ | refine AWP.block ?_ | refine AWP.cond rfl ?_ | refine AWP.ret ?_ | refine AWP.skip ?_ | refine AWP.exit ?_ | refine AWP.label ?_ | refine AWP.goto ?_ | refine Br (fun h => ?_) (fun h => ?_))
  refine ⟨_, _, refLess_ok a c, ?_⟩
  repeat' ((try conv => whnf); with_reducible first | refine AWP.seq ?_ | refine AWP.region (G_ok _ _ _ _) rfl ?_ | refine AWP.block ?_ | refine AWP.cond rfl ?_ | refine AWP.ret ?_ | refine AWP.skip ?_ | refine AWP.exit ?_ | refine AWP.label ?_ | refine AWP.goto ?_ | refine Br (fun h => ?_) (fun h => ?_))
  all_goals (try conv => whnf)
  · simp at h
    refine finI rfl ?_
    simp [orL, h]
  · simp at h
    refine ⟨_, _, refLess_ok b d, ?_⟩
    repeat' ((try conv => whnf); with_reducible first | refine AWP.seq ?_ | refine AWP.region (G_ok _ _ _ _) rfl ?_ | refine AWP.block ?_ | refine AWP.cond rfl ?_ | refine AWP.ret ?_ | refine AWP.skip ?_ | refine AWP.exit ?_ | refine AWP.label ?_ | refine AWP.goto ?_ | refine Br (fun h => ?_) (fun h => ?_))
    all_goals (try conv => whnf)
    refine finI rfl ?_
    simp [orL, h]
theorem refRank_ok (t : Tm) : Snd 78 [t.pv] [iv (rankI t.k)] := by
  refine sound_pure (Γ := G 13 (fun _ => false) (fun _ => false) (fun _ => false)) (G_ok _ _ _ _) Try.func78 rfl (by decide) rfl rfl rfl ?_
  repeat' ((try conv => whnf); with_reducible first | refine AWP.seq ?_ | refine AWP.region (G_ok _ _ _ _) rfl ?_ | refine AWP.block ?_ | refine AWP.cond rfl ?_ | refine AWP.ret ?_ | refine AWP.skip ?_ | refine AWP.exit ?_ | refine AWP.label ?_ | refine AWP.goto ?_ | refine Br (fun h => ?_) (fun h => ?_))
  all_goals (try conv => whnf)
  all_goals (refine finI rfl ?_; simp at *; simp [rankI, *])


theorem refOrder_ok (a b : Tm) (ha : a.Fit) (hb : b.Fit) : Snd 49 [a.pv, b.pv] [iv (compareT a b)] := by
  have hl : ∀ t : Tm, (t.ts.map Tm.enc).length = t.ts.length := fun t => by simp
  refine sound_pure (Γ := G 85 (fun _ => false) (fun _ => false) (fun _ => false)) (G_ok _ _ _ _) Try.func49 rfl (by decide) rfl rfl rfl ?_
  repeat' ((try conv => whnf); with_reducible first | refine AWP.seq ?_ | refine AWP.region (G_ok _ _ _ _) rfl ?_ | refine AWP.draw (G_ok _ _ _ _) rfl [0, 1, 0, 7, 15, 31] [3, 1, 1, 1] rfl rfl ?_ | refine AWP.draw (G_ok _ _ _ _) rfl [0, 1, 0, 7, 15, 0, 32, 0, 224, 480, 1023, 2047] [10, 1, 1] rfl rfl ?_ | refine AWP.block ?_ | refine AWP.cond rfl ?_ | refine AWP.ret ?_ | refine AWP.skip ?_ | refine AWP.exit ?_ | refine AWP.label ?_ | refine AWP.goto ?_ | refine Br (fun h => ?_) (fun h => ?_))
  refine ⟨_, _, refRank_ok a, ?_⟩
  repeat' ((try conv => whnf); with_reducible first | refine AWP.seq ?_ | refine AWP.region (G_ok _ _ _ _) rfl ?_ | refine AWP.draw (G_ok _ _ _ _) rfl [0, 1, 0, 7, 15, 31] [3, 1, 1, 1] rfl rfl ?_ | refine AWP.draw (G_ok _ _ _ _) rfl [0, 1, 0, 7, 15, 0, 32, 0, 224, 480, 1023, 2047] [10, 1, 1] rfl rfl ?_ | refine AWP.block ?_ | refine AWP.cond rfl ?_ | refine AWP.ret ?_ | refine AWP.skip ?_ | refine AWP.exit ?_ | refine AWP.label ?_ | refine AWP.goto ?_ | refine Br (fun h => ?_) (fun h => ?_))
  refine ⟨_, _, refRank_ok b, ?_⟩
  repeat' ((try conv => whnf); with_reducible first | refine AWP.seq ?_ | refine AWP.region (G_ok _ _ _ _) rfl ?_ | refine AWP.draw (G_ok _ _ _ _) rfl [0, 1, 0, 7, 15, 31] [3, 1, 1, 1] rfl rfl ?_ | refine AWP.draw (G_ok _ _ _ _) rfl [0, 1, 0, 7, 15, 0, 32, 0, 224, 480, 1023, 2047] [10, 1, 1] rfl rfl ?_ | refine AWP.block ?_ | refine AWP.cond rfl ?_ | refine AWP.ret ?_ | refine AWP.skip ?_ | refine AWP.exit ?_ | refine AWP.label ?_ | refine AWP.goto ?_ | refine Br (fun h => ?_) (fun h => ?_))
  refine ⟨_, _, refCmp_ok (rankI a.k) (rankI b.k), ?_⟩
  repeat' ((try conv => whnf); with_reducible first | refine AWP.seq ?_ | refine AWP.region (G_ok _ _ _ _) rfl ?_ | refine AWP.draw (G_ok _ _ _ _) rfl [0, 1, 0, 7, 15, 31] [3, 1, 1, 1] rfl rfl ?_ | refine AWP.draw (G_ok _ _ _ _) rfl [0, 1, 0, 7, 15, 0, 32, 0, 224, 480, 1023, 2047] [10, 1, 1] rfl rfl ?_ | refine AWP.block ?_ | refine AWP.cond rfl ?_ | refine AWP.ret ?_ | refine AWP.skip ?_ | refine AWP.exit ?_ | refine AWP.label ?_ | refine AWP.goto ?_ | (refine Br (fun h => ?_) (fun h => ?_) <;> try (exfalso; simp only [decide_eq_true_eq, decide_eq_false_iff_not, beq_iff_eq, beq_eq_false_iff_ne, bne_iff_ne, bne_eq_false_iff_eq, ne_eq, List.length_map, List.length_append, List.length_cons, List.length_nil] at *; omega)))
  all_goals (try conv => whnf)
  · refine finI rfl ?_
    rw [compareT_eq]; simp only [decide_eq_true_eq, decide_eq_false_iff_not, beq_iff_eq, beq_eq_false_iff_ne, bne_iff_ne, bne_eq_false_iff_eq, Bool.not_eq_true', Bool.not_eq_false', ne_eq, List.length_map, List.length_append, List.length_cons, List.length_nil] at *; (repeat first | rw [if_pos (by omega)] | rw [if_neg (by omega)])
  · refine ⟨_, _, refCmp_ok a.i b.i, ?_⟩
    repeat' ((try conv => whnf); with_reducible first | refine AWP.seq ?_ | refine AWP.region (G_ok _ _ _ _) rfl ?_ | refine AWP.draw (G_ok _ _ _ _) rfl [0, 1, 0, 7, 15, 31] [3, 1, 1, 1] rfl rfl ?_ | refine AWP.draw (G_ok _ _ _ _) rfl [0, 1, 0, 7, 15, 0, 32, 0, 224, 480, 1023, 2047] [10, 1, 1] rfl rfl ?_ | refine AWP.block ?_ | refine AWP.cond rfl ?_ | refine AWP.ret ?_ | refine AWP.skip ?_ | refine AWP.exit ?_ | refine AWP.label ?_ | refine AWP.goto ?_ | refine Br (fun h => ?_) (fun h => ?_))
    all_goals (try conv => whnf)
    refine finI rfl ?_
    rw [compareT_eq]; simp only [decide_eq_true_eq, decide_eq_false_iff_not, beq_iff_eq, beq_eq_false_iff_ne, bne_iff_ne, bne_eq_false_iff_eq, Bool.not_eq_true', Bool.not_eq_false', ne_eq, List.length_map, List.length_append, List.length_cons, List.length_nil] at *; (repeat first | rw [if_pos (by omega)] | rw [if_neg (by omega)])
  · refine ⟨_, _, refCmp_ok a.i b.i, ?_⟩
    repeat' ((try conv => whnf); with_reducible first | refine AWP.seq ?_ | refine AWP.region (G_ok _ _ _ _) rfl ?_ | refine AWP.draw (G_ok _ _ _ _) rfl [0, 1, 0, 7, 15, 31] [3, 1, 1, 1] rfl rfl ?_ | refine AWP.draw (G_ok _ _ _ _) rfl [0, 1, 0, 7, 15, 0, 32, 0, 224, 480, 1023, 2047] [10, 1, 1] rfl rfl ?_ | refine AWP.block ?_ | refine AWP.cond rfl ?_ | refine AWP.ret ?_ | refine AWP.skip ?_ | refine AWP.exit ?_ | refine AWP.label ?_ | refine AWP.goto ?_ | refine Br (fun h => ?_) (fun h => ?_))
    all_goals (try conv => whnf)
    refine finI rfl ?_
    rw [compareT_eq]; simp only [decide_eq_true_eq, decide_eq_false_iff_not, beq_iff_eq, beq_eq_false_iff_ne, bne_iff_ne, bne_eq_false_iff_eq, Bool.not_eq_true', Bool.not_eq_false', ne_eq, List.length_map, List.length_append, List.length_cons, List.length_nil] at *; (repeat first | rw [if_pos (by omega)] | rw [if_neg (by omega)])
  · refine ⟨_, _, refCompareC_ok a.re a.im b.re b.im, ?_⟩
    repeat' ((try conv => whnf); with_reducible first | refine AWP.seq ?_ | refine AWP.region (G_ok _ _ _ _) rfl ?_ | refine AWP.draw (G_ok _ _ _ _) rfl [0, 1, 0, 7, 15, 31] [3, 1, 1, 1] rfl rfl ?_ | refine AWP.draw (G_ok _ _ _ _) rfl [0, 1, 0, 7, 15, 0, 32, 0, 224, 480, 1023, 2047] [10, 1, 1] rfl rfl ?_ | refine AWP.block ?_ | refine AWP.cond rfl ?_ | refine AWP.ret ?_ | refine AWP.skip ?_ | refine AWP.exit ?_ | refine AWP.label ?_ | refine AWP.goto ?_ | refine Br (fun h => ?_) (fun h => ?_))
    all_goals (try conv => whnf)
    refine finI rfl ?_
    rw [compareT_eq]; simp only [decide_eq_true_eq, decide_eq_false_iff_not, beq_iff_eq, beq_eq_false_iff_ne, bne_iff_ne, bne_eq_false_iff_eq, Bool.not_eq_true', Bool.not_eq_false', ne_eq, List.length_map, List.length_append, List.length_cons, List.length_nil] at *; (repeat first | rw [if_pos (by omega)] | rw [if_neg (by omega)])
  · refine ⟨_, _, refText_ok a.n b.n, ?_⟩
    repeat' ((try conv => whnf); with_reducible first | refine AWP.seq ?_ | refine AWP.region (G_ok _ _ _ _) rfl ?_ | refine AWP.draw (G_ok _ _ _ _) rfl [0, 1, 0, 7, 15, 31] [3, 1, 1, 1] rfl rfl ?_ | refine AWP.draw (G_ok _ _ _ _) rfl [0, 1, 0, 7, 15, 0, 32, 0, 224, 480, 1023, 2047] [10, 1, 1] rfl rfl ?_ | refine AWP.block ?_ | refine AWP.cond rfl ?_ | refine AWP.ret ?_ | refine AWP.skip ?_ | refine AWP.exit ?_ | refine AWP.label ?_ | refine AWP.goto ?_ | refine Br (fun h => ?_) (fun h => ?_))
    all_goals (try conv => whnf)
    refine finI rfl ?_
    rw [compareT_eq]; simp only [decide_eq_true_eq, decide_eq_false_iff_not, beq_iff_eq, beq_eq_false_iff_ne, bne_iff_ne, bne_eq_false_iff_eq, Bool.not_eq_true', Bool.not_eq_false', ne_eq, List.length_map, List.length_append, List.length_cons, List.length_nil] at *; (repeat first | rw [if_pos (by omega)] | rw [if_neg (by omega)])
  refine ⟨_, _, (by have := refCmp_ok a.ts.length b.ts.length; rw [← hl a, ← hl b] at this; exact this), ?_⟩
  repeat' ((try conv => whnf); with_reducible first | refine AWP.seq ?_ | refine AWP.region (G_ok _ _ _ _) rfl ?_ | refine AWP.draw (G_ok _ _ _ _) rfl [0, 1, 0, 7, 15, 31] [3, 1, 1, 1] rfl rfl ?_ | refine AWP.draw (G_ok _ _ _ _) rfl [0, 1, 0, 7, 15, 0, 32, 0, 224, 480, 1023, 2047] [10, 1, 1] rfl rfl ?_ | refine AWP.block ?_ | refine AWP.cond rfl ?_ | refine AWP.ret ?_ | refine AWP.skip ?_ | refine AWP.exit ?_ | refine AWP.label ?_ | refine AWP.goto ?_ | (refine Br (fun h => ?_) (fun h => ?_) <;> try (exfalso; simp only [decide_eq_true_eq, decide_eq_false_iff_not, beq_iff_eq, beq_eq_false_iff_ne, bne_iff_ne, bne_eq_false_iff_eq, ne_eq, List.length_map, List.length_append, List.length_cons, List.length_nil] at *; omega)))
  all_goals (try conv => whnf)
  · refine finI rfl ?_
    rw [hl, hl] at h ⊢
    rw [compareT_eq]; simp only [orL]; simp only [decide_eq_true_eq, decide_eq_false_iff_not, beq_iff_eq, beq_eq_false_iff_ne, bne_iff_ne, bne_eq_false_iff_eq, Bool.not_eq_true', Bool.not_eq_false', ne_eq, List.length_map, List.length_append, List.length_cons, List.length_nil] at *; (repeat first | rw [if_pos (by omega)] | rw [if_neg (by omega)])
  refine ⟨_, _, refText_ok a.n b.n, ?_⟩
  repeat' ((try conv => whnf); with_reducible first | refine AWP.seq ?_ | refine AWP.region (G_ok _ _ _ _) rfl ?_ | refine AWP.draw (G_ok _ _ _ _) rfl [0, 1, 0, 7, 15, 31] [3, 1, 1, 1] rfl rfl ?_ | refine AWP.draw (G_ok _ _ _ _) rfl [0, 1, 0, 7, 15, 0, 32, 0, 224, 480, 1023, 2047] [10, 1, 1] rfl rfl ?_ | refine AWP.block ?_ | refine AWP.cond rfl ?_ | refine AWP.ret ?_ | refine AWP.skip ?_ | refine AWP.exit ?_ | refine AWP.label ?_ | refine AWP.goto ?_ | (refine Br (fun h => ?_) (fun h => ?_) <;> try (exfalso; simp only [decide_eq_true_eq, decide_eq_false_iff_not, beq_iff_eq, beq_eq_false_iff_ne, bne_iff_ne, bne_eq_false_iff_eq, ne_eq, List.length_map, List.length_append, List.length_cons, List.length_nil] at *; omega)))
  all_goals (try conv => whnf)
  · refine finI rfl ?_
    rename_i h9
    rw [hl, hl] at h9
    rw [compareT_eq]; simp only [orL]; simp only [decide_eq_true_eq, decide_eq_false_iff_not, beq_iff_eq, beq_eq_false_iff_ne, bne_iff_ne, bne_eq_false_iff_eq, Bool.not_eq_true', Bool.not_eq_false', ne_eq, List.length_map, List.length_append, List.length_cons, List.length_nil] at *; (repeat first | rw [if_pos (by omega)] | rw [if_neg (by omega)])
  rename_i g0 g1 g2 g3 g4 g5
  have g5' : cmpI (a.ts.length : Int) (b.ts.length : Int) = 0 := by
    rw [hl, hl] at g5
    simpa using g5
  have hlen : a.ts.length = b.ts.length := by
    unfold cmpI at g5'
    (repeat' split at g5') <;> omega
  have heq : compareT a b = compareL a.ts b.ts := by
    simp at g0 g1 g2 g3 g4 h
    rw [compareT_eq, if_neg (by simpa using g0), if_neg (by omega), if_neg g3, if_neg g4, if_neg]
    simp [orL, g5', h]
  have hal := ha.len
  refine AWP.loop (fun m st => ∃ j : Nat, m = a.ts.length - j ∧ j ≤ a.ts.length ∧ Has st [(2, .ptr 102 0 0), (3, .ptr 103 0 0), (66, iv (a.ts.map Tm.enc).length), (67, iv j)] [(102, .cell a.cells), (103, .cell b.cells)] ∧ compareL (a.ts.drop j) (b.ts.drop j) = compareL a.ts b.ts) a.ts.length ⟨0, rfl, Nat.zero_le _, ⟨⟨rfl, rfl, rfl, rfl, trivial⟩, ⟨rfl, rfl, trivial⟩⟩, rfl⟩ ?_
  rintro m st ⟨j, rfl, hj, hst, hr⟩
  obtain ⟨f, H, rfl⟩ := hst.canon
  repeat' ((try conv => whnf); with_reducible first | refine AWP.seq ?_ | refine AWP.region (G_ok _ _ _ _) rfl ?_ | refine AWP.draw (G_ok _ _ _ _) rfl [0, 1, 0, 7, 15, 31] [3, 1, 1, 1] rfl rfl ?_ | refine AWP.draw (G_ok _ _ _ _) rfl [0, 1, 0, 7, 15, 0, 32, 0, 224, 480, 1023, 2047] [10, 1, 1] rfl rfl ?_ | refine AWP.block ?_ | refine AWP.cond rfl ?_ | refine AWP.ret ?_ | refine AWP.skip ?_ | refine AWP.exit ?_ | refine AWP.label ?_ | refine AWP.goto ?_ | refine Br (fun h => ?_) (fun h => ?_))
  all_goals (try conv => whnf)
  · have hj2 : j < a.ts.length := by simpa using h
    have hj3 : j < b.ts.length := by omega
    have hd : a.ts.drop j = a.ts[j] :: a.ts.drop (j + 1) := List.drop_eq_getElem_cons hj2
    have hd2 : b.ts.drop j = b.ts[j] :: b.ts.drop (j + 1) := List.drop_eq_getElem_cons hj3
    rw [hd, hd2, compareL] at hr
    have hmem : a.ts[j] ∈ a.ts := List.getElem_mem hj2
    have hmem2 : b.ts[j] ∈ b.ts := List.getElem_mem hj3
    refine ⟨by omega, (a.ts[j]).cells, by simp [hj2, Tm.enc_eq], ?_⟩
    repeat' ((try conv => whnf); with_reducible first | refine AWP.seq ?_ | refine AWP.region (G_ok _ _ _ _) rfl ?_ | refine AWP.draw (G_ok _ _ _ _) rfl [0, 1, 0, 7, 15, 31] [3, 1, 1, 1] rfl rfl ?_ | refine AWP.draw (G_ok _ _ _ _) rfl [0, 1, 0, 7, 15, 0, 32, 0, 224, 480, 1023, 2047] [10, 1, 1] rfl rfl ?_ | refine AWP.block ?_ | refine AWP.cond rfl ?_ | refine AWP.ret ?_ | refine AWP.skip ?_ | refine AWP.exit ?_ | refine AWP.label ?_ | refine AWP.goto ?_ | refine Br (fun h => ?_) (fun h => ?_))
    all_goals (try conv => whnf)
    refine ⟨by omega, (b.ts[j]).cells, by simp [hj3, Tm.enc_eq], ?_⟩
    repeat' ((try conv => whnf); with_reducible first | refine AWP.seq ?_ | refine AWP.region (G_ok _ _ _ _) rfl ?_ | refine AWP.draw (G_ok _ _ _ _) rfl [0, 1, 0, 7, 15, 31] [3, 1, 1, 1] rfl rfl ?_ | refine AWP.draw (G_ok _ _ _ _) rfl [0, 1, 0, 7, 15, 0, 32, 0, 224, 480, 1023, 2047] [10, 1, 1] rfl rfl ?_ | refine AWP.block ?_ | refine AWP.cond rfl ?_ | refine AWP.ret ?_ | refine AWP.skip ?_ | refine AWP.exit ?_ | refine AWP.label ?_ | refine AWP.goto ?_ | refine Br (fun h => ?_) (fun h => ?_))
    all_goals (try conv => whnf)
    refine ⟨_, _, refOrder_ok a.ts[j] b.ts[j] (ha.arg _ hmem) (hb.arg _ hmem2), ?_⟩
    repeat' ((try conv => whnf); with_reducible first | refine AWP.seq ?_ | refine AWP.region (G_ok _ _ _ _) rfl ?_ | refine AWP.draw (G_ok _ _ _ _) rfl [0, 1, 0, 7, 15, 31] [3, 1, 1, 1] rfl rfl ?_ | refine AWP.draw (G_ok _ _ _ _) rfl [0, 1, 0, 7, 15, 0, 32, 0, 224, 480, 1023, 2047] [10, 1, 1] rfl rfl ?_ | refine AWP.block ?_ | refine AWP.cond rfl ?_ | refine AWP.ret ?_ | refine AWP.skip ?_ | refine AWP.exit ?_ | refine AWP.label ?_ | refine AWP.goto ?_ | refine Br (fun h => ?_) (fun h => ?_))
    all_goals (try conv => whnf)
    · refine finI rfl ?_
      simp at h
      rw [heq, ← hr, if_pos h]
    · have hw : IntKind.i64.wrap ((j : Int) + 1) = ((j + 1 : Nat) : Int) := i64_of (by omega) (by omega)
      refine ⟨a.ts.length - (j + 1), by omega, j + 1, rfl, hj2, ⟨⟨rfl, rfl, rfl, by show PV.s (.int .i64 (IntKind.i64.wrap ((j : Int) + 1))) = _; rw [hw], trivial⟩, ⟨rfl, rfl, trivial⟩⟩, ?_⟩
      rw [← hr, if_neg (by simpa using h)]
  · have hj2 : j = a.ts.length := by simp at h; omega
    refine finI rfl ?_
    rw [heq, ← hr, hj2, List.drop_eq_nil_of_le (Nat.le_refl _), List.drop_eq_nil_of_le (by omega)]
    simp [compareL]
termination_by a
decreasing_by exact Tm.size_lt hmem

theorem refCompare_ok (a b : Tm) (ha : a.Fit) (hb : b.Fit) : Snd 23 [a.pv, b.pv] [iv (compareP a b)] := by
  have ra := refMay_ok a ha
  have rb := refMay_ok b hb
  rw [mayP_ref] at ra rb
  refine sound_pure (Γ := G 16 (fun _ => false) (fun _ => false) (fun _ => false)) (G_ok _ _ _ _) Try.func23 rfl (by decide) rfl rfl rfl ?_
  repeat' ((try conv => whnf); with_reducible first | refine AWP.seq ?_ | refine AWP.region (G_ok _ _ _ _) rfl ?_ | refine AWP.block ?_ | refine AWP.cond rfl ?_ | refine AWP.ret ?_ | refine AWP.skip ?_ | refine AWP.exit ?_ | refine AWP.label ?_ | refine AWP.goto ?_ | refine Br (fun h => ?_) (fun h => ?_))
  refine ⟨_, _, ra, ?_⟩
  repeat' ((try conv => whnf); with_reducible first | refine AWP.seq ?_ | refine AWP.region (G_ok _ _ _ _) rfl ?_ | refine AWP.block ?_ | refine AWP.cond rfl ?_ | refine AWP.ret ?_ | refine AWP.skip ?_ | refine AWP.exit ?_ | refine AWP.label ?_ | refine AWP.goto ?_ | refine Br (fun h => ?_) (fun h => ?_))
  all_goals (try conv => whnf)
  · simp at h
    rw [compareP, if_pos (.inl h)]
    exact finI rfl rfl
  · simp at h
    refine ⟨_, _, rb, ?_⟩
    repeat' ((try conv => whnf); with_reducible first | refine AWP.seq ?_ | refine AWP.region (G_ok _ _ _ _) rfl ?_ | refine AWP.block ?_ | refine AWP.cond rfl ?_ | refine AWP.ret ?_ | refine AWP.skip ?_ | refine AWP.exit ?_ | refine AWP.label ?_ | refine AWP.goto ?_ | refine Br (fun h => ?_) (fun h => ?_))
    all_goals (try conv => whnf)
    · simp at h
      rw [compareP, if_pos (.inr h)]
      exact finI rfl rfl
    · rename_i h1
      simp at h1 h
      refine ⟨_, _, refOrder_ok a b ha hb, ?_⟩
      repeat' ((try conv => whnf); with_reducible first | refine AWP.seq ?_ | refine AWP.region (G_ok _ _ _ _) rfl ?_ | refine AWP.block ?_ | refine AWP.cond rfl ?_ | refine AWP.ret ?_ | refine AWP.skip ?_ | refine AWP.exit ?_ | refine AWP.label ?_ | refine AWP.goto ?_ | refine Br (fun h => ?_) (fun h => ?_))
      all_goals (try conv => whnf)
      rw [compareP, if_neg (by simp [*])]
      exact finI rfl rfl

theorem compares_ok (a b : Tm) : Snd 4 [a.pv, b.pv] [bv true] := by
  refine sound_pure (Γ := G 22 (fun _ => false) (fun _ => false) (fun _ => false)) (G_ok _ _ _ _) Try.func4 rfl (by decide) rfl rfl rfl ?_
  have hL := refLight_ok [a, b] (by simp)
  simp only [tsv, List.map, Tm.enc_eq] at hL
  repeat' ((try conv => whnf); with_reducible first | refine AWP.seq ?_ | refine AWP.region (G_ok _ _ _ _) rfl ?_ | refine AWP.draw (G_ok _ _ _ _) rfl [0, 0, 3, 7, 15, 31, 63, 63, 255, 63, 63, 2047, 4095, 8191, 16383, 32767, 65535, 131071] [2, 1, 1, 1, 1, 5, 1, 1, 1, 1, 1, 1, 1] rfl rfl ?_ | refine AWP.block ?_ | refine AWP.cond rfl ?_ | refine AWP.ret ?_ | refine AWP.skip ?_ | refine AWP.exit ?_ | refine AWP.label ?_ | refine AWP.goto ?_ | refine Br (fun h => ?_) (fun h => ?_))
  refine ⟨_, _, hL, ?_⟩
  repeat' ((try conv => whnf); with_reducible first | refine AWP.seq ?_ | refine AWP.region (G_ok _ _ _ _) rfl ?_ | refine AWP.draw (G_ok _ _ _ _) rfl [0, 0, 3, 7, 15, 31, 63, 63, 255, 63, 63, 2047, 4095, 8191, 16383, 32767, 65535, 131071] [2, 1, 1, 1, 1, 5, 1, 1, 1, 1, 1, 1, 1] rfl rfl ?_ | refine AWP.block ?_ | refine AWP.cond rfl ?_ | refine AWP.ret ?_ | refine AWP.skip ?_ | refine AWP.exit ?_ | refine AWP.label ?_ | refine AWP.goto ?_ | refine Br (fun h => ?_) (fun h => ?_))
  all_goals (try conv => whnf)
  · refine finB rfl ?_
    simp at h ⊢
  simp at h
  have hfa := lightF_fit _ _ _ h a (by simp)
  have hfb := lightF_fit _ _ _ h b (by simp)
  refine ⟨_, _, ocompare_ok a b hfa hfb, ?_⟩
  repeat' ((try conv => whnf); with_reducible first | refine AWP.seq ?_ | refine AWP.region (G_ok _ _ _ _) rfl ?_ | refine AWP.draw (G_ok _ _ _ _) rfl [0, 0, 3, 7, 15, 31, 63, 63, 255, 63, 63, 2047, 4095, 8191, 16383, 32767, 65535, 131071] [2, 1, 1, 1, 1, 5, 1, 1, 1, 1, 1, 1, 1] rfl rfl ?_ | refine AWP.block ?_ | refine AWP.cond rfl ?_ | refine AWP.ret ?_ | refine AWP.skip ?_ | refine AWP.exit ?_ | refine AWP.label ?_ | refine AWP.goto ?_ | refine Br (fun h => ?_) (fun h => ?_))
  all_goals (try conv => whnf)
  refine ⟨_, _, refCompare_ok a b hfa hfb, ?_⟩
  repeat' ((try conv => whnf); with_reducible first | refine AWP.seq ?_ | refine AWP.region (G_ok _ _ _ _) rfl ?_ | refine AWP.draw (G_ok _ _ _ _) rfl [0, 0, 3, 7, 15, 31, 63, 63, 255, 63, 63, 2047, 4095, 8191, 16383, 32767, 65535, 131071] [2, 1, 1, 1, 1, 5, 1, 1, 1, 1, 1, 1, 1] rfl rfl ?_ | refine AWP.block ?_ | refine AWP.cond rfl ?_ | refine AWP.ret ?_ | refine AWP.skip ?_ | refine AWP.exit ?_ | refine AWP.label ?_ | refine AWP.goto ?_ | refine Br (fun h => ?_) (fun h => ?_))
  all_goals (try conv => whnf)
  · refine ⟨_, _, awake9_ok, ?_⟩
    repeat' ((try conv => whnf); with_reducible first | refine AWP.seq ?_ | refine AWP.region (G_ok _ _ _ _) rfl ?_ | refine AWP.draw (G_ok _ _ _ _) rfl [0, 0, 3, 7, 15, 31, 63, 63, 255, 63, 63, 2047, 4095, 8191, 16383, 32767, 65535, 131071] [2, 1, 1, 1, 1, 5, 1, 1, 1, 1, 1, 1, 1] rfl rfl ?_ | refine AWP.block ?_ | refine AWP.cond rfl ?_ | refine AWP.ret ?_ | refine AWP.skip ?_ | refine AWP.exit ?_ | refine AWP.label ?_ | refine AWP.goto ?_ | refine Br (fun h => ?_) (fun h => ?_))
    all_goals (try conv => whnf)
    exact finB rfl rfl
  · simp at h

theorem compares_row (a b : Tm) {p q : Prop} (_ : p) (_ : q) : Snd 4 [a.pv, b.pv] [bv true] := compares_ok a b

end Go.Vai

/- The order of terms: the other way round, and it goes on. No condition. -/
namespace Go.Vai
open Go.Proofs

/-- One of three answers. -/
def R1 (x : Int) : Prop := -1 ≤ x ∧ x ≤ 1
/-- Three answers that fit: of a and b; of b and c; of a and c. -/
def Tri (x y z : Int) : Prop := R1 x ∧ R1 y ∧ R1 z ∧ (x ≤ 0 → y ≤ 0 → z ≤ 0 ∧ (x < 0 ∨ y < 0 → z < 0)) ∧ (0 ≤ x → 0 ≤ y → 0 ≤ z ∧ (0 < x ∨ 0 < y → 0 < z))
def lexI (x y : Int) : Int := if x ≠ 0 then x else y
theorem lexI_r {x y : Int} (hx : R1 x) (hy : R1 y) : R1 (lexI x y) := by unfold lexI; split <;> assumption
theorem lexI_tri {x y z x' y' z' : Int} (h : Tri x y z) (rx : R1 x') (ry : R1 y') (rz : R1 z') (h' : x = 0 → y = 0 → z = 0 → Tri x' y' z') : Tri (lexI x x') (lexI y y') (lexI z z') := by
  by_cases e : x = 0 ∧ y = 0 ∧ z = 0
  · obtain ⟨rfl, rfl, rfl⟩ := e
    exact h' rfl rfl rfl
  · unfold Tri R1 lexI at *
    refine ⟨?_, ?_, ?_, ?_, ?_⟩ <;> (repeat' split) <;> omega
theorem lexI_anti {x y : Int} : lexI (-x) (-y) = - lexI x y := by
  unfold lexI; (repeat' split) <;> omega

theorem cmpI_r (a b : Int) : R1 (cmpI a b) := by unfold cmpI R1; (repeat' split) <;> omega
theorem cmpI_anti (a b : Int) : cmpI b a = - cmpI a b := by unfold cmpI; (repeat' split) <;> omega
theorem cmpI_tri (a b c : Int) : Tri (cmpI a b) (cmpI b c) (cmpI a c) := by
  unfold Tri R1 cmpI
  refine ⟨?_, ?_, ?_, ?_, ?_⟩ <;> (repeat' split) <;> omega
theorem cmpI_zero {a b : Int} : cmpI a b = 0 ↔ a = b := by unfold cmpI; (repeat' split) <;> omega

theorem cmpS_r (a b : ByteArray) : R1 (cmpS a b) := by unfold cmpS R1; (repeat' split) <;> omega
theorem cmpS_self (a : ByteArray) : cmpS a a = 0 := by simp [cmpS, less_irr]
theorem cmpS_cases (a b : ByteArray) : (cmpS a b = -1 ∧ Op.bytesLess a.toList b.toList = true) ∨ (cmpS a b = 0 ∧ a.toList = b.toList) ∨ (cmpS a b = 1 ∧ Op.bytesLess b.toList a.toList = true) := by
  unfold cmpS
  cases h : Op.bytesLess a.toList b.toList with
  | true => exact .inl ⟨by simp, rfl⟩
  | false =>
    by_cases e : a.toList = b.toList
    · exact .inr (.inl ⟨by simp [e], e⟩)
    · refine .inr (.inr ⟨by simp [e], ?_⟩)
      cases h2 : Op.bytesLess b.toList a.toList with
      | true => rfl
      | false => exact absurd (less_tri h h2) e
theorem cmpS_zero {a b : ByteArray} : cmpS a b = 0 ↔ a.toList = b.toList := by
  rcases cmpS_cases a b with ⟨h, h2⟩ | ⟨h, h2⟩ | ⟨h, h2⟩
  · refine ⟨fun e => by omega, fun e => ?_⟩
    rw [e, less_irr] at h2; cases h2
  · exact ⟨fun _ => h2, fun _ => h⟩
  · refine ⟨fun e => by omega, fun e => ?_⟩
    rw [e, less_irr] at h2; cases h2
theorem cmpS_lt {a b : ByteArray} (h : Op.bytesLess a.toList b.toList = true) : cmpS a b = -1 := by simp [cmpS, h]
theorem cmpS_gt {a b : ByteArray} (h : Op.bytesLess b.toList a.toList = true) : cmpS a b = 1 := by
  have h1 := less_asymm h
  have h2 : a.toList ≠ b.toList := fun e => by rw [e, less_irr] at h; cases h
  simp [cmpS, h1, h2]
theorem cmpS_eq {a b : ByteArray} (h : a.toList = b.toList) : cmpS a b = 0 := cmpS_zero.2 h
theorem cmpS_anti (a b : ByteArray) : cmpS b a = - cmpS a b := by
  rcases cmpS_cases a b with ⟨h, h2⟩ | ⟨h, h2⟩ | ⟨h, h2⟩
  · rw [h, cmpS_gt h2]; rfl
  · rw [h, cmpS_eq h2.symm]; rfl
  · rw [h, cmpS_lt h2]
theorem cmpS_tri (a b c : ByteArray) : Tri (cmpS a b) (cmpS b c) (cmpS a c) := by
  have ra := cmpS_r a b
  have rb := cmpS_r b c
  have rc := cmpS_r a c
  rcases cmpS_cases a b with ⟨h, h2⟩ | ⟨h, h2⟩ | ⟨h, h2⟩ <;> rcases cmpS_cases b c with ⟨g, g2⟩ | ⟨g, g2⟩ | ⟨g, g2⟩
  · have e := cmpS_lt (less_trans h2 g2); rw [h, g, e]; unfold Tri R1; omega
  · have e : cmpS a c = -1 := cmpS_lt (by rw [← g2]; exact h2)
    rw [h, g, e]; unfold Tri R1; omega
  · unfold Tri R1 at *; omega
  · have e : cmpS a c = -1 := cmpS_lt (by rw [h2]; exact g2)
    rw [h, g, e]; unfold Tri R1; omega
  · have e : cmpS a c = 0 := cmpS_eq (h2.trans g2)
    rw [h, g, e]; unfold Tri R1; omega
  · have e : cmpS a c = 1 := cmpS_gt (by rw [h2]; exact g2)
    rw [h, g, e]; unfold Tri R1; omega
  · unfold Tri R1 at *; omega
  · have e : cmpS a c = 1 := cmpS_gt (by rw [← g2]; exact h2)
    rw [h, g, e]; unfold Tri R1; omega
  · have e := cmpS_gt (less_trans g2 h2); rw [h, g, e]; unfold Tri R1; omega

theorem orL2 (x y : Int) : orL [x, y] = lexI x y := by
  unfold lexI; simp only [orL]; (repeat' split) <;> omega

/-- What decides between terms whose kinds do not. -/
def bodyC (a b : Tm) : Int :=
  if a.k = 1 ∨ a.k = 3 then cmpI a.i b.i
  else if a.k = 4 then lexI (cmpI a.re b.re) (cmpI a.im b.im)
  else if a.k = 2 then cmpS a.n b.n
  else lexI (lexI (cmpI a.ts.length b.ts.length) (cmpS a.n b.n)) (compareL a.ts b.ts)
theorem compareT_lex (a b : Tm) : compareT a b = lexI (cmpI (rankI a.k) (rankI b.k)) (bodyC a b) := by
  rw [compareT_eq, orL2, orL2]; rfl
theorem compareL_nil (ys : List Tm) : compareL [] ys = if 0 < ys.length then -1 else 0 := by rw [compareL]
theorem compareL_nil2 (x : Tm) (r : List Tm) : compareL (x :: r) [] = 1 := by rw [compareL]
theorem compareL_cons (x y : Tm) (r s : List Tm) : compareL (x :: r) (y :: s) = lexI (compareT x y) (compareL r s) := by rw [compareL]; rfl

theorem compareL_r {xs : List Tm} (h : ∀ x ∈ xs, ∀ y, R1 (compareT x y)) : ∀ ys, R1 (compareL xs ys) := by
  induction xs with
  | nil => intro ys; rw [compareL_nil]; unfold R1; split <;> omega
  | cons x r ih =>
    intro ys
    cases ys with
    | nil => rw [compareL_nil2]; unfold R1; omega
    | cons y s =>
      rw [compareL_cons]
      exact lexI_r (h x (List.mem_cons_self ..) y) (ih (fun u hu => h u (List.mem_cons_of_mem _ hu)) s)
theorem bodyC_r {a : Tm} (h : ∀ x ∈ a.ts, ∀ y, R1 (compareT x y)) (b : Tm) : R1 (bodyC a b) := by
  unfold bodyC
  split
  · exact cmpI_r _ _
  split
  · exact lexI_r (cmpI_r _ _) (cmpI_r _ _)
  split
  · exact cmpS_r _ _
  · exact lexI_r (lexI_r (cmpI_r _ _) (cmpS_r _ _)) (compareL_r h _)
theorem compareT_r (a b : Tm) : R1 (compareT a b) := by
  rw [compareT_lex]
  exact lexI_r (cmpI_r _ _) (bodyC_r (fun x hx y => compareT_r x y) b)
termination_by a
decreasing_by exact Tm.size_lt hx
theorem compareL_r1 (xs ys : List Tm) : R1 (compareL xs ys) := compareL_r (fun x _ y => compareT_r x y) ys
theorem bodyC_r1 (a b : Tm) : R1 (bodyC a b) := bodyC_r (fun x _ y => compareT_r x y) b

theorem rank_eq {k k' : Int} (h : rankI k = rankI k') : k = k' ∨ (k ≠ 1 ∧ k ≠ 2 ∧ k ≠ 3 ∧ k ≠ 4 ∧ k' ≠ 1 ∧ k' ≠ 2 ∧ k' ≠ 3 ∧ k' ≠ 4) := by
  unfold rankI at h
  split at h <;> (repeat' split at h) <;> omega
theorem rank_same {k k' : Int} (h : rankI k = rankI k') : (k = 1 ↔ k' = 1) ∧ (k = 2 ↔ k' = 2) ∧ (k = 3 ↔ k' = 3) ∧ (k = 4 ↔ k' = 4) := by
  rcases rank_eq h with rfl | h
  · simp
  · omega

theorem compareL_tri {xs : List Tm} (h : ∀ x ∈ xs, ∀ y z, Tri (compareT x y) (compareT y z) (compareT x z)) : ∀ ys zs, Tri (compareL xs ys) (compareL ys zs) (compareL xs zs) := by
  induction xs with
  | nil =>
    intro ys zs
    cases ys with
    | nil =>
      cases zs with
      | nil => simp only [compareL_nil]; unfold Tri R1; simp
      | cons z q => simp only [compareL_nil]; unfold Tri R1; simp
    | cons y s =>
      cases zs with
      | nil => simp only [compareL_nil, compareL_nil2]; unfold Tri R1; simp
      | cons z q =>
        have := compareL_r1 (y :: s) (z :: q)
        simp only [compareL_nil]; unfold Tri R1 at *; simp; omega
  | cons x r ih =>
    intro ys zs
    cases ys with
    | nil =>
      cases zs with
      | nil => simp only [compareL_nil, compareL_nil2]; unfold Tri R1; simp
      | cons z q =>
        have := compareL_r1 (x :: r) (z :: q)
        simp only [compareL_nil, compareL_nil2]; unfold Tri R1 at *; simp; omega
    | cons y s =>
      cases zs with
      | nil =>
        have := compareL_r1 (x :: r) (y :: s)
        simp only [compareL_nil2]; unfold Tri R1 at *; omega
      | cons z q =>
        simp only [compareL_cons]
        exact lexI_tri (h x (List.mem_cons_self ..) y z) (compareL_r1 _ _) (compareL_r1 _ _) (compareL_r1 _ _) (fun _ _ _ => ih (fun u hu => h u (List.mem_cons_of_mem _ hu)) s q)
theorem compareT_tri (a b c : Tm) : Tri (compareT a b) (compareT b c) (compareT a c) := by
  rw [compareT_lex a b, compareT_lex b c, compareT_lex a c]
  refine lexI_tri (cmpI_tri _ _ _) (bodyC_r1 _ _) (bodyC_r1 _ _) (bodyC_r1 _ _) (fun h1 h2 h3 => ?_)
  have e := rank_same (cmpI_zero.1 h1)
  unfold bodyC
  by_cases h13 : a.k = 1 ∨ a.k = 3
  · have : b.k = 1 ∨ b.k = 3 := by omega
    simp only [if_pos h13, if_pos this]
    exact cmpI_tri _ _ _
  have n13 : ¬ (b.k = 1 ∨ b.k = 3) := by omega
  simp only [if_neg h13, if_neg n13]
  by_cases h4 : a.k = 4
  · have : b.k = 4 := by omega
    simp only [if_pos h4, if_pos this]
    exact lexI_tri (cmpI_tri _ _ _) (cmpI_r _ _) (cmpI_r _ _) (cmpI_r _ _) (fun _ _ _ => cmpI_tri _ _ _)
  have n4 : ¬ b.k = 4 := by omega
  simp only [if_neg h4, if_neg n4]
  by_cases h2 : a.k = 2
  · have : b.k = 2 := by omega
    simp only [if_pos h2, if_pos this]
    exact cmpS_tri _ _ _
  have n2 : ¬ b.k = 2 := by omega
  simp only [if_neg h2, if_neg n2]
  exact lexI_tri (lexI_tri (cmpI_tri _ _ _) (cmpS_r _ _) (cmpS_r _ _) (cmpS_r _ _) (fun _ _ _ => cmpS_tri _ _ _)) (compareL_r1 _ _) (compareL_r1 _ _) (compareL_r1 _ _) (fun _ _ _ => compareL_tri (fun x hx y z => compareT_tri x y z) _ _)
termination_by a
decreasing_by exact Tm.size_lt hx

theorem compareL_anti {xs : List Tm} (h : ∀ x ∈ xs, ∀ y, compareT y x = - compareT x y) : ∀ ys, compareL ys xs = - compareL xs ys := by
  induction xs with
  | nil =>
    intro ys
    cases ys with
    | nil => simp [compareL_nil]
    | cons y s => rw [compareL_nil, compareL_nil2]; simp
  | cons x r ih =>
    intro ys
    cases ys with
    | nil => rw [compareL_nil, compareL_nil2]; simp
    | cons y s =>
      rw [compareL_cons, compareL_cons, h x (List.mem_cons_self ..) y, ih (fun u hu => h u (List.mem_cons_of_mem _ hu)) s]
      exact lexI_anti
theorem lexI_anti' {x y x' y' : Int} (hx : x' = -x) (hy : x = 0 → y' = -y) : lexI x' y' = - lexI x y := by
  subst hx
  unfold lexI
  by_cases e : x = 0
  · have := hy e; subst e; simp [this]
  · have : -x ≠ 0 := by omega
    rw [if_pos e, if_pos this]
theorem compareT_anti (a b : Tm) : compareT b a = - compareT a b := by
  rw [compareT_lex a b, compareT_lex b a]
  refine lexI_anti' (cmpI_anti _ _) (fun h1 => ?_)
  have e := rank_same (cmpI_zero.1 h1)
  unfold bodyC
  by_cases h13 : a.k = 1 ∨ a.k = 3
  · have : b.k = 1 ∨ b.k = 3 := by omega
    simp only [if_pos h13, if_pos this]
    exact cmpI_anti _ _
  have n13 : ¬ (b.k = 1 ∨ b.k = 3) := by omega
  simp only [if_neg h13, if_neg n13]
  by_cases h4 : a.k = 4
  · have : b.k = 4 := by omega
    simp only [if_pos h4, if_pos this]
    exact lexI_anti' (cmpI_anti _ _) (fun _ => cmpI_anti _ _)
  have n4 : ¬ b.k = 4 := by omega
  simp only [if_neg h4, if_neg n4]
  by_cases h2 : a.k = 2
  · have : b.k = 2 := by omega
    simp only [if_pos h2, if_pos this]
    exact cmpS_anti _ _
  have n2 : ¬ b.k = 2 := by omega
  simp only [if_neg h2, if_neg n2]
  exact lexI_anti' (lexI_anti' (cmpI_anti _ _) (fun _ => cmpS_anti _ _)) (fun _ => compareL_anti (fun x hx y => compareT_anti x y) _)
termination_by a
decreasing_by exact Tm.size_lt hx
theorem compareT_self (a : Tm) : compareT a a = 0 := by have := compareT_anti a a; omega
theorem compareT_trans {a b c : Tm} (h1 : compareT a b ≤ 0) (h2 : compareT b c ≤ 0) : compareT a c ≤ 0 := ((compareT_tri a b c).2.2.2.1 h1 h2).1
theorem compareT_eq_l {a b : Tm} (h : compareT a b = 0) (c : Tm) : compareT a c = compareT b c := by
  have h1 := compareT_tri a b c
  have h2 := compareT_tri b a c
  have h3 := compareT_anti a b
  unfold Tri R1 at *
  omega
theorem compareT_eq_r {b c : Tm} (h : compareT b c = 0) (a : Tm) : compareT a b = compareT a c := by
  have h1 := compareT_eq_l h a
  have h2 := compareT_anti a b
  have h3 := compareT_anti a c
  omega

/-- Each kind is one of the five, as far as it counts. -/
inductive Tm.Kd : Tm → Prop where
  | mk (k : Int) (n : ByteArray) (i re im : Int) (ts : List Tm) (hk : 1 ≤ k ∧ k ≤ 5) (h : k = 5 → ∀ t ∈ ts, Tm.Kd t) : Tm.Kd (.mk k n i re im ts)
theorem Tm.Kd.k5 {t : Tm} (h : t.Kd) : 1 ≤ t.k ∧ t.k ≤ 5 := by cases h; assumption
theorem Tm.Kd.arg {t : Tm} (h : t.Kd) (h5 : t.k = 5) : ∀ u ∈ t.ts, u.Kd := by cases h with | mk _ _ _ _ _ _ _ h => exact h h5

mutual
theorem walkT_kd : ∀ (t : Tm) (d : Int) (s : Int × Int), (walkT t d s).2 = 0 → s.2 = 0 ∧ t.Kd
  | .mk k n i re im ts, d, s, h => by
    rw [walkT_eq] at h
    split at h
    · rename_i h1; exact absurd h h1
    split at h
    · cases h
    split at h
    · cases h
    rename_i h1 _ hb
    have hs : s.2 = 0 := Classical.byContradiction h1
    have hk : 1 ≤ k ∧ k ≤ 5 := by
      unfold badT at hb
      simp only [Tm.k] at hb
      omega
    split at h
    · cases h
    split at h
    · exact ⟨hs, .mk _ _ _ _ _ _ hk (fun _ => (walkL_kd ts _ _ h).2)⟩
    · rename_i h5
      exact ⟨hs, .mk _ _ _ _ _ _ hk (fun e => absurd e h5)⟩
theorem walkL_kd : ∀ (ts : List Tm) (d : Int) (s : Int × Int), (walkL ts d s).2 = 0 → s.2 = 0 ∧ ∀ t ∈ ts, t.Kd
  | [], _, _, h => ⟨h, fun t ht => by cases ht⟩
  | u :: r, d, s, h => by
    rw [walkL] at h
    have h1 := walkL_kd r d _ h
    have h2 := walkT_kd u d s h1.1
    refine ⟨h2.1, fun t ht => ?_⟩
    rcases List.mem_cons.1 ht with e | ht
    · rw [e]; exact h2.2
    · exact h1.2 t ht
end
theorem mayP_kd {t : Tm} (h : mayP t = 0) : t.Kd := by
  rw [← mayP_ref] at h
  exact (walkT_kd t 1 (0, 0) h).2

mutual
def likeT : Tm → Tm → Bool
  | .mk k n i re im ts, b => if k ≠ b.k then false else if k = 1 ∨ k = 3 then i == b.i else if k = 2 then n.toList == b.n.toList else if k = 4 then re == b.re && im == b.im
    else if ¬ n.toList = b.n.toList ∨ ts.length ≠ b.ts.length then false else likeL ts b.ts
def likeL : List Tm → List Tm → Bool
  | [], _ => true
  | x :: r, ys => match ys with
    | [] => false
    | y :: s => if likeT x y = true then likeL r s else false
end
theorem likeT_eq (a b : Tm) : likeT a b = if a.k ≠ b.k then false else if a.k = 1 ∨ a.k = 3 then a.i == b.i else if a.k = 2 then a.n.toList == b.n.toList else if a.k = 4 then a.re == b.re && a.im == b.im
    else if ¬ a.n.toList = b.n.toList ∨ a.ts.length ≠ b.ts.length then false else likeL a.ts b.ts := by cases a; rw [likeT]; rfl
theorem likeL_cons (x y : Tm) (r s : List Tm) : likeL (x :: r) (y :: s) = if likeT x y = true then likeL r s else false := by rw [likeL]

theorem lexI_zero {x y : Int} : lexI x y = 0 ↔ x = 0 ∧ y = 0 := by unfold lexI; split <;> omega
theorem likeL_zero {xs : List Tm} (h : ∀ x ∈ xs, ∀ y, y.Kd → (likeT x y = true ↔ compareT x y = 0)) : ∀ ys : List Tm, (∀ y ∈ ys, y.Kd) → xs.length = ys.length → (likeL xs ys = true ↔ compareL xs ys = 0) := by
  induction xs with
  | nil =>
    intro ys _ hl
    cases ys with
    | nil => simp [likeL, compareL_nil]
    | cons y s => simp at hl
  | cons x r ih =>
    intro ys hy hl
    cases ys with
    | nil => simp at hl
    | cons y s =>
      rw [likeL_cons, compareL_cons, lexI_zero, ← h x (List.mem_cons_self ..) y (hy y (List.mem_cons_self ..)), ← ih (fun u hu => h u (List.mem_cons_of_mem _ hu)) s (fun u hu => hy u (List.mem_cons_of_mem _ hu)) (by simpa using hl)]
      split <;> simp [*]
theorem likeT_zero (a b : Tm) (ha : a.Kd) (hb : b.Kd) : likeT a b = true ↔ compareT a b = 0 := by
  rw [compareT_lex, lexI_zero, cmpI_zero, likeT_eq]
  have ka := ha.k5
  have kb := hb.k5
  by_cases e : a.k = b.k
  · have e2 : rankI a.k = rankI b.k := by rw [e]
    rw [if_neg (by simp [e])]
    unfold bodyC
    by_cases h13 : a.k = 1 ∨ a.k = 3
    · rw [if_pos h13, if_pos h13, cmpI_zero]; simp [e2]
    rw [if_neg h13, if_neg h13]
    by_cases h2 : a.k = 2
    · rw [if_pos h2, if_neg (by omega), if_pos h2, cmpS_zero]; simp [e2]
    rw [if_neg h2]
    by_cases h4 : a.k = 4
    · rw [if_pos h4, if_pos h4, lexI_zero, cmpI_zero, cmpI_zero]; simp [e2]
    rw [if_neg h4, if_neg h4, if_neg h2, lexI_zero, lexI_zero, cmpI_zero, cmpS_zero]
    by_cases hl : a.ts.length = b.ts.length
    · by_cases hn : a.n.toList = b.n.toList
      · rw [if_neg (by simp [hl, hn])]
        have h5 : a.k = 5 := by omega
        have := likeL_zero (fun x hx y hy => likeT_zero x y (ha.arg h5 x hx) hy) b.ts (hb.arg (by omega)) hl
        rw [this]
        simp [e2, hl, hn]
      · rw [if_pos (.inl hn)]; simp [hn]
    · rw [if_pos (.inr hl)]
      have : ¬ ((a.ts.length : Int) = (b.ts.length : Int)) := by omega
      simp [this]
  · rw [if_pos e]
    have : rankI a.k ≠ rankI b.k := fun h => by
      rcases rank_eq h with h | h
      · exact e h
      · omega
    simp [this]
termination_by a
decreasing_by exact Tm.size_lt hx

end Go.Vai

/- Merging, stably: plain. No condition. -/
namespace Go.Vai
open Go.Proofs

/-- An order that goes on, both ways. -/
structure Goes {α : Type} (cmp : α → α → Int) : Prop where
  lt : ∀ a b c, cmp a b < 0 → cmp b c < 0 → cmp a c < 0
  ge : ∀ a b c, ¬ cmp a b < 0 → ¬ cmp b c < 0 → ¬ cmp a c < 0
theorem goes_compare : Goes compareT := by
  refine ⟨fun a b c h1 h2 => ?_, fun a b c h1 h2 => ?_⟩ <;> (have := compareT_tri a b c; unfold Tri at this; omega)

section
variable {α : Type} {cmp : α → α → Int}

def mrg (cmp : α → α → Int) : List α → List α → List α
  | [], Y => Y
  | x :: X, [] => x :: X
  | x :: X, y :: Y => if cmp y x < 0 then y :: mrg cmp (x :: X) Y else x :: mrg cmp X (y :: Y)
termination_by X Y => X.length + Y.length
theorem mrg_nil (Y : List α) : mrg cmp [] Y = Y := by rw [mrg]
theorem mrg_nil2 (X : List α) : mrg cmp X [] = X := by cases X <;> rw [mrg]
theorem mrg_cons (x y : α) (X Y : List α) : mrg cmp (x :: X) (y :: Y) = if cmp y x < 0 then y :: mrg cmp (x :: X) Y else x :: mrg cmp X (y :: Y) := by rw [mrg]
theorem mrg_length : ∀ (X Y : List α), (mrg cmp X Y).length = X.length + Y.length
  | [], Y => by rw [mrg_nil]; simp
  | x :: X, [] => by rw [mrg_nil2]; simp
  | x :: X, y :: Y => by
    rw [mrg_cons]; split
    · rw [List.length_cons, mrg_length (x :: X) Y]; simp; omega
    · rw [List.length_cons, mrg_length X (y :: Y)]; simp; omega
termination_by X Y => X.length + Y.length
theorem mrg_mem (z : α) : ∀ (X Y : List α), z ∈ mrg cmp X Y ↔ z ∈ X ∨ z ∈ Y
  | [], Y => by rw [mrg_nil]; simp
  | x :: X, [] => by rw [mrg_nil2]; simp
  | x :: X, y :: Y => by
    rw [mrg_cons]; split
    · rw [List.mem_cons, mrg_mem z (x :: X) Y]; simp only [List.mem_cons, or_assoc, or_left_comm, or_comm]
    · rw [List.mem_cons, mrg_mem z X (y :: Y)]; simp only [List.mem_cons, or_assoc, or_left_comm, or_comm]
termination_by X Y => X.length + Y.length

theorem mrg_split : ∀ (X1 Y1 X2 Y2 : List α), (∀ x ∈ X1, ∀ y ∈ Y2, ¬ cmp y x < 0) → (∀ y ∈ Y1, ∀ x ∈ X2, cmp y x < 0) → mrg cmp (X1 ++ X2) (Y1 ++ Y2) = mrg cmp X1 Y1 ++ mrg cmp X2 Y2
  | [], [], X2, Y2, _, _ => by rw [mrg_nil]; rfl
  | [], y :: Y1, X2, Y2, h1, h2 => by
    rw [mrg_nil]
    have ih := mrg_split [] Y1 X2 Y2 (fun x hx => by cases hx) (fun u hu => h2 u (List.mem_cons_of_mem _ hu))
    rw [mrg_nil] at ih
    cases X2 with
    | nil => simp [mrg_nil]
    | cons x X2 =>
      have := h2 y (List.mem_cons_self ..) x (List.mem_cons_self ..)
      simp only [List.nil_append, List.cons_append] at ih ⊢
      rw [mrg_cons, if_pos this, ih]
  | x :: X1, [], X2, Y2, h1, h2 => by
    rw [mrg_nil2]
    have ih := mrg_split X1 [] X2 Y2 (fun u hu => h1 u (List.mem_cons_of_mem _ hu)) (fun y hy => by cases hy)
    rw [mrg_nil2] at ih
    cases Y2 with
    | nil => simp [mrg_nil2]
    | cons y Y2 =>
      have := h1 x (List.mem_cons_self ..) y (List.mem_cons_self ..)
      simp only [List.nil_append, List.cons_append] at ih ⊢
      rw [mrg_cons, if_neg this, ih]
  | x :: X1, y :: Y1, X2, Y2, h1, h2 => by
    simp only [List.cons_append]
    rw [mrg_cons, mrg_cons]
    split
    · have ih := mrg_split (x :: X1) Y1 X2 Y2 h1 (fun u hu => h2 u (List.mem_cons_of_mem _ hu))
      rw [List.cons_append] at ih
      rw [ih]; rfl
    · have ih := mrg_split X1 (y :: Y1) X2 Y2 (fun u hu => h1 u (List.mem_cons_of_mem _ hu)) h2
      rw [List.cons_append] at ih
      rw [ih]; rfl
termination_by X1 Y1 => X1.length + Y1.length

/-- The same insertion, from the front. -/
def insF (cmp : α → α → Int) (y : α) : List α → List α
  | [] => [y]
  | z :: r => if cmp y z < 0 then y :: z :: r else z :: insF cmp y r
/-- None comes before one that it stands behind. -/
def Up (cmp : α → α → Int) (l : List α) : Prop := l.Pairwise fun a b => ¬ cmp b a < 0

theorem insF_snoc_lt {y z : α} (h : cmp y z < 0) : ∀ L : List α, insF cmp y (L ++ [z]) = insF cmp y L ++ [z]
  | [] => by simp [insF, h]
  | w :: L => by
    rw [List.cons_append, insF, insF, insF_snoc_lt h L]
    split <;> rfl
theorem insF_all {y : α} : ∀ L : List α, (∀ w ∈ L, ¬ cmp y w < 0) → insF cmp y L = L ++ [y]
  | [], _ => rfl
  | w :: L, h => by
    rw [insF, if_neg (h w (List.mem_cons_self ..)), insF_all L (fun u hu => h u (List.mem_cons_of_mem _ hu))]; rfl
theorem ins_eq (hg : Goes cmp) (y : α) (n : Nat) : ∀ L : List α, L.length = n → Up cmp L → ins cmp y L = insF cmp y L := by
  induction n with
  | zero => intro L hl _; rw [List.length_eq_zero_iff.1 hl]; rfl
  | succ n ih =>
    intro L hl hu
    rcases snocCases L with rfl | ⟨L, z, rfl⟩
    · rfl
    · have hu2 := List.pairwise_append.1 hu
      rw [ins_snoc]
      by_cases h : cmp y z < 0
      · rw [if_pos h, insF_snoc_lt h, ih L (by simpa using hl) hu2.1]
      · rw [if_neg h, insF_all]
        · simp
        · intro w hw
          rcases List.mem_append.1 hw with hw | hw
          · exact hg.ge y z w h (hu2.2.2 w hw z (by simp))
          · rw [List.mem_singleton.1 hw]; exact h
theorem insF_mem (y z : α) : ∀ L : List α, z ∈ insF cmp y L ↔ z = y ∨ z ∈ L
  | [] => by simp [insF]
  | w :: L => by
    rw [insF]; split
    · simp
    · rw [List.mem_cons, insF_mem y z L]; simp only [List.mem_cons]; constructor <;> (intro h; rcases h with h | h | h <;> simp [h])
theorem insF_up (hg : Goes cmp) (hs : ∀ a b, cmp a b < 0 → ¬ cmp b a < 0) (y : α) : ∀ L : List α, Up cmp L → Up cmp (insF cmp y L)
  | [], _ => by simp [insF, Up]
  | w :: L, h => by
    have h2 := List.pairwise_cons.1 h
    rw [insF]; split
    · rename_i hyw
      refine List.pairwise_cons.2 ⟨fun u hu => ?_, h⟩
      rcases List.mem_cons.1 hu with rfl | hu
      · exact hs _ _ hyw
      · exact hg.ge u w y (h2.1 u hu) (hs _ _ hyw)
    · rename_i hyw
      refine List.pairwise_cons.2 ⟨fun u hu => ?_, insF_up hg hs y L h2.2⟩
      rcases (insF_mem y u L).1 hu with rfl | hu
      · exact hyw
      · exact h2.1 u hu
theorem isort_up (hg : Goes cmp) (hs : ∀ a b, cmp a b < 0 → ¬ cmp b a < 0) (n : Nat) : ∀ l : List α, l.length = n → Up cmp (isort cmp l) := by
  induction n with
  | zero => intro l hl; rw [List.length_eq_zero_iff.1 hl]; exact List.Pairwise.nil
  | succ n ih =>
    intro l hl
    rcases snocCases l with rfl | ⟨l, z, rfl⟩
    · exact List.Pairwise.nil
    · have h := ih l (by simpa using hl)
      rw [isort_snoc, ins_eq hg z _ _ rfl h]
      exact insF_up hg hs z _ h
theorem insF_mrg (hg : Goes cmp) (y : α) : ∀ U V : List α, insF cmp y (mrg cmp U V) = mrg cmp U (insF cmp y V)
  | [], V => by rw [mrg_nil, mrg_nil]
  | u :: U, [] => by
    have ih := insF_mrg hg y U []
    rw [mrg_nil2] at ih ⊢
    rw [show insF cmp y ([] : List α) = [y] from rfl] at ih ⊢
    rw [mrg_cons, mrg_nil2, insF, ih]
  | u :: U, v :: V => by
    have ih1 := insF_mrg hg y (u :: U) V
    have ih2 := insF_mrg hg y U (v :: V)
    rw [insF] at ih2
    rw [mrg_cons, insF]
    by_cases hvu : cmp v u < 0
    · rw [if_pos hvu, insF]
      by_cases hyv : cmp y v < 0
      · rw [if_pos hyv, if_pos hyv, mrg_cons, if_pos (hg.lt y v u hyv hvu), mrg_cons, if_pos hvu]
      · rw [if_neg hyv, if_neg hyv, mrg_cons, if_pos hvu, ih1]
    · rw [if_neg hvu, insF]
      by_cases hyv : cmp y v < 0
      · rw [if_pos hyv] at ih2 ⊢
        by_cases hyu : cmp y u < 0
        · rw [if_pos hyu, mrg_cons, if_pos hyu, mrg_cons, if_neg hvu]
        · rw [if_neg hyu, mrg_cons, if_neg hyu, ih2]
      · rw [if_neg hyv] at ih2 ⊢
        rw [if_neg (hg.ge y v u hyv hvu), mrg_cons, if_neg hvu, ih2]
termination_by U V => U.length + V.length
theorem isort_append (hg : Goes cmp) (hs : ∀ a b, cmp a b < 0 → ¬ cmp b a < 0) (X : List α) (n : Nat) : ∀ Y : List α, Y.length = n → isort cmp (X ++ Y) = mrg cmp (isort cmp X) (isort cmp Y) := by
  induction n with
  | zero => intro Y hl; rw [List.length_eq_zero_iff.1 hl, List.append_nil]; exact (mrg_nil2 _).symm
  | succ n ih =>
    intro Y hl
    rcases snocCases Y with rfl | ⟨Y, z, rfl⟩
    · cases hl
    · have h := ih Y (by simpa using hl)
      rw [← List.append_assoc, isort_snoc, isort_snoc, h, ins_eq hg z _ _ rfl (by rw [← h]; exact isort_up hg hs _ _ rfl), ins_eq hg z _ _ rfl (isort_up hg hs _ _ rfl), insF_mrg hg]

theorem Up.app {X Y : List α} (h : Up cmp (X ++ Y)) : Up cmp X ∧ Up cmp Y ∧ ∀ x ∈ X, ∀ y ∈ Y, ¬ cmp y x < 0 := List.pairwise_append.1 h
end

end Go.Vai

/- Places of a list that are swapped; parts of it. No condition. -/
namespace Go.Vai
open Go.Proofs

abbrev enR (L : List Tm) : List (List PV) := L.map Tm.enc
theorem en_len (L : List Tm) : (enR L).length = L.length := by simp
theorem en_get (P : List Tm) (x : Tm) (Q : List Tm) : (enR (P ++ x :: Q))[P.length]? = some x.cells := by simp [Tm.enc_eq]
theorem en_get2 (P : List Tm) (u : Tm) (R : List Tm) (v : Tm) (Q : List Tm) : (enR (P ++ u :: (R ++ v :: Q)))[P.length + 1 + R.length]? = some v.cells := by
  have := en_get (P ++ u :: R) v Q
  have e : (P ++ u :: R).length = P.length + 1 + R.length := by simp; omega
  rw [e] at this
  rw [← this]
  simp
theorem en_set (P : List Tm) (x y : Tm) (Q : List Tm) : (enR (P ++ x :: Q)).set P.length y.cells = enR (P ++ y :: Q) := by
  unfold enR
  rw [List.map_append, List.set_append_right _ _ (by simp)]
  simp [Tm.enc_eq]
theorem en_set2 (P : List Tm) (u : Tm) (R : List Tm) (v y : Tm) (Q : List Tm) : (enR (P ++ u :: (R ++ v :: Q))).set (P.length + 1 + R.length) y.cells = enR (P ++ u :: (R ++ y :: Q)) := by
  have := en_set (P ++ u :: R) v y Q
  have e : (P ++ u :: R).length = P.length + 1 + R.length := by simp; omega
  rw [e] at this
  simp only [List.append_assoc, List.cons_append] at this
  exact this
theorem w_add {a b : Nat} (h : a + b ≤ 4000000) : IntKind.i64.wrap ((a : Int) + b) = ((a + b : Nat) : Int) := (i64_of (by omega) (by omega)).trans (by omega)
theorem w_add1 {a : Nat} (h : a ≤ 4000000) : IntKind.i64.wrap ((a : Int) + 1) = ((a + 1 : Nat) : Int) := (i64_of (by omega) (by omega)).trans (by omega)
theorem w_sub {a b : Nat} (h : b ≤ a) (ha : a ≤ 4000000) : IntKind.i64.wrap ((a : Int) - b) = ((a - b : Nat) : Int) := (i64_of (by omega) (by omega)).trans (by omega)
theorem w_sub1 {a : Nat} (h : 1 ≤ a) (ha : a ≤ 4000000) : IntKind.i64.wrap ((a : Int) - 1) = ((a - 1 : Nat) : Int) := (i64_of (by omega) (by omega)).trans (by omega)

set_option maxHeartbeats 4000000 in
theorem swapR_ok (g : Nat) (A U M V D : List Tm) (hn : U.length = V.length) (hl : A.length + U.length + M.length + V.length + D.length ≤ 1000000) (a b n : Nat) (ea : a = A.length) (eb : b = A.length + U.length + M.length) (en : n = U.length) :
    SoundAt Try.prog 137 [.xs 0 none, iv a, iv b, iv n, fnv g] [.row 6 (enR (A ++ U ++ M ++ V ++ D))] (tupOf []) [.row 6 (enR (A ++ V ++ M ++ U ++ D))] := by
  refine sound_fn (Γ := G 38 (fun _ => false) (fun _ => false) (fun _ => false)) (G_ok _ _ _ _) false Try.func137 rfl (by decide) rfl (Nat.le_of_ble_eq_true rfl) (Nat.le_refl _) (Nat.le_of_ble_eq_true rfl) (fun k hk => by cases hk) ?_
  repeat' ((try conv => whnf); with_reducible first | refine AWP.seq ?_ | refine AWP.region (G_ok _ _ _ _) rfl ?_ | refine AWP.draw (G_ok _ _ _ _) rfl [0, 0, 0, 6, 0, 0, 0, 96, 0, 0, 0, 1536, 3840, 7936, 0, 0, 0, 98304, 245760, 507904, 1048335, 2096911, 4194303, 8388607] [22, 1, 1] rfl rfl ?_ | refine AWP.block ?_ | refine AWP.cond rfl ?_ | refine AWP.ret ?_ | refine AWP.skip ?_ | refine AWP.exit ?_ | refine AWP.label ?_ | refine AWP.goto ?_ | refine Br (fun h => ?_) (fun h => ?_))
  all_goals (try conv => whnf)
  refine AWP.loop (fun m st => ∃ U1 U2 V1 V2 : List Tm, m = U2.length ∧ U = U1 ++ U2 ∧ V = V1 ++ V2 ∧ V1.length = U1.length ∧ Has st [(0, .xs 0 none), (1, iv a), (2, iv b), (3, iv n), (10, iv U1.length)] [(0, .row 6 (enR (A ++ V1 ++ U2 ++ M ++ U1 ++ V2 ++ D)))]) U.length ⟨[], U, [], V, rfl, rfl, rfl, rfl, ⟨rfl, rfl, rfl, rfl, rfl, trivial⟩, ⟨by simp; rfl, trivial⟩⟩ ?_
  rintro m st ⟨U1, U2, V1, V2, rfl, rfl, rfl, hv1, hst⟩
  simp only [List.length_append] at hn hl eb en
  have hv2 : V2.length = U2.length := by omega
  cases U2 with
  | nil =>
    have e2 : V2 = [] := List.length_eq_zero_iff.1 (by simpa using hv2)
    subst e2
    obtain ⟨f, H, rfl⟩ := hst.canon
    simp only [List.length_nil] at en
    repeat' ((try conv => whnf); with_reducible first | refine AWP.seq ?_ | refine AWP.region (G_ok _ _ _ _) rfl ?_ | refine AWP.draw (G_ok _ _ _ _) rfl [0, 0, 0, 6, 0, 0, 0, 96, 0, 0, 0, 1536, 3840, 7936, 0, 0, 0, 98304, 245760, 507904, 1048335, 2096911, 4194303, 8388607] [22, 1, 1] rfl rfl ?_ | refine AWP.block ?_ | refine AWP.cond rfl ?_ | refine AWP.ret ?_ | refine AWP.skip ?_ | refine AWP.exit ?_ | refine AWP.label ?_ | refine AWP.goto ?_ | (refine Br (fun h => ?_) (fun h => ?_) <;> try (exfalso; simp only [decide_eq_true_eq, decide_eq_false_iff_not, beq_iff_eq, beq_eq_false_iff_ne, bne_iff_ne, bne_eq_false_iff_eq, ne_eq, List.length_map, List.length_append, List.length_cons, List.length_nil] at *; omega)))
    all_goals (try conv => whnf)
    refine handsRowN rfl ?_ rfl
    simp
  | cons u U2 =>
    cases V2 with
    | nil => simp at hv2
    | cons v V2 =>
    simp only [List.length_cons] at en hv2 hl eb hn
    obtain ⟨P, hP⟩ : ∃ P, P = A ++ V1 := ⟨_, rfl⟩
    obtain ⟨R, hR⟩ : ∃ R, R = U2 ++ M ++ U1 := ⟨_, rfl⟩
    obtain ⟨Q, hQ⟩ : ∃ Q, Q = V2 ++ D := ⟨_, rfl⟩
    have e1 : A ++ V1 ++ u :: U2 ++ M ++ U1 ++ v :: V2 ++ D = P ++ u :: (R ++ v :: Q) := by rw [hP, hR, hQ]; simp
    rw [e1] at hst
    have pl : P.length = A.length + U1.length := by rw [hP]; simp; omega
    have rl : R.length = U2.length + M.length + U1.length := by rw [hR]; simp; omega
    have ql : Q.length = V2.length + D.length := by rw [hQ]; simp
    have hw1 : IntKind.i64.wrap ((a : Int) + U1.length) = (P.length : Int) := by rw [w_add (by omega), ea, pl]
    have hw2 : IntKind.i64.wrap ((b : Int) + U1.length) = ((P.length + 1 + R.length : Nat) : Int) := by rw [w_add (by omega)]; congr 1; omega
    have hw3 : IntKind.i64.wrap ((U1.length : Int) + 1) = ((U1.length + 1 : Nat) : Int) := w_add1 (by omega)
    have tl : (enR (P ++ u :: (R ++ v :: Q))).length = P.length + 2 + R.length + Q.length := by simp; omega
    have b1 : 0 ≤ IntKind.i64.wrap ((b : Int) + U1.length) ∧ IntKind.i64.wrap ((b : Int) + U1.length) < ((enR (P ++ u :: (R ++ v :: Q))).length : Int) := by rw [hw2, tl]; omega
    have b0 : 0 ≤ IntKind.i64.wrap ((a : Int) + U1.length) ∧ IntKind.i64.wrap ((a : Int) + U1.length) < ((enR (P ++ u :: (R ++ v :: Q))).length : Int) := by rw [hw1, tl]; omega
    have g1 : (enR (P ++ u :: (R ++ v :: Q)))[(IntKind.i64.wrap ((b : Int) + U1.length)).toNat]? = some v.cells := by rw [hw2, Int.toNat_natCast]; exact en_get2 P u R v Q
    have g0 : (enR (P ++ u :: (R ++ v :: Q)))[(IntKind.i64.wrap ((a : Int) + U1.length)).toNat]? = some u.cells := by rw [hw1, Int.toNat_natCast]; exact en_get P u (R ++ v :: Q)
    have s1 : (IntKind.i64.wrap ((b : Int) + U1.length)).toNat < (enR (P ++ u :: (R ++ v :: Q))).length := by rw [hw2, tl]; omega
    have s0 : (IntKind.i64.wrap ((a : Int) + U1.length)).toNat < (enR (P ++ u :: (R ++ v :: Q))).length := by rw [hw1, tl]; omega
    obtain ⟨f, H, rfl⟩ := hst.canon
    repeat' ((try conv => whnf); with_reducible first | refine AWP.seq ?_ | refine AWP.region (G_ok _ _ _ _) rfl ?_ | refine AWP.draw (G_ok _ _ _ _) rfl [0, 0, 0, 6, 0, 0, 0, 96, 0, 0, 0, 1536, 3840, 7936, 0, 0, 0, 98304, 245760, 507904, 1048335, 2096911, 4194303, 8388607] [22, 1, 1] rfl rfl ?_ | refine AWP.block ?_ | refine AWP.cond rfl ?_ | refine AWP.ret ?_ | refine AWP.skip ?_ | refine AWP.exit ?_ | refine AWP.label ?_ | refine AWP.goto ?_ | (refine Br (fun h => ?_) (fun h => ?_) <;> try (exfalso; simp only [decide_eq_true_eq, decide_eq_false_iff_not, beq_iff_eq, beq_eq_false_iff_ne, bne_iff_ne, bne_eq_false_iff_eq, ne_eq, List.length_map, List.length_append, List.length_cons, List.length_nil] at *; omega)))
    all_goals (try conv => whnf)
    refine ⟨b1, ?_⟩
    repeat' ((try conv => whnf); with_reducible first | refine AWP.seq ?_ | refine AWP.region (G_ok _ _ _ _) rfl ?_ | refine AWP.draw (G_ok _ _ _ _) rfl [0, 0, 0, 6, 0, 0, 0, 96, 0, 0, 0, 1536, 3840, 7936, 0, 0, 0, 98304, 245760, 507904, 1048335, 2096911, 4194303, 8388607] [22, 1, 1] rfl rfl ?_ | refine AWP.block ?_ | refine AWP.cond rfl ?_ | refine AWP.ret ?_ | refine AWP.skip ?_ | refine AWP.exit ?_ | refine AWP.label ?_ | refine AWP.goto ?_ | (refine Br (fun h => ?_) (fun h => ?_) <;> try (exfalso; simp only [decide_eq_true_eq, decide_eq_false_iff_not, beq_iff_eq, beq_eq_false_iff_ne, bne_iff_ne, bne_eq_false_iff_eq, ne_eq, List.length_map, List.length_append, List.length_cons, List.length_nil] at *; omega)))
    all_goals (try conv => whnf)
    refine ⟨v.cells, g1, ?_⟩
    repeat' ((try conv => whnf); with_reducible first | refine AWP.seq ?_ | refine AWP.region (G_ok _ _ _ _) rfl ?_ | refine AWP.draw (G_ok _ _ _ _) rfl [0, 0, 0, 6, 0, 0, 0, 96, 0, 0, 0, 1536, 3840, 7936, 0, 0, 0, 98304, 245760, 507904, 1048335, 2096911, 4194303, 8388607] [22, 1, 1] rfl rfl ?_ | refine AWP.block ?_ | refine AWP.cond rfl ?_ | refine AWP.ret ?_ | refine AWP.skip ?_ | refine AWP.exit ?_ | refine AWP.label ?_ | refine AWP.goto ?_ | (refine Br (fun h => ?_) (fun h => ?_) <;> try (exfalso; simp only [decide_eq_true_eq, decide_eq_false_iff_not, beq_iff_eq, beq_eq_false_iff_ne, bne_iff_ne, bne_eq_false_iff_eq, ne_eq, List.length_map, List.length_append, List.length_cons, List.length_nil] at *; omega)))
    all_goals (try conv => whnf)
    refine ⟨b0, ?_⟩
    repeat' ((try conv => whnf); with_reducible first | refine AWP.seq ?_ | refine AWP.region (G_ok _ _ _ _) rfl ?_ | refine AWP.draw (G_ok _ _ _ _) rfl [0, 0, 0, 6, 0, 0, 0, 96, 0, 0, 0, 1536, 3840, 7936, 0, 0, 0, 98304, 245760, 507904, 1048335, 2096911, 4194303, 8388607] [22, 1, 1] rfl rfl ?_ | refine AWP.block ?_ | refine AWP.cond rfl ?_ | refine AWP.ret ?_ | refine AWP.skip ?_ | refine AWP.exit ?_ | refine AWP.label ?_ | refine AWP.goto ?_ | (refine Br (fun h => ?_) (fun h => ?_) <;> try (exfalso; simp only [decide_eq_true_eq, decide_eq_false_iff_not, beq_iff_eq, beq_eq_false_iff_ne, bne_iff_ne, bne_eq_false_iff_eq, ne_eq, List.length_map, List.length_append, List.length_cons, List.length_nil] at *; omega)))
    all_goals (try conv => whnf)
    refine ⟨u.cells, g0, ?_⟩
    repeat' ((try conv => whnf); with_reducible first | refine AWP.seq ?_ | refine AWP.region (G_ok _ _ _ _) rfl ?_ | refine AWP.draw (G_ok _ _ _ _) rfl [0, 0, 0, 6, 0, 0, 0, 96, 0, 0, 0, 1536, 3840, 7936, 0, 0, 0, 98304, 245760, 507904, 1048335, 2096911, 4194303, 8388607] [22, 1, 1] rfl rfl ?_ | refine AWP.block ?_ | refine AWP.cond rfl ?_ | refine AWP.ret ?_ | refine AWP.skip ?_ | refine AWP.exit ?_ | refine AWP.label ?_ | refine AWP.goto ?_ | (refine Br (fun h => ?_) (fun h => ?_) <;> try (exfalso; simp only [decide_eq_true_eq, decide_eq_false_iff_not, beq_iff_eq, beq_eq_false_iff_ne, bne_iff_ne, bne_eq_false_iff_eq, ne_eq, List.length_map, List.length_append, List.length_cons, List.length_nil] at *; omega)))
    all_goals (try conv => whnf)
    refine ⟨b0, ?_⟩
    repeat' ((try conv => whnf); with_reducible first | refine AWP.seq ?_ | refine AWP.region (G_ok _ _ _ _) rfl ?_ | refine AWP.draw (G_ok _ _ _ _) rfl [0, 0, 0, 6, 0, 0, 0, 96, 0, 0, 0, 1536, 3840, 7936, 0, 0, 0, 98304, 245760, 507904, 1048335, 2096911, 4194303, 8388607] [22, 1, 1] rfl rfl ?_ | refine AWP.block ?_ | refine AWP.cond rfl ?_ | refine AWP.ret ?_ | refine AWP.skip ?_ | refine AWP.exit ?_ | refine AWP.label ?_ | refine AWP.goto ?_ | (refine Br (fun h => ?_) (fun h => ?_) <;> try (exfalso; simp only [decide_eq_true_eq, decide_eq_false_iff_not, beq_iff_eq, beq_eq_false_iff_ne, bne_iff_ne, bne_eq_false_iff_eq, ne_eq, List.length_map, List.length_append, List.length_cons, List.length_nil] at *; omega)))
    all_goals (try conv => whnf)
    refine ⟨s0, ?_⟩
    repeat' ((try conv => whnf); with_reducible first | refine AWP.seq ?_ | refine AWP.region (G_ok _ _ _ _) rfl ?_ | refine AWP.draw (G_ok _ _ _ _) rfl [0, 0, 0, 6, 0, 0, 0, 96, 0, 0, 0, 1536, 3840, 7936, 0, 0, 0, 98304, 245760, 507904, 1048335, 2096911, 4194303, 8388607] [22, 1, 1] rfl rfl ?_ | refine AWP.block ?_ | refine AWP.cond rfl ?_ | refine AWP.ret ?_ | refine AWP.skip ?_ | refine AWP.exit ?_ | refine AWP.label ?_ | refine AWP.goto ?_ | (refine Br (fun h => ?_) (fun h => ?_) <;> try (exfalso; simp only [decide_eq_true_eq, decide_eq_false_iff_not, beq_iff_eq, beq_eq_false_iff_ne, bne_iff_ne, bne_eq_false_iff_eq, ne_eq, List.length_map, List.length_append, List.length_cons, List.length_nil] at *; omega)))
    all_goals (try conv => whnf)
    refine ⟨by rw [List.length_set]; exact b1, ?_⟩
    repeat' ((try conv => whnf); with_reducible first | refine AWP.seq ?_ | refine AWP.region (G_ok _ _ _ _) rfl ?_ | refine AWP.draw (G_ok _ _ _ _) rfl [0, 0, 0, 6, 0, 0, 0, 96, 0, 0, 0, 1536, 3840, 7936, 0, 0, 0, 98304, 245760, 507904, 1048335, 2096911, 4194303, 8388607] [22, 1, 1] rfl rfl ?_ | refine AWP.block ?_ | refine AWP.cond rfl ?_ | refine AWP.ret ?_ | refine AWP.skip ?_ | refine AWP.exit ?_ | refine AWP.label ?_ | refine AWP.goto ?_ | (refine Br (fun h => ?_) (fun h => ?_) <;> try (exfalso; simp only [decide_eq_true_eq, decide_eq_false_iff_not, beq_iff_eq, beq_eq_false_iff_ne, bne_iff_ne, bne_eq_false_iff_eq, ne_eq, List.length_map, List.length_append, List.length_cons, List.length_nil] at *; omega)))
    all_goals (try conv => whnf)
    refine ⟨by rw [List.length_set]; exact s1, ?_⟩
    repeat' ((try conv => whnf); with_reducible first | refine AWP.seq ?_ | refine AWP.region (G_ok _ _ _ _) rfl ?_ | refine AWP.draw (G_ok _ _ _ _) rfl [0, 0, 0, 6, 0, 0, 0, 96, 0, 0, 0, 1536, 3840, 7936, 0, 0, 0, 98304, 245760, 507904, 1048335, 2096911, 4194303, 8388607] [22, 1, 1] rfl rfl ?_ | refine AWP.block ?_ | refine AWP.cond rfl ?_ | refine AWP.ret ?_ | refine AWP.skip ?_ | refine AWP.exit ?_ | refine AWP.label ?_ | refine AWP.goto ?_ | (refine Br (fun h => ?_) (fun h => ?_) <;> try (exfalso; simp only [decide_eq_true_eq, decide_eq_false_iff_not, beq_iff_eq, beq_eq_false_iff_ne, bne_iff_ne, bne_eq_false_iff_eq, ne_eq, List.length_map, List.length_append, List.length_cons, List.length_nil] at *; omega)))
    all_goals (try conv => whnf)
    refine ⟨U2.length, by simp, U1 ++ [u], U2, V1 ++ [v], V2, rfl, by simp, by simp, by simp [hv1], ⟨rfl, rfl, rfl, rfl, ?_, trivial⟩, ⟨?_, trivial⟩⟩
    · show PV.s (.int .i64 (IntKind.i64.wrap ((U1.length : Int) + 1))) = _
      rw [hw3]; simp
    · show some (Row.row 6 (List.set (List.set (enR (P ++ u :: (R ++ v :: Q))) (IntKind.i64.wrap ((a : Int) + U1.length)).toNat v.cells) (IntKind.i64.wrap ((b : Int) + U1.length)).toNat u.cells)) = _
      rw [hw1, hw2, Int.toNat_natCast, Int.toNat_natCast, en_set, en_set2, hP, hR, hQ]
      simp

end Go.Vai

/- A list's parts turned round. No condition. -/
namespace Go.Vai
open Go.Proofs

/-- Where two ways meet again. -/
theorem AWP.cut {Γ : Ctx} {c : Code} {st : St} {K : St → Prop} {Q : Out → Prop} (I : St → Prop) (h : AWP Γ c st (thenQ I Q)) (hk : ∀ st, I st → K st) : AWP Γ c st (thenQ K Q) :=
  h.mono fun o ho => by
    cases o with
    | normal st => exact hk st ho
    | exit i st => exact ho
    | ret st => exact ho
    | goto l st => exact ho

set_option maxHeartbeats 4000000 in
theorem rotate_ok (g : Nat) (A U V D : List Tm) (hu : 0 < U.length) (hv : 0 < V.length) (hl : A.length + U.length + V.length + D.length ≤ 1000000) (a m b : Nat) (ea : a = A.length) (em : m = A.length + U.length) (eb : b = A.length + U.length + V.length) :
    SoundAt Try.prog 120 [.xs 0 none, iv a, iv m, iv b, fnv g] [.row 6 (enR (A ++ U ++ V ++ D))] (tupOf []) [.row 6 (enR (A ++ V ++ U ++ D))] := by
  refine sound_fn (Γ := G 58 (fun k => Nat.beq k 137) (fun _ => false) (fun _ => false)) (G_ok _ _ _ _) false Try.func120 rfl (by decide) rfl (Nat.le_of_ble_eq_true rfl) (Nat.le_refl _) (Nat.le_of_ble_eq_true rfl) (fun k hk => by cases hk) ?_
  have hi0 : IntKind.i64.wrap ((m : Int) - a) = (U.length : Int) := by rw [w_sub (by omega) (by omega)]; congr 1; omega
  have hj0 : IntKind.i64.wrap ((b : Int) - m) = (V.length : Int) := by rw [w_sub (by omega) (by omega)]; congr 1; omega
  repeat' ((try conv => whnf); with_reducible first | refine AWP.seq ?_ | refine AWP.region (G_ok _ _ _ _) rfl ?_ | refine AWP.block ?_ | refine AWP.cond rfl ?_ | refine AWP.ret ?_ | refine AWP.skip ?_ | refine AWP.exit ?_ | refine AWP.label ?_ | refine AWP.goto ?_ | refine Br (fun h => ?_) (fun h => ?_))
  all_goals (try conv => whnf)
  refine AWP.loop (fun n st => ∃ A1 U1 V1 D1 : List Tm, n = U1.length + V1.length ∧ 0 < U1.length ∧ 0 < V1.length ∧ A1.length + U1.length = m ∧ A1.length + U1.length + V1.length + D1.length ≤ 1000000 ∧ A1 ++ V1 ++ U1 ++ D1 = A ++ V ++ U ++ D ∧
    Has st [(0, .xs 0 none), (2, iv m), (4, fnv g), (10, iv U1.length), (11, iv V1.length)] [(0, .row 6 (enR (A1 ++ U1 ++ V1 ++ D1)))]) (U.length + V.length) ?_ ?_
  · refine ⟨A, U, V, D, rfl, hu, hv, by omega, hl, rfl, ⟨rfl, rfl, rfl, ?_, ?_, trivial⟩, ⟨rfl, trivial⟩⟩
    · show PV.s (.int .i64 (IntKind.i64.wrap ((m : Int) - a))) = _
      rw [hi0]
    · show PV.s (.int .i64 (IntKind.i64.wrap ((b : Int) - m))) = _
      rw [hj0]
  rintro n st ⟨A1, U1, V1, D1, rfl, hu1, hv1, hm1, hl1, hgoal, hst⟩
  have hw1 : IntKind.i64.wrap ((m : Int) - U1.length) = (A1.length : Int) := by rw [w_sub (by omega) (by omega)]; congr 1; omega
  obtain ⟨f, H, rfl⟩ := hst.canon
  repeat' ((try conv => whnf); with_reducible first | refine AWP.seq ?_ | refine AWP.region (G_ok _ _ _ _) rfl ?_ | refine AWP.block ?_ | refine AWP.cond rfl ?_ | refine AWP.ret ?_ | refine AWP.skip ?_ | refine AWP.exit ?_ | refine AWP.label ?_ | refine AWP.goto ?_ | (refine Br (fun h => ?_) (fun h => ?_) <;> try (exfalso; simp only [decide_eq_true_eq, decide_eq_false_iff_not, beq_iff_eq, beq_eq_false_iff_ne, bne_iff_ne, bne_eq_false_iff_eq, ne_eq, List.length_map, List.length_append, List.length_cons, List.length_nil] at *; omega)))
  all_goals (try conv => whnf)
  · -- i > j
    rename_i h1
    simp at h
    obtain ⟨X, Y, rfl, hX⟩ : ∃ X Y, U1 = X ++ Y ∧ X.length = V1.length := ⟨U1.take V1.length, U1.drop V1.length, (List.take_append_drop ..).symm, by simp; omega⟩
    simp only [List.length_append] at hu1 hm1 hl1 h hw1
    have hs := swapR_ok g A1 X Y V1 D1 hX (by omega) A1.length m V1.length rfl (by omega) hX.symm
    refine ⟨[0], [.xs 0 none, iv A1.length, iv m, iv V1.length, fnv g], [.row 6 (enR (A1 ++ X ++ Y ++ V1 ++ D1))], .tup [], [.row 6 (enR (A1 ++ V1 ++ Y ++ X ++ D1))], ⟨?_, rfl, rfl, ⟨?_, trivial⟩, rfl, rfl, rfl, rfl, rfl⟩, hs, ?_⟩
    · show [_, PV.s (.int .i64 (IntKind.i64.wrap ((m : Int) - ((X ++ Y).length : Nat)))), _, _, _] = _
      rw [List.length_append, hw1]; rfl
    · show some (Row.row 6 (enR (A1 ++ (X ++ Y) ++ V1 ++ D1))) = some (Row.row 6 (enR (A1 ++ X ++ Y ++ V1 ++ D1)))
      simp only [List.append_assoc]
    repeat' ((try conv => whnf); with_reducible first | refine AWP.seq ?_ | refine AWP.region (G_ok _ _ _ _) rfl ?_ | refine AWP.block ?_ | refine AWP.cond rfl ?_ | refine AWP.ret ?_ | refine AWP.skip ?_ | refine AWP.exit ?_ | refine AWP.label ?_ | refine AWP.goto ?_ | (refine Br (fun h => ?_) (fun h => ?_) <;> try (exfalso; simp only [decide_eq_true_eq, decide_eq_false_iff_not, beq_iff_eq, beq_eq_false_iff_ne, bne_iff_ne, bne_eq_false_iff_eq, ne_eq, List.length_map, List.length_append, List.length_cons, List.length_nil] at *; omega)))
    all_goals (try conv => whnf)
    refine ⟨Y.length + X.length, by simp; omega, A1 ++ V1, Y, X, D1, rfl, by omega, by omega, by simp; omega, by simp; omega, ?_, ⟨rfl, rfl, rfl, ?_, ?_, trivial⟩, ⟨?_, trivial⟩⟩
    · rw [← hgoal]; simp
    · show PV.s (.int .i64 (IntKind.i64.wrap (((X ++ Y).length : Nat) - (V1.length : Int)))) = _
      rw [w_sub (by simp; omega) (by simp; omega)]
      congr 4; simp; omega
    · show iv (V1.length : Int) = _
      rw [hX]
    · rfl
  · -- i < j
    rename_i h1
    simp at h h1
    obtain ⟨X, Y, rfl, hY⟩ : ∃ X Y, V1 = X ++ Y ∧ Y.length = U1.length := ⟨V1.take (V1.length - U1.length), V1.drop (V1.length - U1.length), (List.take_append_drop ..).symm, by simp; omega⟩
    simp only [List.length_append] at hv1 hl1 h h1
    have hX : 0 < X.length := by omega
    have hs := swapR_ok g A1 U1 X Y D1 hY.symm (by omega) A1.length (A1.length + U1.length + X.length) U1.length rfl rfl rfl
    have hw2 : IntKind.i64.wrap (IntKind.i64.wrap ((m : Int) + ((X ++ Y).length : Nat)) - (U1.length : Int)) = ((A1.length + U1.length + X.length : Nat) : Int) := by
      rw [w_add (by simp; omega), w_sub (by simp; omega) (by simp; omega)]
      congr 1; simp; omega
    refine ⟨[0], [.xs 0 none, iv A1.length, iv (A1.length + U1.length + X.length : Nat), iv U1.length, fnv g], [.row 6 (enR (A1 ++ U1 ++ X ++ Y ++ D1))], .tup [], [.row 6 (enR (A1 ++ Y ++ X ++ U1 ++ D1))], ⟨?_, rfl, rfl, ⟨?_, trivial⟩, rfl, rfl, rfl, rfl, rfl⟩, hs, ?_⟩
    · show [_, PV.s (.int .i64 (IntKind.i64.wrap ((m : Int) - (U1.length : Nat)))), PV.s (.int .i64 (IntKind.i64.wrap (IntKind.i64.wrap ((m : Int) + ((X ++ Y).length : Nat)) - (U1.length : Int)))), _, _] = _
      rw [hw1, hw2]; rfl
    · show some (Row.row 6 (enR (A1 ++ U1 ++ (X ++ Y) ++ D1))) = some (Row.row 6 (enR (A1 ++ U1 ++ X ++ Y ++ D1)))
      simp only [List.append_assoc]
    repeat' ((try conv => whnf); with_reducible first | refine AWP.seq ?_ | refine AWP.region (G_ok _ _ _ _) rfl ?_ | refine AWP.block ?_ | refine AWP.cond rfl ?_ | refine AWP.ret ?_ | refine AWP.skip ?_ | refine AWP.exit ?_ | refine AWP.label ?_ | refine AWP.goto ?_ | (refine Br (fun h => ?_) (fun h => ?_) <;> try (exfalso; simp only [decide_eq_true_eq, decide_eq_false_iff_not, beq_iff_eq, beq_eq_false_iff_ne, bne_iff_ne, bne_eq_false_iff_eq, ne_eq, List.length_map, List.length_append, List.length_cons, List.length_nil] at *; omega)))
    all_goals (try conv => whnf)
    refine ⟨Y.length + X.length, by simp; omega, A1, Y, X, U1 ++ D1, rfl, by omega, by omega, by omega, by simp; omega, ?_, ⟨rfl, rfl, rfl, ?_, ?_, trivial⟩, ⟨?_, trivial⟩⟩
    · rw [← hgoal]; simp
    · show iv (U1.length : Int) = _
      rw [hY]
    · show PV.s (.int .i64 (IntKind.i64.wrap (((X ++ Y).length : Nat) - (U1.length : Int)))) = _
      rw [w_sub (by simp; omega) (by simp; omega)]
      congr 4; simp; omega
    · show some (Row.row 6 (enR (A1 ++ Y ++ X ++ U1 ++ D1))) = some (Row.row 6 (enR (A1 ++ Y ++ X ++ (U1 ++ D1))))
      simp only [List.append_assoc]
  · -- i = j
    simp at h
    have hs := swapR_ok g A1 U1 [] V1 D1 (by omega) (by simp; omega) A1.length m U1.length rfl (by simp; omega) rfl
    simp only [List.append_nil] at hs
    refine ⟨[0], [.xs 0 none, iv A1.length, iv m, iv U1.length, fnv g], [.row 6 (enR (A1 ++ U1 ++ V1 ++ D1))], .tup [], [.row 6 (enR (A1 ++ V1 ++ U1 ++ D1))], ⟨?_, rfl, rfl, ⟨rfl, trivial⟩, rfl, rfl, rfl, rfl, rfl⟩, hs, ?_⟩
    · show [_, PV.s (.int .i64 (IntKind.i64.wrap ((m : Int) - (U1.length : Nat)))), _, _, _] = _
      rw [hw1]; rfl
    repeat' ((try conv => whnf); with_reducible first | refine AWP.seq ?_ | refine AWP.region (G_ok _ _ _ _) rfl ?_ | refine AWP.block ?_ | refine AWP.cond rfl ?_ | refine AWP.ret ?_ | refine AWP.skip ?_ | refine AWP.exit ?_ | refine AWP.label ?_ | refine AWP.goto ?_ | (refine Br (fun h => ?_) (fun h => ?_) <;> try (exfalso; simp only [decide_eq_true_eq, decide_eq_false_iff_not, beq_iff_eq, beq_eq_false_iff_ne, bne_iff_ne, bne_eq_false_iff_eq, ne_eq, List.length_map, List.length_append, List.length_cons, List.length_nil] at *; omega)))
    all_goals (try conv => whnf)
    refine handsRowN rfl ?_ rfl
    rw [hgoal]

end Go.Vai

/- Where two rising lists are cut so that their merging falls in two: plain. No condition. -/
namespace Go.Vai
open Go.Proofs

def pick (L : List Tm) (c : Nat) : Tm := L.getD c tz
theorem pick_eq {L : List Tm} {c : Nat} (h : c < L.length) : pick L c = L[c] := by simp [pick, h]
theorem en_pick {L : List Tm} {c : Nat} (h : c < L.length) : (enR L)[c]? = some (pick L c).cells := by simp [h, Tm.enc_eq, pick]
theorem pick_mem {L : List Tm} {c : Nat} (h : c < L.length) : pick L c ∈ L := by rw [pick_eq h]; exact List.getElem_mem h
theorem pick_app1 {A B : List Tm} {c : Nat} (h : c < A.length) : pick (A ++ B) c = pick A c := by
  rw [pick_eq (by simp; omega), pick_eq h, List.getElem_append_left h]
theorem pick_app2 {A B : List Tm} {c n : Nat} (hn : n = A.length) : pick (A ++ B) (n + c) = pick B c := by
  subst hn
  simp [pick, List.getElem?_append_right]
theorem pick_drop {L : List Tm} {i c : Nat} : pick (L.drop i) c = pick L (i + c) := by simp [pick, List.getElem?_drop]
theorem pick_take {L : List Tm} {i c : Nat} (h : c < i) : pick (L.take i) c = pick L c := by simp [pick, List.getElem?_take, h]
theorem mem_pick {L : List Tm} {x : Tm} (h : x ∈ L) : ∃ k, k < L.length ∧ x = pick L k := by
  obtain ⟨k, hk, rfl⟩ := List.mem_iff_getElem.1 h
  exact ⟨k, hk, (pick_eq hk).symm⟩

section
variable {cmp : Tm → Tm → Int}
theorem up_pick {L : List Tm} (h : Up cmp L) (hr : ∀ a, ¬ cmp a a < 0) {i j : Nat} (hij : i ≤ j) (hj : j < L.length) : ¬ cmp (pick L j) (pick L i) < 0 := by
  rcases Nat.lt_or_ge i j with h1 | h1
  · rw [pick_eq hj, pick_eq (by omega)]
    exact List.pairwise_iff_getElem.1 h i j (by omega) hj h1
  · have : i = j := by omega
    subst this
    exact hr _
theorem up_take {L : List Tm} (h : Up cmp L) (i : Nat) : Up cmp (L.take i) := List.Pairwise.sublist (List.take_sublist i L) h
theorem up_drop {L : List Tm} (h : Up cmp L) (i : Nat) : Up cmp (L.drop i) := List.Pairwise.sublist (List.drop_sublist i L) h

theorem mrg_cut (hg : Goes cmp) (hr : ∀ a, ¬ cmp a a < 0) {X Y : List Tm} (hX : Up cmp X) (hY : Up cmp Y) (i j : Nat) (hi : i ≤ X.length) (hj : j ≤ Y.length)
    (h1 : i = 0 ∨ j = Y.length ∨ ¬ cmp (pick Y j) (pick X (i - 1)) < 0) (h2 : i = X.length ∨ j = 0 ∨ cmp (pick Y (j - 1)) (pick X i) < 0) :
    mrg cmp X Y = mrg cmp (X.take i) (Y.take j) ++ mrg cmp (X.drop i) (Y.drop j) := by
  rw [← mrg_split, List.take_append_drop, List.take_append_drop]
  · intro x hx y hy
    obtain ⟨p, hp, rfl⟩ := mem_pick hx
    obtain ⟨q, hq, rfl⟩ := mem_pick hy
    simp only [List.length_take, List.length_drop] at hp hq
    rw [pick_take (by omega), pick_drop]
    rcases h1 with h1 | h1 | h1
    · omega
    · omega
    · exact hg.ge _ _ _ (up_pick hY hr (show j ≤ j + q by omega) (by omega)) (hg.ge _ _ _ h1 (up_pick hX hr (show p ≤ i - 1 by omega) (by omega)))
  · intro y hy x hx
    obtain ⟨p, hp, rfl⟩ := mem_pick hx
    obtain ⟨q, hq, rfl⟩ := mem_pick hy
    simp only [List.length_take, List.length_drop] at hp hq
    rw [pick_take (by omega), pick_drop]
    rcases h2 with h2 | h2 | h2
    · omega
    · omega
    · refine Classical.byContradiction fun hn => ?_
      exact hg.ge _ _ _ (up_pick hY hr (show q ≤ j - 1 by omega) (by omega)) (hg.ge _ _ _ hn (up_pick hX hr (show i ≤ i + p by omega) (by omega))) h2

theorem mrg_one_l (hg : Goes cmp) (hr : ∀ a, ¬ cmp a a < 0) {x : Tm} {Y : List Tm} (hY : Up cmp Y) (j : Nat) (hj : j ≤ Y.length)
    (h1 : j = 0 ∨ cmp (pick Y (j - 1)) x < 0) (h2 : j = Y.length ∨ ¬ cmp (pick Y j) x < 0) : mrg cmp [x] Y = Y.take j ++ x :: Y.drop j := by
  have hx : Up cmp [x] := List.pairwise_singleton _ _
  rw [mrg_cut hg hr hx hY 0 j (Nat.zero_le _) hj (.inl rfl) (by rcases h1 with h1 | h1; exact .inr (.inl h1); exact .inr (.inr h1))]
  have e := mrg_cut hg hr hx (up_drop hY j) 1 0 (Nat.le_refl 1) (Nat.zero_le _) (by
    rcases h2 with h2 | h2
    · exact .inr (.inl (by simp [h2]))
    · exact .inr (.inr (by rw [pick_drop]; exact h2))) (.inl rfl)
  simp only [List.take_zero, List.drop_zero, mrg_nil]
  rw [e]
  simp [mrg_nil, mrg_nil2]
theorem mrg_one_r (hg : Goes cmp) (hr : ∀ a, ¬ cmp a a < 0) {y : Tm} {X : List Tm} (hX : Up cmp X) (i : Nat) (hi : i ≤ X.length)
    (h1 : i = 0 ∨ ¬ cmp y (pick X (i - 1)) < 0) (h2 : i = X.length ∨ cmp y (pick X i) < 0) : mrg cmp X [y] = X.take i ++ y :: X.drop i := by
  have hy : Up cmp [y] := List.pairwise_singleton _ _
  rw [mrg_cut hg hr hX hy i 0 hi (Nat.zero_le _) (by rcases h1 with h1 | h1; exact .inl h1; exact .inr (.inr h1)) (.inr (.inl rfl))]
  have e := mrg_cut hg hr (up_drop hX i) hy 0 1 (Nat.zero_le _) (Nat.le_refl 1) (.inl rfl) (by
    rcases h2 with h2 | h2
    · exact .inl (by simp [h2])
    · exact .inr (.inr (by rw [pick_drop]; exact h2)))
  simp only [List.take_zero, List.drop_zero, mrg_nil2]
  rw [e]
  simp [mrg_nil, mrg_nil2]
end

end Go.Vai

/- Merging in place. No condition. -/
namespace Go.Vai
open Go.Proofs

/-- The middle, as the code reckons it. -/
def midW (x y : Int) : Int := IntKind.i64.wrap ((IntKind.u64.wrap (IntKind.i64.wrap (x + y))).fdiv (2 ^ min (Int.toNat 1) IntKind.u64.bits))
theorem w_mid {p q : Nat} (h : p + q ≤ 4000000) : midW p q = (((p + q) / 2 : Nat) : Int) := by
  unfold midW
  rw [w_add h, show IntKind.u64.wrap (((p + q : Nat)) : Int) = ((p + q : Nat) : Int) from IntWalk.u64_in _ ⟨by omega, by omega⟩]
  have e : ((2 : Int) ^ min (Int.toNat 1) IntKind.u64.bits) = 2 := rfl
  rw [e, Int.fdiv_eq_ediv_of_nonneg _ (by omega)]
  exact (i64_of (by omega) (by omega)).trans (by omega)

set_option maxHeartbeats 8000000 in
theorem sym_all (cmp : Tm → Tm → Int) (hG : Goes cmp) (hR : ∀ a, ¬ cmp a a < 0) (n : Nat) : ∀ (A X Y D : List Tm) (_ : X.length + Y.length = n) (_ : ∀ x ∈ X ++ Y, ∀ y ∈ X ++ Y, Snd 48 [x.pv, y.pv] [iv (cmp x y)]) (_ : Up cmp X) (_ : Up cmp Y)
    (_ : 0 < X.length) (_ : 0 < Y.length) (_ : A.length + X.length + Y.length + D.length ≤ 1000000) (a m b : Nat) (_ : a = A.length) (_ : m = A.length + X.length) (_ : b = A.length + X.length + Y.length),
    SoundAt Try.prog 102 [.xs 0 none, iv a, iv m, iv b, fnv 48] [.row 6 (enR (A ++ X ++ Y ++ D))] (tupOf []) [.row 6 (enR (A ++ mrg cmp X Y ++ D))] := by
  induction n using Nat.strongRecOn with
  | _ n ih =>
  intro A X Y D hn hg hX hY hx0 hy0 hl a m b ea em eb
  refine sound_fn (Γ := G 220 (fun k => Nat.beq k 102 || Nat.beq k 120) (fun _ => false) (fun _ => false)) (G_ok _ _ _ _) false Try.func102 rfl (by decide) rfl (Nat.le_of_ble_eq_true rfl) (Nat.le_refl _) (Nat.le_of_ble_eq_true rfl) (fun k hk => by cases hk) ?_
  have hLl : (A ++ X ++ Y ++ D).length = A.length + X.length + Y.length + D.length := by simp only [List.length_append]
  have pX : ∀ c, c < X.length → pick (A ++ X ++ Y ++ D) (a + c) = pick X c := fun c hc => by
    rw [List.append_assoc, List.append_assoc, pick_app2 ea, pick_app1 hc]
  have pY : ∀ c, c < Y.length → pick (A ++ X ++ Y ++ D) (m + c) = pick Y c := fun c hc => by
    rw [List.append_assoc, pick_app2 (by simp; omega), pick_app1 hc]
  have mX : ∀ c, c < X.length → pick X c ∈ X ++ Y := fun c hc => List.mem_append_left _ (pick_mem hc)
  have mY : ∀ c, c < Y.length → pick Y c ∈ X ++ Y := fun c hc => List.mem_append_right _ (pick_mem hc)
  have hwa : IntKind.i64.wrap ((m : Int) - a) = (X.length : Int) := by rw [w_sub (by omega) (by omega)]; congr 1; omega
  have hwb : IntKind.i64.wrap ((b : Int) - m) = (Y.length : Int) := by rw [w_sub (by omega) (by omega)]; congr 1; omega
  repeat' ((try conv => whnf); with_reducible first | refine AWP.seq ?_ | refine AWP.region (G_ok _ _ _ _) rfl ?_ | refine AWP.draw (G_ok _ _ _ _) rfl [0, 0, 0, 6, 14, 0, 0, 96, 224, 511, 1023] [9, 1, 1] rfl rfl ?_ | refine AWP.draw (G_ok _ _ _ _) rfl [0, 0, 0, 0, 8, 0, 0, 64, 224, 480, 0, 0, 3072, 7168, 16355, 32739, 65535, 131071] [16, 1, 1] rfl rfl ?_ | refine AWP.draw (G_ok _ _ _ _) rfl [0, 0, 0, 6, 14, 0, 0, 96, 224, 511, 1023, 2047] [9, 1, 1, 1] rfl rfl ?_ | refine AWP.draw (G_ok _ _ _ _) rfl [0, 0, 0, 0, 12, 30, 62, 0, 0, 384, 896, 2047, 4095, 8191] [11, 1, 1, 1] rfl rfl ?_ | refine AWP.block ?_ | refine AWP.ret ?_ | refine AWP.skip ?_ | refine AWP.exit ?_ | refine AWP.label ?_ | refine AWP.goto ?_ | refine Br (fun h => ?_) (fun h => ?_))
  all_goals (try conv => whnf)
  refine AWP.cond rfl ?_
  conv => whnf
  refine Br (fun h1 => ?_) (fun h1 => ?_)
  · rw [hwa] at h1
    simp at h1
    obtain ⟨x, rfl⟩ : ∃ x, X = [x] := List.length_eq_one_iff.1 (by omega)
    simp only [List.length_cons, List.length_nil] at em eb hl hLl
    have px : pick (A ++ [x] ++ Y ++ D) a = x := pX 0 (by simp)
    repeat' ((try conv => whnf); with_reducible first | refine AWP.seq ?_ | refine AWP.region (G_ok _ _ _ _) rfl ?_ | refine AWP.draw (G_ok _ _ _ _) rfl [0, 0, 0, 6, 14, 0, 0, 96, 224, 511, 1023] [9, 1, 1] rfl rfl ?_ | refine AWP.draw (G_ok _ _ _ _) rfl [0, 0, 0, 0, 8, 0, 0, 64, 224, 480, 0, 0, 3072, 7168, 16355, 32739, 65535, 131071] [16, 1, 1] rfl rfl ?_ | refine AWP.draw (G_ok _ _ _ _) rfl [0, 0, 0, 6, 14, 0, 0, 96, 224, 511, 1023, 2047] [9, 1, 1, 1] rfl rfl ?_ | refine AWP.draw (G_ok _ _ _ _) rfl [0, 0, 0, 0, 12, 30, 62, 0, 0, 384, 896, 2047, 4095, 8191] [11, 1, 1, 1] rfl rfl ?_ | refine AWP.block ?_ | refine AWP.cond rfl ?_ | refine AWP.ret ?_ | refine AWP.skip ?_ | refine AWP.exit ?_ | refine AWP.label ?_ | refine AWP.goto ?_ | refine Br (fun h => ?_) (fun h => ?_))
    all_goals (try conv => whnf)
    refine AWP.loop (fun n st => ∃ i j : Nat, n = j - i ∧ i ≤ j ∧ j ≤ Y.length ∧ (i = 0 ∨ cmp (pick Y (i - 1)) x < 0) ∧ (j = Y.length ∨ ¬ cmp (pick Y j) x < 0) ∧
      Has st [(0, .xs 0 none), (1, iv a), (2, iv m), (3, iv b), (4, fnv 48), (10, iv ((m + i : Nat) : Int)), (11, iv ((m + j : Nat) : Int))] [(0, .row 6 (enR (A ++ [x] ++ Y ++ D)))]) Y.length ?_ ?_
    · refine ⟨0, Y.length, rfl, Nat.zero_le _, Nat.le_refl _, .inl rfl, .inl rfl, ⟨rfl, rfl, rfl, rfl, rfl, rfl, ?_, trivial⟩, ⟨rfl, trivial⟩⟩
      show iv (b : Int) = _
      rw [show b = m + Y.length by omega]
    rintro n st ⟨i, j, rfl, hij, hj, hi1, hj1, hst⟩
    obtain ⟨c, hc⟩ : ∃ c, c = (i + j) / 2 := ⟨_, rfl⟩
    have hmid : midW ((m + i : Nat) : Int) ((m + j : Nat) : Int) = ((m + c : Nat) : Int) := by rw [w_mid (by omega)]; congr 1; omega
    obtain ⟨f, H, rfl⟩ := hst.canon
    repeat' ((try conv => whnf); with_reducible first | refine AWP.seq ?_ | refine AWP.region (G_ok _ _ _ _) rfl ?_ | refine AWP.draw (G_ok _ _ _ _) rfl [0, 0, 0, 6, 14, 0, 0, 96, 224, 511, 1023] [9, 1, 1] rfl rfl ?_ | refine AWP.draw (G_ok _ _ _ _) rfl [0, 0, 0, 0, 8, 0, 0, 64, 224, 480, 0, 0, 3072, 7168, 16355, 32739, 65535, 131071] [16, 1, 1] rfl rfl ?_ | refine AWP.draw (G_ok _ _ _ _) rfl [0, 0, 0, 6, 14, 0, 0, 96, 224, 511, 1023, 2047] [9, 1, 1, 1] rfl rfl ?_ | refine AWP.draw (G_ok _ _ _ _) rfl [0, 0, 0, 0, 12, 30, 62, 0, 0, 384, 896, 2047, 4095, 8191] [11, 1, 1, 1] rfl rfl ?_ | refine AWP.block ?_ | refine AWP.cond rfl ?_ | refine AWP.ret ?_ | refine AWP.skip ?_ | refine AWP.exit ?_ | refine AWP.label ?_ | refine AWP.goto ?_ | (refine Br (fun h => ?_) (fun h => ?_) <;> try (exfalso; simp only [decide_eq_true_eq, decide_eq_false_iff_not, beq_iff_eq, beq_eq_false_iff_ne, bne_iff_ne, bne_eq_false_iff_eq, ne_eq, List.length_map, List.length_append, List.length_cons, List.length_nil] at *; omega)))
    all_goals (try conv => whnf)
    · simp at h
      have hcY : c < Y.length := by omega
      have bc : 0 ≤ midW ((m + i : Nat) : Int) ((m + j : Nat) : Int) ∧ midW ((m + i : Nat) : Int) ((m + j : Nat) : Int) < ((enR (A ++ [x] ++ Y ++ D)).length : Int) := by rw [hmid, en_len, hLl]; omega
      have gc : (enR (A ++ [x] ++ Y ++ D))[(midW ((m + i : Nat) : Int) ((m + j : Nat) : Int)).toNat]? = some (pick Y c).cells := by
        rw [hmid, Int.toNat_natCast, en_pick (by rw [hLl]; omega), pY c hcY]
      have ga : (enR (A ++ [x] ++ Y ++ D))[((a : Int)).toNat]? = some x.cells := by
        rw [Int.toNat_natCast, en_pick (by rw [hLl]; omega), px]
      have ba : 0 ≤ (a : Int) ∧ (a : Int) < ((enR (A ++ [x] ++ Y ++ D)).length : Int) := by rw [en_len, hLl]; omega
      refine ⟨bc, ?_⟩
      repeat' ((try conv => whnf); with_reducible first | refine AWP.seq ?_ | refine AWP.region (G_ok _ _ _ _) rfl ?_ | refine AWP.draw (G_ok _ _ _ _) rfl [0, 0, 0, 6, 14, 0, 0, 96, 224, 511, 1023] [9, 1, 1] rfl rfl ?_ | refine AWP.draw (G_ok _ _ _ _) rfl [0, 0, 0, 0, 8, 0, 0, 64, 224, 480, 0, 0, 3072, 7168, 16355, 32739, 65535, 131071] [16, 1, 1] rfl rfl ?_ | refine AWP.draw (G_ok _ _ _ _) rfl [0, 0, 0, 6, 14, 0, 0, 96, 224, 511, 1023, 2047] [9, 1, 1, 1] rfl rfl ?_ | refine AWP.draw (G_ok _ _ _ _) rfl [0, 0, 0, 0, 12, 30, 62, 0, 0, 384, 896, 2047, 4095, 8191] [11, 1, 1, 1] rfl rfl ?_ | refine AWP.block ?_ | refine AWP.cond rfl ?_ | refine AWP.ret ?_ | refine AWP.skip ?_ | refine AWP.exit ?_ | refine AWP.label ?_ | refine AWP.goto ?_ | (refine Br (fun h => ?_) (fun h => ?_) <;> try (exfalso; simp only [decide_eq_true_eq, decide_eq_false_iff_not, beq_iff_eq, beq_eq_false_iff_ne, bne_iff_ne, bne_eq_false_iff_eq, ne_eq, List.length_map, List.length_append, List.length_cons, List.length_nil] at *; omega)))
      all_goals (try conv => whnf)
      refine ⟨_, gc, ?_⟩
      repeat' ((try conv => whnf); with_reducible first | refine AWP.seq ?_ | refine AWP.region (G_ok _ _ _ _) rfl ?_ | refine AWP.draw (G_ok _ _ _ _) rfl [0, 0, 0, 6, 14, 0, 0, 96, 224, 511, 1023] [9, 1, 1] rfl rfl ?_ | refine AWP.draw (G_ok _ _ _ _) rfl [0, 0, 0, 0, 8, 0, 0, 64, 224, 480, 0, 0, 3072, 7168, 16355, 32739, 65535, 131071] [16, 1, 1] rfl rfl ?_ | refine AWP.draw (G_ok _ _ _ _) rfl [0, 0, 0, 6, 14, 0, 0, 96, 224, 511, 1023, 2047] [9, 1, 1, 1] rfl rfl ?_ | refine AWP.draw (G_ok _ _ _ _) rfl [0, 0, 0, 0, 12, 30, 62, 0, 0, 384, 896, 2047, 4095, 8191] [11, 1, 1, 1] rfl rfl ?_ | refine AWP.block ?_ | refine AWP.cond rfl ?_ | refine AWP.ret ?_ | refine AWP.skip ?_ | refine AWP.exit ?_ | refine AWP.label ?_ | refine AWP.goto ?_ | (refine Br (fun h => ?_) (fun h => ?_) <;> try (exfalso; simp only [decide_eq_true_eq, decide_eq_false_iff_not, beq_iff_eq, beq_eq_false_iff_ne, bne_iff_ne, bne_eq_false_iff_eq, ne_eq, List.length_map, List.length_append, List.length_cons, List.length_nil] at *; omega)))
      all_goals (try conv => whnf)
      refine ⟨ba, ?_⟩
      repeat' ((try conv => whnf); with_reducible first | refine AWP.seq ?_ | refine AWP.region (G_ok _ _ _ _) rfl ?_ | refine AWP.draw (G_ok _ _ _ _) rfl [0, 0, 0, 6, 14, 0, 0, 96, 224, 511, 1023] [9, 1, 1] rfl rfl ?_ | refine AWP.draw (G_ok _ _ _ _) rfl [0, 0, 0, 0, 8, 0, 0, 64, 224, 480, 0, 0, 3072, 7168, 16355, 32739, 65535, 131071] [16, 1, 1] rfl rfl ?_ | refine AWP.draw (G_ok _ _ _ _) rfl [0, 0, 0, 6, 14, 0, 0, 96, 224, 511, 1023, 2047] [9, 1, 1, 1] rfl rfl ?_ | refine AWP.draw (G_ok _ _ _ _) rfl [0, 0, 0, 0, 12, 30, 62, 0, 0, 384, 896, 2047, 4095, 8191] [11, 1, 1, 1] rfl rfl ?_ | refine AWP.block ?_ | refine AWP.cond rfl ?_ | refine AWP.ret ?_ | refine AWP.skip ?_ | refine AWP.exit ?_ | refine AWP.label ?_ | refine AWP.goto ?_ | (refine Br (fun h => ?_) (fun h => ?_) <;> try (exfalso; simp only [decide_eq_true_eq, decide_eq_false_iff_not, beq_iff_eq, beq_eq_false_iff_ne, bne_iff_ne, bne_eq_false_iff_eq, ne_eq, List.length_map, List.length_append, List.length_cons, List.length_nil] at *; omega)))
      all_goals (try conv => whnf)
      refine ⟨_, ga, ?_⟩
      repeat' ((try conv => whnf); with_reducible first | refine AWP.seq ?_ | refine AWP.region (G_ok _ _ _ _) rfl ?_ | refine AWP.draw (G_ok _ _ _ _) rfl [0, 0, 0, 6, 14, 0, 0, 96, 224, 511, 1023] [9, 1, 1] rfl rfl ?_ | refine AWP.draw (G_ok _ _ _ _) rfl [0, 0, 0, 0, 8, 0, 0, 64, 224, 480, 0, 0, 3072, 7168, 16355, 32739, 65535, 131071] [16, 1, 1] rfl rfl ?_ | refine AWP.draw (G_ok _ _ _ _) rfl [0, 0, 0, 6, 14, 0, 0, 96, 224, 511, 1023, 2047] [9, 1, 1, 1] rfl rfl ?_ | refine AWP.draw (G_ok _ _ _ _) rfl [0, 0, 0, 0, 12, 30, 62, 0, 0, 384, 896, 2047, 4095, 8191] [11, 1, 1, 1] rfl rfl ?_ | refine AWP.block ?_ | refine AWP.cond rfl ?_ | refine AWP.ret ?_ | refine AWP.skip ?_ | refine AWP.exit ?_ | refine AWP.label ?_ | refine AWP.goto ?_ | (refine Br (fun h => ?_) (fun h => ?_) <;> try (exfalso; simp only [decide_eq_true_eq, decide_eq_false_iff_not, beq_iff_eq, beq_eq_false_iff_ne, bne_iff_ne, bne_eq_false_iff_eq, ne_eq, List.length_map, List.length_append, List.length_cons, List.length_nil] at *; omega)))
      all_goals (try conv => whnf)
      refine ⟨_, _, hg (pick Y c) (mY c hcY) x (by simp), ?_⟩
      repeat' ((try conv => whnf); with_reducible first | refine AWP.seq ?_ | refine AWP.region (G_ok _ _ _ _) rfl ?_ | refine AWP.draw (G_ok _ _ _ _) rfl [0, 0, 0, 6, 14, 0, 0, 96, 224, 511, 1023] [9, 1, 1] rfl rfl ?_ | refine AWP.draw (G_ok _ _ _ _) rfl [0, 0, 0, 0, 8, 0, 0, 64, 224, 480, 0, 0, 3072, 7168, 16355, 32739, 65535, 131071] [16, 1, 1] rfl rfl ?_ | refine AWP.draw (G_ok _ _ _ _) rfl [0, 0, 0, 6, 14, 0, 0, 96, 224, 511, 1023, 2047] [9, 1, 1, 1] rfl rfl ?_ | refine AWP.draw (G_ok _ _ _ _) rfl [0, 0, 0, 0, 12, 30, 62, 0, 0, 384, 896, 2047, 4095, 8191] [11, 1, 1, 1] rfl rfl ?_ | refine AWP.block ?_ | refine AWP.cond rfl ?_ | refine AWP.ret ?_ | refine AWP.skip ?_ | refine AWP.exit ?_ | refine AWP.label ?_ | refine AWP.goto ?_ | (refine Br (fun h => ?_) (fun h => ?_) <;> try (exfalso; simp only [decide_eq_true_eq, decide_eq_false_iff_not, beq_iff_eq, beq_eq_false_iff_ne, bne_iff_ne, bne_eq_false_iff_eq, ne_eq, List.length_map, List.length_append, List.length_cons, List.length_nil] at *; omega)))
      all_goals (try conv => whnf)
      · simp at h
        refine ⟨j - (c + 1), by omega, c + 1, j, rfl, by omega, hj, .inr h, hj1, ⟨rfl, rfl, rfl, rfl, rfl, ?_, rfl, trivial⟩, ⟨rfl, trivial⟩⟩
        show PV.s (.int .i64 (IntKind.i64.wrap (midW ((m + i : Nat) : Int) ((m + j : Nat) : Int) + 1))) = _
        rw [hmid, w_add1 (by omega)]; rfl
      · simp at h
        refine ⟨c - i, by omega, i, c, rfl, by omega, by omega, hi1, .inr (by omega), ⟨rfl, rfl, rfl, rfl, rfl, rfl, ?_, trivial⟩, ⟨rfl, trivial⟩⟩
        show PV.s (.int .i64 (midW ((m + i : Nat) : Int) ((m + j : Nat) : Int))) = _
        rw [hmid]
    · simp at h
      have hij2 : i = j := by omega
      subst hij2
      have hfin : mrg cmp [x] Y = Y.take i ++ x :: Y.drop i := mrg_one_l hG hR hY i hj hi1 hj1
      have hw1 : IntKind.i64.wrap (((m + i : Nat) : Int) - 1) = ((a + i : Nat) : Int) := by rw [w_sub1 (by omega) (by omega)]; congr 1; omega
      refine AWP.loop (fun n st => ∃ t : Nat, n = i - t ∧ t ≤ i ∧ Has st [(0, .xs 0 none), (10, iv ((m + i : Nat) : Int)), (13, iv ((a + t : Nat) : Int))] [(0, .row 6 (enR (A ++ Y.take t ++ x :: (Y.drop t ++ D))))]) i ?_ ?_
      · refine ⟨0, rfl, Nat.zero_le _, ⟨rfl, rfl, rfl, trivial⟩, ⟨?_, trivial⟩⟩
        show some (Row.row 6 (enR (A ++ [x] ++ Y ++ D))) = _
        simp
      rintro n st ⟨t, rfl, ht, hst⟩
      rcases Nat.lt_or_ge t i with hti | hti
      · have hd : Y.drop t = Y[t] :: Y.drop (t + 1) := List.drop_eq_getElem_cons (by omega)
        have htk : Y.take (t + 1) = Y.take t ++ [Y[t]] := List.take_succ_eq_append_getElem (by omega)
        generalize Y[t] = y at hd htk
        obtain ⟨P, hP⟩ : ∃ P, P = A ++ Y.take t := ⟨_, rfl⟩
        obtain ⟨Q, hQ⟩ : ∃ Q, Q = Y.drop (t + 1) ++ D := ⟨_, rfl⟩
        have pl : P.length = a + t := by rw [hP]; simp; omega
        have e1 : A ++ Y.take t ++ x :: (Y.drop t ++ D) = P ++ x :: ([] ++ y :: Q) := by rw [hP, hQ, hd]; simp
        rw [e1] at hst
        have hk1 : IntKind.i64.wrap (((a + t : Nat) : Int) + 1) = ((P.length + 1 + ([] : List Tm).length : Nat) : Int) := by rw [w_add1 (by omega)]; congr 1; simp; omega
        have hk0 : ((a + t : Nat) : Int) = (P.length : Int) := by rw [pl]
        have tl : (enR (P ++ x :: ([] ++ y :: Q))).length = P.length + 2 + Q.length := by simp; omega
        have g1 : (enR (P ++ x :: ([] ++ y :: Q)))[(IntKind.i64.wrap (((a + t : Nat) : Int) + 1)).toNat]? = some y.cells := by rw [hk1, Int.toNat_natCast]; exact en_get2 P x [] y Q
        have g0 : (enR (P ++ x :: ([] ++ y :: Q)))[(((a + t : Nat) : Int)).toNat]? = some x.cells := by rw [hk0, Int.toNat_natCast]; exact en_get P x _
        have b1 : 0 ≤ IntKind.i64.wrap (((a + t : Nat) : Int) + 1) ∧ IntKind.i64.wrap (((a + t : Nat) : Int) + 1) < ((enR (P ++ x :: ([] ++ y :: Q))).length : Int) := by rw [hk1, tl]; simp; omega
        have b0 : 0 ≤ ((a + t : Nat) : Int) ∧ ((a + t : Nat) : Int) < ((enR (P ++ x :: ([] ++ y :: Q))).length : Int) := by rw [tl]; omega
        have s1 : (IntKind.i64.wrap (((a + t : Nat) : Int) + 1)).toNat < (enR (P ++ x :: ([] ++ y :: Q))).length := by rw [hk1, tl]; simp; omega
        have s0 : (((a + t : Nat) : Int)).toNat < (enR (P ++ x :: ([] ++ y :: Q))).length := by rw [tl]; omega
        obtain ⟨f, H, rfl⟩ := hst.canon
        repeat' ((try conv => whnf); with_reducible first | refine AWP.seq ?_ | refine AWP.region (G_ok _ _ _ _) rfl ?_ | refine AWP.draw (G_ok _ _ _ _) rfl [0, 0, 0, 6, 14, 0, 0, 96, 224, 511, 1023] [9, 1, 1] rfl rfl ?_ | refine AWP.draw (G_ok _ _ _ _) rfl [0, 0, 0, 0, 8, 0, 0, 64, 224, 480, 0, 0, 3072, 7168, 16355, 32739, 65535, 131071] [16, 1, 1] rfl rfl ?_ | refine AWP.draw (G_ok _ _ _ _) rfl [0, 0, 0, 6, 14, 0, 0, 96, 224, 511, 1023, 2047] [9, 1, 1, 1] rfl rfl ?_ | refine AWP.draw (G_ok _ _ _ _) rfl [0, 0, 0, 0, 12, 30, 62, 0, 0, 384, 896, 2047, 4095, 8191] [11, 1, 1, 1] rfl rfl ?_ | refine AWP.block ?_ | refine AWP.cond rfl ?_ | refine AWP.ret ?_ | refine AWP.skip ?_ | refine AWP.exit ?_ | refine AWP.label ?_ | refine AWP.goto ?_ | (refine Br (fun h => ?_) (fun h => ?_) <;> try (exfalso; simp only [decide_eq_true_eq, decide_eq_false_iff_not, beq_iff_eq, beq_eq_false_iff_ne, bne_iff_ne, bne_eq_false_iff_eq, ne_eq, List.length_map, List.length_append, List.length_cons, List.length_nil] at *; omega)))
        all_goals (try conv => whnf)
        refine ⟨b1, ?_⟩
        repeat' ((try conv => whnf); with_reducible first | refine AWP.seq ?_ | refine AWP.region (G_ok _ _ _ _) rfl ?_ | refine AWP.draw (G_ok _ _ _ _) rfl [0, 0, 0, 6, 14, 0, 0, 96, 224, 511, 1023] [9, 1, 1] rfl rfl ?_ | refine AWP.draw (G_ok _ _ _ _) rfl [0, 0, 0, 0, 8, 0, 0, 64, 224, 480, 0, 0, 3072, 7168, 16355, 32739, 65535, 131071] [16, 1, 1] rfl rfl ?_ | refine AWP.draw (G_ok _ _ _ _) rfl [0, 0, 0, 6, 14, 0, 0, 96, 224, 511, 1023, 2047] [9, 1, 1, 1] rfl rfl ?_ | refine AWP.draw (G_ok _ _ _ _) rfl [0, 0, 0, 0, 12, 30, 62, 0, 0, 384, 896, 2047, 4095, 8191] [11, 1, 1, 1] rfl rfl ?_ | refine AWP.block ?_ | refine AWP.cond rfl ?_ | refine AWP.ret ?_ | refine AWP.skip ?_ | refine AWP.exit ?_ | refine AWP.label ?_ | refine AWP.goto ?_ | (refine Br (fun h => ?_) (fun h => ?_) <;> try (exfalso; simp only [decide_eq_true_eq, decide_eq_false_iff_not, beq_iff_eq, beq_eq_false_iff_ne, bne_iff_ne, bne_eq_false_iff_eq, ne_eq, List.length_map, List.length_append, List.length_cons, List.length_nil] at *; omega)))
        all_goals (try conv => whnf)
        refine ⟨_, g1, ?_⟩
        repeat' ((try conv => whnf); with_reducible first | refine AWP.seq ?_ | refine AWP.region (G_ok _ _ _ _) rfl ?_ | refine AWP.draw (G_ok _ _ _ _) rfl [0, 0, 0, 6, 14, 0, 0, 96, 224, 511, 1023] [9, 1, 1] rfl rfl ?_ | refine AWP.draw (G_ok _ _ _ _) rfl [0, 0, 0, 0, 8, 0, 0, 64, 224, 480, 0, 0, 3072, 7168, 16355, 32739, 65535, 131071] [16, 1, 1] rfl rfl ?_ | refine AWP.draw (G_ok _ _ _ _) rfl [0, 0, 0, 6, 14, 0, 0, 96, 224, 511, 1023, 2047] [9, 1, 1, 1] rfl rfl ?_ | refine AWP.draw (G_ok _ _ _ _) rfl [0, 0, 0, 0, 12, 30, 62, 0, 0, 384, 896, 2047, 4095, 8191] [11, 1, 1, 1] rfl rfl ?_ | refine AWP.block ?_ | refine AWP.cond rfl ?_ | refine AWP.ret ?_ | refine AWP.skip ?_ | refine AWP.exit ?_ | refine AWP.label ?_ | refine AWP.goto ?_ | (refine Br (fun h => ?_) (fun h => ?_) <;> try (exfalso; simp only [decide_eq_true_eq, decide_eq_false_iff_not, beq_iff_eq, beq_eq_false_iff_ne, bne_iff_ne, bne_eq_false_iff_eq, ne_eq, List.length_map, List.length_append, List.length_cons, List.length_nil] at *; omega)))
        all_goals (try conv => whnf)
        refine ⟨b0, ?_⟩
        repeat' ((try conv => whnf); with_reducible first | refine AWP.seq ?_ | refine AWP.region (G_ok _ _ _ _) rfl ?_ | refine AWP.draw (G_ok _ _ _ _) rfl [0, 0, 0, 6, 14, 0, 0, 96, 224, 511, 1023] [9, 1, 1] rfl rfl ?_ | refine AWP.draw (G_ok _ _ _ _) rfl [0, 0, 0, 0, 8, 0, 0, 64, 224, 480, 0, 0, 3072, 7168, 16355, 32739, 65535, 131071] [16, 1, 1] rfl rfl ?_ | refine AWP.draw (G_ok _ _ _ _) rfl [0, 0, 0, 6, 14, 0, 0, 96, 224, 511, 1023, 2047] [9, 1, 1, 1] rfl rfl ?_ | refine AWP.draw (G_ok _ _ _ _) rfl [0, 0, 0, 0, 12, 30, 62, 0, 0, 384, 896, 2047, 4095, 8191] [11, 1, 1, 1] rfl rfl ?_ | refine AWP.block ?_ | refine AWP.cond rfl ?_ | refine AWP.ret ?_ | refine AWP.skip ?_ | refine AWP.exit ?_ | refine AWP.label ?_ | refine AWP.goto ?_ | (refine Br (fun h => ?_) (fun h => ?_) <;> try (exfalso; simp only [decide_eq_true_eq, decide_eq_false_iff_not, beq_iff_eq, beq_eq_false_iff_ne, bne_iff_ne, bne_eq_false_iff_eq, ne_eq, List.length_map, List.length_append, List.length_cons, List.length_nil] at *; omega)))
        all_goals (try conv => whnf)
        refine ⟨_, g0, ?_⟩
        repeat' ((try conv => whnf); with_reducible first | refine AWP.seq ?_ | refine AWP.region (G_ok _ _ _ _) rfl ?_ | refine AWP.draw (G_ok _ _ _ _) rfl [0, 0, 0, 6, 14, 0, 0, 96, 224, 511, 1023] [9, 1, 1] rfl rfl ?_ | refine AWP.draw (G_ok _ _ _ _) rfl [0, 0, 0, 0, 8, 0, 0, 64, 224, 480, 0, 0, 3072, 7168, 16355, 32739, 65535, 131071] [16, 1, 1] rfl rfl ?_ | refine AWP.draw (G_ok _ _ _ _) rfl [0, 0, 0, 6, 14, 0, 0, 96, 224, 511, 1023, 2047] [9, 1, 1, 1] rfl rfl ?_ | refine AWP.draw (G_ok _ _ _ _) rfl [0, 0, 0, 0, 12, 30, 62, 0, 0, 384, 896, 2047, 4095, 8191] [11, 1, 1, 1] rfl rfl ?_ | refine AWP.block ?_ | refine AWP.cond rfl ?_ | refine AWP.ret ?_ | refine AWP.skip ?_ | refine AWP.exit ?_ | refine AWP.label ?_ | refine AWP.goto ?_ | (refine Br (fun h => ?_) (fun h => ?_) <;> try (exfalso; simp only [decide_eq_true_eq, decide_eq_false_iff_not, beq_iff_eq, beq_eq_false_iff_ne, bne_iff_ne, bne_eq_false_iff_eq, ne_eq, List.length_map, List.length_append, List.length_cons, List.length_nil] at *; omega)))
        all_goals (try conv => whnf)
        refine ⟨b0, ?_⟩
        repeat' ((try conv => whnf); with_reducible first | refine AWP.seq ?_ | refine AWP.region (G_ok _ _ _ _) rfl ?_ | refine AWP.draw (G_ok _ _ _ _) rfl [0, 0, 0, 6, 14, 0, 0, 96, 224, 511, 1023] [9, 1, 1] rfl rfl ?_ | refine AWP.draw (G_ok _ _ _ _) rfl [0, 0, 0, 0, 8, 0, 0, 64, 224, 480, 0, 0, 3072, 7168, 16355, 32739, 65535, 131071] [16, 1, 1] rfl rfl ?_ | refine AWP.draw (G_ok _ _ _ _) rfl [0, 0, 0, 6, 14, 0, 0, 96, 224, 511, 1023, 2047] [9, 1, 1, 1] rfl rfl ?_ | refine AWP.draw (G_ok _ _ _ _) rfl [0, 0, 0, 0, 12, 30, 62, 0, 0, 384, 896, 2047, 4095, 8191] [11, 1, 1, 1] rfl rfl ?_ | refine AWP.block ?_ | refine AWP.cond rfl ?_ | refine AWP.ret ?_ | refine AWP.skip ?_ | refine AWP.exit ?_ | refine AWP.label ?_ | refine AWP.goto ?_ | (refine Br (fun h => ?_) (fun h => ?_) <;> try (exfalso; simp only [decide_eq_true_eq, decide_eq_false_iff_not, beq_iff_eq, beq_eq_false_iff_ne, bne_iff_ne, bne_eq_false_iff_eq, ne_eq, List.length_map, List.length_append, List.length_cons, List.length_nil] at *; omega)))
        all_goals (try conv => whnf)
        refine ⟨s0, ?_⟩
        repeat' ((try conv => whnf); with_reducible first | refine AWP.seq ?_ | refine AWP.region (G_ok _ _ _ _) rfl ?_ | refine AWP.draw (G_ok _ _ _ _) rfl [0, 0, 0, 6, 14, 0, 0, 96, 224, 511, 1023] [9, 1, 1] rfl rfl ?_ | refine AWP.draw (G_ok _ _ _ _) rfl [0, 0, 0, 0, 8, 0, 0, 64, 224, 480, 0, 0, 3072, 7168, 16355, 32739, 65535, 131071] [16, 1, 1] rfl rfl ?_ | refine AWP.draw (G_ok _ _ _ _) rfl [0, 0, 0, 6, 14, 0, 0, 96, 224, 511, 1023, 2047] [9, 1, 1, 1] rfl rfl ?_ | refine AWP.draw (G_ok _ _ _ _) rfl [0, 0, 0, 0, 12, 30, 62, 0, 0, 384, 896, 2047, 4095, 8191] [11, 1, 1, 1] rfl rfl ?_ | refine AWP.block ?_ | refine AWP.cond rfl ?_ | refine AWP.ret ?_ | refine AWP.skip ?_ | refine AWP.exit ?_ | refine AWP.label ?_ | refine AWP.goto ?_ | (refine Br (fun h => ?_) (fun h => ?_) <;> try (exfalso; simp only [decide_eq_true_eq, decide_eq_false_iff_not, beq_iff_eq, beq_eq_false_iff_ne, bne_iff_ne, bne_eq_false_iff_eq, ne_eq, List.length_map, List.length_append, List.length_cons, List.length_nil] at *; omega)))
        all_goals (try conv => whnf)
        refine ⟨by rw [List.length_set]; exact b1, ?_⟩
        repeat' ((try conv => whnf); with_reducible first | refine AWP.seq ?_ | refine AWP.region (G_ok _ _ _ _) rfl ?_ | refine AWP.draw (G_ok _ _ _ _) rfl [0, 0, 0, 6, 14, 0, 0, 96, 224, 511, 1023] [9, 1, 1] rfl rfl ?_ | refine AWP.draw (G_ok _ _ _ _) rfl [0, 0, 0, 0, 8, 0, 0, 64, 224, 480, 0, 0, 3072, 7168, 16355, 32739, 65535, 131071] [16, 1, 1] rfl rfl ?_ | refine AWP.draw (G_ok _ _ _ _) rfl [0, 0, 0, 6, 14, 0, 0, 96, 224, 511, 1023, 2047] [9, 1, 1, 1] rfl rfl ?_ | refine AWP.draw (G_ok _ _ _ _) rfl [0, 0, 0, 0, 12, 30, 62, 0, 0, 384, 896, 2047, 4095, 8191] [11, 1, 1, 1] rfl rfl ?_ | refine AWP.block ?_ | refine AWP.cond rfl ?_ | refine AWP.ret ?_ | refine AWP.skip ?_ | refine AWP.exit ?_ | refine AWP.label ?_ | refine AWP.goto ?_ | (refine Br (fun h => ?_) (fun h => ?_) <;> try (exfalso; simp only [decide_eq_true_eq, decide_eq_false_iff_not, beq_iff_eq, beq_eq_false_iff_ne, bne_iff_ne, bne_eq_false_iff_eq, ne_eq, List.length_map, List.length_append, List.length_cons, List.length_nil] at *; omega)))
        all_goals (try conv => whnf)
        refine ⟨by rw [List.length_set]; exact s1, ?_⟩
        repeat' ((try conv => whnf); with_reducible first | refine AWP.seq ?_ | refine AWP.region (G_ok _ _ _ _) rfl ?_ | refine AWP.draw (G_ok _ _ _ _) rfl [0, 0, 0, 6, 14, 0, 0, 96, 224, 511, 1023] [9, 1, 1] rfl rfl ?_ | refine AWP.draw (G_ok _ _ _ _) rfl [0, 0, 0, 0, 8, 0, 0, 64, 224, 480, 0, 0, 3072, 7168, 16355, 32739, 65535, 131071] [16, 1, 1] rfl rfl ?_ | refine AWP.draw (G_ok _ _ _ _) rfl [0, 0, 0, 6, 14, 0, 0, 96, 224, 511, 1023, 2047] [9, 1, 1, 1] rfl rfl ?_ | refine AWP.draw (G_ok _ _ _ _) rfl [0, 0, 0, 0, 12, 30, 62, 0, 0, 384, 896, 2047, 4095, 8191] [11, 1, 1, 1] rfl rfl ?_ | refine AWP.block ?_ | refine AWP.cond rfl ?_ | refine AWP.ret ?_ | refine AWP.skip ?_ | refine AWP.exit ?_ | refine AWP.label ?_ | refine AWP.goto ?_ | (refine Br (fun h => ?_) (fun h => ?_) <;> try (exfalso; simp only [decide_eq_true_eq, decide_eq_false_iff_not, beq_iff_eq, beq_eq_false_iff_ne, bne_iff_ne, bne_eq_false_iff_eq, ne_eq, List.length_map, List.length_append, List.length_cons, List.length_nil] at *; omega)))
        all_goals (try conv => whnf)
        refine ⟨i - (t + 1), by omega, t + 1, rfl, by omega, ⟨rfl, rfl, ?_, trivial⟩, ⟨?_, trivial⟩⟩
        · show PV.s (.int .i64 (IntKind.i64.wrap (((a + t : Nat) : Int) + 1))) = _
          rw [w_add1 (by omega)]; rfl
        · show some (Row.row 6 (List.set (List.set (enR (P ++ x :: ([] ++ y :: Q))) (((a + t : Nat) : Int)).toNat y.cells) (IntKind.i64.wrap (((a + t : Nat) : Int) + 1)).toNat x.cells)) = _
          rw [hk1, hk0, Int.toNat_natCast, Int.toNat_natCast, en_set, en_set2, hP, hQ, htk]
          simp
      · have hti2 : t = i := by omega
        subst hti2
        obtain ⟨f, H, rfl⟩ := hst.canon
        repeat' ((try conv => whnf); with_reducible first | refine AWP.seq ?_ | refine AWP.region (G_ok _ _ _ _) rfl ?_ | refine AWP.draw (G_ok _ _ _ _) rfl [0, 0, 0, 6, 14, 0, 0, 96, 224, 511, 1023] [9, 1, 1] rfl rfl ?_ | refine AWP.draw (G_ok _ _ _ _) rfl [0, 0, 0, 0, 8, 0, 0, 64, 224, 480, 0, 0, 3072, 7168, 16355, 32739, 65535, 131071] [16, 1, 1] rfl rfl ?_ | refine AWP.draw (G_ok _ _ _ _) rfl [0, 0, 0, 6, 14, 0, 0, 96, 224, 511, 1023, 2047] [9, 1, 1, 1] rfl rfl ?_ | refine AWP.draw (G_ok _ _ _ _) rfl [0, 0, 0, 0, 12, 30, 62, 0, 0, 384, 896, 2047, 4095, 8191] [11, 1, 1, 1] rfl rfl ?_ | refine AWP.block ?_ | refine AWP.cond rfl ?_ | refine AWP.ret ?_ | refine AWP.skip ?_ | refine AWP.exit ?_ | refine AWP.label ?_ | refine AWP.goto ?_ | (refine Br (fun h => ?_) (fun h => ?_) <;> try (exfalso; simp only [decide_eq_true_eq, decide_eq_false_iff_not, beq_iff_eq, beq_eq_false_iff_ne, bne_iff_ne, bne_eq_false_iff_eq, ne_eq, List.length_map, List.length_append, List.length_cons, List.length_nil] at *; omega)))
        all_goals (try conv => whnf)
        refine handsRowN rfl ?_ rfl
        rw [hfin]
        simp
  rw [hwa] at h1
  simp at h1
  repeat' ((try conv => whnf); with_reducible first | refine AWP.seq ?_ | refine AWP.region (G_ok _ _ _ _) rfl ?_ | refine AWP.draw (G_ok _ _ _ _) rfl [0, 0, 0, 6, 14, 0, 0, 96, 224, 511, 1023] [9, 1, 1] rfl rfl ?_ | refine AWP.draw (G_ok _ _ _ _) rfl [0, 0, 0, 0, 8, 0, 0, 64, 224, 480, 0, 0, 3072, 7168, 16355, 32739, 65535, 131071] [16, 1, 1] rfl rfl ?_ | refine AWP.draw (G_ok _ _ _ _) rfl [0, 0, 0, 6, 14, 0, 0, 96, 224, 511, 1023, 2047] [9, 1, 1, 1] rfl rfl ?_ | refine AWP.draw (G_ok _ _ _ _) rfl [0, 0, 0, 0, 12, 30, 62, 0, 0, 384, 896, 2047, 4095, 8191] [11, 1, 1, 1] rfl rfl ?_ | refine AWP.block ?_ | refine AWP.ret ?_ | refine AWP.skip ?_ | refine AWP.exit ?_ | refine AWP.label ?_ | refine AWP.goto ?_ | refine Br (fun h => ?_) (fun h => ?_))
  all_goals (try conv => whnf)
  refine AWP.cond rfl ?_
  conv => whnf
  refine Br (fun h2 => ?_) (fun h2 => ?_)
  · rw [hwb] at h2
    simp at h2
    obtain ⟨y, rfl⟩ : ∃ y, Y = [y] := List.length_eq_one_iff.1 (by omega)
    simp only [List.length_cons, List.length_nil] at em eb hl hLl
    have py : pick (A ++ X ++ [y] ++ D) m = y := pY 0 (by simp)
    repeat' ((try conv => whnf); with_reducible first | refine AWP.seq ?_ | refine AWP.region (G_ok _ _ _ _) rfl ?_ | refine AWP.draw (G_ok _ _ _ _) rfl [0, 0, 0, 6, 14, 0, 0, 96, 224, 511, 1023] [9, 1, 1] rfl rfl ?_ | refine AWP.draw (G_ok _ _ _ _) rfl [0, 0, 0, 0, 8, 0, 0, 64, 224, 480, 0, 0, 3072, 7168, 16355, 32739, 65535, 131071] [16, 1, 1] rfl rfl ?_ | refine AWP.draw (G_ok _ _ _ _) rfl [0, 0, 0, 6, 14, 0, 0, 96, 224, 511, 1023, 2047] [9, 1, 1, 1] rfl rfl ?_ | refine AWP.draw (G_ok _ _ _ _) rfl [0, 0, 0, 0, 12, 30, 62, 0, 0, 384, 896, 2047, 4095, 8191] [11, 1, 1, 1] rfl rfl ?_ | refine AWP.block ?_ | refine AWP.cond rfl ?_ | refine AWP.ret ?_ | refine AWP.skip ?_ | refine AWP.exit ?_ | refine AWP.label ?_ | refine AWP.goto ?_ | refine Br (fun h => ?_) (fun h => ?_))
    all_goals (try conv => whnf)
    refine AWP.loop (fun n st => ∃ i j : Nat, n = j - i ∧ i ≤ j ∧ j ≤ X.length ∧ (i = 0 ∨ ¬ cmp y (pick X (i - 1)) < 0) ∧ (j = X.length ∨ cmp y (pick X j) < 0) ∧
      Has st [(0, .xs 0 none), (1, iv a), (2, iv m), (3, iv b), (4, fnv 48), (14, iv ((a + i : Nat) : Int)), (15, iv ((a + j : Nat) : Int))] [(0, .row 6 (enR (A ++ X ++ [y] ++ D)))]) X.length ?_ ?_
    · refine ⟨0, X.length, rfl, Nat.zero_le _, Nat.le_refl _, .inl rfl, .inl rfl, ⟨rfl, rfl, rfl, rfl, rfl, rfl, ?_, trivial⟩, ⟨rfl, trivial⟩⟩
      show iv (m : Int) = _
      rw [show m = a + X.length by omega]
    rintro n st ⟨i, j, rfl, hij, hj, hi1, hj1, hst⟩
    obtain ⟨c, hc⟩ : ∃ c, c = (i + j) / 2 := ⟨_, rfl⟩
    have hmid : midW ((a + i : Nat) : Int) ((a + j : Nat) : Int) = ((a + c : Nat) : Int) := by rw [w_mid (by omega)]; congr 1; omega
    obtain ⟨f, H, rfl⟩ := hst.canon
    repeat' ((try conv => whnf); with_reducible first | refine AWP.seq ?_ | refine AWP.region (G_ok _ _ _ _) rfl ?_ | refine AWP.draw (G_ok _ _ _ _) rfl [0, 0, 0, 6, 14, 0, 0, 96, 224, 511, 1023] [9, 1, 1] rfl rfl ?_ | refine AWP.draw (G_ok _ _ _ _) rfl [0, 0, 0, 0, 8, 0, 0, 64, 224, 480, 0, 0, 3072, 7168, 16355, 32739, 65535, 131071] [16, 1, 1] rfl rfl ?_ | refine AWP.draw (G_ok _ _ _ _) rfl [0, 0, 0, 6, 14, 0, 0, 96, 224, 511, 1023, 2047] [9, 1, 1, 1] rfl rfl ?_ | refine AWP.draw (G_ok _ _ _ _) rfl [0, 0, 0, 0, 12, 30, 62, 0, 0, 384, 896, 2047, 4095, 8191] [11, 1, 1, 1] rfl rfl ?_ | refine AWP.block ?_ | refine AWP.cond rfl ?_ | refine AWP.ret ?_ | refine AWP.skip ?_ | refine AWP.exit ?_ | refine AWP.label ?_ | refine AWP.goto ?_ | (refine Br (fun h => ?_) (fun h => ?_) <;> try (exfalso; simp only [decide_eq_true_eq, decide_eq_false_iff_not, beq_iff_eq, beq_eq_false_iff_ne, bne_iff_ne, bne_eq_false_iff_eq, ne_eq, List.length_map, List.length_append, List.length_cons, List.length_nil] at *; omega)))
    all_goals (try conv => whnf)
    · simp at h
      have hcX : c < X.length := by omega
      have bc : 0 ≤ midW ((a + i : Nat) : Int) ((a + j : Nat) : Int) ∧ midW ((a + i : Nat) : Int) ((a + j : Nat) : Int) < ((enR (A ++ X ++ [y] ++ D)).length : Int) := by rw [hmid, en_len, hLl]; omega
      have gc : (enR (A ++ X ++ [y] ++ D))[(midW ((a + i : Nat) : Int) ((a + j : Nat) : Int)).toNat]? = some (pick X c).cells := by
        rw [hmid, Int.toNat_natCast, en_pick (by rw [hLl]; omega), pX c hcX]
      have ga : (enR (A ++ X ++ [y] ++ D))[((m : Int)).toNat]? = some y.cells := by
        rw [Int.toNat_natCast, en_pick (by rw [hLl]; omega), py]
      have ba : 0 ≤ (m : Int) ∧ (m : Int) < ((enR (A ++ X ++ [y] ++ D)).length : Int) := by rw [en_len, hLl]; omega
      refine ⟨ba, ?_⟩
      repeat' ((try conv => whnf); with_reducible first | refine AWP.seq ?_ | refine AWP.region (G_ok _ _ _ _) rfl ?_ | refine AWP.draw (G_ok _ _ _ _) rfl [0, 0, 0, 6, 14, 0, 0, 96, 224, 511, 1023] [9, 1, 1] rfl rfl ?_ | refine AWP.draw (G_ok _ _ _ _) rfl [0, 0, 0, 0, 8, 0, 0, 64, 224, 480, 0, 0, 3072, 7168, 16355, 32739, 65535, 131071] [16, 1, 1] rfl rfl ?_ | refine AWP.draw (G_ok _ _ _ _) rfl [0, 0, 0, 6, 14, 0, 0, 96, 224, 511, 1023, 2047] [9, 1, 1, 1] rfl rfl ?_ | refine AWP.draw (G_ok _ _ _ _) rfl [0, 0, 0, 0, 12, 30, 62, 0, 0, 384, 896, 2047, 4095, 8191] [11, 1, 1, 1] rfl rfl ?_ | refine AWP.block ?_ | refine AWP.cond rfl ?_ | refine AWP.ret ?_ | refine AWP.skip ?_ | refine AWP.exit ?_ | refine AWP.label ?_ | refine AWP.goto ?_ | (refine Br (fun h => ?_) (fun h => ?_) <;> try (exfalso; simp only [decide_eq_true_eq, decide_eq_false_iff_not, beq_iff_eq, beq_eq_false_iff_ne, bne_iff_ne, bne_eq_false_iff_eq, ne_eq, List.length_map, List.length_append, List.length_cons, List.length_nil] at *; omega)))
      all_goals (try conv => whnf)
      refine ⟨_, ga, ?_⟩
      repeat' ((try conv => whnf); with_reducible first | refine AWP.seq ?_ | refine AWP.region (G_ok _ _ _ _) rfl ?_ | refine AWP.draw (G_ok _ _ _ _) rfl [0, 0, 0, 6, 14, 0, 0, 96, 224, 511, 1023] [9, 1, 1] rfl rfl ?_ | refine AWP.draw (G_ok _ _ _ _) rfl [0, 0, 0, 0, 8, 0, 0, 64, 224, 480, 0, 0, 3072, 7168, 16355, 32739, 65535, 131071] [16, 1, 1] rfl rfl ?_ | refine AWP.draw (G_ok _ _ _ _) rfl [0, 0, 0, 6, 14, 0, 0, 96, 224, 511, 1023, 2047] [9, 1, 1, 1] rfl rfl ?_ | refine AWP.draw (G_ok _ _ _ _) rfl [0, 0, 0, 0, 12, 30, 62, 0, 0, 384, 896, 2047, 4095, 8191] [11, 1, 1, 1] rfl rfl ?_ | refine AWP.block ?_ | refine AWP.cond rfl ?_ | refine AWP.ret ?_ | refine AWP.skip ?_ | refine AWP.exit ?_ | refine AWP.label ?_ | refine AWP.goto ?_ | (refine Br (fun h => ?_) (fun h => ?_) <;> try (exfalso; simp only [decide_eq_true_eq, decide_eq_false_iff_not, beq_iff_eq, beq_eq_false_iff_ne, bne_iff_ne, bne_eq_false_iff_eq, ne_eq, List.length_map, List.length_append, List.length_cons, List.length_nil] at *; omega)))
      all_goals (try conv => whnf)
      refine ⟨bc, ?_⟩
      repeat' ((try conv => whnf); with_reducible first | refine AWP.seq ?_ | refine AWP.region (G_ok _ _ _ _) rfl ?_ | refine AWP.draw (G_ok _ _ _ _) rfl [0, 0, 0, 6, 14, 0, 0, 96, 224, 511, 1023] [9, 1, 1] rfl rfl ?_ | refine AWP.draw (G_ok _ _ _ _) rfl [0, 0, 0, 0, 8, 0, 0, 64, 224, 480, 0, 0, 3072, 7168, 16355, 32739, 65535, 131071] [16, 1, 1] rfl rfl ?_ | refine AWP.draw (G_ok _ _ _ _) rfl [0, 0, 0, 6, 14, 0, 0, 96, 224, 511, 1023, 2047] [9, 1, 1, 1] rfl rfl ?_ | refine AWP.draw (G_ok _ _ _ _) rfl [0, 0, 0, 0, 12, 30, 62, 0, 0, 384, 896, 2047, 4095, 8191] [11, 1, 1, 1] rfl rfl ?_ | refine AWP.block ?_ | refine AWP.cond rfl ?_ | refine AWP.ret ?_ | refine AWP.skip ?_ | refine AWP.exit ?_ | refine AWP.label ?_ | refine AWP.goto ?_ | (refine Br (fun h => ?_) (fun h => ?_) <;> try (exfalso; simp only [decide_eq_true_eq, decide_eq_false_iff_not, beq_iff_eq, beq_eq_false_iff_ne, bne_iff_ne, bne_eq_false_iff_eq, ne_eq, List.length_map, List.length_append, List.length_cons, List.length_nil] at *; omega)))
      all_goals (try conv => whnf)
      refine ⟨_, gc, ?_⟩
      repeat' ((try conv => whnf); with_reducible first | refine AWP.seq ?_ | refine AWP.region (G_ok _ _ _ _) rfl ?_ | refine AWP.draw (G_ok _ _ _ _) rfl [0, 0, 0, 6, 14, 0, 0, 96, 224, 511, 1023] [9, 1, 1] rfl rfl ?_ | refine AWP.draw (G_ok _ _ _ _) rfl [0, 0, 0, 0, 8, 0, 0, 64, 224, 480, 0, 0, 3072, 7168, 16355, 32739, 65535, 131071] [16, 1, 1] rfl rfl ?_ | refine AWP.draw (G_ok _ _ _ _) rfl [0, 0, 0, 6, 14, 0, 0, 96, 224, 511, 1023, 2047] [9, 1, 1, 1] rfl rfl ?_ | refine AWP.draw (G_ok _ _ _ _) rfl [0, 0, 0, 0, 12, 30, 62, 0, 0, 384, 896, 2047, 4095, 8191] [11, 1, 1, 1] rfl rfl ?_ | refine AWP.block ?_ | refine AWP.cond rfl ?_ | refine AWP.ret ?_ | refine AWP.skip ?_ | refine AWP.exit ?_ | refine AWP.label ?_ | refine AWP.goto ?_ | (refine Br (fun h => ?_) (fun h => ?_) <;> try (exfalso; simp only [decide_eq_true_eq, decide_eq_false_iff_not, beq_iff_eq, beq_eq_false_iff_ne, bne_iff_ne, bne_eq_false_iff_eq, ne_eq, List.length_map, List.length_append, List.length_cons, List.length_nil] at *; omega)))
      all_goals (try conv => whnf)
      refine ⟨_, _, hg y (by simp) (pick X c) (mX c hcX), ?_⟩
      repeat' ((try conv => whnf); with_reducible first | refine AWP.seq ?_ | refine AWP.region (G_ok _ _ _ _) rfl ?_ | refine AWP.draw (G_ok _ _ _ _) rfl [0, 0, 0, 6, 14, 0, 0, 96, 224, 511, 1023] [9, 1, 1] rfl rfl ?_ | refine AWP.draw (G_ok _ _ _ _) rfl [0, 0, 0, 0, 8, 0, 0, 64, 224, 480, 0, 0, 3072, 7168, 16355, 32739, 65535, 131071] [16, 1, 1] rfl rfl ?_ | refine AWP.draw (G_ok _ _ _ _) rfl [0, 0, 0, 6, 14, 0, 0, 96, 224, 511, 1023, 2047] [9, 1, 1, 1] rfl rfl ?_ | refine AWP.draw (G_ok _ _ _ _) rfl [0, 0, 0, 0, 12, 30, 62, 0, 0, 384, 896, 2047, 4095, 8191] [11, 1, 1, 1] rfl rfl ?_ | refine AWP.block ?_ | refine AWP.cond rfl ?_ | refine AWP.ret ?_ | refine AWP.skip ?_ | refine AWP.exit ?_ | refine AWP.label ?_ | refine AWP.goto ?_ | (refine Br (fun h => ?_) (fun h => ?_) <;> try (exfalso; simp only [decide_eq_true_eq, decide_eq_false_iff_not, beq_iff_eq, beq_eq_false_iff_ne, bne_iff_ne, bne_eq_false_iff_eq, ne_eq, List.length_map, List.length_append, List.length_cons, List.length_nil] at *; omega)))
      all_goals (try conv => whnf)
      · simp at h
        refine ⟨j - (c + 1), by omega, c + 1, j, rfl, by omega, hj, .inr (by rw [Nat.add_sub_cancel]; omega), hj1, ⟨rfl, rfl, rfl, rfl, rfl, ?_, rfl, trivial⟩, ⟨rfl, trivial⟩⟩
        show PV.s (.int .i64 (IntKind.i64.wrap (midW ((a + i : Nat) : Int) ((a + j : Nat) : Int) + 1))) = _
        rw [hmid, w_add1 (by omega)]; rfl
      · simp at h
        refine ⟨c - i, by omega, i, c, rfl, by omega, by omega, hi1, .inr h, ⟨rfl, rfl, rfl, rfl, rfl, rfl, ?_, trivial⟩, ⟨rfl, trivial⟩⟩
        show PV.s (.int .i64 (midW ((a + i : Nat) : Int) ((a + j : Nat) : Int))) = _
        rw [hmid]
    · simp at h
      have hij2 : i = j := by omega
      subst hij2
      have hfin : mrg cmp X [y] = X.take i ++ y :: X.drop i := mrg_one_r hG hR hX i hj hi1 hj1
      refine AWP.loop (fun n st => ∃ t : Nat, n = t - i ∧ i ≤ t ∧ t ≤ X.length ∧ Has st [(0, .xs 0 none), (14, iv ((a + i : Nat) : Int)), (17, iv ((a + t : Nat) : Int))] [(0, .row 6 (enR (A ++ X.take t ++ y :: (X.drop t ++ D))))]) (X.length - i) ?_ ?_
      · refine ⟨X.length, rfl, hj, Nat.le_refl _, ⟨rfl, rfl, ?_, trivial⟩, ⟨?_, trivial⟩⟩
        · show iv (m : Int) = _
          rw [show m = a + X.length by omega]
        · show some (Row.row 6 (enR (A ++ X ++ [y] ++ D))) = _
          simp
      rintro n st ⟨t, rfl, ht, htl, hst⟩
      rcases Nat.lt_or_ge i t with hti | hti
      · obtain ⟨t, rfl⟩ : ∃ q, t = q + 1 := ⟨t - 1, by omega⟩
        have hd : X.drop t = X[t] :: X.drop (t + 1) := List.drop_eq_getElem_cons (by omega)
        have htk : X.take (t + 1) = X.take t ++ [X[t]] := List.take_succ_eq_append_getElem (by omega)
        generalize X[t] = z at hd htk
        obtain ⟨P, hP⟩ : ∃ P, P = A ++ X.take t := ⟨_, rfl⟩
        obtain ⟨Q, hQ⟩ : ∃ Q, Q = X.drop (t + 1) ++ D := ⟨_, rfl⟩
        have pl : P.length = a + t := by rw [hP]; simp; omega
        have ql : Q.length ≤ 1000000 := by rw [hQ]; simp; omega
        have e1 : A ++ X.take (t + 1) ++ y :: (X.drop (t + 1) ++ D) = P ++ z :: ([] ++ y :: Q) := by rw [hP, hQ, htk]; simp
        rw [e1] at hst
        have hk0 : IntKind.i64.wrap (((a + (t + 1) : Nat) : Int) - 1) = (P.length : Int) := by rw [w_sub1 (by omega) (by omega), pl]; congr 1
        have hk1 : ((a + (t + 1) : Nat) : Int) = ((P.length + 1 + ([] : List Tm).length : Nat) : Int) := by rw [pl]; rfl
        have tl : (enR (P ++ z :: ([] ++ y :: Q))).length = P.length + 2 + Q.length := by simp; omega
        have g1 : (enR (P ++ z :: ([] ++ y :: Q)))[(((a + (t + 1) : Nat) : Int)).toNat]? = some y.cells := by rw [hk1, Int.toNat_natCast]; exact en_get2 P z [] y Q
        have g0 : (enR (P ++ z :: ([] ++ y :: Q)))[(IntKind.i64.wrap (((a + (t + 1) : Nat) : Int) - 1)).toNat]? = some z.cells := by rw [hk0, Int.toNat_natCast]; exact en_get P z _
        have b1 : 0 ≤ ((a + (t + 1) : Nat) : Int) ∧ ((a + (t + 1) : Nat) : Int) < ((enR (P ++ z :: ([] ++ y :: Q))).length : Int) := by rw [tl]; omega
        have b0 : 0 ≤ IntKind.i64.wrap (((a + (t + 1) : Nat) : Int) - 1) ∧ IntKind.i64.wrap (((a + (t + 1) : Nat) : Int) - 1) < ((enR (P ++ z :: ([] ++ y :: Q))).length : Int) := by rw [hk0, tl]; omega
        have s1 : (((a + (t + 1) : Nat) : Int)).toNat < (enR (P ++ z :: ([] ++ y :: Q))).length := by rw [tl]; omega
        have s0 : (IntKind.i64.wrap (((a + (t + 1) : Nat) : Int) - 1)).toNat < (enR (P ++ z :: ([] ++ y :: Q))).length := by rw [hk0, tl]; omega
        obtain ⟨f, H, rfl⟩ := hst.canon
        repeat' ((try conv => whnf); with_reducible first | refine AWP.seq ?_ | refine AWP.region (G_ok _ _ _ _) rfl ?_ | refine AWP.draw (G_ok _ _ _ _) rfl [0, 0, 0, 6, 14, 0, 0, 96, 224, 511, 1023] [9, 1, 1] rfl rfl ?_ | refine AWP.draw (G_ok _ _ _ _) rfl [0, 0, 0, 0, 8, 0, 0, 64, 224, 480, 0, 0, 3072, 7168, 16355, 32739, 65535, 131071] [16, 1, 1] rfl rfl ?_ | refine AWP.draw (G_ok _ _ _ _) rfl [0, 0, 0, 6, 14, 0, 0, 96, 224, 511, 1023, 2047] [9, 1, 1, 1] rfl rfl ?_ | refine AWP.draw (G_ok _ _ _ _) rfl [0, 0, 0, 0, 12, 30, 62, 0, 0, 384, 896, 2047, 4095, 8191] [11, 1, 1, 1] rfl rfl ?_ | refine AWP.block ?_ | refine AWP.cond rfl ?_ | refine AWP.ret ?_ | refine AWP.skip ?_ | refine AWP.exit ?_ | refine AWP.label ?_ | refine AWP.goto ?_ | (refine Br (fun h => ?_) (fun h => ?_) <;> try (exfalso; simp only [decide_eq_true_eq, decide_eq_false_iff_not, beq_iff_eq, beq_eq_false_iff_ne, bne_iff_ne, bne_eq_false_iff_eq, ne_eq, List.length_map, List.length_append, List.length_cons, List.length_nil] at *; omega)))
        all_goals (try conv => whnf)
        refine ⟨b0, ?_⟩
        repeat' ((try conv => whnf); with_reducible first | refine AWP.seq ?_ | refine AWP.region (G_ok _ _ _ _) rfl ?_ | refine AWP.draw (G_ok _ _ _ _) rfl [0, 0, 0, 6, 14, 0, 0, 96, 224, 511, 1023] [9, 1, 1] rfl rfl ?_ | refine AWP.draw (G_ok _ _ _ _) rfl [0, 0, 0, 0, 8, 0, 0, 64, 224, 480, 0, 0, 3072, 7168, 16355, 32739, 65535, 131071] [16, 1, 1] rfl rfl ?_ | refine AWP.draw (G_ok _ _ _ _) rfl [0, 0, 0, 6, 14, 0, 0, 96, 224, 511, 1023, 2047] [9, 1, 1, 1] rfl rfl ?_ | refine AWP.draw (G_ok _ _ _ _) rfl [0, 0, 0, 0, 12, 30, 62, 0, 0, 384, 896, 2047, 4095, 8191] [11, 1, 1, 1] rfl rfl ?_ | refine AWP.block ?_ | refine AWP.cond rfl ?_ | refine AWP.ret ?_ | refine AWP.skip ?_ | refine AWP.exit ?_ | refine AWP.label ?_ | refine AWP.goto ?_ | (refine Br (fun h => ?_) (fun h => ?_) <;> try (exfalso; simp only [decide_eq_true_eq, decide_eq_false_iff_not, beq_iff_eq, beq_eq_false_iff_ne, bne_iff_ne, bne_eq_false_iff_eq, ne_eq, List.length_map, List.length_append, List.length_cons, List.length_nil] at *; omega)))
        all_goals (try conv => whnf)
        refine ⟨_, g0, ?_⟩
        repeat' ((try conv => whnf); with_reducible first | refine AWP.seq ?_ | refine AWP.region (G_ok _ _ _ _) rfl ?_ | refine AWP.draw (G_ok _ _ _ _) rfl [0, 0, 0, 6, 14, 0, 0, 96, 224, 511, 1023] [9, 1, 1] rfl rfl ?_ | refine AWP.draw (G_ok _ _ _ _) rfl [0, 0, 0, 0, 8, 0, 0, 64, 224, 480, 0, 0, 3072, 7168, 16355, 32739, 65535, 131071] [16, 1, 1] rfl rfl ?_ | refine AWP.draw (G_ok _ _ _ _) rfl [0, 0, 0, 6, 14, 0, 0, 96, 224, 511, 1023, 2047] [9, 1, 1, 1] rfl rfl ?_ | refine AWP.draw (G_ok _ _ _ _) rfl [0, 0, 0, 0, 12, 30, 62, 0, 0, 384, 896, 2047, 4095, 8191] [11, 1, 1, 1] rfl rfl ?_ | refine AWP.block ?_ | refine AWP.cond rfl ?_ | refine AWP.ret ?_ | refine AWP.skip ?_ | refine AWP.exit ?_ | refine AWP.label ?_ | refine AWP.goto ?_ | (refine Br (fun h => ?_) (fun h => ?_) <;> try (exfalso; simp only [decide_eq_true_eq, decide_eq_false_iff_not, beq_iff_eq, beq_eq_false_iff_ne, bne_iff_ne, bne_eq_false_iff_eq, ne_eq, List.length_map, List.length_append, List.length_cons, List.length_nil] at *; omega)))
        all_goals (try conv => whnf)
        refine ⟨b1, ?_⟩
        repeat' ((try conv => whnf); with_reducible first | refine AWP.seq ?_ | refine AWP.region (G_ok _ _ _ _) rfl ?_ | refine AWP.draw (G_ok _ _ _ _) rfl [0, 0, 0, 6, 14, 0, 0, 96, 224, 511, 1023] [9, 1, 1] rfl rfl ?_ | refine AWP.draw (G_ok _ _ _ _) rfl [0, 0, 0, 0, 8, 0, 0, 64, 224, 480, 0, 0, 3072, 7168, 16355, 32739, 65535, 131071] [16, 1, 1] rfl rfl ?_ | refine AWP.draw (G_ok _ _ _ _) rfl [0, 0, 0, 6, 14, 0, 0, 96, 224, 511, 1023, 2047] [9, 1, 1, 1] rfl rfl ?_ | refine AWP.draw (G_ok _ _ _ _) rfl [0, 0, 0, 0, 12, 30, 62, 0, 0, 384, 896, 2047, 4095, 8191] [11, 1, 1, 1] rfl rfl ?_ | refine AWP.block ?_ | refine AWP.cond rfl ?_ | refine AWP.ret ?_ | refine AWP.skip ?_ | refine AWP.exit ?_ | refine AWP.label ?_ | refine AWP.goto ?_ | (refine Br (fun h => ?_) (fun h => ?_) <;> try (exfalso; simp only [decide_eq_true_eq, decide_eq_false_iff_not, beq_iff_eq, beq_eq_false_iff_ne, bne_iff_ne, bne_eq_false_iff_eq, ne_eq, List.length_map, List.length_append, List.length_cons, List.length_nil] at *; omega)))
        all_goals (try conv => whnf)
        refine ⟨_, g1, ?_⟩
        repeat' ((try conv => whnf); with_reducible first | refine AWP.seq ?_ | refine AWP.region (G_ok _ _ _ _) rfl ?_ | refine AWP.draw (G_ok _ _ _ _) rfl [0, 0, 0, 6, 14, 0, 0, 96, 224, 511, 1023] [9, 1, 1] rfl rfl ?_ | refine AWP.draw (G_ok _ _ _ _) rfl [0, 0, 0, 0, 8, 0, 0, 64, 224, 480, 0, 0, 3072, 7168, 16355, 32739, 65535, 131071] [16, 1, 1] rfl rfl ?_ | refine AWP.draw (G_ok _ _ _ _) rfl [0, 0, 0, 6, 14, 0, 0, 96, 224, 511, 1023, 2047] [9, 1, 1, 1] rfl rfl ?_ | refine AWP.draw (G_ok _ _ _ _) rfl [0, 0, 0, 0, 12, 30, 62, 0, 0, 384, 896, 2047, 4095, 8191] [11, 1, 1, 1] rfl rfl ?_ | refine AWP.block ?_ | refine AWP.cond rfl ?_ | refine AWP.ret ?_ | refine AWP.skip ?_ | refine AWP.exit ?_ | refine AWP.label ?_ | refine AWP.goto ?_ | (refine Br (fun h => ?_) (fun h => ?_) <;> try (exfalso; simp only [decide_eq_true_eq, decide_eq_false_iff_not, beq_iff_eq, beq_eq_false_iff_ne, bne_iff_ne, bne_eq_false_iff_eq, ne_eq, List.length_map, List.length_append, List.length_cons, List.length_nil] at *; omega)))
        all_goals (try conv => whnf)
        refine ⟨b1, ?_⟩
        repeat' ((try conv => whnf); with_reducible first | refine AWP.seq ?_ | refine AWP.region (G_ok _ _ _ _) rfl ?_ | refine AWP.draw (G_ok _ _ _ _) rfl [0, 0, 0, 6, 14, 0, 0, 96, 224, 511, 1023] [9, 1, 1] rfl rfl ?_ | refine AWP.draw (G_ok _ _ _ _) rfl [0, 0, 0, 0, 8, 0, 0, 64, 224, 480, 0, 0, 3072, 7168, 16355, 32739, 65535, 131071] [16, 1, 1] rfl rfl ?_ | refine AWP.draw (G_ok _ _ _ _) rfl [0, 0, 0, 6, 14, 0, 0, 96, 224, 511, 1023, 2047] [9, 1, 1, 1] rfl rfl ?_ | refine AWP.draw (G_ok _ _ _ _) rfl [0, 0, 0, 0, 12, 30, 62, 0, 0, 384, 896, 2047, 4095, 8191] [11, 1, 1, 1] rfl rfl ?_ | refine AWP.block ?_ | refine AWP.cond rfl ?_ | refine AWP.ret ?_ | refine AWP.skip ?_ | refine AWP.exit ?_ | refine AWP.label ?_ | refine AWP.goto ?_ | (refine Br (fun h => ?_) (fun h => ?_) <;> try (exfalso; simp only [decide_eq_true_eq, decide_eq_false_iff_not, beq_iff_eq, beq_eq_false_iff_ne, bne_iff_ne, bne_eq_false_iff_eq, ne_eq, List.length_map, List.length_append, List.length_cons, List.length_nil] at *; omega)))
        all_goals (try conv => whnf)
        refine ⟨s1, ?_⟩
        repeat' ((try conv => whnf); with_reducible first | refine AWP.seq ?_ | refine AWP.region (G_ok _ _ _ _) rfl ?_ | refine AWP.draw (G_ok _ _ _ _) rfl [0, 0, 0, 6, 14, 0, 0, 96, 224, 511, 1023] [9, 1, 1] rfl rfl ?_ | refine AWP.draw (G_ok _ _ _ _) rfl [0, 0, 0, 0, 8, 0, 0, 64, 224, 480, 0, 0, 3072, 7168, 16355, 32739, 65535, 131071] [16, 1, 1] rfl rfl ?_ | refine AWP.draw (G_ok _ _ _ _) rfl [0, 0, 0, 6, 14, 0, 0, 96, 224, 511, 1023, 2047] [9, 1, 1, 1] rfl rfl ?_ | refine AWP.draw (G_ok _ _ _ _) rfl [0, 0, 0, 0, 12, 30, 62, 0, 0, 384, 896, 2047, 4095, 8191] [11, 1, 1, 1] rfl rfl ?_ | refine AWP.block ?_ | refine AWP.cond rfl ?_ | refine AWP.ret ?_ | refine AWP.skip ?_ | refine AWP.exit ?_ | refine AWP.label ?_ | refine AWP.goto ?_ | (refine Br (fun h => ?_) (fun h => ?_) <;> try (exfalso; simp only [decide_eq_true_eq, decide_eq_false_iff_not, beq_iff_eq, beq_eq_false_iff_ne, bne_iff_ne, bne_eq_false_iff_eq, ne_eq, List.length_map, List.length_append, List.length_cons, List.length_nil] at *; omega)))
        all_goals (try conv => whnf)
        refine ⟨by rw [List.length_set]; exact b0, ?_⟩
        repeat' ((try conv => whnf); with_reducible first | refine AWP.seq ?_ | refine AWP.region (G_ok _ _ _ _) rfl ?_ | refine AWP.draw (G_ok _ _ _ _) rfl [0, 0, 0, 6, 14, 0, 0, 96, 224, 511, 1023] [9, 1, 1] rfl rfl ?_ | refine AWP.draw (G_ok _ _ _ _) rfl [0, 0, 0, 0, 8, 0, 0, 64, 224, 480, 0, 0, 3072, 7168, 16355, 32739, 65535, 131071] [16, 1, 1] rfl rfl ?_ | refine AWP.draw (G_ok _ _ _ _) rfl [0, 0, 0, 6, 14, 0, 0, 96, 224, 511, 1023, 2047] [9, 1, 1, 1] rfl rfl ?_ | refine AWP.draw (G_ok _ _ _ _) rfl [0, 0, 0, 0, 12, 30, 62, 0, 0, 384, 896, 2047, 4095, 8191] [11, 1, 1, 1] rfl rfl ?_ | refine AWP.block ?_ | refine AWP.cond rfl ?_ | refine AWP.ret ?_ | refine AWP.skip ?_ | refine AWP.exit ?_ | refine AWP.label ?_ | refine AWP.goto ?_ | (refine Br (fun h => ?_) (fun h => ?_) <;> try (exfalso; simp only [decide_eq_true_eq, decide_eq_false_iff_not, beq_iff_eq, beq_eq_false_iff_ne, bne_iff_ne, bne_eq_false_iff_eq, ne_eq, List.length_map, List.length_append, List.length_cons, List.length_nil] at *; omega)))
        all_goals (try conv => whnf)
        refine ⟨by rw [List.length_set]; exact s0, ?_⟩
        repeat' ((try conv => whnf); with_reducible first | refine AWP.seq ?_ | refine AWP.region (G_ok _ _ _ _) rfl ?_ | refine AWP.draw (G_ok _ _ _ _) rfl [0, 0, 0, 6, 14, 0, 0, 96, 224, 511, 1023] [9, 1, 1] rfl rfl ?_ | refine AWP.draw (G_ok _ _ _ _) rfl [0, 0, 0, 0, 8, 0, 0, 64, 224, 480, 0, 0, 3072, 7168, 16355, 32739, 65535, 131071] [16, 1, 1] rfl rfl ?_ | refine AWP.draw (G_ok _ _ _ _) rfl [0, 0, 0, 6, 14, 0, 0, 96, 224, 511, 1023, 2047] [9, 1, 1, 1] rfl rfl ?_ | refine AWP.draw (G_ok _ _ _ _) rfl [0, 0, 0, 0, 12, 30, 62, 0, 0, 384, 896, 2047, 4095, 8191] [11, 1, 1, 1] rfl rfl ?_ | refine AWP.block ?_ | refine AWP.cond rfl ?_ | refine AWP.ret ?_ | refine AWP.skip ?_ | refine AWP.exit ?_ | refine AWP.label ?_ | refine AWP.goto ?_ | (refine Br (fun h => ?_) (fun h => ?_) <;> try (exfalso; simp only [decide_eq_true_eq, decide_eq_false_iff_not, beq_iff_eq, beq_eq_false_iff_ne, bne_iff_ne, bne_eq_false_iff_eq, ne_eq, List.length_map, List.length_append, List.length_cons, List.length_nil] at *; omega)))
        all_goals (try conv => whnf)
        refine ⟨t - i, by omega, t, rfl, by omega, by omega, ⟨rfl, rfl, ?_, trivial⟩, ⟨?_, trivial⟩⟩
        · show PV.s (.int .i64 (IntKind.i64.wrap (((a + (t + 1) : Nat) : Int) - 1))) = _
          rw [hk0, pl]
        · show some (Row.row 6 (List.set (List.set (enR (P ++ z :: ([] ++ y :: Q))) (((a + (t + 1) : Nat) : Int)).toNat z.cells) (IntKind.i64.wrap (((a + (t + 1) : Nat) : Int) - 1)).toNat y.cells)) = _
          rw [hk0, hk1, Int.toNat_natCast, Int.toNat_natCast, en_set2, en_set, hP, hQ, hd]
          simp
      · have hti2 : t = i := by omega
        subst hti2
        obtain ⟨f, H, rfl⟩ := hst.canon
        repeat' ((try conv => whnf); with_reducible first | refine AWP.seq ?_ | refine AWP.region (G_ok _ _ _ _) rfl ?_ | refine AWP.draw (G_ok _ _ _ _) rfl [0, 0, 0, 6, 14, 0, 0, 96, 224, 511, 1023] [9, 1, 1] rfl rfl ?_ | refine AWP.draw (G_ok _ _ _ _) rfl [0, 0, 0, 0, 8, 0, 0, 64, 224, 480, 0, 0, 3072, 7168, 16355, 32739, 65535, 131071] [16, 1, 1] rfl rfl ?_ | refine AWP.draw (G_ok _ _ _ _) rfl [0, 0, 0, 6, 14, 0, 0, 96, 224, 511, 1023, 2047] [9, 1, 1, 1] rfl rfl ?_ | refine AWP.draw (G_ok _ _ _ _) rfl [0, 0, 0, 0, 12, 30, 62, 0, 0, 384, 896, 2047, 4095, 8191] [11, 1, 1, 1] rfl rfl ?_ | refine AWP.block ?_ | refine AWP.cond rfl ?_ | refine AWP.ret ?_ | refine AWP.skip ?_ | refine AWP.exit ?_ | refine AWP.label ?_ | refine AWP.goto ?_ | (refine Br (fun h => ?_) (fun h => ?_) <;> try (exfalso; simp only [decide_eq_true_eq, decide_eq_false_iff_not, beq_iff_eq, beq_eq_false_iff_ne, bne_iff_ne, bne_eq_false_iff_eq, ne_eq, List.length_map, List.length_append, List.length_cons, List.length_nil] at *; omega)))
        all_goals (try conv => whnf)
        refine handsRowN rfl ?_ rfl
        rw [hfin]
        simp
  rw [hwb] at h2
  simp at h2
  have hx2 : 2 ≤ X.length := by omega
  have hy2 : 2 ≤ Y.length := by omega
  obtain ⟨mid, hmid⟩ : ∃ mid, mid = (a + b) / 2 := ⟨_, rfl⟩
  have hm1 : midW (a : Int) (b : Int) = (mid : Int) := by rw [w_mid (by omega), hmid]
  have hm2 : IntKind.i64.wrap ((mid : Int) + m) = ((mid + m : Nat) : Int) := w_add (by omega)
  have hma : a < mid := by omega
  have hmb : mid < b := by omega
  have hm2a : 2 * mid ≤ a + b := by omega
  have hm2b : a + b ≤ 2 * mid + 1 := by omega
  clear hmid
  repeat' ((try conv => whnf); with_reducible first | refine AWP.seq ?_ | refine AWP.region (G_ok _ _ _ _) rfl ?_ | refine AWP.draw (G_ok _ _ _ _) rfl [0, 0, 0, 6, 14, 0, 0, 96, 224, 511, 1023] [9, 1, 1] rfl rfl ?_ | refine AWP.draw (G_ok _ _ _ _) rfl [0, 0, 0, 0, 8, 0, 0, 64, 224, 480, 0, 0, 3072, 7168, 16355, 32739, 65535, 131071] [16, 1, 1] rfl rfl ?_ | refine AWP.draw (G_ok _ _ _ _) rfl [0, 0, 0, 6, 14, 0, 0, 96, 224, 511, 1023, 2047] [9, 1, 1, 1] rfl rfl ?_ | refine AWP.draw (G_ok _ _ _ _) rfl [0, 0, 0, 0, 12, 30, 62, 0, 0, 384, 896, 2047, 4095, 8191] [11, 1, 1, 1] rfl rfl ?_ | refine AWP.block ?_ | refine AWP.ret ?_ | refine AWP.skip ?_ | refine AWP.exit ?_ | refine AWP.label ?_ | refine AWP.goto ?_ | refine Br (fun h => ?_) (fun h => ?_))
  all_goals (try conv => whnf)
  refine AWP.cut (fun st => ∃ lo hi : Nat, a ≤ lo ∧ lo ≤ hi ∧ hi ≤ m ∧ hi ≤ mid ∧ mid + m - lo ≤ b ∧ (lo = a ∨ mid + m - lo = b) ∧ (hi = m ∨ hi = mid) ∧
    Has st [(0, .xs 0 none), (1, iv a), (2, iv m), (3, iv b), (4, fnv 48), (18, iv mid), (19, iv (mid + m : Nat)), (20, iv lo), (21, iv hi)] [(0, .row 6 (enR (A ++ X ++ Y ++ D)))]) ?_ ?_
  · refine AWP.cond rfl ?_
    conv => whnf
    refine Br (fun h3 => ?_) (fun h3 => ?_)
    · have h3 : decide ((m : Int) > midW (a : Int) (b : Int)) = true := h3
      rw [hm1] at h3
      simp at h3
      repeat' ((try conv => whnf); with_reducible first | refine AWP.seq ?_ | refine AWP.region (G_ok _ _ _ _) rfl ?_ | refine AWP.draw (G_ok _ _ _ _) rfl [0, 0, 0, 6, 14, 0, 0, 96, 224, 511, 1023] [9, 1, 1] rfl rfl ?_ | refine AWP.draw (G_ok _ _ _ _) rfl [0, 0, 0, 0, 8, 0, 0, 64, 224, 480, 0, 0, 3072, 7168, 16355, 32739, 65535, 131071] [16, 1, 1] rfl rfl ?_ | refine AWP.draw (G_ok _ _ _ _) rfl [0, 0, 0, 6, 14, 0, 0, 96, 224, 511, 1023, 2047] [9, 1, 1, 1] rfl rfl ?_ | refine AWP.draw (G_ok _ _ _ _) rfl [0, 0, 0, 0, 12, 30, 62, 0, 0, 384, 896, 2047, 4095, 8191] [11, 1, 1, 1] rfl rfl ?_ | refine AWP.block ?_ | refine AWP.cond rfl ?_ | refine AWP.ret ?_ | refine AWP.skip ?_ | refine AWP.exit ?_ | refine AWP.label ?_ | refine AWP.goto ?_ | refine Br (fun h => ?_) (fun h => ?_))
      all_goals (try conv => whnf)
      refine ⟨mid + m - b, mid, by omega, by omega, by omega, Nat.le_refl _, by omega, .inr (by omega), .inr rfl, ⟨rfl, rfl, rfl, rfl, rfl, ?_, ?_, ?_, ?_, trivial⟩, ⟨rfl, trivial⟩⟩
      · show PV.s (.int .i64 (midW (a : Int) (b : Int))) = _
        rw [hm1]
      · show PV.s (.int .i64 (IntKind.i64.wrap (midW (a : Int) (b : Int) + m))) = _
        rw [hm1, hm2]
      · show PV.s (.int .i64 (IntKind.i64.wrap (IntKind.i64.wrap (midW (a : Int) (b : Int) + m) - b))) = _
        rw [hm1, hm2, w_sub (by omega) (by omega)]
      · show PV.s (.int .i64 (midW (a : Int) (b : Int))) = _
        rw [hm1]
    · have h3 : decide ((m : Int) > midW (a : Int) (b : Int)) = false := h3
      rw [hm1] at h3
      simp at h3
      repeat' ((try conv => whnf); with_reducible first | refine AWP.seq ?_ | refine AWP.region (G_ok _ _ _ _) rfl ?_ | refine AWP.draw (G_ok _ _ _ _) rfl [0, 0, 0, 6, 14, 0, 0, 96, 224, 511, 1023] [9, 1, 1] rfl rfl ?_ | refine AWP.draw (G_ok _ _ _ _) rfl [0, 0, 0, 0, 8, 0, 0, 64, 224, 480, 0, 0, 3072, 7168, 16355, 32739, 65535, 131071] [16, 1, 1] rfl rfl ?_ | refine AWP.draw (G_ok _ _ _ _) rfl [0, 0, 0, 6, 14, 0, 0, 96, 224, 511, 1023, 2047] [9, 1, 1, 1] rfl rfl ?_ | refine AWP.draw (G_ok _ _ _ _) rfl [0, 0, 0, 0, 12, 30, 62, 0, 0, 384, 896, 2047, 4095, 8191] [11, 1, 1, 1] rfl rfl ?_ | refine AWP.block ?_ | refine AWP.cond rfl ?_ | refine AWP.ret ?_ | refine AWP.skip ?_ | refine AWP.exit ?_ | refine AWP.label ?_ | refine AWP.goto ?_ | refine Br (fun h => ?_) (fun h => ?_))
      all_goals (try conv => whnf)
      refine ⟨a, m, Nat.le_refl _, by omega, Nat.le_refl _, by omega, by omega, .inl rfl, .inl rfl, ⟨rfl, rfl, rfl, rfl, rfl, ?_, ?_, rfl, rfl, trivial⟩, ⟨rfl, trivial⟩⟩
      · show PV.s (.int .i64 (midW (a : Int) (b : Int))) = _
        rw [hm1]
      · show PV.s (.int .i64 (IntKind.i64.wrap (midW (a : Int) (b : Int) + m))) = _
        rw [hm1, hm2]
  rintro st ⟨lo, hi, hlo, hlh, him, himd, hlb, hlo2, hhi2, hst⟩
  obtain ⟨f, H, rfl⟩ := hst.canon
  repeat' ((try conv => whnf); with_reducible first | refine AWP.seq ?_ | refine AWP.region (G_ok _ _ _ _) rfl ?_ | refine AWP.draw (G_ok _ _ _ _) rfl [0, 0, 0, 6, 14, 0, 0, 96, 224, 511, 1023] [9, 1, 1] rfl rfl ?_ | refine AWP.draw (G_ok _ _ _ _) rfl [0, 0, 0, 0, 8, 0, 0, 64, 224, 480, 0, 0, 3072, 7168, 16355, 32739, 65535, 131071] [16, 1, 1] rfl rfl ?_ | refine AWP.draw (G_ok _ _ _ _) rfl [0, 0, 0, 6, 14, 0, 0, 96, 224, 511, 1023, 2047] [9, 1, 1, 1] rfl rfl ?_ | refine AWP.draw (G_ok _ _ _ _) rfl [0, 0, 0, 0, 12, 30, 62, 0, 0, 384, 896, 2047, 4095, 8191] [11, 1, 1, 1] rfl rfl ?_ | refine AWP.ret ?_ | refine AWP.skip ?_ | refine AWP.exit ?_ | refine AWP.label ?_ | refine AWP.goto ?_ | refine Br (fun h => ?_) (fun h => ?_))
  all_goals (try conv => whnf)
  refine AWP.cut (fun st => ∃ q : Nat, lo ≤ q ∧ q ≤ hi ∧ (q = lo ∨ ¬ cmp (pick Y (mid + m - q - m)) (pick X (q - 1 - a)) < 0) ∧ (q = hi ∨ cmp (pick Y (mid + m - 1 - q - m)) (pick X (q - a)) < 0) ∧
    Has st [(0, .xs 0 none), (1, iv a), (2, iv m), (3, iv b), (4, fnv 48), (18, iv mid), (19, iv (mid + m : Nat)), (20, iv q)] [(0, .row 6 (enR (A ++ X ++ Y ++ D)))]) ?_ ?_
  · refine AWP.block ?_
    refine AWP.loop (fun n st => ∃ q r : Nat, n = r - q ∧ lo ≤ q ∧ q ≤ r ∧ r ≤ hi ∧ (q = lo ∨ ¬ cmp (pick Y (mid + m - q - m)) (pick X (q - 1 - a)) < 0) ∧ (r = hi ∨ cmp (pick Y (mid + m - 1 - r - m)) (pick X (r - a)) < 0) ∧
      Has st [(0, .xs 0 none), (1, iv a), (2, iv m), (3, iv b), (4, fnv 48), (18, iv mid), (19, iv (mid + m : Nat)), (20, iv q), (21, iv r), (22, iv (mid + m - 1 : Nat))] [(0, .row 6 (enR (A ++ X ++ Y ++ D)))]) (hi - lo) ?_ ?_
    · refine ⟨lo, hi, rfl, Nat.le_refl _, hlh, Nat.le_refl _, .inl rfl, .inl rfl, ⟨rfl, rfl, rfl, rfl, rfl, rfl, rfl, rfl, rfl, ?_, trivial⟩, ⟨rfl, trivial⟩⟩
      show PV.s (.int .i64 (IntKind.i64.wrap (((mid + m : Nat) : Int) - 1))) = _
      rw [w_sub1 (by omega) (by omega)]
    rintro n st ⟨q, r, rfl, hq, hqr, hr, hq1, hr1, hst⟩
    obtain ⟨c, hc⟩ : ∃ c, c = (q + r) / 2 := ⟨_, rfl⟩
    have hcm : midW (q : Int) (r : Int) = (c : Int) := by rw [w_mid (by omega), hc]
    obtain ⟨f, H, rfl⟩ := hst.canon
    repeat' ((try conv => whnf); with_reducible first | refine AWP.seq ?_ | refine AWP.region (G_ok _ _ _ _) rfl ?_ | refine AWP.draw (G_ok _ _ _ _) rfl [0, 0, 0, 6, 14, 0, 0, 96, 224, 511, 1023] [9, 1, 1] rfl rfl ?_ | refine AWP.draw (G_ok _ _ _ _) rfl [0, 0, 0, 0, 8, 0, 0, 64, 224, 480, 0, 0, 3072, 7168, 16355, 32739, 65535, 131071] [16, 1, 1] rfl rfl ?_ | refine AWP.draw (G_ok _ _ _ _) rfl [0, 0, 0, 6, 14, 0, 0, 96, 224, 511, 1023, 2047] [9, 1, 1, 1] rfl rfl ?_ | refine AWP.draw (G_ok _ _ _ _) rfl [0, 0, 0, 0, 12, 30, 62, 0, 0, 384, 896, 2047, 4095, 8191] [11, 1, 1, 1] rfl rfl ?_ | refine AWP.block ?_ | refine AWP.cond rfl ?_ | refine AWP.ret ?_ | refine AWP.skip ?_ | refine AWP.exit ?_ | refine AWP.label ?_ | refine AWP.goto ?_ | (refine Br (fun h => ?_) (fun h => ?_) <;> try (exfalso; simp only [decide_eq_true_eq, decide_eq_false_iff_not, beq_iff_eq, beq_eq_false_iff_ne, bne_iff_ne, bne_eq_false_iff_eq, ne_eq, List.length_map, List.length_append, List.length_cons, List.length_nil] at *; omega)))
    all_goals (try conv => whnf)
    · simp at h
      have hqc : q ≤ c := by omega
      have hcr : c < r := by omega
      have hpc : IntKind.i64.wrap (((mid + m - 1 : Nat) : Int) - midW (q : Int) (r : Int)) = ((mid + m - 1 - c : Nat) : Int) := by rw [hcm, w_sub (by omega) (by omega)]
      have bp : 0 ≤ IntKind.i64.wrap (((mid + m - 1 : Nat) : Int) - midW (q : Int) (r : Int)) ∧ IntKind.i64.wrap (((mid + m - 1 : Nat) : Int) - midW (q : Int) (r : Int)) < ((enR (A ++ X ++ Y ++ D)).length : Int) := by rw [hpc, en_len, hLl]; omega
      have gp : (enR (A ++ X ++ Y ++ D))[(IntKind.i64.wrap (((mid + m - 1 : Nat) : Int) - midW (q : Int) (r : Int))).toNat]? = some (pick Y (mid + m - 1 - c - m)).cells := by
        have e := pY (mid + m - 1 - c - m) (by omega)
        rw [show m + (mid + m - 1 - c - m) = mid + m - 1 - c by omega] at e
        rw [hpc, Int.toNat_natCast, en_pick (by rw [hLl]; omega), e]
      have bc : 0 ≤ midW (q : Int) (r : Int) ∧ midW (q : Int) (r : Int) < ((enR (A ++ X ++ Y ++ D)).length : Int) := by rw [hcm, en_len, hLl]; omega
      have gc : (enR (A ++ X ++ Y ++ D))[(midW (q : Int) (r : Int)).toNat]? = some (pick X (c - a)).cells := by
        have e := pX (c - a) (by omega)
        rw [show a + (c - a) = c by omega] at e
        rw [hcm, Int.toNat_natCast, en_pick (by rw [hLl]; omega), e]
      refine ⟨bp, ?_⟩
      repeat' ((try conv => whnf); with_reducible first | refine AWP.seq ?_ | refine AWP.region (G_ok _ _ _ _) rfl ?_ | refine AWP.draw (G_ok _ _ _ _) rfl [0, 0, 0, 6, 14, 0, 0, 96, 224, 511, 1023] [9, 1, 1] rfl rfl ?_ | refine AWP.draw (G_ok _ _ _ _) rfl [0, 0, 0, 0, 8, 0, 0, 64, 224, 480, 0, 0, 3072, 7168, 16355, 32739, 65535, 131071] [16, 1, 1] rfl rfl ?_ | refine AWP.draw (G_ok _ _ _ _) rfl [0, 0, 0, 6, 14, 0, 0, 96, 224, 511, 1023, 2047] [9, 1, 1, 1] rfl rfl ?_ | refine AWP.draw (G_ok _ _ _ _) rfl [0, 0, 0, 0, 12, 30, 62, 0, 0, 384, 896, 2047, 4095, 8191] [11, 1, 1, 1] rfl rfl ?_ | refine AWP.block ?_ | refine AWP.cond rfl ?_ | refine AWP.ret ?_ | refine AWP.skip ?_ | refine AWP.exit ?_ | refine AWP.label ?_ | refine AWP.goto ?_ | (refine Br (fun h => ?_) (fun h => ?_) <;> try (exfalso; simp only [decide_eq_true_eq, decide_eq_false_iff_not, beq_iff_eq, beq_eq_false_iff_ne, bne_iff_ne, bne_eq_false_iff_eq, ne_eq, List.length_map, List.length_append, List.length_cons, List.length_nil] at *; omega)))
      all_goals (try conv => whnf)
      refine ⟨_, gp, ?_⟩
      repeat' ((try conv => whnf); with_reducible first | refine AWP.seq ?_ | refine AWP.region (G_ok _ _ _ _) rfl ?_ | refine AWP.draw (G_ok _ _ _ _) rfl [0, 0, 0, 6, 14, 0, 0, 96, 224, 511, 1023] [9, 1, 1] rfl rfl ?_ | refine AWP.draw (G_ok _ _ _ _) rfl [0, 0, 0, 0, 8, 0, 0, 64, 224, 480, 0, 0, 3072, 7168, 16355, 32739, 65535, 131071] [16, 1, 1] rfl rfl ?_ | refine AWP.draw (G_ok _ _ _ _) rfl [0, 0, 0, 6, 14, 0, 0, 96, 224, 511, 1023, 2047] [9, 1, 1, 1] rfl rfl ?_ | refine AWP.draw (G_ok _ _ _ _) rfl [0, 0, 0, 0, 12, 30, 62, 0, 0, 384, 896, 2047, 4095, 8191] [11, 1, 1, 1] rfl rfl ?_ | refine AWP.block ?_ | refine AWP.cond rfl ?_ | refine AWP.ret ?_ | refine AWP.skip ?_ | refine AWP.exit ?_ | refine AWP.label ?_ | refine AWP.goto ?_ | (refine Br (fun h => ?_) (fun h => ?_) <;> try (exfalso; simp only [decide_eq_true_eq, decide_eq_false_iff_not, beq_iff_eq, beq_eq_false_iff_ne, bne_iff_ne, bne_eq_false_iff_eq, ne_eq, List.length_map, List.length_append, List.length_cons, List.length_nil] at *; omega)))
      all_goals (try conv => whnf)
      refine ⟨bc, ?_⟩
      repeat' ((try conv => whnf); with_reducible first | refine AWP.seq ?_ | refine AWP.region (G_ok _ _ _ _) rfl ?_ | refine AWP.draw (G_ok _ _ _ _) rfl [0, 0, 0, 6, 14, 0, 0, 96, 224, 511, 1023] [9, 1, 1] rfl rfl ?_ | refine AWP.draw (G_ok _ _ _ _) rfl [0, 0, 0, 0, 8, 0, 0, 64, 224, 480, 0, 0, 3072, 7168, 16355, 32739, 65535, 131071] [16, 1, 1] rfl rfl ?_ | refine AWP.draw (G_ok _ _ _ _) rfl [0, 0, 0, 6, 14, 0, 0, 96, 224, 511, 1023, 2047] [9, 1, 1, 1] rfl rfl ?_ | refine AWP.draw (G_ok _ _ _ _) rfl [0, 0, 0, 0, 12, 30, 62, 0, 0, 384, 896, 2047, 4095, 8191] [11, 1, 1, 1] rfl rfl ?_ | refine AWP.block ?_ | refine AWP.cond rfl ?_ | refine AWP.ret ?_ | refine AWP.skip ?_ | refine AWP.exit ?_ | refine AWP.label ?_ | refine AWP.goto ?_ | (refine Br (fun h => ?_) (fun h => ?_) <;> try (exfalso; simp only [decide_eq_true_eq, decide_eq_false_iff_not, beq_iff_eq, beq_eq_false_iff_ne, bne_iff_ne, bne_eq_false_iff_eq, ne_eq, List.length_map, List.length_append, List.length_cons, List.length_nil] at *; omega)))
      all_goals (try conv => whnf)
      refine ⟨_, gc, ?_⟩
      repeat' ((try conv => whnf); with_reducible first | refine AWP.seq ?_ | refine AWP.region (G_ok _ _ _ _) rfl ?_ | refine AWP.draw (G_ok _ _ _ _) rfl [0, 0, 0, 6, 14, 0, 0, 96, 224, 511, 1023] [9, 1, 1] rfl rfl ?_ | refine AWP.draw (G_ok _ _ _ _) rfl [0, 0, 0, 0, 8, 0, 0, 64, 224, 480, 0, 0, 3072, 7168, 16355, 32739, 65535, 131071] [16, 1, 1] rfl rfl ?_ | refine AWP.draw (G_ok _ _ _ _) rfl [0, 0, 0, 6, 14, 0, 0, 96, 224, 511, 1023, 2047] [9, 1, 1, 1] rfl rfl ?_ | refine AWP.draw (G_ok _ _ _ _) rfl [0, 0, 0, 0, 12, 30, 62, 0, 0, 384, 896, 2047, 4095, 8191] [11, 1, 1, 1] rfl rfl ?_ | refine AWP.block ?_ | refine AWP.cond rfl ?_ | refine AWP.ret ?_ | refine AWP.skip ?_ | refine AWP.exit ?_ | refine AWP.label ?_ | refine AWP.goto ?_ | (refine Br (fun h => ?_) (fun h => ?_) <;> try (exfalso; simp only [decide_eq_true_eq, decide_eq_false_iff_not, beq_iff_eq, beq_eq_false_iff_ne, bne_iff_ne, bne_eq_false_iff_eq, ne_eq, List.length_map, List.length_append, List.length_cons, List.length_nil] at *; omega)))
      all_goals (try conv => whnf)
      refine ⟨_, _, hg (pick Y (mid + m - 1 - c - m)) (mY _ (by omega)) (pick X (c - a)) (mX _ (by omega)), ?_⟩
      repeat' ((try conv => whnf); with_reducible first | refine AWP.seq ?_ | refine AWP.region (G_ok _ _ _ _) rfl ?_ | refine AWP.draw (G_ok _ _ _ _) rfl [0, 0, 0, 6, 14, 0, 0, 96, 224, 511, 1023] [9, 1, 1] rfl rfl ?_ | refine AWP.draw (G_ok _ _ _ _) rfl [0, 0, 0, 0, 8, 0, 0, 64, 224, 480, 0, 0, 3072, 7168, 16355, 32739, 65535, 131071] [16, 1, 1] rfl rfl ?_ | refine AWP.draw (G_ok _ _ _ _) rfl [0, 0, 0, 6, 14, 0, 0, 96, 224, 511, 1023, 2047] [9, 1, 1, 1] rfl rfl ?_ | refine AWP.draw (G_ok _ _ _ _) rfl [0, 0, 0, 0, 12, 30, 62, 0, 0, 384, 896, 2047, 4095, 8191] [11, 1, 1, 1] rfl rfl ?_ | refine AWP.block ?_ | refine AWP.cond rfl ?_ | refine AWP.ret ?_ | refine AWP.skip ?_ | refine AWP.exit ?_ | refine AWP.label ?_ | refine AWP.goto ?_ | (refine Br (fun h => ?_) (fun h => ?_) <;> try (exfalso; simp only [decide_eq_true_eq, decide_eq_false_iff_not, beq_iff_eq, beq_eq_false_iff_ne, bne_iff_ne, bne_eq_false_iff_eq, ne_eq, List.length_map, List.length_append, List.length_cons, List.length_nil] at *; omega)))
      all_goals (try conv => whnf)
      · simp at h
        refine ⟨r - (c + 1), by omega, c + 1, r, rfl, by omega, by omega, hr, .inr ?_, hr1, ⟨rfl, rfl, rfl, rfl, rfl, rfl, rfl, ?_, rfl, rfl, trivial⟩, ⟨rfl, trivial⟩⟩
        · rw [show mid + m - (c + 1) - m = mid + m - 1 - c - m by omega, show c + 1 - 1 - a = c - a by omega]; omega
        · show PV.s (.int .i64 (IntKind.i64.wrap (midW (q : Int) (r : Int) + 1))) = _
          rw [hcm, w_add1 (by omega)]
      · simp at h
        refine ⟨c - q, by omega, q, c, rfl, hq, hqc, by omega, hq1, .inr h, ⟨rfl, rfl, rfl, rfl, rfl, rfl, rfl, rfl, ?_, rfl, trivial⟩, ⟨rfl, trivial⟩⟩
        show PV.s (.int .i64 (midW (q : Int) (r : Int))) = _
        rw [hcm]
    · simp at h
      have hqr2 : q = r := by omega
      subst hqr2
      exact ⟨q, hq, hr, hq1, hr1, ⟨rfl, rfl, rfl, rfl, rfl, rfl, rfl, rfl, trivial⟩, ⟨rfl, trivial⟩⟩
  rintro st ⟨q, hq, hqh, hq1, hq2, hst⟩
  obtain ⟨e, he⟩ : ∃ e, e = mid + m - q := ⟨_, rfl⟩
  have hcut := mrg_cut hG hR hX hY (q - a) (e - m) (by omega) (by omega)
    (by
      rcases hq1 with h | h
      · rcases hlo2 with h' | h'
        · exact .inl (by omega)
        · exact .inr (.inl (by omega))
      · exact .inr (.inr (by rw [he, show q - a - 1 = q - 1 - a by omega]; exact h)))
    (by
      rcases hq2 with h | h
      · rcases hhi2 with h' | h'
        · exact .inl (by omega)
        · exact .inr (.inl (by omega))
      · exact .inr (.inr (by rw [show e - m - 1 = mid + m - 1 - q - m by omega]; exact h)))
  obtain ⟨X1, X2, rfl, hX1, eX1, eX2⟩ : ∃ X1 X2, X = X1 ++ X2 ∧ X1.length = q - a ∧ X.take (q - a) = X1 ∧ X.drop (q - a) = X2 := ⟨X.take (q - a), X.drop (q - a), (List.take_append_drop ..).symm, by simp; omega, rfl, rfl⟩
  obtain ⟨Y1, Y2, rfl, hY1, eY1, eY2⟩ : ∃ Y1 Y2, Y = Y1 ++ Y2 ∧ Y1.length = e - m ∧ Y.take (e - m) = Y1 ∧ Y.drop (e - m) = Y2 := ⟨Y.take (e - m), Y.drop (e - m), (List.take_append_drop ..).symm, by simp; omega, rfl, rfl⟩
  rw [eX1, eX2, eY1, eY2] at hcut
  simp only [List.length_append] at hn em eb hl hLl hx0 hy0 hx2 hy2
  obtain ⟨uX1, uX2, _⟩ := hX.app
  obtain ⟨uY1, uY2, _⟩ := hY.app
  clear pX pY mX mY eX1 eX2 eY1 eY2 hX hY hq1 hq2 hLl
  have fit2 : ∀ P Q : List Tm, (∀ z ∈ P ++ Q, z ∈ X1 ++ X2 ++ (Y1 ++ Y2)) → ∀ x ∈ P ++ Q, ∀ y ∈ P ++ Q, Snd 48 [x.pv, y.pv] [iv (cmp x y)] := fun P Q h x hx y hy => hg x (h x hx) y (h y hy)
  have lm : (mrg cmp X1 Y1).length = X1.length + Y1.length := mrg_length X1 Y1
  obtain ⟨f, H, rfl⟩ := hst.canon
  refine AWP.seq ?_
  refine AWP.cut (fun st => Has st [(0, .xs 0 none), (1, iv a), (2, iv m), (3, iv b), (4, fnv 48), (18, iv mid), (20, iv q), (24, iv e)] [(0, .row 6 (enR (A ++ (X1 ++ X2) ++ (Y1 ++ Y2) ++ D)))]) ?_ ?_
  · refine AWP.region (G_ok _ _ _ _) rfl ?_
    conv => whnf
    refine ⟨⟨rfl, rfl, rfl, rfl, rfl, rfl, rfl, ?_, trivial⟩, ⟨rfl, trivial⟩⟩
    show PV.s (.int .i64 (IntKind.i64.wrap (((mid + m : Nat) : Int) - q))) = _
    rw [w_sub (by omega) (by omega), he]
  clear hst
  rintro st hst
  obtain ⟨f, H, rfl⟩ := hst.canon
  refine AWP.seq ?_
  refine AWP.cut (fun st => Has st [(0, .xs 0 none), (1, iv a), (3, iv b), (4, fnv 48), (18, iv mid), (20, iv q), (24, iv e)] [(0, .row 6 (enR (A ++ X1 ++ Y1 ++ (X2 ++ Y2 ++ D))))]) ?_ ?_
  · repeat' ((try conv => whnf); with_reducible first | refine AWP.seq ?_ | refine AWP.region (G_ok _ _ _ _) rfl ?_ | refine AWP.draw (G_ok _ _ _ _) rfl [0, 0, 0, 6, 14, 0, 0, 96, 224, 511, 1023] [9, 1, 1] rfl rfl ?_ | refine AWP.draw (G_ok _ _ _ _) rfl [0, 0, 0, 0, 8, 0, 0, 64, 224, 480, 0, 0, 3072, 7168, 16355, 32739, 65535, 131071] [16, 1, 1] rfl rfl ?_ | refine AWP.draw (G_ok _ _ _ _) rfl [0, 0, 0, 6, 14, 0, 0, 96, 224, 511, 1023, 2047] [9, 1, 1, 1] rfl rfl ?_ | refine AWP.draw (G_ok _ _ _ _) rfl [0, 0, 0, 0, 12, 30, 62, 0, 0, 384, 896, 2047, 4095, 8191] [11, 1, 1, 1] rfl rfl ?_ | refine AWP.block ?_ | refine AWP.cond rfl ?_ | refine AWP.ret ?_ | refine AWP.skip ?_ | refine AWP.exit ?_ | refine AWP.label ?_ | refine AWP.goto ?_ | (refine Br (fun h => ?_) (fun h => ?_) <;> try (exfalso; simp only [decide_eq_true_eq, decide_eq_false_iff_not, beq_iff_eq, beq_eq_false_iff_ne, bne_iff_ne, bne_eq_false_iff_eq, ne_eq, List.length_map, List.length_append, List.length_cons, List.length_nil] at *; omega)))
    all_goals (try conv => whnf)
    · rename_i h3
      simp at h h3
      have hr := rotate_ok 48 (A ++ X1) X2 Y1 (Y2 ++ D) (by omega) (by omega) (by simp only [List.length_append]; omega) q m e (by rw [List.length_append]; omega) (by rw [List.length_append]; omega) (by rw [List.length_append]; omega)
      refine ⟨[0], [.xs 0 none, iv q, iv m, iv e, fnv 48], [.row 6 (enR (A ++ X1 ++ X2 ++ Y1 ++ (Y2 ++ D)))], .tup [], [.row 6 (enR (A ++ X1 ++ Y1 ++ X2 ++ (Y2 ++ D)))], ⟨rfl, rfl, rfl, ⟨?_, trivial⟩, rfl, rfl, rfl, rfl, rfl⟩, hr, ?_⟩
      · show some (Row.row 6 (enR (A ++ (X1 ++ X2) ++ (Y1 ++ Y2) ++ D))) = some (Row.row 6 (enR (A ++ X1 ++ X2 ++ Y1 ++ (Y2 ++ D))))
        simp only [List.append_assoc]
      repeat' ((try conv => whnf); with_reducible first | refine AWP.seq ?_ | refine AWP.region (G_ok _ _ _ _) rfl ?_ | refine AWP.draw (G_ok _ _ _ _) rfl [0, 0, 0, 6, 14, 0, 0, 96, 224, 511, 1023] [9, 1, 1] rfl rfl ?_ | refine AWP.draw (G_ok _ _ _ _) rfl [0, 0, 0, 0, 8, 0, 0, 64, 224, 480, 0, 0, 3072, 7168, 16355, 32739, 65535, 131071] [16, 1, 1] rfl rfl ?_ | refine AWP.draw (G_ok _ _ _ _) rfl [0, 0, 0, 6, 14, 0, 0, 96, 224, 511, 1023, 2047] [9, 1, 1, 1] rfl rfl ?_ | refine AWP.draw (G_ok _ _ _ _) rfl [0, 0, 0, 0, 12, 30, 62, 0, 0, 384, 896, 2047, 4095, 8191] [11, 1, 1, 1] rfl rfl ?_ | refine AWP.block ?_ | refine AWP.cond rfl ?_ | refine AWP.ret ?_ | refine AWP.skip ?_ | refine AWP.exit ?_ | refine AWP.label ?_ | refine AWP.goto ?_ | (refine Br (fun h => ?_) (fun h => ?_) <;> try (exfalso; simp only [decide_eq_true_eq, decide_eq_false_iff_not, beq_iff_eq, beq_eq_false_iff_ne, bne_iff_ne, bne_eq_false_iff_eq, ne_eq, List.length_map, List.length_append, List.length_cons, List.length_nil] at *; omega)))
      all_goals (try conv => whnf)
      refine ⟨⟨rfl, rfl, rfl, rfl, rfl, rfl, rfl, trivial⟩, ⟨?_, trivial⟩⟩
      show some (Row.row 6 (enR (A ++ X1 ++ Y1 ++ X2 ++ (Y2 ++ D)))) = some (Row.row 6 (enR (A ++ X1 ++ Y1 ++ (X2 ++ Y2 ++ D))))
      simp only [List.append_assoc]
    · rename_i h3
      simp at h h3
      have e1 : Y1 = [] := List.length_eq_zero_iff.1 (by omega)
      refine ⟨⟨rfl, rfl, rfl, rfl, rfl, rfl, rfl, trivial⟩, ⟨?_, trivial⟩⟩
      show some (Row.row 6 (enR (A ++ (X1 ++ X2) ++ (Y1 ++ Y2) ++ D))) = some (Row.row 6 (enR (A ++ X1 ++ Y1 ++ (X2 ++ Y2 ++ D))))
      rw [e1]; simp
    · simp at h
      have e1 : X2 = [] := List.length_eq_zero_iff.1 (by omega)
      refine ⟨⟨rfl, rfl, rfl, rfl, rfl, rfl, rfl, trivial⟩, ⟨?_, trivial⟩⟩
      show some (Row.row 6 (enR (A ++ (X1 ++ X2) ++ (Y1 ++ Y2) ++ D))) = some (Row.row 6 (enR (A ++ X1 ++ Y1 ++ (X2 ++ Y2 ++ D))))
      rw [e1]; simp
  clear hst
  rintro st hst
  obtain ⟨f, H, rfl⟩ := hst.canon
  refine AWP.seq ?_
  refine AWP.cut (fun st => Has st [(0, .xs 0 none), (3, iv b), (4, fnv 48), (18, iv mid), (24, iv e)] [(0, .row 6 (enR (A ++ mrg cmp X1 Y1 ++ (X2 ++ Y2 ++ D))))]) ?_ ?_
  · repeat' ((try conv => whnf); with_reducible first | refine AWP.seq ?_ | refine AWP.region (G_ok _ _ _ _) rfl ?_ | refine AWP.draw (G_ok _ _ _ _) rfl [0, 0, 0, 6, 14, 0, 0, 96, 224, 511, 1023] [9, 1, 1] rfl rfl ?_ | refine AWP.draw (G_ok _ _ _ _) rfl [0, 0, 0, 0, 8, 0, 0, 64, 224, 480, 0, 0, 3072, 7168, 16355, 32739, 65535, 131071] [16, 1, 1] rfl rfl ?_ | refine AWP.draw (G_ok _ _ _ _) rfl [0, 0, 0, 6, 14, 0, 0, 96, 224, 511, 1023, 2047] [9, 1, 1, 1] rfl rfl ?_ | refine AWP.draw (G_ok _ _ _ _) rfl [0, 0, 0, 0, 12, 30, 62, 0, 0, 384, 896, 2047, 4095, 8191] [11, 1, 1, 1] rfl rfl ?_ | refine AWP.block ?_ | refine AWP.cond rfl ?_ | refine AWP.ret ?_ | refine AWP.skip ?_ | refine AWP.exit ?_ | refine AWP.label ?_ | refine AWP.goto ?_ | (refine Br (fun h => ?_) (fun h => ?_) <;> try (exfalso; simp only [decide_eq_true_eq, decide_eq_false_iff_not, beq_iff_eq, beq_eq_false_iff_ne, bne_iff_ne, bne_eq_false_iff_eq, ne_eq, List.length_map, List.length_append, List.length_cons, List.length_nil] at *; omega)))
    all_goals (try conv => whnf)
    · rename_i h3
      simp at h h3
      have hr := ih (X1.length + Y1.length) (by omega) A X1 Y1 (X2 ++ Y2 ++ D) rfl (fit2 X1 Y1 (fun z hz => by simp at hz ⊢; rcases hz with hz | hz <;> simp [hz])) uX1 uY1 (by omega) (by omega) (by simp only [List.length_append]; omega) a q mid ea (by omega) (by omega)
      refine ⟨[0], [.xs 0 none, iv a, iv q, iv mid, fnv 48], [.row 6 (enR (A ++ X1 ++ Y1 ++ (X2 ++ Y2 ++ D)))], .tup [], [.row 6 (enR (A ++ mrg cmp X1 Y1 ++ (X2 ++ Y2 ++ D)))], ⟨rfl, rfl, rfl, ⟨rfl, trivial⟩, rfl, rfl, rfl, rfl, rfl⟩, hr, ?_⟩
      repeat' ((try conv => whnf); with_reducible first | refine AWP.seq ?_ | refine AWP.region (G_ok _ _ _ _) rfl ?_ | refine AWP.draw (G_ok _ _ _ _) rfl [0, 0, 0, 6, 14, 0, 0, 96, 224, 511, 1023] [9, 1, 1] rfl rfl ?_ | refine AWP.draw (G_ok _ _ _ _) rfl [0, 0, 0, 0, 8, 0, 0, 64, 224, 480, 0, 0, 3072, 7168, 16355, 32739, 65535, 131071] [16, 1, 1] rfl rfl ?_ | refine AWP.draw (G_ok _ _ _ _) rfl [0, 0, 0, 6, 14, 0, 0, 96, 224, 511, 1023, 2047] [9, 1, 1, 1] rfl rfl ?_ | refine AWP.draw (G_ok _ _ _ _) rfl [0, 0, 0, 0, 12, 30, 62, 0, 0, 384, 896, 2047, 4095, 8191] [11, 1, 1, 1] rfl rfl ?_ | refine AWP.block ?_ | refine AWP.cond rfl ?_ | refine AWP.ret ?_ | refine AWP.skip ?_ | refine AWP.exit ?_ | refine AWP.label ?_ | refine AWP.goto ?_ | (refine Br (fun h => ?_) (fun h => ?_) <;> try (exfalso; simp only [decide_eq_true_eq, decide_eq_false_iff_not, beq_iff_eq, beq_eq_false_iff_ne, bne_iff_ne, bne_eq_false_iff_eq, ne_eq, List.length_map, List.length_append, List.length_cons, List.length_nil] at *; omega)))
      all_goals (try conv => whnf)
      exact ⟨⟨rfl, rfl, rfl, rfl, rfl, trivial⟩, ⟨rfl, trivial⟩⟩
    · rename_i h3
      simp at h h3
      have e1 : Y1 = [] := List.length_eq_zero_iff.1 (by omega)
      refine ⟨⟨rfl, rfl, rfl, rfl, rfl, trivial⟩, ⟨?_, trivial⟩⟩
      show some (Row.row 6 (enR (A ++ X1 ++ Y1 ++ (X2 ++ Y2 ++ D)))) = some (Row.row 6 (enR (A ++ mrg cmp X1 Y1 ++ (X2 ++ Y2 ++ D))))
      rw [e1, mrg_nil2]; simp
    · simp at h
      have e1 : X1 = [] := List.length_eq_zero_iff.1 (by omega)
      refine ⟨⟨rfl, rfl, rfl, rfl, rfl, trivial⟩, ⟨?_, trivial⟩⟩
      show some (Row.row 6 (enR (A ++ X1 ++ Y1 ++ (X2 ++ Y2 ++ D)))) = some (Row.row 6 (enR (A ++ mrg cmp X1 Y1 ++ (X2 ++ Y2 ++ D))))
      rw [e1, mrg_nil]; simp
  clear hst
  rintro st hst
  obtain ⟨f, H, rfl⟩ := hst.canon
  repeat' ((try conv => whnf); with_reducible first | refine AWP.seq ?_ | refine AWP.region (G_ok _ _ _ _) rfl ?_ | refine AWP.draw (G_ok _ _ _ _) rfl [0, 0, 0, 6, 14, 0, 0, 96, 224, 511, 1023] [9, 1, 1] rfl rfl ?_ | refine AWP.draw (G_ok _ _ _ _) rfl [0, 0, 0, 0, 8, 0, 0, 64, 224, 480, 0, 0, 3072, 7168, 16355, 32739, 65535, 131071] [16, 1, 1] rfl rfl ?_ | refine AWP.draw (G_ok _ _ _ _) rfl [0, 0, 0, 6, 14, 0, 0, 96, 224, 511, 1023, 2047] [9, 1, 1, 1] rfl rfl ?_ | refine AWP.draw (G_ok _ _ _ _) rfl [0, 0, 0, 0, 12, 30, 62, 0, 0, 384, 896, 2047, 4095, 8191] [11, 1, 1, 1] rfl rfl ?_ | refine AWP.block ?_ | refine AWP.cond rfl ?_ | refine AWP.ret ?_ | refine AWP.skip ?_ | refine AWP.exit ?_ | refine AWP.label ?_ | refine AWP.goto ?_ | (refine Br (fun h => ?_) (fun h => ?_) <;> try (exfalso; simp only [decide_eq_true_eq, decide_eq_false_iff_not, beq_iff_eq, beq_eq_false_iff_ne, bne_iff_ne, bne_eq_false_iff_eq, ne_eq, List.length_map, List.length_append, List.length_cons, List.length_nil] at *; omega)))
  all_goals (try conv => whnf)
  · rename_i h3
    simp at h h3
    have hr := ih (X2.length + Y2.length) (by omega) (A ++ mrg cmp X1 Y1) X2 Y2 D rfl (fit2 X2 Y2 (fun z hz => by simp at hz ⊢; rcases hz with hz | hz <;> simp [hz])) uX2 uY2 (by omega) (by omega) (by simp only [List.length_append, lm]; omega) mid e b (by rw [List.length_append, lm]; omega) (by rw [List.length_append, lm]; omega) (by rw [List.length_append, lm]; omega)
    refine ⟨[0], [.xs 0 none, iv mid, iv e, iv b, fnv 48], [.row 6 (enR (A ++ mrg cmp X1 Y1 ++ X2 ++ Y2 ++ D))], .tup [], [.row 6 (enR (A ++ mrg cmp X1 Y1 ++ mrg cmp X2 Y2 ++ D))], ⟨rfl, rfl, rfl, ⟨?_, trivial⟩, rfl, rfl, rfl, rfl, rfl⟩, hr, ?_⟩
    · show some (Row.row 6 (enR (A ++ mrg cmp X1 Y1 ++ (X2 ++ Y2 ++ D)))) = some (Row.row 6 (enR (A ++ mrg cmp X1 Y1 ++ X2 ++ Y2 ++ D)))
      simp only [List.append_assoc]
    repeat' ((try conv => whnf); with_reducible first | refine AWP.seq ?_ | refine AWP.region (G_ok _ _ _ _) rfl ?_ | refine AWP.draw (G_ok _ _ _ _) rfl [0, 0, 0, 6, 14, 0, 0, 96, 224, 511, 1023] [9, 1, 1] rfl rfl ?_ | refine AWP.draw (G_ok _ _ _ _) rfl [0, 0, 0, 0, 8, 0, 0, 64, 224, 480, 0, 0, 3072, 7168, 16355, 32739, 65535, 131071] [16, 1, 1] rfl rfl ?_ | refine AWP.draw (G_ok _ _ _ _) rfl [0, 0, 0, 6, 14, 0, 0, 96, 224, 511, 1023, 2047] [9, 1, 1, 1] rfl rfl ?_ | refine AWP.draw (G_ok _ _ _ _) rfl [0, 0, 0, 0, 12, 30, 62, 0, 0, 384, 896, 2047, 4095, 8191] [11, 1, 1, 1] rfl rfl ?_ | refine AWP.block ?_ | refine AWP.cond rfl ?_ | refine AWP.ret ?_ | refine AWP.skip ?_ | refine AWP.exit ?_ | refine AWP.label ?_ | refine AWP.goto ?_ | (refine Br (fun h => ?_) (fun h => ?_) <;> try (exfalso; simp only [decide_eq_true_eq, decide_eq_false_iff_not, beq_iff_eq, beq_eq_false_iff_ne, bne_iff_ne, bne_eq_false_iff_eq, ne_eq, List.length_map, List.length_append, List.length_cons, List.length_nil] at *; omega)))
    all_goals (try conv => whnf)
    refine handsRowN rfl ?_ rfl
    rw [hcut]; simp only [List.append_assoc]
  · rename_i h3
    simp at h h3
    have e1 : Y2 = [] := List.length_eq_zero_iff.1 (by omega)
    refine handsRowN rfl ?_ rfl
    rw [hcut, e1, mrg_nil2]; simp only [List.append_assoc, List.append_nil, List.nil_append]
  · simp at h
    have e1 : X2 = [] := List.length_eq_zero_iff.1 (by omega)
    refine handsRowN rfl ?_ rfl
    rw [hcut, e1, mrg_nil]; simp only [List.append_assoc, List.append_nil, List.nil_append]

theorem sym_ok (cmp : Tm → Tm → Int) (hG : Goes cmp) (hR : ∀ a, ¬ cmp a a < 0) (A X Y D : List Tm) (hg : ∀ x ∈ X ++ Y, ∀ y ∈ X ++ Y, Snd 48 [x.pv, y.pv] [iv (cmp x y)]) (hX : Up cmp X) (hY : Up cmp Y)
    (hx0 : 0 < X.length) (hy0 : 0 < Y.length) (hl : A.length + X.length + Y.length + D.length ≤ 1000000) (a m b : Nat) (ea : a = A.length) (em : m = A.length + X.length) (eb : b = A.length + X.length + Y.length) :
    SoundAt Try.prog 102 [.xs 0 none, iv a, iv m, iv b, fnv 48] [.row 6 (enR (A ++ X ++ Y ++ D))] (tupOf []) [.row 6 (enR (A ++ mrg cmp X Y ++ D))] :=
  sym_all cmp hG hR _ A X Y D rfl hg hX hY hx0 hy0 hl a m b ea em eb

end Go.Vai

/- Sorting, stably. No condition. -/
namespace Go.Vai
open Go.Proofs

/-- Blocks of so many, each sorted. -/
def blocks (cmp : Tm → Tm → Int) (bs : Nat) (S : List Tm) : List Tm :=
  if _h : S.length ≤ bs ∨ bs = 0 then isort cmp S else isort cmp (S.take bs) ++ blocks cmp bs (S.drop bs)
termination_by S.length
decreasing_by simp; omega
theorem blocks_few {cmp : Tm → Tm → Int} {bs : Nat} {S : List Tm} (h : S.length ≤ bs) : blocks cmp bs S = isort cmp S := by rw [blocks, dif_pos (.inl h)]
theorem blocks_step {cmp : Tm → Tm → Int} {bs : Nat} {S : List Tm} (h0 : 0 < bs) (h : bs ≤ S.length) : blocks cmp bs S = isort cmp (S.take bs) ++ blocks cmp bs (S.drop bs) := by
  rcases Nat.lt_or_ge bs S.length with h1 | h1
  · rw [blocks, dif_neg (by omega)]
  · have : bs = S.length := by omega
    subst this
    rw [blocks_few (Nat.le_refl _), List.take_length, List.drop_length, blocks_few (by simp)]
    simp [isort, isortAcc]
theorem blocks_length {cmp : Tm → Tm → Int} {bs : Nat} (n : Nat) : ∀ S : List Tm, S.length = n → (blocks cmp bs S).length = S.length := by
  induction n using Nat.strongRecOn with
  | _ n ih =>
    intro S hS
    rw [blocks]; split
    · rw [isort_length]
    · rename_i h
      rw [List.length_append, isort_length, ih (S.drop bs).length (by simp; omega) _ rfl]
      simp; omega
theorem blocks_mem {cmp : Tm → Tm → Int} {bs : Nat} {y : Tm} (n : Nat) : ∀ S : List Tm, S.length = n → (y ∈ blocks cmp bs S → y ∈ S) := by
  induction n using Nat.strongRecOn with
  | _ n ih =>
    intro S hS hy
    rw [blocks] at hy; split at hy
    · exact (isort_mem cmp y S).1 hy
    · rename_i h
      rcases List.mem_append.1 hy with hy | hy
      · exact List.mem_of_mem_take ((isort_mem cmp y _).1 hy)
      · exact List.mem_of_mem_drop (ih (S.drop bs).length (by simp; omega) _ rfl hy)

set_option maxHeartbeats 8000000 in
theorem stable_ok (cmp : Tm → Tm → Int) (hG : Goes cmp) (hA : ∀ a b, cmp a b < 0 → ¬ cmp b a < 0) (S : List Tm) (hg : ∀ x ∈ S, ∀ y ∈ S, Snd 48 [x.pv, y.pv] [iv (cmp x y)]) (hl : S.length ≤ 1000000) :
    StableOk 48 cmp S := by
  have hR : ∀ a, ¬ cmp a a < 0 := fun a h => hA a a h h
  have hU : ∀ l : List Tm, Up cmp (isort cmp l) := fun l => isort_up hG hA _ l rfl
  have hM : ∀ X Y : List Tm, isort cmp (X ++ Y) = mrg cmp (isort cmp X) (isort cmp Y) := fun X Y => isort_append hG hA X _ Y rfl
  unfold StableOk
  refine sound_fn (Γ := G 63 (fun k => Nat.beq k 101 || Nat.beq k 102) (fun _ => false) (fun _ => false)) (G_ok _ _ _ _) false Try.func81 rfl (by decide) rfl (Nat.le_of_ble_eq_true rfl) (Nat.le_refl _) (Nat.le_of_ble_eq_true rfl) (fun k hk => by cases hk) ?_
  repeat' ((try conv => whnf); with_reducible first | refine AWP.seq ?_ | refine AWP.region (G_ok _ _ _ _) rfl ?_ | refine AWP.block ?_ | refine AWP.cond rfl ?_ | refine AWP.ret ?_ | refine AWP.skip ?_ | refine AWP.exit ?_ | refine AWP.label ?_ | refine AWP.goto ?_ | refine Br (fun h => ?_) (fun h => ?_))
  all_goals (try conv => whnf)
  refine AWP.loop (fun m st => ∃ X Q : List Tm, m = Q.length ∧ X.length + Q.length = S.length ∧ (∀ x ∈ Q, x ∈ S) ∧ X ++ blocks cmp 20 Q = blocks cmp 20 S ∧ Has st [(0, .xs 0 none), (1, iv S.length), (2, fnv 48), (6, iv 20), (7, iv X.length), (8, iv ((X.length + 20 : Nat) : Int))] [(0, .row 6 (enR (X ++ Q)))]) S.length ?_ ?_
  · exact ⟨[], S, rfl, by simp, fun _ h => h, rfl, ⟨rfl, rfl, rfl, rfl, rfl, rfl, trivial⟩, ⟨rfl, trivial⟩⟩
  rintro m st ⟨X, Q, rfl, hlen, hmem, hb, hst⟩
  obtain ⟨f, H, rfl⟩ := hst.canon
  repeat' ((try conv => whnf); with_reducible first | refine AWP.seq ?_ | refine AWP.region (G_ok _ _ _ _) rfl ?_ | refine AWP.block ?_ | refine AWP.cond rfl ?_ | refine AWP.ret ?_ | refine AWP.skip ?_ | refine AWP.exit ?_ | refine AWP.label ?_ | refine AWP.goto ?_ | (refine Br (fun h => ?_) (fun h => ?_) <;> try (exfalso; simp only [decide_eq_true_eq, decide_eq_false_iff_not, beq_iff_eq, beq_eq_false_iff_ne, bne_iff_ne, bne_eq_false_iff_eq, ne_eq, List.length_map, List.length_append, List.length_cons, List.length_nil] at *; omega)))
  all_goals (try conv => whnf)
  · simp at h
    have htd : X ++ Q.take 20 ++ Q.drop 20 = X ++ Q := by rw [List.append_assoc, List.take_append_drop]
    have hi := insertion_ok 48 cmp X (Q.take 20) (Q.drop 20) (fun x hx y hy => hg x (hmem x (List.mem_of_mem_take hx)) y (hmem y (List.mem_of_mem_take hy))) (by simp; omega)
    have e20 : (Q.take 20).length = 20 := by simp; omega
    rw [e20, htd] at hi
    refine ⟨[0], [.xs 0 none, iv X.length, iv (X.length + 20 : Nat), fnv 48], [.row 6 (enR (X ++ Q))], .tup [], [.row 6 (enR (X ++ isort cmp (Q.take 20) ++ Q.drop 20))], ⟨rfl, rfl, rfl, ⟨rfl, trivial⟩, rfl, rfl, rfl, rfl, rfl⟩, hi, ?_⟩
    repeat' ((try conv => whnf); with_reducible first | refine AWP.seq ?_ | refine AWP.region (G_ok _ _ _ _) rfl ?_ | refine AWP.block ?_ | refine AWP.cond rfl ?_ | refine AWP.ret ?_ | refine AWP.skip ?_ | refine AWP.exit ?_ | refine AWP.label ?_ | refine AWP.goto ?_ | (refine Br (fun h => ?_) (fun h => ?_) <;> try (exfalso; simp only [decide_eq_true_eq, decide_eq_false_iff_not, beq_iff_eq, beq_eq_false_iff_ne, bne_iff_ne, bne_eq_false_iff_eq, ne_eq, List.length_map, List.length_append, List.length_cons, List.length_nil] at *; omega)))
    all_goals (try conv => whnf)
    have el : (X ++ isort cmp (Q.take 20)).length = X.length + 20 := by rw [List.length_append, isort_length, e20]
    refine ⟨(Q.drop 20).length, by simp; omega, X ++ isort cmp (Q.take 20), Q.drop 20, rfl, by rw [el]; simp; omega, fun x hx => hmem x (List.mem_of_mem_drop hx), ?_, ⟨rfl, rfl, rfl, rfl, ?_, ?_, trivial⟩, ⟨rfl, trivial⟩⟩
    · rw [← hb, blocks_step (by omega) (show 20 ≤ Q.length by omega), List.append_assoc]
    · show iv ((X.length + 20 : Nat) : Int) = _
      rw [el]
    · show PV.s (.int .i64 (IntKind.i64.wrap (((X.length + 20 : Nat) : Int) + 20))) = _
      rw [el]
      have := w_add (a := X.length + 20) (b := 20) (by omega)
      rw [show (((20 : Nat) : Int)) = 20 from rfl] at this
      rw [this]
  · simp at h
    have hi := insertion_ok 48 cmp X Q [] (fun x hx y hy => hg x (hmem x hx) y (hmem y hy)) (by simp; omega)
    rw [hlen] at hi
    simp only [List.append_nil] at hi
    refine ⟨[0], [.xs 0 none, iv X.length, iv S.length, fnv 48], [.row 6 (enR (X ++ Q))], .tup [], [.row 6 (enR (X ++ isort cmp Q))], ⟨rfl, rfl, rfl, ⟨rfl, trivial⟩, rfl, rfl, rfl, rfl, rfl⟩, hi, ?_⟩
    rw [← blocks_few (cmp := cmp) (bs := 20) (S := Q) (by omega), hb]
    repeat' ((try conv => whnf); with_reducible first | refine AWP.seq ?_ | refine AWP.region (G_ok _ _ _ _) rfl ?_ | refine AWP.block ?_ | refine AWP.cond rfl ?_ | refine AWP.ret ?_ | refine AWP.skip ?_ | refine AWP.exit ?_ | refine AWP.label ?_ | refine AWP.goto ?_ | (refine Br (fun h => ?_) (fun h => ?_) <;> try (exfalso; simp only [decide_eq_true_eq, decide_eq_false_iff_not, beq_iff_eq, beq_eq_false_iff_ne, bne_iff_ne, bne_eq_false_iff_eq, ne_eq, List.length_map, List.length_append, List.length_cons, List.length_nil] at *; omega)))
    all_goals (try conv => whnf)
    clear hi hb hst hlen hmem h
    refine AWP.loop (fun m st => ∃ bs : Nat, m = S.length - bs ∧ 0 < bs ∧ Has st [(0, .xs 0 none), (1, iv S.length), (2, fnv 48), (6, iv bs)] [(0, .row 6 (enR (blocks cmp bs S)))]) (S.length - 20) ?_ ?_
    · exact ⟨20, rfl, by omega, ⟨rfl, rfl, rfl, rfl, trivial⟩, ⟨rfl, trivial⟩⟩
    rintro m st ⟨bs, rfl, hbs, hst⟩
    obtain ⟨f, H, rfl⟩ := hst.canon
    have hw2 : bs < S.length → IntKind.i64.wrap (2 * (bs : Int)) = ((2 * bs : Nat) : Int) := fun h => (i64_of (by omega) (by omega)).trans (by omega)
    repeat' ((try conv => whnf); with_reducible first | refine AWP.seq ?_ | refine AWP.region (G_ok _ _ _ _) rfl ?_ | refine AWP.block ?_ | refine AWP.cond rfl ?_ | refine AWP.ret ?_ | refine AWP.skip ?_ | refine AWP.exit ?_ | refine AWP.label ?_ | refine AWP.goto ?_ | (refine Br (fun h => ?_) (fun h => ?_) <;> try (exfalso; simp only [decide_eq_true_eq, decide_eq_false_iff_not, beq_iff_eq, beq_eq_false_iff_ne, bne_iff_ne, bne_eq_false_iff_eq, ne_eq, List.length_map, List.length_append, List.length_cons, List.length_nil] at *; omega)))
    all_goals (try conv => whnf)
    · simp at h
      have hbn : bs < S.length := by omega
      have h2 := hw2 hbn
      refine AWP.loop (fun m st => ∃ X Q : List Tm, m = Q.length ∧ X.length + Q.length = S.length ∧ (∀ x ∈ Q, x ∈ S) ∧ X ++ blocks cmp (2 * bs) Q = blocks cmp (2 * bs) S ∧ Has st [(0, .xs 0 none), (1, iv S.length), (2, fnv 48), (6, iv bs), (7, iv X.length), (8, iv ((X.length + 2 * bs : Nat) : Int))] [(0, .row 6 (enR (X ++ blocks cmp bs Q)))]) S.length ?_ ?_
      · refine ⟨[], S, rfl, by simp, fun _ h => h, rfl, ⟨rfl, rfl, rfl, rfl, rfl, ?_, trivial⟩, ⟨rfl, trivial⟩⟩
        show PV.s (.int .i64 (IntKind.i64.wrap (2 * (bs : Int)))) = _
        rw [h2]; simp
      rintro m st ⟨X, Q, rfl, hlen, hmem, hb, hst⟩
      obtain ⟨f, H, rfl⟩ := hst.canon
      repeat' ((try conv => whnf); with_reducible first | refine AWP.seq ?_ | refine AWP.region (G_ok _ _ _ _) rfl ?_ | refine AWP.block ?_ | refine AWP.cond rfl ?_ | refine AWP.ret ?_ | refine AWP.skip ?_ | refine AWP.exit ?_ | refine AWP.label ?_ | refine AWP.goto ?_ | (refine Br (fun h => ?_) (fun h => ?_) <;> try (exfalso; simp only [decide_eq_true_eq, decide_eq_false_iff_not, beq_iff_eq, beq_eq_false_iff_ne, bne_iff_ne, bne_eq_false_iff_eq, ne_eq, List.length_map, List.length_append, List.length_cons, List.length_nil] at *; omega)))
      all_goals (try conv => whnf)
      · simp at h
        have hq : 2 * bs ≤ Q.length := by omega
        have e1 : (Q.take bs).length = bs := by simp; omega
        have e2 : ((Q.drop bs).take bs).length = bs := by simp; omega
        have ed : (Q.drop bs).drop bs = Q.drop (2 * bs) := by rw [List.drop_drop]; congr 1; omega
        have et : Q.take (2 * bs) = Q.take bs ++ (Q.drop bs).take bs := by rw [show 2 * bs = bs + bs by omega, List.take_add]
        have hs := sym_ok cmp hG hR X (isort cmp (Q.take bs)) (isort cmp ((Q.drop bs).take bs)) (blocks cmp bs (Q.drop (2 * bs))) (fun x hx y hy => by
            have hin : ∀ z, z ∈ isort cmp (Q.take bs) ++ isort cmp ((Q.drop bs).take bs) → z ∈ S := fun z hz => by
              rcases List.mem_append.1 hz with hz | hz
              · exact hmem z (List.mem_of_mem_take ((isort_mem cmp z _).1 hz))
              · exact hmem z (List.mem_of_mem_drop (List.mem_of_mem_take ((isort_mem cmp z _).1 hz)))
            exact hg x (hin x hx) y (hin y hy)) (hU _) (hU _) (by rw [isort_length, e1]; exact hbs) (by rw [isort_length, e2]; exact hbs) (by rw [isort_length, isort_length, blocks_length _ _ rfl, e1, e2]; simp; omega)
          X.length (X.length + bs) (X.length + 2 * bs) rfl (by rw [isort_length, e1]) (by rw [isort_length, isort_length, e1, e2]; omega)
        rw [← hM, ← et] at hs
        have erow : X ++ isort cmp (Q.take bs) ++ isort cmp ((Q.drop bs).take bs) ++ blocks cmp bs (Q.drop (2 * bs)) = X ++ blocks cmp bs Q := by
          rw [blocks_step hbs (show bs ≤ Q.length by omega), blocks_step hbs (show bs ≤ (Q.drop bs).length by simp; omega), ed]
          simp only [List.append_assoc]
        rw [erow] at hs
        refine ⟨[0], [.xs 0 none, iv X.length, iv (X.length + bs : Nat), iv (X.length + 2 * bs : Nat), fnv 48], [.row 6 (enR (X ++ blocks cmp bs Q))], .tup [], [.row 6 (enR (X ++ isort cmp (Q.take (2 * bs)) ++ blocks cmp bs (Q.drop (2 * bs))))], ⟨?_, rfl, rfl, ⟨rfl, trivial⟩, rfl, rfl, rfl, rfl, rfl⟩, hs, ?_⟩
        · show [_, _, PV.s (.int .i64 (IntKind.i64.wrap ((X.length : Int) + bs))), _, _] = _
          rw [w_add (by omega)]; rfl
        repeat' ((try conv => whnf); with_reducible first | refine AWP.seq ?_ | refine AWP.region (G_ok _ _ _ _) rfl ?_ | refine AWP.block ?_ | refine AWP.cond rfl ?_ | refine AWP.ret ?_ | refine AWP.skip ?_ | refine AWP.exit ?_ | refine AWP.label ?_ | refine AWP.goto ?_ | (refine Br (fun h => ?_) (fun h => ?_) <;> try (exfalso; simp only [decide_eq_true_eq, decide_eq_false_iff_not, beq_iff_eq, beq_eq_false_iff_ne, bne_iff_ne, bne_eq_false_iff_eq, ne_eq, List.length_map, List.length_append, List.length_cons, List.length_nil] at *; omega)))
        all_goals (try conv => whnf)
        have e3 : (Q.take (2 * bs)).length = 2 * bs := by simp; omega
        have el : (X ++ isort cmp (Q.take (2 * bs))).length = X.length + 2 * bs := by rw [List.length_append, isort_length, e3]
        refine ⟨(Q.drop (2 * bs)).length, by simp; omega, X ++ isort cmp (Q.take (2 * bs)), Q.drop (2 * bs), rfl, by rw [el]; simp; omega, fun x hx => hmem x (List.mem_of_mem_drop hx), ?_, ⟨rfl, rfl, rfl, rfl, ?_, ?_, trivial⟩, ⟨rfl, trivial⟩⟩
        · rw [← hb, blocks_step (show 0 < 2 * bs by omega) hq, List.append_assoc]
        · show iv ((X.length + 2 * bs : Nat) : Int) = _
          rw [el]
        · show PV.s (.int .i64 (IntKind.i64.wrap (((X.length + 2 * bs : Nat) : Int) + IntKind.i64.wrap (2 * (bs : Int))))) = _
          rw [el, h2, w_add (by omega)]
      · -- the last, which may be shorter
        simp at h
        rename_i h1
        simp at h1
        have hq1 : bs < Q.length := by
          have := w_add (a := X.length) (b := bs) (by omega)
          omega
        have e1 : (Q.take bs).length = bs := by simp; omega
        have hs := sym_ok cmp hG hR X (isort cmp (Q.take bs)) (isort cmp (Q.drop bs)) [] (fun x hx y hy => by
            have hin : ∀ z, z ∈ isort cmp (Q.take bs) ++ isort cmp (Q.drop bs) → z ∈ S := fun z hz => by
              rcases List.mem_append.1 hz with hz | hz
              · exact hmem z (List.mem_of_mem_take ((isort_mem cmp z _).1 hz))
              · exact hmem z (List.mem_of_mem_drop ((isort_mem cmp z _).1 hz))
            exact hg x (hin x hx) y (hin y hy)) (hU _) (hU _) (by rw [isort_length, e1]; exact hbs) (by rw [isort_length]; simp; omega) (by rw [isort_length, isort_length, e1]; simp; omega)
          X.length (X.length + bs) S.length rfl (by rw [isort_length, e1]) (by rw [isort_length, isort_length, e1]; simp; omega)
        rw [← hM, List.take_append_drop] at hs
        have erow : X ++ isort cmp (Q.take bs) ++ isort cmp (Q.drop bs) ++ [] = X ++ blocks cmp bs Q := by
          rw [blocks_step hbs (show bs ≤ Q.length by omega), blocks_few (S := Q.drop bs) (by simp; omega)]
          simp only [List.append_assoc, List.append_nil]
        rw [erow, List.append_nil] at hs
        refine ⟨[0], [.xs 0 none, iv X.length, iv (X.length + bs : Nat), iv S.length, fnv 48], [.row 6 (enR (X ++ blocks cmp bs Q))], .tup [], [.row 6 (enR (X ++ isort cmp Q))], ⟨?_, rfl, rfl, ⟨rfl, trivial⟩, rfl, rfl, rfl, rfl, rfl⟩, hs, ?_⟩
        · show [_, _, PV.s (.int .i64 (IntKind.i64.wrap ((X.length : Int) + bs))), _, _] = _
          rw [w_add (by omega)]; rfl
        repeat' ((try conv => whnf); with_reducible first | refine AWP.seq ?_ | refine AWP.region (G_ok _ _ _ _) rfl ?_ | refine AWP.block ?_ | refine AWP.cond rfl ?_ | refine AWP.ret ?_ | refine AWP.skip ?_ | refine AWP.exit ?_ | refine AWP.label ?_ | refine AWP.goto ?_ | (refine Br (fun h => ?_) (fun h => ?_) <;> try (exfalso; simp only [decide_eq_true_eq, decide_eq_false_iff_not, beq_iff_eq, beq_eq_false_iff_ne, bne_iff_ne, bne_eq_false_iff_eq, ne_eq, List.length_map, List.length_append, List.length_cons, List.length_nil] at *; omega)))
        all_goals (try conv => whnf)
        refine ⟨S.length - 2 * bs, by omega, 2 * bs, rfl, by omega, ⟨rfl, rfl, rfl, ?_, trivial⟩, ⟨?_, trivial⟩⟩
        · show PV.s (.int .i64 (IntKind.i64.wrap ((bs : Int) * 2))) = _
          rw [Int.mul_comm, h2]
        · show some (Row.row 6 (enR (X ++ isort cmp Q))) = _
          rw [← hb, blocks_few (show Q.length ≤ 2 * bs by omega)]
      · simp at h
        rename_i h1
        simp at h1
        have hq1 : Q.length ≤ bs := by
          have := w_add (a := X.length) (b := bs) (by omega)
          omega
        refine ⟨S.length - 2 * bs, by omega, 2 * bs, rfl, by omega, ⟨rfl, rfl, rfl, ?_, trivial⟩, ⟨?_, trivial⟩⟩
        · show PV.s (.int .i64 (IntKind.i64.wrap ((bs : Int) * 2))) = _
          rw [Int.mul_comm, h2]
        · show some (Row.row 6 (enR (X ++ blocks cmp bs Q))) = _
          rw [← hb, blocks_few (show Q.length ≤ 2 * bs by omega), blocks_few hq1]
    · simp at h
      refine handsRowN rfl ?_ rfl
      rw [blocks_few (by omega)]

end Go.Vai

/- The reference's Like and Same. No condition. -/
namespace Go.Vai
open Go.Proofs

theorem refLike_ok (a b : Tm) (ha : a.Fit) (hb : b.Fit) : Snd 45 [a.pv, b.pv] [bv (likeT a b)] := by
  refine sound_pure (Γ := G 75 (fun _ => false) (fun _ => false) (fun _ => false)) (G_ok _ _ _ _) Try.func45 rfl (by decide) rfl rfl rfl ?_
  repeat' ((try conv => whnf); with_reducible first | refine AWP.seq ?_ | refine AWP.region (G_ok _ _ _ _) rfl ?_ | refine AWP.draw (G_ok _ _ _ _) rfl [0, 1, 0, 7, 15, 0, 32, 0, 224, 480, 1023, 2047] [10, 1, 1] rfl rfl ?_ | refine AWP.block ?_ | refine AWP.cond rfl ?_ | refine AWP.ret ?_ | refine AWP.skip ?_ | refine AWP.exit ?_ | refine AWP.label ?_ | refine AWP.goto ?_ | (refine Br (fun h => ?_) (fun h => ?_) <;> try (exfalso; simp only [decide_eq_true_eq, decide_eq_false_iff_not, beq_iff_eq, beq_eq_false_iff_ne, bne_iff_ne, bne_eq_false_iff_eq, ne_eq, List.length_map, List.length_append, List.length_cons, List.length_nil] at *; omega)))
  all_goals (try conv => whnf)
  · refine finB rfl ?_; rw [likeT_eq]; simp only [decide_eq_true_eq, decide_eq_false_iff_not, beq_iff_eq, beq_eq_false_iff_ne, bne_iff_ne, bne_eq_false_iff_eq, Bool.not_eq_true', Bool.not_eq_false', ne_eq, List.length_map, List.length_append, List.length_cons, List.length_nil] at *; (repeat first | rw [if_pos (by omega)] | rw [if_neg (by omega)])
  · refine finB rfl ?_; rw [likeT_eq]; simp only [decide_eq_true_eq, decide_eq_false_iff_not, beq_iff_eq, beq_eq_false_iff_ne, bne_iff_ne, bne_eq_false_iff_eq, Bool.not_eq_true', Bool.not_eq_false', ne_eq, List.length_map, List.length_append, List.length_cons, List.length_nil] at *; (repeat first | rw [if_pos (by omega)] | rw [if_neg (by omega)])
  · refine finB rfl ?_; rw [likeT_eq]; simp only [decide_eq_true_eq, decide_eq_false_iff_not, beq_iff_eq, beq_eq_false_iff_ne, bne_iff_ne, bne_eq_false_iff_eq, Bool.not_eq_true', Bool.not_eq_false', ne_eq, List.length_map, List.length_append, List.length_cons, List.length_nil] at *; (repeat first | rw [if_pos (by omega)] | rw [if_neg (by omega)])
  · refine finB rfl ?_; rw [likeT_eq]; simp only [decide_eq_true_eq, decide_eq_false_iff_not, beq_iff_eq, beq_eq_false_iff_ne, bne_iff_ne, bne_eq_false_iff_eq, Bool.not_eq_true', Bool.not_eq_false', ne_eq, List.length_map, List.length_append, List.length_cons, List.length_nil] at *; (repeat first | rw [if_pos (by omega)] | rw [if_neg (by omega)])
  · have h9 := h
    refine finB rfl ?_; rw [likeT_eq]; simp only [decide_eq_true_eq, decide_eq_false_iff_not, beq_iff_eq, beq_eq_false_iff_ne, bne_iff_ne, bne_eq_false_iff_eq, Bool.not_eq_true', Bool.not_eq_false', ne_eq, List.length_map, List.length_append, List.length_cons, List.length_nil] at *; (repeat first | rw [if_pos (by omega)] | rw [if_neg (by omega)])
    rw [h9]; simp
  · have h9 := h
    refine finB rfl ?_; rw [likeT_eq]; simp only [decide_eq_true_eq, decide_eq_false_iff_not, beq_iff_eq, beq_eq_false_iff_ne, bne_iff_ne, bne_eq_false_iff_eq, Bool.not_eq_true', Bool.not_eq_false', ne_eq, List.length_map, List.length_append, List.length_cons, List.length_nil] at *; (repeat first | rw [if_pos (by omega)] | rw [if_neg (by omega)])
    simp [*]
  · have h9 := h
    simp at h9
    refine finB rfl ?_; rw [likeT_eq]; simp only [decide_eq_true_eq, decide_eq_false_iff_not, beq_iff_eq, beq_eq_false_iff_ne, bne_iff_ne, bne_eq_false_iff_eq, Bool.not_eq_true', Bool.not_eq_false', ne_eq, List.length_map, List.length_append, List.length_cons, List.length_nil] at *; (repeat first | rw [if_pos (by omega)] | rw [if_neg (by omega)])
    rw [if_pos (.inl (by simpa using h9))]
  · refine finB rfl ?_; rw [likeT_eq]; simp only [decide_eq_true_eq, decide_eq_false_iff_not, beq_iff_eq, beq_eq_false_iff_ne, bne_iff_ne, bne_eq_false_iff_eq, Bool.not_eq_true', Bool.not_eq_false', ne_eq, List.length_map, List.length_append, List.length_cons, List.length_nil] at *; (repeat first | rw [if_pos (by omega)] | rw [if_neg (by omega)])
  rename_i g0 g1 g2 g3 g4 g5
  have hlen : a.ts.length = b.ts.length := by simp only [decide_eq_true_eq, decide_eq_false_iff_not, beq_iff_eq, beq_eq_false_iff_ne, bne_iff_ne, bne_eq_false_iff_eq, Bool.not_eq_true', Bool.not_eq_false', ne_eq, List.length_map, List.length_append, List.length_cons, List.length_nil] at *; omega
  have heq : likeT a b = likeL a.ts b.ts := by
    simp at g0 g1 g2 g3 g4 g5
    rw [likeT_eq, if_neg (by simpa using g0), if_neg (by omega), if_neg g3, if_neg g4, if_neg (by simp [g5, hlen])]
  have hal := ha.len
  refine AWP.loop (fun m st => ∃ j : Nat, m = a.ts.length - j ∧ j ≤ a.ts.length ∧ Has st [(2, .ptr 102 0 0), (3, .ptr 103 0 0), (58, iv (a.ts.map Tm.enc).length), (59, iv j)] [(102, .cell a.cells), (103, .cell b.cells)] ∧ likeL (a.ts.drop j) (b.ts.drop j) = likeL a.ts b.ts) a.ts.length ⟨0, rfl, Nat.zero_le _, ⟨⟨rfl, rfl, rfl, rfl, trivial⟩, ⟨rfl, rfl, trivial⟩⟩, rfl⟩ ?_
  rintro m st ⟨j, rfl, hj, hst, hr⟩
  obtain ⟨f, H, rfl⟩ := hst.canon
  repeat' ((try conv => whnf); with_reducible first | refine AWP.seq ?_ | refine AWP.region (G_ok _ _ _ _) rfl ?_ | refine AWP.draw (G_ok _ _ _ _) rfl [0, 1, 0, 7, 15, 0, 32, 0, 224, 480, 1023, 2047] [10, 1, 1] rfl rfl ?_ | refine AWP.block ?_ | refine AWP.cond rfl ?_ | refine AWP.ret ?_ | refine AWP.skip ?_ | refine AWP.exit ?_ | refine AWP.label ?_ | refine AWP.goto ?_ | refine Br (fun h => ?_) (fun h => ?_))
  all_goals (try conv => whnf)
  · have hj2 : j < a.ts.length := by simpa using h
    have hj3 : j < b.ts.length := by omega
    have hd : a.ts.drop j = a.ts[j] :: a.ts.drop (j + 1) := List.drop_eq_getElem_cons hj2
    have hd2 : b.ts.drop j = b.ts[j] :: b.ts.drop (j + 1) := List.drop_eq_getElem_cons hj3
    rw [hd, hd2, likeL_cons] at hr
    have hmem : a.ts[j] ∈ a.ts := List.getElem_mem hj2
    have hmem2 : b.ts[j] ∈ b.ts := List.getElem_mem hj3
    refine ⟨by omega, (a.ts[j]).cells, by simp [hj2, Tm.enc_eq], ?_⟩
    repeat' ((try conv => whnf); with_reducible first | refine AWP.seq ?_ | refine AWP.region (G_ok _ _ _ _) rfl ?_ | refine AWP.draw (G_ok _ _ _ _) rfl [0, 1, 0, 7, 15, 0, 32, 0, 224, 480, 1023, 2047] [10, 1, 1] rfl rfl ?_ | refine AWP.block ?_ | refine AWP.cond rfl ?_ | refine AWP.ret ?_ | refine AWP.skip ?_ | refine AWP.exit ?_ | refine AWP.label ?_ | refine AWP.goto ?_ | refine Br (fun h => ?_) (fun h => ?_))
    all_goals (try conv => whnf)
    refine ⟨by omega, (b.ts[j]).cells, by simp [hj3, Tm.enc_eq], ?_⟩
    repeat' ((try conv => whnf); with_reducible first | refine AWP.seq ?_ | refine AWP.region (G_ok _ _ _ _) rfl ?_ | refine AWP.draw (G_ok _ _ _ _) rfl [0, 1, 0, 7, 15, 0, 32, 0, 224, 480, 1023, 2047] [10, 1, 1] rfl rfl ?_ | refine AWP.block ?_ | refine AWP.cond rfl ?_ | refine AWP.ret ?_ | refine AWP.skip ?_ | refine AWP.exit ?_ | refine AWP.label ?_ | refine AWP.goto ?_ | refine Br (fun h => ?_) (fun h => ?_))
    all_goals (try conv => whnf)
    refine ⟨_, _, refLike_ok a.ts[j] b.ts[j] (ha.arg _ hmem) (hb.arg _ hmem2), ?_⟩
    repeat' ((try conv => whnf); with_reducible first | refine AWP.seq ?_ | refine AWP.region (G_ok _ _ _ _) rfl ?_ | refine AWP.draw (G_ok _ _ _ _) rfl [0, 1, 0, 7, 15, 0, 32, 0, 224, 480, 1023, 2047] [10, 1, 1] rfl rfl ?_ | refine AWP.block ?_ | refine AWP.cond rfl ?_ | refine AWP.ret ?_ | refine AWP.skip ?_ | refine AWP.exit ?_ | refine AWP.label ?_ | refine AWP.goto ?_ | refine Br (fun h => ?_) (fun h => ?_))
    all_goals (try conv => whnf)
    · refine finB rfl ?_
      simp at h
      rw [heq, ← hr, h]; rfl
    · have hw : IntKind.i64.wrap ((j : Int) + 1) = ((j + 1 : Nat) : Int) := i64_of (by omega) (by omega)
      refine ⟨a.ts.length - (j + 1), by omega, j + 1, rfl, hj2, ⟨⟨rfl, rfl, rfl, by show PV.s (.int .i64 (IntKind.i64.wrap ((j : Int) + 1))) = _; rw [hw], trivial⟩, ⟨rfl, rfl, trivial⟩⟩, ?_⟩
      simp at h
      rw [← hr, if_pos h]
  · have hj2 : j = a.ts.length := by simp at h; omega
    refine finB rfl ?_
    rw [heq, ← hr, hj2, List.drop_eq_nil_of_le (Nat.le_refl _), List.drop_eq_nil_of_le (by omega)]
    simp [likeL]
termination_by a
decreasing_by exact Tm.size_lt hmem

def sameP (a b : Tm) : Bool := mayP a == 0 && mayP b == 0 && likeT a b
theorem refSame_ok (a b : Tm) (ha : a.Fit) (hb : b.Fit) : Snd 17 [a.pv, b.pv] [bv (sameP a b)] := by
  have ra := refMay_ok a ha
  have rb := refMay_ok b hb
  rw [mayP_ref] at ra rb
  refine sound_pure (Γ := G 18 (fun _ => false) (fun _ => false) (fun _ => false)) (G_ok _ _ _ _) Try.func17 rfl (by decide) rfl rfl rfl ?_
  repeat' ((try conv => whnf); with_reducible first | refine AWP.seq ?_ | refine AWP.region (G_ok _ _ _ _) rfl ?_ | refine AWP.block ?_ | refine AWP.cond rfl ?_ | refine AWP.ret ?_ | refine AWP.skip ?_ | refine AWP.exit ?_ | refine AWP.label ?_ | refine AWP.goto ?_ | refine Br (fun h => ?_) (fun h => ?_))
  refine ⟨_, _, ra, ?_⟩
  repeat' ((try conv => whnf); with_reducible first | refine AWP.seq ?_ | refine AWP.region (G_ok _ _ _ _) rfl ?_ | refine AWP.block ?_ | refine AWP.cond rfl ?_ | refine AWP.ret ?_ | refine AWP.skip ?_ | refine AWP.exit ?_ | refine AWP.label ?_ | refine AWP.goto ?_ | refine Br (fun h => ?_) (fun h => ?_))
  all_goals (try conv => whnf)
  · refine ⟨_, _, rb, ?_⟩
    repeat' ((try conv => whnf); with_reducible first | refine AWP.seq ?_ | refine AWP.region (G_ok _ _ _ _) rfl ?_ | refine AWP.block ?_ | refine AWP.cond rfl ?_ | refine AWP.ret ?_ | refine AWP.skip ?_ | refine AWP.exit ?_ | refine AWP.label ?_ | refine AWP.goto ?_ | refine Br (fun h => ?_) (fun h => ?_))
    all_goals (try conv => whnf)
    · refine ⟨_, _, refLike_ok a b ha hb, ?_⟩
      repeat' ((try conv => whnf); with_reducible first | refine AWP.seq ?_ | refine AWP.region (G_ok _ _ _ _) rfl ?_ | refine AWP.block ?_ | refine AWP.cond rfl ?_ | refine AWP.ret ?_ | refine AWP.skip ?_ | refine AWP.exit ?_ | refine AWP.label ?_ | refine AWP.goto ?_ | refine Br (fun h => ?_) (fun h => ?_))
      all_goals (try conv => whnf)
      refine finB rfl ?_
      unfold sameP
      simp at *
      simp [*]
    · refine finB rfl ?_
      unfold sameP
      simp at *
      simp [*]
  · refine finB rfl ?_
    unfold sameP
    simp at *
    simp [*]

end Go.Vai

/- How many nodes a term has, how deep it is. No condition. -/
namespace Go.Vai
open Go.Proofs

mutual
def depthT : Tm → Int
  | .mk k _ _ _ _ ts => if k = 5 then depthL ts 0 + 1 else 1
def depthL : List Tm → Int → Int
  | [], n => n
  | t :: r, n => depthL r (if n < depthT t then depthT t else n)
end
theorem depthT_eq (t : Tm) : depthT t = if t.k = 5 then depthL t.ts 0 + 1 else 1 := by cases t; rw [depthT]; rfl
theorem depthL_ge : ∀ (ts : List Tm) (n : Int), n ≤ depthL ts n ∧ ∀ t ∈ ts, depthT t ≤ depthL ts n
  | [], n => by simp [depthL]
  | u :: r, n => by
    have h := depthL_ge r (if n < depthT u then depthT u else n)
    rw [depthL]
    refine ⟨?_, fun t ht => ?_⟩
    · have := h.1; split at this <;> omega
    · rcases List.mem_cons.1 ht with rfl | ht
      · have := h.1; split at this <;> omega
      · exact h.2 t ht
theorem depthT_pos (t : Tm) : 1 ≤ depthT t := by
  rw [depthT_eq]; split
  · have := (depthL_ge t.ts 0).1; omega
  · omega
theorem depthT_arg {t u : Tm} (h5 : t.k = 5) (h : u ∈ t.ts) : depthT u + 1 ≤ depthT t := by
  rw [depthT_eq t, if_pos h5]
  have := (depthL_ge t.ts 0).2 u h; omega
theorem depthL_le {d : Int} : ∀ {ts : List Tm} {n : Int}, n ≤ d → (∀ t ∈ ts, depthT t ≤ d) → depthL ts n ≤ d
  | [], n, h, _ => by rw [depthL]; exact h
  | u :: r, n, h, hu => by
    rw [depthL]
    have := hu u (List.mem_cons_self ..)
    exact depthL_le (by split <;> omega) (fun t ht => hu t (List.mem_cons_of_mem _ ht))

mutual
def nodesT : Tm → Int
  | .mk k _ _ _ _ ts => if k = 5 then nodesL ts + 1 else 1
def nodesL : List Tm → Int
  | [] => 0
  | t :: r => nodesT t + nodesL r
end
theorem nodesT_eq (t : Tm) : nodesT t = if t.k = 5 then nodesL t.ts + 1 else 1 := by cases t; rw [nodesT]; rfl
mutual
theorem nodesT_pos : ∀ t : Tm, 1 ≤ nodesT t
  | .mk k _ _ _ _ ts => by
    rw [nodesT]; split
    · have := nodesL_pos ts; omega
    · omega
theorem nodesL_pos : ∀ ts : List Tm, 0 ≤ nodesL ts
  | [] => by simp [nodesL]
  | t :: r => by have := nodesT_pos t; have := nodesL_pos r; rw [nodesL]; omega
end

/-- Of such a form as terms may be of. -/
inductive Tm.Good : Tm → Prop where
  | mk (k : Int) (n : ByteArray) (i re im : Int) (ts : List Tm) (hb : ¬ badT (.mk k n i re im ts)) (hg : ¬ bigT (.mk k n i re im ts)) (h : k = 5 → ∀ t ∈ ts, Tm.Good t) : Tm.Good (.mk k n i re im ts)
theorem Tm.Good.bad {t : Tm} (h : t.Good) : ¬ badT t := by cases h; assumption
theorem Tm.Good.big {t : Tm} (h : t.Good) : ¬ bigT t := by cases h; assumption
theorem Tm.Good.arg {t : Tm} (h : t.Good) (h5 : t.k = 5) : ∀ u ∈ t.ts, u.Good := by cases h with | mk _ _ _ _ _ _ _ _ h => exact h h5

mutual
theorem walkT_good : ∀ (t : Tm) (d n : Int), t.Good → n + nodesT t ≤ 2000 → d + depthT t ≤ 501 → walkT t d (n, 0) = (n + nodesT t, 0)
  | .mk k nm i re im ts, d, n, hg, hn, hd => by
    have h1 := nodesT_pos (.mk k nm i re im ts)
    have h2 := depthT_pos (.mk k nm i re im ts)
    rw [walkT_eq, if_neg (by simp), if_neg (by simp only; omega), if_neg hg.bad, if_neg hg.big]
    by_cases h5 : (Tm.mk k nm i re im ts).k = 5
    · rw [if_pos h5]
      have e : nodesT (.mk k nm i re im ts) = nodesL ts + 1 := by rw [nodesT_eq, if_pos h5]; rfl
      rw [e] at hn ⊢
      have := walkL_good ts (d + 1) (n + 1) (hg.arg h5) (by omega) (fun u hu => by have := depthT_arg (t := .mk k nm i re im ts) h5 hu; omega)
      show walkL ts (d + 1) (n + 1, 0) = _
      rw [this, Prod.mk.injEq]
      exact ⟨by omega, rfl⟩
    · rw [if_neg h5]
      have e : nodesT (.mk k nm i re im ts) = 1 := by rw [nodesT_eq, if_neg h5]
      rw [e]
theorem walkL_good : ∀ (ts : List Tm) (d n : Int), (∀ t ∈ ts, t.Good) → n + nodesL ts ≤ 2000 → (∀ t ∈ ts, d + depthT t ≤ 501) → walkL ts d (n, 0) = (n + nodesL ts, 0)
  | [], d, n, _, _, _ => by simp [walkL, nodesL]
  | t :: r, d, n, hg, hn, hd => by
    rw [nodesL] at hn
    have := nodesL_pos r
    rw [walkL, walkT_good t d n (hg t (List.mem_cons_self ..)) (by omega) (hd t (List.mem_cons_self ..)), walkL_good r d _ (fun u hu => hg u (List.mem_cons_of_mem _ hu)) (by omega) (fun u hu => hd u (List.mem_cons_of_mem _ hu)), nodesL, Prod.mk.injEq]
    exact ⟨by omega, rfl⟩
end
mutual
theorem walkT_back : ∀ (t : Tm) (d : Int) (s : Int × Int), (walkT t d s).2 = 0 → s.2 = 0 ∧ t.Good ∧ (walkT t d s).1 = s.1 + nodesT t ∧ d + depthT t ≤ 501 ∧ s.1 + nodesT t ≤ 2000
  | .mk k nm i re im ts, d, s, h => by
    rw [walkT_eq] at h ⊢
    split at h
    · rename_i h1; exact absurd h h1
    rename_i h1
    have hs : s.2 = 0 := Classical.byContradiction h1
    split at h
    · cases h
    rename_i h2
    split at h
    · cases h
    rename_i hb
    split at h
    · cases h
    rename_i hg
    rw [if_neg h1, if_neg h2, if_neg hb, if_neg hg]
    split at h
    · rename_i h5
      have h3 := walkL_back ts (d + 1) (s.1 + 1, 0) h
      rw [if_pos h5]
      have e : nodesT (.mk k nm i re im ts) = nodesL ts + 1 := by rw [nodesT_eq, if_pos h5]; rfl
      have e2 : depthT (.mk k nm i re im ts) = depthL ts 0 + 1 := by rw [depthT_eq, if_pos h5]; rfl
      have h4 : (walkL ts (d + 1) (s.1 + 1, 0)).1 = s.1 + 1 + nodesL ts := h3.2.2.1
      have h6 : s.1 + 1 + nodesL ts ≤ 2000 ∨ ts = [] := h3.2.2.2.2
      refine ⟨hs, .mk _ _ _ _ _ _ hb hg (fun _ => h3.2.1), ?_, ?_, ?_⟩
      · show (walkL ts (d + 1) (s.1 + 1, 0)).1 = _
        rw [h4, e]; omega
      · have := depthL_le (d := 500 - d) (ts := ts) (n := 0) (by omega) (fun u hu => by have := h3.2.2.2.1 u hu; omega)
        rw [e2]; omega
      · rw [e]
        rcases h6 with h6 | h6
        · omega
        · subst h6; simp [nodesL]; omega
    · rename_i h5
      rw [if_neg h5]
      have e : nodesT (.mk k nm i re im ts) = 1 := by rw [nodesT_eq, if_neg h5]
      have e2 : depthT (.mk k nm i re im ts) = 1 := by rw [depthT_eq, if_neg h5]
      refine ⟨hs, .mk _ _ _ _ _ _ hb hg (fun e => absurd e h5), ?_, ?_, ?_⟩
      · rw [e]
      · rw [e2]; omega
      · rw [e]; omega
theorem walkL_back : ∀ (ts : List Tm) (d : Int) (s : Int × Int), (walkL ts d s).2 = 0 → s.2 = 0 ∧ (∀ t ∈ ts, t.Good) ∧ (walkL ts d s).1 = s.1 + nodesL ts ∧ (∀ t ∈ ts, d + depthT t ≤ 501) ∧ (s.1 + nodesL ts ≤ 2000 ∨ ts = [])
  | [], d, s, h => ⟨h, (fun t ht => by cases ht), (by simp [walkL, nodesL]), (fun t ht => by cases ht), .inr rfl⟩
  | u :: r, d, s, h => by
    rw [walkL] at h ⊢
    have h1 := walkL_back r d _ h
    have h2 := walkT_back u d s h1.1
    refine ⟨h2.1, fun t ht => ?_, ?_, fun t ht => ?_, .inl ?_⟩
    · rcases List.mem_cons.1 ht with e | ht
      · rw [e]; exact h2.2.1
      · exact h1.2.1 t ht
    · rw [h1.2.2.1, h2.2.2.1, nodesL]; omega
    · rcases List.mem_cons.1 ht with e | ht
      · rw [e]; exact h2.2.2.2.1
      · exact h1.2.2.2.1 t ht
    · rw [nodesL]
      rcases h1.2.2.2.2 with h3 | h3
      · rw [h2.2.2.1] at h3; omega
      · subst h3; simp only [nodesL]; have := h2.2.2.2.2; omega
end
theorem mayP_good {t : Tm} (h : mayP t = 0) : t.Good ∧ (walkT t 1 (0, 0)).1 = nodesT t ∧ depthT t ≤ 500 ∧ nodesT t ≤ 2000 := by
  rw [← mayP_ref] at h
  have h1 := walkT_back t 1 (0, 0) h
  refine ⟨h1.2.1, by rw [h1.2.2.1]; simp, by have := h1.2.2.2.1; omega, by have := h1.2.2.2.2; simp at this; exact this⟩
theorem good_may {t : Tm} (h : t.Good) (hd : depthT t ≤ 500) (hn : nodesT t ≤ 2000) : mayP t = 0 := by
  rw [← mayP_ref, walkT_good t 1 0 h (by omega) (by omega)]
theorem comp_may {s : ByteArray} {ts : List Tm} (hs : s.size ≤ 200) (h0 : 0 < ts.length) (h1 : ts.length ≤ 20) (hg : ∀ t ∈ ts, t.Good) (hd : ∀ t ∈ ts, depthT t ≤ 499) (hn : nodesL ts ≤ 1999) : mayP (mkComp s ts) = 0 := by
  refine good_may (.mk _ _ _ _ _ _ ?_ ?_ (fun _ => hg)) ?_ ?_
  · unfold badT; simp only [Tm.k, Tm.i, Tm.ts]; omega
  · unfold bigT; simp only [Tm.k, Tm.n, Tm.ts]; omega
  · rw [depthT_eq, if_pos (show (mkComp s ts).k = 5 from rfl)]
    have := depthL_le (d := 499) (ts := ts) (n := 0) (by omega) hd
    show depthL ts 0 + 1 ≤ 500
    omega
  · rw [nodesT_eq, if_pos (show (mkComp s ts).k = 5 from rfl)]
    show nodesL ts + 1 ≤ 2000
    omega

theorem compareL_pair (a b c d : Tm) : compareL [a, b] [c, d] = lexI (compareT a c) (compareT b d) := by
  rw [compareL_cons, compareL_cons, compareL_nil]
  unfold lexI
  (repeat' split) <;> simp_all
theorem compare_comp (s : ByteArray) (xs ys : List Tm) : compareT (mkComp s xs) (mkComp s ys) = lexI (cmpI xs.length ys.length) (compareL xs ys) := by
  rw [compareT_lex]
  have h1 : cmpI (rankI (mkComp s xs).k) (rankI (mkComp s ys).k) = 0 := cmpI_zero.2 rfl
  have h2 : cmpS (mkComp s xs).n (mkComp s ys).n = 0 := cmpS_self s
  unfold bodyC
  rw [h1, h2]
  simp only [mkComp, Tm.k, Tm.ts]
  simp [lexI]
  split <;> simp [*]
theorem args_l (s : ByteArray) (a b c : Tm) : compareT (mkComp s [a, b]) (mkComp s [a, c]) = compareT b c := by
  rw [compare_comp, compareL_pair, compareT_self]
  simp [lexI, cmpI]
theorem args_r (s : ByteArray) (a b c : Tm) : compareT (mkComp s [a, b]) (mkComp s [c, b]) = compareT a c := by
  rw [compare_comp, compareL_pair, compareT_self]
  simp [lexI, cmpI]
  intro h; exact h.symm
theorem args_n (s : ByteArray) (a b : Tm) : compareT (mkComp s [a]) (mkComp s [a, b]) = -1 := by
  rw [compare_comp]
  simp [lexI, cmpI]
theorem args_m (s : ByteArray) (a b : Tm) : compareT (mkComp s [a, b]) (mkComp s [a]) = 1 := by
  rw [compare_comp]
  simp [lexI, cmpI]

end Go.Vai

/- Sets in order; plain terms: plain. No condition. -/
namespace Go.Vai
open Go.Proofs

section
variable {α : Type}
/-- Of equals in line the first alone. -/
def cmpctA (eq : α → α → Bool) : α → List α → List α
  | _, [] => []
  | p, y :: r => if eq y p = true then cmpctA eq y r else y :: cmpctA eq y r
def cmpct (eq : α → α → Bool) : List α → List α
  | [] => []
  | x :: r => x :: cmpctA eq x r
theorem cmpctA_snoc (eq : α → α → Bool) (w z : α) : ∀ (T : List α) (p : α), cmpctA eq p (T ++ [w, z]) = cmpctA eq p (T ++ [w]) ++ (if eq z w = true then [] else [z])
  | [], p => by
    simp only [List.nil_append, cmpctA]
    split <;> split <;> simp
  | y :: T, p => by
    rw [List.cons_append, List.cons_append, cmpctA, cmpctA, cmpctA_snoc eq w z T y]
    split <;> simp
theorem cmpct_snoc (eq : α → α → Bool) (w z : α) (T : List α) : cmpct eq (T ++ [w, z]) = cmpct eq (T ++ [w]) ++ (if eq z w = true then [] else [z]) := by
  cases T with
  | nil => simp only [List.nil_append, cmpct, cmpctA]; split <;> simp
  | cons x T => rw [List.cons_append, List.cons_append, cmpct, cmpct, cmpctA_snoc]; simp
theorem cmpctA_length (eq : α → α → Bool) : ∀ (l : List α) (p : α), (cmpctA eq p l).length ≤ l.length
  | [], _ => Nat.le_refl _
  | y :: r, p => by
    have := cmpctA_length eq r y
    rw [cmpctA]; split <;> simp <;> omega
theorem cmpct_length (eq : α → α → Bool) (l : List α) : (cmpct eq l).length ≤ l.length := by
  cases l with
  | nil => exact Nat.le_refl _
  | cons x r => have := cmpctA_length eq r x; simp [cmpct]; omega
theorem cmpctA_mem (eq : α → α → Bool) (z : α) : ∀ (l : List α) (p : α), z ∈ cmpctA eq p l → z ∈ l
  | [], _, h => h
  | y :: r, p, h => by
    rw [cmpctA] at h; split at h
    · exact List.mem_cons_of_mem _ (cmpctA_mem eq z r y h)
    · rcases List.mem_cons.1 h with h | h
      · rw [h]; exact List.mem_cons_self ..
      · exact List.mem_cons_of_mem _ (cmpctA_mem eq z r y h)
theorem cmpct_mem (eq : α → α → Bool) (z : α) {l : List α} (h : z ∈ cmpct eq l) : z ∈ l := by
  cases l with
  | nil => exact h
  | cons x r =>
    rcases List.mem_cons.1 h with h | h
    · rw [h]; exact List.mem_cons_self ..
    · exact List.mem_cons_of_mem _ (cmpctA_mem eq z r x h)
end

/-- The order, and what goes with it. -/
structure Ord3 {α : Type} (cmp : α → α → Int) : Prop where
  anti : ∀ a b, cmp b a = - cmp a b
  tri : ∀ a b c, Tri (cmp a b) (cmp b c) (cmp a c)
theorem ord3_compare : Ord3 compareT := ⟨compareT_anti, compareT_tri⟩
section
variable {α : Type} {cmp : α → α → Int}
theorem Ord3.goes (h : Ord3 cmp) : Goes cmp := by
  refine ⟨fun a b c h1 h2 => ?_, fun a b c h1 h2 => ?_⟩ <;> (have := h.tri a b c; unfold Tri at this; omega)
theorem Ord3.asym (h : Ord3 cmp) : ∀ a b, cmp a b < 0 → ¬ cmp b a < 0 := fun a b h1 => by have := h.anti a b; omega
theorem Ord3.self (h : Ord3 cmp) (a : α) : cmp a a = 0 := by have := h.anti a a; omega

/-- It rises. -/
def Rise (cmp : α → α → Int) (l : List α) : Prop := l.Pairwise fun a b => cmp a b < 0
abbrev eqB (cmp : α → α → Int) (a b : α) : Bool := cmp a b == 0
theorem eqB_t {a b : α} : eqB cmp a b = true ↔ cmp a b = 0 := by simp [eqB]

def insD (cmp : α → α → Int) (x : α) : List α → List α
  | [] => [x]
  | z :: r => if cmp x z < 0 then x :: z :: r else if cmp x z = 0 then z :: r else z :: insD cmp x r

theorem cmpctA_ins (ho : Ord3 cmp) (x : α) : ∀ (r : List α) (z : α), Up cmp (z :: r) → ¬ cmp x z < 0 →
    cmpctA (eqB cmp) z (insF cmp x r) = if cmp x z = 0 then cmpctA (eqB cmp) z r else insD cmp x (cmpctA (eqB cmp) z r)
  | [], z, _, _ => by
    simp only [insF, cmpctA, eqB_t, insD]
  | y :: r, z, hu, hz => by
    have hu1 := List.pairwise_cons.1 hu
    have hyz : ¬ cmp y z < 0 := hu1.1 y (List.mem_cons_self ..)
    have ih := cmpctA_ins ho x r y hu1.2
    have t1 := ho.tri x y z
    have t2 := ho.tri z y x
    have a1 := ho.anti x y
    have a2 := ho.anti y z
    have a3 := ho.anti x z
    unfold Tri R1 at t1 t2
    rw [insF]
    by_cases hxy : cmp x y < 0
    · have e1 : ¬ cmp y x = 0 := by omega
      have e2 : ¬ cmp y z = 0 ∨ ¬ cmp x z = 0 := by omega
      have e3 : ¬ cmp y z = 0 := by omega
      rw [if_pos hxy]
      simp only [cmpctA, eqB_t, if_neg e1, if_neg e3, insD, if_pos hxy]
    · rw [if_neg hxy]
      simp only [cmpctA, eqB_t]
      rw [ih hxy]
      by_cases hxz : cmp x z = 0
      · have e1 : cmp y z = 0 := by omega
        have e2 : cmp x y = 0 := by omega
        simp only [if_pos hxz, if_pos e1, if_pos e2]
      · by_cases e1 : cmp y z = 0
        · have e2 : ¬ cmp x y = 0 := by omega
          simp only [if_neg hxz, if_pos e1, if_neg e2]
        · simp only [if_neg hxz, if_neg e1, insD, if_neg hxy]
          split <;> rfl
theorem cmpct_ins (ho : Ord3 cmp) (x : α) (S : List α) (hu : Up cmp S) : cmpct (eqB cmp) (insF cmp x S) = insD cmp x (cmpct (eqB cmp) S) := by
  cases S with
  | nil => rfl
  | cons z r =>
    rw [insF]
    by_cases h : cmp x z < 0
    · have e1 : ¬ cmp z x = 0 := by have := ho.anti x z; omega
      rw [if_pos h]
      simp only [cmpct, cmpctA, eqB_t, if_neg e1, insD, if_pos h]
    · rw [if_neg h]
      simp only [cmpct, insD, if_neg h]
      rw [cmpctA_ins ho x r z hu h]
      split <;> rfl

theorem cmpctA_rise (ho : Ord3 cmp) : ∀ (r : List α) (z : α), Up cmp (z :: r) → Rise cmp (z :: cmpctA (eqB cmp) z r)
  | [], z, _ => List.pairwise_singleton _ _
  | y :: r, z, hu => by
    have hu1 := List.pairwise_cons.1 hu
    have hyz : ¬ cmp y z < 0 := hu1.1 y (List.mem_cons_self ..)
    have ih := List.pairwise_cons.1 (cmpctA_rise ho r y hu1.2)
    have a2 := ho.anti y z
    simp only [cmpctA, eqB_t]
    by_cases e : cmp y z = 0
    · rw [if_pos e]
      refine List.pairwise_cons.2 ⟨fun u hu2 => ?_, ih.2⟩
      have h1 := ih.1 u hu2
      have t := ho.tri z y u
      unfold Tri at t; omega
    · rw [if_neg e]
      refine List.pairwise_cons.2 ⟨fun u hu2 => ?_, List.pairwise_cons.2 ⟨ih.1, ih.2⟩⟩
      rcases List.mem_cons.1 hu2 with rfl | hu2
      · omega
      · have h1 := ih.1 u hu2
        have t := ho.tri z y u
        unfold Tri at t; omega
theorem cmpct_rise (ho : Ord3 cmp) {S : List α} (hu : Up cmp S) : Rise cmp (cmpct (eqB cmp) S) := by
  cases S with
  | nil => exact List.Pairwise.nil
  | cons z r => exact cmpctA_rise ho r z hu
theorem Rise.up (ho : Ord3 cmp) {l : List α} (h : Rise cmp l) : Up cmp l := List.Pairwise.imp (fun {a b} h => ho.asym a b h) h
theorem cmpctA_id (ho : Ord3 cmp) : ∀ (r : List α) (z : α), Rise cmp (z :: r) → cmpctA (eqB cmp) z r = r
  | [], _, _ => rfl
  | y :: r, z, h => by
    have h1 := List.pairwise_cons.1 h
    have h2 := h1.1 y (List.mem_cons_self ..)
    have := ho.anti z y
    simp only [cmpctA, eqB_t]
    rw [if_neg (by omega), cmpctA_id ho r y h1.2]
theorem cmpct_id (ho : Ord3 cmp) {l : List α} (h : Rise cmp l) : cmpct (eqB cmp) l = l := by
  cases l with
  | nil => rfl
  | cons z r => rw [cmpct, cmpctA_id ho r z h]
theorem cmpctA_rep (ho : Ord3 cmp) (y : α) : ∀ (r : List α) (z : α), y ∈ r → ∃ x ∈ z :: cmpctA (eqB cmp) z r, cmp x y = 0
  | u :: r, z, h => by
    simp only [cmpctA, eqB_t]
    have hy : y = u ∨ y ∈ r := List.mem_cons.1 h
    by_cases e : cmp u z = 0
    · rw [if_pos e]
      rcases hy with rfl | hy
      · refine ⟨z, List.mem_cons_self .., ?_⟩
        have := ho.anti y z; omega
      · obtain ⟨x, hx, h1⟩ := cmpctA_rep ho y r u hy
        rcases List.mem_cons.1 hx with rfl | hx
        · refine ⟨z, List.mem_cons_self .., ?_⟩
          have t := ho.tri z x y
          have := ho.anti x z
          unfold Tri R1 at t; omega
        · exact ⟨x, List.mem_cons_of_mem _ hx, h1⟩
    · rw [if_neg e]
      rcases hy with rfl | hy
      · exact ⟨y, List.mem_cons_of_mem _ (List.mem_cons_self ..), ho.self y⟩
      · obtain ⟨x, hx, h1⟩ := cmpctA_rep ho y r u hy
        exact ⟨x, List.mem_cons_of_mem _ hx, h1⟩
theorem cmpct_rep (ho : Ord3 cmp) {y : α} {l : List α} (h : y ∈ l) : ∃ x ∈ cmpct (eqB cmp) l, cmp x y = 0 := by
  cases l with
  | nil => cases h
  | cons z r =>
    rcases List.mem_cons.1 h with rfl | h
    · exact ⟨y, List.mem_cons_self .., ho.self y⟩
    · exact cmpctA_rep ho y r z h
theorem isort_id (ho : Ord3 cmp) (n : Nat) : ∀ l : List α, l.length = n → Up cmp l → isort cmp l = l := by
  induction n with
  | zero => intro l hl _; rw [List.length_eq_zero_iff.1 hl]; rfl
  | succ n ih =>
    intro l hl hu
    rcases snocCases l with rfl | ⟨l, z, rfl⟩
    · cases hl
    · have hu2 := List.pairwise_append.1 hu
      rw [isort_snoc, ih l (by simpa using hl) hu2.1, ins_eq ho.goes z _ _ rfl hu2.1, insF_all]
      exact fun w hw => hu2.2.2 w hw z (by simp)
/-- Two that rise and have the same are the same, place by place. -/
theorem rise_same (ho : Ord3 cmp) : ∀ (X Y : List α), Rise cmp X → Rise cmp Y → (∀ x ∈ X, ∃ y ∈ Y, cmp x y = 0) → (∀ y ∈ Y, ∃ x ∈ X, cmp x y = 0) →
    X.length = Y.length ∧ ∀ (i : Nat) x y, X[i]? = some x → Y[i]? = some y → cmp x y = 0
  | [], [], _, _, _, _ => ⟨rfl, fun i x y h => by simp at h⟩
  | [], y :: Y, _, _, _, h => by obtain ⟨x, hx, _⟩ := h y (List.mem_cons_self ..); cases hx
  | x :: X, [], _, _, h, _ => by obtain ⟨y, hy, _⟩ := h x (List.mem_cons_self ..); cases hy
  | x :: X, y :: Y, hX, hY, h1, h2 => by
    have hX1 := List.pairwise_cons.1 hX
    have hY1 := List.pairwise_cons.1 hY
    have e0 : cmp x y = 0 := by
      obtain ⟨y', hy', e1⟩ := h1 x (List.mem_cons_self ..)
      obtain ⟨x', hx', e2⟩ := h2 y (List.mem_cons_self ..)
      rcases List.mem_cons.1 hy' with rfl | hy'
      · exact e1
      rcases List.mem_cons.1 hx' with rfl | hx'
      · exact e2
      have l1 := hY1.1 y' hy'
      have l2 := hX1.1 x' hx'
      have t1 := ho.tri x x' y
      have t2 := ho.tri x y y'
      unfold Tri R1 at t1 t2
      omega
    have ih := rise_same ho X Y hX1.2 hY1.2
      (fun u hu => by
        obtain ⟨v, hv, e⟩ := h1 u (List.mem_cons_of_mem _ hu)
        rcases List.mem_cons.1 hv with rfl | hv
        · have l := hX1.1 u hu
          have t := ho.tri x u v
          unfold Tri R1 at t
          omega
        · exact ⟨v, hv, e⟩)
      (fun v hv => by
        obtain ⟨u, hu, e⟩ := h2 v (List.mem_cons_of_mem _ hv)
        rcases List.mem_cons.1 hu with rfl | hu
        · have l := hY1.1 v hv
          have t := ho.tri u y v
          unfold Tri R1 at t
          omega
        · exact ⟨u, hu, e⟩)
    refine ⟨by simp [ih.1], fun i u v hu hv => ?_⟩
    cases i with
    | zero => simp at hu hv; subst hu; subst hv; exact e0
    | succ i => exact ih.2 i u v (by simpa using hu) (by simpa using hv)

theorem ins_app {x : α} (L : List α) (n : Nat) : ∀ R : List α, R.length = n → (∀ r ∈ R, cmp x r < 0) → (L = [] ∨ ∃ L' w, L = L' ++ [w] ∧ ¬ cmp x w < 0) → ins cmp x (L ++ R) = L ++ x :: R := by
  induction n with
  | zero =>
    intro R hR _ hL
    rw [List.length_eq_zero_iff.1 hR, List.append_nil]
    rcases hL with rfl | ⟨L', w, rfl, hw⟩
    · rfl
    · rw [ins_snoc, if_neg hw]; simp
  | succ n ih =>
    intro R hR hr hL
    rcases snocCases R with rfl | ⟨R, z, rfl⟩
    · cases hR
    · rw [← List.append_assoc, ins_snoc, if_pos (hr z (by simp)), ih R (by simpa using hR) (fun u hu => hr u (by simp [hu])) hL]
      simp
theorem insD_app (x : α) : ∀ (L R : List α), (∀ w ∈ L, 0 < cmp x w) → insD cmp x (L ++ R) = L ++ insD cmp x R
  | [], R, _ => rfl
  | w :: L, R, h => by
    have hw := h w (List.mem_cons_self ..)
    rw [List.cons_append, insD, if_neg (by omega), if_neg (by omega), insD_app x L R (fun u hu => h u (List.mem_cons_of_mem _ hu))]; rfl
open Classical in
theorem insD_at (ho : Ord3 cmp) (x : α) (L R : List α) (hs : Rise cmp (L ++ R)) (hr : ∀ r ∈ R, cmp x r < 0) (hL : L = [] ∨ ∃ L' w, L = L' ++ [w] ∧ ¬ cmp x w < 0) :
    insD cmp x (L ++ R) = if ∃ L' w, L = L' ++ [w] ∧ cmp x w = 0 then L ++ R else L ++ x :: R := by
  have hR : insD cmp x R = x :: R := by
    cases R with
    | nil => rfl
    | cons r R => rw [insD, if_pos (hr r (List.mem_cons_self ..))]
  rcases hL with rfl | ⟨L', w, rfl, hw⟩
  · rw [if_neg (by rintro ⟨L', w, h, _⟩; simp at h)]
    exact hR
  · have hs1 := (List.pairwise_append.1 hs).1
    have hs2 := (List.pairwise_append.1 hs1).2.2
    have hlt : ∀ u ∈ L', 0 < cmp x u := fun u hu => by
      have h1 := hs2 u hu w (by simp)
      have t := ho.tri u w x
      have a1 := ho.anti x u
      have a2 := ho.anti w x
      unfold Tri R1 at t
      omega
    by_cases e : cmp x w = 0
    · rw [if_pos ⟨L', w, rfl, e⟩, List.append_assoc, insD_app x L' _ hlt]
      show L' ++ insD cmp x (w :: R) = _
      rw [insD, if_neg hw, if_pos e]; rfl
    · rw [if_neg (by
        rintro ⟨L2, w2, h2, h3⟩
        have := List.append_inj_right' h2 rfl
        simp at this
        rw [this] at e
        exact e h3)]
      rw [insD_app x (L' ++ [w]) R, hR]
      intro u hu
      rcases List.mem_append.1 hu with hu | hu
      · exact hlt u hu
      · rw [List.mem_singleton.1 hu]; omega
end

/-! ### Plain terms -/
theorem mk_k (k : Int) (n : ByteArray) (i re im : Int) (ts : List Tm) : (Tm.mk k n i re im ts).k = k := rfl
theorem mk_n (k : Int) (n : ByteArray) (i re im : Int) (ts : List Tm) : (Tm.mk k n i re im ts).n = n := rfl
theorem mk_i (k : Int) (n : ByteArray) (i re im : Int) (ts : List Tm) : (Tm.mk k n i re im ts).i = i := rfl
theorem mk_re (k : Int) (n : ByteArray) (i re im : Int) (ts : List Tm) : (Tm.mk k n i re im ts).re = re := rfl
theorem mk_im (k : Int) (n : ByteArray) (i re im : Int) (ts : List Tm) : (Tm.mk k n i re im ts).im = im := rfl
theorem mk_ts (k : Int) (n : ByteArray) (i re im : Int) (ts : List Tm) : (Tm.mk k n i re im ts).ts = ts := rfl
theorem turnT_k (t : Tm) : (turnT mkVar t).k = t.k := by
  rw [turnT_eq]
  (repeat' split) <;> first | rfl | (rename_i h; exact h.symm) | (simp_all [mkVar, Tm.k])
theorem turnT_idem (t : Tm) : turnT mkVar (turnT mkVar t) = turnT mkVar t := by
  rw [turnT_eq mkVar t]
  by_cases h1 : t.k = 1
  · rw [if_pos h1, turnT_eq]; simp [mk_k, mk_i, mkVar]
  by_cases h2 : t.k = 2
  · rw [if_neg h1, if_pos h2, turnT_eq]; simp [mk_k, mk_n, h2]
  by_cases h3 : t.k = 3
  · rw [if_neg h1, if_neg h2, if_pos h3, turnT_eq]; simp [mk_k, mk_i, h3]
  by_cases h4 : t.k = 4
  · rw [if_neg h1, if_neg h2, if_neg h3, if_pos h4, turnT_eq]; simp [mk_k, mk_re, mk_im, h4]
  by_cases h5 : t.k = 5
  · rw [if_neg h1, if_neg h2, if_neg h3, if_neg h4, if_pos h5, turnT_eq]
    have e : turnL mkVar (turnL mkVar t.ts) = turnL mkVar t.ts := by
      rw [turnL_map, turnL_map, List.map_map]
      exact List.map_congr_left (fun u hu => turnT_idem u)
    simp [mk_k, mk_n, mk_ts, h5, e]
  · rw [if_neg h1, if_neg h2, if_neg h3, if_neg h4, if_neg h5, turnT_eq]; simp [mk_k, h1, h2, h3, h4, h5]
termination_by t
decreasing_by exact Tm.size_lt hu

theorem compareL_map {f : Tm → Tm} : ∀ {xs : List Tm}, (∀ x ∈ xs, compareT x (f x) = 0) → compareL xs (xs.map f) = 0
  | [], _ => by rw [List.map_nil, compareL_nil]; simp
  | x :: r, h => by
    rw [List.map_cons, compareL_cons, h x (List.mem_cons_self ..), compareL_map (fun u hu => h u (List.mem_cons_of_mem _ hu))]; rfl
theorem compare_turn (t : Tm) (h : t.Kd) : compareT t (turnT mkVar t) = 0 := by
  have hk := h.k5
  rw [compareT_lex, turnT_k, cmpI_zero.2 rfl]
  show bodyC t (turnT mkVar t) = 0
  rw [turnT_eq]
  unfold bodyC
  by_cases h1 : t.k = 1
  · rw [if_pos h1, if_pos (.inl h1)]; exact cmpI_zero.2 rfl
  by_cases h2 : t.k = 2
  · rw [if_neg h1, if_pos h2, if_neg (by omega), if_neg (by omega), if_pos h2]; exact cmpS_self _
  by_cases h3 : t.k = 3
  · rw [if_neg h1, if_neg h2, if_pos h3, if_pos (.inr h3)]; exact cmpI_zero.2 rfl
  by_cases h4 : t.k = 4
  · rw [if_neg h1, if_neg h2, if_neg h3, if_pos h4, if_neg (by omega), if_pos h4]; exact lexI_zero.2 ⟨cmpI_zero.2 rfl, cmpI_zero.2 rfl⟩
  have h5 : t.k = 5 := by omega
  rw [if_neg h1, if_neg h2, if_neg h3, if_neg h4, if_pos h5, if_neg (by omega), if_neg (by omega), if_neg (by omega)]
  refine lexI_zero.2 ⟨lexI_zero.2 ⟨cmpI_zero.2 ?_, cmpS_self _⟩, ?_⟩
  · show (t.ts.length : Int) = ((turnL mkVar t.ts).length : Int)
    rw [turnL_map]; simp
  · show compareL t.ts (turnL mkVar t.ts) = 0
    rw [turnL_map]
    exact compareL_map (fun u hu => compare_turn u (h.arg h5 u hu))
termination_by t
decreasing_by exact Tm.size_lt hu

theorem depthL_congr {f : Tm → Tm} : ∀ (ts : List Tm) (n : Int), (∀ t ∈ ts, depthT (f t) = depthT t) → depthL (ts.map f) n = depthL ts n
  | [], n, _ => rfl
  | t :: r, n, h => by
    rw [List.map_cons, depthL, depthL, h t (List.mem_cons_self ..), depthL_congr r _ (fun u hu => h u (List.mem_cons_of_mem _ hu))]
theorem nodesL_congr {f : Tm → Tm} : ∀ (ts : List Tm), (∀ t ∈ ts, nodesT (f t) = nodesT t) → nodesL (ts.map f) = nodesL ts
  | [], _ => rfl
  | t :: r, h => by
    rw [List.map_cons, nodesL, nodesL, h t (List.mem_cons_self ..), nodesL_congr r (fun u hu => h u (List.mem_cons_of_mem _ hu))]
theorem turnT_ts (t : Tm) (h5 : t.k = 5) : (turnT mkVar t).ts = t.ts.map (turnT mkVar) := by
  rw [turnT_eq, if_neg (by omega), if_neg (by omega), if_neg (by omega), if_neg (by omega), if_pos h5, turnL_map]; rfl
theorem turnT_n (t : Tm) (h5 : t.k = 5 ∨ t.k = 2) : (turnT mkVar t).n = t.n := by
  rw [turnT_eq]
  rcases h5 with h5 | h5
  · rw [if_neg (by omega), if_neg (by omega), if_neg (by omega), if_neg (by omega), if_pos h5]; rfl
  · rw [if_neg (by omega), if_pos h5]; rfl
theorem turnT_depth (t : Tm) : depthT (turnT mkVar t) = depthT t := by
  rw [depthT_eq, depthT_eq t, turnT_k]
  by_cases h5 : t.k = 5
  · rw [if_pos h5, if_pos h5, turnT_ts t h5, depthL_congr _ _ (fun u hu => turnT_depth u)]
  · rw [if_neg h5, if_neg h5]
termination_by t
decreasing_by exact Tm.size_lt hu
theorem turnT_nodes (t : Tm) : nodesT (turnT mkVar t) = nodesT t := by
  rw [nodesT_eq, nodesT_eq t, turnT_k]
  by_cases h5 : t.k = 5
  · rw [if_pos h5, if_pos h5, turnT_ts t h5, nodesL_congr _ (fun u hu => turnT_nodes u)]
  · rw [if_neg h5, if_neg h5]
termination_by t
decreasing_by exact Tm.size_lt hu
theorem Tm.Good.of {t : Tm} (hb : ¬ badT t) (hg : ¬ bigT t) (h : t.k = 5 → ∀ u ∈ t.ts, u.Good) : t.Good := by
  cases t with | mk k n i re im ts => exact .mk _ _ _ _ _ _ hb hg h
theorem turnT_good (t : Tm) (h : t.Good) : (turnT mkVar t).Good := by
  have hb := h.bad
  have hg := h.big
  have hk := turnT_k t
  have hi : t.k = 1 → (turnT mkVar t).i = t.i := fun h1 => by rw [turnT_eq, if_pos h1]; rfl
  have hl : t.k = 5 → (turnT mkVar t).ts.length = t.ts.length := fun h5 => by rw [turnT_ts t h5]; simp
  refine .of ?_ ?_ (fun h5 u hu => ?_)
  · unfold badT at hb ⊢
    rw [hk]
    by_cases h1 : t.k = 1
    · rw [hi h1]; omega
    · by_cases h5 : t.k = 5
      · rw [hl h5]; omega
      · omega
  · unfold bigT at hg ⊢
    rw [hk]
    by_cases h5 : t.k = 5
    · rw [hl h5, turnT_n t (.inl h5)]; omega
    · by_cases h2 : t.k = 2
      · rw [turnT_n t (.inr h2)]; omega
      · omega
  · rw [hk] at h5
    rw [turnT_ts t h5] at hu
    obtain ⟨v, hv, rfl⟩ := List.mem_map.1 hu
    exact turnT_good v (h.arg h5 v hv)
termination_by t
decreasing_by exact Tm.size_lt hv
theorem Tm.Fit.of {t : Tm} (hl : t.ts.length ≤ 1000000) (h : ∀ u ∈ t.ts, u.Fit) : t.Fit := by
  cases t with | mk k n i re im ts => exact .mk _ _ _ _ _ _ hl h
theorem turnT_fit (t : Tm) (h : t.Fit) : (turnT mkVar t).Fit := by
  by_cases h5 : t.k = 5
  · refine .of (by rw [turnT_ts t h5]; simp; exact h.len) (fun u hu => ?_)
    rw [turnT_ts t h5] at hu
    obtain ⟨v, hv, rfl⟩ := List.mem_map.1 hu
    exact turnT_fit v (h.arg v hv)
  · have e : (turnT mkVar t).ts = [] := by
      rw [turnT_eq]
      by_cases h1 : t.k = 1
      · rw [if_pos h1]; rfl
      by_cases h2 : t.k = 2
      · rw [if_neg h1, if_pos h2]; rfl
      by_cases h3 : t.k = 3
      · rw [if_neg h1, if_neg h2, if_pos h3]; rfl
      by_cases h4 : t.k = 4
      · rw [if_neg h1, if_neg h2, if_neg h3, if_pos h4]; rfl
      · rw [if_neg h1, if_neg h2, if_neg h3, if_neg h4, if_neg h5]; rfl
    exact .of (by rw [e]; simp) (fun u hu => by rw [e] at hu; cases hu)
termination_by t
decreasing_by exact Tm.size_lt hv

theorem plainT_of {t : Tm} (h : mayP t = 0) : plainT t = turnT mkVar t := by rw [plainT, if_neg (by simp [h])]
theorem plain_may {t : Tm} (h : mayP t = 0) : mayP (plainT t) = 0 := by
  obtain ⟨hg, _, hd, hn⟩ := mayP_good h
  rw [plainT_of h]
  exact good_may (turnT_good t hg) (by rw [turnT_depth]; exact hd) (by rw [turnT_nodes]; exact hn)
theorem plain_idem {t : Tm} (h : mayP t = 0) : plainT (plainT t) = plainT t := by
  rw [plainT_of (plain_may h), plainT_of h, turnT_idem]
theorem plain_cmp {t : Tm} (h : mayP t = 0) : compareT t (plainT t) = 0 := by rw [plainT_of h]; exact compare_turn t (mayP_kd h)
theorem plain_fit {t : Tm} (h : mayP t = 0) (hf : t.Fit) : (plainT t).Fit := by rw [plainT_of h]; exact turnT_fit t hf

/-- Terms that may be, as plain as can be. -/
def Pl (t : Tm) : Prop := mayP t = 0 ∧ plainT t = t ∧ t.Fit
theorem keepP_mem {l : List Tm} (hf : ∀ t ∈ l, t.Fit) {x : Tm} (h : x ∈ keepP l) : Pl x := by
  unfold keepP at h
  obtain ⟨t, ht, rfl⟩ := List.mem_map.1 h
  have h1 := List.mem_filter.1 ht
  have h2 : mayP t = 0 := by simpa using h1.2
  exact ⟨plain_may h2, plain_idem h2, plain_fit h2 (hf t h1.1)⟩
theorem keepP_id {l : List Tm} (h : ∀ t ∈ l, Pl t) : keepP l = l := by
  unfold keepP
  rw [List.filter_eq_self.2 (fun t ht => by simp [(h t ht).1])]
  rw [List.map_congr_left (g := id) (fun t ht => (h t ht).2.1)]
  simp
def setP (l : List Tm) : List Tm := cmpct (eqB compareT) (sortP l)
theorem sortP_up (l : List Tm) : Up compareT (sortP l) := isort_up ord3_compare.goes ord3_compare.asym _ _ rfl
theorem sortP_pl {l : List Tm} (hf : ∀ t ∈ l, t.Fit) : ∀ x ∈ sortP l, Pl x := fun x hx => keepP_mem hf ((isort_mem compareT x _).1 hx)
theorem setP_pl {l : List Tm} (hf : ∀ t ∈ l, t.Fit) : ∀ x ∈ setP l, Pl x := fun x hx => sortP_pl hf x (cmpct_mem _ x hx)
theorem setP_rise (l : List Tm) : Rise compareT (setP l) := cmpct_rise ord3_compare (sortP_up l)
theorem sortP_sortP {l : List Tm} (hf : ∀ t ∈ l, t.Fit) : sortP (sortP l) = sortP l := by
  rw [show sortP (sortP l) = isort compareT (keepP (sortP l)) from rfl, keepP_id (sortP_pl hf), isort_id ord3_compare _ _ rfl (sortP_up l)]
theorem setP_sortP {l : List Tm} (hf : ∀ t ∈ l, t.Fit) : setP (sortP l) = setP l := by
  rw [setP, sortP_sortP hf]; rfl
theorem setP_setP {l : List Tm} (hf : ∀ t ∈ l, t.Fit) : setP (setP l) = setP l := by
  rw [show setP (setP l) = cmpct (eqB compareT) (isort compareT (keepP (setP l))) from rfl, keepP_id (setP_pl hf), isort_id ord3_compare _ _ rfl ((setP_rise l).up ord3_compare), cmpct_id ord3_compare (setP_rise l)]
theorem sortP_length (l : List Tm) : (sortP l).length = (keepP l).length := isort_length _ _
theorem setP_length (l : List Tm) : (setP l).length ≤ (sortP l).length := cmpct_length _ _

/-- What the reference's Sort does with one more. -/
theorem sortP_snoc (l : List Tm) (t : Tm) : sortP (l ++ [t]) = if mayP t = 0 then ins compareT (plainT t) (sortP l) else sortP l := by
  unfold sortP
  rw [keepP_snoc]
  split
  · rw [isort_snoc]
  · rfl
theorem setP_snoc (l : List Tm) (t : Tm) : setP (l ++ [t]) = if mayP t = 0 then insD compareT (plainT t) (setP l) else setP l := by
  unfold setP
  rw [sortP_snoc]
  split
  · rw [ins_eq ord3_compare.goes _ _ _ rfl (sortP_up l), cmpct_ins ord3_compare _ _ (sortP_up l)]
  · rfl
def sortB (once : Bool) (l : List Tm) : List Tm := if once = true then setP l else sortP l
theorem same_self {x : Tm} (h : mayP x = 0) : sameP x x = true := by
  unfold sameP
  rw [h, (likeT_zero x x (mayP_kd h) (mayP_kd h)).2 (compareT_self x)]; rfl
theorem same_of {x y : Tm} (h : mayP x = 0) (h2 : mayP y = 0) (h3 : compareT x y = 0) : sameP x y = true := by
  unfold sameP
  rw [h, h2, (likeT_zero x y (mayP_kd h) (mayP_kd h2)).2 h3]; rfl

end Go.Vai
