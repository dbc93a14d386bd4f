/- The row of OrderArgs: the law, walked, is what the statement says. No condition. -/
import Derived.Test.YtbgpmnpjekmojaaQ3
import Derived.ProofKit
import Derived.OpenShut
import Derived.ShutString
import Derived.ChangeOld
import Derived.Below
import Derived.SizedLaws
import Derived.Test.YtbgpmnpjekmojaaRows
import Derived.WalkKit

set_option linter.unusedSimpArgs false
set_option linter.unusedVariables false
set_option linter.unnecessarySimpa false

/- The order of texts; the reference's Order. No condition. -/
namespace Go.Vai
open Go.Proofs

theorem less_irr : ∀ x : List UInt8, Op.bytesLess x x = false
  | [] => rfl
  | a :: x => by simp [Op.bytesLess, less_irr x]
theorem less_tri : ∀ {x y : List UInt8}, Op.bytesLess x y = false → Op.bytesLess y x = false → x = y
  | [], [], _, _ => rfl
  | [], _ :: _, h, _ => by cases h
  | _ :: _, [], _, h => by cases h
  | a :: x, b :: y, h1, h2 => by
    rw [Op.bytesLess, Bool.or_eq_false_iff, decide_eq_false_iff_not] at h1 h2
    have hab : a = b := UInt8.le_antisymm (UInt8.not_lt.1 h2.1) (UInt8.not_lt.1 h1.1)
    subst hab
    have := less_tri (x := x) (y := y) (by simpa using h1.2) (by simpa using h2.2)
    rw [this]
theorem less_trans : ∀ {x y z : List UInt8}, Op.bytesLess x y = true → Op.bytesLess y z = true → Op.bytesLess x z = true
  | [], [], _, h, _ => by cases h
  | _ :: _, [], _, h, _ => by cases h
  | _, _ :: _, [], _, h => by cases h
  | [], _ :: _, _ :: _, _, _ => rfl
  | a :: x, b :: y, c :: z, h1, h2 => by
    simp [Op.bytesLess] at h1 h2 ⊢
    rcases h1 with h1 | ⟨rfl, h1⟩
    · rcases h2 with h2 | ⟨rfl, _⟩
      · exact .inl (UInt8.lt_trans h1 h2)
      · exact .inl h1
    · rcases h2 with h2 | ⟨rfl, h2⟩
      · exact .inl h2
      · exact .inr ⟨rfl, less_trans h1 h2⟩
theorem less_asymm {x y : List UInt8} (h : Op.bytesLess x y = true) : Op.bytesLess y x = false := by
  cases h2 : Op.bytesLess y x with
  | false => rfl
  | true =>
    have := less_trans h h2
    rw [less_irr] at this
    cases this

theorem refCmp_ok (a b : Int) : Snd 77 [iv a, iv b] [iv (cmpI a b)] := by
  refine sound_pure (Γ := G 13 (fun _ => false) (fun _ => false) (fun _ => false)) (G_ok _ _ _ _) Try.func77 rfl (by decide) rfl rfl rfl ?_
  repeat' ((try conv => whnf); with_reducible first | refine AWP.seq ?_ | refine AWP.region (G_ok _ _ _ _) rfl ?_ | refine AWP.block ?_ | refine AWP.cond rfl ?_ | refine AWP.ret ?_ | refine AWP.skip ?_ | refine AWP.exit ?_ | refine AWP.label ?_ | refine AWP.goto ?_ | refine Br (fun h => ?_) (fun h => ?_))
  all_goals (try conv => whnf)
  all_goals (refine finI rfl ?_; simp at *; simp [cmpI]; omega)
theorem refLess_ok (a b : Int) : Snd 100 [uv a, uv b] [iv (cmpI a b)] := by
  refine sound_pure (Γ := G 13 (fun _ => false) (fun _ => false) (fun _ => false)) (G_ok _ _ _ _) Try.func100 rfl (by decide) rfl rfl rfl ?_
  repeat' ((try conv => whnf); with_reducible first | refine AWP.seq ?_ | refine AWP.region (G_ok _ _ _ _) rfl ?_ | refine AWP.block ?_ | refine AWP.cond rfl ?_ | refine AWP.ret ?_ | refine AWP.skip ?_ | refine AWP.exit ?_ | refine AWP.label ?_ | refine AWP.goto ?_ | refine Br (fun h => ?_) (fun h => ?_))
  all_goals (try conv => whnf)
  all_goals (refine finI rfl ?_; simp at *; simp [cmpI]; omega)
theorem refText_ok (a b : ByteArray) : Snd 80 [sv a, sv b] [iv (cmpS a b)] := by
  refine sound_pure (Γ := G 13 (fun _ => false) (fun _ => false) (fun _ => false)) (G_ok _ _ _ _) Try.func80 rfl (by decide) rfl rfl rfl ?_
  repeat' ((try conv => whnf); with_reducible first | refine AWP.seq ?_ | refine AWP.region (G_ok _ _ _ _) rfl ?_ | refine AWP.block ?_ | refine AWP.cond rfl ?_ | refine AWP.ret ?_ | refine AWP.skip ?_ | refine AWP.exit ?_ | refine AWP.label ?_ | refine AWP.goto ?_ | refine Br (fun h => ?_) (fun h => ?_))
  all_goals (try conv => whnf)
  · refine finI rfl ?_; simp [cmpS, h]
  · rename_i h1
    refine finI rfl ?_
    simp at h
    simp [cmpS, h]
  · rename_i h1
    refine finI rfl ?_
    simp at h
    have h2 := h h1
    simp [cmpS, h2, less_irr]
theorem refCompareC_ok (a b c d : Int) : Snd 79 [uv a, uv b, uv c, uv d] [iv (orL [cmpI a c, cmpI b d])] := by
  refine sound_pure (Γ := G 19 (fun _ => false) (fun _ => false) (fun _ => false)) (G_ok _ _ _ _) Try.func79 rfl (by decide) rfl rfl rfl ?_
  repeat' ((try conv => whnf); with_reducible first | refine AWP.seq ?_ | refine AWP.region (G_ok _ _ _ _) rfl ?_ | refine AWP.block ?_ | refine AWP.cond rfl ?_ | refine AWP.ret ?_ | refine AWP.skip ?_ | refine AWP.exit ?_ | refine AWP.label ?_ | refine AWP.goto ?_ | refine Br (fun h => ?_) (fun h => ?_))
  refine ⟨_, _, refLess_ok a c, ?_⟩
  repeat' ((try conv => whnf); with_reducible first | refine AWP.seq ?_ | refine AWP.region (G_ok _ _ _ _) rfl ?_ | refine AWP.block ?_ | refine AWP.cond rfl ?_ | refine AWP.ret ?_ | refine AWP.skip ?_ | refine AWP.exit ?_ | refine AWP.label ?_ | refine AWP.goto ?_ | refine Br (fun h => ?_) (fun h => ?_))
  all_goals (try conv => whnf)
  · simp at h
    refine finI rfl ?_
    simp [orL, h]
  · simp at h
    refine ⟨_, _, refLess_ok b d, ?_⟩
    repeat' ((try conv => whnf); with_reducible first | refine AWP.seq ?_ | refine AWP.region (G_ok _ _ _ _) rfl ?_ | refine AWP.block ?_ | refine AWP.cond rfl ?_ | refine AWP.ret ?_ | refine AWP.skip ?_ | refine AWP.exit ?_ | refine AWP.label ?_ | refine AWP.goto ?_ | refine Br (fun h => ?_) (fun h => ?_))
    all_goals (try conv => whnf)
    refine finI rfl ?_
    simp [orL, h]
theorem refRank_ok (t : Tm) : Snd 78 [t.pv] [iv (rankI t.k)] := by
  refine sound_pure (Γ := G 13 (fun _ => false) (fun _ => false) (fun _ => false)) (G_ok _ _ _ _) Try.func78 rfl (by decide) rfl rfl rfl ?_
  repeat' ((try conv => whnf); with_reducible first | refine AWP.seq ?_ | refine AWP.region (G_ok _ _ _ _) rfl ?_ | refine AWP.block ?_ | refine AWP.cond rfl ?_ | refine AWP.ret ?_ | refine AWP.skip ?_ | refine AWP.exit ?_ | refine AWP.label ?_ | refine AWP.goto ?_ | refine Br (fun h => ?_) (fun h => ?_))
  all_goals (try conv => whnf)
  all_goals (refine finI rfl ?_; simp at *; simp [rankI, *])


theorem refOrder_ok (a b : Tm) (ha : a.Fit) (hb : b.Fit) : Snd 49 [a.pv, b.pv] [iv (compareT a b)] := by
  have hl : ∀ t : Tm, (t.ts.map Tm.enc).length = t.ts.length := fun t => by simp
  refine sound_pure (Γ := G 85 (fun _ => false) (fun _ => false) (fun _ => false)) (G_ok _ _ _ _) Try.func49 rfl (by decide) rfl rfl rfl ?_
  repeat' ((try conv => whnf); with_reducible first | refine AWP.seq ?_ | refine AWP.region (G_ok _ _ _ _) rfl ?_ | refine AWP.draw (G_ok _ _ _ _) rfl [0, 1, 0, 7, 15, 31] [3, 1, 1, 1] rfl rfl ?_ | refine AWP.draw (G_ok _ _ _ _) rfl [0, 1, 0, 7, 15, 0, 32, 0, 224, 480, 1023, 2047] [10, 1, 1] rfl rfl ?_ | refine AWP.block ?_ | refine AWP.cond rfl ?_ | refine AWP.ret ?_ | refine AWP.skip ?_ | refine AWP.exit ?_ | refine AWP.label ?_ | refine AWP.goto ?_ | refine Br (fun h => ?_) (fun h => ?_))
  refine ⟨_, _, refRank_ok a, ?_⟩
  repeat' ((try conv => whnf); with_reducible first | refine AWP.seq ?_ | refine AWP.region (G_ok _ _ _ _) rfl ?_ | refine AWP.draw (G_ok _ _ _ _) rfl [0, 1, 0, 7, 15, 31] [3, 1, 1, 1] rfl rfl ?_ | refine AWP.draw (G_ok _ _ _ _) rfl [0, 1, 0, 7, 15, 0, 32, 0, 224, 480, 1023, 2047] [10, 1, 1] rfl rfl ?_ | refine AWP.block ?_ | refine AWP.cond rfl ?_ | refine AWP.ret ?_ | refine AWP.skip ?_ | refine AWP.exit ?_ | refine AWP.label ?_ | refine AWP.goto ?_ | refine Br (fun h => ?_) (fun h => ?_))
  refine ⟨_, _, refRank_ok b, ?_⟩
  repeat' ((try conv => whnf); with_reducible first | refine AWP.seq ?_ | refine AWP.region (G_ok _ _ _ _) rfl ?_ | refine AWP.draw (G_ok _ _ _ _) rfl [0, 1, 0, 7, 15, 31] [3, 1, 1, 1] rfl rfl ?_ | refine AWP.draw (G_ok _ _ _ _) rfl [0, 1, 0, 7, 15, 0, 32, 0, 224, 480, 1023, 2047] [10, 1, 1] rfl rfl ?_ | refine AWP.block ?_ | refine AWP.cond rfl ?_ | refine AWP.ret ?_ | refine AWP.skip ?_ | refine AWP.exit ?_ | refine AWP.label ?_ | refine AWP.goto ?_ | refine Br (fun h => ?_) (fun h => ?_))
  refine ⟨_, _, refCmp_ok (rankI a.k) (rankI b.k), ?_⟩
  repeat' ((try conv => whnf); with_reducible first | refine AWP.seq ?_ | refine AWP.region (G_ok _ _ _ _) rfl ?_ | refine AWP.draw (G_ok _ _ _ _) rfl [0, 1, 0, 7, 15, 31] [3, 1, 1, 1] rfl rfl ?_ | refine AWP.draw (G_ok _ _ _ _) rfl [0, 1, 0, 7, 15, 0, 32, 0, 224, 480, 1023, 2047] [10, 1, 1] rfl rfl ?_ | refine AWP.block ?_ | refine AWP.cond rfl ?_ | refine AWP.ret ?_ | refine AWP.skip ?_ | refine AWP.exit ?_ | refine AWP.label ?_ | refine AWP.goto ?_ | (refine Br (fun h => ?_) (fun h => ?_) <;> try (exfalso; simp only [decide_eq_true_eq, decide_eq_false_iff_not, beq_iff_eq, beq_eq_false_iff_ne, bne_iff_ne, bne_eq_false_iff_eq, ne_eq, List.length_map, List.length_append, List.length_cons, List.length_nil] at *; omega)))
  all_goals (try conv => whnf)
  · refine finI rfl ?_
    rw [compareT_eq]; simp only [decide_eq_true_eq, decide_eq_false_iff_not, beq_iff_eq, beq_eq_false_iff_ne, bne_iff_ne, bne_eq_false_iff_eq, Bool.not_eq_true', Bool.not_eq_false', ne_eq, List.length_map, List.length_append, List.length_cons, List.length_nil] at *; (repeat first | rw [if_pos (by omega)] | rw [if_neg (by omega)])
  · refine ⟨_, _, refCmp_ok a.i b.i, ?_⟩
    repeat' ((try conv => whnf); with_reducible first | refine AWP.seq ?_ | refine AWP.region (G_ok _ _ _ _) rfl ?_ | refine AWP.draw (G_ok _ _ _ _) rfl [0, 1, 0, 7, 15, 31] [3, 1, 1, 1] rfl rfl ?_ | refine AWP.draw (G_ok _ _ _ _) rfl [0, 1, 0, 7, 15, 0, 32, 0, 224, 480, 1023, 2047] [10, 1, 1] rfl rfl ?_ | refine AWP.block ?_ | refine AWP.cond rfl ?_ | refine AWP.ret ?_ | refine AWP.skip ?_ | refine AWP.exit ?_ | refine AWP.label ?_ | refine AWP.goto ?_ | refine Br (fun h => ?_) (fun h => ?_))
    all_goals (try conv => whnf)
    refine finI rfl ?_
    rw [compareT_eq]; simp only [decide_eq_true_eq, decide_eq_false_iff_not, beq_iff_eq, beq_eq_false_iff_ne, bne_iff_ne, bne_eq_false_iff_eq, Bool.not_eq_true', Bool.not_eq_false', ne_eq, List.length_map, List.length_append, List.length_cons, List.length_nil] at *; (repeat first | rw [if_pos (by omega)] | rw [if_neg (by omega)])
  · refine ⟨_, _, refCmp_ok a.i b.i, ?_⟩
    repeat' ((try conv => whnf); with_reducible first | refine AWP.seq ?_ | refine AWP.region (G_ok _ _ _ _) rfl ?_ | refine AWP.draw (G_ok _ _ _ _) rfl [0, 1, 0, 7, 15, 31] [3, 1, 1, 1] rfl rfl ?_ | refine AWP.draw (G_ok _ _ _ _) rfl [0, 1, 0, 7, 15, 0, 32, 0, 224, 480, 1023, 2047] [10, 1, 1] rfl rfl ?_ | refine AWP.block ?_ | refine AWP.cond rfl ?_ | refine AWP.ret ?_ | refine AWP.skip ?_ | refine AWP.exit ?_ | refine AWP.label ?_ | refine AWP.goto ?_ | refine Br (fun h => ?_) (fun h => ?_))
    all_goals (try conv => whnf)
    refine finI rfl ?_
    rw [compareT_eq]; simp only [decide_eq_true_eq, decide_eq_false_iff_not, beq_iff_eq, beq_eq_false_iff_ne, bne_iff_ne, bne_eq_false_iff_eq, Bool.not_eq_true', Bool.not_eq_false', ne_eq, List.length_map, List.length_append, List.length_cons, List.length_nil] at *; (repeat first | rw [if_pos (by omega)] | rw [if_neg (by omega)])
  · refine ⟨_, _, refCompareC_ok a.re a.im b.re b.im, ?_⟩
    repeat' ((try conv => whnf); with_reducible first | refine AWP.seq ?_ | refine AWP.region (G_ok _ _ _ _) rfl ?_ | refine AWP.draw (G_ok _ _ _ _) rfl [0, 1, 0, 7, 15, 31] [3, 1, 1, 1] rfl rfl ?_ | refine AWP.draw (G_ok _ _ _ _) rfl [0, 1, 0, 7, 15, 0, 32, 0, 224, 480, 1023, 2047] [10, 1, 1] rfl rfl ?_ | refine AWP.block ?_ | refine AWP.cond rfl ?_ | refine AWP.ret ?_ | refine AWP.skip ?_ | refine AWP.exit ?_ | refine AWP.label ?_ | refine AWP.goto ?_ | refine Br (fun h => ?_) (fun h => ?_))
    all_goals (try conv => whnf)
    refine finI rfl ?_
    rw [compareT_eq]; simp only [decide_eq_true_eq, decide_eq_false_iff_not, beq_iff_eq, beq_eq_false_iff_ne, bne_iff_ne, bne_eq_false_iff_eq, Bool.not_eq_true', Bool.not_eq_false', ne_eq, List.length_map, List.length_append, List.length_cons, List.length_nil] at *; (repeat first | rw [if_pos (by omega)] | rw [if_neg (by omega)])
  · refine ⟨_, _, refText_ok a.n b.n, ?_⟩
    repeat' ((try conv => whnf); with_reducible first | refine AWP.seq ?_ | refine AWP.region (G_ok _ _ _ _) rfl ?_ | refine AWP.draw (G_ok _ _ _ _) rfl [0, 1, 0, 7, 15, 31] [3, 1, 1, 1] rfl rfl ?_ | refine AWP.draw (G_ok _ _ _ _) rfl [0, 1, 0, 7, 15, 0, 32, 0, 224, 480, 1023, 2047] [10, 1, 1] rfl rfl ?_ | refine AWP.block ?_ | refine AWP.cond rfl ?_ | refine AWP.ret ?_ | refine AWP.skip ?_ | refine AWP.exit ?_ | refine AWP.label ?_ | refine AWP.goto ?_ | refine Br (fun h => ?_) (fun h => ?_))
    all_goals (try conv => whnf)
    refine finI rfl ?_
    rw [compareT_eq]; simp only [decide_eq_true_eq, decide_eq_false_iff_not, beq_iff_eq, beq_eq_false_iff_ne, bne_iff_ne, bne_eq_false_iff_eq, Bool.not_eq_true', Bool.not_eq_false', ne_eq, List.length_map, List.length_append, List.length_cons, List.length_nil] at *; (repeat first | rw [if_pos (by omega)] | rw [if_neg (by omega)])
  refine ⟨_, _, (by have := refCmp_ok a.ts.length b.ts.length; rw [← hl a, ← hl b] at this; exact this), ?_⟩
  repeat' ((try conv => whnf); with_reducible first | refine AWP.seq ?_ | refine AWP.region (G_ok _ _ _ _) rfl ?_ | refine AWP.draw (G_ok _ _ _ _) rfl [0, 1, 0, 7, 15, 31] [3, 1, 1, 1] rfl rfl ?_ | refine AWP.draw (G_ok _ _ _ _) rfl [0, 1, 0, 7, 15, 0, 32, 0, 224, 480, 1023, 2047] [10, 1, 1] rfl rfl ?_ | refine AWP.block ?_ | refine AWP.cond rfl ?_ | refine AWP.ret ?_ | refine AWP.skip ?_ | refine AWP.exit ?_ | refine AWP.label ?_ | refine AWP.goto ?_ | (refine Br (fun h => ?_) (fun h => ?_) <;> try (exfalso; simp only [decide_eq_true_eq, decide_eq_false_iff_not, beq_iff_eq, beq_eq_false_iff_ne, bne_iff_ne, bne_eq_false_iff_eq, ne_eq, List.length_map, List.length_append, List.length_cons, List.length_nil] at *; omega)))
  all_goals (try conv => whnf)
  · refine finI rfl ?_
    rw [hl, hl] at h ⊢
    rw [compareT_eq]; simp only [orL]; simp only [decide_eq_true_eq, decide_eq_false_iff_not, beq_iff_eq, beq_eq_false_iff_ne, bne_iff_ne, bne_eq_false_iff_eq, Bool.not_eq_true', Bool.not_eq_false', ne_eq, List.length_map, List.length_append, List.length_cons, List.length_nil] at *; (repeat first | rw [if_pos (by omega)] | rw [if_neg (by omega)])
  refine ⟨_, _, refText_ok a.n b.n, ?_⟩
  repeat' ((try conv => whnf); with_reducible first | refine AWP.seq ?_ | refine AWP.region (G_ok _ _ _ _) rfl ?_ | refine AWP.draw (G_ok _ _ _ _) rfl [0, 1, 0, 7, 15, 31] [3, 1, 1, 1] rfl rfl ?_ | refine AWP.draw (G_ok _ _ _ _) rfl [0, 1, 0, 7, 15, 0, 32, 0, 224, 480, 1023, 2047] [10, 1, 1] rfl rfl ?_ | refine AWP.block ?_ | refine AWP.cond rfl ?_ | refine AWP.ret ?_ | refine AWP.skip ?_ | refine AWP.exit ?_ | refine AWP.label ?_ | refine AWP.goto ?_ | (refine Br (fun h => ?_) (fun h => ?_) <;> try (exfalso; simp only [decide_eq_true_eq, decide_eq_false_iff_not, beq_iff_eq, beq_eq_false_iff_ne, bne_iff_ne, bne_eq_false_iff_eq, ne_eq, List.length_map, List.length_append, List.length_cons, List.length_nil] at *; omega)))
  all_goals (try conv => whnf)
  · refine finI rfl ?_
    rename_i h9
    rw [hl, hl] at h9
    rw [compareT_eq]; simp only [orL]; simp only [decide_eq_true_eq, decide_eq_false_iff_not, beq_iff_eq, beq_eq_false_iff_ne, bne_iff_ne, bne_eq_false_iff_eq, Bool.not_eq_true', Bool.not_eq_false', ne_eq, List.length_map, List.length_append, List.length_cons, List.length_nil] at *; (repeat first | rw [if_pos (by omega)] | rw [if_neg (by omega)])
  rename_i g0 g1 g2 g3 g4 g5
  have g5' : cmpI (a.ts.length : Int) (b.ts.length : Int) = 0 := by
    rw [hl, hl] at g5
    simpa using g5
  have hlen : a.ts.length = b.ts.length := by
    unfold cmpI at g5'
    (repeat' split at g5') <;> omega
  have heq : compareT a b = compareL a.ts b.ts := by
    simp at g0 g1 g2 g3 g4 h
    rw [compareT_eq, if_neg (by simpa using g0), if_neg (by omega), if_neg g3, if_neg g4, if_neg]
    simp [orL, g5', h]
  have hal := ha.len
  refine AWP.loop (fun m st => ∃ j : Nat, m = a.ts.length - j ∧ j ≤ a.ts.length ∧ Has st [(2, .ptr 102 0 0), (3, .ptr 103 0 0), (66, iv (a.ts.map Tm.enc).length), (67, iv j)] [(102, .cell a.cells), (103, .cell b.cells)] ∧ compareL (a.ts.drop j) (b.ts.drop j) = compareL a.ts b.ts) a.ts.length ⟨0, rfl, Nat.zero_le _, ⟨⟨rfl, rfl, rfl, rfl, trivial⟩, ⟨rfl, rfl, trivial⟩⟩, rfl⟩ ?_
  rintro m st ⟨j, rfl, hj, hst, hr⟩
  obtain ⟨f, H, rfl⟩ := hst.canon
  repeat' ((try conv => whnf); with_reducible first | refine AWP.seq ?_ | refine AWP.region (G_ok _ _ _ _) rfl ?_ | refine AWP.draw (G_ok _ _ _ _) rfl [0, 1, 0, 7, 15, 31] [3, 1, 1, 1] rfl rfl ?_ | refine AWP.draw (G_ok _ _ _ _) rfl [0, 1, 0, 7, 15, 0, 32, 0, 224, 480, 1023, 2047] [10, 1, 1] rfl rfl ?_ | refine AWP.block ?_ | refine AWP.cond rfl ?_ | refine AWP.ret ?_ | refine AWP.skip ?_ | refine AWP.exit ?_ | refine AWP.label ?_ | refine AWP.goto ?_ | refine Br (fun h => ?_) (fun h => ?_))
  all_goals (try conv => whnf)
  · have hj2 : j < a.ts.length := by simpa using h
    have hj3 : j < b.ts.length := by omega
    have hd : a.ts.drop j = a.ts[j] :: a.ts.drop (j + 1) := List.drop_eq_getElem_cons hj2
    have hd2 : b.ts.drop j = b.ts[j] :: b.ts.drop (j + 1) := List.drop_eq_getElem_cons hj3
    rw [hd, hd2, compareL] at hr
    have hmem : a.ts[j] ∈ a.ts := List.getElem_mem hj2
    have hmem2 : b.ts[j] ∈ b.ts := List.getElem_mem hj3
    refine ⟨by omega, (a.ts[j]).cells, by simp [hj2, Tm.enc_eq], ?_⟩
    repeat' ((try conv => whnf); with_reducible first | refine AWP.seq ?_ | refine AWP.region (G_ok _ _ _ _) rfl ?_ | refine AWP.draw (G_ok _ _ _ _) rfl [0, 1, 0, 7, 15, 31] [3, 1, 1, 1] rfl rfl ?_ | refine AWP.draw (G_ok _ _ _ _) rfl [0, 1, 0, 7, 15, 0, 32, 0, 224, 480, 1023, 2047] [10, 1, 1] rfl rfl ?_ | refine AWP.block ?_ | refine AWP.cond rfl ?_ | refine AWP.ret ?_ | refine AWP.skip ?_ | refine AWP.exit ?_ | refine AWP.label ?_ | refine AWP.goto ?_ | refine Br (fun h => ?_) (fun h => ?_))
    all_goals (try conv => whnf)
    refine ⟨by omega, (b.ts[j]).cells, by simp [hj3, Tm.enc_eq], ?_⟩
    repeat' ((try conv => whnf); with_reducible first | refine AWP.seq ?_ | refine AWP.region (G_ok _ _ _ _) rfl ?_ | refine AWP.draw (G_ok _ _ _ _) rfl [0, 1, 0, 7, 15, 31] [3, 1, 1, 1] rfl rfl ?_ | refine AWP.draw (G_ok _ _ _ _) rfl [0, 1, 0, 7, 15, 0, 32, 0, 224, 480, 1023, 2047] [10, 1, 1] rfl rfl ?_ | refine AWP.block ?_ | refine AWP.cond rfl ?_ | refine AWP.ret ?_ | refine AWP.skip ?_ | refine AWP.exit ?_ | refine AWP.label ?_ | refine AWP.goto ?_ | refine Br (fun h => ?_) (fun h => ?_))
    all_goals (try conv => whnf)
    refine ⟨_, _, refOrder_ok a.ts[j] b.ts[j] (ha.arg _ hmem) (hb.arg _ hmem2), ?_⟩
    repeat' ((try conv => whnf); with_reducible first | refine AWP.seq ?_ | refine AWP.region (G_ok _ _ _ _) rfl ?_ | refine AWP.draw (G_ok _ _ _ _) rfl [0, 1, 0, 7, 15, 31] [3, 1, 1, 1] rfl rfl ?_ | refine AWP.draw (G_ok _ _ _ _) rfl [0, 1, 0, 7, 15, 0, 32, 0, 224, 480, 1023, 2047] [10, 1, 1] rfl rfl ?_ | refine AWP.block ?_ | refine AWP.cond rfl ?_ | refine AWP.ret ?_ | refine AWP.skip ?_ | refine AWP.exit ?_ | refine AWP.label ?_ | refine AWP.goto ?_ | refine Br (fun h => ?_) (fun h => ?_))
    all_goals (try conv => whnf)
    · refine finI rfl ?_
      simp at h
      rw [heq, ← hr, if_pos h]
    · have hw : IntKind.i64.wrap ((j : Int) + 1) = ((j + 1 : Nat) : Int) := i64_of (by omega) (by omega)
      refine ⟨a.ts.length - (j + 1), by omega, j + 1, rfl, hj2, ⟨⟨rfl, rfl, rfl, by show PV.s (.int .i64 (IntKind.i64.wrap ((j : Int) + 1))) = _; rw [hw], trivial⟩, ⟨rfl, rfl, trivial⟩⟩, ?_⟩
      rw [← hr, if_neg (by simpa using h)]
  · have hj2 : j = a.ts.length := by simp at h; omega
    refine finI rfl ?_
    rw [heq, ← hr, hj2, List.drop_eq_nil_of_le (Nat.le_refl _), List.drop_eq_nil_of_le (by omega)]
    simp [compareL]
termination_by a
decreasing_by exact Tm.size_lt hmem

theorem refCompare_ok (a b : Tm) (ha : a.Fit) (hb : b.Fit) : Snd 23 [a.pv, b.pv] [iv (compareP a b)] := by
  have ra := refMay_ok a ha
  have rb := refMay_ok b hb
  rw [mayP_ref] at ra rb
  refine sound_pure (Γ := G 16 (fun _ => false) (fun _ => false) (fun _ => false)) (G_ok _ _ _ _) Try.func23 rfl (by decide) rfl rfl rfl ?_
  repeat' ((try conv => whnf); with_reducible first | refine AWP.seq ?_ | refine AWP.region (G_ok _ _ _ _) rfl ?_ | refine AWP.block ?_ | refine AWP.cond rfl ?_ | refine AWP.ret ?_ | refine AWP.skip ?_ | refine AWP.exit ?_ | refine AWP.label ?_ | refine AWP.goto ?_ | refine Br (fun h => ?_) (fun h => ?_))
  refine ⟨_, _, ra, ?_⟩
  repeat' ((try conv => whnf); with_reducible first | refine AWP.seq ?_ | refine AWP.region (G_ok _ _ _ _) rfl ?_ | refine AWP.block ?_ | refine AWP.cond rfl ?_ | refine AWP.ret ?_ | refine AWP.skip ?_ | refine AWP.exit ?_ | refine AWP.label ?_ | refine AWP.goto ?_ | refine Br (fun h => ?_) (fun h => ?_))
  all_goals (try conv => whnf)
  · simp at h
    rw [compareP, if_pos (.inl h)]
    exact finI rfl rfl
  · simp at h
    refine ⟨_, _, rb, ?_⟩
    repeat' ((try conv => whnf); with_reducible first | refine AWP.seq ?_ | refine AWP.region (G_ok _ _ _ _) rfl ?_ | refine AWP.block ?_ | refine AWP.cond rfl ?_ | refine AWP.ret ?_ | refine AWP.skip ?_ | refine AWP.exit ?_ | refine AWP.label ?_ | refine AWP.goto ?_ | refine Br (fun h => ?_) (fun h => ?_))
    all_goals (try conv => whnf)
    · simp at h
      rw [compareP, if_pos (.inr h)]
      exact finI rfl rfl
    · rename_i h1
      simp at h1 h
      refine ⟨_, _, refOrder_ok a b ha hb, ?_⟩
      repeat' ((try conv => whnf); with_reducible first | refine AWP.seq ?_ | refine AWP.region (G_ok _ _ _ _) rfl ?_ | refine AWP.block ?_ | refine AWP.cond rfl ?_ | refine AWP.ret ?_ | refine AWP.skip ?_ | refine AWP.exit ?_ | refine AWP.label ?_ | refine AWP.goto ?_ | refine Br (fun h => ?_) (fun h => ?_))
      all_goals (try conv => whnf)
      rw [compareP, if_neg (by simp [*])]
      exact finI rfl rfl

theorem compares_ok (a b : Tm) : Snd 4 [a.pv, b.pv] [bv true] := by
  refine sound_pure (Γ := G 22 (fun _ => false) (fun _ => false) (fun _ => false)) (G_ok _ _ _ _) Try.func4 rfl (by decide) rfl rfl rfl ?_
  have hL := refLight_ok [a, b] (by simp)
  simp only [tsv, List.map, Tm.enc_eq] at hL
  repeat' ((try conv => whnf); with_reducible first | refine AWP.seq ?_ | refine AWP.region (G_ok _ _ _ _) rfl ?_ | refine AWP.draw (G_ok _ _ _ _) rfl [0, 0, 3, 7, 15, 31, 63, 63, 255, 63, 63, 2047, 4095, 8191, 16383, 32767, 65535, 131071] [2, 1, 1, 1, 1, 5, 1, 1, 1, 1, 1, 1, 1] rfl rfl ?_ | refine AWP.block ?_ | refine AWP.cond rfl ?_ | refine AWP.ret ?_ | refine AWP.skip ?_ | refine AWP.exit ?_ | refine AWP.label ?_ | refine AWP.goto ?_ | refine Br (fun h => ?_) (fun h => ?_))
  refine ⟨_, _, hL, ?_⟩
  repeat' ((try conv => whnf); with_reducible first | refine AWP.seq ?_ | refine AWP.region (G_ok _ _ _ _) rfl ?_ | refine AWP.draw (G_ok _ _ _ _) rfl [0, 0, 3, 7, 15, 31, 63, 63, 255, 63, 63, 2047, 4095, 8191, 16383, 32767, 65535, 131071] [2, 1, 1, 1, 1, 5, 1, 1, 1, 1, 1, 1, 1] rfl rfl ?_ | refine AWP.block ?_ | refine AWP.cond rfl ?_ | refine AWP.ret ?_ | refine AWP.skip ?_ | refine AWP.exit ?_ | refine AWP.label ?_ | refine AWP.goto ?_ | refine Br (fun h => ?_) (fun h => ?_))
  all_goals (try conv => whnf)
  · refine finB rfl ?_
    simp at h ⊢
  simp at h
  have hfa := lightF_fit _ _ _ h a (by simp)
  have hfb := lightF_fit _ _ _ h b (by simp)
  refine ⟨_, _, ocompare_ok a b hfa hfb, ?_⟩
  repeat' ((try conv => whnf); with_reducible first | refine AWP.seq ?_ | refine AWP.region (G_ok _ _ _ _) rfl ?_ | refine AWP.draw (G_ok _ _ _ _) rfl [0, 0, 3, 7, 15, 31, 63, 63, 255, 63, 63, 2047, 4095, 8191, 16383, 32767, 65535, 131071] [2, 1, 1, 1, 1, 5, 1, 1, 1, 1, 1, 1, 1] rfl rfl ?_ | refine AWP.block ?_ | refine AWP.cond rfl ?_ | refine AWP.ret ?_ | refine AWP.skip ?_ | refine AWP.exit ?_ | refine AWP.label ?_ | refine AWP.goto ?_ | refine Br (fun h => ?_) (fun h => ?_))
  all_goals (try conv => whnf)
  refine ⟨_, _, refCompare_ok a b hfa hfb, ?_⟩
  repeat' ((try conv => whnf); with_reducible first | refine AWP.seq ?_ | refine AWP.region (G_ok _ _ _ _) rfl ?_ | refine AWP.draw (G_ok _ _ _ _) rfl [0, 0, 3, 7, 15, 31, 63, 63, 255, 63, 63, 2047, 4095, 8191, 16383, 32767, 65535, 131071] [2, 1, 1, 1, 1, 5, 1, 1, 1, 1, 1, 1, 1] rfl rfl ?_ | refine AWP.block ?_ | refine AWP.cond rfl ?_ | refine AWP.ret ?_ | refine AWP.skip ?_ | refine AWP.exit ?_ | refine AWP.label ?_ | refine AWP.goto ?_ | refine Br (fun h => ?_) (fun h => ?_))
  all_goals (try conv => whnf)
  · refine ⟨_, _, awake9_ok, ?_⟩
    repeat' ((try conv => whnf); with_reducible first | refine AWP.seq ?_ | refine AWP.region (G_ok _ _ _ _) rfl ?_ | refine AWP.draw (G_ok _ _ _ _) rfl [0, 0, 3, 7, 15, 31, 63, 63, 255, 63, 63, 2047, 4095, 8191, 16383, 32767, 65535, 131071] [2, 1, 1, 1, 1, 5, 1, 1, 1, 1, 1, 1, 1] rfl rfl ?_ | refine AWP.block ?_ | refine AWP.cond rfl ?_ | refine AWP.ret ?_ | refine AWP.skip ?_ | refine AWP.exit ?_ | refine AWP.label ?_ | refine AWP.goto ?_ | refine Br (fun h => ?_) (fun h => ?_))
    all_goals (try conv => whnf)
    exact finB rfl rfl
  · simp at h

theorem compares_row (a b : Tm) {p q : Prop} (_ : p) (_ : q) : Snd 4 [a.pv, b.pv] [bv true] := compares_ok a b

end Go.Vai

/- The order of terms: the other way round, and it goes on. No condition. -/
namespace Go.Vai
open Go.Proofs

/-- One of three answers. -/
def R1 (x : Int) : Prop := -1 ≤ x ∧ x ≤ 1
/-- Three answers that fit: of a and b; of b and c; of a and c. -/
def Tri (x y z : Int) : Prop := R1 x ∧ R1 y ∧ R1 z ∧ (x ≤ 0 → y ≤ 0 → z ≤ 0 ∧ (x < 0 ∨ y < 0 → z < 0)) ∧ (0 ≤ x → 0 ≤ y → 0 ≤ z ∧ (0 < x ∨ 0 < y → 0 < z))
def lexI (x y : Int) : Int := if x ≠ 0 then x else y
theorem lexI_r {x y : Int} (hx : R1 x) (hy : R1 y) : R1 (lexI x y) := by unfold lexI; split <;> assumption
theorem lexI_tri {x y z x' y' z' : Int} (h : Tri x y z) (rx : R1 x') (ry : R1 y') (rz : R1 z') (h' : x = 0 → y = 0 → z = 0 → Tri x' y' z') : Tri (lexI x x') (lexI y y') (lexI z z') := by
  by_cases e : x = 0 ∧ y = 0 ∧ z = 0
  · obtain ⟨rfl, rfl, rfl⟩ := e
    exact h' rfl rfl rfl
  · unfold Tri R1 lexI at *
    refine ⟨?_, ?_, ?_, ?_, ?_⟩ <;> (repeat' split) <;> omega
theorem lexI_anti {x y : Int} : lexI (-x) (-y) = - lexI x y := by
  unfold lexI; (repeat' split) <;> omega

theorem cmpI_r (a b : Int) : R1 (cmpI a b) := by unfold cmpI R1; (repeat' split) <;> omega
theorem cmpI_anti (a b : Int) : cmpI b a = - cmpI a b := by unfold cmpI; (repeat' split) <;> omega
theorem cmpI_tri (a b c : Int) : Tri (cmpI a b) (cmpI b c) (cmpI a c) := by
  unfold Tri R1 cmpI
  refine ⟨?_, ?_, ?_, ?_, ?_⟩ <;> (repeat' split) <;> omega
theorem cmpI_zero {a b : Int} : cmpI a b = 0 ↔ a = b := by unfold cmpI; (repeat' split) <;> omega

theorem cmpS_r (a b : ByteArray) : R1 (cmpS a b) := by unfold cmpS R1; (repeat' split) <;> omega
theorem cmpS_self (a : ByteArray) : cmpS a a = 0 := by simp [cmpS, less_irr]
theorem cmpS_cases (a b : ByteArray) : (cmpS a b = -1 ∧ Op.bytesLess a.toList b.toList = true) ∨ (cmpS a b = 0 ∧ a.toList = b.toList) ∨ (cmpS a b = 1 ∧ Op.bytesLess b.toList a.toList = true) := by
  unfold cmpS
  cases h : Op.bytesLess a.toList b.toList with
  | true => exact .inl ⟨by simp, rfl⟩
  | false =>
    by_cases e : a.toList = b.toList
    · exact .inr (.inl ⟨by simp [e], e⟩)
    · refine .inr (.inr ⟨by simp [e], ?_⟩)
      cases h2 : Op.bytesLess b.toList a.toList with
      | true => rfl
      | false => exact absurd (less_tri h h2) e
theorem cmpS_zero {a b : ByteArray} : cmpS a b = 0 ↔ a.toList = b.toList := by
  rcases cmpS_cases a b with ⟨h, h2⟩ | ⟨h, h2⟩ | ⟨h, h2⟩
  · refine ⟨fun e => by omega, fun e => ?_⟩
    rw [e, less_irr] at h2; cases h2
  · exact ⟨fun _ => h2, fun _ => h⟩
  · refine ⟨fun e => by omega, fun e => ?_⟩
    rw [e, less_irr] at h2; cases h2
theorem cmpS_lt {a b : ByteArray} (h : Op.bytesLess a.toList b.toList = true) : cmpS a b = -1 := by simp [cmpS, h]
theorem cmpS_gt {a b : ByteArray} (h : Op.bytesLess b.toList a.toList = true) : cmpS a b = 1 := by
  have h1 := less_asymm h
  have h2 : a.toList ≠ b.toList := fun e => by rw [e, less_irr] at h; cases h
  simp [cmpS, h1, h2]
theorem cmpS_eq {a b : ByteArray} (h : a.toList = b.toList) : cmpS a b = 0 := cmpS_zero.2 h
theorem cmpS_anti (a b : ByteArray) : cmpS b a = - cmpS a b := by
  rcases cmpS_cases a b with ⟨h, h2⟩ | ⟨h, h2⟩ | ⟨h, h2⟩
  · rw [h, cmpS_gt h2]; rfl
  · rw [h, cmpS_eq h2.symm]; rfl
  · rw [h, cmpS_lt h2]
theorem cmpS_tri (a b c : ByteArray) : Tri (cmpS a b) (cmpS b c) (cmpS a c) := by
  have ra := cmpS_r a b
  have rb := cmpS_r b c
  have rc := cmpS_r a c
  rcases cmpS_cases a b with ⟨h, h2⟩ | ⟨h, h2⟩ | ⟨h, h2⟩ <;> rcases cmpS_cases b c with ⟨g, g2⟩ | ⟨g, g2⟩ | ⟨g, g2⟩
  · have e := cmpS_lt (less_trans h2 g2); rw [h, g, e]; unfold Tri R1; omega
  · have e : cmpS a c = -1 := cmpS_lt (by rw [← g2]; exact h2)
    rw [h, g, e]; unfold Tri R1; omega
  · unfold Tri R1 at *; omega
  · have e : cmpS a c = -1 := cmpS_lt (by rw [h2]; exact g2)
    rw [h, g, e]; unfold Tri R1; omega
  · have e : cmpS a c = 0 := cmpS_eq (h2.trans g2)
    rw [h, g, e]; unfold Tri R1; omega
  · have e : cmpS a c = 1 := cmpS_gt (by rw [h2]; exact g2)
    rw [h, g, e]; unfold Tri R1; omega
  · unfold Tri R1 at *; omega
  · have e : cmpS a c = 1 := cmpS_gt (by rw [← g2]; exact h2)
    rw [h, g, e]; unfold Tri R1; omega
  · have e := cmpS_gt (less_trans g2 h2); rw [h, g, e]; unfold Tri R1; omega

theorem orL2 (x y : Int) : orL [x, y] = lexI x y := by
  unfold lexI; simp only [orL]; (repeat' split) <;> omega

/-- What decides between terms whose kinds do not. -/
def bodyC (a b : Tm) : Int :=
  if a.k = 1 ∨ a.k = 3 then cmpI a.i b.i
  else if a.k = 4 then lexI (cmpI a.re b.re) (cmpI a.im b.im)
  else if a.k = 2 then cmpS a.n b.n
  else lexI (lexI (cmpI a.ts.length b.ts.length) (cmpS a.n b.n)) (compareL a.ts b.ts)
theorem compareT_lex (a b : Tm) : compareT a b = lexI (cmpI (rankI a.k) (rankI b.k)) (bodyC a b) := by
  rw [compareT_eq, orL2, orL2]; rfl
theorem compareL_nil (ys : List Tm) : compareL [] ys = if 0 < ys.length then -1 else 0 := by rw [compareL]
theorem compareL_nil2 (x : Tm) (r : List Tm) : compareL (x :: r) [] = 1 := by rw [compareL]
theorem compareL_cons (x y : Tm) (r s : List Tm) : compareL (x :: r) (y :: s) = lexI (compareT x y) (compareL r s) := by rw [compareL]; rfl

theorem compareL_r {xs : List Tm} (h : ∀ x ∈ xs, ∀ y, R1 (compareT x y)) : ∀ ys, R1 (compareL xs ys) := by
  induction xs with
  | nil => intro ys; rw [compareL_nil]; unfold R1; split <;> omega
  | cons x r ih =>
    intro ys
    cases ys with
    | nil => rw [compareL_nil2]; unfold R1; omega
    | cons y s =>
      rw [compareL_cons]
      exact lexI_r (h x (List.mem_cons_self ..) y) (ih (fun u hu => h u (List.mem_cons_of_mem _ hu)) s)
theorem bodyC_r {a : Tm} (h : ∀ x ∈ a.ts, ∀ y, R1 (compareT x y)) (b : Tm) : R1 (bodyC a b) := by
  unfold bodyC
  split
  · exact cmpI_r _ _
  split
  · exact lexI_r (cmpI_r _ _) (cmpI_r _ _)
  split
  · exact cmpS_r _ _
  · exact lexI_r (lexI_r (cmpI_r _ _) (cmpS_r _ _)) (compareL_r h _)
theorem compareT_r (a b : Tm) : R1 (compareT a b) := by
  rw [compareT_lex]
  exact lexI_r (cmpI_r _ _) (bodyC_r (fun x hx y => compareT_r x y) b)
termination_by a
decreasing_by exact Tm.size_lt hx
theorem compareL_r1 (xs ys : List Tm) : R1 (compareL xs ys) := compareL_r (fun x _ y => compareT_r x y) ys
theorem bodyC_r1 (a b : Tm) : R1 (bodyC a b) := bodyC_r (fun x _ y => compareT_r x y) b

theorem rank_eq {k k' : Int} (h : rankI k = rankI k') : k = k' ∨ (k ≠ 1 ∧ k ≠ 2 ∧ k ≠ 3 ∧ k ≠ 4 ∧ k' ≠ 1 ∧ k' ≠ 2 ∧ k' ≠ 3 ∧ k' ≠ 4) := by
  unfold rankI at h
  split at h <;> (repeat' split at h) <;> omega
theorem rank_same {k k' : Int} (h : rankI k = rankI k') : (k = 1 ↔ k' = 1) ∧ (k = 2 ↔ k' = 2) ∧ (k = 3 ↔ k' = 3) ∧ (k = 4 ↔ k' = 4) := by
  rcases rank_eq h with rfl | h
  · simp
  · omega

theorem compareL_tri {xs : List Tm} (h : ∀ x ∈ xs, ∀ y z, Tri (compareT x y) (compareT y z) (compareT x z)) : ∀ ys zs, Tri (compareL xs ys) (compareL ys zs) (compareL xs zs) := by
  induction xs with
  | nil =>
    intro ys zs
    cases ys with
    | nil =>
      cases zs with
      | nil => simp only [compareL_nil]; unfold Tri R1; simp
      | cons z q => simp only [compareL_nil]; unfold Tri R1; simp
    | cons y s =>
      cases zs with
      | nil => simp only [compareL_nil, compareL_nil2]; unfold Tri R1; simp
      | cons z q =>
        have := compareL_r1 (y :: s) (z :: q)
        simp only [compareL_nil]; unfold Tri R1 at *; simp; omega
  | cons x r ih =>
    intro ys zs
    cases ys with
    | nil =>
      cases zs with
      | nil => simp only [compareL_nil, compareL_nil2]; unfold Tri R1; simp
      | cons z q =>
        have := compareL_r1 (x :: r) (z :: q)
        simp only [compareL_nil, compareL_nil2]; unfold Tri R1 at *; simp; omega
    | cons y s =>
      cases zs with
      | nil =>
        have := compareL_r1 (x :: r) (y :: s)
        simp only [compareL_nil2]; unfold Tri R1 at *; omega
      | cons z q =>
        simp only [compareL_cons]
        exact lexI_tri (h x (List.mem_cons_self ..) y z) (compareL_r1 _ _) (compareL_r1 _ _) (compareL_r1 _ _) (fun _ _ _ => ih (fun u hu => h u (List.mem_cons_of_mem _ hu)) s q)
theorem compareT_tri (a b c : Tm) : Tri (compareT a b) (compareT b c) (compareT a c) := by
  rw [compareT_lex a b, compareT_lex b c, compareT_lex a c]
  refine lexI_tri (cmpI_tri _ _ _) (bodyC_r1 _ _) (bodyC_r1 _ _) (bodyC_r1 _ _) (fun h1 h2 h3 => ?_)
  have e := rank_same (cmpI_zero.1 h1)
  unfold bodyC
  by_cases h13 : a.k = 1 ∨ a.k = 3
  · have : b.k = 1 ∨ b.k = 3 := by omega
    simp only [if_pos h13, if_pos this]
    exact cmpI_tri _ _ _
  have n13 : ¬ (b.k = 1 ∨ b.k = 3) := by omega
  simp only [if_neg h13, if_neg n13]
  by_cases h4 : a.k = 4
  · have : b.k = 4 := by omega
    simp only [if_pos h4, if_pos this]
    exact lexI_tri (cmpI_tri _ _ _) (cmpI_r _ _) (cmpI_r _ _) (cmpI_r _ _) (fun _ _ _ => cmpI_tri _ _ _)
  have n4 : ¬ b.k = 4 := by omega
  simp only [if_neg h4, if_neg n4]
  by_cases h2 : a.k = 2
  · have : b.k = 2 := by omega
    simp only [if_pos h2, if_pos this]
    exact cmpS_tri _ _ _
  have n2 : ¬ b.k = 2 := by omega
  simp only [if_neg h2, if_neg n2]
  exact lexI_tri (lexI_tri (cmpI_tri _ _ _) (cmpS_r _ _) (cmpS_r _ _) (cmpS_r _ _) (fun _ _ _ => cmpS_tri _ _ _)) (compareL_r1 _ _) (compareL_r1 _ _) (compareL_r1 _ _) (fun _ _ _ => compareL_tri (fun x hx y z => compareT_tri x y z) _ _)
termination_by a
decreasing_by exact Tm.size_lt hx

theorem compareL_anti {xs : List Tm} (h : ∀ x ∈ xs, ∀ y, compareT y x = - compareT x y) : ∀ ys, compareL ys xs = - compareL xs ys := by
  induction xs with
  | nil =>
    intro ys
    cases ys with
    | nil => simp [compareL_nil]
    | cons y s => rw [compareL_nil, compareL_nil2]; simp
  | cons x r ih =>
    intro ys
    cases ys with
    | nil => rw [compareL_nil, compareL_nil2]; simp
    | cons y s =>
      rw [compareL_cons, compareL_cons, h x (List.mem_cons_self ..) y, ih (fun u hu => h u (List.mem_cons_of_mem _ hu)) s]
      exact lexI_anti
theorem lexI_anti' {x y x' y' : Int} (hx : x' = -x) (hy : x = 0 → y' = -y) : lexI x' y' = - lexI x y := by
  subst hx
  unfold lexI
  by_cases e : x = 0
  · have := hy e; subst e; simp [this]
  · have : -x ≠ 0 := by omega
    rw [if_pos e, if_pos this]
theorem compareT_anti (a b : Tm) : compareT b a = - compareT a b := by
  rw [compareT_lex a b, compareT_lex b a]
  refine lexI_anti' (cmpI_anti _ _) (fun h1 => ?_)
  have e := rank_same (cmpI_zero.1 h1)
  unfold bodyC
  by_cases h13 : a.k = 1 ∨ a.k = 3
  · have : b.k = 1 ∨ b.k = 3 := by omega
    simp only [if_pos h13, if_pos this]
    exact cmpI_anti _ _
  have n13 : ¬ (b.k = 1 ∨ b.k = 3) := by omega
  simp only [if_neg h13, if_neg n13]
  by_cases h4 : a.k = 4
  · have : b.k = 4 := by omega
    simp only [if_pos h4, if_pos this]
    exact lexI_anti' (cmpI_anti _ _) (fun _ => cmpI_anti _ _)
  have n4 : ¬ b.k = 4 := by omega
  simp only [if_neg h4, if_neg n4]
  by_cases h2 : a.k = 2
  · have : b.k = 2 := by omega
    simp only [if_pos h2, if_pos this]
    exact cmpS_anti _ _
  have n2 : ¬ b.k = 2 := by omega
  simp only [if_neg h2, if_neg n2]
  exact lexI_anti' (lexI_anti' (cmpI_anti _ _) (fun _ => cmpS_anti _ _)) (fun _ => compareL_anti (fun x hx y => compareT_anti x y) _)
termination_by a
decreasing_by exact Tm.size_lt hx
theorem compareT_self (a : Tm) : compareT a a = 0 := by have := compareT_anti a a; omega
theorem compareT_trans {a b c : Tm} (h1 : compareT a b ≤ 0) (h2 : compareT b c ≤ 0) : compareT a c ≤ 0 := ((compareT_tri a b c).2.2.2.1 h1 h2).1
theorem compareT_eq_l {a b : Tm} (h : compareT a b = 0) (c : Tm) : compareT a c = compareT b c := by
  have h1 := compareT_tri a b c
  have h2 := compareT_tri b a c
  have h3 := compareT_anti a b
  unfold Tri R1 at *
  omega
theorem compareT_eq_r {b c : Tm} (h : compareT b c = 0) (a : Tm) : compareT a b = compareT a c := by
  have h1 := compareT_eq_l h a
  have h2 := compareT_anti a b
  have h3 := compareT_anti a c
  omega

/-- Each kind is one of the five, as far as it counts. -/
inductive Tm.Kd : Tm → Prop where
  | mk (k : Int) (n : ByteArray) (i re im : Int) (ts : List Tm) (hk : 1 ≤ k ∧ k ≤ 5) (h : k = 5 → ∀ t ∈ ts, Tm.Kd t) : Tm.Kd (.mk k n i re im ts)
theorem Tm.Kd.k5 {t : Tm} (h : t.Kd) : 1 ≤ t.k ∧ t.k ≤ 5 := by cases h; assumption
theorem Tm.Kd.arg {t : Tm} (h : t.Kd) (h5 : t.k = 5) : ∀ u ∈ t.ts, u.Kd := by cases h with | mk _ _ _ _ _ _ _ h => exact h h5

mutual
theorem walkT_kd : ∀ (t : Tm) (d : Int) (s : Int × Int), (walkT t d s).2 = 0 → s.2 = 0 ∧ t.Kd
  | .mk k n i re im ts, d, s, h => by
    rw [walkT_eq] at h
    split at h
    · rename_i h1; exact absurd h h1
    split at h
    · cases h
    split at h
    · cases h
    rename_i h1 _ hb
    have hs : s.2 = 0 := Classical.byContradiction h1
    have hk : 1 ≤ k ∧ k ≤ 5 := by
      unfold badT at hb
      simp only [Tm.k] at hb
      omega
    split at h
    · cases h
    split at h
    · exact ⟨hs, .mk _ _ _ _ _ _ hk (fun _ => (walkL_kd ts _ _ h).2)⟩
    · rename_i h5
      exact ⟨hs, .mk _ _ _ _ _ _ hk (fun e => absurd e h5)⟩
theorem walkL_kd : ∀ (ts : List Tm) (d : Int) (s : Int × Int), (walkL ts d s).2 = 0 → s.2 = 0 ∧ ∀ t ∈ ts, t.Kd
  | [], _, _, h => ⟨h, fun t ht => by cases ht⟩
  | u :: r, d, s, h => by
    rw [walkL] at h
    have h1 := walkL_kd r d _ h
    have h2 := walkT_kd u d s h1.1
    refine ⟨h2.1, fun t ht => ?_⟩
    rcases List.mem_cons.1 ht with e | ht
    · rw [e]; exact h2.2
    · exact h1.2 t ht
end
theorem mayP_kd {t : Tm} (h : mayP t = 0) : t.Kd := by
  rw [← mayP_ref] at h
  exact (walkT_kd t 1 (0, 0) h).2

mutual
def likeT : Tm → Tm → Bool
  | .mk k n i re im ts, b => if k ≠ b.k then false else if k = 1 ∨ k = 3 then i == b.i else if k = 2 then n.toList == b.n.toList else if k = 4 then re == b.re && im == b.im
    else if ¬ n.toList = b.n.toList ∨ ts.length ≠ b.ts.length then false else likeL ts b.ts
def likeL : List Tm → List Tm → Bool
  | [], _ => true
  | x :: r, ys => match ys with
    | [] => false
    | y :: s => if likeT x y = true then likeL r s else false
end
theorem likeT_eq (a b : Tm) : likeT a b = if a.k ≠ b.k then false else if a.k = 1 ∨ a.k = 3 then a.i == b.i else if a.k = 2 then a.n.toList == b.n.toList else if a.k = 4 then a.re == b.re && a.im == b.im
    else if ¬ a.n.toList = b.n.toList ∨ a.ts.length ≠ b.ts.length then false else likeL a.ts b.ts := by cases a; rw [likeT]; rfl
theorem likeL_cons (x y : Tm) (r s : List Tm) : likeL (x :: r) (y :: s) = if likeT x y = true then likeL r s else false := by rw [likeL]

theorem lexI_zero {x y : Int} : lexI x y = 0 ↔ x = 0 ∧ y = 0 := by unfold lexI; split <;> omega
theorem likeL_zero {xs : List Tm} (h : ∀ x ∈ xs, ∀ y, y.Kd → (likeT x y = true ↔ compareT x y = 0)) : ∀ ys : List Tm, (∀ y ∈ ys, y.Kd) → xs.length = ys.length → (likeL xs ys = true ↔ compareL xs ys = 0) := by
  induction xs with
  | nil =>
    intro ys _ hl
    cases ys with
    | nil => simp [likeL, compareL_nil]
    | cons y s => simp at hl
  | cons x r ih =>
    intro ys hy hl
    cases ys with
    | nil => simp at hl
    | cons y s =>
      rw [likeL_cons, compareL_cons, lexI_zero, ← h x (List.mem_cons_self ..) y (hy y (List.mem_cons_self ..)), ← ih (fun u hu => h u (List.mem_cons_of_mem _ hu)) s (fun u hu => hy u (List.mem_cons_of_mem _ hu)) (by simpa using hl)]
      split <;> simp [*]
theorem likeT_zero (a b : Tm) (ha : a.Kd) (hb : b.Kd) : likeT a b = true ↔ compareT a b = 0 := by
  rw [compareT_lex, lexI_zero, cmpI_zero, likeT_eq]
  have ka := ha.k5
  have kb := hb.k5
  by_cases e : a.k = b.k
  · have e2 : rankI a.k = rankI b.k := by rw [e]
    rw [if_neg (by simp [e])]
    unfold bodyC
    by_cases h13 : a.k = 1 ∨ a.k = 3
    · rw [if_pos h13, if_pos h13, cmpI_zero]; simp [e2]
    rw [if_neg h13, if_neg h13]
    by_cases h2 : a.k = 2
    · rw [if_pos h2, if_neg (by omega), if_pos h2, cmpS_zero]; simp [e2]
    rw [if_neg h2]
    by_cases h4 : a.k = 4
    · rw [if_pos h4, if_pos h4, lexI_zero, cmpI_zero, cmpI_zero]; simp [e2]
    rw [if_neg h4, if_neg h4, if_neg h2, lexI_zero, lexI_zero, cmpI_zero, cmpS_zero]
    by_cases hl : a.ts.length = b.ts.length
    · by_cases hn : a.n.toList = b.n.toList
      · rw [if_neg (by simp [hl, hn])]
        have h5 : a.k = 5 := by omega
        have := likeL_zero (fun x hx y hy => likeT_zero x y (ha.arg h5 x hx) hy) b.ts (hb.arg (by omega)) hl
        rw [this]
        simp [e2, hl, hn]
      · rw [if_pos (.inl hn)]; simp [hn]
    · rw [if_pos (.inr hl)]
      have : ¬ ((a.ts.length : Int) = (b.ts.length : Int)) := by omega
      simp [this]
  · rw [if_pos e]
    have : rankI a.k ≠ rankI b.k := fun h => by
      rcases rank_eq h with h | h
      · exact e h
      · omega
    simp [this]
termination_by a
decreasing_by exact Tm.size_lt hx

end Go.Vai

/- The reference's Like and Same. No condition. -/
namespace Go.Vai
open Go.Proofs

theorem refLike_ok (a b : Tm) (ha : a.Fit) (hb : b.Fit) : Snd 45 [a.pv, b.pv] [bv (likeT a b)] := by
  refine sound_pure (Γ := G 75 (fun _ => false) (fun _ => false) (fun _ => false)) (G_ok _ _ _ _) Try.func45 rfl (by decide) rfl rfl rfl ?_
  repeat' ((try conv => whnf); with_reducible first | refine AWP.seq ?_ | refine AWP.region (G_ok _ _ _ _) rfl ?_ | refine AWP.draw (G_ok _ _ _ _) rfl [0, 1, 0, 7, 15, 0, 32, 0, 224, 480, 1023, 2047] [10, 1, 1] rfl rfl ?_ | refine AWP.block ?_ | refine AWP.cond rfl ?_ | refine AWP.ret ?_ | refine AWP.skip ?_ | refine AWP.exit ?_ | refine AWP.label ?_ | refine AWP.goto ?_ | (refine Br (fun h => ?_) (fun h => ?_) <;> try (exfalso; simp only [decide_eq_true_eq, decide_eq_false_iff_not, beq_iff_eq, beq_eq_false_iff_ne, bne_iff_ne, bne_eq_false_iff_eq, ne_eq, List.length_map, List.length_append, List.length_cons, List.length_nil] at *; omega)))
  all_goals (try conv => whnf)
  · refine finB rfl ?_; rw [likeT_eq]; simp only [decide_eq_true_eq, decide_eq_false_iff_not, beq_iff_eq, beq_eq_false_iff_ne, bne_iff_ne, bne_eq_false_iff_eq, Bool.not_eq_true', Bool.not_eq_false', ne_eq, List.length_map, List.length_append, List.length_cons, List.length_nil] at *; (repeat first | rw [if_pos (by omega)] | rw [if_neg (by omega)])
  · refine finB rfl ?_; rw [likeT_eq]; simp only [decide_eq_true_eq, decide_eq_false_iff_not, beq_iff_eq, beq_eq_false_iff_ne, bne_iff_ne, bne_eq_false_iff_eq, Bool.not_eq_true', Bool.not_eq_false', ne_eq, List.length_map, List.length_append, List.length_cons, List.length_nil] at *; (repeat first | rw [if_pos (by omega)] | rw [if_neg (by omega)])
  · refine finB rfl ?_; rw [likeT_eq]; simp only [decide_eq_true_eq, decide_eq_false_iff_not, beq_iff_eq, beq_eq_false_iff_ne, bne_iff_ne, bne_eq_false_iff_eq, Bool.not_eq_true', Bool.not_eq_false', ne_eq, List.length_map, List.length_append, List.length_cons, List.length_nil] at *; (repeat first | rw [if_pos (by omega)] | rw [if_neg (by omega)])
  · refine finB rfl ?_; rw [likeT_eq]; simp only [decide_eq_true_eq, decide_eq_false_iff_not, beq_iff_eq, beq_eq_false_iff_ne, bne_iff_ne, bne_eq_false_iff_eq, Bool.not_eq_true', Bool.not_eq_false', ne_eq, List.length_map, List.length_append, List.length_cons, List.length_nil] at *; (repeat first | rw [if_pos (by omega)] | rw [if_neg (by omega)])
  · have h9 := h
    refine finB rfl ?_; rw [likeT_eq]; simp only [decide_eq_true_eq, decide_eq_false_iff_not, beq_iff_eq, beq_eq_false_iff_ne, bne_iff_ne, bne_eq_false_iff_eq, Bool.not_eq_true', Bool.not_eq_false', ne_eq, List.length_map, List.length_append, List.length_cons, List.length_nil] at *; (repeat first | rw [if_pos (by omega)] | rw [if_neg (by omega)])
    rw [h9]; simp
  · have h9 := h
    refine finB rfl ?_; rw [likeT_eq]; simp only [decide_eq_true_eq, decide_eq_false_iff_not, beq_iff_eq, beq_eq_false_iff_ne, bne_iff_ne, bne_eq_false_iff_eq, Bool.not_eq_true', Bool.not_eq_false', ne_eq, List.length_map, List.length_append, List.length_cons, List.length_nil] at *; (repeat first | rw [if_pos (by omega)] | rw [if_neg (by omega)])
    simp [*]
  · have h9 := h
    simp at h9
    refine finB rfl ?_; rw [likeT_eq]; simp only [decide_eq_true_eq, decide_eq_false_iff_not, beq_iff_eq, beq_eq_false_iff_ne, bne_iff_ne, bne_eq_false_iff_eq, Bool.not_eq_true', Bool.not_eq_false', ne_eq, List.length_map, List.length_append, List.length_cons, List.length_nil] at *; (repeat first | rw [if_pos (by omega)] | rw [if_neg (by omega)])
    rw [if_pos (.inl (by simpa using h9))]
  · refine finB rfl ?_; rw [likeT_eq]; simp only [decide_eq_true_eq, decide_eq_false_iff_not, beq_iff_eq, beq_eq_false_iff_ne, bne_iff_ne, bne_eq_false_iff_eq, Bool.not_eq_true', Bool.not_eq_false', ne_eq, List.length_map, List.length_append, List.length_cons, List.length_nil] at *; (repeat first | rw [if_pos (by omega)] | rw [if_neg (by omega)])
  rename_i g0 g1 g2 g3 g4 g5
  have hlen : a.ts.length = b.ts.length := by simp only [decide_eq_true_eq, decide_eq_false_iff_not, beq_iff_eq, beq_eq_false_iff_ne, bne_iff_ne, bne_eq_false_iff_eq, Bool.not_eq_true', Bool.not_eq_false', ne_eq, List.length_map, List.length_append, List.length_cons, List.length_nil] at *; omega
  have heq : likeT a b = likeL a.ts b.ts := by
    simp at g0 g1 g2 g3 g4 g5
    rw [likeT_eq, if_neg (by simpa using g0), if_neg (by omega), if_neg g3, if_neg g4, if_neg (by simp [g5, hlen])]
  have hal := ha.len
  refine AWP.loop (fun m st => ∃ j : Nat, m = a.ts.length - j ∧ j ≤ a.ts.length ∧ Has st [(2, .ptr 102 0 0), (3, .ptr 103 0 0), (58, iv (a.ts.map Tm.enc).length), (59, iv j)] [(102, .cell a.cells), (103, .cell b.cells)] ∧ likeL (a.ts.drop j) (b.ts.drop j) = likeL a.ts b.ts) a.ts.length ⟨0, rfl, Nat.zero_le _, ⟨⟨rfl, rfl, rfl, rfl, trivial⟩, ⟨rfl, rfl, trivial⟩⟩, rfl⟩ ?_
  rintro m st ⟨j, rfl, hj, hst, hr⟩
  obtain ⟨f, H, rfl⟩ := hst.canon
  repeat' ((try conv => whnf); with_reducible first | refine AWP.seq ?_ | refine AWP.region (G_ok _ _ _ _) rfl ?_ | refine AWP.draw (G_ok _ _ _ _) rfl [0, 1, 0, 7, 15, 0, 32, 0, 224, 480, 1023, 2047] [10, 1, 1] rfl rfl ?_ | refine AWP.block ?_ | refine AWP.cond rfl ?_ | refine AWP.ret ?_ | refine AWP.skip ?_ | refine AWP.exit ?_ | refine AWP.label ?_ | refine AWP.goto ?_ | refine Br (fun h => ?_) (fun h => ?_))
  all_goals (try conv => whnf)
  · have hj2 : j < a.ts.length := by simpa using h
    have hj3 : j < b.ts.length := by omega
    have hd : a.ts.drop j = a.ts[j] :: a.ts.drop (j + 1) := List.drop_eq_getElem_cons hj2
    have hd2 : b.ts.drop j = b.ts[j] :: b.ts.drop (j + 1) := List.drop_eq_getElem_cons hj3
    rw [hd, hd2, likeL_cons] at hr
    have hmem : a.ts[j] ∈ a.ts := List.getElem_mem hj2
    have hmem2 : b.ts[j] ∈ b.ts := List.getElem_mem hj3
    refine ⟨by omega, (a.ts[j]).cells, by simp [hj2, Tm.enc_eq], ?_⟩
    repeat' ((try conv => whnf); with_reducible first | refine AWP.seq ?_ | refine AWP.region (G_ok _ _ _ _) rfl ?_ | refine AWP.draw (G_ok _ _ _ _) rfl [0, 1, 0, 7, 15, 0, 32, 0, 224, 480, 1023, 2047] [10, 1, 1] rfl rfl ?_ | refine AWP.block ?_ | refine AWP.cond rfl ?_ | refine AWP.ret ?_ | refine AWP.skip ?_ | refine AWP.exit ?_ | refine AWP.label ?_ | refine AWP.goto ?_ | refine Br (fun h => ?_) (fun h => ?_))
    all_goals (try conv => whnf)
    refine ⟨by omega, (b.ts[j]).cells, by simp [hj3, Tm.enc_eq], ?_⟩
    repeat' ((try conv => whnf); with_reducible first | refine AWP.seq ?_ | refine AWP.region (G_ok _ _ _ _) rfl ?_ | refine AWP.draw (G_ok _ _ _ _) rfl [0, 1, 0, 7, 15, 0, 32, 0, 224, 480, 1023, 2047] [10, 1, 1] rfl rfl ?_ | refine AWP.block ?_ | refine AWP.cond rfl ?_ | refine AWP.ret ?_ | refine AWP.skip ?_ | refine AWP.exit ?_ | refine AWP.label ?_ | refine AWP.goto ?_ | refine Br (fun h => ?_) (fun h => ?_))
    all_goals (try conv => whnf)
    refine ⟨_, _, refLike_ok a.ts[j] b.ts[j] (ha.arg _ hmem) (hb.arg _ hmem2), ?_⟩
    repeat' ((try conv => whnf); with_reducible first | refine AWP.seq ?_ | refine AWP.region (G_ok _ _ _ _) rfl ?_ | refine AWP.draw (G_ok _ _ _ _) rfl [0, 1, 0, 7, 15, 0, 32, 0, 224, 480, 1023, 2047] [10, 1, 1] rfl rfl ?_ | refine AWP.block ?_ | refine AWP.cond rfl ?_ | refine AWP.ret ?_ | refine AWP.skip ?_ | refine AWP.exit ?_ | refine AWP.label ?_ | refine AWP.goto ?_ | refine Br (fun h => ?_) (fun h => ?_))
    all_goals (try conv => whnf)
    · refine finB rfl ?_
      simp at h
      rw [heq, ← hr, h]; rfl
    · have hw : IntKind.i64.wrap ((j : Int) + 1) = ((j + 1 : Nat) : Int) := i64_of (by omega) (by omega)
      refine ⟨a.ts.length - (j + 1), by omega, j + 1, rfl, hj2, ⟨⟨rfl, rfl, rfl, by show PV.s (.int .i64 (IntKind.i64.wrap ((j : Int) + 1))) = _; rw [hw], trivial⟩, ⟨rfl, rfl, trivial⟩⟩, ?_⟩
      simp at h
      rw [← hr, if_pos h]
  · have hj2 : j = a.ts.length := by simp at h; omega
    refine finB rfl ?_
    rw [heq, ← hr, hj2, List.drop_eq_nil_of_le (Nat.le_refl _), List.drop_eq_nil_of_le (by omega)]
    simp [likeL]
termination_by a
decreasing_by exact Tm.size_lt hmem

def sameP (a b : Tm) : Bool := mayP a == 0 && mayP b == 0 && likeT a b
theorem refSame_ok (a b : Tm) (ha : a.Fit) (hb : b.Fit) : Snd 17 [a.pv, b.pv] [bv (sameP a b)] := by
  have ra := refMay_ok a ha
  have rb := refMay_ok b hb
  rw [mayP_ref] at ra rb
  refine sound_pure (Γ := G 18 (fun _ => false) (fun _ => false) (fun _ => false)) (G_ok _ _ _ _) Try.func17 rfl (by decide) rfl rfl rfl ?_
  repeat' ((try conv => whnf); with_reducible first | refine AWP.seq ?_ | refine AWP.region (G_ok _ _ _ _) rfl ?_ | refine AWP.block ?_ | refine AWP.cond rfl ?_ | refine AWP.ret ?_ | refine AWP.skip ?_ | refine AWP.exit ?_ | refine AWP.label ?_ | refine AWP.goto ?_ | refine Br (fun h => ?_) (fun h => ?_))
  refine ⟨_, _, ra, ?_⟩
  repeat' ((try conv => whnf); with_reducible first | refine AWP.seq ?_ | refine AWP.region (G_ok _ _ _ _) rfl ?_ | refine AWP.block ?_ | refine AWP.cond rfl ?_ | refine AWP.ret ?_ | refine AWP.skip ?_ | refine AWP.exit ?_ | refine AWP.label ?_ | refine AWP.goto ?_ | refine Br (fun h => ?_) (fun h => ?_))
  all_goals (try conv => whnf)
  · refine ⟨_, _, rb, ?_⟩
    repeat' ((try conv => whnf); with_reducible first | refine AWP.seq ?_ | refine AWP.region (G_ok _ _ _ _) rfl ?_ | refine AWP.block ?_ | refine AWP.cond rfl ?_ | refine AWP.ret ?_ | refine AWP.skip ?_ | refine AWP.exit ?_ | refine AWP.label ?_ | refine AWP.goto ?_ | refine Br (fun h => ?_) (fun h => ?_))
    all_goals (try conv => whnf)
    · refine ⟨_, _, refLike_ok a b ha hb, ?_⟩
      repeat' ((try conv => whnf); with_reducible first | refine AWP.seq ?_ | refine AWP.region (G_ok _ _ _ _) rfl ?_ | refine AWP.block ?_ | refine AWP.cond rfl ?_ | refine AWP.ret ?_ | refine AWP.skip ?_ | refine AWP.exit ?_ | refine AWP.label ?_ | refine AWP.goto ?_ | refine Br (fun h => ?_) (fun h => ?_))
      all_goals (try conv => whnf)
      refine finB rfl ?_
      unfold sameP
      simp at *
      simp [*]
    · refine finB rfl ?_
      unfold sameP
      simp at *
      simp [*]
  · refine finB rfl ?_
    unfold sameP
    simp at *
    simp [*]

end Go.Vai

/- How many nodes a term has, how deep it is. No condition. -/
namespace Go.Vai
open Go.Proofs

mutual
def depthT : Tm → Int
  | .mk k _ _ _ _ ts => if k = 5 then depthL ts 0 + 1 else 1
def depthL : List Tm → Int → Int
  | [], n => n
  | t :: r, n => depthL r (if n < depthT t then depthT t else n)
end
theorem depthT_eq (t : Tm) : depthT t = if t.k = 5 then depthL t.ts 0 + 1 else 1 := by cases t; rw [depthT]; rfl
theorem depthL_ge : ∀ (ts : List Tm) (n : Int), n ≤ depthL ts n ∧ ∀ t ∈ ts, depthT t ≤ depthL ts n
  | [], n => by simp [depthL]
  | u :: r, n => by
    have h := depthL_ge r (if n < depthT u then depthT u else n)
    rw [depthL]
    refine ⟨?_, fun t ht => ?_⟩
    · have := h.1; split at this <;> omega
    · rcases List.mem_cons.1 ht with rfl | ht
      · have := h.1; split at this <;> omega
      · exact h.2 t ht
theorem depthT_pos (t : Tm) : 1 ≤ depthT t := by
  rw [depthT_eq]; split
  · have := (depthL_ge t.ts 0).1; omega
  · omega
theorem depthT_arg {t u : Tm} (h5 : t.k = 5) (h : u ∈ t.ts) : depthT u + 1 ≤ depthT t := by
  rw [depthT_eq t, if_pos h5]
  have := (depthL_ge t.ts 0).2 u h; omega
theorem depthL_le {d : Int} : ∀ {ts : List Tm} {n : Int}, n ≤ d → (∀ t ∈ ts, depthT t ≤ d) → depthL ts n ≤ d
  | [], n, h, _ => by rw [depthL]; exact h
  | u :: r, n, h, hu => by
    rw [depthL]
    have := hu u (List.mem_cons_self ..)
    exact depthL_le (by split <;> omega) (fun t ht => hu t (List.mem_cons_of_mem _ ht))

mutual
def nodesT : Tm → Int
  | .mk k _ _ _ _ ts => if k = 5 then nodesL ts + 1 else 1
def nodesL : List Tm → Int
  | [] => 0
  | t :: r => nodesT t + nodesL r
end
theorem nodesT_eq (t : Tm) : nodesT t = if t.k = 5 then nodesL t.ts + 1 else 1 := by cases t; rw [nodesT]; rfl
mutual
theorem nodesT_pos : ∀ t : Tm, 1 ≤ nodesT t
  | .mk k _ _ _ _ ts => by
    rw [nodesT]; split
    · have := nodesL_pos ts; omega
    · omega
theorem nodesL_pos : ∀ ts : List Tm, 0 ≤ nodesL ts
  | [] => by simp [nodesL]
  | t :: r => by have := nodesT_pos t; have := nodesL_pos r; rw [nodesL]; omega
end

/-- Of such a form as terms may be of. -/
inductive Tm.Good : Tm → Prop where
  | mk (k : Int) (n : ByteArray) (i re im : Int) (ts : List Tm) (hb : ¬ badT (.mk k n i re im ts)) (hg : ¬ bigT (.mk k n i re im ts)) (h : k = 5 → ∀ t ∈ ts, Tm.Good t) : Tm.Good (.mk k n i re im ts)
theorem Tm.Good.bad {t : Tm} (h : t.Good) : ¬ badT t := by cases h; assumption
theorem Tm.Good.big {t : Tm} (h : t.Good) : ¬ bigT t := by cases h; assumption
theorem Tm.Good.arg {t : Tm} (h : t.Good) (h5 : t.k = 5) : ∀ u ∈ t.ts, u.Good := by cases h with | mk _ _ _ _ _ _ _ _ h => exact h h5

mutual
theorem walkT_good : ∀ (t : Tm) (d n : Int), t.Good → n + nodesT t ≤ 2000 → d + depthT t ≤ 501 → walkT t d (n, 0) = (n + nodesT t, 0)
  | .mk k nm i re im ts, d, n, hg, hn, hd => by
    have h1 := nodesT_pos (.mk k nm i re im ts)
    have h2 := depthT_pos (.mk k nm i re im ts)
    rw [walkT_eq, if_neg (by simp), if_neg (by simp only; omega), if_neg hg.bad, if_neg hg.big]
    by_cases h5 : (Tm.mk k nm i re im ts).k = 5
    · rw [if_pos h5]
      have e : nodesT (.mk k nm i re im ts) = nodesL ts + 1 := by rw [nodesT_eq, if_pos h5]; rfl
      rw [e] at hn ⊢
      have := walkL_good ts (d + 1) (n + 1) (hg.arg h5) (by omega) (fun u hu => by have := depthT_arg (t := .mk k nm i re im ts) h5 hu; omega)
      show walkL ts (d + 1) (n + 1, 0) = _
      rw [this, Prod.mk.injEq]
      exact ⟨by omega, rfl⟩
    · rw [if_neg h5]
      have e : nodesT (.mk k nm i re im ts) = 1 := by rw [nodesT_eq, if_neg h5]
      rw [e]
theorem walkL_good : ∀ (ts : List Tm) (d n : Int), (∀ t ∈ ts, t.Good) → n + nodesL ts ≤ 2000 → (∀ t ∈ ts, d + depthT t ≤ 501) → walkL ts d (n, 0) = (n + nodesL ts, 0)
  | [], d, n, _, _, _ => by simp [walkL, nodesL]
  | t :: r, d, n, hg, hn, hd => by
    rw [nodesL] at hn
    have := nodesL_pos r
    rw [walkL, walkT_good t d n (hg t (List.mem_cons_self ..)) (by omega) (hd t (List.mem_cons_self ..)), walkL_good r d _ (fun u hu => hg u (List.mem_cons_of_mem _ hu)) (by omega) (fun u hu => hd u (List.mem_cons_of_mem _ hu)), nodesL, Prod.mk.injEq]
    exact ⟨by omega, rfl⟩
end
mutual
theorem walkT_back : ∀ (t : Tm) (d : Int) (s : Int × Int), (walkT t d s).2 = 0 → s.2 = 0 ∧ t.Good ∧ (walkT t d s).1 = s.1 + nodesT t ∧ d + depthT t ≤ 501 ∧ s.1 + nodesT t ≤ 2000
  | .mk k nm i re im ts, d, s, h => by
    rw [walkT_eq] at h ⊢
    split at h
    · rename_i h1; exact absurd h h1
    rename_i h1
    have hs : s.2 = 0 := Classical.byContradiction h1
    split at h
    · cases h
    rename_i h2
    split at h
    · cases h
    rename_i hb
    split at h
    · cases h
    rename_i hg
    rw [if_neg h1, if_neg h2, if_neg hb, if_neg hg]
    split at h
    · rename_i h5
      have h3 := walkL_back ts (d + 1) (s.1 + 1, 0) h
      rw [if_pos h5]
      have e : nodesT (.mk k nm i re im ts) = nodesL ts + 1 := by rw [nodesT_eq, if_pos h5]; rfl
      have e2 : depthT (.mk k nm i re im ts) = depthL ts 0 + 1 := by rw [depthT_eq, if_pos h5]; rfl
      have h4 : (walkL ts (d + 1) (s.1 + 1, 0)).1 = s.1 + 1 + nodesL ts := h3.2.2.1
      have h6 : s.1 + 1 + nodesL ts ≤ 2000 ∨ ts = [] := h3.2.2.2.2
      refine ⟨hs, .mk _ _ _ _ _ _ hb hg (fun _ => h3.2.1), ?_, ?_, ?_⟩
      · show (walkL ts (d + 1) (s.1 + 1, 0)).1 = _
        rw [h4, e]; omega
      · have := depthL_le (d := 500 - d) (ts := ts) (n := 0) (by omega) (fun u hu => by have := h3.2.2.2.1 u hu; omega)
        rw [e2]; omega
      · rw [e]
        rcases h6 with h6 | h6
        · omega
        · subst h6; simp [nodesL]; omega
    · rename_i h5
      rw [if_neg h5]
      have e : nodesT (.mk k nm i re im ts) = 1 := by rw [nodesT_eq, if_neg h5]
      have e2 : depthT (.mk k nm i re im ts) = 1 := by rw [depthT_eq, if_neg h5]
      refine ⟨hs, .mk _ _ _ _ _ _ hb hg (fun e => absurd e h5), ?_, ?_, ?_⟩
      · rw [e]
      · rw [e2]; omega
      · rw [e]; omega
theorem walkL_back : ∀ (ts : List Tm) (d : Int) (s : Int × Int), (walkL ts d s).2 = 0 → s.2 = 0 ∧ (∀ t ∈ ts, t.Good) ∧ (walkL ts d s).1 = s.1 + nodesL ts ∧ (∀ t ∈ ts, d + depthT t ≤ 501) ∧ (s.1 + nodesL ts ≤ 2000 ∨ ts = [])
  | [], d, s, h => ⟨h, (fun t ht => by cases ht), (by simp [walkL, nodesL]), (fun t ht => by cases ht), .inr rfl⟩
  | u :: r, d, s, h => by
    rw [walkL] at h ⊢
    have h1 := walkL_back r d _ h
    have h2 := walkT_back u d s h1.1
    refine ⟨h2.1, fun t ht => ?_, ?_, fun t ht => ?_, .inl ?_⟩
    · rcases List.mem_cons.1 ht with e | ht
      · rw [e]; exact h2.2.1
      · exact h1.2.1 t ht
    · rw [h1.2.2.1, h2.2.2.1, nodesL]; omega
    · rcases List.mem_cons.1 ht with e | ht
      · rw [e]; exact h2.2.2.2.1
      · exact h1.2.2.2.1 t ht
    · rw [nodesL]
      rcases h1.2.2.2.2 with h3 | h3
      · rw [h2.2.2.1] at h3; omega
      · subst h3; simp only [nodesL]; have := h2.2.2.2.2; omega
end
theorem mayP_good {t : Tm} (h : mayP t = 0) : t.Good ∧ (walkT t 1 (0, 0)).1 = nodesT t ∧ depthT t ≤ 500 ∧ nodesT t ≤ 2000 := by
  rw [← mayP_ref] at h
  have h1 := walkT_back t 1 (0, 0) h
  refine ⟨h1.2.1, by rw [h1.2.2.1]; simp, by have := h1.2.2.2.1; omega, by have := h1.2.2.2.2; simp at this; exact this⟩
theorem good_may {t : Tm} (h : t.Good) (hd : depthT t ≤ 500) (hn : nodesT t ≤ 2000) : mayP t = 0 := by
  rw [← mayP_ref, walkT_good t 1 0 h (by omega) (by omega)]
theorem comp_may {s : ByteArray} {ts : List Tm} (hs : s.size ≤ 200) (h0 : 0 < ts.length) (h1 : ts.length ≤ 20) (hg : ∀ t ∈ ts, t.Good) (hd : ∀ t ∈ ts, depthT t ≤ 499) (hn : nodesL ts ≤ 1999) : mayP (mkComp s ts) = 0 := by
  refine good_may (.mk _ _ _ _ _ _ ?_ ?_ (fun _ => hg)) ?_ ?_
  · unfold badT; simp only [Tm.k, Tm.i, Tm.ts]; omega
  · unfold bigT; simp only [Tm.k, Tm.n, Tm.ts]; omega
  · rw [depthT_eq, if_pos (show (mkComp s ts).k = 5 from rfl)]
    have := depthL_le (d := 499) (ts := ts) (n := 0) (by omega) hd
    show depthL ts 0 + 1 ≤ 500
    omega
  · rw [nodesT_eq, if_pos (show (mkComp s ts).k = 5 from rfl)]
    show nodesL ts + 1 ≤ 2000
    omega

theorem compareL_pair (a b c d : Tm) : compareL [a, b] [c, d] = lexI (compareT a c) (compareT b d) := by
  rw [compareL_cons, compareL_cons, compareL_nil]
  unfold lexI
  (repeat' split) <;> simp_all
theorem compare_comp (s : ByteArray) (xs ys : List Tm) : compareT (mkComp s xs) (mkComp s ys) = lexI (cmpI xs.length ys.length) (compareL xs ys) := by
  rw [compareT_lex]
  have h1 : cmpI (rankI (mkComp s xs).k) (rankI (mkComp s ys).k) = 0 := cmpI_zero.2 rfl
  have h2 : cmpS (mkComp s xs).n (mkComp s ys).n = 0 := cmpS_self s
  unfold bodyC
  rw [h1, h2]
  simp only [mkComp, Tm.k, Tm.ts]
  simp [lexI]
  split <;> simp [*]
theorem args_l (s : ByteArray) (a b c : Tm) : compareT (mkComp s [a, b]) (mkComp s [a, c]) = compareT b c := by
  rw [compare_comp, compareL_pair, compareT_self]
  simp [lexI, cmpI]
theorem args_r (s : ByteArray) (a b c : Tm) : compareT (mkComp s [a, b]) (mkComp s [c, b]) = compareT a c := by
  rw [compare_comp, compareL_pair, compareT_self]
  simp [lexI, cmpI]
  intro h; exact h.symm
theorem args_n (s : ByteArray) (a b : Tm) : compareT (mkComp s [a]) (mkComp s [a, b]) = -1 := by
  rw [compare_comp]
  simp [lexI, cmpI]
theorem args_m (s : ByteArray) (a b : Tm) : compareT (mkComp s [a, b]) (mkComp s [a]) = 1 := by
  rw [compare_comp]
  simp [lexI, cmpI]

end Go.Vai

/- OrderArgs, walked. No condition. -/
namespace Go.Vai
open Go.Proofs

theorem refNodes_ok (t : Tm) (ht : t.Fit) (h0 : mayP t = 0) : Snd 26 [t.pv] [iv (nodesT t)] := by
  have hm : (walkT t 1 (0, 0)).2 = 0 := by rw [mayP_ref]; exact h0
  have hn : (walkT t 1 (0, 0)).1 = nodesT t := (mayP_good h0).2.1
  refine sound_pure (Γ := G 18 (fun g => Nat.beq g 50) (fun _ => false) (fun _ => false)) (G_ok _ _ _ _) Try.func26 rfl (by decide) rfl rfl rfl ?_
  repeat' ((try conv => whnf); with_reducible first | refine AWP.seq ?_ | refine AWP.region (G_ok _ _ _ _) rfl ?_ | refine AWP.block ?_ | refine AWP.cond rfl ?_ | refine AWP.ret ?_ | refine AWP.skip ?_ | refine AWP.exit ?_ | refine AWP.label ?_ | refine AWP.goto ?_ | refine Br (fun h => ?_) (fun h => ?_))
  refine ⟨[105], [.ptr 0 0 0, t.pv, iv 1], [.cell [iv 0, iv 0]], .tup [], [.cell [iv (walkT t 1 (0, 0)).1, iv (walkT t 1 (0, 0)).2]], ⟨rfl, rfl, rfl, ⟨rfl, trivial⟩, rfl, rfl, rfl, rfl, rfl⟩, walk_ok t 1 (0, 0) ⟨by show (0:Int) ≤ 0; omega, fun _ => by show (0:Int) ≤ 2000; omega⟩ ⟨by omega, by omega⟩ ht, ?_⟩
  rw [hm, hn]
  repeat' ((try conv => whnf); with_reducible first | refine AWP.seq ?_ | refine AWP.region (G_ok _ _ _ _) rfl ?_ | refine AWP.block ?_ | refine AWP.cond rfl ?_ | refine AWP.ret ?_ | refine AWP.skip ?_ | refine AWP.exit ?_ | refine AWP.label ?_ | refine AWP.goto ?_ | refine Br (fun h => ?_) (fun h => ?_))
  all_goals (try conv => whnf)
  exact finI rfl rfl

theorem refdepth_ok (t : Tm) (ht : t.Fit) (hd : depthT t ≤ 1000000) : Snd 51 [t.pv] [iv (depthT t)] := by
  have hpos := depthT_pos t
  refine sound_pure (Γ := G 23 (fun _ => false) (fun _ => false) (fun _ => false)) (G_ok _ _ _ _) Try.func51 rfl (by decide) rfl rfl rfl ?_
  repeat' ((try conv => whnf); with_reducible first | refine AWP.seq ?_ | refine AWP.region (G_ok _ _ _ _) rfl ?_ | refine AWP.block ?_ | refine AWP.cond rfl ?_ | refine AWP.ret ?_ | refine AWP.skip ?_ | refine AWP.exit ?_ | refine AWP.label ?_ | refine AWP.goto ?_ | refine Br (fun h => ?_) (fun h => ?_))
  all_goals (try conv => whnf)
  · simp at h
    have h1 := h
    have hspec : depthT t = depthL t.ts 0 + 1 := by rw [depthT_eq, if_pos h]
    refine AWP.loop (fun m st => ∃ (j : Nat) (q : Int), m = t.ts.length - j ∧ j ≤ t.ts.length ∧ 0 ≤ q ∧ depthL (t.ts.drop j) q = depthL t.ts 0 ∧ Has st [(3, iv q), (10, .slc 6 (t.ts.map Tm.enc) false), (11, iv (t.ts.map Tm.enc).length), (12, iv j)] []) t.ts.length ⟨0, 0, rfl, Nat.zero_le _, by omega, rfl, ⟨rfl, rfl, rfl, rfl, trivial⟩, trivial⟩ ?_
    rintro m st ⟨j, q, rfl, hj, hq, hr, hst⟩
    obtain ⟨f, H, rfl⟩ := hst.canon
    repeat' ((try conv => whnf); with_reducible first | refine AWP.seq ?_ | refine AWP.region (G_ok _ _ _ _) rfl ?_ | refine AWP.block ?_ | refine AWP.cond rfl ?_ | refine AWP.ret ?_ | refine AWP.skip ?_ | refine AWP.exit ?_ | refine AWP.label ?_ | refine AWP.goto ?_ | (refine Br (fun h => ?_) (fun h => ?_) <;> try (exfalso; simp only [decide_eq_true_eq, decide_eq_false_iff_not, beq_iff_eq, beq_eq_false_iff_ne, bne_iff_ne, bne_eq_false_iff_eq, ne_eq, List.length_map, List.length_append, List.length_cons, List.length_nil] at *; omega)))
    all_goals (try conv => whnf)
    · have hj2 : j < t.ts.length := by simpa using h
      have hmem : t.ts[j] ∈ t.ts := List.getElem_mem hj2
      have hdrop : t.ts.drop j = t.ts[j] :: t.ts.drop (j + 1) := List.drop_eq_getElem_cons hj2
      have hlen := ht.len
      have hdd := depthT_arg h1 hmem
      rw [hdrop, depthL] at hr
      refine ⟨by omega, (t.ts[j]).cells, by simp [hj2, Tm.enc_eq], ?_⟩
      repeat' ((try conv => whnf); with_reducible first | refine AWP.seq ?_ | refine AWP.region (G_ok _ _ _ _) rfl ?_ | refine AWP.block ?_ | refine AWP.cond rfl ?_ | refine AWP.ret ?_ | refine AWP.skip ?_ | refine AWP.exit ?_ | refine AWP.label ?_ | refine AWP.goto ?_ | refine Br (fun h => ?_) (fun h => ?_))
      all_goals (try conv => whnf)
      refine ⟨_, _, refdepth_ok t.ts[j] (ht.arg _ hmem) (by omega), ?_⟩
      repeat' ((try conv => whnf); with_reducible first | refine AWP.seq ?_ | refine AWP.region (G_ok _ _ _ _) rfl ?_ | refine AWP.block ?_ | refine AWP.cond rfl ?_ | refine AWP.ret ?_ | refine AWP.skip ?_ | refine AWP.exit ?_ | refine AWP.label ?_ | refine AWP.goto ?_ | refine Br (fun h => ?_) (fun h => ?_))
      all_goals (try conv => whnf)
      have hw3 : IntKind.i64.wrap ((j : Int) + 1) = ((j + 1 : Nat) : Int) := i64_of (by omega) (by omega)
      have hdp := depthT_pos t.ts[j]
      refine ⟨t.ts.length - (j + 1), by omega, j + 1, (if q < depthT t.ts[j] then depthT t.ts[j] else q), rfl, hj2, by split <;> omega, hr, ⟨?_, rfl, rfl, by show PV.s (.int .i64 (IntKind.i64.wrap ((j : Int) + 1))) = _; rw [hw3], trivial⟩, trivial⟩
      conv => lhs; whnf
    · simp at h
      have hj2 : j = t.ts.length := by omega
      rw [hj2, List.drop_length, depthL] at hr
      refine finI rfl ?_
      rw [hspec, ← hr]
      exact i64_of (by omega) (by omega)
  · simp at h
    have hspec : depthT t = 1 := by rw [depthT_eq, if_neg h]
    rw [hspec]
    exact finI rfl rfl
termination_by t
decreasing_by exact Tm.size_lt hmem

theorem refDepth_ok (t : Tm) (ht : t.Fit) (h0 : mayP t = 0) : Snd 27 [t.pv] [iv (depthT t)] := by
  have hd := (mayP_good h0).2.2.1
  have rt := refMay_ok t ht
  rw [mayP_ref, h0] at rt
  refine sound_pure (Γ := G 8 (fun _ => false) (fun _ => false) (fun _ => false)) (G_ok _ _ _ _) Try.func27 rfl (by decide) rfl rfl rfl ?_
  repeat' ((try conv => whnf); with_reducible first | refine AWP.seq ?_ | refine AWP.region (G_ok _ _ _ _) rfl ?_ | refine AWP.block ?_ | refine AWP.cond rfl ?_ | refine AWP.ret ?_ | refine AWP.skip ?_ | refine AWP.exit ?_ | refine AWP.label ?_ | refine AWP.goto ?_ | refine Br (fun h => ?_) (fun h => ?_))
  refine ⟨_, _, rt, ?_⟩
  repeat' ((try conv => whnf); with_reducible first | refine AWP.seq ?_ | refine AWP.region (G_ok _ _ _ _) rfl ?_ | refine AWP.block ?_ | refine AWP.cond rfl ?_ | refine AWP.ret ?_ | refine AWP.skip ?_ | refine AWP.exit ?_ | refine AWP.label ?_ | refine AWP.goto ?_ | refine Br (fun h => ?_) (fun h => ?_))
  all_goals (try conv => whnf)
  refine ⟨_, _, refdepth_ok t ht (by omega), ?_⟩
  repeat' ((try conv => whnf); with_reducible first | refine AWP.seq ?_ | refine AWP.region (G_ok _ _ _ _) rfl ?_ | refine AWP.block ?_ | refine AWP.cond rfl ?_ | refine AWP.ret ?_ | refine AWP.skip ?_ | refine AWP.exit ?_ | refine AWP.label ?_ | refine AWP.goto ?_ | refine Br (fun h => ?_) (fun h => ?_))
  all_goals (try conv => whnf)
  exact finI rfl rfl

theorem comp_fit (s : ByteArray) (ts : List Tm) (hl : ts.length ≤ 1000000) (h : ∀ t ∈ ts, t.Fit) : (mkComp s ts).Fit := .mk _ _ _ _ _ _ hl h

set_option maxHeartbeats 8000000 in
theorem args_ok (s : ByteArray) (a b c : Tm) : Snd 7 [sv s, a.pv, b.pv, c.pv] [bv true] := by
  refine sound_pure (Γ := G 115 (fun _ => false) (fun _ => false) (fun _ => false)) (G_ok _ _ _ _) Try.func7 rfl (by decide) rfl rfl rfl ?_
  have hL := refLight_ok [a, b, c] (by simp)
  simp only [tsv, List.map, Tm.enc_eq] at hL
  repeat' ((try conv => whnf); with_reducible first | refine AWP.seq ?_ | refine AWP.region (G_ok _ _ _ _) rfl ?_ | refine AWP.draw (G_ok _ _ _ _) rfl [0, 1, 3, 7, 15, 15, 15, 127, 255, 511, 1023, 2047, 4095, 8191, 16383, 32767, 65535, 131071, 262143, 524287, 1048575, 2097151, 4194303, 8388607, 16777215, 33554431, 67108863, 134217727, 268435455, 134217727, 1073741823, 2147483647, 134217727, 6442450943, 17179869183, 34359738367, 68719476735, 137438953471, 274877906943, 549755813887, 1099511627775, 2199023255551, 4398046511103, 8796093022207, 17592186044415, 35184372088831, 70368744177663, 140737488355327, 281474976710655, 562949953421311, 1125899906842623, 2251799813685247] [1, 1, 1, 1, 3, 1, 1, 1, 1, 1, 1, 1, 1, 1, 1, 1, 1, 1, 1, 1, 1, 1, 1, 1, 1, 7, 1, 1, 1, 1, 1, 1, 1, 1, 1, 1, 1, 1, 1, 1, 1, 1, 1, 1] rfl rfl ?_ | refine AWP.draw (G_ok _ _ _ _) rfl [0, 0, 0, 6, 15, 0, 0, 0, 192, 511, 0, 0, 4095, 8191] [12, 1, 1] rfl rfl ?_ | refine AWP.draw (G_ok _ _ _ _) rfl [0, 0, 3, 0, 0, 31, 63, 127, 255, 255, 1023, 255, 255, 8191, 16383, 32767] [5, 1, 1, 1, 5, 1, 1, 1] rfl rfl ?_ | refine AWP.draw (G_ok _ _ _ _) rfl [0, 0, 2, 7, 0, 31, 63, 127, 255, 255, 255, 1279, 3839, 8191, 16383, 32767, 65535, 131071, 262143, 524287] [5, 1, 1, 1, 5, 1, 1, 1, 1, 1, 1, 1] rfl rfl ?_ | refine AWP.block ?_ | refine AWP.cond rfl ?_ | refine AWP.ret ?_ | refine AWP.skip ?_ | refine AWP.exit ?_ | refine AWP.label ?_ | refine AWP.goto ?_ | refine Br (fun h => ?_) (fun h => ?_))
  all_goals (try conv => whnf)
  · refine ⟨_, _, awake9_ok, ?_⟩
    repeat' ((try conv => whnf); with_reducible first | refine AWP.seq ?_ | refine AWP.region (G_ok _ _ _ _) rfl ?_ | refine AWP.draw (G_ok _ _ _ _) rfl [0, 1, 3, 7, 15, 15, 15, 127, 255, 511, 1023, 2047, 4095, 8191, 16383, 32767, 65535, 131071, 262143, 524287, 1048575, 2097151, 4194303, 8388607, 16777215, 33554431, 67108863, 134217727, 268435455, 134217727, 1073741823, 2147483647, 134217727, 6442450943, 17179869183, 34359738367, 68719476735, 137438953471, 274877906943, 549755813887, 1099511627775, 2199023255551, 4398046511103, 8796093022207, 17592186044415, 35184372088831, 70368744177663, 140737488355327, 281474976710655, 562949953421311, 1125899906842623, 2251799813685247] [1, 1, 1, 1, 3, 1, 1, 1, 1, 1, 1, 1, 1, 1, 1, 1, 1, 1, 1, 1, 1, 1, 1, 1, 1, 7, 1, 1, 1, 1, 1, 1, 1, 1, 1, 1, 1, 1, 1, 1, 1, 1, 1, 1] rfl rfl ?_ | refine AWP.draw (G_ok _ _ _ _) rfl [0, 0, 0, 6, 15, 0, 0, 0, 192, 511, 0, 0, 4095, 8191] [12, 1, 1] rfl rfl ?_ | refine AWP.draw (G_ok _ _ _ _) rfl [0, 0, 3, 0, 0, 31, 63, 127, 255, 255, 1023, 255, 255, 8191, 16383, 32767] [5, 1, 1, 1, 5, 1, 1, 1] rfl rfl ?_ | refine AWP.draw (G_ok _ _ _ _) rfl [0, 0, 2, 7, 0, 31, 63, 127, 255, 255, 255, 1279, 3839, 8191, 16383, 32767, 65535, 131071, 262143, 524287] [5, 1, 1, 1, 5, 1, 1, 1, 1, 1, 1, 1] rfl rfl ?_ | refine AWP.block ?_ | refine AWP.cond rfl ?_ | refine AWP.ret ?_ | refine AWP.skip ?_ | refine AWP.exit ?_ | refine AWP.label ?_ | refine AWP.goto ?_ | refine Br (fun h => ?_) (fun h => ?_))
    all_goals (try conv => whnf)
    exact finB rfl rfl
  have hs := h
  clear h
  simp at hs
  refine ⟨_, _, hL, ?_⟩
  repeat' ((try conv => whnf); with_reducible first | refine AWP.seq ?_ | refine AWP.region (G_ok _ _ _ _) rfl ?_ | refine AWP.draw (G_ok _ _ _ _) rfl [0, 1, 3, 7, 15, 15, 15, 127, 255, 511, 1023, 2047, 4095, 8191, 16383, 32767, 65535, 131071, 262143, 524287, 1048575, 2097151, 4194303, 8388607, 16777215, 33554431, 67108863, 134217727, 268435455, 134217727, 1073741823, 2147483647, 134217727, 6442450943, 17179869183, 34359738367, 68719476735, 137438953471, 274877906943, 549755813887, 1099511627775, 2199023255551, 4398046511103, 8796093022207, 17592186044415, 35184372088831, 70368744177663, 140737488355327, 281474976710655, 562949953421311, 1125899906842623, 2251799813685247] [1, 1, 1, 1, 3, 1, 1, 1, 1, 1, 1, 1, 1, 1, 1, 1, 1, 1, 1, 1, 1, 1, 1, 1, 1, 7, 1, 1, 1, 1, 1, 1, 1, 1, 1, 1, 1, 1, 1, 1, 1, 1, 1, 1] rfl rfl ?_ | refine AWP.draw (G_ok _ _ _ _) rfl [0, 0, 0, 6, 15, 0, 0, 0, 192, 511, 0, 0, 4095, 8191] [12, 1, 1] rfl rfl ?_ | refine AWP.draw (G_ok _ _ _ _) rfl [0, 0, 3, 0, 0, 31, 63, 127, 255, 255, 1023, 255, 255, 8191, 16383, 32767] [5, 1, 1, 1, 5, 1, 1, 1] rfl rfl ?_ | refine AWP.draw (G_ok _ _ _ _) rfl [0, 0, 2, 7, 0, 31, 63, 127, 255, 255, 255, 1279, 3839, 8191, 16383, 32767, 65535, 131071, 262143, 524287] [5, 1, 1, 1, 5, 1, 1, 1, 1, 1, 1, 1] rfl rfl ?_ | refine AWP.block ?_ | refine AWP.cond rfl ?_ | refine AWP.ret ?_ | refine AWP.skip ?_ | refine AWP.exit ?_ | refine AWP.label ?_ | refine AWP.goto ?_ | refine Br (fun h => ?_) (fun h => ?_))
  all_goals (try conv => whnf)
  · refine ⟨_, _, awake9_ok, ?_⟩
    repeat' ((try conv => whnf); with_reducible first | refine AWP.seq ?_ | refine AWP.region (G_ok _ _ _ _) rfl ?_ | refine AWP.draw (G_ok _ _ _ _) rfl [0, 1, 3, 7, 15, 15, 15, 127, 255, 511, 1023, 2047, 4095, 8191, 16383, 32767, 65535, 131071, 262143, 524287, 1048575, 2097151, 4194303, 8388607, 16777215, 33554431, 67108863, 134217727, 268435455, 134217727, 1073741823, 2147483647, 134217727, 6442450943, 17179869183, 34359738367, 68719476735, 137438953471, 274877906943, 549755813887, 1099511627775, 2199023255551, 4398046511103, 8796093022207, 17592186044415, 35184372088831, 70368744177663, 140737488355327, 281474976710655, 562949953421311, 1125899906842623, 2251799813685247] [1, 1, 1, 1, 3, 1, 1, 1, 1, 1, 1, 1, 1, 1, 1, 1, 1, 1, 1, 1, 1, 1, 1, 1, 1, 7, 1, 1, 1, 1, 1, 1, 1, 1, 1, 1, 1, 1, 1, 1, 1, 1, 1, 1] rfl rfl ?_ | refine AWP.draw (G_ok _ _ _ _) rfl [0, 0, 0, 6, 15, 0, 0, 0, 192, 511, 0, 0, 4095, 8191] [12, 1, 1] rfl rfl ?_ | refine AWP.draw (G_ok _ _ _ _) rfl [0, 0, 3, 0, 0, 31, 63, 127, 255, 255, 1023, 255, 255, 8191, 16383, 32767] [5, 1, 1, 1, 5, 1, 1, 1] rfl rfl ?_ | refine AWP.draw (G_ok _ _ _ _) rfl [0, 0, 2, 7, 0, 31, 63, 127, 255, 255, 255, 1279, 3839, 8191, 16383, 32767, 65535, 131071, 262143, 524287] [5, 1, 1, 1, 5, 1, 1, 1, 1, 1, 1, 1] rfl rfl ?_ | refine AWP.block ?_ | refine AWP.cond rfl ?_ | refine AWP.ret ?_ | refine AWP.skip ?_ | refine AWP.exit ?_ | refine AWP.label ?_ | refine AWP.goto ?_ | refine Br (fun h => ?_) (fun h => ?_))
    all_goals (try conv => whnf)
    exact finB rfl rfl
  simp at h
  have hfa := lightF_fit _ _ _ h a (by simp)
  have hfb := lightF_fit _ _ _ h b (by simp)
  have hfc := lightF_fit _ _ _ h c (by simp)
  clear hL
  have ra := refMay_ok a hfa
  have rb := refMay_ok b hfb
  have rc := refMay_ok c hfc
  rw [mayP_ref] at ra rb rc
  clear h
  refine ⟨_, _, ra, ?_⟩
  repeat' ((try conv => whnf); with_reducible first | refine AWP.seq ?_ | refine AWP.region (G_ok _ _ _ _) rfl ?_ | refine AWP.draw (G_ok _ _ _ _) rfl [0, 1, 3, 7, 15, 15, 15, 127, 255, 511, 1023, 2047, 4095, 8191, 16383, 32767, 65535, 131071, 262143, 524287, 1048575, 2097151, 4194303, 8388607, 16777215, 33554431, 67108863, 134217727, 268435455, 134217727, 1073741823, 2147483647, 134217727, 6442450943, 17179869183, 34359738367, 68719476735, 137438953471, 274877906943, 549755813887, 1099511627775, 2199023255551, 4398046511103, 8796093022207, 17592186044415, 35184372088831, 70368744177663, 140737488355327, 281474976710655, 562949953421311, 1125899906842623, 2251799813685247] [1, 1, 1, 1, 3, 1, 1, 1, 1, 1, 1, 1, 1, 1, 1, 1, 1, 1, 1, 1, 1, 1, 1, 1, 1, 7, 1, 1, 1, 1, 1, 1, 1, 1, 1, 1, 1, 1, 1, 1, 1, 1, 1, 1] rfl rfl ?_ | refine AWP.draw (G_ok _ _ _ _) rfl [0, 0, 0, 6, 15, 0, 0, 0, 192, 511, 0, 0, 4095, 8191] [12, 1, 1] rfl rfl ?_ | refine AWP.draw (G_ok _ _ _ _) rfl [0, 0, 3, 0, 0, 31, 63, 127, 255, 255, 1023, 255, 255, 8191, 16383, 32767] [5, 1, 1, 1, 5, 1, 1, 1] rfl rfl ?_ | refine AWP.draw (G_ok _ _ _ _) rfl [0, 0, 2, 7, 0, 31, 63, 127, 255, 255, 255, 1279, 3839, 8191, 16383, 32767, 65535, 131071, 262143, 524287] [5, 1, 1, 1, 5, 1, 1, 1, 1, 1, 1, 1] rfl rfl ?_ | refine AWP.block ?_ | refine AWP.cond rfl ?_ | refine AWP.ret ?_ | refine AWP.skip ?_ | refine AWP.exit ?_ | refine AWP.label ?_ | refine AWP.goto ?_ | refine Br (fun h => ?_) (fun h => ?_))
  all_goals (try conv => whnf)
  · refine ⟨_, _, awake9_ok, ?_⟩
    repeat' ((try conv => whnf); with_reducible first | refine AWP.seq ?_ | refine AWP.region (G_ok _ _ _ _) rfl ?_ | refine AWP.draw (G_ok _ _ _ _) rfl [0, 1, 3, 7, 15, 15, 15, 127, 255, 511, 1023, 2047, 4095, 8191, 16383, 32767, 65535, 131071, 262143, 524287, 1048575, 2097151, 4194303, 8388607, 16777215, 33554431, 67108863, 134217727, 268435455, 134217727, 1073741823, 2147483647, 134217727, 6442450943, 17179869183, 34359738367, 68719476735, 137438953471, 274877906943, 549755813887, 1099511627775, 2199023255551, 4398046511103, 8796093022207, 17592186044415, 35184372088831, 70368744177663, 140737488355327, 281474976710655, 562949953421311, 1125899906842623, 2251799813685247] [1, 1, 1, 1, 3, 1, 1, 1, 1, 1, 1, 1, 1, 1, 1, 1, 1, 1, 1, 1, 1, 1, 1, 1, 1, 7, 1, 1, 1, 1, 1, 1, 1, 1, 1, 1, 1, 1, 1, 1, 1, 1, 1, 1] rfl rfl ?_ | refine AWP.draw (G_ok _ _ _ _) rfl [0, 0, 0, 6, 15, 0, 0, 0, 192, 511, 0, 0, 4095, 8191] [12, 1, 1] rfl rfl ?_ | refine AWP.draw (G_ok _ _ _ _) rfl [0, 0, 3, 0, 0, 31, 63, 127, 255, 255, 1023, 255, 255, 8191, 16383, 32767] [5, 1, 1, 1, 5, 1, 1, 1] rfl rfl ?_ | refine AWP.draw (G_ok _ _ _ _) rfl [0, 0, 2, 7, 0, 31, 63, 127, 255, 255, 255, 1279, 3839, 8191, 16383, 32767, 65535, 131071, 262143, 524287] [5, 1, 1, 1, 5, 1, 1, 1, 1, 1, 1, 1] rfl rfl ?_ | refine AWP.block ?_ | refine AWP.cond rfl ?_ | refine AWP.ret ?_ | refine AWP.skip ?_ | refine AWP.exit ?_ | refine AWP.label ?_ | refine AWP.goto ?_ | refine Br (fun h => ?_) (fun h => ?_))
    all_goals (try conv => whnf)
    exact finB rfl rfl
  simp at h
  have ha0 := h
  clear h
  refine ⟨_, _, rb, ?_⟩
  repeat' ((try conv => whnf); with_reducible first | refine AWP.seq ?_ | refine AWP.region (G_ok _ _ _ _) rfl ?_ | refine AWP.draw (G_ok _ _ _ _) rfl [0, 1, 3, 7, 15, 15, 15, 127, 255, 511, 1023, 2047, 4095, 8191, 16383, 32767, 65535, 131071, 262143, 524287, 1048575, 2097151, 4194303, 8388607, 16777215, 33554431, 67108863, 134217727, 268435455, 134217727, 1073741823, 2147483647, 134217727, 6442450943, 17179869183, 34359738367, 68719476735, 137438953471, 274877906943, 549755813887, 1099511627775, 2199023255551, 4398046511103, 8796093022207, 17592186044415, 35184372088831, 70368744177663, 140737488355327, 281474976710655, 562949953421311, 1125899906842623, 2251799813685247] [1, 1, 1, 1, 3, 1, 1, 1, 1, 1, 1, 1, 1, 1, 1, 1, 1, 1, 1, 1, 1, 1, 1, 1, 1, 7, 1, 1, 1, 1, 1, 1, 1, 1, 1, 1, 1, 1, 1, 1, 1, 1, 1, 1] rfl rfl ?_ | refine AWP.draw (G_ok _ _ _ _) rfl [0, 0, 0, 6, 15, 0, 0, 0, 192, 511, 0, 0, 4095, 8191] [12, 1, 1] rfl rfl ?_ | refine AWP.draw (G_ok _ _ _ _) rfl [0, 0, 3, 0, 0, 31, 63, 127, 255, 255, 1023, 255, 255, 8191, 16383, 32767] [5, 1, 1, 1, 5, 1, 1, 1] rfl rfl ?_ | refine AWP.draw (G_ok _ _ _ _) rfl [0, 0, 2, 7, 0, 31, 63, 127, 255, 255, 255, 1279, 3839, 8191, 16383, 32767, 65535, 131071, 262143, 524287] [5, 1, 1, 1, 5, 1, 1, 1, 1, 1, 1, 1] rfl rfl ?_ | refine AWP.block ?_ | refine AWP.cond rfl ?_ | refine AWP.ret ?_ | refine AWP.skip ?_ | refine AWP.exit ?_ | refine AWP.label ?_ | refine AWP.goto ?_ | refine Br (fun h => ?_) (fun h => ?_))
  all_goals (try conv => whnf)
  · refine ⟨_, _, awake9_ok, ?_⟩
    repeat' ((try conv => whnf); with_reducible first | refine AWP.seq ?_ | refine AWP.region (G_ok _ _ _ _) rfl ?_ | refine AWP.draw (G_ok _ _ _ _) rfl [0, 1, 3, 7, 15, 15, 15, 127, 255, 511, 1023, 2047, 4095, 8191, 16383, 32767, 65535, 131071, 262143, 524287, 1048575, 2097151, 4194303, 8388607, 16777215, 33554431, 67108863, 134217727, 268435455, 134217727, 1073741823, 2147483647, 134217727, 6442450943, 17179869183, 34359738367, 68719476735, 137438953471, 274877906943, 549755813887, 1099511627775, 2199023255551, 4398046511103, 8796093022207, 17592186044415, 35184372088831, 70368744177663, 140737488355327, 281474976710655, 562949953421311, 1125899906842623, 2251799813685247] [1, 1, 1, 1, 3, 1, 1, 1, 1, 1, 1, 1, 1, 1, 1, 1, 1, 1, 1, 1, 1, 1, 1, 1, 1, 7, 1, 1, 1, 1, 1, 1, 1, 1, 1, 1, 1, 1, 1, 1, 1, 1, 1, 1] rfl rfl ?_ | refine AWP.draw (G_ok _ _ _ _) rfl [0, 0, 0, 6, 15, 0, 0, 0, 192, 511, 0, 0, 4095, 8191] [12, 1, 1] rfl rfl ?_ | refine AWP.draw (G_ok _ _ _ _) rfl [0, 0, 3, 0, 0, 31, 63, 127, 255, 255, 1023, 255, 255, 8191, 16383, 32767] [5, 1, 1, 1, 5, 1, 1, 1] rfl rfl ?_ | refine AWP.draw (G_ok _ _ _ _) rfl [0, 0, 2, 7, 0, 31, 63, 127, 255, 255, 255, 1279, 3839, 8191, 16383, 32767, 65535, 131071, 262143, 524287] [5, 1, 1, 1, 5, 1, 1, 1, 1, 1, 1, 1] rfl rfl ?_ | refine AWP.block ?_ | refine AWP.cond rfl ?_ | refine AWP.ret ?_ | refine AWP.skip ?_ | refine AWP.exit ?_ | refine AWP.label ?_ | refine AWP.goto ?_ | refine Br (fun h => ?_) (fun h => ?_))
    all_goals (try conv => whnf)
    exact finB rfl rfl
  simp at h
  have hb0 := h
  clear h
  refine ⟨_, _, rc, ?_⟩
  repeat' ((try conv => whnf); with_reducible first | refine AWP.seq ?_ | refine AWP.region (G_ok _ _ _ _) rfl ?_ | refine AWP.draw (G_ok _ _ _ _) rfl [0, 1, 3, 7, 15, 15, 15, 127, 255, 511, 1023, 2047, 4095, 8191, 16383, 32767, 65535, 131071, 262143, 524287, 1048575, 2097151, 4194303, 8388607, 16777215, 33554431, 67108863, 134217727, 268435455, 134217727, 1073741823, 2147483647, 134217727, 6442450943, 17179869183, 34359738367, 68719476735, 137438953471, 274877906943, 549755813887, 1099511627775, 2199023255551, 4398046511103, 8796093022207, 17592186044415, 35184372088831, 70368744177663, 140737488355327, 281474976710655, 562949953421311, 1125899906842623, 2251799813685247] [1, 1, 1, 1, 3, 1, 1, 1, 1, 1, 1, 1, 1, 1, 1, 1, 1, 1, 1, 1, 1, 1, 1, 1, 1, 7, 1, 1, 1, 1, 1, 1, 1, 1, 1, 1, 1, 1, 1, 1, 1, 1, 1, 1] rfl rfl ?_ | refine AWP.draw (G_ok _ _ _ _) rfl [0, 0, 0, 6, 15, 0, 0, 0, 192, 511, 0, 0, 4095, 8191] [12, 1, 1] rfl rfl ?_ | refine AWP.draw (G_ok _ _ _ _) rfl [0, 0, 3, 0, 0, 31, 63, 127, 255, 255, 1023, 255, 255, 8191, 16383, 32767] [5, 1, 1, 1, 5, 1, 1, 1] rfl rfl ?_ | refine AWP.draw (G_ok _ _ _ _) rfl [0, 0, 2, 7, 0, 31, 63, 127, 255, 255, 255, 1279, 3839, 8191, 16383, 32767, 65535, 131071, 262143, 524287] [5, 1, 1, 1, 5, 1, 1, 1, 1, 1, 1, 1] rfl rfl ?_ | refine AWP.block ?_ | refine AWP.cond rfl ?_ | refine AWP.ret ?_ | refine AWP.skip ?_ | refine AWP.exit ?_ | refine AWP.label ?_ | refine AWP.goto ?_ | refine Br (fun h => ?_) (fun h => ?_))
  all_goals (try conv => whnf)
  · refine ⟨_, _, awake9_ok, ?_⟩
    repeat' ((try conv => whnf); with_reducible first | refine AWP.seq ?_ | refine AWP.region (G_ok _ _ _ _) rfl ?_ | refine AWP.draw (G_ok _ _ _ _) rfl [0, 1, 3, 7, 15, 15, 15, 127, 255, 511, 1023, 2047, 4095, 8191, 16383, 32767, 65535, 131071, 262143, 524287, 1048575, 2097151, 4194303, 8388607, 16777215, 33554431, 67108863, 134217727, 268435455, 134217727, 1073741823, 2147483647, 134217727, 6442450943, 17179869183, 34359738367, 68719476735, 137438953471, 274877906943, 549755813887, 1099511627775, 2199023255551, 4398046511103, 8796093022207, 17592186044415, 35184372088831, 70368744177663, 140737488355327, 281474976710655, 562949953421311, 1125899906842623, 2251799813685247] [1, 1, 1, 1, 3, 1, 1, 1, 1, 1, 1, 1, 1, 1, 1, 1, 1, 1, 1, 1, 1, 1, 1, 1, 1, 7, 1, 1, 1, 1, 1, 1, 1, 1, 1, 1, 1, 1, 1, 1, 1, 1, 1, 1] rfl rfl ?_ | refine AWP.draw (G_ok _ _ _ _) rfl [0, 0, 0, 6, 15, 0, 0, 0, 192, 511, 0, 0, 4095, 8191] [12, 1, 1] rfl rfl ?_ | refine AWP.draw (G_ok _ _ _ _) rfl [0, 0, 3, 0, 0, 31, 63, 127, 255, 255, 1023, 255, 255, 8191, 16383, 32767] [5, 1, 1, 1, 5, 1, 1, 1] rfl rfl ?_ | refine AWP.draw (G_ok _ _ _ _) rfl [0, 0, 2, 7, 0, 31, 63, 127, 255, 255, 255, 1279, 3839, 8191, 16383, 32767, 65535, 131071, 262143, 524287] [5, 1, 1, 1, 5, 1, 1, 1, 1, 1, 1, 1] rfl rfl ?_ | refine AWP.block ?_ | refine AWP.cond rfl ?_ | refine AWP.ret ?_ | refine AWP.skip ?_ | refine AWP.exit ?_ | refine AWP.label ?_ | refine AWP.goto ?_ | refine Br (fun h => ?_) (fun h => ?_))
    all_goals (try conv => whnf)
    exact finB rfl rfl
  simp at h
  have hc0 := h
  clear h
  clear ra rb rc
  refine ⟨_, _, refNodes_ok a hfa ha0, ?_⟩
  repeat' ((try conv => whnf); with_reducible first | refine AWP.seq ?_ | refine AWP.region (G_ok _ _ _ _) rfl ?_ | refine AWP.draw (G_ok _ _ _ _) rfl [0, 1, 3, 7, 15, 15, 15, 127, 255, 511, 1023, 2047, 4095, 8191, 16383, 32767, 65535, 131071, 262143, 524287, 1048575, 2097151, 4194303, 8388607, 16777215, 33554431, 67108863, 134217727, 268435455, 134217727, 1073741823, 2147483647, 134217727, 6442450943, 17179869183, 34359738367, 68719476735, 137438953471, 274877906943, 549755813887, 1099511627775, 2199023255551, 4398046511103, 8796093022207, 17592186044415, 35184372088831, 70368744177663, 140737488355327, 281474976710655, 562949953421311, 1125899906842623, 2251799813685247] [1, 1, 1, 1, 3, 1, 1, 1, 1, 1, 1, 1, 1, 1, 1, 1, 1, 1, 1, 1, 1, 1, 1, 1, 1, 7, 1, 1, 1, 1, 1, 1, 1, 1, 1, 1, 1, 1, 1, 1, 1, 1, 1, 1] rfl rfl ?_ | refine AWP.draw (G_ok _ _ _ _) rfl [0, 0, 0, 6, 15, 0, 0, 0, 192, 511, 0, 0, 4095, 8191] [12, 1, 1] rfl rfl ?_ | refine AWP.draw (G_ok _ _ _ _) rfl [0, 0, 3, 0, 0, 31, 63, 127, 255, 255, 1023, 255, 255, 8191, 16383, 32767] [5, 1, 1, 1, 5, 1, 1, 1] rfl rfl ?_ | refine AWP.draw (G_ok _ _ _ _) rfl [0, 0, 2, 7, 0, 31, 63, 127, 255, 255, 255, 1279, 3839, 8191, 16383, 32767, 65535, 131071, 262143, 524287] [5, 1, 1, 1, 5, 1, 1, 1, 1, 1, 1, 1] rfl rfl ?_ | refine AWP.block ?_ | refine AWP.cond rfl ?_ | refine AWP.ret ?_ | refine AWP.skip ?_ | refine AWP.exit ?_ | refine AWP.label ?_ | refine AWP.goto ?_ | refine Br (fun h => ?_) (fun h => ?_))
  all_goals (try conv => whnf)
  refine ⟨_, _, refNodes_ok b hfb hb0, ?_⟩
  repeat' ((try conv => whnf); with_reducible first | refine AWP.seq ?_ | refine AWP.region (G_ok _ _ _ _) rfl ?_ | refine AWP.draw (G_ok _ _ _ _) rfl [0, 1, 3, 7, 15, 15, 15, 127, 255, 511, 1023, 2047, 4095, 8191, 16383, 32767, 65535, 131071, 262143, 524287, 1048575, 2097151, 4194303, 8388607, 16777215, 33554431, 67108863, 134217727, 268435455, 134217727, 1073741823, 2147483647, 134217727, 6442450943, 17179869183, 34359738367, 68719476735, 137438953471, 274877906943, 549755813887, 1099511627775, 2199023255551, 4398046511103, 8796093022207, 17592186044415, 35184372088831, 70368744177663, 140737488355327, 281474976710655, 562949953421311, 1125899906842623, 2251799813685247] [1, 1, 1, 1, 3, 1, 1, 1, 1, 1, 1, 1, 1, 1, 1, 1, 1, 1, 1, 1, 1, 1, 1, 1, 1, 7, 1, 1, 1, 1, 1, 1, 1, 1, 1, 1, 1, 1, 1, 1, 1, 1, 1, 1] rfl rfl ?_ | refine AWP.draw (G_ok _ _ _ _) rfl [0, 0, 0, 6, 15, 0, 0, 0, 192, 511, 0, 0, 4095, 8191] [12, 1, 1] rfl rfl ?_ | refine AWP.draw (G_ok _ _ _ _) rfl [0, 0, 3, 0, 0, 31, 63, 127, 255, 255, 1023, 255, 255, 8191, 16383, 32767] [5, 1, 1, 1, 5, 1, 1, 1] rfl rfl ?_ | refine AWP.draw (G_ok _ _ _ _) rfl [0, 0, 2, 7, 0, 31, 63, 127, 255, 255, 255, 1279, 3839, 8191, 16383, 32767, 65535, 131071, 262143, 524287] [5, 1, 1, 1, 5, 1, 1, 1, 1, 1, 1, 1] rfl rfl ?_ | refine AWP.block ?_ | refine AWP.cond rfl ?_ | refine AWP.ret ?_ | refine AWP.skip ?_ | refine AWP.exit ?_ | refine AWP.label ?_ | refine AWP.goto ?_ | refine Br (fun h => ?_) (fun h => ?_))
  all_goals (try conv => whnf)
  refine ⟨_, _, refNodes_ok c hfc hc0, ?_⟩
  repeat' ((try conv => whnf); with_reducible first | refine AWP.seq ?_ | refine AWP.region (G_ok _ _ _ _) rfl ?_ | refine AWP.draw (G_ok _ _ _ _) rfl [0, 1, 3, 7, 15, 15, 15, 127, 255, 511, 1023, 2047, 4095, 8191, 16383, 32767, 65535, 131071, 262143, 524287, 1048575, 2097151, 4194303, 8388607, 16777215, 33554431, 67108863, 134217727, 268435455, 134217727, 1073741823, 2147483647, 134217727, 6442450943, 17179869183, 34359738367, 68719476735, 137438953471, 274877906943, 549755813887, 1099511627775, 2199023255551, 4398046511103, 8796093022207, 17592186044415, 35184372088831, 70368744177663, 140737488355327, 281474976710655, 562949953421311, 1125899906842623, 2251799813685247] [1, 1, 1, 1, 3, 1, 1, 1, 1, 1, 1, 1, 1, 1, 1, 1, 1, 1, 1, 1, 1, 1, 1, 1, 1, 7, 1, 1, 1, 1, 1, 1, 1, 1, 1, 1, 1, 1, 1, 1, 1, 1, 1, 1] rfl rfl ?_ | refine AWP.draw (G_ok _ _ _ _) rfl [0, 0, 0, 6, 15, 0, 0, 0, 192, 511, 0, 0, 4095, 8191] [12, 1, 1] rfl rfl ?_ | refine AWP.draw (G_ok _ _ _ _) rfl [0, 0, 3, 0, 0, 31, 63, 127, 255, 255, 1023, 255, 255, 8191, 16383, 32767] [5, 1, 1, 1, 5, 1, 1, 1] rfl rfl ?_ | refine AWP.draw (G_ok _ _ _ _) rfl [0, 0, 2, 7, 0, 31, 63, 127, 255, 255, 255, 1279, 3839, 8191, 16383, 32767, 65535, 131071, 262143, 524287] [5, 1, 1, 1, 5, 1, 1, 1, 1, 1, 1, 1] rfl rfl ?_ | refine AWP.block ?_ | refine AWP.cond rfl ?_ | refine AWP.ret ?_ | refine AWP.skip ?_ | refine AWP.exit ?_ | refine AWP.label ?_ | refine AWP.goto ?_ | refine Br (fun h => ?_) (fun h => ?_))
  all_goals (try conv => whnf)
  · refine ⟨_, _, awake9_ok, ?_⟩
    repeat' ((try conv => whnf); with_reducible first | refine AWP.seq ?_ | refine AWP.region (G_ok _ _ _ _) rfl ?_ | refine AWP.draw (G_ok _ _ _ _) rfl [0, 1, 3, 7, 15, 15, 15, 127, 255, 511, 1023, 2047, 4095, 8191, 16383, 32767, 65535, 131071, 262143, 524287, 1048575, 2097151, 4194303, 8388607, 16777215, 33554431, 67108863, 134217727, 268435455, 134217727, 1073741823, 2147483647, 134217727, 6442450943, 17179869183, 34359738367, 68719476735, 137438953471, 274877906943, 549755813887, 1099511627775, 2199023255551, 4398046511103, 8796093022207, 17592186044415, 35184372088831, 70368744177663, 140737488355327, 281474976710655, 562949953421311, 1125899906842623, 2251799813685247] [1, 1, 1, 1, 3, 1, 1, 1, 1, 1, 1, 1, 1, 1, 1, 1, 1, 1, 1, 1, 1, 1, 1, 1, 1, 7, 1, 1, 1, 1, 1, 1, 1, 1, 1, 1, 1, 1, 1, 1, 1, 1, 1, 1] rfl rfl ?_ | refine AWP.draw (G_ok _ _ _ _) rfl [0, 0, 0, 6, 15, 0, 0, 0, 192, 511, 0, 0, 4095, 8191] [12, 1, 1] rfl rfl ?_ | refine AWP.draw (G_ok _ _ _ _) rfl [0, 0, 3, 0, 0, 31, 63, 127, 255, 255, 1023, 255, 255, 8191, 16383, 32767] [5, 1, 1, 1, 5, 1, 1, 1] rfl rfl ?_ | refine AWP.draw (G_ok _ _ _ _) rfl [0, 0, 2, 7, 0, 31, 63, 127, 255, 255, 255, 1279, 3839, 8191, 16383, 32767, 65535, 131071, 262143, 524287] [5, 1, 1, 1, 5, 1, 1, 1, 1, 1, 1, 1] rfl rfl ?_ | refine AWP.block ?_ | refine AWP.cond rfl ?_ | refine AWP.ret ?_ | refine AWP.skip ?_ | refine AWP.exit ?_ | refine AWP.label ?_ | refine AWP.goto ?_ | refine Br (fun h => ?_) (fun h => ?_))
    all_goals (try conv => whnf)
    exact finB rfl rfl
  obtain ⟨ga, _, da, na⟩ := mayP_good ha0
  obtain ⟨gb, _, db, nb⟩ := mayP_good hb0
  obtain ⟨gc, _, dc, nc⟩ := mayP_good hc0
  have pa := nodesT_pos a
  have pb := nodesT_pos b
  have pc := nodesT_pos c
  have hn : nodesT a + nodesT b + nodesT c ≤ 600 := by
    simp at h
    have e1 : IntKind.i64.wrap (nodesT a + nodesT b) = nodesT a + nodesT b := i64_of (by omega) (by omega)
    rw [e1] at h
    have e2 : IntKind.i64.wrap (nodesT a + nodesT b + nodesT c) = nodesT a + nodesT b + nodesT c := i64_of (by omega) (by omega)
    rw [e2] at h
    exact h
  clear h
  refine ⟨_, _, refDepth_ok a hfa ha0, ?_⟩
  repeat' ((try conv => whnf); with_reducible first | refine AWP.seq ?_ | refine AWP.region (G_ok _ _ _ _) rfl ?_ | refine AWP.draw (G_ok _ _ _ _) rfl [0, 1, 3, 7, 15, 15, 15, 127, 255, 511, 1023, 2047, 4095, 8191, 16383, 32767, 65535, 131071, 262143, 524287, 1048575, 2097151, 4194303, 8388607, 16777215, 33554431, 67108863, 134217727, 268435455, 134217727, 1073741823, 2147483647, 134217727, 6442450943, 17179869183, 34359738367, 68719476735, 137438953471, 274877906943, 549755813887, 1099511627775, 2199023255551, 4398046511103, 8796093022207, 17592186044415, 35184372088831, 70368744177663, 140737488355327, 281474976710655, 562949953421311, 1125899906842623, 2251799813685247] [1, 1, 1, 1, 3, 1, 1, 1, 1, 1, 1, 1, 1, 1, 1, 1, 1, 1, 1, 1, 1, 1, 1, 1, 1, 7, 1, 1, 1, 1, 1, 1, 1, 1, 1, 1, 1, 1, 1, 1, 1, 1, 1, 1] rfl rfl ?_ | refine AWP.draw (G_ok _ _ _ _) rfl [0, 0, 0, 6, 15, 0, 0, 0, 192, 511, 0, 0, 4095, 8191] [12, 1, 1] rfl rfl ?_ | refine AWP.draw (G_ok _ _ _ _) rfl [0, 0, 3, 0, 0, 31, 63, 127, 255, 255, 1023, 255, 255, 8191, 16383, 32767] [5, 1, 1, 1, 5, 1, 1, 1] rfl rfl ?_ | refine AWP.draw (G_ok _ _ _ _) rfl [0, 0, 2, 7, 0, 31, 63, 127, 255, 255, 255, 1279, 3839, 8191, 16383, 32767, 65535, 131071, 262143, 524287] [5, 1, 1, 1, 5, 1, 1, 1, 1, 1, 1, 1] rfl rfl ?_ | refine AWP.block ?_ | refine AWP.cond rfl ?_ | refine AWP.ret ?_ | refine AWP.skip ?_ | refine AWP.exit ?_ | refine AWP.label ?_ | refine AWP.goto ?_ | refine Br (fun h => ?_) (fun h => ?_))
  all_goals (try conv => whnf)
  · refine ⟨_, _, awake9_ok, ?_⟩
    repeat' ((try conv => whnf); with_reducible first | refine AWP.seq ?_ | refine AWP.region (G_ok _ _ _ _) rfl ?_ | refine AWP.draw (G_ok _ _ _ _) rfl [0, 1, 3, 7, 15, 15, 15, 127, 255, 511, 1023, 2047, 4095, 8191, 16383, 32767, 65535, 131071, 262143, 524287, 1048575, 2097151, 4194303, 8388607, 16777215, 33554431, 67108863, 134217727, 268435455, 134217727, 1073741823, 2147483647, 134217727, 6442450943, 17179869183, 34359738367, 68719476735, 137438953471, 274877906943, 549755813887, 1099511627775, 2199023255551, 4398046511103, 8796093022207, 17592186044415, 35184372088831, 70368744177663, 140737488355327, 281474976710655, 562949953421311, 1125899906842623, 2251799813685247] [1, 1, 1, 1, 3, 1, 1, 1, 1, 1, 1, 1, 1, 1, 1, 1, 1, 1, 1, 1, 1, 1, 1, 1, 1, 7, 1, 1, 1, 1, 1, 1, 1, 1, 1, 1, 1, 1, 1, 1, 1, 1, 1, 1] rfl rfl ?_ | refine AWP.draw (G_ok _ _ _ _) rfl [0, 0, 0, 6, 15, 0, 0, 0, 192, 511, 0, 0, 4095, 8191] [12, 1, 1] rfl rfl ?_ | refine AWP.draw (G_ok _ _ _ _) rfl [0, 0, 3, 0, 0, 31, 63, 127, 255, 255, 1023, 255, 255, 8191, 16383, 32767] [5, 1, 1, 1, 5, 1, 1, 1] rfl rfl ?_ | refine AWP.draw (G_ok _ _ _ _) rfl [0, 0, 2, 7, 0, 31, 63, 127, 255, 255, 255, 1279, 3839, 8191, 16383, 32767, 65535, 131071, 262143, 524287] [5, 1, 1, 1, 5, 1, 1, 1, 1, 1, 1, 1] rfl rfl ?_ | refine AWP.block ?_ | refine AWP.cond rfl ?_ | refine AWP.ret ?_ | refine AWP.skip ?_ | refine AWP.exit ?_ | refine AWP.label ?_ | refine AWP.goto ?_ | refine Br (fun h => ?_) (fun h => ?_))
    all_goals (try conv => whnf)
    exact finB rfl rfl
  simp at h
  have da2 := h
  clear h
  refine ⟨_, _, refDepth_ok b hfb hb0, ?_⟩
  repeat' ((try conv => whnf); with_reducible first | refine AWP.seq ?_ | refine AWP.region (G_ok _ _ _ _) rfl ?_ | refine AWP.draw (G_ok _ _ _ _) rfl [0, 1, 3, 7, 15, 15, 15, 127, 255, 511, 1023, 2047, 4095, 8191, 16383, 32767, 65535, 131071, 262143, 524287, 1048575, 2097151, 4194303, 8388607, 16777215, 33554431, 67108863, 134217727, 268435455, 134217727, 1073741823, 2147483647, 134217727, 6442450943, 17179869183, 34359738367, 68719476735, 137438953471, 274877906943, 549755813887, 1099511627775, 2199023255551, 4398046511103, 8796093022207, 17592186044415, 35184372088831, 70368744177663, 140737488355327, 281474976710655, 562949953421311, 1125899906842623, 2251799813685247] [1, 1, 1, 1, 3, 1, 1, 1, 1, 1, 1, 1, 1, 1, 1, 1, 1, 1, 1, 1, 1, 1, 1, 1, 1, 7, 1, 1, 1, 1, 1, 1, 1, 1, 1, 1, 1, 1, 1, 1, 1, 1, 1, 1] rfl rfl ?_ | refine AWP.draw (G_ok _ _ _ _) rfl [0, 0, 0, 6, 15, 0, 0, 0, 192, 511, 0, 0, 4095, 8191] [12, 1, 1] rfl rfl ?_ | refine AWP.draw (G_ok _ _ _ _) rfl [0, 0, 3, 0, 0, 31, 63, 127, 255, 255, 1023, 255, 255, 8191, 16383, 32767] [5, 1, 1, 1, 5, 1, 1, 1] rfl rfl ?_ | refine AWP.draw (G_ok _ _ _ _) rfl [0, 0, 2, 7, 0, 31, 63, 127, 255, 255, 255, 1279, 3839, 8191, 16383, 32767, 65535, 131071, 262143, 524287] [5, 1, 1, 1, 5, 1, 1, 1, 1, 1, 1, 1] rfl rfl ?_ | refine AWP.block ?_ | refine AWP.cond rfl ?_ | refine AWP.ret ?_ | refine AWP.skip ?_ | refine AWP.exit ?_ | refine AWP.label ?_ | refine AWP.goto ?_ | refine Br (fun h => ?_) (fun h => ?_))
  all_goals (try conv => whnf)
  · refine ⟨_, _, awake9_ok, ?_⟩
    repeat' ((try conv => whnf); with_reducible first | refine AWP.seq ?_ | refine AWP.region (G_ok _ _ _ _) rfl ?_ | refine AWP.draw (G_ok _ _ _ _) rfl [0, 1, 3, 7, 15, 15, 15, 127, 255, 511, 1023, 2047, 4095, 8191, 16383, 32767, 65535, 131071, 262143, 524287, 1048575, 2097151, 4194303, 8388607, 16777215, 33554431, 67108863, 134217727, 268435455, 134217727, 1073741823, 2147483647, 134217727, 6442450943, 17179869183, 34359738367, 68719476735, 137438953471, 274877906943, 549755813887, 1099511627775, 2199023255551, 4398046511103, 8796093022207, 17592186044415, 35184372088831, 70368744177663, 140737488355327, 281474976710655, 562949953421311, 1125899906842623, 2251799813685247] [1, 1, 1, 1, 3, 1, 1, 1, 1, 1, 1, 1, 1, 1, 1, 1, 1, 1, 1, 1, 1, 1, 1, 1, 1, 7, 1, 1, 1, 1, 1, 1, 1, 1, 1, 1, 1, 1, 1, 1, 1, 1, 1, 1] rfl rfl ?_ | refine AWP.draw (G_ok _ _ _ _) rfl [0, 0, 0, 6, 15, 0, 0, 0, 192, 511, 0, 0, 4095, 8191] [12, 1, 1] rfl rfl ?_ | refine AWP.draw (G_ok _ _ _ _) rfl [0, 0, 3, 0, 0, 31, 63, 127, 255, 255, 1023, 255, 255, 8191, 16383, 32767] [5, 1, 1, 1, 5, 1, 1, 1] rfl rfl ?_ | refine AWP.draw (G_ok _ _ _ _) rfl [0, 0, 2, 7, 0, 31, 63, 127, 255, 255, 255, 1279, 3839, 8191, 16383, 32767, 65535, 131071, 262143, 524287] [5, 1, 1, 1, 5, 1, 1, 1, 1, 1, 1, 1] rfl rfl ?_ | refine AWP.block ?_ | refine AWP.cond rfl ?_ | refine AWP.ret ?_ | refine AWP.skip ?_ | refine AWP.exit ?_ | refine AWP.label ?_ | refine AWP.goto ?_ | refine Br (fun h => ?_) (fun h => ?_))
    all_goals (try conv => whnf)
    exact finB rfl rfl
  simp at h
  have db2 := h
  clear h
  refine ⟨_, _, refDepth_ok c hfc hc0, ?_⟩
  repeat' ((try conv => whnf); with_reducible first | refine AWP.seq ?_ | refine AWP.region (G_ok _ _ _ _) rfl ?_ | refine AWP.draw (G_ok _ _ _ _) rfl [0, 1, 3, 7, 15, 15, 15, 127, 255, 511, 1023, 2047, 4095, 8191, 16383, 32767, 65535, 131071, 262143, 524287, 1048575, 2097151, 4194303, 8388607, 16777215, 33554431, 67108863, 134217727, 268435455, 134217727, 1073741823, 2147483647, 134217727, 6442450943, 17179869183, 34359738367, 68719476735, 137438953471, 274877906943, 549755813887, 1099511627775, 2199023255551, 4398046511103, 8796093022207, 17592186044415, 35184372088831, 70368744177663, 140737488355327, 281474976710655, 562949953421311, 1125899906842623, 2251799813685247] [1, 1, 1, 1, 3, 1, 1, 1, 1, 1, 1, 1, 1, 1, 1, 1, 1, 1, 1, 1, 1, 1, 1, 1, 1, 7, 1, 1, 1, 1, 1, 1, 1, 1, 1, 1, 1, 1, 1, 1, 1, 1, 1, 1] rfl rfl ?_ | refine AWP.draw (G_ok _ _ _ _) rfl [0, 0, 0, 6, 15, 0, 0, 0, 192, 511, 0, 0, 4095, 8191] [12, 1, 1] rfl rfl ?_ | refine AWP.draw (G_ok _ _ _ _) rfl [0, 0, 3, 0, 0, 31, 63, 127, 255, 255, 1023, 255, 255, 8191, 16383, 32767] [5, 1, 1, 1, 5, 1, 1, 1] rfl rfl ?_ | refine AWP.draw (G_ok _ _ _ _) rfl [0, 0, 2, 7, 0, 31, 63, 127, 255, 255, 255, 1279, 3839, 8191, 16383, 32767, 65535, 131071, 262143, 524287] [5, 1, 1, 1, 5, 1, 1, 1, 1, 1, 1, 1] rfl rfl ?_ | refine AWP.block ?_ | refine AWP.cond rfl ?_ | refine AWP.ret ?_ | refine AWP.skip ?_ | refine AWP.exit ?_ | refine AWP.label ?_ | refine AWP.goto ?_ | refine Br (fun h => ?_) (fun h => ?_))
  all_goals (try conv => whnf)
  · refine ⟨_, _, awake9_ok, ?_⟩
    repeat' ((try conv => whnf); with_reducible first | refine AWP.seq ?_ | refine AWP.region (G_ok _ _ _ _) rfl ?_ | refine AWP.draw (G_ok _ _ _ _) rfl [0, 1, 3, 7, 15, 15, 15, 127, 255, 511, 1023, 2047, 4095, 8191, 16383, 32767, 65535, 131071, 262143, 524287, 1048575, 2097151, 4194303, 8388607, 16777215, 33554431, 67108863, 134217727, 268435455, 134217727, 1073741823, 2147483647, 134217727, 6442450943, 17179869183, 34359738367, 68719476735, 137438953471, 274877906943, 549755813887, 1099511627775, 2199023255551, 4398046511103, 8796093022207, 17592186044415, 35184372088831, 70368744177663, 140737488355327, 281474976710655, 562949953421311, 1125899906842623, 2251799813685247] [1, 1, 1, 1, 3, 1, 1, 1, 1, 1, 1, 1, 1, 1, 1, 1, 1, 1, 1, 1, 1, 1, 1, 1, 1, 7, 1, 1, 1, 1, 1, 1, 1, 1, 1, 1, 1, 1, 1, 1, 1, 1, 1, 1] rfl rfl ?_ | refine AWP.draw (G_ok _ _ _ _) rfl [0, 0, 0, 6, 15, 0, 0, 0, 192, 511, 0, 0, 4095, 8191] [12, 1, 1] rfl rfl ?_ | refine AWP.draw (G_ok _ _ _ _) rfl [0, 0, 3, 0, 0, 31, 63, 127, 255, 255, 1023, 255, 255, 8191, 16383, 32767] [5, 1, 1, 1, 5, 1, 1, 1] rfl rfl ?_ | refine AWP.draw (G_ok _ _ _ _) rfl [0, 0, 2, 7, 0, 31, 63, 127, 255, 255, 255, 1279, 3839, 8191, 16383, 32767, 65535, 131071, 262143, 524287] [5, 1, 1, 1, 5, 1, 1, 1, 1, 1, 1, 1] rfl rfl ?_ | refine AWP.block ?_ | refine AWP.cond rfl ?_ | refine AWP.ret ?_ | refine AWP.skip ?_ | refine AWP.exit ?_ | refine AWP.label ?_ | refine AWP.goto ?_ | refine Br (fun h => ?_) (fun h => ?_))
    all_goals (try conv => whnf)
    exact finB rfl rfl
  simp at h
  have dc2 := h
  clear h
  have mk2 : ∀ p q : Tm, p.Good → q.Good → depthT p ≤ 300 → depthT q ≤ 300 → nodesT p + nodesT q ≤ 1000 → mayP (mkComp s [p, q]) = 0 := fun p q hp hq h1 h2 h3 =>
    comp_may (by omega) (by simp) (by simp) (fun t ht => by simp at ht; rcases ht with rfl | rfl <;> assumption) (fun t ht => by simp at ht; rcases ht with rfl | rfl <;> omega) (by simp only [nodesL]; omega)
  have mx := mk2 a b ga gb da2 db2 (by omega)
  have my := mk2 a c ga gc da2 dc2 (by omega)
  have mz := mk2 c b gc gb dc2 db2 (by omega)
  have m1 : mayP (mkComp s [a]) = 0 := comp_may (by omega) (by simp) (by simp) (fun t ht => by simp at ht; subst ht; assumption) (fun t ht => by simp at ht; subst ht; omega) (by simp only [nodesL]; omega)
  have fit2 : ∀ p q : Tm, p.Fit → q.Fit → (mkComp s [p, q]).Fit := fun p q hp hq => comp_fit s _ (by simp) (fun t ht => by simp at ht; rcases ht with rfl | rfl <;> assumption)
  have fx := fit2 a b hfa hfb
  have fy := fit2 a c hfa hfc
  have fz := fit2 c b hfc hfb
  have f1 : (mkComp s [a]).Fit := comp_fit s _ (by simp) (fun t ht => by simp at ht; subst ht; assumption)
  have pc : ∀ u t : Tm, mayP u = 0 → mayP t = 0 → compareP u t = compareT u t := fun u t h1 h2 => by rw [compareP, if_neg (by simp [h1, h2])]
  have cxy := ocompare_ok _ _ fx fy
  have cbc := ocompare_ok b c hfb hfc
  have cxz := ocompare_ok _ _ fx fz
  have cac := ocompare_ok a c hfa hfc
  have c1x := ocompare_ok _ _ f1 fx
  have cx1 := ocompare_ok _ _ fx f1
  rw [pc _ _ mx my, args_l] at cxy
  rw [pc _ _ hb0 hc0] at cbc
  rw [pc _ _ mx mz, args_r] at cxz
  rw [pc _ _ ha0 hc0] at cac
  rw [pc _ _ m1 mx, args_n] at c1x
  rw [pc _ _ mx m1, args_m] at cx1
  have kx := refComp_ok s [a, b]
  have ky := refComp_ok s [a, c]
  have kz := refComp_ok s [c, b]
  have k1 := refComp_ok s [a]
  simp only [tsv, List.map, Tm.enc_eq] at kx ky kz k1
  refine ⟨_, _, kx, ?_⟩
  repeat' ((try conv => whnf); with_reducible first | refine AWP.seq ?_ | refine AWP.region (G_ok _ _ _ _) rfl ?_ | refine AWP.draw (G_ok _ _ _ _) rfl [0, 1, 3, 7, 15, 15, 15, 127, 255, 511, 1023, 2047, 4095, 8191, 16383, 32767, 65535, 131071, 262143, 524287, 1048575, 2097151, 4194303, 8388607, 16777215, 33554431, 67108863, 134217727, 268435455, 134217727, 1073741823, 2147483647, 134217727, 6442450943, 17179869183, 34359738367, 68719476735, 137438953471, 274877906943, 549755813887, 1099511627775, 2199023255551, 4398046511103, 8796093022207, 17592186044415, 35184372088831, 70368744177663, 140737488355327, 281474976710655, 562949953421311, 1125899906842623, 2251799813685247] [1, 1, 1, 1, 3, 1, 1, 1, 1, 1, 1, 1, 1, 1, 1, 1, 1, 1, 1, 1, 1, 1, 1, 1, 1, 7, 1, 1, 1, 1, 1, 1, 1, 1, 1, 1, 1, 1, 1, 1, 1, 1, 1, 1] rfl rfl ?_ | refine AWP.draw (G_ok _ _ _ _) rfl [0, 0, 0, 6, 15, 0, 0, 0, 192, 511, 0, 0, 4095, 8191] [12, 1, 1] rfl rfl ?_ | refine AWP.draw (G_ok _ _ _ _) rfl [0, 0, 3, 0, 0, 31, 63, 127, 255, 255, 1023, 255, 255, 8191, 16383, 32767] [5, 1, 1, 1, 5, 1, 1, 1] rfl rfl ?_ | refine AWP.draw (G_ok _ _ _ _) rfl [0, 0, 2, 7, 0, 31, 63, 127, 255, 255, 255, 1279, 3839, 8191, 16383, 32767, 65535, 131071, 262143, 524287] [5, 1, 1, 1, 5, 1, 1, 1, 1, 1, 1, 1] rfl rfl ?_ | refine AWP.block ?_ | refine AWP.cond rfl ?_ | refine AWP.ret ?_ | refine AWP.skip ?_ | refine AWP.exit ?_ | refine AWP.label ?_ | refine AWP.goto ?_ | refine Br (fun h => ?_) (fun h => ?_))
  all_goals (try conv => whnf)
  refine ⟨_, _, ky, ?_⟩
  repeat' ((try conv => whnf); with_reducible first | refine AWP.seq ?_ | refine AWP.region (G_ok _ _ _ _) rfl ?_ | refine AWP.draw (G_ok _ _ _ _) rfl [0, 1, 3, 7, 15, 15, 15, 127, 255, 511, 1023, 2047, 4095, 8191, 16383, 32767, 65535, 131071, 262143, 524287, 1048575, 2097151, 4194303, 8388607, 16777215, 33554431, 67108863, 134217727, 268435455, 134217727, 1073741823, 2147483647, 134217727, 6442450943, 17179869183, 34359738367, 68719476735, 137438953471, 274877906943, 549755813887, 1099511627775, 2199023255551, 4398046511103, 8796093022207, 17592186044415, 35184372088831, 70368744177663, 140737488355327, 281474976710655, 562949953421311, 1125899906842623, 2251799813685247] [1, 1, 1, 1, 3, 1, 1, 1, 1, 1, 1, 1, 1, 1, 1, 1, 1, 1, 1, 1, 1, 1, 1, 1, 1, 7, 1, 1, 1, 1, 1, 1, 1, 1, 1, 1, 1, 1, 1, 1, 1, 1, 1, 1] rfl rfl ?_ | refine AWP.draw (G_ok _ _ _ _) rfl [0, 0, 0, 6, 15, 0, 0, 0, 192, 511, 0, 0, 4095, 8191] [12, 1, 1] rfl rfl ?_ | refine AWP.draw (G_ok _ _ _ _) rfl [0, 0, 3, 0, 0, 31, 63, 127, 255, 255, 1023, 255, 255, 8191, 16383, 32767] [5, 1, 1, 1, 5, 1, 1, 1] rfl rfl ?_ | refine AWP.draw (G_ok _ _ _ _) rfl [0, 0, 2, 7, 0, 31, 63, 127, 255, 255, 255, 1279, 3839, 8191, 16383, 32767, 65535, 131071, 262143, 524287] [5, 1, 1, 1, 5, 1, 1, 1, 1, 1, 1, 1] rfl rfl ?_ | refine AWP.block ?_ | refine AWP.cond rfl ?_ | refine AWP.ret ?_ | refine AWP.skip ?_ | refine AWP.exit ?_ | refine AWP.label ?_ | refine AWP.goto ?_ | refine Br (fun h => ?_) (fun h => ?_))
  all_goals (try conv => whnf)
  refine ⟨_, _, kz, ?_⟩
  repeat' ((try conv => whnf); with_reducible first | refine AWP.seq ?_ | refine AWP.region (G_ok _ _ _ _) rfl ?_ | refine AWP.draw (G_ok _ _ _ _) rfl [0, 1, 3, 7, 15, 15, 15, 127, 255, 511, 1023, 2047, 4095, 8191, 16383, 32767, 65535, 131071, 262143, 524287, 1048575, 2097151, 4194303, 8388607, 16777215, 33554431, 67108863, 134217727, 268435455, 134217727, 1073741823, 2147483647, 134217727, 6442450943, 17179869183, 34359738367, 68719476735, 137438953471, 274877906943, 549755813887, 1099511627775, 2199023255551, 4398046511103, 8796093022207, 17592186044415, 35184372088831, 70368744177663, 140737488355327, 281474976710655, 562949953421311, 1125899906842623, 2251799813685247] [1, 1, 1, 1, 3, 1, 1, 1, 1, 1, 1, 1, 1, 1, 1, 1, 1, 1, 1, 1, 1, 1, 1, 1, 1, 7, 1, 1, 1, 1, 1, 1, 1, 1, 1, 1, 1, 1, 1, 1, 1, 1, 1, 1] rfl rfl ?_ | refine AWP.draw (G_ok _ _ _ _) rfl [0, 0, 0, 6, 15, 0, 0, 0, 192, 511, 0, 0, 4095, 8191] [12, 1, 1] rfl rfl ?_ | refine AWP.draw (G_ok _ _ _ _) rfl [0, 0, 3, 0, 0, 31, 63, 127, 255, 255, 1023, 255, 255, 8191, 16383, 32767] [5, 1, 1, 1, 5, 1, 1, 1] rfl rfl ?_ | refine AWP.draw (G_ok _ _ _ _) rfl [0, 0, 2, 7, 0, 31, 63, 127, 255, 255, 255, 1279, 3839, 8191, 16383, 32767, 65535, 131071, 262143, 524287] [5, 1, 1, 1, 5, 1, 1, 1, 1, 1, 1, 1] rfl rfl ?_ | refine AWP.block ?_ | refine AWP.cond rfl ?_ | refine AWP.ret ?_ | refine AWP.skip ?_ | refine AWP.exit ?_ | refine AWP.label ?_ | refine AWP.goto ?_ | refine Br (fun h => ?_) (fun h => ?_))
  all_goals (try conv => whnf)
  refine ⟨_, _, cxy, ?_⟩
  repeat' ((try conv => whnf); with_reducible first | refine AWP.seq ?_ | refine AWP.region (G_ok _ _ _ _) rfl ?_ | refine AWP.draw (G_ok _ _ _ _) rfl [0, 1, 3, 7, 15, 15, 15, 127, 255, 511, 1023, 2047, 4095, 8191, 16383, 32767, 65535, 131071, 262143, 524287, 1048575, 2097151, 4194303, 8388607, 16777215, 33554431, 67108863, 134217727, 268435455, 134217727, 1073741823, 2147483647, 134217727, 6442450943, 17179869183, 34359738367, 68719476735, 137438953471, 274877906943, 549755813887, 1099511627775, 2199023255551, 4398046511103, 8796093022207, 17592186044415, 35184372088831, 70368744177663, 140737488355327, 281474976710655, 562949953421311, 1125899906842623, 2251799813685247] [1, 1, 1, 1, 3, 1, 1, 1, 1, 1, 1, 1, 1, 1, 1, 1, 1, 1, 1, 1, 1, 1, 1, 1, 1, 7, 1, 1, 1, 1, 1, 1, 1, 1, 1, 1, 1, 1, 1, 1, 1, 1, 1, 1] rfl rfl ?_ | refine AWP.draw (G_ok _ _ _ _) rfl [0, 0, 0, 6, 15, 0, 0, 0, 192, 511, 0, 0, 4095, 8191] [12, 1, 1] rfl rfl ?_ | refine AWP.draw (G_ok _ _ _ _) rfl [0, 0, 3, 0, 0, 31, 63, 127, 255, 255, 1023, 255, 255, 8191, 16383, 32767] [5, 1, 1, 1, 5, 1, 1, 1] rfl rfl ?_ | refine AWP.draw (G_ok _ _ _ _) rfl [0, 0, 2, 7, 0, 31, 63, 127, 255, 255, 255, 1279, 3839, 8191, 16383, 32767, 65535, 131071, 262143, 524287] [5, 1, 1, 1, 5, 1, 1, 1, 1, 1, 1, 1] rfl rfl ?_ | refine AWP.block ?_ | refine AWP.cond rfl ?_ | refine AWP.ret ?_ | refine AWP.skip ?_ | refine AWP.exit ?_ | refine AWP.label ?_ | refine AWP.goto ?_ | refine Br (fun h => ?_) (fun h => ?_))
  all_goals (try conv => whnf)
  refine ⟨_, _, cbc, ?_⟩
  repeat' ((try conv => whnf); with_reducible first | refine AWP.seq ?_ | refine AWP.region (G_ok _ _ _ _) rfl ?_ | refine AWP.draw (G_ok _ _ _ _) rfl [0, 1, 3, 7, 15, 15, 15, 127, 255, 511, 1023, 2047, 4095, 8191, 16383, 32767, 65535, 131071, 262143, 524287, 1048575, 2097151, 4194303, 8388607, 16777215, 33554431, 67108863, 134217727, 268435455, 134217727, 1073741823, 2147483647, 134217727, 6442450943, 17179869183, 34359738367, 68719476735, 137438953471, 274877906943, 549755813887, 1099511627775, 2199023255551, 4398046511103, 8796093022207, 17592186044415, 35184372088831, 70368744177663, 140737488355327, 281474976710655, 562949953421311, 1125899906842623, 2251799813685247] [1, 1, 1, 1, 3, 1, 1, 1, 1, 1, 1, 1, 1, 1, 1, 1, 1, 1, 1, 1, 1, 1, 1, 1, 1, 7, 1, 1, 1, 1, 1, 1, 1, 1, 1, 1, 1, 1, 1, 1, 1, 1, 1, 1] rfl rfl ?_ | refine AWP.draw (G_ok _ _ _ _) rfl [0, 0, 0, 6, 15, 0, 0, 0, 192, 511, 0, 0, 4095, 8191] [12, 1, 1] rfl rfl ?_ | refine AWP.draw (G_ok _ _ _ _) rfl [0, 0, 3, 0, 0, 31, 63, 127, 255, 255, 1023, 255, 255, 8191, 16383, 32767] [5, 1, 1, 1, 5, 1, 1, 1] rfl rfl ?_ | refine AWP.draw (G_ok _ _ _ _) rfl [0, 0, 2, 7, 0, 31, 63, 127, 255, 255, 255, 1279, 3839, 8191, 16383, 32767, 65535, 131071, 262143, 524287] [5, 1, 1, 1, 5, 1, 1, 1, 1, 1, 1, 1] rfl rfl ?_ | refine AWP.block ?_ | refine AWP.cond rfl ?_ | refine AWP.ret ?_ | refine AWP.skip ?_ | refine AWP.exit ?_ | refine AWP.label ?_ | refine AWP.goto ?_ | refine Br (fun h => ?_) (fun h => ?_))
  all_goals (try conv => whnf)
  · simp at h
  refine ⟨_, _, cxz, ?_⟩
  repeat' ((try conv => whnf); with_reducible first | refine AWP.seq ?_ | refine AWP.region (G_ok _ _ _ _) rfl ?_ | refine AWP.draw (G_ok _ _ _ _) rfl [0, 1, 3, 7, 15, 15, 15, 127, 255, 511, 1023, 2047, 4095, 8191, 16383, 32767, 65535, 131071, 262143, 524287, 1048575, 2097151, 4194303, 8388607, 16777215, 33554431, 67108863, 134217727, 268435455, 134217727, 1073741823, 2147483647, 134217727, 6442450943, 17179869183, 34359738367, 68719476735, 137438953471, 274877906943, 549755813887, 1099511627775, 2199023255551, 4398046511103, 8796093022207, 17592186044415, 35184372088831, 70368744177663, 140737488355327, 281474976710655, 562949953421311, 1125899906842623, 2251799813685247] [1, 1, 1, 1, 3, 1, 1, 1, 1, 1, 1, 1, 1, 1, 1, 1, 1, 1, 1, 1, 1, 1, 1, 1, 1, 7, 1, 1, 1, 1, 1, 1, 1, 1, 1, 1, 1, 1, 1, 1, 1, 1, 1, 1] rfl rfl ?_ | refine AWP.draw (G_ok _ _ _ _) rfl [0, 0, 0, 6, 15, 0, 0, 0, 192, 511, 0, 0, 4095, 8191] [12, 1, 1] rfl rfl ?_ | refine AWP.draw (G_ok _ _ _ _) rfl [0, 0, 3, 0, 0, 31, 63, 127, 255, 255, 1023, 255, 255, 8191, 16383, 32767] [5, 1, 1, 1, 5, 1, 1, 1] rfl rfl ?_ | refine AWP.draw (G_ok _ _ _ _) rfl [0, 0, 2, 7, 0, 31, 63, 127, 255, 255, 255, 1279, 3839, 8191, 16383, 32767, 65535, 131071, 262143, 524287] [5, 1, 1, 1, 5, 1, 1, 1, 1, 1, 1, 1] rfl rfl ?_ | refine AWP.block ?_ | refine AWP.cond rfl ?_ | refine AWP.ret ?_ | refine AWP.skip ?_ | refine AWP.exit ?_ | refine AWP.label ?_ | refine AWP.goto ?_ | refine Br (fun h => ?_) (fun h => ?_))
  all_goals (try conv => whnf)
  refine ⟨_, _, cac, ?_⟩
  repeat' ((try conv => whnf); with_reducible first | refine AWP.seq ?_ | refine AWP.region (G_ok _ _ _ _) rfl ?_ | refine AWP.draw (G_ok _ _ _ _) rfl [0, 1, 3, 7, 15, 15, 15, 127, 255, 511, 1023, 2047, 4095, 8191, 16383, 32767, 65535, 131071, 262143, 524287, 1048575, 2097151, 4194303, 8388607, 16777215, 33554431, 67108863, 134217727, 268435455, 134217727, 1073741823, 2147483647, 134217727, 6442450943, 17179869183, 34359738367, 68719476735, 137438953471, 274877906943, 549755813887, 1099511627775, 2199023255551, 4398046511103, 8796093022207, 17592186044415, 35184372088831, 70368744177663, 140737488355327, 281474976710655, 562949953421311, 1125899906842623, 2251799813685247] [1, 1, 1, 1, 3, 1, 1, 1, 1, 1, 1, 1, 1, 1, 1, 1, 1, 1, 1, 1, 1, 1, 1, 1, 1, 7, 1, 1, 1, 1, 1, 1, 1, 1, 1, 1, 1, 1, 1, 1, 1, 1, 1, 1] rfl rfl ?_ | refine AWP.draw (G_ok _ _ _ _) rfl [0, 0, 0, 6, 15, 0, 0, 0, 192, 511, 0, 0, 4095, 8191] [12, 1, 1] rfl rfl ?_ | refine AWP.draw (G_ok _ _ _ _) rfl [0, 0, 3, 0, 0, 31, 63, 127, 255, 255, 1023, 255, 255, 8191, 16383, 32767] [5, 1, 1, 1, 5, 1, 1, 1] rfl rfl ?_ | refine AWP.draw (G_ok _ _ _ _) rfl [0, 0, 2, 7, 0, 31, 63, 127, 255, 255, 255, 1279, 3839, 8191, 16383, 32767, 65535, 131071, 262143, 524287] [5, 1, 1, 1, 5, 1, 1, 1, 1, 1, 1, 1] rfl rfl ?_ | refine AWP.block ?_ | refine AWP.cond rfl ?_ | refine AWP.ret ?_ | refine AWP.skip ?_ | refine AWP.exit ?_ | refine AWP.label ?_ | refine AWP.goto ?_ | refine Br (fun h => ?_) (fun h => ?_))
  all_goals (try conv => whnf)
  · simp at h
  refine ⟨_, _, k1, ?_⟩
  repeat' ((try conv => whnf); with_reducible first | refine AWP.seq ?_ | refine AWP.region (G_ok _ _ _ _) rfl ?_ | refine AWP.draw (G_ok _ _ _ _) rfl [0, 1, 3, 7, 15, 15, 15, 127, 255, 511, 1023, 2047, 4095, 8191, 16383, 32767, 65535, 131071, 262143, 524287, 1048575, 2097151, 4194303, 8388607, 16777215, 33554431, 67108863, 134217727, 268435455, 134217727, 1073741823, 2147483647, 134217727, 6442450943, 17179869183, 34359738367, 68719476735, 137438953471, 274877906943, 549755813887, 1099511627775, 2199023255551, 4398046511103, 8796093022207, 17592186044415, 35184372088831, 70368744177663, 140737488355327, 281474976710655, 562949953421311, 1125899906842623, 2251799813685247] [1, 1, 1, 1, 3, 1, 1, 1, 1, 1, 1, 1, 1, 1, 1, 1, 1, 1, 1, 1, 1, 1, 1, 1, 1, 7, 1, 1, 1, 1, 1, 1, 1, 1, 1, 1, 1, 1, 1, 1, 1, 1, 1, 1] rfl rfl ?_ | refine AWP.draw (G_ok _ _ _ _) rfl [0, 0, 0, 6, 15, 0, 0, 0, 192, 511, 0, 0, 4095, 8191] [12, 1, 1] rfl rfl ?_ | refine AWP.draw (G_ok _ _ _ _) rfl [0, 0, 3, 0, 0, 31, 63, 127, 255, 255, 1023, 255, 255, 8191, 16383, 32767] [5, 1, 1, 1, 5, 1, 1, 1] rfl rfl ?_ | refine AWP.draw (G_ok _ _ _ _) rfl [0, 0, 2, 7, 0, 31, 63, 127, 255, 255, 255, 1279, 3839, 8191, 16383, 32767, 65535, 131071, 262143, 524287] [5, 1, 1, 1, 5, 1, 1, 1, 1, 1, 1, 1] rfl rfl ?_ | refine AWP.block ?_ | refine AWP.cond rfl ?_ | refine AWP.ret ?_ | refine AWP.skip ?_ | refine AWP.exit ?_ | refine AWP.label ?_ | refine AWP.goto ?_ | refine Br (fun h => ?_) (fun h => ?_))
  all_goals (try conv => whnf)
  refine ⟨_, _, c1x, ?_⟩
  repeat' ((try conv => whnf); with_reducible first | refine AWP.seq ?_ | refine AWP.region (G_ok _ _ _ _) rfl ?_ | refine AWP.draw (G_ok _ _ _ _) rfl [0, 1, 3, 7, 15, 15, 15, 127, 255, 511, 1023, 2047, 4095, 8191, 16383, 32767, 65535, 131071, 262143, 524287, 1048575, 2097151, 4194303, 8388607, 16777215, 33554431, 67108863, 134217727, 268435455, 134217727, 1073741823, 2147483647, 134217727, 6442450943, 17179869183, 34359738367, 68719476735, 137438953471, 274877906943, 549755813887, 1099511627775, 2199023255551, 4398046511103, 8796093022207, 17592186044415, 35184372088831, 70368744177663, 140737488355327, 281474976710655, 562949953421311, 1125899906842623, 2251799813685247] [1, 1, 1, 1, 3, 1, 1, 1, 1, 1, 1, 1, 1, 1, 1, 1, 1, 1, 1, 1, 1, 1, 1, 1, 1, 7, 1, 1, 1, 1, 1, 1, 1, 1, 1, 1, 1, 1, 1, 1, 1, 1, 1, 1] rfl rfl ?_ | refine AWP.draw (G_ok _ _ _ _) rfl [0, 0, 0, 6, 15, 0, 0, 0, 192, 511, 0, 0, 4095, 8191] [12, 1, 1] rfl rfl ?_ | refine AWP.draw (G_ok _ _ _ _) rfl [0, 0, 3, 0, 0, 31, 63, 127, 255, 255, 1023, 255, 255, 8191, 16383, 32767] [5, 1, 1, 1, 5, 1, 1, 1] rfl rfl ?_ | refine AWP.draw (G_ok _ _ _ _) rfl [0, 0, 2, 7, 0, 31, 63, 127, 255, 255, 255, 1279, 3839, 8191, 16383, 32767, 65535, 131071, 262143, 524287] [5, 1, 1, 1, 5, 1, 1, 1, 1, 1, 1, 1] rfl rfl ?_ | refine AWP.block ?_ | refine AWP.cond rfl ?_ | refine AWP.ret ?_ | refine AWP.skip ?_ | refine AWP.exit ?_ | refine AWP.label ?_ | refine AWP.goto ?_ | refine Br (fun h => ?_) (fun h => ?_))
  all_goals (try conv => whnf)
  refine ⟨_, _, k1, ?_⟩
  repeat' ((try conv => whnf); with_reducible first | refine AWP.seq ?_ | refine AWP.region (G_ok _ _ _ _) rfl ?_ | refine AWP.draw (G_ok _ _ _ _) rfl [0, 1, 3, 7, 15, 15, 15, 127, 255, 511, 1023, 2047, 4095, 8191, 16383, 32767, 65535, 131071, 262143, 524287, 1048575, 2097151, 4194303, 8388607, 16777215, 33554431, 67108863, 134217727, 268435455, 134217727, 1073741823, 2147483647, 134217727, 6442450943, 17179869183, 34359738367, 68719476735, 137438953471, 274877906943, 549755813887, 1099511627775, 2199023255551, 4398046511103, 8796093022207, 17592186044415, 35184372088831, 70368744177663, 140737488355327, 281474976710655, 562949953421311, 1125899906842623, 2251799813685247] [1, 1, 1, 1, 3, 1, 1, 1, 1, 1, 1, 1, 1, 1, 1, 1, 1, 1, 1, 1, 1, 1, 1, 1, 1, 7, 1, 1, 1, 1, 1, 1, 1, 1, 1, 1, 1, 1, 1, 1, 1, 1, 1, 1] rfl rfl ?_ | refine AWP.draw (G_ok _ _ _ _) rfl [0, 0, 0, 6, 15, 0, 0, 0, 192, 511, 0, 0, 4095, 8191] [12, 1, 1] rfl rfl ?_ | refine AWP.draw (G_ok _ _ _ _) rfl [0, 0, 3, 0, 0, 31, 63, 127, 255, 255, 1023, 255, 255, 8191, 16383, 32767] [5, 1, 1, 1, 5, 1, 1, 1] rfl rfl ?_ | refine AWP.draw (G_ok _ _ _ _) rfl [0, 0, 2, 7, 0, 31, 63, 127, 255, 255, 255, 1279, 3839, 8191, 16383, 32767, 65535, 131071, 262143, 524287] [5, 1, 1, 1, 5, 1, 1, 1, 1, 1, 1, 1] rfl rfl ?_ | refine AWP.block ?_ | refine AWP.cond rfl ?_ | refine AWP.ret ?_ | refine AWP.skip ?_ | refine AWP.exit ?_ | refine AWP.label ?_ | refine AWP.goto ?_ | refine Br (fun h => ?_) (fun h => ?_))
  all_goals (try conv => whnf)
  refine ⟨_, _, cx1, ?_⟩
  repeat' ((try conv => whnf); with_reducible first | refine AWP.seq ?_ | refine AWP.region (G_ok _ _ _ _) rfl ?_ | refine AWP.draw (G_ok _ _ _ _) rfl [0, 1, 3, 7, 15, 15, 15, 127, 255, 511, 1023, 2047, 4095, 8191, 16383, 32767, 65535, 131071, 262143, 524287, 1048575, 2097151, 4194303, 8388607, 16777215, 33554431, 67108863, 134217727, 268435455, 134217727, 1073741823, 2147483647, 134217727, 6442450943, 17179869183, 34359738367, 68719476735, 137438953471, 274877906943, 549755813887, 1099511627775, 2199023255551, 4398046511103, 8796093022207, 17592186044415, 35184372088831, 70368744177663, 140737488355327, 281474976710655, 562949953421311, 1125899906842623, 2251799813685247] [1, 1, 1, 1, 3, 1, 1, 1, 1, 1, 1, 1, 1, 1, 1, 1, 1, 1, 1, 1, 1, 1, 1, 1, 1, 7, 1, 1, 1, 1, 1, 1, 1, 1, 1, 1, 1, 1, 1, 1, 1, 1, 1, 1] rfl rfl ?_ | refine AWP.draw (G_ok _ _ _ _) rfl [0, 0, 0, 6, 15, 0, 0, 0, 192, 511, 0, 0, 4095, 8191] [12, 1, 1] rfl rfl ?_ | refine AWP.draw (G_ok _ _ _ _) rfl [0, 0, 3, 0, 0, 31, 63, 127, 255, 255, 1023, 255, 255, 8191, 16383, 32767] [5, 1, 1, 1, 5, 1, 1, 1] rfl rfl ?_ | refine AWP.draw (G_ok _ _ _ _) rfl [0, 0, 2, 7, 0, 31, 63, 127, 255, 255, 255, 1279, 3839, 8191, 16383, 32767, 65535, 131071, 262143, 524287] [5, 1, 1, 1, 5, 1, 1, 1, 1, 1, 1, 1] rfl rfl ?_ | refine AWP.block ?_ | refine AWP.cond rfl ?_ | refine AWP.ret ?_ | refine AWP.skip ?_ | refine AWP.exit ?_ | refine AWP.label ?_ | refine AWP.goto ?_ | refine Br (fun h => ?_) (fun h => ?_))
  all_goals (try conv => whnf)
  refine ⟨_, _, awake9_ok, ?_⟩
  repeat' ((try conv => whnf); with_reducible first | refine AWP.seq ?_ | refine AWP.region (G_ok _ _ _ _) rfl ?_ | refine AWP.draw (G_ok _ _ _ _) rfl [0, 1, 3, 7, 15, 15, 15, 127, 255, 511, 1023, 2047, 4095, 8191, 16383, 32767, 65535, 131071, 262143, 524287, 1048575, 2097151, 4194303, 8388607, 16777215, 33554431, 67108863, 134217727, 268435455, 134217727, 1073741823, 2147483647, 134217727, 6442450943, 17179869183, 34359738367, 68719476735, 137438953471, 274877906943, 549755813887, 1099511627775, 2199023255551, 4398046511103, 8796093022207, 17592186044415, 35184372088831, 70368744177663, 140737488355327, 281474976710655, 562949953421311, 1125899906842623, 2251799813685247] [1, 1, 1, 1, 3, 1, 1, 1, 1, 1, 1, 1, 1, 1, 1, 1, 1, 1, 1, 1, 1, 1, 1, 1, 1, 7, 1, 1, 1, 1, 1, 1, 1, 1, 1, 1, 1, 1, 1, 1, 1, 1, 1, 1] rfl rfl ?_ | refine AWP.draw (G_ok _ _ _ _) rfl [0, 0, 0, 6, 15, 0, 0, 0, 192, 511, 0, 0, 4095, 8191] [12, 1, 1] rfl rfl ?_ | refine AWP.draw (G_ok _ _ _ _) rfl [0, 0, 3, 0, 0, 31, 63, 127, 255, 255, 1023, 255, 255, 8191, 16383, 32767] [5, 1, 1, 1, 5, 1, 1, 1] rfl rfl ?_ | refine AWP.draw (G_ok _ _ _ _) rfl [0, 0, 2, 7, 0, 31, 63, 127, 255, 255, 255, 1279, 3839, 8191, 16383, 32767, 65535, 131071, 262143, 524287] [5, 1, 1, 1, 5, 1, 1, 1, 1, 1, 1, 1] rfl rfl ?_ | refine AWP.block ?_ | refine AWP.cond rfl ?_ | refine AWP.ret ?_ | refine AWP.skip ?_ | refine AWP.exit ?_ | refine AWP.label ?_ | refine AWP.goto ?_ | refine Br (fun h => ?_) (fun h => ?_))
  all_goals (try conv => whnf)
  exact finB rfl rfl

theorem args_row (s : ByteArray) (a b c : Tm) {p q r : Prop} (_ : p) (_ : q) (_ : r) : Snd 7 [sv s, a.pv, b.pv, c.pv] [bv true] := args_ok s a b c

end Go.Vai

/- What is read as a term is a term's value. No condition. -/
namespace Go.Vai
open Go.Proofs

/-- Each number is of its kind. -/
inductive Tm.Wf : Tm → Prop where
  | mk (k : Int) (n : ByteArray) (i re im : Int) (ts : List Tm) (hk : (Lit.int .i64 k).wf = true) (hi : (Lit.int .i64 i).wf = true) (hre : (Lit.int .u64 re).wf = true) (him : (Lit.int .u64 im).wf = true) (h : ∀ t ∈ ts, Tm.Wf t) : Tm.Wf (.mk k n i re im ts)
theorem Tm.Wf.arg {t : Tm} (h : t.Wf) : ∀ u ∈ t.ts, u.Wf := by cases h; assumption
theorem Tm.Wf.wi {t : Tm} (h : t.Wf) : (Lit.int .i64 t.i).wf = true := by cases h; assumption
theorem Tm.Wf.wk {t : Tm} (h : t.Wf) : (Lit.int .i64 t.k).wf = true := by cases h; assumption
theorem Tm.Wf.wre {t : Tm} (h : t.Wf) : (Lit.int .u64 t.re).wf = true := by cases h; assumption
theorem Tm.Wf.wim {t : Tm} (h : t.Wf) : (Lit.int .u64 t.im).wf = true := by cases h; assumption

theorem listOf {α : Type} {p : Nat → α → Prop} : ∀ n, (∀ i, i < n → ∃ t, p i t) → ∃ l : List α, l.length = n ∧ ∀ (i : Nat) t, l[i]? = some t → p i t
  | 0, _ => ⟨[], rfl, fun i t h => by simp at h⟩
  | n + 1, h => by
    obtain ⟨l, h1, h2⟩ := listOf n (fun i hi => h i (by omega))
    obtain ⟨t, ht⟩ := h n (by omega)
    refine ⟨l ++ [t], by simp [h1], fun i u hu => ?_⟩
    rcases Nat.lt_or_ge i l.length with h3 | h3
    · rw [List.getElem?_append_left h3] at hu
      exact h2 i u hu
    · rw [List.getElem?_append_right h3] at hu
      have h4 : i - l.length = 0 := by
        rcases Nat.eq_zero_or_pos (i - l.length) with h5 | h5
        · exact h5
        · rw [List.getElem?_eq_none (show ([t] : List α).length ≤ i - l.length from h5)] at hu; cases hu
      rw [h4] at hu
      cases hu
      have : i = n := by omega
      subst this
      exact ht

abbrev okW0 (w : World) : Nat → Nat → Prop := fun b _ => b < w.heap.size

/-- A row of cells is a term's. -/
def RepTm (w : World) (t : Tm) (cs : List Value) : Prop := cs.length = 6 ∧ ∀ (j : Nat) p v, t.cells[j]? = some p → cs[j]? = some v → RepD w (okW0 w) p v

section
variable {H : Type} {enc : TypeId × Value → H} {w : World} {base : Nat} {spare : Nat → Bool} {held : Bool}

theorem cells_get {a : Addr} {n : Nat} {cs : List Value} (h : w.cells? base a n = some cs) : cs.length = n ∧ ∀ j, j < n → w.cell? (a.add j) = cs[j]? := by
  have := World.cells?_some h
  exact ⟨this.2.1, this.2.2⟩

theorem repTs {a : Addr} {len cap : Nat} {ts : List Tm} (hl : ts.length = len) (hc : len ≤ cap) (h : ∀ (i : Nat) t, ts[i]? = some t → ∃ cs, w.cells? base (a.add (i * 6)) 6 = some cs ∧ RepTm w t cs) :
    RepD w (okW0 w) (.slc 6 (ts.map Tm.enc) false) (.slice (some a) len cap) := by
  have hl2 : (ts.map Tm.enc).length = len := by simp [hl]
  rw [← hl2]
  have hget : ∀ (i : Nat) e, (ts.map Tm.enc)[i]? = some e → ∃ t, ts[i]? = some t ∧ e = t.cells := fun i e he => by
    rw [List.getElem?_map] at he
    cases ht : ts[i]? with
    | none => rw [ht] at he; cases he
    | some t => rw [ht] at he; cases he; exact ⟨t, rfl, Tm.enc_eq t⟩
  have hne : ts.map Tm.enc ≠ [] → a = ⟨a.block, a.off, none⟩ := fun hn => by
    cases ts with
    | nil => exact absurd rfl hn
    | cons t r =>
      obtain ⟨cs, h1, h2, _⟩ := h 0 t rfl
      obtain ⟨h3, h4⟩ := cells_get h1
      have h5 := h4 0 (by omega)
      rw [Nat.zero_mul] at h5
      have h6 : w.cell? a = some cs[0] := by
        rw [List.getElem?_eq_getElem (by omega)] at h5
        simpa [Addr.add] using h5
      unfold World.cell? at h6
      split at h6
      · split at h6
        · cases h6
        · rename_i hs
          cases a with
          | mk b o s => cases s with
            | none => rfl
            | some s => simp at hs
      · cases h6
  refine RepD.slc 6 _ false (some a) cap (fun i j => (w.cell? ⟨a.block, a.off + (i * 6 + j), none⟩).getD undef) (by omega) (fun h => by cases h) (fun i e he => ?_) (fun hn => ⟨a.block, a.off, congrArg some (hne hn), fun i j hi hj => ?_⟩) (fun i j e p he hp => ?_)
  · obtain ⟨t, _, rfl⟩ := hget i e he; rfl
  · have he : (ts.map Tm.enc)[i]? = some (ts.map Tm.enc)[i] := List.getElem?_eq_getElem hi
    obtain ⟨t, ht, _⟩ := hget i _ he
    obtain ⟨cs, h1, h2, _⟩ := h i t ht
    obtain ⟨h3, h4⟩ := cells_get h1
    have h5 := h4 j hj
    rw [hne hn] at h5
    rw [List.getElem?_eq_getElem (by omega)] at h5
    have h6 : w.cell? ⟨a.block, a.off + (i * 6 + j), none⟩ = some cs[j] := by
      rw [← h5]
      unfold Addr.add
      by_cases hi0 : i * 6 = 0 <;> by_cases hj0 : j = 0 <;> simp [hi0, hj0, Nat.add_assoc]
    rw [h6]
    refine ⟨?_, rfl⟩
    unfold World.cell? at h6
    cases hb : w.heap[a.block]? with
    | none => rw [hb] at h6; cases h6
    | some o => exact (Array.getElem?_eq_some_iff.1 hb).1
  · obtain ⟨t, ht, rfl⟩ := hget i e he
    obtain ⟨cs, h1, h2, h7⟩ := h i t ht
    obtain ⟨h3, h4⟩ := cells_get h1
    have hj : j < 6 := (List.getElem?_eq_some_iff.1 hp).1
    have h5 := h4 j hj
    rw [hne (by intro e; rw [e] at he; simp at he)] at h5
    rw [List.getElem?_eq_getElem (by omega)] at h5
    have h6 : w.cell? ⟨a.block, a.off + (i * 6 + j), none⟩ = some cs[j] := by
      rw [← h5]
      unfold Addr.add
      by_cases hi0 : i * 6 = 0 <;> by_cases hj0 : j = 0 <;> simp [hi0, hj0, Nat.add_assoc]
    rw [h6]
    exact h7 j p cs[j] hp (List.getElem?_eq_getElem (by omega))

theorem open_terms_of {fuel : Nat} (ih : ∀ (cs : List Value) x, DataW.trod enc Try.prog w base spare held fuel 25 cs = some x → ∃ t : Tm, t.Wf ∧ RepTm w t cs)
    {cs : List Value} {x : DataW H × List MemPlace} (h : DataW.trod enc Try.prog w base spare held (fuel + 1) 23 cs = some x) :
    ∃ ts : List Tm, (∀ t ∈ ts, t.Wf) ∧ ∃ v, cs = [v] ∧ RepD w (okW0 w) (.slc 6 (ts.map Tm.enc) false) v := by
  rcases DataW.trod_slice Try.underlying23 h with ⟨rfl, rfl⟩ | ⟨a, len, cap, elems, rest, n, hn, rfl, rfl, hb, hl, hm, hlen, hel, _, _⟩
  · refine ⟨[], (fun t h => by cases h), _, rfl, ?_⟩
    exact RepD.slc 6 [] false none 0 (fun _ _ => undef) (Nat.le_refl _) (fun _ => rfl) (fun i e he => by simp at he) (fun hn => absurd rfl hn) (fun i j e p he => by simp at he)
  · cases hn
    have hsz : Try.prog.cellsOf 25 = 6 := by kernel_rfl
    rw [hsz] at hel
    obtain ⟨ts, h1, h2⟩ := listOf (p := fun i (t : Tm) => t.Wf ∧ ∃ cs, w.cells? base (a.add (i * 6)) 6 = some cs ∧ RepTm w t cs) len (fun i hi => by
      have h1 := hel i hi
      rw [List.getElem?_eq_getElem (by omega)] at h1
      rw [Option.bind_eq_some_iff] at h1
      obtain ⟨cs, h2, h3⟩ := h1
      obtain ⟨t, h4, h5⟩ := ih cs _ h3
      exact ⟨t, h4, cs, h2, h5⟩)
    refine ⟨ts, fun t ht => ?_, _, rfl, repTs h1 hl (fun i t ht => (h2 i t ht).2)⟩
    obtain ⟨i, hi, rfl⟩ := List.mem_iff_getElem.1 ht
    exact (h2 i _ (List.getElem?_eq_getElem hi)).1

set_option maxRecDepth 100000 in
theorem open_term : ∀ (fuel : Nat) (cs : List Value) (x : DataW H × List MemPlace), DataW.trod enc Try.prog w base spare held fuel 25 cs = some x → ∃ t : Tm, t.Wf ∧ RepTm w t cs := by
  intro fuel
  induction fuel using Nat.strongRecOn with
  | _ fuel ih =>
    intro cs x h
    obtain ⟨xs, n, hn, _, hlen, hxs, hf⟩ := DataW.trod_struct Try.underlying25 h
    subst hn
    have hsz : Try.prog.cellsOf 25 = 6 := by kernel_rfl
    have c1 : Try.prog.cellsOf 3 = 1 := by kernel_rfl
    have c2 : Try.prog.cellsOf 9 = 1 := by kernel_rfl
    have c3 : Try.prog.cellsOf 2 = 1 := by kernel_rfl
    have c4 : Try.prog.cellsOf 22 = 1 := by kernel_rfl
    have c5 : Try.prog.cellsOf 23 = 1 := by kernel_rfl
    rw [hsz] at hlen
    have hxs : xs.length = 6 := hxs
    have f0 := hf 0 _ rfl
    have f1 := hf 1 _ rfl
    have f2 := hf 2 _ rfl
    have f3 := hf 3 _ rfl
    have f4 := hf 4 _ rfl
    have f5 := hf 5 _ rfl
    match cs, hlen with
    | [v0, v1, v2, v3, v4, v5], _ =>
    match xs, hxs with
    | [x0, x1, x2, x3, x4, x5], _ =>
    simp only [c1, c2, c3, c4, c5, List.drop, List.take, List.getElem?_cons_zero, List.getElem?_cons_succ] at f0 f1 f2 f3 f4 f5
    obtain ⟨k, h0, _, w0⟩ := DataW.trod_int Try.underlying3 f0
    obtain ⟨s, h1, _, w1⟩ := DataW.trod_string Try.underlying9 f1
    obtain ⟨i, h2, _, w2⟩ := DataW.trod_int Try.underlying2 f2
    obtain ⟨re, h3, _, w3⟩ := DataW.trod_int Try.underlying22 f3
    obtain ⟨im, h4, _, w4⟩ := DataW.trod_int Try.underlying22 f4
    cases h0; cases h1; cases h2; cases h3; cases h4
    obtain ⟨ts, wts, v, hv, hts⟩ : ∃ ts : List Tm, (∀ t ∈ ts, t.Wf) ∧ ∃ v, [v5] = [v] ∧ RepD w (okW0 w) (.slc 6 (ts.map Tm.enc) false) v := by
      cases n with
      | zero => simp [DataW.trod] at f5
      | succ n => exact open_terms_of (fun cs x h => ih n (by omega) cs x h) f5
    cases hv
    refine ⟨.mk k s i re im ts, .mk _ _ _ _ _ _ w0 w2 w3 w4 wts, rfl, fun j p v hp hv => ?_⟩
    match j with
    | 0 => cases hp; cases hv; exact .s _ rfl
    | 1 => cases hp; cases hv; exact .s _ rfl
    | 2 => cases hp; cases hv; exact .s _ rfl
    | 3 => cases hp; cases hv; exact .s _ rfl
    | 4 => cases hp; cases hv; exact .s _ rfl
    | 5 => cases hp; cases hv; exact hts
    | j + 6 => simp [Tm.cells] at hp

theorem open_terms (fuel : Nat) (cs : List Value) (x : DataW H × List MemPlace) (h : DataW.trod enc Try.prog w base spare held fuel 23 cs = some x) :
    ∃ ts : List Tm, (∀ t ∈ ts, t.Wf) ∧ ∃ v, cs = [v] ∧ RepD w (okW0 w) (.slc 6 (ts.map Tm.enc) false) v := by
  cases fuel with
  | zero => simp [DataW.trod] at h
  | succ n => exact open_terms_of (fun cs x h => open_term n cs x h) h
end

theorem law_calls {P : Program} {f : Nat} {args : List PV} {vs : List Value} {w : World} (hs : SoundAt P f args [] (bv true) []) (he : Enters P f) (hl : vs.length = args.length)
    (hr : ∀ (i : Nat) p v, args[i]? = some p → vs[i]? = some v → RepV w ⟨fun _ => none, okW0 w⟩ p v) : Calls P f vs.toArray w fun e w' => e = .returned (.bool true) ∧ Go.RowKit.Below w.heap.size w w' := by
  have h1 := hs.2 w (okW0 w) (fun _ => none) vs hl hr (fun k r hk => by simp at hk) (fun _ _ => rfl) (fun k k' b c s l c' s' l' hk => by cases hk) (fun b ⟨k, c, s, l, hk⟩ => by cases hk)
    (fun b o hb => ⟨hb, fun ⟨k, c, s, l, hk⟩ => by cases hk⟩)
  refine (h1.calls he).mono ?_
  rintro e w' ⟨v, rfl, β', h2, _, _, _, _, _, hk⟩
  refine ⟨by rw [repV_bool h2], hk.os, hk.tape, hk.output, hk.size, fun b hb => hk.block b hb (fun ⟨k, c, s, l, hk⟩ => by cases hk)⟩

theorem repV_term {w : World} {t : Tm} {us : Array Value} (h : RepTm w t us.toList) : RepV w ⟨fun _ => none, okW0 w⟩ t.pv (.agg us) :=
  ⟨us.toList, by simp, h.1, fun j p v hp hv => ⟨repC_of_D (h.2 j p v hp hv), RepD.one (h.2 j p v hp hv)⟩⟩

theorem okWide_agg {P : Program} {w : World} {r : Reach} {base : Nat} {t : Nat} {fs : Array Field} {v : Value} (hu : P.underlying t = some (.struct fs)) (h : Value.okWide P w r base t v) : ∃ cs, v = .agg cs := by
  unfold Value.okWide at h
  rw [hu] at h
  obtain ⟨cs, h1, _⟩ := h
  exact ⟨cs, h1⟩

end Go.Vai

/- The row of OrderArgs: the law, walked, is what the statement says. No condition. -/
namespace Go.Proofs.Ytbgpmnpjekmojaa.orderArgs
open Go.ChangeShapes Go.WideShapes Go.ChangeAt Go.RowKit Go.Vai
open Go.ChangeMaps (open_string shut_string)
theorem own : ownKnob Try.prog.godebug = none := by kernel_rfl
theorem laidOut : laidOutB Try.prog = true := by kernel_rfl
set_option maxRecDepth 100000 in
theorem lifted (os : Os) (started : os.Started) (H : Type) (enc : TypeId × Value → H) :
    ReturnsInHanded {} Try.checked os 7 .any (Rows.orderArgsSpec.pre6 enc Try.prog Try.f7 Rows.orderArgsRow.domain false) (Rows.orderArgsSpec.post enc Try.prog Try.f7 false true false false) := by
  refine returnsInHanded_of_change_sized (C := Try.checked) own started (by kernel_rfl) Try.func7
    (ChangeSpec.witness6 (enc := enc) (C := Try.checked) false ⟨#[], #[.string ByteArray.empty, .agg #[.int .i64 0, .string ByteArray.empty, .int .i64 0, .int .u64 0, .int .u64 0, .slice none 0 0], .agg #[.int .i64 0, .string ByteArray.empty, .int .i64 0, .int .u64 0, .int .u64 0, .slice none 0 0], .agg #[.int .i64 0, .string ByteArray.empty, .int .i64 0, .int .u64 0, .int .u64 0, .slice none 0 0]], []⟩ 8 (by kernel_rfl) (by kernel_rfl) (by kernel_rfl) (by kernel_rfl)) ?_
  intro W base args ds gs before hval0 hW hcnd hsz0 _
  have hval : ∀ (j : Nat) t v, Try.f7.params[j]? = some t → args[j]? = some v → Value.okWide Try.prog W .any base t v := hval0
  have hsz : (DataW.weightsEach Try.prog (Try.f7.params.toList ++ Rows.orderArgsSpec.plain.varTypes Try.prog) (ds ++ gs)).all (· ≤ reachBytes) = true := hsz0
  have hW' := hW
  obtain ⟨p, q, hA0, hV, rfl, hfz, hnd⟩ := hW
  have hA : DataW.TrodAll enc Try.prog W 0 (fun _ => true) true Try.f7.params.toList args.toList ds p := hA0
  rw [Try.params7] at hA hval hsz
  obtain ⟨v0, vs0, d0, ds0, p0, q0, hargs, rfl, rfl, h0, r0⟩ := trodAll_cons hA
  obtain ⟨v1, vs1, d1, ds1, p1, q1, rfl, rfl, rfl, h1, r1⟩ := trodAll_cons r0
  obtain ⟨v2, vs2, d2, ds2, p2, q2, rfl, rfl, rfl, h2, r2⟩ := trodAll_cons r1
  obtain ⟨v3, vs3, d3, ds3, p3, q3, rfl, rfl, rfl, h3, r3⟩ := trodAll_cons r2
  obtain ⟨rfl, rfl, rfl⟩ := trodAll_nil r3
  obtain rfl : args = #[v0, v1, v2, v3] := by cases args; simp_all
  obtain ⟨rfl, rfl⟩ := trodVars_none hV
  obtain ⟨a0, rfl, rfl, rfl, y0⟩ := open_string Try.underlying9 (hval 0 9 v0 rfl rfl) h0
  have k1 := h1
  have lt1 : ∀ x ∈ p1, x.block < W.heap.size := by obtain ⟨m, hm⟩ := k1; exact DataW.trod_lt m _ _ _ hm
  obtain ⟨us1, rfl⟩ := okWide_agg Try.underlying25 (hval 1 25 v1 rfl rfl)
  obtain ⟨fu1, hf1⟩ := h1
  obtain ⟨a1, wf1, re1⟩ := open_term fu1 _ _ hf1
  have k2 := h2
  have lt2 : ∀ x ∈ p2, x.block < W.heap.size := by obtain ⟨m, hm⟩ := k2; exact DataW.trod_lt m _ _ _ hm
  obtain ⟨us2, rfl⟩ := okWide_agg Try.underlying25 (hval 2 25 v2 rfl rfl)
  obtain ⟨fu2, hf2⟩ := h2
  obtain ⟨a2, wf2, re2⟩ := open_term fu2 _ _ hf2
  have k3 := h3
  have lt3 : ∀ x ∈ p3, x.block < W.heap.size := by obtain ⟨m, hm⟩ := k3; exact DataW.trod_lt m _ _ _ hm
  obtain ⟨us3, rfl⟩ := okWide_agg Try.underlying25 (hval 3 25 v3 rfl rfl)
  obtain ⟨fu3, hf3⟩ := h3
  obtain ⟨a3, wf3, re3⟩ := open_term fu3 _ _ hf3
  clear hA0 hval0 hsz0 hsz
  refine (law_calls (vs := [.string a0, .agg us1, .agg us2, .agg us3]) (args_row a0 a1 a2 a3 wf1 wf2 wf3) ⟨_, Try.func7, by decide, rfl⟩ rfl ?_).mono fun e W' ⟨he, bel⟩ => ?_
  · intro i p v hp hv
    match i with
    | 0 => cases hp; cases hv; exact RepD.s _ rfl
    | 1 => cases hp; cases hv; exact repV_term (by simpa [Value.cells] using re1)
    | 2 => cases hp; cases hv; exact repV_term (by simpa [Value.cells] using re2)
    | 3 => cases hp; cases hv; exact repV_term (by simpa [Value.cells] using re3)
    | i + 4 => simp at hp
  subst he
  exact ⟨_, rfl, _, _, _, [], _, [], hW', trodAll_mk1 (shut_bool Try.underlying4 _), (trodAll_cons_mk (shut_string Try.underlying9 y0) (trodAll_cons_mk (Below.trod laidOut (by kernel_rfl) (of_decide_eq_true (by kernel_rfl)) k1 bel lt1) (trodAll_cons_mk (Below.trod laidOut (by kernel_rfl) (of_decide_eq_true (by kernel_rfl)) k2 bel lt2) (trodAll_cons_mk (Below.trod laidOut (by kernel_rfl) (of_decide_eq_true (by kernel_rfl)) k3 bel lt3) trodAll_mk0)))), rfl, bel.frame _, fun h => by cases h⟩
theorem over : Rows.orderArgsRow.holds Try.pinned (OpenSpec.ofChange Rows.orderArgsSpec) :=
  OpenClaim.holds_of_wide 7 Try.f7 rfl rfl rfl rfl rfl rfl rfl ⟨rfl, rfl, rfl, rfl, rfl⟩ rfl rfl rfl rfl rfl (by kernel_rfl) Try.func7 (by kernel_rfl)
    (of_decide_eq_true (by kernel_rfl)) (by unfold Func.isWrapper; first | (rw [if_pos (by decide +kernel)]; kernel_rfl) | (rw [if_neg (by decide +kernel)]; exact ⟨rfl, rfl⟩))
    (fun os started H enc _ => lifted os started H enc)
end Go.Proofs.Ytbgpmnpjekmojaa.orderArgs
namespace Go.Proofs.Ytbgpmnpjekmojaa
/-- The row. -/
theorem orderArgs_holds : Rows.OrderArgsSaid := orderArgs.over
#print axioms orderArgs_holds
end Go.Proofs.Ytbgpmnpjekmojaa
