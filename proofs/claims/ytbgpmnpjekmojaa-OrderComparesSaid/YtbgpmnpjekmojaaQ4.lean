/- The row of OrderCompares: the law, walked, is what the statement says. No condition. -/
import Derived.Test.YtbgpmnpjekmojaaQ3
import Derived.ProofKit
import Derived.OpenShut
import Derived.ShutString
import Derived.ChangeOld
import Derived.Below
import Derived.SizedLaws
import Derived.Test.YtbgpmnpjekmojaaRows
import Derived.WalkKit

/- The order of texts; the reference's Order. No condition. -/
namespace Go.Vai
open Go.Proofs

theorem less_irr : ∀ x : List UInt8, Op.bytesLess x x = false
  | [] => rfl
  | a :: x => by simp [Op.bytesLess, less_irr x]
theorem less_tri : ∀ {x y : List UInt8}, Op.bytesLess x y = false → Op.bytesLess y x = false → x = y
  | [], [], _, _ => rfl
  | [], _ :: _, h, _ => by cases h
  | _ :: _, [], _, h => by cases h
  | a :: x, b :: y, h1, h2 => by
    rw [Op.bytesLess, Bool.or_eq_false_iff, decide_eq_false_iff_not] at h1 h2
    have hab : a = b := UInt8.le_antisymm (UInt8.not_lt.1 h2.1) (UInt8.not_lt.1 h1.1)
    subst hab
    have := less_tri (x := x) (y := y) (by simpa using h1.2) (by simpa using h2.2)
    rw [this]
theorem less_trans : ∀ {x y z : List UInt8}, Op.bytesLess x y = true → Op.bytesLess y z = true → Op.bytesLess x z = true
  | [], [], _, h, _ => by cases h
  | _ :: _, [], _, h, _ => by cases h
  | _, _ :: _, [], _, h => by cases h
  | [], _ :: _, _ :: _, _, _ => rfl
  | a :: x, b :: y, c :: z, h1, h2 => by
    simp [Op.bytesLess] at h1 h2 ⊢
    rcases h1 with h1 | ⟨rfl, h1⟩
    · rcases h2 with h2 | ⟨rfl, _⟩
      · exact .inl (UInt8.lt_trans h1 h2)
      · exact .inl h1
    · rcases h2 with h2 | ⟨rfl, h2⟩
      · exact .inl h2
      · exact .inr ⟨rfl, less_trans h1 h2⟩
theorem less_asymm {x y : List UInt8} (h : Op.bytesLess x y = true) : Op.bytesLess y x = false := by
  cases h2 : Op.bytesLess y x with
  | false => rfl
  | true =>
    have := less_trans h h2
    rw [less_irr] at this
    cases this

theorem refCmp_ok (a b : Int) : Snd 77 [iv a, iv b] [iv (cmpI a b)] := by
  refine sound_pure (Γ := G 13 (fun _ => false) (fun _ => false) (fun _ => false)) (G_ok _ _ _ _) Try.func77 rfl (by decide) rfl rfl rfl ?_
  repeat' ((try conv => whnf); with_reducible first | refine AWP.seq ?_ | refine AWP.region (G_ok _ _ _ _) rfl ?_ | refine AWP.block ?_ | refine AWP.cond rfl ?_ | refine AWP.ret ?_ | refine AWP.skip ?_ | refine AWP.exit ?_ | refine AWP.label ?_ | refine AWP.goto ?_ | refine Br (fun h => ?_) (fun h => ?_))
  all_goals (try conv => whnf)
  all_goals (refine finI rfl ?_; simp at *; simp [cmpI]; omega)
theorem refLess_ok (a b : Int) : Snd 100 [uv a, uv b] [iv (cmpI a b)] := by
  refine sound_pure (Γ := G 13 (fun _ => false) (fun _ => false) (fun _ => false)) (G_ok _ _ _ _) Try.func100 rfl (by decide) rfl rfl rfl ?_
  repeat' ((try conv => whnf); with_reducible first | refine AWP.seq ?_ | refine AWP.region (G_ok _ _ _ _) rfl ?_ | refine AWP.block ?_ | refine AWP.cond rfl ?_ | refine AWP.ret ?_ | refine AWP.skip ?_ | refine AWP.exit ?_ | refine AWP.label ?_ | refine AWP.goto ?_ | refine Br (fun h => ?_) (fun h => ?_))
  all_goals (try conv => whnf)
  all_goals (refine finI rfl ?_; simp at *; simp [cmpI]; omega)
theorem refText_ok (a b : ByteArray) : Snd 80 [sv a, sv b] [iv (cmpS a b)] := by
  refine sound_pure (Γ := G 13 (fun _ => false) (fun _ => false) (fun _ => false)) (G_ok _ _ _ _) Try.func80 rfl (by decide) rfl rfl rfl ?_
  repeat' ((try conv => whnf); with_reducible first | refine AWP.seq ?_ | refine AWP.region (G_ok _ _ _ _) rfl ?_ | refine AWP.block ?_ | refine AWP.cond rfl ?_ | refine AWP.ret ?_ | refine AWP.skip ?_ | refine AWP.exit ?_ | refine AWP.label ?_ | refine AWP.goto ?_ | refine Br (fun h => ?_) (fun h => ?_))
  all_goals (try conv => whnf)
  · refine finI rfl ?_; simp [cmpS, h]
  · rename_i h1
    refine finI rfl ?_
    simp at h
    simp [cmpS, h]
  · rename_i h1
    refine finI rfl ?_
    simp at h
    have h2 := h h1
    simp [cmpS, h2, less_irr]
theorem refCompareC_ok (a b c d : Int) : Snd 79 [uv a, uv b, uv c, uv d] [iv (orL [cmpI a c, cmpI b d])] := by
  refine sound_pure (Γ := G 19 (fun _ => false) (fun _ => false) (fun _ => false)) (G_ok _ _ _ _) Try.func79 rfl (by decide) rfl rfl rfl ?_
  repeat' ((try conv => whnf); with_reducible first | refine AWP.seq ?_ | refine AWP.region (G_ok _ _ _ _) rfl ?_ | refine AWP.block ?_ | refine AWP.cond rfl ?_ | refine AWP.ret ?_ | refine AWP.skip ?_ | refine AWP.exit ?_ | refine AWP.label ?_ | refine AWP.goto ?_ | refine Br (fun h => ?_) (fun h => ?_))
  refine ⟨_, _, refLess_ok a c, ?_⟩
  repeat' ((try conv => whnf); with_reducible first | refine AWP.seq ?_ | refine AWP.region (G_ok _ _ _ _) rfl ?_ | refine AWP.block ?_ | refine AWP.cond rfl ?_ | refine AWP.ret ?_ | refine AWP.skip ?_ | refine AWP.exit ?_ | refine AWP.label ?_ | refine AWP.goto ?_ | refine Br (fun h => ?_) (fun h => ?_))
  all_goals (try conv => whnf)
  · simp at h
    refine finI rfl ?_
    simp [orL, h]
  · simp at h
    refine ⟨_, _, refLess_ok b d, ?_⟩
    repeat' ((try conv => whnf); with_reducible first | refine AWP.seq ?_ | refine AWP.region (G_ok _ _ _ _) rfl ?_ | refine AWP.block ?_ | refine AWP.cond rfl ?_ | refine AWP.ret ?_ | refine AWP.skip ?_ | refine AWP.exit ?_ | refine AWP.label ?_ | refine AWP.goto ?_ | refine Br (fun h => ?_) (fun h => ?_))
    all_goals (try conv => whnf)
    refine finI rfl ?_
    simp [orL, h]
theorem refRank_ok (t : Tm) : Snd 78 [t.pv] [iv (rankI t.k)] := by
  refine sound_pure (Γ := G 13 (fun _ => false) (fun _ => false) (fun _ => false)) (G_ok _ _ _ _) Try.func78 rfl (by decide) rfl rfl rfl ?_
  repeat' ((try conv => whnf); with_reducible first | refine AWP.seq ?_ | refine AWP.region (G_ok _ _ _ _) rfl ?_ | refine AWP.block ?_ | refine AWP.cond rfl ?_ | refine AWP.ret ?_ | refine AWP.skip ?_ | refine AWP.exit ?_ | refine AWP.label ?_ | refine AWP.goto ?_ | refine Br (fun h => ?_) (fun h => ?_))
  all_goals (try conv => whnf)
  all_goals (refine finI rfl ?_; simp at *; simp [rankI, *])


theorem refOrder_ok (a b : Tm) (ha : a.Fit) (hb : b.Fit) : Snd 49 [a.pv, b.pv] [iv (compareT a b)] := by
  have hl : ∀ t : Tm, (t.ts.map Tm.enc).length = t.ts.length := fun t => by simp
  refine sound_pure (Γ := G 85 (fun _ => false) (fun _ => false) (fun _ => false)) (G_ok _ _ _ _) Try.func49 rfl (by decide) rfl rfl rfl ?_
  repeat' ((try conv => whnf); with_reducible first | refine AWP.seq ?_ | refine AWP.region (G_ok _ _ _ _) rfl ?_ | refine AWP.draw (G_ok _ _ _ _) rfl [0, 1, 0, 7, 15, 31] [3, 1, 1, 1] rfl rfl ?_ | refine AWP.draw (G_ok _ _ _ _) rfl [0, 1, 0, 7, 15, 0, 32, 0, 224, 480, 1023, 2047] [10, 1, 1] rfl rfl ?_ | refine AWP.block ?_ | refine AWP.cond rfl ?_ | refine AWP.ret ?_ | refine AWP.skip ?_ | refine AWP.exit ?_ | refine AWP.label ?_ | refine AWP.goto ?_ | refine Br (fun h => ?_) (fun h => ?_))
  refine ⟨_, _, refRank_ok a, ?_⟩
  repeat' ((try conv => whnf); with_reducible first | refine AWP.seq ?_ | refine AWP.region (G_ok _ _ _ _) rfl ?_ | refine AWP.draw (G_ok _ _ _ _) rfl [0, 1, 0, 7, 15, 31] [3, 1, 1, 1] rfl rfl ?_ | refine AWP.draw (G_ok _ _ _ _) rfl [0, 1, 0, 7, 15, 0, 32, 0, 224, 480, 1023, 2047] [10, 1, 1] rfl rfl ?_ | refine AWP.block ?_ | refine AWP.cond rfl ?_ | refine AWP.ret ?_ | refine AWP.skip ?_ | refine AWP.exit ?_ | refine AWP.label ?_ | refine AWP.goto ?_ | refine Br (fun h => ?_) (fun h => ?_))
  refine ⟨_, _, refRank_ok b, ?_⟩
  repeat' ((try conv => whnf); with_reducible first | refine AWP.seq ?_ | refine AWP.region (G_ok _ _ _ _) rfl ?_ | refine AWP.draw (G_ok _ _ _ _) rfl [0, 1, 0, 7, 15, 31] [3, 1, 1, 1] rfl rfl ?_ | refine AWP.draw (G_ok _ _ _ _) rfl [0, 1, 0, 7, 15, 0, 32, 0, 224, 480, 1023, 2047] [10, 1, 1] rfl rfl ?_ | refine AWP.block ?_ | refine AWP.cond rfl ?_ | refine AWP.ret ?_ | refine AWP.skip ?_ | refine AWP.exit ?_ | refine AWP.label ?_ | refine AWP.goto ?_ | refine Br (fun h => ?_) (fun h => ?_))
  refine ⟨_, _, refCmp_ok (rankI a.k) (rankI b.k), ?_⟩
  repeat' ((try conv => whnf); with_reducible first | refine AWP.seq ?_ | refine AWP.region (G_ok _ _ _ _) rfl ?_ | refine AWP.draw (G_ok _ _ _ _) rfl [0, 1, 0, 7, 15, 31] [3, 1, 1, 1] rfl rfl ?_ | refine AWP.draw (G_ok _ _ _ _) rfl [0, 1, 0, 7, 15, 0, 32, 0, 224, 480, 1023, 2047] [10, 1, 1] rfl rfl ?_ | refine AWP.block ?_ | refine AWP.cond rfl ?_ | refine AWP.ret ?_ | refine AWP.skip ?_ | refine AWP.exit ?_ | refine AWP.label ?_ | refine AWP.goto ?_ | (refine Br (fun h => ?_) (fun h => ?_) <;> try (exfalso; simp only [decide_eq_true_eq, decide_eq_false_iff_not, beq_iff_eq, beq_eq_false_iff_ne, bne_iff_ne, bne_eq_false_iff_eq, ne_eq, List.length_map, List.length_append, List.length_cons, List.length_nil] at *; omega)))
  all_goals (try conv => whnf)
  · refine finI rfl ?_
    rw [compareT_eq]; simp only [decide_eq_true_eq, decide_eq_false_iff_not, beq_iff_eq, beq_eq_false_iff_ne, bne_iff_ne, bne_eq_false_iff_eq, Bool.not_eq_true', Bool.not_eq_false', ne_eq, List.length_map, List.length_append, List.length_cons, List.length_nil] at *; (repeat first | rw [if_pos (by omega)] | rw [if_neg (by omega)])
  · refine ⟨_, _, refCmp_ok a.i b.i, ?_⟩
    repeat' ((try conv => whnf); with_reducible first | refine AWP.seq ?_ | refine AWP.region (G_ok _ _ _ _) rfl ?_ | refine AWP.draw (G_ok _ _ _ _) rfl [0, 1, 0, 7, 15, 31] [3, 1, 1, 1] rfl rfl ?_ | refine AWP.draw (G_ok _ _ _ _) rfl [0, 1, 0, 7, 15, 0, 32, 0, 224, 480, 1023, 2047] [10, 1, 1] rfl rfl ?_ | refine AWP.block ?_ | refine AWP.cond rfl ?_ | refine AWP.ret ?_ | refine AWP.skip ?_ | refine AWP.exit ?_ | refine AWP.label ?_ | refine AWP.goto ?_ | refine Br (fun h => ?_) (fun h => ?_))
    all_goals (try conv => whnf)
    refine finI rfl ?_
    rw [compareT_eq]; simp only [decide_eq_true_eq, decide_eq_false_iff_not, beq_iff_eq, beq_eq_false_iff_ne, bne_iff_ne, bne_eq_false_iff_eq, Bool.not_eq_true', Bool.not_eq_false', ne_eq, List.length_map, List.length_append, List.length_cons, List.length_nil] at *; (repeat first | rw [if_pos (by omega)] | rw [if_neg (by omega)])
  · refine ⟨_, _, refCmp_ok a.i b.i, ?_⟩
    repeat' ((try conv => whnf); with_reducible first | refine AWP.seq ?_ | refine AWP.region (G_ok _ _ _ _) rfl ?_ | refine AWP.draw (G_ok _ _ _ _) rfl [0, 1, 0, 7, 15, 31] [3, 1, 1, 1] rfl rfl ?_ | refine AWP.draw (G_ok _ _ _ _) rfl [0, 1, 0, 7, 15, 0, 32, 0, 224, 480, 1023, 2047] [10, 1, 1] rfl rfl ?_ | refine AWP.block ?_ | refine AWP.cond rfl ?_ | refine AWP.ret ?_ | refine AWP.skip ?_ | refine AWP.exit ?_ | refine AWP.label ?_ | refine AWP.goto ?_ | refine Br (fun h => ?_) (fun h => ?_))
    all_goals (try conv => whnf)
    refine finI rfl ?_
    rw [compareT_eq]; simp only [decide_eq_true_eq, decide_eq_false_iff_not, beq_iff_eq, beq_eq_false_iff_ne, bne_iff_ne, bne_eq_false_iff_eq, Bool.not_eq_true', Bool.not_eq_false', ne_eq, List.length_map, List.length_append, List.length_cons, List.length_nil] at *; (repeat first | rw [if_pos (by omega)] | rw [if_neg (by omega)])
  · refine ⟨_, _, refCompareC_ok a.re a.im b.re b.im, ?_⟩
    repeat' ((try conv => whnf); with_reducible first | refine AWP.seq ?_ | refine AWP.region (G_ok _ _ _ _) rfl ?_ | refine AWP.draw (G_ok _ _ _ _) rfl [0, 1, 0, 7, 15, 31] [3, 1, 1, 1] rfl rfl ?_ | refine AWP.draw (G_ok _ _ _ _) rfl [0, 1, 0, 7, 15, 0, 32, 0, 224, 480, 1023, 2047] [10, 1, 1] rfl rfl ?_ | refine AWP.block ?_ | refine AWP.cond rfl ?_ | refine AWP.ret ?_ | refine AWP.skip ?_ | refine AWP.exit ?_ | refine AWP.label ?_ | refine AWP.goto ?_ | refine Br (fun h => ?_) (fun h => ?_))
    all_goals (try conv => whnf)
    refine finI rfl ?_
    rw [compareT_eq]; simp only [decide_eq_true_eq, decide_eq_false_iff_not, beq_iff_eq, beq_eq_false_iff_ne, bne_iff_ne, bne_eq_false_iff_eq, Bool.not_eq_true', Bool.not_eq_false', ne_eq, List.length_map, List.length_append, List.length_cons, List.length_nil] at *; (repeat first | rw [if_pos (by omega)] | rw [if_neg (by omega)])
  · refine ⟨_, _, refText_ok a.n b.n, ?_⟩
    repeat' ((try conv => whnf); with_reducible first | refine AWP.seq ?_ | refine AWP.region (G_ok _ _ _ _) rfl ?_ | refine AWP.draw (G_ok _ _ _ _) rfl [0, 1, 0, 7, 15, 31] [3, 1, 1, 1] rfl rfl ?_ | refine AWP.draw (G_ok _ _ _ _) rfl [0, 1, 0, 7, 15, 0, 32, 0, 224, 480, 1023, 2047] [10, 1, 1] rfl rfl ?_ | refine AWP.block ?_ | refine AWP.cond rfl ?_ | refine AWP.ret ?_ | refine AWP.skip ?_ | refine AWP.exit ?_ | refine AWP.label ?_ | refine AWP.goto ?_ | refine Br (fun h => ?_) (fun h => ?_))
    all_goals (try conv => whnf)
    refine finI rfl ?_
    rw [compareT_eq]; simp only [decide_eq_true_eq, decide_eq_false_iff_not, beq_iff_eq, beq_eq_false_iff_ne, bne_iff_ne, bne_eq_false_iff_eq, Bool.not_eq_true', Bool.not_eq_false', ne_eq, List.length_map, List.length_append, List.length_cons, List.length_nil] at *; (repeat first | rw [if_pos (by omega)] | rw [if_neg (by omega)])
  refine ⟨_, _, (by have := refCmp_ok a.ts.length b.ts.length; rw [← hl a, ← hl b] at this; exact this), ?_⟩
  repeat' ((try conv => whnf); with_reducible first | refine AWP.seq ?_ | refine AWP.region (G_ok _ _ _ _) rfl ?_ | refine AWP.draw (G_ok _ _ _ _) rfl [0, 1, 0, 7, 15, 31] [3, 1, 1, 1] rfl rfl ?_ | refine AWP.draw (G_ok _ _ _ _) rfl [0, 1, 0, 7, 15, 0, 32, 0, 224, 480, 1023, 2047] [10, 1, 1] rfl rfl ?_ | refine AWP.block ?_ | refine AWP.cond rfl ?_ | refine AWP.ret ?_ | refine AWP.skip ?_ | refine AWP.exit ?_ | refine AWP.label ?_ | refine AWP.goto ?_ | (refine Br (fun h => ?_) (fun h => ?_) <;> try (exfalso; simp only [decide_eq_true_eq, decide_eq_false_iff_not, beq_iff_eq, beq_eq_false_iff_ne, bne_iff_ne, bne_eq_false_iff_eq, ne_eq, List.length_map, List.length_append, List.length_cons, List.length_nil] at *; omega)))
  all_goals (try conv => whnf)
  · refine finI rfl ?_
    rw [hl, hl] at h ⊢
    rw [compareT_eq]; simp only [orL]; simp only [decide_eq_true_eq, decide_eq_false_iff_not, beq_iff_eq, beq_eq_false_iff_ne, bne_iff_ne, bne_eq_false_iff_eq, Bool.not_eq_true', Bool.not_eq_false', ne_eq, List.length_map, List.length_append, List.length_cons, List.length_nil] at *; (repeat first | rw [if_pos (by omega)] | rw [if_neg (by omega)])
  refine ⟨_, _, refText_ok a.n b.n, ?_⟩
  repeat' ((try conv => whnf); with_reducible first | refine AWP.seq ?_ | refine AWP.region (G_ok _ _ _ _) rfl ?_ | refine AWP.draw (G_ok _ _ _ _) rfl [0, 1, 0, 7, 15, 31] [3, 1, 1, 1] rfl rfl ?_ | refine AWP.draw (G_ok _ _ _ _) rfl [0, 1, 0, 7, 15, 0, 32, 0, 224, 480, 1023, 2047] [10, 1, 1] rfl rfl ?_ | refine AWP.block ?_ | refine AWP.cond rfl ?_ | refine AWP.ret ?_ | refine AWP.skip ?_ | refine AWP.exit ?_ | refine AWP.label ?_ | refine AWP.goto ?_ | (refine Br (fun h => ?_) (fun h => ?_) <;> try (exfalso; simp only [decide_eq_true_eq, decide_eq_false_iff_not, beq_iff_eq, beq_eq_false_iff_ne, bne_iff_ne, bne_eq_false_iff_eq, ne_eq, List.length_map, List.length_append, List.length_cons, List.length_nil] at *; omega)))
  all_goals (try conv => whnf)
  · refine finI rfl ?_
    rename_i h9
    rw [hl, hl] at h9
    rw [compareT_eq]; simp only [orL]; simp only [decide_eq_true_eq, decide_eq_false_iff_not, beq_iff_eq, beq_eq_false_iff_ne, bne_iff_ne, bne_eq_false_iff_eq, Bool.not_eq_true', Bool.not_eq_false', ne_eq, List.length_map, List.length_append, List.length_cons, List.length_nil] at *; (repeat first | rw [if_pos (by omega)] | rw [if_neg (by omega)])
  rename_i g0 g1 g2 g3 g4 g5
  have g5' : cmpI (a.ts.length : Int) (b.ts.length : Int) = 0 := by
    rw [hl, hl] at g5
    simpa using g5
  have hlen : a.ts.length = b.ts.length := by
    unfold cmpI at g5'
    (repeat' split at g5') <;> omega
  have heq : compareT a b = compareL a.ts b.ts := by
    simp at g0 g1 g2 g3 g4 h
    rw [compareT_eq, if_neg (by simpa using g0), if_neg (by omega), if_neg g3, if_neg g4, if_neg]
    simp [orL, g5', h]
  have hal := ha.len
  refine AWP.loop (fun m st => ∃ j : Nat, m = a.ts.length - j ∧ j ≤ a.ts.length ∧ Has st [(2, .ptr 102 0 0), (3, .ptr 103 0 0), (66, iv (a.ts.map Tm.enc).length), (67, iv j)] [(102, .cell a.cells), (103, .cell b.cells)] ∧ compareL (a.ts.drop j) (b.ts.drop j) = compareL a.ts b.ts) a.ts.length ⟨0, rfl, Nat.zero_le _, ⟨⟨rfl, rfl, rfl, rfl, trivial⟩, ⟨rfl, rfl, trivial⟩⟩, rfl⟩ ?_
  rintro m st ⟨j, rfl, hj, hst, hr⟩
  obtain ⟨f, H, rfl⟩ := hst.canon
  repeat' ((try conv => whnf); with_reducible first | refine AWP.seq ?_ | refine AWP.region (G_ok _ _ _ _) rfl ?_ | refine AWP.draw (G_ok _ _ _ _) rfl [0, 1, 0, 7, 15, 31] [3, 1, 1, 1] rfl rfl ?_ | refine AWP.draw (G_ok _ _ _ _) rfl [0, 1, 0, 7, 15, 0, 32, 0, 224, 480, 1023, 2047] [10, 1, 1] rfl rfl ?_ | refine AWP.block ?_ | refine AWP.cond rfl ?_ | refine AWP.ret ?_ | refine AWP.skip ?_ | refine AWP.exit ?_ | refine AWP.label ?_ | refine AWP.goto ?_ | refine Br (fun h => ?_) (fun h => ?_))
  all_goals (try conv => whnf)
  · have hj2 : j < a.ts.length := by simpa using h
    have hj3 : j < b.ts.length := by omega
    have hd : a.ts.drop j = a.ts[j] :: a.ts.drop (j + 1) := List.drop_eq_getElem_cons hj2
    have hd2 : b.ts.drop j = b.ts[j] :: b.ts.drop (j + 1) := List.drop_eq_getElem_cons hj3
    rw [hd, hd2, compareL] at hr
    have hmem : a.ts[j] ∈ a.ts := List.getElem_mem hj2
    have hmem2 : b.ts[j] ∈ b.ts := List.getElem_mem hj3
    refine ⟨by omega, (a.ts[j]).cells, by simp [hj2, Tm.enc_eq], ?_⟩
    repeat' ((try conv => whnf); with_reducible first | refine AWP.seq ?_ | refine AWP.region (G_ok _ _ _ _) rfl ?_ | refine AWP.draw (G_ok _ _ _ _) rfl [0, 1, 0, 7, 15, 31] [3, 1, 1, 1] rfl rfl ?_ | refine AWP.draw (G_ok _ _ _ _) rfl [0, 1, 0, 7, 15, 0, 32, 0, 224, 480, 1023, 2047] [10, 1, 1] rfl rfl ?_ | refine AWP.block ?_ | refine AWP.cond rfl ?_ | refine AWP.ret ?_ | refine AWP.skip ?_ | refine AWP.exit ?_ | refine AWP.label ?_ | refine AWP.goto ?_ | refine Br (fun h => ?_) (fun h => ?_))
    all_goals (try conv => whnf)
    refine ⟨by omega, (b.ts[j]).cells, by simp [hj3, Tm.enc_eq], ?_⟩
    repeat' ((try conv => whnf); with_reducible first | refine AWP.seq ?_ | refine AWP.region (G_ok _ _ _ _) rfl ?_ | refine AWP.draw (G_ok _ _ _ _) rfl [0, 1, 0, 7, 15, 31] [3, 1, 1, 1] rfl rfl ?_ | refine AWP.draw (G_ok _ _ _ _) rfl [0, 1, 0, 7, 15, 0, 32, 0, 224, 480, 1023, 2047] [10, 1, 1] rfl rfl ?_ | refine AWP.block ?_ | refine AWP.cond rfl ?_ | refine AWP.ret ?_ | refine AWP.skip ?_ | refine AWP.exit ?_ | refine AWP.label ?_ | refine AWP.goto ?_ | refine Br (fun h => ?_) (fun h => ?_))
    all_goals (try conv => whnf)
    refine ⟨_, _, refOrder_ok a.ts[j] b.ts[j] (ha.arg _ hmem) (hb.arg _ hmem2), ?_⟩
    repeat' ((try conv => whnf); with_reducible first | refine AWP.seq ?_ | refine AWP.region (G_ok _ _ _ _) rfl ?_ | refine AWP.draw (G_ok _ _ _ _) rfl [0, 1, 0, 7, 15, 31] [3, 1, 1, 1] rfl rfl ?_ | refine AWP.draw (G_ok _ _ _ _) rfl [0, 1, 0, 7, 15, 0, 32, 0, 224, 480, 1023, 2047] [10, 1, 1] rfl rfl ?_ | refine AWP.block ?_ | refine AWP.cond rfl ?_ | refine AWP.ret ?_ | refine AWP.skip ?_ | refine AWP.exit ?_ | refine AWP.label ?_ | refine AWP.goto ?_ | refine Br (fun h => ?_) (fun h => ?_))
    all_goals (try conv => whnf)
    · refine finI rfl ?_
      simp at h
      rw [heq, ← hr, if_pos h]
    · have hw : IntKind.i64.wrap ((j : Int) + 1) = ((j + 1 : Nat) : Int) := i64_of (by omega) (by omega)
      refine ⟨a.ts.length - (j + 1), by omega, j + 1, rfl, hj2, ⟨⟨rfl, rfl, rfl, by show PV.s (.int .i64 (IntKind.i64.wrap ((j : Int) + 1))) = _; rw [hw], trivial⟩, ⟨rfl, rfl, trivial⟩⟩, ?_⟩
      rw [← hr, if_neg (by simpa using h)]
  · have hj2 : j = a.ts.length := by simp at h; omega
    refine finI rfl ?_
    rw [heq, ← hr, hj2, List.drop_eq_nil_of_le (Nat.le_refl _), List.drop_eq_nil_of_le (by omega)]
    simp [compareL]
termination_by a
decreasing_by exact Tm.size_lt hmem

theorem refCompare_ok (a b : Tm) (ha : a.Fit) (hb : b.Fit) : Snd 23 [a.pv, b.pv] [iv (compareP a b)] := by
  have ra := refMay_ok a ha
  have rb := refMay_ok b hb
  rw [mayP_ref] at ra rb
  refine sound_pure (Γ := G 16 (fun _ => false) (fun _ => false) (fun _ => false)) (G_ok _ _ _ _) Try.func23 rfl (by decide) rfl rfl rfl ?_
  repeat' ((try conv => whnf); with_reducible first | refine AWP.seq ?_ | refine AWP.region (G_ok _ _ _ _) rfl ?_ | refine AWP.block ?_ | refine AWP.cond rfl ?_ | refine AWP.ret ?_ | refine AWP.skip ?_ | refine AWP.exit ?_ | refine AWP.label ?_ | refine AWP.goto ?_ | refine Br (fun h => ?_) (fun h => ?_))
  refine ⟨_, _, ra, ?_⟩
  repeat' ((try conv => whnf); with_reducible first | refine AWP.seq ?_ | refine AWP.region (G_ok _ _ _ _) rfl ?_ | refine AWP.block ?_ | refine AWP.cond rfl ?_ | refine AWP.ret ?_ | refine AWP.skip ?_ | refine AWP.exit ?_ | refine AWP.label ?_ | refine AWP.goto ?_ | refine Br (fun h => ?_) (fun h => ?_))
  all_goals (try conv => whnf)
  · simp at h
    rw [compareP, if_pos (.inl h)]
    exact finI rfl rfl
  · simp at h
    refine ⟨_, _, rb, ?_⟩
    repeat' ((try conv => whnf); with_reducible first | refine AWP.seq ?_ | refine AWP.region (G_ok _ _ _ _) rfl ?_ | refine AWP.block ?_ | refine AWP.cond rfl ?_ | refine AWP.ret ?_ | refine AWP.skip ?_ | refine AWP.exit ?_ | refine AWP.label ?_ | refine AWP.goto ?_ | refine Br (fun h => ?_) (fun h => ?_))
    all_goals (try conv => whnf)
    · simp at h
      rw [compareP, if_pos (.inr h)]
      exact finI rfl rfl
    · rename_i h1
      simp at h1 h
      refine ⟨_, _, refOrder_ok a b ha hb, ?_⟩
      repeat' ((try conv => whnf); with_reducible first | refine AWP.seq ?_ | refine AWP.region (G_ok _ _ _ _) rfl ?_ | refine AWP.block ?_ | refine AWP.cond rfl ?_ | refine AWP.ret ?_ | refine AWP.skip ?_ | refine AWP.exit ?_ | refine AWP.label ?_ | refine AWP.goto ?_ | refine Br (fun h => ?_) (fun h => ?_))
      all_goals (try conv => whnf)
      rw [compareP, if_neg (by simp [*])]
      exact finI rfl rfl

theorem compares_ok (a b : Tm) : Snd 4 [a.pv, b.pv] [bv true] := by
  refine sound_pure (Γ := G 22 (fun _ => false) (fun _ => false) (fun _ => false)) (G_ok _ _ _ _) Try.func4 rfl (by decide) rfl rfl rfl ?_
  have hL := refLight_ok [a, b] (by simp)
  simp only [tsv, List.map, Tm.enc_eq] at hL
  repeat' ((try conv => whnf); with_reducible first | refine AWP.seq ?_ | refine AWP.region (G_ok _ _ _ _) rfl ?_ | refine AWP.draw (G_ok _ _ _ _) rfl [0, 0, 3, 7, 15, 31, 63, 63, 255, 63, 63, 2047, 4095, 8191, 16383, 32767, 65535, 131071] [2, 1, 1, 1, 1, 5, 1, 1, 1, 1, 1, 1, 1] rfl rfl ?_ | refine AWP.block ?_ | refine AWP.cond rfl ?_ | refine AWP.ret ?_ | refine AWP.skip ?_ | refine AWP.exit ?_ | refine AWP.label ?_ | refine AWP.goto ?_ | refine Br (fun h => ?_) (fun h => ?_))
  refine ⟨_, _, hL, ?_⟩
  repeat' ((try conv => whnf); with_reducible first | refine AWP.seq ?_ | refine AWP.region (G_ok _ _ _ _) rfl ?_ | refine AWP.draw (G_ok _ _ _ _) rfl [0, 0, 3, 7, 15, 31, 63, 63, 255, 63, 63, 2047, 4095, 8191, 16383, 32767, 65535, 131071] [2, 1, 1, 1, 1, 5, 1, 1, 1, 1, 1, 1, 1] rfl rfl ?_ | refine AWP.block ?_ | refine AWP.cond rfl ?_ | refine AWP.ret ?_ | refine AWP.skip ?_ | refine AWP.exit ?_ | refine AWP.label ?_ | refine AWP.goto ?_ | refine Br (fun h => ?_) (fun h => ?_))
  all_goals (try conv => whnf)
  · refine finB rfl ?_
    simp at h ⊢
  simp at h
  have hfa := lightF_fit _ _ _ h a (by simp)
  have hfb := lightF_fit _ _ _ h b (by simp)
  refine ⟨_, _, ocompare_ok a b hfa hfb, ?_⟩
  repeat' ((try conv => whnf); with_reducible first | refine AWP.seq ?_ | refine AWP.region (G_ok _ _ _ _) rfl ?_ | refine AWP.draw (G_ok _ _ _ _) rfl [0, 0, 3, 7, 15, 31, 63, 63, 255, 63, 63, 2047, 4095, 8191, 16383, 32767, 65535, 131071] [2, 1, 1, 1, 1, 5, 1, 1, 1, 1, 1, 1, 1] rfl rfl ?_ | refine AWP.block ?_ | refine AWP.cond rfl ?_ | refine AWP.ret ?_ | refine AWP.skip ?_ | refine AWP.exit ?_ | refine AWP.label ?_ | refine AWP.goto ?_ | refine Br (fun h => ?_) (fun h => ?_))
  all_goals (try conv => whnf)
  refine ⟨_, _, refCompare_ok a b hfa hfb, ?_⟩
  repeat' ((try conv => whnf); with_reducible first | refine AWP.seq ?_ | refine AWP.region (G_ok _ _ _ _) rfl ?_ | refine AWP.draw (G_ok _ _ _ _) rfl [0, 0, 3, 7, 15, 31, 63, 63, 255, 63, 63, 2047, 4095, 8191, 16383, 32767, 65535, 131071] [2, 1, 1, 1, 1, 5, 1, 1, 1, 1, 1, 1, 1] rfl rfl ?_ | refine AWP.block ?_ | refine AWP.cond rfl ?_ | refine AWP.ret ?_ | refine AWP.skip ?_ | refine AWP.exit ?_ | refine AWP.label ?_ | refine AWP.goto ?_ | refine Br (fun h => ?_) (fun h => ?_))
  all_goals (try conv => whnf)
  · refine ⟨_, _, awake9_ok, ?_⟩
    repeat' ((try conv => whnf); with_reducible first | refine AWP.seq ?_ | refine AWP.region (G_ok _ _ _ _) rfl ?_ | refine AWP.draw (G_ok _ _ _ _) rfl [0, 0, 3, 7, 15, 31, 63, 63, 255, 63, 63, 2047, 4095, 8191, 16383, 32767, 65535, 131071] [2, 1, 1, 1, 1, 5, 1, 1, 1, 1, 1, 1, 1] rfl rfl ?_ | refine AWP.block ?_ | refine AWP.cond rfl ?_ | refine AWP.ret ?_ | refine AWP.skip ?_ | refine AWP.exit ?_ | refine AWP.label ?_ | refine AWP.goto ?_ | refine Br (fun h => ?_) (fun h => ?_))
    all_goals (try conv => whnf)
    exact finB rfl rfl
  · simp at h

theorem compares_row (a b : Tm) {p q : Prop} (_ : p) (_ : q) : Snd 4 [a.pv, b.pv] [bv true] := compares_ok a b

end Go.Vai

/- What is read as a term is a term's value. No condition. -/
namespace Go.Vai
open Go.Proofs

/-- Each number is of its kind. -/
inductive Tm.Wf : Tm → Prop where
  | mk (k : Int) (n : ByteArray) (i re im : Int) (ts : List Tm) (hk : (Lit.int .i64 k).wf = true) (hi : (Lit.int .i64 i).wf = true) (hre : (Lit.int .u64 re).wf = true) (him : (Lit.int .u64 im).wf = true) (h : ∀ t ∈ ts, Tm.Wf t) : Tm.Wf (.mk k n i re im ts)
theorem Tm.Wf.arg {t : Tm} (h : t.Wf) : ∀ u ∈ t.ts, u.Wf := by cases h; assumption
theorem Tm.Wf.wi {t : Tm} (h : t.Wf) : (Lit.int .i64 t.i).wf = true := by cases h; assumption
theorem Tm.Wf.wk {t : Tm} (h : t.Wf) : (Lit.int .i64 t.k).wf = true := by cases h; assumption
theorem Tm.Wf.wre {t : Tm} (h : t.Wf) : (Lit.int .u64 t.re).wf = true := by cases h; assumption
theorem Tm.Wf.wim {t : Tm} (h : t.Wf) : (Lit.int .u64 t.im).wf = true := by cases h; assumption

theorem listOf {α : Type} {p : Nat → α → Prop} : ∀ n, (∀ i, i < n → ∃ t, p i t) → ∃ l : List α, l.length = n ∧ ∀ (i : Nat) t, l[i]? = some t → p i t
  | 0, _ => ⟨[], rfl, fun i t h => by simp at h⟩
  | n + 1, h => by
    obtain ⟨l, h1, h2⟩ := listOf n (fun i hi => h i (by omega))
    obtain ⟨t, ht⟩ := h n (by omega)
    refine ⟨l ++ [t], by simp [h1], fun i u hu => ?_⟩
    rcases Nat.lt_or_ge i l.length with h3 | h3
    · rw [List.getElem?_append_left h3] at hu
      exact h2 i u hu
    · rw [List.getElem?_append_right h3] at hu
      have h4 : i - l.length = 0 := by
        rcases Nat.eq_zero_or_pos (i - l.length) with h5 | h5
        · exact h5
        · rw [List.getElem?_eq_none (show ([t] : List α).length ≤ i - l.length from h5)] at hu; cases hu
      rw [h4] at hu
      cases hu
      have : i = n := by omega
      subst this
      exact ht

abbrev okW0 (w : World) : Nat → Nat → Prop := fun b _ => b < w.heap.size

/-- A row of cells is a term's. -/
def RepTm (w : World) (t : Tm) (cs : List Value) : Prop := cs.length = 6 ∧ ∀ (j : Nat) p v, t.cells[j]? = some p → cs[j]? = some v → RepD w (okW0 w) p v

section
variable {H : Type} {enc : TypeId × Value → H} {w : World} {base : Nat} {spare : Nat → Bool} {held : Bool}

theorem cells_get {a : Addr} {n : Nat} {cs : List Value} (h : w.cells? base a n = some cs) : cs.length = n ∧ ∀ j, j < n → w.cell? (a.add j) = cs[j]? := by
  have := World.cells?_some h
  exact ⟨this.2.1, this.2.2⟩

theorem repTs {a : Addr} {len cap : Nat} {ts : List Tm} (hl : ts.length = len) (hc : len ≤ cap) (h : ∀ (i : Nat) t, ts[i]? = some t → ∃ cs, w.cells? base (a.add (i * 6)) 6 = some cs ∧ RepTm w t cs) :
    RepD w (okW0 w) (.slc 6 (ts.map Tm.enc) false) (.slice (some a) len cap) := by
  have hl2 : (ts.map Tm.enc).length = len := by simp [hl]
  rw [← hl2]
  have hget : ∀ (i : Nat) e, (ts.map Tm.enc)[i]? = some e → ∃ t, ts[i]? = some t ∧ e = t.cells := fun i e he => by
    rw [List.getElem?_map] at he
    cases ht : ts[i]? with
    | none => rw [ht] at he; cases he
    | some t => rw [ht] at he; cases he; exact ⟨t, rfl, Tm.enc_eq t⟩
  have hne : ts.map Tm.enc ≠ [] → a = ⟨a.block, a.off, none⟩ := fun hn => by
    cases ts with
    | nil => exact absurd rfl hn
    | cons t r =>
      obtain ⟨cs, h1, h2, _⟩ := h 0 t rfl
      obtain ⟨h3, h4⟩ := cells_get h1
      have h5 := h4 0 (by omega)
      rw [Nat.zero_mul] at h5
      have h6 : w.cell? a = some cs[0] := by
        rw [List.getElem?_eq_getElem (by omega)] at h5
        simpa [Addr.add] using h5
      unfold World.cell? at h6
      split at h6
      · split at h6
        · cases h6
        · rename_i hs
          cases a with
          | mk b o s => cases s with
            | none => rfl
            | some s => simp at hs
      · cases h6
  refine RepD.slc 6 _ false (some a) cap (fun i j => (w.cell? ⟨a.block, a.off + (i * 6 + j), none⟩).getD undef) (by omega) (fun h => by cases h) (fun i e he => ?_) (fun hn => ⟨a.block, a.off, congrArg some (hne hn), fun i j hi hj => ?_⟩) (fun i j e p he hp => ?_)
  · obtain ⟨t, _, rfl⟩ := hget i e he; rfl
  · have he : (ts.map Tm.enc)[i]? = some (ts.map Tm.enc)[i] := List.getElem?_eq_getElem hi
    obtain ⟨t, ht, _⟩ := hget i _ he
    obtain ⟨cs, h1, h2, _⟩ := h i t ht
    obtain ⟨h3, h4⟩ := cells_get h1
    have h5 := h4 j hj
    rw [hne hn] at h5
    rw [List.getElem?_eq_getElem (by omega)] at h5
    have h6 : w.cell? ⟨a.block, a.off + (i * 6 + j), none⟩ = some cs[j] := by
      rw [← h5]
      unfold Addr.add
      by_cases hi0 : i * 6 = 0 <;> by_cases hj0 : j = 0 <;> simp [hi0, hj0, Nat.add_assoc]
    rw [h6]
    refine ⟨?_, rfl⟩
    unfold World.cell? at h6
    cases hb : w.heap[a.block]? with
    | none => rw [hb] at h6; cases h6
    | some o => exact (Array.getElem?_eq_some_iff.1 hb).1
  · obtain ⟨t, ht, rfl⟩ := hget i e he
    obtain ⟨cs, h1, h2, h7⟩ := h i t ht
    obtain ⟨h3, h4⟩ := cells_get h1
    have hj : j < 6 := (List.getElem?_eq_some_iff.1 hp).1
    have h5 := h4 j hj
    rw [hne (by intro e; rw [e] at he; simp at he)] at h5
    rw [List.getElem?_eq_getElem (by omega)] at h5
    have h6 : w.cell? ⟨a.block, a.off + (i * 6 + j), none⟩ = some cs[j] := by
      rw [← h5]
      unfold Addr.add
      by_cases hi0 : i * 6 = 0 <;> by_cases hj0 : j = 0 <;> simp [hi0, hj0, Nat.add_assoc]
    rw [h6]
    exact h7 j p cs[j] hp (List.getElem?_eq_getElem (by omega))

theorem open_terms_of {fuel : Nat} (ih : ∀ (cs : List Value) x, DataW.trod enc Try.prog w base spare held fuel 25 cs = some x → ∃ t : Tm, t.Wf ∧ RepTm w t cs)
    {cs : List Value} {x : DataW H × List MemPlace} (h : DataW.trod enc Try.prog w base spare held (fuel + 1) 23 cs = some x) :
    ∃ ts : List Tm, (∀ t ∈ ts, t.Wf) ∧ ∃ v, cs = [v] ∧ RepD w (okW0 w) (.slc 6 (ts.map Tm.enc) false) v := by
  rcases DataW.trod_slice Try.underlying23 h with ⟨rfl, rfl⟩ | ⟨a, len, cap, elems, rest, n, hn, rfl, rfl, hb, hl, hm, hlen, hel, _, _⟩
  · refine ⟨[], (fun t h => by cases h), _, rfl, ?_⟩
    exact RepD.slc 6 [] false none 0 (fun _ _ => undef) (Nat.le_refl _) (fun _ => rfl) (fun i e he => by simp at he) (fun hn => absurd rfl hn) (fun i j e p he => by simp at he)
  · cases hn
    have hsz : Try.prog.cellsOf 25 = 6 := by kernel_rfl
    rw [hsz] at hel
    obtain ⟨ts, h1, h2⟩ := listOf (p := fun i (t : Tm) => t.Wf ∧ ∃ cs, w.cells? base (a.add (i * 6)) 6 = some cs ∧ RepTm w t cs) len (fun i hi => by
      have h1 := hel i hi
      rw [List.getElem?_eq_getElem (by omega)] at h1
      rw [Option.bind_eq_some_iff] at h1
      obtain ⟨cs, h2, h3⟩ := h1
      obtain ⟨t, h4, h5⟩ := ih cs _ h3
      exact ⟨t, h4, cs, h2, h5⟩)
    refine ⟨ts, fun t ht => ?_, _, rfl, repTs h1 hl (fun i t ht => (h2 i t ht).2)⟩
    obtain ⟨i, hi, rfl⟩ := List.mem_iff_getElem.1 ht
    exact (h2 i _ (List.getElem?_eq_getElem hi)).1

set_option maxRecDepth 100000 in
theorem open_term : ∀ (fuel : Nat) (cs : List Value) (x : DataW H × List MemPlace), DataW.trod enc Try.prog w base spare held fuel 25 cs = some x → ∃ t : Tm, t.Wf ∧ RepTm w t cs := by
  intro fuel
  induction fuel using Nat.strongRecOn with
  | _ fuel ih =>
    intro cs x h
    obtain ⟨xs, n, hn, _, hlen, hxs, hf⟩ := DataW.trod_struct Try.underlying25 h
    subst hn
    have hsz : Try.prog.cellsOf 25 = 6 := by kernel_rfl
    have c1 : Try.prog.cellsOf 3 = 1 := by kernel_rfl
    have c2 : Try.prog.cellsOf 9 = 1 := by kernel_rfl
    have c3 : Try.prog.cellsOf 2 = 1 := by kernel_rfl
    have c4 : Try.prog.cellsOf 22 = 1 := by kernel_rfl
    have c5 : Try.prog.cellsOf 23 = 1 := by kernel_rfl
    rw [hsz] at hlen
    have hxs : xs.length = 6 := hxs
    have f0 := hf 0 _ rfl
    have f1 := hf 1 _ rfl
    have f2 := hf 2 _ rfl
    have f3 := hf 3 _ rfl
    have f4 := hf 4 _ rfl
    have f5 := hf 5 _ rfl
    match cs, hlen with
    | [v0, v1, v2, v3, v4, v5], _ =>
    match xs, hxs with
    | [x0, x1, x2, x3, x4, x5], _ =>
    simp only [c1, c2, c3, c4, c5, List.drop, List.take, List.getElem?_cons_zero, List.getElem?_cons_succ] at f0 f1 f2 f3 f4 f5
    obtain ⟨k, h0, _, w0⟩ := DataW.trod_int Try.underlying3 f0
    obtain ⟨s, h1, _, w1⟩ := DataW.trod_string Try.underlying9 f1
    obtain ⟨i, h2, _, w2⟩ := DataW.trod_int Try.underlying2 f2
    obtain ⟨re, h3, _, w3⟩ := DataW.trod_int Try.underlying22 f3
    obtain ⟨im, h4, _, w4⟩ := DataW.trod_int Try.underlying22 f4
    cases h0; cases h1; cases h2; cases h3; cases h4
    obtain ⟨ts, wts, v, hv, hts⟩ : ∃ ts : List Tm, (∀ t ∈ ts, t.Wf) ∧ ∃ v, [v5] = [v] ∧ RepD w (okW0 w) (.slc 6 (ts.map Tm.enc) false) v := by
      cases n with
      | zero => simp [DataW.trod] at f5
      | succ n => exact open_terms_of (fun cs x h => ih n (by omega) cs x h) f5
    cases hv
    refine ⟨.mk k s i re im ts, .mk _ _ _ _ _ _ w0 w2 w3 w4 wts, rfl, fun j p v hp hv => ?_⟩
    match j with
    | 0 => cases hp; cases hv; exact .s _ rfl
    | 1 => cases hp; cases hv; exact .s _ rfl
    | 2 => cases hp; cases hv; exact .s _ rfl
    | 3 => cases hp; cases hv; exact .s _ rfl
    | 4 => cases hp; cases hv; exact .s _ rfl
    | 5 => cases hp; cases hv; exact hts
    | j + 6 => simp [Tm.cells] at hp

theorem open_terms (fuel : Nat) (cs : List Value) (x : DataW H × List MemPlace) (h : DataW.trod enc Try.prog w base spare held fuel 23 cs = some x) :
    ∃ ts : List Tm, (∀ t ∈ ts, t.Wf) ∧ ∃ v, cs = [v] ∧ RepD w (okW0 w) (.slc 6 (ts.map Tm.enc) false) v := by
  cases fuel with
  | zero => simp [DataW.trod] at h
  | succ n => exact open_terms_of (fun cs x h => open_term n cs x h) h
end

theorem law_calls {P : Program} {f : Nat} {args : List PV} {vs : List Value} {w : World} (hs : SoundAt P f args [] (bv true) []) (he : Enters P f) (hl : vs.length = args.length)
    (hr : ∀ (i : Nat) p v, args[i]? = some p → vs[i]? = some v → RepV w ⟨fun _ => none, okW0 w⟩ p v) : Calls P f vs.toArray w fun e w' => e = .returned (.bool true) ∧ Go.RowKit.Below w.heap.size w w' := by
  have h1 := hs.2 w (okW0 w) (fun _ => none) vs hl hr (fun k r hk => by simp at hk) (fun _ _ => rfl) (fun k k' b c s l c' s' l' hk => by cases hk) (fun b ⟨k, c, s, l, hk⟩ => by cases hk)
    (fun b o hb => ⟨hb, fun ⟨k, c, s, l, hk⟩ => by cases hk⟩)
  refine (h1.calls he).mono ?_
  rintro e w' ⟨v, rfl, β', h2, _, _, _, _, _, hk⟩
  refine ⟨by rw [repV_bool h2], hk.os, hk.tape, hk.output, hk.size, fun b hb => hk.block b hb (fun ⟨k, c, s, l, hk⟩ => by cases hk)⟩

theorem repV_term {w : World} {t : Tm} {us : Array Value} (h : RepTm w t us.toList) : RepV w ⟨fun _ => none, okW0 w⟩ t.pv (.agg us) :=
  ⟨us.toList, by simp, h.1, fun j p v hp hv => ⟨repC_of_D (h.2 j p v hp hv), RepD.one (h.2 j p v hp hv)⟩⟩

theorem okWide_agg {P : Program} {w : World} {r : Reach} {base : Nat} {t : Nat} {fs : Array Field} {v : Value} (hu : P.underlying t = some (.struct fs)) (h : Value.okWide P w r base t v) : ∃ cs, v = .agg cs := by
  unfold Value.okWide at h
  rw [hu] at h
  obtain ⟨cs, h1, _⟩ := h
  exact ⟨cs, h1⟩

end Go.Vai

/- The row of OrderCompares: the law, walked, is what the statement says. No condition. -/
namespace Go.Proofs.Ytbgpmnpjekmojaa.orderCompares
open Go.ChangeShapes Go.WideShapes Go.ChangeAt Go.RowKit Go.Vai
open Go.ChangeMaps (open_string shut_string)
theorem own : ownKnob Try.prog.godebug = none := by kernel_rfl
theorem laidOut : laidOutB Try.prog = true := by kernel_rfl
set_option maxRecDepth 100000 in
theorem lifted (os : Os) (started : os.Started) (H : Type) (enc : TypeId × Value → H) :
    ReturnsInHanded {} Try.checked os 4 .any (Rows.orderComparesSpec.pre6 enc Try.prog Try.f4 Rows.orderComparesRow.domain false) (Rows.orderComparesSpec.post enc Try.prog Try.f4 false true false false) := by
  refine returnsInHanded_of_change_sized (C := Try.checked) own started (by kernel_rfl) Try.func4
    (ChangeSpec.witness6 (enc := enc) (C := Try.checked) false ⟨#[], #[.agg #[.int .i64 0, .string ByteArray.empty, .int .i64 0, .int .u64 0, .int .u64 0, .slice none 0 0], .agg #[.int .i64 0, .string ByteArray.empty, .int .i64 0, .int .u64 0, .int .u64 0, .slice none 0 0]], []⟩ 8 (by kernel_rfl) (by kernel_rfl) (by kernel_rfl) (by kernel_rfl)) ?_
  intro W base args ds gs before hval0 hW hcnd hsz0 _
  have hval : ∀ (j : Nat) t v, Try.f4.params[j]? = some t → args[j]? = some v → Value.okWide Try.prog W .any base t v := hval0
  have hsz : (DataW.weightsEach Try.prog (Try.f4.params.toList ++ Rows.orderComparesSpec.plain.varTypes Try.prog) (ds ++ gs)).all (· ≤ reachBytes) = true := hsz0
  have hW' := hW
  obtain ⟨p, q, hA0, hV, rfl, hfz, hnd⟩ := hW
  have hA : DataW.TrodAll enc Try.prog W 0 (fun _ => true) true Try.f4.params.toList args.toList ds p := hA0
  rw [Try.params4] at hA hval hsz
  obtain ⟨v0, vs0, d0, ds0, p0, q0, hargs, rfl, rfl, h0, r0⟩ := trodAll_cons hA
  obtain ⟨v1, vs1, d1, ds1, p1, q1, rfl, rfl, rfl, h1, r1⟩ := trodAll_cons r0
  obtain ⟨rfl, rfl, rfl⟩ := trodAll_nil r1
  obtain rfl : args = #[v0, v1] := by cases args; simp_all
  obtain ⟨rfl, rfl⟩ := trodVars_none hV
  have k0 := h0
  have lt0 : ∀ x ∈ p0, x.block < W.heap.size := by obtain ⟨m, hm⟩ := k0; exact DataW.trod_lt m _ _ _ hm
  obtain ⟨us0, rfl⟩ := okWide_agg Try.underlying25 (hval 0 25 v0 rfl rfl)
  obtain ⟨fu0, hf0⟩ := h0
  obtain ⟨a0, wf0, re0⟩ := open_term fu0 _ _ hf0
  have k1 := h1
  have lt1 : ∀ x ∈ p1, x.block < W.heap.size := by obtain ⟨m, hm⟩ := k1; exact DataW.trod_lt m _ _ _ hm
  obtain ⟨us1, rfl⟩ := okWide_agg Try.underlying25 (hval 1 25 v1 rfl rfl)
  obtain ⟨fu1, hf1⟩ := h1
  obtain ⟨a1, wf1, re1⟩ := open_term fu1 _ _ hf1
  clear hA0 hval0 hsz0 hsz
  refine (law_calls (vs := [.agg us0, .agg us1]) (compares_row a0 a1 wf0 wf1) ⟨_, Try.func4, by decide, rfl⟩ rfl ?_).mono fun e W' ⟨he, bel⟩ => ?_
  · intro i p v hp hv
    match i with
    | 0 => cases hp; cases hv; exact repV_term (by simpa [Value.cells] using re0)
    | 1 => cases hp; cases hv; exact repV_term (by simpa [Value.cells] using re1)
    | i + 2 => simp at hp
  subst he
  exact ⟨_, rfl, _, _, _, [], _, [], hW', trodAll_mk1 (shut_bool Try.underlying4 _), (trodAll_cons_mk (Below.trod laidOut (by kernel_rfl) (of_decide_eq_true (by kernel_rfl)) k0 bel lt0) (trodAll_cons_mk (Below.trod laidOut (by kernel_rfl) (of_decide_eq_true (by kernel_rfl)) k1 bel lt1) trodAll_mk0)), rfl, bel.frame _, fun h => by cases h⟩
theorem over : Rows.orderComparesRow.holds Try.pinned (OpenSpec.ofChange Rows.orderComparesSpec) :=
  OpenClaim.holds_of_wide 4 Try.f4 rfl rfl rfl rfl rfl rfl rfl ⟨rfl, rfl, rfl, rfl, rfl⟩ rfl rfl rfl rfl rfl (by kernel_rfl) Try.func4 (by kernel_rfl)
    (of_decide_eq_true (by kernel_rfl)) (by unfold Func.isWrapper; first | (rw [if_pos (by decide +kernel)]; kernel_rfl) | (rw [if_neg (by decide +kernel)]; exact ⟨rfl, rfl⟩))
    (fun os started H enc _ => lifted os started H enc)
end Go.Proofs.Ytbgpmnpjekmojaa.orderCompares
namespace Go.Proofs.Ytbgpmnpjekmojaa
/-- The row. -/
theorem orderCompares_holds : Rows.OrderComparesSaid := orderCompares.over
#print axioms orderCompares_holds
end Go.Proofs.Ytbgpmnpjekmojaa
