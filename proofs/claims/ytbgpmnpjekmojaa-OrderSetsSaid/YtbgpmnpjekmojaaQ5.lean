/- The row of OrderSets: the law, walked, is what the statement says. No condition. -/
import Derived.Test.YtbgpmnpjekmojaaQ4
import Derived.ProofKit
import Derived.OpenShut
import Derived.ShutString
import Derived.ChangeOld
import Derived.Below
import Derived.SizedLaws
import Derived.Test.YtbgpmnpjekmojaaRows
import Derived.WalkKit

set_option linter.unusedSimpArgs false
set_option linter.unusedVariables false
set_option linter.unnecessarySimpa false

/- The order's Sort and Set. No condition. -/
namespace Go.Vai
open Go.Proofs

theorem handsNew {st : St} {ps : List PV} {k sz : Nat} {es : List (List PV)} (h : st.H k = some (.row sz es)) (hk : 100 ≤ k) (hp : demL2 ps = [.xs k none]) : ∃ ks, HandsW 0 ps st [.xs 0 none] [.row sz es] ks :=
  ⟨[k], rfl, fun i hi => by omega, fun i k' h' _ => by
    cases i with
    | zero => simp at h'; omega
    | succ i => simp at h', rfl, ⟨h, trivial⟩, hp, rfl, rfl⟩
theorem handsBack {st : St} {ps : List PV} {sz : Nat} {es es' : List (List PV)} {w : Option (Nat × Nat)} (h : st.H 0 = some (.row sz es')) (he : es' = es) (hp : demL2 ps = [.xs 0 w]) : ∃ ks, HandsW 1 ps st [.xs 0 w] [.row sz es] ks := by
  subst he
  refine ⟨[0], rfl, fun i hi => ?_, fun i k hk hi => ?_, rfl, ⟨h, trivial⟩, hp, rfl, rfl⟩
  · have : i = 0 := by omega
    subst this; rfl
  · have h1 := (List.getElem?_eq_some_iff.1 hk).1
    have h1 : i < 1 := h1
    omega

theorem keepP_fit {l : List Tm} (hf : ∀ t ∈ l, t.Fit) : ∀ x ∈ keepP l, ∀ y ∈ keepP l, Snd 48 [x.pv, y.pv] [iv (compareT x y)] :=
  fun x hx y hy => compare_ok x y (keepP_mem hf hx).2.2 (keepP_mem hf hy).2.2
theorem keepP_stable {l : List Tm} (hl : l.length ≤ 1000000) (hf : ∀ t ∈ l, t.Fit) : StableOk 48 compareT (keepP l) :=
  stable_ok compareT goes_compare (fun a b h => ord3_compare.asym a b h) (keepP l) (keepP_fit hf) (Nat.le_trans (keepP_length l) hl)
theorem osort_all (l : List Tm) (hl : l.length ≤ 1000000) (hf : ∀ t ∈ l, t.Fit) : Snd 29 [tsv l] [tsv (sortP l)] := osort_ok l hl hf (keepP_stable hl hf)

theorem osort_row (l : List Tm) (hl : l.length ≤ 1000000) (hf : ∀ t ∈ l, t.Fit) (hne : keepP l ≠ []) : SoundAt Try.prog 29 [tsv l] [] (tupOf [.xs 0 none]) [.row 6 ((sortP l).map Tm.enc)] := by
  have hs := keepP_stable hl hf
  refine sound_fn (Γ := G 23 (fun k => Nat.beq k 52) (fun _ => false) (fun _ => false)) (G_ok _ _ _ _) false Try.func29 rfl (by decide) rfl (Nat.le_of_ble_eq_true rfl) (Nat.zero_le _) (Nat.le_of_ble_eq_true rfl) (fun k hk => by cases hk) ?_
  repeat' ((try conv => whnf); with_reducible first | refine AWP.seq ?_ | refine AWP.region (G_ok _ _ _ _) rfl ?_ | refine AWP.block ?_ | refine AWP.cond rfl ?_ | refine AWP.ret ?_ | refine AWP.skip ?_ | refine AWP.exit ?_ | refine AWP.label ?_ | refine AWP.goto ?_ | refine Br (fun h => ?_) (fun h => ?_))
  all_goals (try conv => whnf)
  refine AWP.loop (fun m st => ∃ j : Nat, m = l.length - j ∧ j ≤ l.length ∧ ((keepP (l.take j) = [] ∧ Has st [(3, .slc 6 [] true), (6, tsv l), (7, iv (l.map Tm.enc).length), (8, iv j)] []) ∨
    Has st [(3, .xs 118 none), (6, tsv l), (7, iv (l.map Tm.enc).length), (8, iv j)] [(118, .row 6 ((keepP (l.take j)).map Tm.enc))])) l.length ?_ ?_
  · exact ⟨0, rfl, Nat.zero_le _, .inl ⟨rfl, ⟨rfl, rfl, rfl, rfl, trivial⟩, trivial⟩⟩
  rintro m st ⟨j, rfl, hj, h2⟩
  have hw : j < l.length → IntKind.i64.wrap ((j : Int) + 1) = ((j + 1 : Nat) : Int) := fun _ => i64_of (by omega) (by omega)
  have htk : ∀ h : j < l.length, l.take (j + 1) = l.take j ++ [l[j]] := fun h => List.take_succ_eq_append_getElem h
  rcases h2 with ⟨hk, hst⟩ | hst
  · obtain ⟨f, H, rfl⟩ := hst.canon
    repeat' ((try conv => whnf); with_reducible first | refine AWP.seq ?_ | refine AWP.region (G_ok _ _ _ _) rfl ?_ | refine AWP.block ?_ | refine AWP.cond rfl ?_ | refine AWP.ret ?_ | refine AWP.skip ?_ | refine AWP.exit ?_ | refine AWP.label ?_ | refine AWP.goto ?_ | (refine Br (fun h => ?_) (fun h => ?_) <;> try (exfalso; simp only [decide_eq_true_eq, decide_eq_false_iff_not, beq_iff_eq, beq_eq_false_iff_ne, bne_iff_ne, bne_eq_false_iff_eq, ne_eq, List.length_map, List.length_append, List.length_cons, List.length_nil] at *; omega)))
    all_goals (try conv => whnf)
    · simp at h
      have hmem : l[j] ∈ l := List.getElem_mem h
      refine ⟨by omega, (l[j]).cells, by simp [h, Tm.enc_eq], ?_⟩
      repeat' ((try conv => whnf); with_reducible first | refine AWP.seq ?_ | refine AWP.region (G_ok _ _ _ _) rfl ?_ | refine AWP.block ?_ | refine AWP.cond rfl ?_ | refine AWP.ret ?_ | refine AWP.skip ?_ | refine AWP.exit ?_ | refine AWP.label ?_ | refine AWP.goto ?_ | refine Br (fun h => ?_) (fun h => ?_))
      refine ⟨_, _, omay_ok l[j] (hf _ hmem), ?_⟩
      repeat' ((try conv => whnf); with_reducible first | refine AWP.seq ?_ | refine AWP.region (G_ok _ _ _ _) rfl ?_ | refine AWP.block ?_ | refine AWP.cond rfl ?_ | refine AWP.ret ?_ | refine AWP.skip ?_ | refine AWP.exit ?_ | refine AWP.label ?_ | refine AWP.goto ?_ | refine Br (fun h => ?_) (fun h => ?_))
      all_goals (try conv => whnf)
      · simp at h
        refine ⟨_, _, tplain_ok l[j] (hf _ hmem), ?_⟩
        repeat' ((try conv => whnf); with_reducible first | refine AWP.seq ?_ | refine AWP.region (G_ok _ _ _ _) rfl ?_ | refine AWP.block ?_ | refine AWP.cond rfl ?_ | refine AWP.ret ?_ | refine AWP.skip ?_ | refine AWP.exit ?_ | refine AWP.label ?_ | refine AWP.goto ?_ | refine Br (fun h => ?_) (fun h => ?_))
        all_goals (try conv => whnf)
        refine ⟨⟨oneE rfl, .inl rfl, Nat.le_of_ble_eq_true rfl⟩, ?_⟩
        repeat' ((try conv => whnf); with_reducible first | refine AWP.seq ?_ | refine AWP.region (G_ok _ _ _ _) rfl ?_ | refine AWP.block ?_ | refine AWP.cond rfl ?_ | refine AWP.ret ?_ | refine AWP.skip ?_ | refine AWP.exit ?_ | refine AWP.label ?_ | refine AWP.goto ?_ | refine Br (fun h => ?_) (fun h => ?_))
        all_goals (try conv => whnf)
        refine ⟨l.length - (j + 1), by omega, j + 1, rfl, by omega, .inr ⟨⟨rfl, rfl, rfl, ?_, trivial⟩, ⟨?_, trivial⟩⟩⟩
        · show PV.s (.int .i64 (IntKind.i64.wrap ((j : Int) + 1))) = _
          rw [hw (by omega)]
        · rw [htk (by omega), keepP_snoc, if_pos h, hk, List.nil_append, List.map_singleton, Tm.enc_eq]
          rfl
      · simp at h
        refine ⟨l.length - (j + 1), by omega, j + 1, rfl, by omega, .inl ⟨by rw [htk (by omega), keepP_snoc, if_neg h, hk], ⟨rfl, rfl, rfl, ?_, trivial⟩, trivial⟩⟩
        show PV.s (.int .i64 (IntKind.i64.wrap ((j : Int) + 1))) = _
        rw [hw (by omega)]
    · exfalso
      simp at h
      have hjl : j = l.length := by omega
      rw [hjl, List.take_length] at hk
      exact hne hk
  · obtain ⟨f, H, rfl⟩ := hst.canon
    repeat' ((try conv => whnf); with_reducible first | refine AWP.seq ?_ | refine AWP.region (G_ok _ _ _ _) rfl ?_ | refine AWP.block ?_ | refine AWP.cond rfl ?_ | refine AWP.ret ?_ | refine AWP.skip ?_ | refine AWP.exit ?_ | refine AWP.label ?_ | refine AWP.goto ?_ | (refine Br (fun h => ?_) (fun h => ?_) <;> try (exfalso; simp only [decide_eq_true_eq, decide_eq_false_iff_not, beq_iff_eq, beq_eq_false_iff_ne, bne_iff_ne, bne_eq_false_iff_eq, ne_eq, List.length_map, List.length_append, List.length_cons, List.length_nil] at *; omega)))
    all_goals (try conv => whnf)
    · simp at h
      have hmem : l[j] ∈ l := List.getElem_mem h
      refine ⟨by omega, (l[j]).cells, by simp [h, Tm.enc_eq], ?_⟩
      repeat' ((try conv => whnf); with_reducible first | refine AWP.seq ?_ | refine AWP.region (G_ok _ _ _ _) rfl ?_ | refine AWP.block ?_ | refine AWP.cond rfl ?_ | refine AWP.ret ?_ | refine AWP.skip ?_ | refine AWP.exit ?_ | refine AWP.label ?_ | refine AWP.goto ?_ | refine Br (fun h => ?_) (fun h => ?_))
      refine ⟨_, _, omay_ok l[j] (hf _ hmem), ?_⟩
      repeat' ((try conv => whnf); with_reducible first | refine AWP.seq ?_ | refine AWP.region (G_ok _ _ _ _) rfl ?_ | refine AWP.block ?_ | refine AWP.cond rfl ?_ | refine AWP.ret ?_ | refine AWP.skip ?_ | refine AWP.exit ?_ | refine AWP.label ?_ | refine AWP.goto ?_ | refine Br (fun h => ?_) (fun h => ?_))
      all_goals (try conv => whnf)
      · simp at h
        refine ⟨_, _, tplain_ok l[j] (hf _ hmem), ?_⟩
        repeat' ((try conv => whnf); with_reducible first | refine AWP.seq ?_ | refine AWP.region (G_ok _ _ _ _) rfl ?_ | refine AWP.block ?_ | refine AWP.cond rfl ?_ | refine AWP.ret ?_ | refine AWP.skip ?_ | refine AWP.exit ?_ | refine AWP.label ?_ | refine AWP.goto ?_ | refine Br (fun h => ?_) (fun h => ?_))
        all_goals (try conv => whnf)
        refine ⟨⟨oneE rfl, ?_⟩, ?_⟩
        · show ((keepP (l.take j)).map Tm.enc).length + 1 ≤ 1073741824
          have := keepP_length (l.take j)
          simp at this ⊢
          omega
        repeat' ((try conv => whnf); with_reducible first | refine AWP.seq ?_ | refine AWP.region (G_ok _ _ _ _) rfl ?_ | refine AWP.block ?_ | refine AWP.cond rfl ?_ | refine AWP.ret ?_ | refine AWP.skip ?_ | refine AWP.exit ?_ | refine AWP.label ?_ | refine AWP.goto ?_ | refine Br (fun h => ?_) (fun h => ?_))
        all_goals (try conv => whnf)
        refine ⟨l.length - (j + 1), by omega, j + 1, rfl, by omega, .inr ⟨⟨rfl, rfl, rfl, ?_, trivial⟩, ⟨?_, trivial⟩⟩⟩
        · show PV.s (.int .i64 (IntKind.i64.wrap ((j : Int) + 1))) = _
          rw [hw (by omega)]
        · show some (Row.row 6 (appE ((keepP (l.take j)).map Tm.enc) [(plainT l[j]).cells])) = _
          rw [appE_eq, htk (by omega), keepP_snoc, if_pos h, List.map_append, List.map_singleton, Tm.enc_eq]
      · simp at h
        refine ⟨l.length - (j + 1), by omega, j + 1, rfl, by omega, .inr ⟨⟨rfl, rfl, rfl, ?_, trivial⟩, ⟨?_, trivial⟩⟩⟩
        · show PV.s (.int .i64 (IntKind.i64.wrap ((j : Int) + 1))) = _
          rw [hw (by omega)]
        · rw [htk (by omega), keepP_snoc, if_neg h]; rfl
    · simp at h
      have hjl : j = l.length := by omega
      subst hjl
      refine ⟨[118], [.xs 0 none, fnv 48], [.row 6 ((keepP l).map Tm.enc)], .tup [], [.row 6 ((sortP l).map Tm.enc)], ⟨rfl, rfl, rfl, ⟨?_, trivial⟩, rfl, rfl, rfl, rfl, rfl⟩, sortStable_ok _ _ _ hs, ?_⟩
      · show some (Row.row 6 ((keepP (l.take l.length)).map Tm.enc)) = _
        rw [List.take_length]; rfl
      repeat' ((try conv => whnf); with_reducible first | refine AWP.seq ?_ | refine AWP.region (G_ok _ _ _ _) rfl ?_ | refine AWP.block ?_ | refine AWP.cond rfl ?_ | refine AWP.ret ?_ | refine AWP.skip ?_ | refine AWP.exit ?_ | refine AWP.label ?_ | refine AWP.goto ?_ | refine Br (fun h => ?_) (fun h => ?_))
      all_goals (try conv => whnf)
      exact handsNew rfl (by omega) rfl

theorem eq1_ok (a b : Tm) (ha : a.Fit) (hb : b.Fit) : Snd 55 [a.pv, b.pv] [bv (eqB compareT a b)] := by
  refine sound_pure (Γ := G 9 (fun _ => false) (fun _ => false) (fun _ => false)) (G_ok _ _ _ _) Try.func55 rfl (by decide) rfl rfl rfl ?_
  repeat' ((try conv => whnf); with_reducible first | refine AWP.seq ?_ | refine AWP.region (G_ok _ _ _ _) rfl ?_ | refine AWP.block ?_ | refine AWP.cond rfl ?_ | refine AWP.ret ?_ | refine AWP.skip ?_ | refine AWP.exit ?_ | refine AWP.label ?_ | refine AWP.goto ?_ | refine Br (fun h => ?_) (fun h => ?_))
  refine ⟨_, _, compare_ok a b ha hb, ?_⟩
  repeat' ((try conv => whnf); with_reducible first | refine AWP.seq ?_ | refine AWP.region (G_ok _ _ _ _) rfl ?_ | refine AWP.block ?_ | refine AWP.cond rfl ?_ | refine AWP.ret ?_ | refine AWP.skip ?_ | refine AWP.exit ?_ | refine AWP.label ?_ | refine AWP.goto ?_ | refine Br (fun h => ?_) (fun h => ?_))
  all_goals (try conv => whnf)
  exact finB rfl rfl

theorem compact_nil : Snd 54 [tsv [], fnv 55] [tsv []] := by
  refine sound_pure (Γ := G 66 (fun _ => false) (fun _ => false) (fun _ => false)) (G_ok _ _ _ _) Try.func54 rfl (by decide) rfl rfl rfl ?_
  repeat' ((try conv => whnf); with_reducible first | refine AWP.seq ?_ | refine AWP.region (G_ok _ _ _ _) rfl ?_ | refine AWP.draw (G_ok _ _ _ _) rfl [0, 0, 0, 6, 14, 0, 0, 64, 224, 480, 1023] [10, 1] rfl rfl ?_ | refine AWP.draw (G_ok _ _ _ _) rfl [0, 0, 0, 6, 14, 0, 0, 64, 224, 480, 1023, 2047] [10, 1, 1] rfl rfl ?_ | refine AWP.block ?_ | refine AWP.cond rfl ?_ | refine AWP.ret ?_ | refine AWP.skip ?_ | refine AWP.exit ?_ | refine AWP.label ?_ | refine AWP.goto ?_ | (refine Br (fun h => ?_) (fun h => ?_) <;> try (exfalso; simp only [decide_eq_true_eq, decide_eq_false_iff_not, beq_iff_eq, beq_eq_false_iff_ne, bne_iff_ne, bne_eq_false_iff_eq, ne_eq, List.length_map, List.length_append, List.length_cons, List.length_nil] at *; omega)))
  all_goals (try conv => whnf)
  exact finP rfl rfl

abbrev nb (S : List Tm) (i : Nat) : Bool := eqB compareT (pick S i) (pick S (i - 1))

theorem compact_same (S : List Tm) (hf : ∀ t ∈ S, t.Fit) (hl : S.length ≤ 1000000) (hn : ∀ i, 1 ≤ i → i < S.length → nb S i = false) :
    SoundAt Try.prog 54 [.xs 0 none, fnv 55] [.row 6 (enR S)] (tupOf [.xs 0 none]) [.row 6 (enR S)] := by
  refine sound_fn (Γ := G 66 (fun _ => false) (fun _ => false) (fun _ => false)) (G_ok _ _ _ _) false Try.func54 rfl (by decide) rfl (Nat.le_of_ble_eq_true rfl) (Nat.le_refl _) (Nat.le_of_ble_eq_true rfl) (fun k hk => by cases hk) ?_
  repeat' ((try conv => whnf); with_reducible first | refine AWP.seq ?_ | refine AWP.region (G_ok _ _ _ _) rfl ?_ | refine AWP.draw (G_ok _ _ _ _) rfl [0, 0, 0, 6, 14, 0, 0, 64, 224, 480, 1023] [10, 1] rfl rfl ?_ | refine AWP.draw (G_ok _ _ _ _) rfl [0, 0, 0, 6, 14, 0, 0, 64, 224, 480, 1023, 2047] [10, 1, 1] rfl rfl ?_ | refine AWP.block ?_ | refine AWP.cond rfl ?_ | refine AWP.ret ?_ | refine AWP.skip ?_ | refine AWP.exit ?_ | refine AWP.label ?_ | refine AWP.goto ?_ | (refine Br (fun h => ?_) (fun h => ?_) <;> try (exfalso; simp only [decide_eq_true_eq, decide_eq_false_iff_not, beq_iff_eq, beq_eq_false_iff_ne, bne_iff_ne, bne_eq_false_iff_eq, ne_eq, List.length_map, List.length_append, List.length_cons, List.length_nil] at *; omega)))
  all_goals (try conv => whnf)
  · exact handsBack rfl rfl rfl
  refine AWP.loop (fun m st => ∃ k : Nat, m = S.length - k ∧ 1 ≤ k ∧ k ≤ 1000000 ∧ Has st [(0, .xs 0 none), (1, fnv 55), (5, iv k)] [(0, .row 6 (enR S))]) (S.length - 1) ⟨1, rfl, Nat.le_refl _, by omega, ⟨rfl, rfl, rfl, trivial⟩, ⟨rfl, trivial⟩⟩ ?_
  rintro m st ⟨k, rfl, hk1, hk2, hst⟩
  obtain ⟨f, H, rfl⟩ := hst.canon
  repeat' ((try conv => whnf); with_reducible first | refine AWP.seq ?_ | refine AWP.region (G_ok _ _ _ _) rfl ?_ | refine AWP.draw (G_ok _ _ _ _) rfl [0, 0, 0, 6, 14, 0, 0, 64, 224, 480, 1023] [10, 1] rfl rfl ?_ | refine AWP.draw (G_ok _ _ _ _) rfl [0, 0, 0, 6, 14, 0, 0, 64, 224, 480, 1023, 2047] [10, 1, 1] rfl rfl ?_ | refine AWP.block ?_ | refine AWP.cond rfl ?_ | refine AWP.ret ?_ | refine AWP.skip ?_ | refine AWP.exit ?_ | refine AWP.label ?_ | refine AWP.goto ?_ | (refine Br (fun h => ?_) (fun h => ?_) <;> try (exfalso; simp only [decide_eq_true_eq, decide_eq_false_iff_not, beq_iff_eq, beq_eq_false_iff_ne, bne_iff_ne, bne_eq_false_iff_eq, ne_eq, List.length_map, List.length_append, List.length_cons, List.length_nil] at *; omega)))
  all_goals (try conv => whnf)
  · have hk : k < S.length := by simpa using h
    have hw : IntKind.i64.wrap ((k : Int) - 1) = ((k - 1 : Nat) : Int) := w_sub1 hk1 (by omega)
    have b1 : 0 ≤ (k : Int) ∧ (k : Int) < ((enR S).length : Int) := by rw [en_len]; omega
    have g1 : (enR S)[((k : Int)).toNat]? = some (pick S k).cells := by rw [Int.toNat_natCast, en_pick hk]
    have b0 : 0 ≤ IntKind.i64.wrap ((k : Int) - 1) ∧ IntKind.i64.wrap ((k : Int) - 1) < ((enR S).length : Int) := by rw [hw, en_len]; omega
    have g0 : (enR S)[(IntKind.i64.wrap ((k : Int) - 1)).toNat]? = some (pick S (k - 1)).cells := by rw [hw, Int.toNat_natCast, en_pick (by omega)]
    refine ⟨b1, ?_⟩
    repeat' ((try conv => whnf); with_reducible first | refine AWP.seq ?_ | refine AWP.region (G_ok _ _ _ _) rfl ?_ | refine AWP.draw (G_ok _ _ _ _) rfl [0, 0, 0, 6, 14, 0, 0, 64, 224, 480, 1023] [10, 1] rfl rfl ?_ | refine AWP.draw (G_ok _ _ _ _) rfl [0, 0, 0, 6, 14, 0, 0, 64, 224, 480, 1023, 2047] [10, 1, 1] rfl rfl ?_ | refine AWP.block ?_ | refine AWP.cond rfl ?_ | refine AWP.ret ?_ | refine AWP.skip ?_ | refine AWP.exit ?_ | refine AWP.label ?_ | refine AWP.goto ?_ | (refine Br (fun h => ?_) (fun h => ?_) <;> try (exfalso; simp only [decide_eq_true_eq, decide_eq_false_iff_not, beq_iff_eq, beq_eq_false_iff_ne, bne_iff_ne, bne_eq_false_iff_eq, ne_eq, List.length_map, List.length_append, List.length_cons, List.length_nil] at *; omega)))
    all_goals (try conv => whnf)
    refine ⟨_, g1, ?_⟩
    repeat' ((try conv => whnf); with_reducible first | refine AWP.seq ?_ | refine AWP.region (G_ok _ _ _ _) rfl ?_ | refine AWP.draw (G_ok _ _ _ _) rfl [0, 0, 0, 6, 14, 0, 0, 64, 224, 480, 1023] [10, 1] rfl rfl ?_ | refine AWP.draw (G_ok _ _ _ _) rfl [0, 0, 0, 6, 14, 0, 0, 64, 224, 480, 1023, 2047] [10, 1, 1] rfl rfl ?_ | refine AWP.block ?_ | refine AWP.cond rfl ?_ | refine AWP.ret ?_ | refine AWP.skip ?_ | refine AWP.exit ?_ | refine AWP.label ?_ | refine AWP.goto ?_ | (refine Br (fun h => ?_) (fun h => ?_) <;> try (exfalso; simp only [decide_eq_true_eq, decide_eq_false_iff_not, beq_iff_eq, beq_eq_false_iff_ne, bne_iff_ne, bne_eq_false_iff_eq, ne_eq, List.length_map, List.length_append, List.length_cons, List.length_nil] at *; omega)))
    all_goals (try conv => whnf)
    refine ⟨b0, ?_⟩
    repeat' ((try conv => whnf); with_reducible first | refine AWP.seq ?_ | refine AWP.region (G_ok _ _ _ _) rfl ?_ | refine AWP.draw (G_ok _ _ _ _) rfl [0, 0, 0, 6, 14, 0, 0, 64, 224, 480, 1023] [10, 1] rfl rfl ?_ | refine AWP.draw (G_ok _ _ _ _) rfl [0, 0, 0, 6, 14, 0, 0, 64, 224, 480, 1023, 2047] [10, 1, 1] rfl rfl ?_ | refine AWP.block ?_ | refine AWP.cond rfl ?_ | refine AWP.ret ?_ | refine AWP.skip ?_ | refine AWP.exit ?_ | refine AWP.label ?_ | refine AWP.goto ?_ | (refine Br (fun h => ?_) (fun h => ?_) <;> try (exfalso; simp only [decide_eq_true_eq, decide_eq_false_iff_not, beq_iff_eq, beq_eq_false_iff_ne, bne_iff_ne, bne_eq_false_iff_eq, ne_eq, List.length_map, List.length_append, List.length_cons, List.length_nil] at *; omega)))
    all_goals (try conv => whnf)
    refine ⟨_, g0, ?_⟩
    repeat' ((try conv => whnf); with_reducible first | refine AWP.seq ?_ | refine AWP.region (G_ok _ _ _ _) rfl ?_ | refine AWP.draw (G_ok _ _ _ _) rfl [0, 0, 0, 6, 14, 0, 0, 64, 224, 480, 1023] [10, 1] rfl rfl ?_ | refine AWP.draw (G_ok _ _ _ _) rfl [0, 0, 0, 6, 14, 0, 0, 64, 224, 480, 1023, 2047] [10, 1, 1] rfl rfl ?_ | refine AWP.block ?_ | refine AWP.cond rfl ?_ | refine AWP.ret ?_ | refine AWP.skip ?_ | refine AWP.exit ?_ | refine AWP.label ?_ | refine AWP.goto ?_ | (refine Br (fun h => ?_) (fun h => ?_) <;> try (exfalso; simp only [decide_eq_true_eq, decide_eq_false_iff_not, beq_iff_eq, beq_eq_false_iff_ne, bne_iff_ne, bne_eq_false_iff_eq, ne_eq, List.length_map, List.length_append, List.length_cons, List.length_nil] at *; omega)))
    all_goals (try conv => whnf)
    have hc := eq1_ok (pick S k) (pick S (k - 1)) (hf _ (pick_mem hk)) (hf _ (pick_mem (by omega)))
    rw [show eqB compareT (pick S k) (pick S (k - 1)) = false from hn k hk1 hk] at hc
    refine ⟨_, _, hc, ?_⟩
    repeat' ((try conv => whnf); with_reducible first | refine AWP.seq ?_ | refine AWP.region (G_ok _ _ _ _) rfl ?_ | refine AWP.draw (G_ok _ _ _ _) rfl [0, 0, 0, 6, 14, 0, 0, 64, 224, 480, 1023] [10, 1] rfl rfl ?_ | refine AWP.draw (G_ok _ _ _ _) rfl [0, 0, 0, 6, 14, 0, 0, 64, 224, 480, 1023, 2047] [10, 1, 1] rfl rfl ?_ | refine AWP.block ?_ | refine AWP.cond rfl ?_ | refine AWP.ret ?_ | refine AWP.skip ?_ | refine AWP.exit ?_ | refine AWP.label ?_ | refine AWP.goto ?_ | (refine Br (fun h => ?_) (fun h => ?_) <;> try (exfalso; simp only [decide_eq_true_eq, decide_eq_false_iff_not, beq_iff_eq, beq_eq_false_iff_ne, bne_iff_ne, bne_eq_false_iff_eq, ne_eq, List.length_map, List.length_append, List.length_cons, List.length_nil] at *; omega)))
    all_goals (try conv => whnf)
    refine ⟨S.length - (k + 1), by omega, k + 1, rfl, by omega, by omega, ⟨rfl, rfl, ?_, trivial⟩, ⟨rfl, trivial⟩⟩
    show PV.s (.int .i64 (IntKind.i64.wrap ((k : Int) + 1))) = _
    rw [w_add1 (by omega)]
  · exact handsBack rfl rfl rfl

set_option maxHeartbeats 4000000 in
theorem compact_cut (S : List Tm) (hf : ∀ t ∈ S, t.Fit) (hl : S.length ≤ 1000000) (k0 : Nat) (h1 : 1 ≤ k0) (hk0 : k0 < S.length) (hn : ∀ i, 1 ≤ i → i < k0 → nb S i = false) (hy : nb S k0 = true) :
    SoundAt Try.prog 54 [.xs 0 none, fnv 55] [.row 6 (enR S)] (tupOf [.xs 0 (some (0, (cmpct (eqB compareT) S).length))]) [.row 6 (enR (cmpct (eqB compareT) S) ++ List.replicate (S.length - (cmpct (eqB compareT) S).length) ty25.zero)] := by
  have hsnoc : ∀ k, 1 ≤ k → k < S.length → cmpct (eqB compareT) (S.take (k + 1)) = cmpct (eqB compareT) (S.take k) ++ (if nb S k = true then [] else [pick S k]) := fun k h1 h2 => by
    obtain ⟨q, rfl⟩ : ∃ q, k = q + 1 := ⟨k - 1, by omega⟩
    have e1 : S.take (q + 1) = S.take q ++ [pick S q] := by rw [List.take_succ_eq_append_getElem (by omega), pick_eq (by omega)]
    have e2 : S.take (q + 1 + 1) = S.take q ++ [pick S q, pick S (q + 1)] := by rw [List.take_succ_eq_append_getElem (show q + 1 < S.length by omega), e1, pick_eq h2]; simp
    rw [e2, e1, cmpct_snoc]
    rfl
  have hpre : ∀ k, 1 ≤ k → k ≤ k0 → cmpct (eqB compareT) (S.take k) = S.take k := fun k hk1 => by
    induction k with
    | zero => omega
    | succ k ih =>
      intro hk
      rcases Nat.eq_zero_or_pos k with rfl | hkp
      · rw [List.take_succ_eq_append_getElem (show 0 < S.length by omega)]; rfl
      · rw [hsnoc k hkp (by omega), ih hkp (by omega), if_neg (by rw [hn k hkp (by omega)]; simp), List.take_succ_eq_append_getElem (show k < S.length by omega), pick_eq (by omega)]
  refine sound_fn (Γ := G 66 (fun _ => false) (fun _ => false) (fun _ => false)) (G_ok _ _ _ _) false Try.func54 rfl (by decide) rfl (Nat.le_of_ble_eq_true rfl) (Nat.le_refl _) (Nat.le_of_ble_eq_true rfl) (fun k hk => by cases hk) ?_
  repeat' ((try conv => whnf); with_reducible first | refine AWP.seq ?_ | refine AWP.region (G_ok _ _ _ _) rfl ?_ | refine AWP.draw (G_ok _ _ _ _) rfl [0, 0, 0, 6, 14, 0, 0, 64, 224, 480, 1023] [10, 1] rfl rfl ?_ | refine AWP.draw (G_ok _ _ _ _) rfl [0, 0, 0, 6, 14, 0, 0, 64, 224, 480, 1023, 2047] [10, 1, 1] rfl rfl ?_ | refine AWP.block ?_ | refine AWP.cond rfl ?_ | refine AWP.ret ?_ | refine AWP.skip ?_ | refine AWP.exit ?_ | refine AWP.label ?_ | refine AWP.goto ?_ | (refine Br (fun h => ?_) (fun h => ?_) <;> try (exfalso; simp only [decide_eq_true_eq, decide_eq_false_iff_not, beq_iff_eq, beq_eq_false_iff_ne, bne_iff_ne, bne_eq_false_iff_eq, ne_eq, List.length_map, List.length_append, List.length_cons, List.length_nil] at *; omega)))
  all_goals (try conv => whnf)
  refine AWP.loop (fun m st => ∃ k : Nat, m = S.length - k ∧ 1 ≤ k ∧ k ≤ k0 ∧ Has st [(0, .xs 0 none), (1, fnv 55), (5, iv k)] [(0, .row 6 (enR S))]) (S.length - 1) ⟨1, rfl, Nat.le_refl _, by omega, ⟨rfl, rfl, rfl, trivial⟩, ⟨rfl, trivial⟩⟩ ?_
  rintro m st ⟨k, rfl, hk1, hk2, hst⟩
  obtain ⟨f, H, rfl⟩ := hst.canon
  repeat' ((try conv => whnf); with_reducible first | refine AWP.seq ?_ | refine AWP.region (G_ok _ _ _ _) rfl ?_ | refine AWP.draw (G_ok _ _ _ _) rfl [0, 0, 0, 6, 14, 0, 0, 64, 224, 480, 1023] [10, 1] rfl rfl ?_ | refine AWP.draw (G_ok _ _ _ _) rfl [0, 0, 0, 6, 14, 0, 0, 64, 224, 480, 1023, 2047] [10, 1, 1] rfl rfl ?_ | refine AWP.block ?_ | refine AWP.cond rfl ?_ | refine AWP.ret ?_ | refine AWP.skip ?_ | refine AWP.exit ?_ | refine AWP.label ?_ | refine AWP.goto ?_ | (refine Br (fun h => ?_) (fun h => ?_) <;> try (exfalso; simp only [decide_eq_true_eq, decide_eq_false_iff_not, beq_iff_eq, beq_eq_false_iff_ne, bne_iff_ne, bne_eq_false_iff_eq, ne_eq, List.length_map, List.length_append, List.length_cons, List.length_nil] at *; omega)))
  all_goals (try conv => whnf)
  have hk : k < S.length := by omega
  have hw : IntKind.i64.wrap ((k : Int) - 1) = ((k - 1 : Nat) : Int) := w_sub1 hk1 (by omega)
  have b1 : 0 ≤ (k : Int) ∧ (k : Int) < ((enR S).length : Int) := by rw [en_len]; omega
  have g1 : (enR S)[((k : Int)).toNat]? = some (pick S k).cells := by rw [Int.toNat_natCast, en_pick hk]
  have b0 : 0 ≤ IntKind.i64.wrap ((k : Int) - 1) ∧ IntKind.i64.wrap ((k : Int) - 1) < ((enR S).length : Int) := by rw [hw, en_len]; omega
  have g0 : (enR S)[(IntKind.i64.wrap ((k : Int) - 1)).toNat]? = some (pick S (k - 1)).cells := by rw [hw, Int.toNat_natCast, en_pick (by omega)]
  refine ⟨b1, ?_⟩
  repeat' ((try conv => whnf); with_reducible first | refine AWP.seq ?_ | refine AWP.region (G_ok _ _ _ _) rfl ?_ | refine AWP.draw (G_ok _ _ _ _) rfl [0, 0, 0, 6, 14, 0, 0, 64, 224, 480, 1023] [10, 1] rfl rfl ?_ | refine AWP.draw (G_ok _ _ _ _) rfl [0, 0, 0, 6, 14, 0, 0, 64, 224, 480, 1023, 2047] [10, 1, 1] rfl rfl ?_ | refine AWP.block ?_ | refine AWP.cond rfl ?_ | refine AWP.ret ?_ | refine AWP.skip ?_ | refine AWP.exit ?_ | refine AWP.label ?_ | refine AWP.goto ?_ | (refine Br (fun h => ?_) (fun h => ?_) <;> try (exfalso; simp only [decide_eq_true_eq, decide_eq_false_iff_not, beq_iff_eq, beq_eq_false_iff_ne, bne_iff_ne, bne_eq_false_iff_eq, ne_eq, List.length_map, List.length_append, List.length_cons, List.length_nil] at *; omega)))
  all_goals (try conv => whnf)
  refine ⟨_, g1, ?_⟩
  repeat' ((try conv => whnf); with_reducible first | refine AWP.seq ?_ | refine AWP.region (G_ok _ _ _ _) rfl ?_ | refine AWP.draw (G_ok _ _ _ _) rfl [0, 0, 0, 6, 14, 0, 0, 64, 224, 480, 1023] [10, 1] rfl rfl ?_ | refine AWP.draw (G_ok _ _ _ _) rfl [0, 0, 0, 6, 14, 0, 0, 64, 224, 480, 1023, 2047] [10, 1, 1] rfl rfl ?_ | refine AWP.block ?_ | refine AWP.cond rfl ?_ | refine AWP.ret ?_ | refine AWP.skip ?_ | refine AWP.exit ?_ | refine AWP.label ?_ | refine AWP.goto ?_ | (refine Br (fun h => ?_) (fun h => ?_) <;> try (exfalso; simp only [decide_eq_true_eq, decide_eq_false_iff_not, beq_iff_eq, beq_eq_false_iff_ne, bne_iff_ne, bne_eq_false_iff_eq, ne_eq, List.length_map, List.length_append, List.length_cons, List.length_nil] at *; omega)))
  all_goals (try conv => whnf)
  refine ⟨b0, ?_⟩
  repeat' ((try conv => whnf); with_reducible first | refine AWP.seq ?_ | refine AWP.region (G_ok _ _ _ _) rfl ?_ | refine AWP.draw (G_ok _ _ _ _) rfl [0, 0, 0, 6, 14, 0, 0, 64, 224, 480, 1023] [10, 1] rfl rfl ?_ | refine AWP.draw (G_ok _ _ _ _) rfl [0, 0, 0, 6, 14, 0, 0, 64, 224, 480, 1023, 2047] [10, 1, 1] rfl rfl ?_ | refine AWP.block ?_ | refine AWP.cond rfl ?_ | refine AWP.ret ?_ | refine AWP.skip ?_ | refine AWP.exit ?_ | refine AWP.label ?_ | refine AWP.goto ?_ | (refine Br (fun h => ?_) (fun h => ?_) <;> try (exfalso; simp only [decide_eq_true_eq, decide_eq_false_iff_not, beq_iff_eq, beq_eq_false_iff_ne, bne_iff_ne, bne_eq_false_iff_eq, ne_eq, List.length_map, List.length_append, List.length_cons, List.length_nil] at *; omega)))
  all_goals (try conv => whnf)
  refine ⟨_, g0, ?_⟩
  repeat' ((try conv => whnf); with_reducible first | refine AWP.seq ?_ | refine AWP.region (G_ok _ _ _ _) rfl ?_ | refine AWP.draw (G_ok _ _ _ _) rfl [0, 0, 0, 6, 14, 0, 0, 64, 224, 480, 1023] [10, 1] rfl rfl ?_ | refine AWP.draw (G_ok _ _ _ _) rfl [0, 0, 0, 6, 14, 0, 0, 64, 224, 480, 1023, 2047] [10, 1, 1] rfl rfl ?_ | refine AWP.block ?_ | refine AWP.cond rfl ?_ | refine AWP.ret ?_ | refine AWP.skip ?_ | refine AWP.exit ?_ | refine AWP.label ?_ | refine AWP.goto ?_ | (refine Br (fun h => ?_) (fun h => ?_) <;> try (exfalso; simp only [decide_eq_true_eq, decide_eq_false_iff_not, beq_iff_eq, beq_eq_false_iff_ne, bne_iff_ne, bne_eq_false_iff_eq, ne_eq, List.length_map, List.length_append, List.length_cons, List.length_nil] at *; omega)))
  all_goals (try conv => whnf)
  have hc := eq1_ok (pick S k) (pick S (k - 1)) (hf _ (pick_mem hk)) (hf _ (pick_mem (by omega)))
  rcases Nat.lt_or_ge k k0 with hkk | hkk
  · rw [show eqB compareT (pick S k) (pick S (k - 1)) = false from hn k hk1 hkk] at hc
    refine ⟨_, _, hc, ?_⟩
    repeat' ((try conv => whnf); with_reducible first | refine AWP.seq ?_ | refine AWP.region (G_ok _ _ _ _) rfl ?_ | refine AWP.draw (G_ok _ _ _ _) rfl [0, 0, 0, 6, 14, 0, 0, 64, 224, 480, 1023] [10, 1] rfl rfl ?_ | refine AWP.draw (G_ok _ _ _ _) rfl [0, 0, 0, 6, 14, 0, 0, 64, 224, 480, 1023, 2047] [10, 1, 1] rfl rfl ?_ | refine AWP.block ?_ | refine AWP.cond rfl ?_ | refine AWP.ret ?_ | refine AWP.skip ?_ | refine AWP.exit ?_ | refine AWP.label ?_ | refine AWP.goto ?_ | (refine Br (fun h => ?_) (fun h => ?_) <;> try (exfalso; simp only [decide_eq_true_eq, decide_eq_false_iff_not, beq_iff_eq, beq_eq_false_iff_ne, bne_iff_ne, bne_eq_false_iff_eq, ne_eq, List.length_map, List.length_append, List.length_cons, List.length_nil] at *; omega)))
    all_goals (try conv => whnf)
    refine ⟨S.length - (k + 1), by omega, k + 1, rfl, by omega, by omega, ⟨rfl, rfl, ?_, trivial⟩, ⟨rfl, trivial⟩⟩
    show PV.s (.int .i64 (IntKind.i64.wrap ((k : Int) + 1))) = _
    rw [w_add1 (by omega)]
  have hke : k = k0 := by omega
  subst hke
  rw [show eqB compareT (pick S k) (pick S (k - 1)) = true from hy] at hc
  refine ⟨_, _, hc, ?_⟩
  repeat' ((try conv => whnf); with_reducible first | refine AWP.seq ?_ | refine AWP.region (G_ok _ _ _ _) rfl ?_ | refine AWP.draw (G_ok _ _ _ _) rfl [0, 0, 0, 6, 14, 0, 0, 64, 224, 480, 1023] [10, 1] rfl rfl ?_ | refine AWP.draw (G_ok _ _ _ _) rfl [0, 0, 0, 6, 14, 0, 0, 64, 224, 480, 1023, 2047] [10, 1, 1] rfl rfl ?_ | refine AWP.block ?_ | refine AWP.cond rfl ?_ | refine AWP.ret ?_ | refine AWP.skip ?_ | refine AWP.exit ?_ | refine AWP.label ?_ | refine AWP.goto ?_ | (refine Br (fun h => ?_) (fun h => ?_) <;> try (exfalso; simp only [decide_eq_true_eq, decide_eq_false_iff_not, beq_iff_eq, beq_eq_false_iff_ne, bne_iff_ne, bne_eq_false_iff_eq, ne_eq, List.length_map, List.length_append, List.length_cons, List.length_nil] at *; omega)))
  all_goals (try conv => whnf)
  refine ⟨by rw [en_len]; omega, ?_⟩
  repeat' ((try conv => whnf); with_reducible first | refine AWP.seq ?_ | refine AWP.region (G_ok _ _ _ _) rfl ?_ | refine AWP.draw (G_ok _ _ _ _) rfl [0, 0, 0, 6, 14, 0, 0, 64, 224, 480, 1023] [10, 1] rfl rfl ?_ | refine AWP.draw (G_ok _ _ _ _) rfl [0, 0, 0, 6, 14, 0, 0, 64, 224, 480, 1023, 2047] [10, 1, 1] rfl rfl ?_ | refine AWP.block ?_ | refine AWP.cond rfl ?_ | refine AWP.ret ?_ | refine AWP.skip ?_ | refine AWP.exit ?_ | refine AWP.label ?_ | refine AWP.goto ?_ | (refine Br (fun h => ?_) (fun h => ?_) <;> try (exfalso; simp only [decide_eq_true_eq, decide_eq_false_iff_not, beq_iff_eq, beq_eq_false_iff_ne, bne_iff_ne, bne_eq_false_iff_eq, ne_eq, List.length_map, List.length_append, List.length_cons, List.length_nil] at *; omega)))
  all_goals (try conv => whnf)
  refine AWP.loop (fun m st => ∃ (q : Nat) (C M : List Tm), m = S.length - (k + q) ∧ 1 ≤ q ∧ k + q ≤ S.length ∧ C = cmpct (eqB compareT) (S.take (k + q)) ∧ C.length + M.length = k + q - 1 ∧
    Has st [(0, .xs 0 none), (1, fnv 55), (5, iv C.length), (6, .xs 0 (some (k, S.length - k))), (7, iv q)] [(0, .row 6 (enR (C ++ M ++ S.drop (k + q - 1))))]) (S.length - (k + 1)) ?_ ?_
  · have e := hsnoc k hk1 hk
    rw [if_pos hy, List.append_nil, hpre k hk1 (Nat.le_refl _)] at e
    refine ⟨1, S.take k, [], rfl, Nat.le_refl _, by omega, e.symm, by simp; omega, ⟨rfl, rfl, ?_, ?_, rfl, trivial⟩, ⟨?_, trivial⟩⟩
    · show iv (k : Int) = _
      rw [List.length_take, Nat.min_eq_left (by omega)]
    · show PV.xs 0 (some ((k : Int).toNat, (enR S).length - (k : Int).toNat)) = _
      rw [Int.toNat_natCast, en_len]
    · show some (Row.row 6 (enR S)) = _
      rw [Nat.add_sub_cancel, List.append_nil, List.take_append_drop]
  clear hw b1 b0 g1 g0 hc hst
  rintro m st ⟨q, C, M, rfl, hq1, hqn, hC, hCM, hst⟩
  have hdr : S.drop (k + q - 1) = pick S (k + q - 1) :: S.drop (k + q) := by
    rw [List.drop_eq_getElem_cons (by omega), pick_eq (by omega)]
    congr 2
    omega
  have hLl : (C ++ M ++ S.drop (k + q - 1)).length = S.length := by simp; omega
  have hlenI : ((S.length - k : Nat) : Int) = (S.length : Int) - k := by omega
  rcases Nat.lt_or_ge (k + q) S.length with hlt | hge
  · have hz : pick (C ++ M ++ S.drop (k + q - 1)) (k + q) = pick S (k + q) := by
      have := pick_app2 (A := C ++ M) (B := S.drop (k + q - 1)) (c := 1) (n := k + q - 1) (by simp; omega)
      rw [show k + q - 1 + 1 = k + q by omega, pick_drop, show k + q - 1 + 1 = k + q by omega] at this
      exact this
    have hw' : pick (C ++ M ++ S.drop (k + q - 1)) (k + (q - 1)) = pick S (k + (q - 1)) := by
      have := pick_app2 (A := C ++ M) (B := S.drop (k + q - 1)) (c := 0) (n := k + q - 1) (by simp; omega)
      rw [Nat.add_zero, pick_drop, Nat.add_zero] at this
      rw [show k + (q - 1) = k + q - 1 by omega]
      exact this
    have hwq : IntKind.i64.wrap ((q : Int) - 1) = ((q - 1 : Nat) : Int) := w_sub1 hq1 (by omega)
    have bz : 0 ≤ (q : Int) ∧ (q : Int) < ((S.length - k : Nat) : Int) := by omega
    have bw : 0 ≤ IntKind.i64.wrap ((q : Int) - 1) ∧ IntKind.i64.wrap ((q : Int) - 1) < ((S.length - k : Nat) : Int) := by rw [hwq]; omega
    have gz : (enR (C ++ M ++ S.drop (k + q - 1)))[k + ((q : Int)).toNat]? = some (pick S (k + q)).cells := by rw [Int.toNat_natCast, en_pick (by omega), hz]
    have gw : (enR (C ++ M ++ S.drop (k + q - 1)))[k + (IntKind.i64.wrap ((q : Int) - 1)).toNat]? = some (pick S (k + (q - 1))).cells := by rw [hwq, Int.toNat_natCast, en_pick (by omega), hw']
    have bC : 0 ≤ (C.length : Int) ∧ (C.length : Int) < ((enR (C ++ M ++ S.drop (k + q - 1))).length : Int) := by rw [en_len, hLl]; omega
    have sC : ((C.length : Int)).toNat < (enR (C ++ M ++ S.drop (k + q - 1))).length := by rw [en_len, hLl]; omega
    have hc := eq1_ok (pick S (k + q)) (pick S (k + (q - 1))) (hf _ (pick_mem hlt)) (hf _ (pick_mem (by omega)))
    have hsn := hsnoc (k + q) (by omega) hlt
    rw [← hC] at hsn
    have hnbq : nb S (k + q) = eqB compareT (pick S (k + q)) (pick S (k + (q - 1))) := by unfold nb; rw [show k + q - 1 = k + (q - 1) by omega]
    obtain ⟨h0, N', hN⟩ : ∃ h0 N', M ++ [pick S (k + q - 1)] = h0 :: N' := by cases M with | nil => exact ⟨_, _, rfl⟩ | cons x M => exact ⟨_, _, rfl⟩
    have hNl : N'.length = M.length := by have := congrArg List.length hN; simp at this; omega
    have hrow : C ++ M ++ S.drop (k + q - 1) = C ++ h0 :: (N' ++ S.drop (k + q)) := by
      rw [hdr, List.append_assoc, show M ++ pick S (k + q - 1) :: S.drop (k + q) = (M ++ [pick S (k + q - 1)]) ++ S.drop (k + q) by simp, hN]; rfl
    rw [← hnbq] at hc
    obtain ⟨f, H, rfl⟩ := hst.canon
    repeat' ((try conv => whnf); with_reducible first | refine AWP.seq ?_ | refine AWP.region (G_ok _ _ _ _) rfl ?_ | refine AWP.draw (G_ok _ _ _ _) rfl [0, 0, 0, 6, 14, 0, 0, 64, 224, 480, 1023] [10, 1] rfl rfl ?_ | refine AWP.draw (G_ok _ _ _ _) rfl [0, 0, 0, 6, 14, 0, 0, 64, 224, 480, 1023, 2047] [10, 1, 1] rfl rfl ?_ | refine AWP.block ?_ | refine AWP.cond rfl ?_ | refine AWP.ret ?_ | refine AWP.skip ?_ | refine AWP.exit ?_ | refine AWP.label ?_ | refine AWP.goto ?_ | (refine Br (fun h => ?_) (fun h => ?_) <;> try (exfalso; simp only [decide_eq_true_eq, decide_eq_false_iff_not, beq_iff_eq, beq_eq_false_iff_ne, bne_iff_ne, bne_eq_false_iff_eq, ne_eq, List.length_map, List.length_append, List.length_cons, List.length_nil] at *; omega)))
    all_goals (try conv => whnf)
    refine ⟨bz, ?_⟩
    repeat' ((try conv => whnf); with_reducible first | refine AWP.seq ?_ | refine AWP.region (G_ok _ _ _ _) rfl ?_ | refine AWP.draw (G_ok _ _ _ _) rfl [0, 0, 0, 6, 14, 0, 0, 64, 224, 480, 1023] [10, 1] rfl rfl ?_ | refine AWP.draw (G_ok _ _ _ _) rfl [0, 0, 0, 6, 14, 0, 0, 64, 224, 480, 1023, 2047] [10, 1, 1] rfl rfl ?_ | refine AWP.block ?_ | refine AWP.cond rfl ?_ | refine AWP.ret ?_ | refine AWP.skip ?_ | refine AWP.exit ?_ | refine AWP.label ?_ | refine AWP.goto ?_ | (refine Br (fun h => ?_) (fun h => ?_) <;> try (exfalso; simp only [decide_eq_true_eq, decide_eq_false_iff_not, beq_iff_eq, beq_eq_false_iff_ne, bne_iff_ne, bne_eq_false_iff_eq, ne_eq, List.length_map, List.length_append, List.length_cons, List.length_nil] at *; omega)))
    all_goals (try conv => whnf)
    refine ⟨_, gz, ?_⟩
    repeat' ((try conv => whnf); with_reducible first | refine AWP.seq ?_ | refine AWP.region (G_ok _ _ _ _) rfl ?_ | refine AWP.draw (G_ok _ _ _ _) rfl [0, 0, 0, 6, 14, 0, 0, 64, 224, 480, 1023] [10, 1] rfl rfl ?_ | refine AWP.draw (G_ok _ _ _ _) rfl [0, 0, 0, 6, 14, 0, 0, 64, 224, 480, 1023, 2047] [10, 1, 1] rfl rfl ?_ | refine AWP.block ?_ | refine AWP.cond rfl ?_ | refine AWP.ret ?_ | refine AWP.skip ?_ | refine AWP.exit ?_ | refine AWP.label ?_ | refine AWP.goto ?_ | (refine Br (fun h => ?_) (fun h => ?_) <;> try (exfalso; simp only [decide_eq_true_eq, decide_eq_false_iff_not, beq_iff_eq, beq_eq_false_iff_ne, bne_iff_ne, bne_eq_false_iff_eq, ne_eq, List.length_map, List.length_append, List.length_cons, List.length_nil] at *; omega)))
    all_goals (try conv => whnf)
    refine ⟨bw, ?_⟩
    repeat' ((try conv => whnf); with_reducible first | refine AWP.seq ?_ | refine AWP.region (G_ok _ _ _ _) rfl ?_ | refine AWP.draw (G_ok _ _ _ _) rfl [0, 0, 0, 6, 14, 0, 0, 64, 224, 480, 1023] [10, 1] rfl rfl ?_ | refine AWP.draw (G_ok _ _ _ _) rfl [0, 0, 0, 6, 14, 0, 0, 64, 224, 480, 1023, 2047] [10, 1, 1] rfl rfl ?_ | refine AWP.block ?_ | refine AWP.cond rfl ?_ | refine AWP.ret ?_ | refine AWP.skip ?_ | refine AWP.exit ?_ | refine AWP.label ?_ | refine AWP.goto ?_ | (refine Br (fun h => ?_) (fun h => ?_) <;> try (exfalso; simp only [decide_eq_true_eq, decide_eq_false_iff_not, beq_iff_eq, beq_eq_false_iff_ne, bne_iff_ne, bne_eq_false_iff_eq, ne_eq, List.length_map, List.length_append, List.length_cons, List.length_nil] at *; omega)))
    all_goals (try conv => whnf)
    refine ⟨_, gw, ?_⟩
    repeat' ((try conv => whnf); with_reducible first | refine AWP.seq ?_ | refine AWP.region (G_ok _ _ _ _) rfl ?_ | refine AWP.draw (G_ok _ _ _ _) rfl [0, 0, 0, 6, 14, 0, 0, 64, 224, 480, 1023] [10, 1] rfl rfl ?_ | refine AWP.draw (G_ok _ _ _ _) rfl [0, 0, 0, 6, 14, 0, 0, 64, 224, 480, 1023, 2047] [10, 1, 1] rfl rfl ?_ | refine AWP.block ?_ | refine AWP.cond rfl ?_ | refine AWP.ret ?_ | refine AWP.skip ?_ | refine AWP.exit ?_ | refine AWP.label ?_ | refine AWP.goto ?_ | (refine Br (fun h => ?_) (fun h => ?_) <;> try (exfalso; simp only [decide_eq_true_eq, decide_eq_false_iff_not, beq_iff_eq, beq_eq_false_iff_ne, bne_iff_ne, bne_eq_false_iff_eq, ne_eq, List.length_map, List.length_append, List.length_cons, List.length_nil] at *; omega)))
    all_goals (try conv => whnf)
    cases hb : nb S (k + q) with
    | false =>
      rw [hb] at hc hsn
      refine ⟨_, _, hc, ?_⟩
      repeat' ((try conv => whnf); with_reducible first | refine AWP.seq ?_ | refine AWP.region (G_ok _ _ _ _) rfl ?_ | refine AWP.draw (G_ok _ _ _ _) rfl [0, 0, 0, 6, 14, 0, 0, 64, 224, 480, 1023] [10, 1] rfl rfl ?_ | refine AWP.draw (G_ok _ _ _ _) rfl [0, 0, 0, 6, 14, 0, 0, 64, 224, 480, 1023, 2047] [10, 1, 1] rfl rfl ?_ | refine AWP.block ?_ | refine AWP.cond rfl ?_ | refine AWP.ret ?_ | refine AWP.skip ?_ | refine AWP.exit ?_ | refine AWP.label ?_ | refine AWP.goto ?_ | (refine Br (fun h => ?_) (fun h => ?_) <;> try (exfalso; simp only [decide_eq_true_eq, decide_eq_false_iff_not, beq_iff_eq, beq_eq_false_iff_ne, bne_iff_ne, bne_eq_false_iff_eq, ne_eq, List.length_map, List.length_append, List.length_cons, List.length_nil] at *; omega)))
      all_goals (try conv => whnf)
      refine ⟨bz, ?_⟩
      repeat' ((try conv => whnf); with_reducible first | refine AWP.seq ?_ | refine AWP.region (G_ok _ _ _ _) rfl ?_ | refine AWP.draw (G_ok _ _ _ _) rfl [0, 0, 0, 6, 14, 0, 0, 64, 224, 480, 1023] [10, 1] rfl rfl ?_ | refine AWP.draw (G_ok _ _ _ _) rfl [0, 0, 0, 6, 14, 0, 0, 64, 224, 480, 1023, 2047] [10, 1, 1] rfl rfl ?_ | refine AWP.block ?_ | refine AWP.cond rfl ?_ | refine AWP.ret ?_ | refine AWP.skip ?_ | refine AWP.exit ?_ | refine AWP.label ?_ | refine AWP.goto ?_ | (refine Br (fun h => ?_) (fun h => ?_) <;> try (exfalso; simp only [decide_eq_true_eq, decide_eq_false_iff_not, beq_iff_eq, beq_eq_false_iff_ne, bne_iff_ne, bne_eq_false_iff_eq, ne_eq, List.length_map, List.length_append, List.length_cons, List.length_nil] at *; omega)))
      all_goals (try conv => whnf)
      refine ⟨_, gz, ?_⟩
      repeat' ((try conv => whnf); with_reducible first | refine AWP.seq ?_ | refine AWP.region (G_ok _ _ _ _) rfl ?_ | refine AWP.draw (G_ok _ _ _ _) rfl [0, 0, 0, 6, 14, 0, 0, 64, 224, 480, 1023] [10, 1] rfl rfl ?_ | refine AWP.draw (G_ok _ _ _ _) rfl [0, 0, 0, 6, 14, 0, 0, 64, 224, 480, 1023, 2047] [10, 1, 1] rfl rfl ?_ | refine AWP.block ?_ | refine AWP.cond rfl ?_ | refine AWP.ret ?_ | refine AWP.skip ?_ | refine AWP.exit ?_ | refine AWP.label ?_ | refine AWP.goto ?_ | (refine Br (fun h => ?_) (fun h => ?_) <;> try (exfalso; simp only [decide_eq_true_eq, decide_eq_false_iff_not, beq_iff_eq, beq_eq_false_iff_ne, bne_iff_ne, bne_eq_false_iff_eq, ne_eq, List.length_map, List.length_append, List.length_cons, List.length_nil] at *; omega)))
      all_goals (try conv => whnf)
      refine ⟨bC, ?_⟩
      repeat' ((try conv => whnf); with_reducible first | refine AWP.seq ?_ | refine AWP.region (G_ok _ _ _ _) rfl ?_ | refine AWP.draw (G_ok _ _ _ _) rfl [0, 0, 0, 6, 14, 0, 0, 64, 224, 480, 1023] [10, 1] rfl rfl ?_ | refine AWP.draw (G_ok _ _ _ _) rfl [0, 0, 0, 6, 14, 0, 0, 64, 224, 480, 1023, 2047] [10, 1, 1] rfl rfl ?_ | refine AWP.block ?_ | refine AWP.cond rfl ?_ | refine AWP.ret ?_ | refine AWP.skip ?_ | refine AWP.exit ?_ | refine AWP.label ?_ | refine AWP.goto ?_ | (refine Br (fun h => ?_) (fun h => ?_) <;> try (exfalso; simp only [decide_eq_true_eq, decide_eq_false_iff_not, beq_iff_eq, beq_eq_false_iff_ne, bne_iff_ne, bne_eq_false_iff_eq, ne_eq, List.length_map, List.length_append, List.length_cons, List.length_nil] at *; omega)))
      all_goals (try conv => whnf)
      refine ⟨sC, ?_⟩
      repeat' ((try conv => whnf); with_reducible first | refine AWP.seq ?_ | refine AWP.region (G_ok _ _ _ _) rfl ?_ | refine AWP.draw (G_ok _ _ _ _) rfl [0, 0, 0, 6, 14, 0, 0, 64, 224, 480, 1023] [10, 1] rfl rfl ?_ | refine AWP.draw (G_ok _ _ _ _) rfl [0, 0, 0, 6, 14, 0, 0, 64, 224, 480, 1023, 2047] [10, 1, 1] rfl rfl ?_ | refine AWP.block ?_ | refine AWP.cond rfl ?_ | refine AWP.ret ?_ | refine AWP.skip ?_ | refine AWP.exit ?_ | refine AWP.label ?_ | refine AWP.goto ?_ | (refine Br (fun h => ?_) (fun h => ?_) <;> try (exfalso; simp only [decide_eq_true_eq, decide_eq_false_iff_not, beq_iff_eq, beq_eq_false_iff_ne, bne_iff_ne, bne_eq_false_iff_eq, ne_eq, List.length_map, List.length_append, List.length_cons, List.length_nil] at *; omega)))
      all_goals (try conv => whnf)
      refine ⟨S.length - (k + (q + 1)), by omega, q + 1, C ++ [pick S (k + q)], N', rfl, by omega, by omega, ?_, by simp; omega, ⟨rfl, rfl, ?_, rfl, ?_, trivial⟩, ⟨?_, trivial⟩⟩
      · rw [← Nat.add_assoc, hsn]; rfl
      · show PV.s (.int .i64 (IntKind.i64.wrap ((C.length : Int) + 1))) = _
        rw [w_add1 (by omega)]; simp
      · show PV.s (.int .i64 (IntKind.i64.wrap ((q : Int) + 1))) = _
        rw [w_add1 (by omega)]
      · show some (Row.row 6 ((enR (C ++ M ++ S.drop (k + q - 1))).set ((C.length : Int)).toNat (pick S (k + q)).cells)) = _
        rw [Int.toNat_natCast, hrow, en_set, show k + (q + 1) - 1 = k + q by omega]
        simp
    | true =>
      rw [hb] at hc hsn
      refine ⟨_, _, hc, ?_⟩
      repeat' ((try conv => whnf); with_reducible first | refine AWP.seq ?_ | refine AWP.region (G_ok _ _ _ _) rfl ?_ | refine AWP.draw (G_ok _ _ _ _) rfl [0, 0, 0, 6, 14, 0, 0, 64, 224, 480, 1023] [10, 1] rfl rfl ?_ | refine AWP.draw (G_ok _ _ _ _) rfl [0, 0, 0, 6, 14, 0, 0, 64, 224, 480, 1023, 2047] [10, 1, 1] rfl rfl ?_ | refine AWP.block ?_ | refine AWP.cond rfl ?_ | refine AWP.ret ?_ | refine AWP.skip ?_ | refine AWP.exit ?_ | refine AWP.label ?_ | refine AWP.goto ?_ | (refine Br (fun h => ?_) (fun h => ?_) <;> try (exfalso; simp only [decide_eq_true_eq, decide_eq_false_iff_not, beq_iff_eq, beq_eq_false_iff_ne, bne_iff_ne, bne_eq_false_iff_eq, ne_eq, List.length_map, List.length_append, List.length_cons, List.length_nil] at *; omega)))
      all_goals (try conv => whnf)
      refine ⟨S.length - (k + (q + 1)), by omega, q + 1, C, M ++ [pick S (k + q - 1)], rfl, by omega, by omega, ?_, by simp; omega, ⟨rfl, rfl, rfl, rfl, ?_, trivial⟩, ⟨?_, trivial⟩⟩
      · rw [← Nat.add_assoc, hsn]; simp
      · show PV.s (.int .i64 (IntKind.i64.wrap ((q : Int) + 1))) = _
        rw [w_add1 (by omega)]
      · show some (Row.row 6 (enR (C ++ M ++ S.drop (k + q - 1)))) = _
        rw [hdr, show k + (q + 1) - 1 = k + q by omega]
        simp
  · have hqe : k + q = S.length := by omega
    have hCf : C = cmpct (eqB compareT) S := by rw [hC, hqe, List.take_length]
    have hCle : C.length ≤ S.length := by omega
    obtain ⟨f, H, rfl⟩ := hst.canon
    repeat' ((try conv => whnf); with_reducible first | refine AWP.seq ?_ | refine AWP.region (G_ok _ _ _ _) rfl ?_ | refine AWP.draw (G_ok _ _ _ _) rfl [0, 0, 0, 6, 14, 0, 0, 64, 224, 480, 1023] [10, 1] rfl rfl ?_ | refine AWP.draw (G_ok _ _ _ _) rfl [0, 0, 0, 6, 14, 0, 0, 64, 224, 480, 1023, 2047] [10, 1, 1] rfl rfl ?_ | refine AWP.block ?_ | refine AWP.cond rfl ?_ | refine AWP.ret ?_ | refine AWP.skip ?_ | refine AWP.exit ?_ | refine AWP.label ?_ | refine AWP.goto ?_ | (refine Br (fun h => ?_) (fun h => ?_) <;> try (exfalso; simp only [decide_eq_true_eq, decide_eq_false_iff_not, beq_iff_eq, beq_eq_false_iff_ne, bne_iff_ne, bne_eq_false_iff_eq, ne_eq, List.length_map, List.length_append, List.length_cons, List.length_nil] at *; omega)))
    all_goals (try conv => whnf)
    refine ⟨by rw [en_len, hLl]; omega, ?_⟩
    repeat' ((try conv => whnf); with_reducible first | refine AWP.seq ?_ | refine AWP.region (G_ok _ _ _ _) rfl ?_ | refine AWP.draw (G_ok _ _ _ _) rfl [0, 0, 0, 6, 14, 0, 0, 64, 224, 480, 1023] [10, 1] rfl rfl ?_ | refine AWP.draw (G_ok _ _ _ _) rfl [0, 0, 0, 6, 14, 0, 0, 64, 224, 480, 1023, 2047] [10, 1, 1] rfl rfl ?_ | refine AWP.block ?_ | refine AWP.cond rfl ?_ | refine AWP.ret ?_ | refine AWP.skip ?_ | refine AWP.exit ?_ | refine AWP.label ?_ | refine AWP.goto ?_ | (refine Br (fun h => ?_) (fun h => ?_) <;> try (exfalso; simp only [decide_eq_true_eq, decide_eq_false_iff_not, beq_iff_eq, beq_eq_false_iff_ne, bne_iff_ne, bne_eq_false_iff_eq, ne_eq, List.length_map, List.length_append, List.length_cons, List.length_nil] at *; omega)))
    all_goals (try conv => whnf)
    refine ⟨25, ty25, Try.underlying23, rfl, ?_⟩
    repeat' ((try conv => whnf); with_reducible first | refine AWP.seq ?_ | refine AWP.region (G_ok _ _ _ _) rfl ?_ | refine AWP.draw (G_ok _ _ _ _) rfl [0, 0, 0, 6, 14, 0, 0, 64, 224, 480, 1023] [10, 1] rfl rfl ?_ | refine AWP.draw (G_ok _ _ _ _) rfl [0, 0, 0, 6, 14, 0, 0, 64, 224, 480, 1023, 2047] [10, 1, 1] rfl rfl ?_ | refine AWP.block ?_ | refine AWP.cond rfl ?_ | refine AWP.ret ?_ | refine AWP.skip ?_ | refine AWP.exit ?_ | refine AWP.label ?_ | refine AWP.goto ?_ | (refine Br (fun h => ?_) (fun h => ?_) <;> try (exfalso; simp only [decide_eq_true_eq, decide_eq_false_iff_not, beq_iff_eq, beq_eq_false_iff_ne, bne_iff_ne, bne_eq_false_iff_eq, ne_eq, List.length_map, List.length_append, List.length_cons, List.length_nil] at *; omega)))
    all_goals (try conv => whnf)
    have etk : (enR (C ++ M ++ S.drop (k + q - 1))).take ((C.length : Int)).toNat = enR C := by
      rw [Int.toNat_natCast, List.append_assoc]
      unfold enR
      rw [List.map_append, List.take_left' (by simp)]
    have edr : (enR (C ++ M ++ S.drop (k + q - 1))).drop (((C.length : Int)).toNat + ((enR (C ++ M ++ S.drop (k + q - 1))).length - ((C.length : Int)).toNat)) = [] := List.drop_eq_nil_of_le (by rw [Int.toNat_natCast]; omega)
    have erow : (enR (C ++ M ++ S.drop (k + q - 1))).take ((C.length : Int)).toNat ++ (List.replicate ((enR (C ++ M ++ S.drop (k + q - 1))).length - ((C.length : Int)).toNat) ty25.zero ++ (enR (C ++ M ++ S.drop (k + q - 1))).drop (((C.length : Int)).toNat + ((enR (C ++ M ++ S.drop (k + q - 1))).length - ((C.length : Int)).toNat))) = enR (cmpct (eqB compareT) S) ++ List.replicate (S.length - (cmpct (eqB compareT) S).length) ty25.zero := by
      rw [etk, edr, List.append_nil, en_len, hLl, Int.toNat_natCast, hCf]
    refine ⟨?_, ?_⟩
    · show (0 : Int) ≤ (C.length : Int) ∧ (C.length : Int) ≤ (((enR (C ++ M ++ S.drop (k + q - 1))).take ((C.length : Int)).toNat ++ (List.replicate ((enR (C ++ M ++ S.drop (k + q - 1))).length - ((C.length : Int)).toNat) ty25.zero ++ (enR (C ++ M ++ S.drop (k + q - 1))).drop (((C.length : Int)).toNat + ((enR (C ++ M ++ S.drop (k + q - 1))).length - ((C.length : Int)).toNat)))).length : Int)
      rw [erow, List.length_append, en_len, List.length_replicate, ← hCf]; omega
    repeat' ((try conv => whnf); with_reducible first | refine AWP.seq ?_ | refine AWP.region (G_ok _ _ _ _) rfl ?_ | refine AWP.draw (G_ok _ _ _ _) rfl [0, 0, 0, 6, 14, 0, 0, 64, 224, 480, 1023] [10, 1] rfl rfl ?_ | refine AWP.draw (G_ok _ _ _ _) rfl [0, 0, 0, 6, 14, 0, 0, 64, 224, 480, 1023, 2047] [10, 1, 1] rfl rfl ?_ | refine AWP.block ?_ | refine AWP.cond rfl ?_ | refine AWP.ret ?_ | refine AWP.skip ?_ | refine AWP.exit ?_ | refine AWP.label ?_ | refine AWP.goto ?_ | (refine Br (fun h => ?_) (fun h => ?_) <;> try (exfalso; simp only [decide_eq_true_eq, decide_eq_false_iff_not, beq_iff_eq, beq_eq_false_iff_ne, bne_iff_ne, bne_eq_false_iff_eq, ne_eq, List.length_map, List.length_append, List.length_cons, List.length_nil] at *; omega)))
    all_goals (try conv => whnf)
    rw [← hCf] at erow ⊢
    exact handsBack rfl erow rfl

/-- The first place at which it is so. -/
theorem firstAt (p : Nat → Bool) (n : Nat) : (∀ i, i < n → p i = false) ∨ ∃ k, k < n ∧ p k = true ∧ ∀ i, i < k → p i = false := by
  induction n with
  | zero => exact .inl (fun i h => by omega)
  | succ n ih =>
    rcases ih with h | ⟨k, h1, h2, h3⟩
    · cases hp : p n with
      | false =>
        refine .inl (fun i hi => ?_)
        rcases Nat.lt_or_ge i n with h4 | h4
        · exact h i h4
        · have : i = n := by omega
          rw [this]; exact hp
      | true => exact .inr ⟨n, by omega, hp, h⟩
    · exact .inr ⟨k, by omega, h2, h3⟩
theorem cmpct_none (S : List Tm) (hn : ∀ i, 1 ≤ i → i < S.length → nb S i = false) : cmpct (eqB compareT) S = S := by
  have key : ∀ k, k ≤ S.length → cmpct (eqB compareT) (S.take k) = S.take k := fun k => by
    induction k with
    | zero => intro _; rfl
    | succ k ih =>
      intro hk
      rcases Nat.eq_zero_or_pos k with rfl | hkp
      · rw [List.take_succ_eq_append_getElem (show 0 < S.length by omega)]; rfl
      · obtain ⟨q, rfl⟩ : ∃ q, k = q + 1 := ⟨k - 1, by omega⟩
        have ih := ih (by omega)
        have e1 : S.take (q + 1) = S.take q ++ [pick S q] := by rw [List.take_succ_eq_append_getElem (by omega), pick_eq (by omega)]
        have e2 : S.take (q + 1 + 1) = S.take q ++ [pick S q, pick S (q + 1)] := by rw [List.take_succ_eq_append_getElem (show q + 1 < S.length by omega), e1, pick_eq (show q + 1 < S.length by omega)]; simp
        have hb : eqB compareT (pick S (q + 1)) (pick S q) = false := hn (q + 1) (by omega) (by omega)
        rw [e2, cmpct_snoc, ← e1, ih, hb, e1]
        simp
  have := key S.length (Nat.le_refl _)
  rwa [List.take_length] at this

set_option maxHeartbeats 4000000 in
theorem oset_ok (l : List Tm) (hl : l.length ≤ 1000000) (hf : ∀ t ∈ l, t.Fit) : Snd 31 [tsv l] [tsv (setP l)] := by
  refine sound_pure (Γ := G 6 (fun k => Nat.beq k 54) (fun _ => false) (fun _ => false)) (G_ok _ _ _ _) Try.func31 rfl (by decide) rfl rfl rfl ?_
  repeat' ((try conv => whnf); with_reducible first | refine AWP.seq ?_ | refine AWP.region (G_ok _ _ _ _) rfl ?_ | refine AWP.block ?_ | refine AWP.cond rfl ?_ | refine AWP.ret ?_ | refine AWP.skip ?_ | refine AWP.exit ?_ | refine AWP.label ?_ | refine AWP.goto ?_ | refine Br (fun h => ?_) (fun h => ?_))
  have hSf : ∀ t ∈ sortP l, t.Fit := fun t ht => (sortP_pl hf t ht).2.2
  have hSl : (sortP l).length ≤ 1000000 := by rw [sortP_length]; exact Nat.le_trans (keepP_length l) hl
  by_cases hne : keepP l = []
  · have hs := osort_all l hl hf
    have e : sortP l = [] := by unfold sortP; rw [hne]; rfl
    have e2 : setP l = [] := by unfold setP; rw [e]; rfl
    rw [e] at hs
    rw [e2]
    refine ⟨_, _, hs, ?_⟩
    repeat' ((try conv => whnf); with_reducible first | refine AWP.seq ?_ | refine AWP.region (G_ok _ _ _ _) rfl ?_ | refine AWP.block ?_ | refine AWP.cond rfl ?_ | refine AWP.ret ?_ | refine AWP.skip ?_ | refine AWP.exit ?_ | refine AWP.label ?_ | refine AWP.goto ?_ | refine Br (fun h => ?_) (fun h => ?_))
    all_goals (try conv => whnf)
    refine ⟨[], [tsv [], fnv 55], [], tsv [], [], ⟨rfl, rfl, rfl, trivial, rfl, rfl, rfl, rfl, rfl⟩, compact_nil, ?_⟩
    repeat' ((try conv => whnf); with_reducible first | refine AWP.seq ?_ | refine AWP.region (G_ok _ _ _ _) rfl ?_ | refine AWP.block ?_ | refine AWP.cond rfl ?_ | refine AWP.ret ?_ | refine AWP.skip ?_ | refine AWP.exit ?_ | refine AWP.label ?_ | refine AWP.goto ?_ | refine Br (fun h => ?_) (fun h => ?_))
    all_goals (try conv => whnf)
    exact finP rfl rfl
  · refine ⟨_, _, osort_row l hl hf hne, ?_⟩
    repeat' ((try conv => whnf); with_reducible first | refine AWP.seq ?_ | refine AWP.region (G_ok _ _ _ _) rfl ?_ | refine AWP.block ?_ | refine AWP.cond rfl ?_ | refine AWP.ret ?_ | refine AWP.skip ?_ | refine AWP.exit ?_ | refine AWP.label ?_ | refine AWP.goto ?_ | refine Br (fun h => ?_) (fun h => ?_))
    all_goals (try conv => whnf)
    rcases firstAt (fun i => decide (1 ≤ i) && nb (sortP l) i) (sortP l).length with hn | ⟨k, hk, hy, hn⟩
    · have hn' : ∀ i, 1 ≤ i → i < (sortP l).length → nb (sortP l) i = false := fun i h1 h2 => by have := hn i h2; simpa [h1] using this
      have e2 : setP l = sortP l := cmpct_none _ hn'
      rw [e2]
      refine ⟨[104], [.xs 0 none, fnv 55], [.row 6 (enR (sortP l))], .xs 0 none, [.row 6 (enR (sortP l))], ⟨rfl, rfl, rfl, ⟨rfl, trivial⟩, rfl, rfl, rfl, rfl, rfl⟩, compact_same _ hSf hSl hn', ?_⟩
      repeat' ((try conv => whnf); with_reducible first | refine AWP.seq ?_ | refine AWP.region (G_ok _ _ _ _) rfl ?_ | refine AWP.block ?_ | refine AWP.cond rfl ?_ | refine AWP.ret ?_ | refine AWP.skip ?_ | refine AWP.exit ?_ | refine AWP.label ?_ | refine AWP.goto ?_ | refine Br (fun h => ?_) (fun h => ?_))
      all_goals (try conv => whnf)
      exact finP rfl rfl
    · have hy' : 1 ≤ k ∧ nb (sortP l) k = true := by simpa using hy
      have hn' : ∀ i, 1 ≤ i → i < k → nb (sortP l) i = false := fun i h1 h2 => by have := hn i h2; simpa [h1] using this
      refine ⟨[104], [.xs 0 none, fnv 55], [.row 6 (enR (sortP l))], .xs 0 (some (0, (setP l).length)), [.row 6 (enR (setP l) ++ List.replicate ((sortP l).length - (setP l).length) ty25.zero)], ⟨rfl, rfl, rfl, ⟨rfl, trivial⟩, rfl, rfl, rfl, rfl, rfl⟩, compact_cut _ hSf hSl k hy'.1 hk hn' hy'.2, ?_⟩
      repeat' ((try conv => whnf); with_reducible first | refine AWP.seq ?_ | refine AWP.region (G_ok _ _ _ _) rfl ?_ | refine AWP.block ?_ | refine AWP.cond rfl ?_ | refine AWP.ret ?_ | refine AWP.skip ?_ | refine AWP.exit ?_ | refine AWP.label ?_ | refine AWP.goto ?_ | refine Br (fun h => ?_) (fun h => ?_))
      all_goals (try conv => whnf)
      refine finP ?_ rfl
      show PV.slc 6 (((enR (setP l) ++ List.replicate ((sortP l).length - (setP l).length) ty25.zero).drop 0).take (setP l).length) false = _
      rw [List.drop_zero, List.take_left' (by simp)]
      rfl

end Go.Vai

/- The reference's Sort; rows of terms held against each other. No condition. -/
namespace Go.Vai
open Go.Proofs

/-- A row of the call's own is handed out as data, at any time. -/
theorem AWP.pub {Γ : Ctx} {c : Code} {st : St} {Q : Out → Prop} (k sz : Nat) (es : List (List PV)) (hk : 100 ≤ k) (hrow : st.H k = some (.row sz es)) (h : AWP Γ c (st.drop k (Vai.pub k sz es) (pubR k sz es)) Q) : AWP Γ c st Q :=
  ⟨fun rd hrd E a w Q hr hq => by
    obtain ⟨β, hr⟩ := hr
    exact h.wp rd hrd E a w Q ⟨_, (hr.pub hk hrow).1⟩ hq⟩
/-- What bears a right to its room may do without. -/
theorem AWP.dem {Γ : Ctx} {c : Code} {st : St} {Q : Out → Prop} (d sz : Nat) (es : List (List PV)) (hd : st.fr d = .slc sz es true) (h : AWP Γ c ⟨upd st.fr d (.slc sz es false), st.H⟩ Q) : AWP Γ c st Q :=
  ⟨fun rd hrd E a w Q hr hq => by
    obtain ⟨β, hr⟩ := hr
    refine h.wp rd hrd E a w Q ⟨β, { size := hr.size, oth := hr.oth, frv := fun s v hv => ?_, hp := hr.hp, dom := hr.dom, inj := hr.inj, own := hr.own, keeps := hr.keeps, okb := hr.okb, hbb := hr.hbb, fix := hr.fix, fxm := hr.fxm }⟩ hq
    have h1 := hr.frv s v hv
    show RepV w (E.cx β w) (upd st.fr d (.slc sz es false) s) v
    rw [upd_at]
    split
    · rename_i e
      rw [e, hd] at h1
      exact dem2_ok (p := .slc sz es true) h1 (fun vs e => by cases e)
    · exact h1⟩

set_option maxHeartbeats 4000000 in
theorem refplain_ok (t : Tm) (ht : t.Fit) : Snd 53 [t.pv] [(turnT mkVar t).pv] := by
  refine sound_pure (Γ := G 51 (fun _ => false) (fun _ => false) (fun _ => false)) (G_ok _ _ _ _) Try.func53 rfl (by decide) rfl rfl rfl ?_
  repeat' ((try conv => whnf); with_reducible first | refine AWP.seq ?_ | refine AWP.region (G_ok _ _ _ _) rfl ?_ | refine AWP.draw (G_ok _ _ _ _) rfl [0, 1, 0, 4, 3, 19, 63, 127] [6, 1, 1] rfl rfl ?_ | refine AWP.draw (G_ok _ _ _ _) rfl [0, 1, 0, 4, 12, 31, 63, 127] [5, 1, 1, 1] rfl rfl ?_ | refine AWP.block ?_ | refine AWP.cond rfl ?_ | refine AWP.ret ?_ | refine AWP.skip ?_ | refine AWP.exit ?_ | refine AWP.label ?_ | refine AWP.goto ?_ | (refine Br (fun h => ?_) (fun h => ?_) <;> try (exfalso; simp only [decide_eq_true_eq, decide_eq_false_iff_not, beq_iff_eq, beq_eq_false_iff_ne, bne_iff_ne, bne_eq_false_iff_eq, ne_eq, List.length_map, List.length_append, List.length_cons, List.length_nil] at *; omega)))
  all_goals (try conv => whnf)
  · simp at h
    rw [turnT_eq, if_pos h]
    exact finP (by rw [h]; rfl) rfl
  · rename_i h1
    simp at h h1
    rw [turnT_eq, if_neg h1, if_neg (by omega), if_pos h]
    exact finP rfl rfl
  · rename_i h1 h2
    simp at h h1 h2
    rw [turnT_eq, if_neg h1, if_pos h]
    exact finP rfl rfl
  · rename_i h1 h2 h3
    simp at h h1 h2 h3
    rw [turnT_eq, if_neg h1, if_neg h3, if_neg h2, if_pos h]
    exact finP rfl rfl
  · rename_i h1 h2 h3 h4
    simp at h h1 h2 h3 h4
    have hspec : turnT mkVar t = .mk t.k t.n 0 0 0 (turnL mkVar t.ts) := by rw [turnT_eq, if_neg h1, if_neg h3, if_neg h2, if_neg h4, if_pos h]
    refine AWP.loop (fun m st => ∃ j : Nat, m = t.ts.length - j ∧ j ≤ t.ts.length ∧ ((j = 0 ∧ Has st [(2, .ptr 102 0 0), (3, .ptr 103 0 0), (36, .slc 6 (t.ts.map Tm.enc) false), (37, iv (t.ts.map Tm.enc).length), (38, iv j)] [(102, .cell [iv 0, sv es0, iv 0, uv 0, uv 0, .slc 6 [] true]), (103, .cell [iv t.k, sv t.n, iv 0, uv 0, uv 0, .slc 6 [] true])]) ∨
      Has st [(2, .ptr 102 0 0), (3, .ptr 103 0 0), (36, .slc 6 (t.ts.map Tm.enc) false), (37, iv (t.ts.map Tm.enc).length), (38, iv j)] [(102, .cell [iv 0, sv es0, iv 0, uv 0, uv 0, .slc 6 [] true]), (103, .cell [iv t.k, sv t.n, iv 0, uv 0, uv 0, .xs 147 none]), (147, .row 6 ((turnL mkVar (t.ts.take j)).map Tm.enc))])) t.ts.length ⟨0, rfl, Nat.zero_le _, .inl ⟨rfl, ⟨rfl, rfl, rfl, rfl, rfl, trivial⟩, ⟨rfl, rfl, trivial⟩⟩⟩ ?_
    rintro m st ⟨j, rfl, hj, h5⟩
    have one : ∀ (u : Tm) (i : Nat) e, [u.cells][i]? = some e → e.length = 6 := fun u i e he => by
      cases i with
      | zero => simp at he; subst he; rfl
      | succ i => simp at he
    rcases h5 with ⟨rfl, hst⟩ | hst
    · obtain ⟨f, H, rfl⟩ := hst.canon
      repeat' ((try conv => whnf); with_reducible first | refine AWP.seq ?_ | refine AWP.region (G_ok _ _ _ _) rfl ?_ | refine AWP.draw (G_ok _ _ _ _) rfl [0, 1, 0, 4, 3, 19, 63, 127] [6, 1, 1] rfl rfl ?_ | refine AWP.draw (G_ok _ _ _ _) rfl [0, 1, 0, 4, 12, 31, 63, 127] [5, 1, 1, 1] rfl rfl ?_ | refine AWP.block ?_ | refine AWP.cond rfl ?_ | refine AWP.ret ?_ | refine AWP.skip ?_ | refine AWP.exit ?_ | refine AWP.label ?_ | refine AWP.goto ?_ | refine Br (fun h => ?_) (fun h => ?_))
      all_goals (try conv => whnf)
      · have hj2 : 0 < t.ts.length := by simpa using h
        have hmem : t.ts[0] ∈ t.ts := List.getElem_mem hj2
        refine ⟨by omega, (t.ts[0]).cells, by simp [hj2, Tm.enc_eq], ?_⟩
        repeat' ((try conv => whnf); with_reducible first | refine AWP.seq ?_ | refine AWP.region (G_ok _ _ _ _) rfl ?_ | refine AWP.draw (G_ok _ _ _ _) rfl [0, 1, 0, 4, 3, 19, 63, 127] [6, 1, 1] rfl rfl ?_ | refine AWP.draw (G_ok _ _ _ _) rfl [0, 1, 0, 4, 12, 31, 63, 127] [5, 1, 1, 1] rfl rfl ?_ | refine AWP.block ?_ | refine AWP.cond rfl ?_ | refine AWP.ret ?_ | refine AWP.skip ?_ | refine AWP.exit ?_ | refine AWP.label ?_ | refine AWP.goto ?_ | refine Br (fun h => ?_) (fun h => ?_))
        refine ⟨_, _, refplain_ok t.ts[0] (ht.arg _ hmem), ?_⟩
        repeat' ((try conv => whnf); with_reducible first | refine AWP.seq ?_ | refine AWP.region (G_ok _ _ _ _) rfl ?_ | refine AWP.draw (G_ok _ _ _ _) rfl [0, 1, 0, 4, 3, 19, 63, 127] [6, 1, 1] rfl rfl ?_ | refine AWP.draw (G_ok _ _ _ _) rfl [0, 1, 0, 4, 12, 31, 63, 127] [5, 1, 1, 1] rfl rfl ?_ | refine AWP.block ?_ | refine AWP.cond rfl ?_ | refine AWP.ret ?_ | refine AWP.skip ?_ | refine AWP.exit ?_ | refine AWP.label ?_ | refine AWP.goto ?_ | refine Br (fun h => ?_) (fun h => ?_))
        all_goals (try conv => whnf)
        refine ⟨⟨one (turnT mkVar t.ts[0]), .inl rfl, Nat.le_of_ble_eq_true rfl⟩, ?_⟩
        repeat' ((try conv => whnf); with_reducible first | refine AWP.seq ?_ | refine AWP.region (G_ok _ _ _ _) rfl ?_ | refine AWP.draw (G_ok _ _ _ _) rfl [0, 1, 0, 4, 3, 19, 63, 127] [6, 1, 1] rfl rfl ?_ | refine AWP.draw (G_ok _ _ _ _) rfl [0, 1, 0, 4, 12, 31, 63, 127] [5, 1, 1, 1] rfl rfl ?_ | refine AWP.block ?_ | refine AWP.cond rfl ?_ | refine AWP.ret ?_ | refine AWP.skip ?_ | refine AWP.exit ?_ | refine AWP.label ?_ | refine AWP.goto ?_ | refine Br (fun h => ?_) (fun h => ?_))
        all_goals (try conv => whnf)
        have hw3 : IntKind.i64.wrap (((0 : Nat) : Int) + 1) = ((0 + 1 : Nat) : Int) := rfl
        have htk : t.ts.take 1 = [t.ts[0]] := by have := List.take_succ_eq_append_getElem hj2; simpa using this
        refine ⟨t.ts.length - (0 + 1), by omega, 0 + 1, rfl, hj2, .inr ⟨⟨rfl, rfl, rfl, rfl, rfl, trivial⟩, ⟨rfl, rfl, by rw [htk]; simp only [turnL, List.map, Tm.enc_eq]; rfl, trivial⟩⟩⟩
      · simp at h
        rw [hspec, h]
        exact finP rfl rfl
    · obtain ⟨f, H, rfl⟩ := hst.canon
      repeat' ((try conv => whnf); with_reducible first | refine AWP.seq ?_ | refine AWP.region (G_ok _ _ _ _) rfl ?_ | refine AWP.draw (G_ok _ _ _ _) rfl [0, 1, 0, 4, 3, 19, 63, 127] [6, 1, 1] rfl rfl ?_ | refine AWP.draw (G_ok _ _ _ _) rfl [0, 1, 0, 4, 12, 31, 63, 127] [5, 1, 1, 1] rfl rfl ?_ | refine AWP.block ?_ | refine AWP.cond rfl ?_ | refine AWP.ret ?_ | refine AWP.skip ?_ | refine AWP.exit ?_ | refine AWP.label ?_ | refine AWP.goto ?_ | refine Br (fun h => ?_) (fun h => ?_))
      all_goals (try conv => whnf)
      · have hj2 : j < t.ts.length := by simpa using h
        have hmem : t.ts[j] ∈ t.ts := List.getElem_mem hj2
        have hlen := ht.len
        refine ⟨by omega, (t.ts[j]).cells, by simp [hj2, Tm.enc_eq], ?_⟩
        repeat' ((try conv => whnf); with_reducible first | refine AWP.seq ?_ | refine AWP.region (G_ok _ _ _ _) rfl ?_ | refine AWP.draw (G_ok _ _ _ _) rfl [0, 1, 0, 4, 3, 19, 63, 127] [6, 1, 1] rfl rfl ?_ | refine AWP.draw (G_ok _ _ _ _) rfl [0, 1, 0, 4, 12, 31, 63, 127] [5, 1, 1, 1] rfl rfl ?_ | refine AWP.block ?_ | refine AWP.cond rfl ?_ | refine AWP.ret ?_ | refine AWP.skip ?_ | refine AWP.exit ?_ | refine AWP.label ?_ | refine AWP.goto ?_ | refine Br (fun h => ?_) (fun h => ?_))
        refine ⟨_, _, refplain_ok t.ts[j] (ht.arg _ hmem), ?_⟩
        repeat' ((try conv => whnf); with_reducible first | refine AWP.seq ?_ | refine AWP.region (G_ok _ _ _ _) rfl ?_ | refine AWP.draw (G_ok _ _ _ _) rfl [0, 1, 0, 4, 3, 19, 63, 127] [6, 1, 1] rfl rfl ?_ | refine AWP.draw (G_ok _ _ _ _) rfl [0, 1, 0, 4, 12, 31, 63, 127] [5, 1, 1, 1] rfl rfl ?_ | refine AWP.block ?_ | refine AWP.cond rfl ?_ | refine AWP.ret ?_ | refine AWP.skip ?_ | refine AWP.exit ?_ | refine AWP.label ?_ | refine AWP.goto ?_ | refine Br (fun h => ?_) (fun h => ?_))
        all_goals (try conv => whnf)
        refine ⟨⟨one (turnT mkVar t.ts[j]), ?_⟩, ?_⟩
        · show ((turnL mkVar (t.ts.take j)).map Tm.enc).length + 1 ≤ 1073741824
          simp [turnL_map]; omega
        repeat' ((try conv => whnf); with_reducible first | refine AWP.seq ?_ | refine AWP.region (G_ok _ _ _ _) rfl ?_ | refine AWP.draw (G_ok _ _ _ _) rfl [0, 1, 0, 4, 3, 19, 63, 127] [6, 1, 1] rfl rfl ?_ | refine AWP.draw (G_ok _ _ _ _) rfl [0, 1, 0, 4, 12, 31, 63, 127] [5, 1, 1, 1] rfl rfl ?_ | refine AWP.block ?_ | refine AWP.cond rfl ?_ | refine AWP.ret ?_ | refine AWP.skip ?_ | refine AWP.exit ?_ | refine AWP.label ?_ | refine AWP.goto ?_ | refine Br (fun h => ?_) (fun h => ?_))
        all_goals (try conv => whnf)
        have hw3 : IntKind.i64.wrap ((j : Int) + 1) = ((j + 1 : Nat) : Int) := i64_of (by omega) (by omega)
        have htk : t.ts.take (j + 1) = t.ts.take j ++ [t.ts[j]] := List.take_succ_eq_append_getElem hj2
        refine ⟨t.ts.length - (j + 1), by omega, j + 1, rfl, hj2, .inr ⟨⟨rfl, rfl, rfl, rfl, by show PV.s (.int .i64 (IntKind.i64.wrap ((j : Int) + 1))) = _; rw [hw3], trivial⟩, ⟨rfl, rfl, ?_, trivial⟩⟩⟩
        show some (Row.row 6 (appE ((turnL mkVar (t.ts.take j)).map Tm.enc) [(turnT mkVar t.ts[j]).cells])) = _
        rw [appE_eq, htk, turnL_map, turnL_map, List.map_append, List.map_append]
        simp only [List.map, Tm.enc_eq]
      · have hj2 : j = t.ts.length := by simp at h; omega
        subst hj2
        rw [hspec]
        refine finP ?_ rfl
        show PV.agg [iv t.k, sv t.n, iv 0, uv 0, uv 0, .slc 6 ((turnL mkVar (t.ts.take t.ts.length)).map Tm.enc) false] = _
        rw [List.take_length]
        rfl
  · rename_i h1 h2 h3 h4
    simp at h h1 h2 h3 h4
    rw [turnT_eq, if_neg h1, if_neg h3, if_neg h2, if_neg h4, if_neg h]
    exact finP rfl rfl
termination_by t
decreasing_by all_goals exact Tm.size_lt hmem

theorem refEqual_ok (a b : Tm) (ha : a.Fit) (hb : b.Fit) (ka : a.k ≠ 0) (kb : b.k ≠ 0) : Snd 34 [a.pv, b.pv] [bv (sameP a b)] := by
  refine sound_pure (Γ := G 59 (fun _ => false) (fun _ => false) (fun _ => false)) (G_ok _ _ _ _) Try.func34 rfl (by decide) rfl rfl rfl ?_
  repeat' ((try conv => whnf); with_reducible first | refine AWP.seq ?_ | refine AWP.region (G_ok _ _ _ _) rfl ?_ | refine AWP.block ?_ | refine AWP.cond rfl ?_ | refine AWP.ret ?_ | refine AWP.skip ?_ | refine AWP.exit ?_ | refine AWP.label ?_ | refine AWP.goto ?_ | (refine Br (fun h => ?_) (fun h => ?_) <;> try (exfalso; simp only [decide_eq_true_eq, decide_eq_false_iff_not, beq_iff_eq, beq_eq_false_iff_ne, bne_iff_ne, bne_eq_false_iff_eq, ne_eq, List.length_map, List.length_append, List.length_cons, List.length_nil] at *; omega)))
  all_goals (try conv => whnf)
  refine ⟨_, _, refSame_ok a b ha hb, ?_⟩
  repeat' ((try conv => whnf); with_reducible first | refine AWP.seq ?_ | refine AWP.region (G_ok _ _ _ _) rfl ?_ | refine AWP.block ?_ | refine AWP.cond rfl ?_ | refine AWP.ret ?_ | refine AWP.skip ?_ | refine AWP.exit ?_ | refine AWP.label ?_ | refine AWP.goto ?_ | (refine Br (fun h => ?_) (fun h => ?_) <;> try (exfalso; simp only [decide_eq_true_eq, decide_eq_false_iff_not, beq_iff_eq, beq_eq_false_iff_ne, bne_iff_ne, bne_eq_false_iff_eq, ne_eq, List.length_map, List.length_append, List.length_cons, List.length_nil] at *; omega)))
  all_goals (try conv => whnf)
  exact finB rfl rfl

theorem refSameTerms_ok (X Y : List Tm) (hl : X.length = Y.length) (hb : X.length ≤ 1000000) (hX : ∀ x ∈ X, x.Fit ∧ x.k ≠ 0) (hY : ∀ y ∈ Y, y.Fit ∧ y.k ≠ 0) (hs : ∀ i, i < X.length → sameP (pick X i) (pick Y i) = true) :
    Snd 28 [tsv X, tsv Y] [bv true] := by
  refine sound_pure (Γ := G 27 (fun _ => false) (fun _ => false) (fun _ => false)) (G_ok _ _ _ _) Try.func28 rfl (by decide) rfl rfl rfl ?_
  repeat' ((try conv => whnf); with_reducible first | refine AWP.seq ?_ | refine AWP.region (G_ok _ _ _ _) rfl ?_ | refine AWP.draw (G_ok _ _ _ _) rfl [0, 0, 3, 7, 0, 0, 48, 112, 255, 511] [8, 1, 1] rfl rfl ?_ | refine AWP.block ?_ | refine AWP.cond rfl ?_ | refine AWP.ret ?_ | refine AWP.skip ?_ | refine AWP.exit ?_ | refine AWP.label ?_ | refine AWP.goto ?_ | (refine Br (fun h => ?_) (fun h => ?_) <;> try (exfalso; simp only [decide_eq_true_eq, decide_eq_false_iff_not, beq_iff_eq, beq_eq_false_iff_ne, bne_iff_ne, bne_eq_false_iff_eq, ne_eq, List.length_map, List.length_append, List.length_cons, List.length_nil] at *; omega)))
  all_goals (try conv => whnf)
  refine AWP.loop (fun m st => ∃ j : Nat, m = X.length - j ∧ j ≤ X.length ∧ Has st [(0, tsv X), (1, tsv Y), (12, iv (X.map Tm.enc).length), (13, iv j)] []) X.length ⟨0, rfl, Nat.zero_le _, ⟨rfl, rfl, rfl, rfl, trivial⟩, trivial⟩ ?_
  rintro m st ⟨j, rfl, hj, hst⟩
  obtain ⟨f, H, rfl⟩ := hst.canon
  repeat' ((try conv => whnf); with_reducible first | refine AWP.seq ?_ | refine AWP.region (G_ok _ _ _ _) rfl ?_ | refine AWP.draw (G_ok _ _ _ _) rfl [0, 0, 3, 7, 0, 0, 48, 112, 255, 511] [8, 1, 1] rfl rfl ?_ | refine AWP.block ?_ | refine AWP.cond rfl ?_ | refine AWP.ret ?_ | refine AWP.skip ?_ | refine AWP.exit ?_ | refine AWP.label ?_ | refine AWP.goto ?_ | refine Br (fun h => ?_) (fun h => ?_))
  all_goals (try conv => whnf)
  · have hj2 : j < X.length := by simpa using h
    have gx : (X.map Tm.enc)[((j : Int)).toNat]? = some (pick X j).cells := by rw [Int.toNat_natCast]; exact en_pick hj2
    have gy : (Y.map Tm.enc)[((j : Int)).toNat]? = some (pick Y j).cells := by rw [Int.toNat_natCast]; exact en_pick (by omega)
    refine ⟨by omega, _, gx, ?_⟩
    repeat' ((try conv => whnf); with_reducible first | refine AWP.seq ?_ | refine AWP.region (G_ok _ _ _ _) rfl ?_ | refine AWP.draw (G_ok _ _ _ _) rfl [0, 0, 3, 7, 0, 0, 48, 112, 255, 511] [8, 1, 1] rfl rfl ?_ | refine AWP.block ?_ | refine AWP.cond rfl ?_ | refine AWP.ret ?_ | refine AWP.skip ?_ | refine AWP.exit ?_ | refine AWP.label ?_ | refine AWP.goto ?_ | refine Br (fun h => ?_) (fun h => ?_))
    all_goals (try conv => whnf)
    refine ⟨by omega, _, gy, ?_⟩
    repeat' ((try conv => whnf); with_reducible first | refine AWP.seq ?_ | refine AWP.region (G_ok _ _ _ _) rfl ?_ | refine AWP.draw (G_ok _ _ _ _) rfl [0, 0, 3, 7, 0, 0, 48, 112, 255, 511] [8, 1, 1] rfl rfl ?_ | refine AWP.block ?_ | refine AWP.cond rfl ?_ | refine AWP.ret ?_ | refine AWP.skip ?_ | refine AWP.exit ?_ | refine AWP.label ?_ | refine AWP.goto ?_ | refine Br (fun h => ?_) (fun h => ?_))
    all_goals (try conv => whnf)
    have h1 := hX _ (pick_mem hj2)
    have h2 := hY _ (pick_mem (show j < Y.length by omega))
    have he := refEqual_ok (pick X j) (pick Y j) h1.1 h2.1 h1.2 h2.2
    rw [hs j hj2] at he
    refine ⟨_, _, he, ?_⟩
    repeat' ((try conv => whnf); with_reducible first | refine AWP.seq ?_ | refine AWP.region (G_ok _ _ _ _) rfl ?_ | refine AWP.draw (G_ok _ _ _ _) rfl [0, 0, 3, 7, 0, 0, 48, 112, 255, 511] [8, 1, 1] rfl rfl ?_ | refine AWP.block ?_ | refine AWP.cond rfl ?_ | refine AWP.ret ?_ | refine AWP.skip ?_ | refine AWP.exit ?_ | refine AWP.label ?_ | refine AWP.goto ?_ | refine Br (fun h => ?_) (fun h => ?_))
    all_goals (try conv => whnf)
    have hw : IntKind.i64.wrap ((j : Int) + 1) = ((j + 1 : Nat) : Int) := i64_of (by omega) (by omega)
    exact ⟨X.length - (j + 1), by omega, j + 1, rfl, hj2, ⟨rfl, rfl, rfl, by show PV.s (.int .i64 (IntKind.i64.wrap ((j : Int) + 1))) = _; rw [hw], trivial⟩, trivial⟩
  · exact finB rfl rfl

theorem pl_k {x : Tm} (h : Pl x) : x.k ≠ 0 := by have := (mayP_kd h.1).k5; omega
theorem sameTerms_eq (X : List Tm) (hb : X.length ≤ 1000000) (hX : ∀ x ∈ X, Pl x) : Snd 28 [tsv X, tsv X] [bv true] :=
  refSameTerms_ok X X rfl hb (fun x hx => ⟨(hX x hx).2.2, pl_k (hX x hx)⟩) (fun x hx => ⟨(hX x hx).2.2, pl_k (hX x hx)⟩) (fun i hi => same_self (hX _ (pick_mem hi)).1)

end Go.Vai

/- OrderSets, walked. No condition. -/
namespace Go.Vai
open Go.Proofs

theorem cutE_drop (es : List (List PV)) (n : Nat) : cutE es n none = es.drop n := by cases n <;> rfl
theorem en_len6 {L : List Tm} {i : Nat} {e : List PV} (h : (enR L)[i]? = some e) : e.length = 6 := by
  rw [List.getElem?_map] at h
  cases hx : L[i]? with
  | none => rw [hx] at h; cases h
  | some x => rw [hx] at h; cases h; rw [Tm.enc_eq]; rfl
theorem en_take (L : List Tm) (n : Nat) : (enR L).take n = enR (L.take n) := by simp [enR]
theorem en_drop (L : List Tm) (n : Nat) : (enR L).drop n = enR (L.drop n) := by simp [enR]

theorem keepP_iff {l : List Tm} {x : Tm} : x ∈ keepP l ↔ ∃ t ∈ l, mayP t = 0 ∧ plainT t = x := by
  unfold keepP
  rw [List.mem_map]
  constructor
  · rintro ⟨t, ht, rfl⟩
    have h1 := List.mem_filter.1 ht
    exact ⟨t, h1.1, by simpa using h1.2, rfl⟩
  · rintro ⟨t, ht, h0, rfl⟩
    exact ⟨t, List.mem_filter.2 ⟨ht, by simp [h0]⟩, rfl⟩
theorem set_sub {l l' : List Tm} (h : ∀ t ∈ l, t ∈ l') : ∀ x ∈ setP l, ∃ y ∈ setP l', compareT x y = 0 := fun x hx => by
  have h1 : x ∈ keepP l := (isort_mem compareT x _).1 (cmpct_mem _ x hx)
  obtain ⟨t, ht, h0, rfl⟩ := keepP_iff.1 h1
  have h2 : plainT t ∈ sortP l' := (isort_mem compareT _ _).2 (keepP_iff.2 ⟨t, h t ht, h0, rfl⟩)
  obtain ⟨y, hy, e⟩ := cmpct_rep ord3_compare h2
  exact ⟨y, hy, by have := compareT_anti y (plainT t); omega⟩
theorem set_same {l l' : List Tm} (hf : ∀ t ∈ l, t.Fit) (hf' : ∀ t ∈ l', t.Fit) (h : ∀ t ∈ l, t ∈ l') (h' : ∀ t ∈ l', t ∈ l) :
    (setP l).length = (setP l').length ∧ ∀ i, i < (setP l).length → sameP (pick (setP l) i) (pick (setP l') i) = true := by
  obtain ⟨h1, h2⟩ := rise_same ord3_compare (setP l) (setP l') (setP_rise l) (setP_rise l') (set_sub h) (fun y hy => by
    obtain ⟨x, hx, e⟩ := set_sub h' y hy
    exact ⟨x, hx, by have := compareT_anti y x; omega⟩)
  refine ⟨h1, fun i hi => same_of (setP_pl hf _ (pick_mem hi)).1 (setP_pl hf' _ (pick_mem (by omega))).1 (h2 i _ _ ?_ ?_)⟩
  · rw [pick_eq hi, List.getElem?_eq_getElem hi]
  · rw [pick_eq (show i < (setP l').length by omega), List.getElem?_eq_getElem (by omega)]
/-- Each that may be is there. -/
theorem set_has {l : List Tm} (hf : ∀ t ∈ l, t.Fit) {t : Tm} (ht : t ∈ l) (h0 : mayP t = 0) : ∃ x ∈ setP l, sameP x t = true := by
  have h2 : plainT t ∈ sortP l := (isort_mem compareT _ _).2 (keepP_iff.2 ⟨t, ht, h0, rfl⟩)
  obtain ⟨y, hy, e⟩ := cmpct_rep ord3_compare h2
  refine ⟨y, hy, same_of (setP_pl hf y hy).1 h0 ?_⟩
  rw [compareT_eq_r (plain_cmp h0) y]; exact e
def anyS (s : List Tm) (t : Tm) : Bool := (mayP t != 0) || s.any (fun x => sameP x t)
theorem anyS_snoc (s : List Tm) (x t : Tm) : anyS (s ++ [x]) t = (anyS s t || sameP x t) := by
  unfold anyS
  rw [List.any_append]
  simp [Bool.or_assoc]
theorem anyS_all {l : List Tm} (hf : ∀ t ∈ l, t.Fit) {t : Tm} (ht : t ∈ l) : anyS (setP l) t = true := by
  unfold anyS
  by_cases h0 : mayP t = 0
  · obtain ⟨x, hx, e⟩ := set_has hf ht h0
    rw [List.any_eq_true.2 ⟨x, hx, e⟩, Bool.or_true]
  · simp [h0]

theorem u64_nonneg (x : Int) : 0 ≤ IntKind.u64.wrap x := by
  unfold IntKind.wrap
  simp only [show IntKind.u64.signed = false from rfl]
  rw [if_neg (by simp)]
  exact Int.emod_nonneg _ (by decide)
theorem semW_pure {s : Sem Value} {v : Value} {k : Value → Prop} (h : s = .pure v) (hk : k v) : semW s k := by rw [h]; exact hk
theorem rem_u64 (t : Nat) (X Y : Operand) (a b : Int) (hb : b ≠ 0) : (do eqGuard .rem t X Y (.int .u64 a) (.int .u64 b); Go.binOp .rem t (.int .u64 a) (.int .u64 b) : Sem Value) = .pure (.int .u64 (a.tmod b)) := by
  have h1 : (Op.intDiv .rem .u64 a b : Sem Value) = .pure (.int .u64 (a.tmod b)) := by
    unfold Op.intDiv
    simp [hb]
    rfl
  show (Op.intDiv .rem .u64 a b : Sem Value) = _
  exact h1

set_option maxHeartbeats 8000000 in
theorem sets_ok (l : List Tm) (turn : Int) : Snd 12 [tsv l, iv turn] [bv true] := by
  refine sound_pure (Γ := G 111 (fun _ => false) (fun _ => false) (fun _ => false)) (G_ok _ _ _ _) Try.func12 rfl (by decide) rfl rfl rfl ?_
  repeat' ((try conv => whnf); with_reducible first | refine AWP.seq ?_ | refine AWP.region (G_ok _ _ _ _) rfl ?_ | refine AWP.draw (G_ok _ _ _ _) rfl [0, 1, 3, 7, 7, 23, 63, 127, 7, 7, 775, 1799, 4095, 8191, 16383] [1, 1, 1, 9, 1, 1, 1] rfl rfl ?_ | refine AWP.draw (G_ok _ _ _ _) rfl [0, 0, 3, 7, 0, 0, 48, 127, 255, 511] [7, 1, 1, 1] rfl rfl ?_ | refine AWP.block ?_ | refine AWP.cond rfl ?_ | refine AWP.ret ?_ | refine AWP.skip ?_ | refine AWP.exit ?_ | refine AWP.label ?_ | refine AWP.goto ?_ | (refine Br (fun h => ?_) (fun h => ?_) <;> try (exfalso; simp only [decide_eq_true_eq, decide_eq_false_iff_not, beq_iff_eq, beq_eq_false_iff_ne, bne_iff_ne, bne_eq_false_iff_eq, ne_eq, List.length_map, List.length_append, List.length_cons, List.length_nil] at *; omega)))
  all_goals (try conv => whnf)
  · refine ⟨_, _, awake9_ok, ?_⟩
    repeat' ((try conv => whnf); with_reducible first | refine AWP.seq ?_ | refine AWP.region (G_ok _ _ _ _) rfl ?_ | refine AWP.draw (G_ok _ _ _ _) rfl [0, 1, 3, 7, 7, 23, 63, 127, 7, 7, 775, 1799, 4095, 8191, 16383] [1, 1, 1, 9, 1, 1, 1] rfl rfl ?_ | refine AWP.draw (G_ok _ _ _ _) rfl [0, 0, 3, 7, 0, 0, 48, 127, 255, 511] [7, 1, 1, 1] rfl rfl ?_ | refine AWP.block ?_ | refine AWP.cond rfl ?_ | refine AWP.ret ?_ | refine AWP.skip ?_ | refine AWP.exit ?_ | refine AWP.label ?_ | refine AWP.goto ?_ | (refine Br (fun h => ?_) (fun h => ?_) <;> try (exfalso; simp only [decide_eq_true_eq, decide_eq_false_iff_not, beq_iff_eq, beq_eq_false_iff_ne, bne_iff_ne, bne_eq_false_iff_eq, ne_eq, List.length_map, List.length_append, List.length_cons, List.length_nil] at *; omega)))
    all_goals (try conv => whnf)
    exact finB rfl rfl
  · refine ⟨_, _, awake9_ok, ?_⟩
    repeat' ((try conv => whnf); with_reducible first | refine AWP.seq ?_ | refine AWP.region (G_ok _ _ _ _) rfl ?_ | refine AWP.draw (G_ok _ _ _ _) rfl [0, 1, 3, 7, 7, 23, 63, 127, 7, 7, 775, 1799, 4095, 8191, 16383] [1, 1, 1, 9, 1, 1, 1] rfl rfl ?_ | refine AWP.draw (G_ok _ _ _ _) rfl [0, 0, 3, 7, 0, 0, 48, 127, 255, 511] [7, 1, 1, 1] rfl rfl ?_ | refine AWP.block ?_ | refine AWP.cond rfl ?_ | refine AWP.ret ?_ | refine AWP.skip ?_ | refine AWP.exit ?_ | refine AWP.label ?_ | refine AWP.goto ?_ | (refine Br (fun h => ?_) (fun h => ?_) <;> try (exfalso; simp only [decide_eq_true_eq, decide_eq_false_iff_not, beq_iff_eq, beq_eq_false_iff_ne, bne_iff_ne, bne_eq_false_iff_eq, ne_eq, List.length_map, List.length_append, List.length_cons, List.length_nil] at *; omega)))
    all_goals (try conv => whnf)
    exact finB rfl rfl
  have h30 : l.length ≤ 30 ∧ l.length ≠ 0 := by
    rename_i h0
    simp at h h0
    exact ⟨by omega, fun e => by rw [List.length_eq_zero_iff] at e; exact h e⟩
  clear h
  refine ⟨_, _, refLight_ok l (by omega), ?_⟩
  repeat' ((try conv => whnf); with_reducible first | refine AWP.seq ?_ | refine AWP.region (G_ok _ _ _ _) rfl ?_ | refine AWP.draw (G_ok _ _ _ _) rfl [0, 1, 3, 7, 7, 23, 63, 127, 7, 7, 775, 1799, 4095, 8191, 16383] [1, 1, 1, 9, 1, 1, 1] rfl rfl ?_ | refine AWP.draw (G_ok _ _ _ _) rfl [0, 0, 3, 7, 0, 0, 48, 127, 255, 511] [7, 1, 1, 1] rfl rfl ?_ | refine AWP.block ?_ | refine AWP.cond rfl ?_ | refine AWP.ret ?_ | refine AWP.skip ?_ | refine AWP.exit ?_ | refine AWP.label ?_ | refine AWP.goto ?_ | (refine Br (fun h => ?_) (fun h => ?_) <;> try (exfalso; simp only [decide_eq_true_eq, decide_eq_false_iff_not, beq_iff_eq, beq_eq_false_iff_ne, bne_iff_ne, bne_eq_false_iff_eq, ne_eq, List.length_map, List.length_append, List.length_cons, List.length_nil] at *; omega)))
  all_goals (try conv => whnf)
  · refine ⟨_, _, awake9_ok, ?_⟩
    repeat' ((try conv => whnf); with_reducible first | refine AWP.seq ?_ | refine AWP.region (G_ok _ _ _ _) rfl ?_ | refine AWP.draw (G_ok _ _ _ _) rfl [0, 1, 3, 7, 7, 23, 63, 127, 7, 7, 775, 1799, 4095, 8191, 16383] [1, 1, 1, 9, 1, 1, 1] rfl rfl ?_ | refine AWP.draw (G_ok _ _ _ _) rfl [0, 0, 3, 7, 0, 0, 48, 127, 255, 511] [7, 1, 1, 1] rfl rfl ?_ | refine AWP.block ?_ | refine AWP.cond rfl ?_ | refine AWP.ret ?_ | refine AWP.skip ?_ | refine AWP.exit ?_ | refine AWP.label ?_ | refine AWP.goto ?_ | (refine Br (fun h => ?_) (fun h => ?_) <;> try (exfalso; simp only [decide_eq_true_eq, decide_eq_false_iff_not, beq_iff_eq, beq_eq_false_iff_ne, bne_iff_ne, bne_eq_false_iff_eq, ne_eq, List.length_map, List.length_append, List.length_cons, List.length_nil] at *; omega)))
    all_goals (try conv => whnf)
    exact finB rfl rfl
  simp at h
  have hf := lightF_fit _ _ _ h
  clear h
  obtain ⟨h30, hne⟩ := h30
  have ul : IntKind.u64.wrap ((l.map Tm.enc).length : Int) = (l.length : Int) := by
    rw [List.length_map]
    exact IntWalk.u64_in _ ⟨by omega, by omega⟩
  obtain ⟨q, hq, hqe⟩ : ∃ q : Nat, q < l.length ∧ IntKind.i64.wrap ((IntKind.u64.wrap turn).tmod (IntKind.u64.wrap ((l.map Tm.enc).length : Int))) = (q : Int) := by
    rw [ul]
    have h0 : 0 ≤ IntKind.u64.wrap turn := u64_nonneg turn
    have h1 := Int.tmod_nonneg (l.length : Int) h0
    have h2 := Int.tmod_lt_of_pos (IntKind.u64.wrap turn) (show (0 : Int) < (l.length : Int) by omega)
    refine ⟨((IntKind.u64.wrap turn).tmod (l.length : Int)).toNat, by omega, ?_⟩
    exact (i64_of (by omega) (by omega)).trans (by omega)
  refine semW_pure (rem_u64 _ _ _ _ _ (by rw [ul]; omega)) ?_
  repeat' ((try conv => whnf); with_reducible first | refine AWP.seq ?_ | refine AWP.region (G_ok _ _ _ _) rfl ?_ | refine AWP.draw (G_ok _ _ _ _) rfl [0, 1, 3, 7, 7, 23, 63, 127, 7, 7, 775, 1799, 4095, 8191, 16383] [1, 1, 1, 9, 1, 1, 1] rfl rfl ?_ | refine AWP.draw (G_ok _ _ _ _) rfl [0, 0, 3, 7, 0, 0, 48, 127, 255, 511] [7, 1, 1, 1] rfl rfl ?_ | refine AWP.block ?_ | refine AWP.cond rfl ?_ | refine AWP.ret ?_ | refine AWP.skip ?_ | refine AWP.exit ?_ | refine AWP.label ?_ | refine AWP.goto ?_ | (refine Br (fun h => ?_) (fun h => ?_) <;> try (exfalso; simp only [decide_eq_true_eq, decide_eq_false_iff_not, beq_iff_eq, beq_eq_false_iff_ne, bne_iff_ne, bne_eq_false_iff_eq, ne_eq, List.length_map, List.length_append, List.length_cons, List.length_nil] at *; omega)))
  all_goals (try conv => whnf)
  refine ⟨_, _, oset_ok l (by omega) hf, ?_⟩
  repeat' ((try conv => whnf); with_reducible first | refine AWP.seq ?_ | refine AWP.region (G_ok _ _ _ _) rfl ?_ | refine AWP.draw (G_ok _ _ _ _) rfl [0, 1, 3, 7, 7, 23, 63, 127, 7, 7, 775, 1799, 4095, 8191, 16383] [1, 1, 1, 9, 1, 1, 1] rfl rfl ?_ | refine AWP.draw (G_ok _ _ _ _) rfl [0, 0, 3, 7, 0, 0, 48, 127, 255, 511] [7, 1, 1, 1] rfl rfl ?_ | refine AWP.block ?_ | refine AWP.cond rfl ?_ | refine AWP.ret ?_ | refine AWP.skip ?_ | refine AWP.exit ?_ | refine AWP.label ?_ | refine AWP.goto ?_ | (refine Br (fun h => ?_) (fun h => ?_) <;> try (exfalso; simp only [decide_eq_true_eq, decide_eq_false_iff_not, beq_iff_eq, beq_eq_false_iff_ne, bne_iff_ne, bne_eq_false_iff_eq, ne_eq, List.length_map, List.length_append, List.length_cons, List.length_nil] at *; omega)))
  all_goals (try conv => whnf)
  have hSl : (setP l).length ≤ l.length := by have := setP_length l; have := sortP_length l; have := keepP_length l; omega
  have hSp := setP_pl hf
  refine AWP.loop (fun m st => ∃ j : Nat, m = (setP l).length - j ∧ j ≤ (setP l).length ∧ Has st [(0, tsv l), (1, iv q), (5, tsv (setP l)), (37, iv ((setP l).map Tm.enc).length), (38, iv j)] []) (setP l).length ⟨0, rfl, Nat.zero_le _, ⟨rfl, ?_, rfl, rfl, rfl, trivial⟩, trivial⟩ ?_
  · show PV.s (.int .i64 (IntKind.i64.wrap ((IntKind.u64.wrap turn).tmod (IntKind.u64.wrap ((l.map Tm.enc).length : Int))))) = _
    rw [hqe]
  clear hqe
  rintro m st ⟨j, rfl, hj, hst⟩
  obtain ⟨f, H, rfl⟩ := hst.canon
  repeat' ((try conv => whnf); with_reducible first | refine AWP.seq ?_ | refine AWP.region (G_ok _ _ _ _) rfl ?_ | refine AWP.draw (G_ok _ _ _ _) rfl [0, 1, 3, 7, 7, 23, 63, 127, 7, 7, 775, 1799, 4095, 8191, 16383] [1, 1, 1, 9, 1, 1, 1] rfl rfl ?_ | refine AWP.draw (G_ok _ _ _ _) rfl [0, 0, 3, 7, 0, 0, 48, 127, 255, 511] [7, 1, 1, 1] rfl rfl ?_ | refine AWP.block ?_ | refine AWP.cond rfl ?_ | refine AWP.ret ?_ | refine AWP.skip ?_ | refine AWP.exit ?_ | refine AWP.label ?_ | refine AWP.goto ?_ | (refine Br (fun h => ?_) (fun h => ?_) <;> try (exfalso; simp only [decide_eq_true_eq, decide_eq_false_iff_not, beq_iff_eq, beq_eq_false_iff_ne, bne_iff_ne, bne_eq_false_iff_eq, ne_eq, List.length_map, List.length_append, List.length_cons, List.length_nil] at *; omega)))
  all_goals (try conv => whnf)
  · rename_i h2
    simp at h h2
    have hw1 : IntKind.i64.wrap ((j : Int) - 1) = ((j - 1 : Nat) : Int) := w_sub1 h (by omega)
    have g0 : ((setP l).map Tm.enc)[(IntKind.i64.wrap ((j : Int) - 1)).toNat]? = some (pick (setP l) (j - 1)).cells := by rw [hw1, Int.toNat_natCast]; exact en_pick (by omega)
    have g1 : ((setP l).map Tm.enc)[((j : Int)).toNat]? = some (pick (setP l) j).cells := by rw [Int.toNat_natCast]; exact en_pick h2
    have p0 := hSp _ (pick_mem (show j - 1 < (setP l).length by omega))
    have p1 := hSp _ (pick_mem h2)
    have hc := ocompare_ok (pick (setP l) (j - 1)) (pick (setP l) j) p0.2.2 p1.2.2
    rw [compareP, if_neg (by simp [p0.1, p1.1])] at hc
    have hle : compareT (pick (setP l) (j - 1)) (pick (setP l) j) < 0 := by
      rw [pick_eq h2, pick_eq (show j - 1 < (setP l).length by omega)]
      exact List.pairwise_iff_getElem.1 (setP_rise l) (j - 1) j (by omega) h2 (by omega)
    generalize compareT (pick (setP l) (j - 1)) (pick (setP l) j) = z at hc hle
    refine ⟨by rw [hw1]; omega, _, g0, ?_⟩
    repeat' ((try conv => whnf); with_reducible first | refine AWP.seq ?_ | refine AWP.region (G_ok _ _ _ _) rfl ?_ | refine AWP.draw (G_ok _ _ _ _) rfl [0, 1, 3, 7, 7, 23, 63, 127, 7, 7, 775, 1799, 4095, 8191, 16383] [1, 1, 1, 9, 1, 1, 1] rfl rfl ?_ | refine AWP.draw (G_ok _ _ _ _) rfl [0, 0, 3, 7, 0, 0, 48, 127, 255, 511] [7, 1, 1, 1] rfl rfl ?_ | refine AWP.block ?_ | refine AWP.cond rfl ?_ | refine AWP.ret ?_ | refine AWP.skip ?_ | refine AWP.exit ?_ | refine AWP.label ?_ | refine AWP.goto ?_ | (refine Br (fun h => ?_) (fun h => ?_) <;> try (exfalso; simp only [decide_eq_true_eq, decide_eq_false_iff_not, beq_iff_eq, beq_eq_false_iff_ne, bne_iff_ne, bne_eq_false_iff_eq, ne_eq, List.length_map, List.length_append, List.length_cons, List.length_nil] at *; omega)))
    all_goals (try conv => whnf)
    refine ⟨by omega, _, g1, ?_⟩
    repeat' ((try conv => whnf); with_reducible first | refine AWP.seq ?_ | refine AWP.region (G_ok _ _ _ _) rfl ?_ | refine AWP.draw (G_ok _ _ _ _) rfl [0, 1, 3, 7, 7, 23, 63, 127, 7, 7, 775, 1799, 4095, 8191, 16383] [1, 1, 1, 9, 1, 1, 1] rfl rfl ?_ | refine AWP.draw (G_ok _ _ _ _) rfl [0, 0, 3, 7, 0, 0, 48, 127, 255, 511] [7, 1, 1, 1] rfl rfl ?_ | refine AWP.block ?_ | refine AWP.cond rfl ?_ | refine AWP.ret ?_ | refine AWP.skip ?_ | refine AWP.exit ?_ | refine AWP.label ?_ | refine AWP.goto ?_ | (refine Br (fun h => ?_) (fun h => ?_) <;> try (exfalso; simp only [decide_eq_true_eq, decide_eq_false_iff_not, beq_iff_eq, beq_eq_false_iff_ne, bne_iff_ne, bne_eq_false_iff_eq, ne_eq, List.length_map, List.length_append, List.length_cons, List.length_nil] at *; omega)))
    all_goals (try conv => whnf)
    refine ⟨_, _, hc, ?_⟩
    repeat' ((try conv => whnf); with_reducible first | refine AWP.seq ?_ | refine AWP.region (G_ok _ _ _ _) rfl ?_ | refine AWP.draw (G_ok _ _ _ _) rfl [0, 1, 3, 7, 7, 23, 63, 127, 7, 7, 775, 1799, 4095, 8191, 16383] [1, 1, 1, 9, 1, 1, 1] rfl rfl ?_ | refine AWP.draw (G_ok _ _ _ _) rfl [0, 0, 3, 7, 0, 0, 48, 127, 255, 511] [7, 1, 1, 1] rfl rfl ?_ | refine AWP.block ?_ | refine AWP.cond rfl ?_ | refine AWP.ret ?_ | refine AWP.skip ?_ | refine AWP.exit ?_ | refine AWP.label ?_ | refine AWP.goto ?_ | (refine Br (fun h => ?_) (fun h => ?_) <;> try (exfalso; simp only [decide_eq_true_eq, decide_eq_false_iff_not, beq_iff_eq, beq_eq_false_iff_ne, bne_iff_ne, bne_eq_false_iff_eq, ne_eq, List.length_map, List.length_append, List.length_cons, List.length_nil] at *; omega)))
    all_goals (try conv => whnf)
    refine ⟨(setP l).length - (j + 1), by omega, j + 1, rfl, h2, ⟨rfl, rfl, rfl, rfl, ?_, trivial⟩, trivial⟩
    show PV.s (.int .i64 (IntKind.i64.wrap ((j : Int) + 1))) = _
    rw [w_add1 (by omega)]
  · rename_i h2
    simp at h h2
    refine ⟨(setP l).length - (j + 1), by omega, j + 1, rfl, h2, ⟨rfl, rfl, rfl, rfl, ?_, trivial⟩, trivial⟩
    show PV.s (.int .i64 (IntKind.i64.wrap ((j : Int) + 1))) = _
    rw [w_add1 (by omega)]
  clear h hst
  refine AWP.loop (fun m st => ∃ j : Nat, m = l.length - j ∧ j ≤ l.length ∧ Has st [(0, tsv l), (1, iv q), (5, tsv (setP l)), (57, tsv l), (58, iv (l.map Tm.enc).length), (59, iv j)] []) l.length ⟨0, rfl, Nat.zero_le _, ⟨rfl, rfl, rfl, rfl, rfl, rfl, trivial⟩, trivial⟩ ?_
  clear hj f H j
  rintro m st ⟨j, rfl, hj, hst⟩
  obtain ⟨f, H, rfl⟩ := hst.canon
  repeat' ((try conv => whnf); with_reducible first | refine AWP.seq ?_ | refine AWP.region (G_ok _ _ _ _) rfl ?_ | refine AWP.draw (G_ok _ _ _ _) rfl [0, 1, 3, 7, 7, 23, 63, 127, 7, 7, 775, 1799, 4095, 8191, 16383] [1, 1, 1, 9, 1, 1, 1] rfl rfl ?_ | refine AWP.draw (G_ok _ _ _ _) rfl [0, 0, 3, 7, 0, 0, 48, 127, 255, 511] [7, 1, 1, 1] rfl rfl ?_ | refine AWP.block ?_ | refine AWP.cond rfl ?_ | refine AWP.ret ?_ | refine AWP.skip ?_ | refine AWP.exit ?_ | refine AWP.label ?_ | refine AWP.goto ?_ | (refine Br (fun h => ?_) (fun h => ?_) <;> try (exfalso; simp only [decide_eq_true_eq, decide_eq_false_iff_not, beq_iff_eq, beq_eq_false_iff_ne, bne_iff_ne, bne_eq_false_iff_eq, ne_eq, List.length_map, List.length_append, List.length_cons, List.length_nil] at *; omega)))
  all_goals (try conv => whnf)
  · have hj2 : j < l.length := by simpa using h
    have hmem : l[j] ∈ l := List.getElem_mem hj2
    refine ⟨by omega, (l[j]).cells, by simp [hj2, Tm.enc_eq], ?_⟩
    repeat' ((try conv => whnf); with_reducible first | refine AWP.seq ?_ | refine AWP.region (G_ok _ _ _ _) rfl ?_ | refine AWP.draw (G_ok _ _ _ _) rfl [0, 1, 3, 7, 7, 23, 63, 127, 7, 7, 775, 1799, 4095, 8191, 16383] [1, 1, 1, 9, 1, 1, 1] rfl rfl ?_ | refine AWP.draw (G_ok _ _ _ _) rfl [0, 0, 3, 7, 0, 0, 48, 127, 255, 511] [7, 1, 1, 1] rfl rfl ?_ | refine AWP.block ?_ | refine AWP.cond rfl ?_ | refine AWP.ret ?_ | refine AWP.skip ?_ | refine AWP.exit ?_ | refine AWP.label ?_ | refine AWP.goto ?_ | (refine Br (fun h => ?_) (fun h => ?_) <;> try (exfalso; simp only [decide_eq_true_eq, decide_eq_false_iff_not, beq_iff_eq, beq_eq_false_iff_ne, bne_iff_ne, bne_eq_false_iff_eq, ne_eq, List.length_map, List.length_append, List.length_cons, List.length_nil] at *; omega)))
    all_goals (try conv => whnf)
    have htf := hf _ hmem
    have hall := anyS_all hf hmem
    generalize l[j] = t at hmem htf hall
    have rt := refMay_ok t htf
    rw [mayP_ref] at rt
    refine ⟨_, _, rt, ?_⟩
    repeat' ((try conv => whnf); with_reducible first | refine AWP.seq ?_ | refine AWP.region (G_ok _ _ _ _) rfl ?_ | refine AWP.draw (G_ok _ _ _ _) rfl [0, 1, 3, 7, 7, 23, 63, 127, 7, 7, 775, 1799, 4095, 8191, 16383] [1, 1, 1, 9, 1, 1, 1] rfl rfl ?_ | refine AWP.draw (G_ok _ _ _ _) rfl [0, 0, 3, 7, 0, 0, 48, 127, 255, 511] [7, 1, 1, 1] rfl rfl ?_ | refine AWP.block ?_ | refine AWP.cond rfl ?_ | refine AWP.ret ?_ | refine AWP.skip ?_ | refine AWP.exit ?_ | refine AWP.label ?_ | refine AWP.goto ?_ | (refine Br (fun h => ?_) (fun h => ?_) <;> try (exfalso; simp only [decide_eq_true_eq, decide_eq_false_iff_not, beq_iff_eq, beq_eq_false_iff_ne, bne_iff_ne, bne_eq_false_iff_eq, ne_eq, List.length_map, List.length_append, List.length_cons, List.length_nil] at *; omega)))
    all_goals (try conv => whnf)
    refine AWP.loop (fun m st => ∃ k : Nat, m = (setP l).length - k ∧ k ≤ (setP l).length ∧ Has st [(0, tsv l), (1, iv q), (5, tsv (setP l)), (8, .ptr 108 0 0), (9, bv (anyS ((setP l).take k) t)), (57, tsv l), (58, iv (l.map Tm.enc).length), (59, iv j), (66, tsv (setP l)), (67, iv ((setP l).map Tm.enc).length), (68, iv k)] [(108, .cell t.cells)]) (setP l).length ⟨0, rfl, Nat.zero_le _, ⟨rfl, rfl, rfl, rfl, ?_, rfl, rfl, rfl, rfl, rfl, rfl, trivial⟩, ⟨rfl, trivial⟩⟩ ?_
    · show bv (mayP t != 0) = _
      simp [anyS]
    clear hst
    rintro m st ⟨k, rfl, hk, hst⟩
    obtain ⟨f, H, rfl⟩ := hst.canon
    repeat' ((try conv => whnf); with_reducible first | refine AWP.seq ?_ | refine AWP.region (G_ok _ _ _ _) rfl ?_ | refine AWP.draw (G_ok _ _ _ _) rfl [0, 1, 3, 7, 7, 23, 63, 127, 7, 7, 775, 1799, 4095, 8191, 16383] [1, 1, 1, 9, 1, 1, 1] rfl rfl ?_ | refine AWP.draw (G_ok _ _ _ _) rfl [0, 0, 3, 7, 0, 0, 48, 127, 255, 511] [7, 1, 1, 1] rfl rfl ?_ | refine AWP.block ?_ | refine AWP.cond rfl ?_ | refine AWP.ret ?_ | refine AWP.skip ?_ | refine AWP.exit ?_ | refine AWP.label ?_ | refine AWP.goto ?_ | (refine Br (fun h => ?_) (fun h => ?_) <;> try (exfalso; simp only [decide_eq_true_eq, decide_eq_false_iff_not, beq_iff_eq, beq_eq_false_iff_ne, bne_iff_ne, bne_eq_false_iff_eq, ne_eq, List.length_map, List.length_append, List.length_cons, List.length_nil] at *; omega)))
    all_goals (try conv => whnf)
    · have hk2 : k < (setP l).length := by simpa using h
      have g1 : ((setP l).map Tm.enc)[((k : Int)).toNat]? = some (pick (setP l) k).cells := by rw [Int.toNat_natCast]; exact en_pick hk2
      have htk : (setP l).take (k + 1) = (setP l).take k ++ [pick (setP l) k] := by rw [List.take_succ_eq_append_getElem hk2, pick_eq hk2]
      refine ⟨by omega, _, g1, ?_⟩
      repeat' ((try conv => whnf); with_reducible first | refine AWP.seq ?_ | refine AWP.region (G_ok _ _ _ _) rfl ?_ | refine AWP.draw (G_ok _ _ _ _) rfl [0, 1, 3, 7, 7, 23, 63, 127, 7, 7, 775, 1799, 4095, 8191, 16383] [1, 1, 1, 9, 1, 1, 1] rfl rfl ?_ | refine AWP.draw (G_ok _ _ _ _) rfl [0, 0, 3, 7, 0, 0, 48, 127, 255, 511] [7, 1, 1, 1] rfl rfl ?_ | refine AWP.block ?_ | refine AWP.cond rfl ?_ | refine AWP.ret ?_ | refine AWP.skip ?_ | refine AWP.exit ?_ | refine AWP.label ?_ | refine AWP.goto ?_ | (refine Br (fun h => ?_) (fun h => ?_) <;> try (exfalso; simp only [decide_eq_true_eq, decide_eq_false_iff_not, beq_iff_eq, beq_eq_false_iff_ne, bne_iff_ne, bne_eq_false_iff_eq, ne_eq, List.length_map, List.length_append, List.length_cons, List.length_nil] at *; omega)))
      all_goals (try conv => whnf)
      · rename_i h5
        refine ⟨(setP l).length - (k + 1), by omega, k + 1, rfl, hk2, ⟨rfl, rfl, rfl, rfl, ?_, rfl, rfl, rfl, rfl, rfl, ?_, trivial⟩, ⟨rfl, trivial⟩⟩
        · show bv true = _
          rw [htk, anyS_snoc, h]; rfl
        · show PV.s (.int .i64 (IntKind.i64.wrap ((k : Int) + 1))) = _
          rw [w_add1 (by omega)]
      · rename_i h5
        refine ⟨_, _, refSame_ok (pick (setP l) k) t (hSp _ (pick_mem hk2)).2.2 htf, ?_⟩
        repeat' ((try conv => whnf); with_reducible first | refine AWP.seq ?_ | refine AWP.region (G_ok _ _ _ _) rfl ?_ | refine AWP.draw (G_ok _ _ _ _) rfl [0, 1, 3, 7, 7, 23, 63, 127, 7, 7, 775, 1799, 4095, 8191, 16383] [1, 1, 1, 9, 1, 1, 1] rfl rfl ?_ | refine AWP.draw (G_ok _ _ _ _) rfl [0, 0, 3, 7, 0, 0, 48, 127, 255, 511] [7, 1, 1, 1] rfl rfl ?_ | refine AWP.block ?_ | refine AWP.cond rfl ?_ | refine AWP.ret ?_ | refine AWP.skip ?_ | refine AWP.exit ?_ | refine AWP.label ?_ | refine AWP.goto ?_ | (refine Br (fun h => ?_) (fun h => ?_) <;> try (exfalso; simp only [decide_eq_true_eq, decide_eq_false_iff_not, beq_iff_eq, beq_eq_false_iff_ne, bne_iff_ne, bne_eq_false_iff_eq, ne_eq, List.length_map, List.length_append, List.length_cons, List.length_nil] at *; omega)))
        all_goals (try conv => whnf)
        refine ⟨(setP l).length - (k + 1), by omega, k + 1, rfl, hk2, ⟨rfl, rfl, rfl, rfl, ?_, rfl, rfl, rfl, rfl, rfl, ?_, trivial⟩, ⟨rfl, trivial⟩⟩
        · show bv (sameP (pick (setP l) k) t) = _
          rw [htk, anyS_snoc, h]; rfl
        · show PV.s (.int .i64 (IntKind.i64.wrap ((k : Int) + 1))) = _
          rw [w_add1 (by omega)]
    · exfalso
      rename_i h5
      have hk2 : k = (setP l).length := by simp at h5; omega
      rw [hk2, List.take_length, hall] at h
      cases h
    · rename_i h5
      refine ⟨l.length - (j + 1), by omega, j + 1, rfl, hj2, ⟨rfl, rfl, rfl, rfl, rfl, ?_, trivial⟩, trivial⟩
      show PV.s (.int .i64 (IntKind.i64.wrap ((j : Int) + 1))) = _
      rw [w_add1 (by omega)]
  clear h
  have bq : (0 : Int) ≤ (q : Int) ∧ (q : Int) ≤ ((l.map Tm.enc).length : Int) := by rw [List.length_map]; omega
  have hT : ∀ (i : Nat) e, (List.take ((q : Int)).toNat (l.map Tm.enc))[i]? = some e → e.length = 6 := fun i e he => by
    have he : (List.take ((q : Int)).toNat (enR l))[i]? = some e := he
    rw [en_take] at he; exact en_len6 he
  have hD : ∀ (i : Nat) e, (cutE (l.map Tm.enc) ((q : Int)).toNat none)[i]? = some e → e.length = 6 := fun i e he => by
    have he : (cutE (enR l) ((q : Int)).toNat none)[i]? = some e := he
    rw [cutE_drop, en_drop] at he; exact en_len6 he
  have lT : (List.take ((q : Int)).toNat (l.map Tm.enc)).length ≤ 30 := by rw [List.length_take, List.length_map]; omega
  have lD : (cutE (l.map Tm.enc) ((q : Int)).toNat none).length ≤ 30 := by rw [cutE_drop, List.length_drop, List.length_map]; omega
  refine ⟨bq, ?_⟩
  repeat' ((try conv => whnf); with_reducible first | refine AWP.seq ?_ | refine AWP.region (G_ok _ _ _ _) rfl ?_ | refine AWP.draw (G_ok _ _ _ _) rfl [0, 1, 3, 7, 7, 23, 63, 127, 7, 7, 775, 1799, 4095, 8191, 16383] [1, 1, 1, 9, 1, 1, 1] rfl rfl ?_ | refine AWP.draw (G_ok _ _ _ _) rfl [0, 0, 3, 7, 0, 0, 48, 127, 255, 511] [7, 1, 1, 1] rfl rfl ?_ | refine AWP.block ?_ | refine AWP.cond rfl ?_ | refine AWP.ret ?_ | refine AWP.skip ?_ | refine AWP.exit ?_ | refine AWP.label ?_ | refine AWP.goto ?_ | (refine Br (fun h => ?_) (fun h => ?_) <;> try (exfalso; simp only [decide_eq_true_eq, decide_eq_false_iff_not, beq_iff_eq, beq_eq_false_iff_ne, bne_iff_ne, bne_eq_false_iff_eq, ne_eq, List.length_map, List.length_append, List.length_cons, List.length_nil] at *; omega)))
  all_goals (try conv => whnf)
  refine ⟨⟨hD, .inl rfl, by show 0 + (cutE (l.map Tm.enc) ((q : Int)).toNat none).length ≤ 1073741824; omega⟩, ?_⟩
  repeat' ((try conv => whnf); with_reducible first | refine AWP.seq ?_ | refine AWP.region (G_ok _ _ _ _) rfl ?_ | refine AWP.draw (G_ok _ _ _ _) rfl [0, 1, 3, 7, 7, 23, 63, 127, 7, 7, 775, 1799, 4095, 8191, 16383] [1, 1, 1, 9, 1, 1, 1] rfl rfl ?_ | refine AWP.draw (G_ok _ _ _ _) rfl [0, 0, 3, 7, 0, 0, 48, 127, 255, 511] [7, 1, 1, 1] rfl rfl ?_ | refine AWP.block ?_ | refine AWP.cond rfl ?_ | refine AWP.ret ?_ | refine AWP.skip ?_ | refine AWP.exit ?_ | refine AWP.label ?_ | refine AWP.goto ?_ | (refine Br (fun h => ?_) (fun h => ?_) <;> try (exfalso; simp only [decide_eq_true_eq, decide_eq_false_iff_not, beq_iff_eq, beq_eq_false_iff_ne, bne_iff_ne, bne_eq_false_iff_eq, ne_eq, List.length_map, List.length_append, List.length_cons, List.length_nil] at *; omega)))
  all_goals (try conv => whnf)
  refine ⟨bq, ?_⟩
  repeat' ((try conv => whnf); with_reducible first | refine AWP.seq ?_ | refine AWP.region (G_ok _ _ _ _) rfl ?_ | refine AWP.draw (G_ok _ _ _ _) rfl [0, 1, 3, 7, 7, 23, 63, 127, 7, 7, 775, 1799, 4095, 8191, 16383] [1, 1, 1, 9, 1, 1, 1] rfl rfl ?_ | refine AWP.draw (G_ok _ _ _ _) rfl [0, 0, 3, 7, 0, 0, 48, 127, 255, 511] [7, 1, 1, 1] rfl rfl ?_ | refine AWP.block ?_ | refine AWP.cond rfl ?_ | refine AWP.ret ?_ | refine AWP.skip ?_ | refine AWP.exit ?_ | refine AWP.label ?_ | refine AWP.goto ?_ | (refine Br (fun h => ?_) (fun h => ?_) <;> try (exfalso; simp only [decide_eq_true_eq, decide_eq_false_iff_not, beq_iff_eq, beq_eq_false_iff_ne, bne_iff_ne, bne_eq_false_iff_eq, ne_eq, List.length_map, List.length_append, List.length_cons, List.length_nil] at *; omega)))
  all_goals (try conv => whnf)
  refine ⟨⟨hT, by show (cutE (l.map Tm.enc) ((q : Int)).toNat none).length + (List.take ((q : Int)).toNat (l.map Tm.enc)).length ≤ 1073741824; omega⟩, ?_⟩
  repeat' ((try conv => whnf); with_reducible first | refine AWP.seq ?_ | refine AWP.region (G_ok _ _ _ _) rfl ?_ | refine AWP.draw (G_ok _ _ _ _) rfl [0, 1, 3, 7, 7, 23, 63, 127, 7, 7, 775, 1799, 4095, 8191, 16383] [1, 1, 1, 9, 1, 1, 1] rfl rfl ?_ | refine AWP.draw (G_ok _ _ _ _) rfl [0, 0, 3, 7, 0, 0, 48, 127, 255, 511] [7, 1, 1, 1] rfl rfl ?_ | refine AWP.block ?_ | refine AWP.cond rfl ?_ | refine AWP.ret ?_ | refine AWP.skip ?_ | refine AWP.exit ?_ | refine AWP.label ?_ | refine AWP.goto ?_ | (refine Br (fun h => ?_) (fun h => ?_) <;> try (exfalso; simp only [decide_eq_true_eq, decide_eq_false_iff_not, beq_iff_eq, beq_eq_false_iff_ne, bne_iff_ne, bne_eq_false_iff_eq, ne_eq, List.length_map, List.length_append, List.length_cons, List.length_nil] at *; omega)))
  all_goals (try conv => whnf)
  have hmm : ∀ t, t ∈ l.drop q ++ l.take q ↔ t ∈ l := fun t => by
    have := List.take_append_drop q l
    constructor
    · intro h
      rcases List.mem_append.1 h with h | h
      · exact List.mem_of_mem_drop h
      · exact List.mem_of_mem_take h
    · intro h
      rw [← this] at h
      rcases List.mem_append.1 h with h | h
      · exact List.mem_append_right _ h
      · exact List.mem_append_left _ h
  have hf' : ∀ t ∈ l.drop q ++ l.take q, t.Fit := fun t ht => hf t ((hmm t).1 ht)
  have hl' : (l.drop q ++ l.take q).length ≤ 30 := by rw [List.length_append, List.length_drop, List.length_take]; omega
  have hs : Snd 31 [.slc 6 (appE (appE [] (cutE (l.map Tm.enc) ((q : Int)).toNat none)) (List.take ((q : Int)).toNat (l.map Tm.enc))) false] [tsv (setP (l.drop q ++ l.take q))] := by
    have h1 := oset_ok (l.drop q ++ l.take q) (by omega) hf'
    have e : appE (appE [] (cutE (l.map Tm.enc) ((q : Int)).toNat none)) (List.take ((q : Int)).toNat (l.map Tm.enc)) = (l.drop q ++ l.take q).map Tm.enc := by
      rw [appE_eq, appE_eq, cutE_drop, Int.toNat_natCast, List.nil_append, List.map_append, List.map_drop, List.map_take]
    rw [e]; exact h1
  refine ⟨_, _, hs, ?_⟩
  repeat' ((try conv => whnf); with_reducible first | refine AWP.seq ?_ | refine AWP.region (G_ok _ _ _ _) rfl ?_ | refine AWP.draw (G_ok _ _ _ _) rfl [0, 1, 3, 7, 7, 23, 63, 127, 7, 7, 775, 1799, 4095, 8191, 16383] [1, 1, 1, 9, 1, 1, 1] rfl rfl ?_ | refine AWP.draw (G_ok _ _ _ _) rfl [0, 0, 3, 7, 0, 0, 48, 127, 255, 511] [7, 1, 1, 1] rfl rfl ?_ | refine AWP.block ?_ | refine AWP.cond rfl ?_ | refine AWP.ret ?_ | refine AWP.skip ?_ | refine AWP.exit ?_ | refine AWP.label ?_ | refine AWP.goto ?_ | (refine Br (fun h => ?_) (fun h => ?_) <;> try (exfalso; simp only [decide_eq_true_eq, decide_eq_false_iff_not, beq_iff_eq, beq_eq_false_iff_ne, bne_iff_ne, bne_eq_false_iff_eq, ne_eq, List.length_map, List.length_append, List.length_cons, List.length_nil] at *; omega)))
  all_goals (try conv => whnf)
  obtain ⟨hle, hsame⟩ := set_same hf hf' (fun t ht => (hmm t).2 ht) (fun t ht => (hmm t).1 ht)
  have hSp' := setP_pl hf'
  have hst1 := refSameTerms_ok (setP l) (setP (l.drop q ++ l.take q)) hle (by omega) (fun x hx => ⟨(hSp x hx).2.2, pl_k (hSp x hx)⟩) (fun x hx => ⟨(hSp' x hx).2.2, pl_k (hSp' x hx)⟩) hsame
  have hs2 := oset_ok (setP l) (by omega) (fun t ht => (hSp t ht).2.2)
  rw [setP_setP hf] at hs2
  have hss := setP_length l
  refine ⟨_, _, hst1, ?_⟩
  repeat' ((try conv => whnf); with_reducible first | refine AWP.seq ?_ | refine AWP.region (G_ok _ _ _ _) rfl ?_ | refine AWP.draw (G_ok _ _ _ _) rfl [0, 1, 3, 7, 7, 23, 63, 127, 7, 7, 775, 1799, 4095, 8191, 16383] [1, 1, 1, 9, 1, 1, 1] rfl rfl ?_ | refine AWP.draw (G_ok _ _ _ _) rfl [0, 0, 3, 7, 0, 0, 48, 127, 255, 511] [7, 1, 1, 1] rfl rfl ?_ | refine AWP.block ?_ | refine AWP.cond rfl ?_ | refine AWP.ret ?_ | refine AWP.skip ?_ | refine AWP.exit ?_ | refine AWP.label ?_ | refine AWP.goto ?_ | (refine Br (fun h => ?_) (fun h => ?_) <;> try (exfalso; simp only [decide_eq_true_eq, decide_eq_false_iff_not, beq_iff_eq, beq_eq_false_iff_ne, bne_iff_ne, bne_eq_false_iff_eq, ne_eq, List.length_map, List.length_append, List.length_cons, List.length_nil] at *; omega)))
  all_goals (try conv => whnf)
  refine ⟨_, _, hs2, ?_⟩
  repeat' ((try conv => whnf); with_reducible first | refine AWP.seq ?_ | refine AWP.region (G_ok _ _ _ _) rfl ?_ | refine AWP.draw (G_ok _ _ _ _) rfl [0, 1, 3, 7, 7, 23, 63, 127, 7, 7, 775, 1799, 4095, 8191, 16383] [1, 1, 1, 9, 1, 1, 1] rfl rfl ?_ | refine AWP.draw (G_ok _ _ _ _) rfl [0, 0, 3, 7, 0, 0, 48, 127, 255, 511] [7, 1, 1, 1] rfl rfl ?_ | refine AWP.block ?_ | refine AWP.cond rfl ?_ | refine AWP.ret ?_ | refine AWP.skip ?_ | refine AWP.exit ?_ | refine AWP.label ?_ | refine AWP.goto ?_ | (refine Br (fun h => ?_) (fun h => ?_) <;> try (exfalso; simp only [decide_eq_true_eq, decide_eq_false_iff_not, beq_iff_eq, beq_eq_false_iff_ne, bne_iff_ne, bne_eq_false_iff_eq, ne_eq, List.length_map, List.length_append, List.length_cons, List.length_nil] at *; omega)))
  all_goals (try conv => whnf)
  refine ⟨_, _, sameTerms_eq (setP l) (by omega) hSp, ?_⟩
  repeat' ((try conv => whnf); with_reducible first | refine AWP.seq ?_ | refine AWP.region (G_ok _ _ _ _) rfl ?_ | refine AWP.draw (G_ok _ _ _ _) rfl [0, 1, 3, 7, 7, 23, 63, 127, 7, 7, 775, 1799, 4095, 8191, 16383] [1, 1, 1, 9, 1, 1, 1] rfl rfl ?_ | refine AWP.draw (G_ok _ _ _ _) rfl [0, 0, 3, 7, 0, 0, 48, 127, 255, 511] [7, 1, 1, 1] rfl rfl ?_ | refine AWP.block ?_ | refine AWP.cond rfl ?_ | refine AWP.ret ?_ | refine AWP.skip ?_ | refine AWP.exit ?_ | refine AWP.label ?_ | refine AWP.goto ?_ | (refine Br (fun h => ?_) (fun h => ?_) <;> try (exfalso; simp only [decide_eq_true_eq, decide_eq_false_iff_not, beq_iff_eq, beq_eq_false_iff_ne, bne_iff_ne, bne_eq_false_iff_eq, ne_eq, List.length_map, List.length_append, List.length_cons, List.length_nil] at *; omega)))
  all_goals (try conv => whnf)
  refine ⟨_, _, osort_all l (by omega) hf, ?_⟩
  repeat' ((try conv => whnf); with_reducible first | refine AWP.seq ?_ | refine AWP.region (G_ok _ _ _ _) rfl ?_ | refine AWP.draw (G_ok _ _ _ _) rfl [0, 1, 3, 7, 7, 23, 63, 127, 7, 7, 775, 1799, 4095, 8191, 16383] [1, 1, 1, 9, 1, 1, 1] rfl rfl ?_ | refine AWP.draw (G_ok _ _ _ _) rfl [0, 0, 3, 7, 0, 0, 48, 127, 255, 511] [7, 1, 1, 1] rfl rfl ?_ | refine AWP.block ?_ | refine AWP.cond rfl ?_ | refine AWP.ret ?_ | refine AWP.skip ?_ | refine AWP.exit ?_ | refine AWP.label ?_ | refine AWP.goto ?_ | (refine Br (fun h => ?_) (fun h => ?_) <;> try (exfalso; simp only [decide_eq_true_eq, decide_eq_false_iff_not, beq_iff_eq, beq_eq_false_iff_ne, bne_iff_ne, bne_eq_false_iff_eq, ne_eq, List.length_map, List.length_append, List.length_cons, List.length_nil] at *; omega)))
  all_goals (try conv => whnf)
  refine ⟨_, _, awake9_ok, ?_⟩
  repeat' ((try conv => whnf); with_reducible first | refine AWP.seq ?_ | refine AWP.region (G_ok _ _ _ _) rfl ?_ | refine AWP.draw (G_ok _ _ _ _) rfl [0, 1, 3, 7, 7, 23, 63, 127, 7, 7, 775, 1799, 4095, 8191, 16383] [1, 1, 1, 9, 1, 1, 1] rfl rfl ?_ | refine AWP.draw (G_ok _ _ _ _) rfl [0, 0, 3, 7, 0, 0, 48, 127, 255, 511] [7, 1, 1, 1] rfl rfl ?_ | refine AWP.block ?_ | refine AWP.cond rfl ?_ | refine AWP.ret ?_ | refine AWP.skip ?_ | refine AWP.exit ?_ | refine AWP.label ?_ | refine AWP.goto ?_ | (refine Br (fun h => ?_) (fun h => ?_) <;> try (exfalso; simp only [decide_eq_true_eq, decide_eq_false_iff_not, beq_iff_eq, beq_eq_false_iff_ne, bne_iff_ne, bne_eq_false_iff_eq, ne_eq, List.length_map, List.length_append, List.length_cons, List.length_nil] at *; omega)))
  all_goals (try conv => whnf)
  exact finB rfl rfl

theorem sets_row (l : List Tm) (turn : Int) {p q : Prop} (_ : p) (_ : q) : Snd 12 [tsv l, iv turn] [bv true] := sets_ok l turn

end Go.Vai

/- What is read as a term is a term's value. No condition. -/
namespace Go.Vai
open Go.Proofs

/-- Each number is of its kind. -/
inductive Tm.Wf : Tm → Prop where
  | mk (k : Int) (n : ByteArray) (i re im : Int) (ts : List Tm) (hk : (Lit.int .i64 k).wf = true) (hi : (Lit.int .i64 i).wf = true) (hre : (Lit.int .u64 re).wf = true) (him : (Lit.int .u64 im).wf = true) (h : ∀ t ∈ ts, Tm.Wf t) : Tm.Wf (.mk k n i re im ts)
theorem Tm.Wf.arg {t : Tm} (h : t.Wf) : ∀ u ∈ t.ts, u.Wf := by cases h; assumption
theorem Tm.Wf.wi {t : Tm} (h : t.Wf) : (Lit.int .i64 t.i).wf = true := by cases h; assumption
theorem Tm.Wf.wk {t : Tm} (h : t.Wf) : (Lit.int .i64 t.k).wf = true := by cases h; assumption
theorem Tm.Wf.wre {t : Tm} (h : t.Wf) : (Lit.int .u64 t.re).wf = true := by cases h; assumption
theorem Tm.Wf.wim {t : Tm} (h : t.Wf) : (Lit.int .u64 t.im).wf = true := by cases h; assumption

theorem listOf {α : Type} {p : Nat → α → Prop} : ∀ n, (∀ i, i < n → ∃ t, p i t) → ∃ l : List α, l.length = n ∧ ∀ (i : Nat) t, l[i]? = some t → p i t
  | 0, _ => ⟨[], rfl, fun i t h => by simp at h⟩
  | n + 1, h => by
    obtain ⟨l, h1, h2⟩ := listOf n (fun i hi => h i (by omega))
    obtain ⟨t, ht⟩ := h n (by omega)
    refine ⟨l ++ [t], by simp [h1], fun i u hu => ?_⟩
    rcases Nat.lt_or_ge i l.length with h3 | h3
    · rw [List.getElem?_append_left h3] at hu
      exact h2 i u hu
    · rw [List.getElem?_append_right h3] at hu
      have h4 : i - l.length = 0 := by
        rcases Nat.eq_zero_or_pos (i - l.length) with h5 | h5
        · exact h5
        · rw [List.getElem?_eq_none (show ([t] : List α).length ≤ i - l.length from h5)] at hu; cases hu
      rw [h4] at hu
      cases hu
      have : i = n := by omega
      subst this
      exact ht

abbrev okW0 (w : World) : Nat → Nat → Prop := fun b _ => b < w.heap.size

/-- A row of cells is a term's. -/
def RepTm (w : World) (t : Tm) (cs : List Value) : Prop := cs.length = 6 ∧ ∀ (j : Nat) p v, t.cells[j]? = some p → cs[j]? = some v → RepD w (okW0 w) p v

section
variable {H : Type} {enc : TypeId × Value → H} {w : World} {base : Nat} {spare : Nat → Bool} {held : Bool}

theorem cells_get {a : Addr} {n : Nat} {cs : List Value} (h : w.cells? base a n = some cs) : cs.length = n ∧ ∀ j, j < n → w.cell? (a.add j) = cs[j]? := by
  have := World.cells?_some h
  exact ⟨this.2.1, this.2.2⟩

theorem repTs {a : Addr} {len cap : Nat} {ts : List Tm} (hl : ts.length = len) (hc : len ≤ cap) (h : ∀ (i : Nat) t, ts[i]? = some t → ∃ cs, w.cells? base (a.add (i * 6)) 6 = some cs ∧ RepTm w t cs) :
    RepD w (okW0 w) (.slc 6 (ts.map Tm.enc) false) (.slice (some a) len cap) := by
  have hl2 : (ts.map Tm.enc).length = len := by simp [hl]
  rw [← hl2]
  have hget : ∀ (i : Nat) e, (ts.map Tm.enc)[i]? = some e → ∃ t, ts[i]? = some t ∧ e = t.cells := fun i e he => by
    rw [List.getElem?_map] at he
    cases ht : ts[i]? with
    | none => rw [ht] at he; cases he
    | some t => rw [ht] at he; cases he; exact ⟨t, rfl, Tm.enc_eq t⟩
  have hne : ts.map Tm.enc ≠ [] → a = ⟨a.block, a.off, none⟩ := fun hn => by
    cases ts with
    | nil => exact absurd rfl hn
    | cons t r =>
      obtain ⟨cs, h1, h2, _⟩ := h 0 t rfl
      obtain ⟨h3, h4⟩ := cells_get h1
      have h5 := h4 0 (by omega)
      rw [Nat.zero_mul] at h5
      have h6 : w.cell? a = some cs[0] := by
        rw [List.getElem?_eq_getElem (by omega)] at h5
        simpa [Addr.add] using h5
      unfold World.cell? at h6
      split at h6
      · split at h6
        · cases h6
        · rename_i hs
          cases a with
          | mk b o s => cases s with
            | none => rfl
            | some s => simp at hs
      · cases h6
  refine RepD.slc 6 _ false (some a) cap (fun i j => (w.cell? ⟨a.block, a.off + (i * 6 + j), none⟩).getD undef) (by omega) (fun h => by cases h) (fun i e he => ?_) (fun hn => ⟨a.block, a.off, congrArg some (hne hn), fun i j hi hj => ?_⟩) (fun i j e p he hp => ?_)
  · obtain ⟨t, _, rfl⟩ := hget i e he; rfl
  · have he : (ts.map Tm.enc)[i]? = some (ts.map Tm.enc)[i] := List.getElem?_eq_getElem hi
    obtain ⟨t, ht, _⟩ := hget i _ he
    obtain ⟨cs, h1, h2, _⟩ := h i t ht
    obtain ⟨h3, h4⟩ := cells_get h1
    have h5 := h4 j hj
    rw [hne hn] at h5
    rw [List.getElem?_eq_getElem (by omega)] at h5
    have h6 : w.cell? ⟨a.block, a.off + (i * 6 + j), none⟩ = some cs[j] := by
      rw [← h5]
      unfold Addr.add
      by_cases hi0 : i * 6 = 0 <;> by_cases hj0 : j = 0 <;> simp [hi0, hj0, Nat.add_assoc]
    rw [h6]
    refine ⟨?_, rfl⟩
    unfold World.cell? at h6
    cases hb : w.heap[a.block]? with
    | none => rw [hb] at h6; cases h6
    | some o => exact (Array.getElem?_eq_some_iff.1 hb).1
  · obtain ⟨t, ht, rfl⟩ := hget i e he
    obtain ⟨cs, h1, h2, h7⟩ := h i t ht
    obtain ⟨h3, h4⟩ := cells_get h1
    have hj : j < 6 := (List.getElem?_eq_some_iff.1 hp).1
    have h5 := h4 j hj
    rw [hne (by intro e; rw [e] at he; simp at he)] at h5
    rw [List.getElem?_eq_getElem (by omega)] at h5
    have h6 : w.cell? ⟨a.block, a.off + (i * 6 + j), none⟩ = some cs[j] := by
      rw [← h5]
      unfold Addr.add
      by_cases hi0 : i * 6 = 0 <;> by_cases hj0 : j = 0 <;> simp [hi0, hj0, Nat.add_assoc]
    rw [h6]
    exact h7 j p cs[j] hp (List.getElem?_eq_getElem (by omega))

theorem open_terms_of {fuel : Nat} (ih : ∀ (cs : List Value) x, DataW.trod enc Try.prog w base spare held fuel 25 cs = some x → ∃ t : Tm, t.Wf ∧ RepTm w t cs)
    {cs : List Value} {x : DataW H × List MemPlace} (h : DataW.trod enc Try.prog w base spare held (fuel + 1) 23 cs = some x) :
    ∃ ts : List Tm, (∀ t ∈ ts, t.Wf) ∧ ∃ v, cs = [v] ∧ RepD w (okW0 w) (.slc 6 (ts.map Tm.enc) false) v := by
  rcases DataW.trod_slice Try.underlying23 h with ⟨rfl, rfl⟩ | ⟨a, len, cap, elems, rest, n, hn, rfl, rfl, hb, hl, hm, hlen, hel, _, _⟩
  · refine ⟨[], (fun t h => by cases h), _, rfl, ?_⟩
    exact RepD.slc 6 [] false none 0 (fun _ _ => undef) (Nat.le_refl _) (fun _ => rfl) (fun i e he => by simp at he) (fun hn => absurd rfl hn) (fun i j e p he => by simp at he)
  · cases hn
    have hsz : Try.prog.cellsOf 25 = 6 := by kernel_rfl
    rw [hsz] at hel
    obtain ⟨ts, h1, h2⟩ := listOf (p := fun i (t : Tm) => t.Wf ∧ ∃ cs, w.cells? base (a.add (i * 6)) 6 = some cs ∧ RepTm w t cs) len (fun i hi => by
      have h1 := hel i hi
      rw [List.getElem?_eq_getElem (by omega)] at h1
      rw [Option.bind_eq_some_iff] at h1
      obtain ⟨cs, h2, h3⟩ := h1
      obtain ⟨t, h4, h5⟩ := ih cs _ h3
      exact ⟨t, h4, cs, h2, h5⟩)
    refine ⟨ts, fun t ht => ?_, _, rfl, repTs h1 hl (fun i t ht => (h2 i t ht).2)⟩
    obtain ⟨i, hi, rfl⟩ := List.mem_iff_getElem.1 ht
    exact (h2 i _ (List.getElem?_eq_getElem hi)).1

set_option maxRecDepth 100000 in
theorem open_term : ∀ (fuel : Nat) (cs : List Value) (x : DataW H × List MemPlace), DataW.trod enc Try.prog w base spare held fuel 25 cs = some x → ∃ t : Tm, t.Wf ∧ RepTm w t cs := by
  intro fuel
  induction fuel using Nat.strongRecOn with
  | _ fuel ih =>
    intro cs x h
    obtain ⟨xs, n, hn, _, hlen, hxs, hf⟩ := DataW.trod_struct Try.underlying25 h
    subst hn
    have hsz : Try.prog.cellsOf 25 = 6 := by kernel_rfl
    have c1 : Try.prog.cellsOf 3 = 1 := by kernel_rfl
    have c2 : Try.prog.cellsOf 9 = 1 := by kernel_rfl
    have c3 : Try.prog.cellsOf 2 = 1 := by kernel_rfl
    have c4 : Try.prog.cellsOf 22 = 1 := by kernel_rfl
    have c5 : Try.prog.cellsOf 23 = 1 := by kernel_rfl
    rw [hsz] at hlen
    have hxs : xs.length = 6 := hxs
    have f0 := hf 0 _ rfl
    have f1 := hf 1 _ rfl
    have f2 := hf 2 _ rfl
    have f3 := hf 3 _ rfl
    have f4 := hf 4 _ rfl
    have f5 := hf 5 _ rfl
    match cs, hlen with
    | [v0, v1, v2, v3, v4, v5], _ =>
    match xs, hxs with
    | [x0, x1, x2, x3, x4, x5], _ =>
    simp only [c1, c2, c3, c4, c5, List.drop, List.take, List.getElem?_cons_zero, List.getElem?_cons_succ] at f0 f1 f2 f3 f4 f5
    obtain ⟨k, h0, _, w0⟩ := DataW.trod_int Try.underlying3 f0
    obtain ⟨s, h1, _, w1⟩ := DataW.trod_string Try.underlying9 f1
    obtain ⟨i, h2, _, w2⟩ := DataW.trod_int Try.underlying2 f2
    obtain ⟨re, h3, _, w3⟩ := DataW.trod_int Try.underlying22 f3
    obtain ⟨im, h4, _, w4⟩ := DataW.trod_int Try.underlying22 f4
    cases h0; cases h1; cases h2; cases h3; cases h4
    obtain ⟨ts, wts, v, hv, hts⟩ : ∃ ts : List Tm, (∀ t ∈ ts, t.Wf) ∧ ∃ v, [v5] = [v] ∧ RepD w (okW0 w) (.slc 6 (ts.map Tm.enc) false) v := by
      cases n with
      | zero => simp [DataW.trod] at f5
      | succ n => exact open_terms_of (fun cs x h => ih n (by omega) cs x h) f5
    cases hv
    refine ⟨.mk k s i re im ts, .mk _ _ _ _ _ _ w0 w2 w3 w4 wts, rfl, fun j p v hp hv => ?_⟩
    match j with
    | 0 => cases hp; cases hv; exact .s _ rfl
    | 1 => cases hp; cases hv; exact .s _ rfl
    | 2 => cases hp; cases hv; exact .s _ rfl
    | 3 => cases hp; cases hv; exact .s _ rfl
    | 4 => cases hp; cases hv; exact .s _ rfl
    | 5 => cases hp; cases hv; exact hts
    | j + 6 => simp [Tm.cells] at hp

theorem open_terms (fuel : Nat) (cs : List Value) (x : DataW H × List MemPlace) (h : DataW.trod enc Try.prog w base spare held fuel 23 cs = some x) :
    ∃ ts : List Tm, (∀ t ∈ ts, t.Wf) ∧ ∃ v, cs = [v] ∧ RepD w (okW0 w) (.slc 6 (ts.map Tm.enc) false) v := by
  cases fuel with
  | zero => simp [DataW.trod] at h
  | succ n => exact open_terms_of (fun cs x h => open_term n cs x h) h
end

theorem law_calls {P : Program} {f : Nat} {args : List PV} {vs : List Value} {w : World} (hs : SoundAt P f args [] (bv true) []) (he : Enters P f) (hl : vs.length = args.length)
    (hr : ∀ (i : Nat) p v, args[i]? = some p → vs[i]? = some v → RepV w ⟨fun _ => none, okW0 w⟩ p v) : Calls P f vs.toArray w fun e w' => e = .returned (.bool true) ∧ Go.RowKit.Below w.heap.size w w' := by
  have h1 := hs.2 w (okW0 w) (fun _ => none) vs hl hr (fun k r hk => by simp at hk) (fun _ _ => rfl) (fun k k' b c s l c' s' l' hk => by cases hk) (fun b ⟨k, c, s, l, hk⟩ => by cases hk)
    (fun b o hb => ⟨hb, fun ⟨k, c, s, l, hk⟩ => by cases hk⟩)
  refine (h1.calls he).mono ?_
  rintro e w' ⟨v, rfl, β', h2, _, _, _, _, _, hk⟩
  refine ⟨by rw [repV_bool h2], hk.os, hk.tape, hk.output, hk.size, fun b hb => hk.block b hb (fun ⟨k, c, s, l, hk⟩ => by cases hk)⟩

theorem repV_term {w : World} {t : Tm} {us : Array Value} (h : RepTm w t us.toList) : RepV w ⟨fun _ => none, okW0 w⟩ t.pv (.agg us) :=
  ⟨us.toList, by simp, h.1, fun j p v hp hv => ⟨repC_of_D (h.2 j p v hp hv), RepD.one (h.2 j p v hp hv)⟩⟩

theorem okWide_agg {P : Program} {w : World} {r : Reach} {base : Nat} {t : Nat} {fs : Array Field} {v : Value} (hu : P.underlying t = some (.struct fs)) (h : Value.okWide P w r base t v) : ∃ cs, v = .agg cs := by
  unfold Value.okWide at h
  rw [hu] at h
  obtain ⟨cs, h1, _⟩ := h
  exact ⟨cs, h1⟩

end Go.Vai

/- The row of OrderSets: the law, walked, is what the statement says. No condition. -/
namespace Go.Proofs.Ytbgpmnpjekmojaa.orderSets
open Go.ChangeShapes Go.WideShapes Go.ChangeAt Go.RowKit Go.Vai
open Go.ChangeMaps (open_string shut_string)
theorem own : ownKnob Try.prog.godebug = none := by kernel_rfl
theorem laidOut : laidOutB Try.prog = true := by kernel_rfl
set_option maxRecDepth 100000 in
theorem lifted (os : Os) (started : os.Started) (H : Type) (enc : TypeId × Value → H) :
    ReturnsInHanded {} Try.checked os 12 .any (Rows.orderSetsSpec.pre6 enc Try.prog Try.f12 Rows.orderSetsRow.domain false) (Rows.orderSetsSpec.post enc Try.prog Try.f12 false true false false) := by
  refine returnsInHanded_of_change_sized (C := Try.checked) own started (by kernel_rfl) Try.func12
    (ChangeSpec.witness6 (enc := enc) (C := Try.checked) false ⟨#[], #[.slice none 0 0, .int .i64 0], []⟩ 8 (by kernel_rfl) (by kernel_rfl) (by kernel_rfl) (by kernel_rfl)) ?_
  intro W base args ds gs before hval0 hW hcnd hsz0 _
  have hval : ∀ (j : Nat) t v, Try.f12.params[j]? = some t → args[j]? = some v → Value.okWide Try.prog W .any base t v := hval0
  have hsz : (DataW.weightsEach Try.prog (Try.f12.params.toList ++ Rows.orderSetsSpec.plain.varTypes Try.prog) (ds ++ gs)).all (· ≤ reachBytes) = true := hsz0
  have hW' := hW
  obtain ⟨p, q, hA0, hV, rfl, hfz, hnd⟩ := hW
  have hA : DataW.TrodAll enc Try.prog W 0 (fun _ => true) true Try.f12.params.toList args.toList ds p := hA0
  rw [Try.params12] at hA hval hsz
  obtain ⟨v0, vs0, d0, ds0, p0, q0, hargs, rfl, rfl, h0, r0⟩ := trodAll_cons hA
  obtain ⟨v1, vs1, d1, ds1, p1, q1, rfl, rfl, rfl, h1, r1⟩ := trodAll_cons r0
  obtain ⟨rfl, rfl, rfl⟩ := trodAll_nil r1
  obtain rfl : args = #[v0, v1] := by cases args; simp_all
  obtain ⟨rfl, rfl⟩ := trodVars_none hV
  have k0 := h0
  have lt0 : ∀ x ∈ p0, x.block < W.heap.size := by obtain ⟨m, hm⟩ := k0; exact DataW.trod_lt m _ _ _ hm
  obtain ⟨ad0, ln0, cp0, rfl⟩ := okWide_slice Try.underlying23 (hval 0 23 v0 rfl rfl)
  obtain ⟨fu0, hf0⟩ := h0
  obtain ⟨a0, wf0, vv0, ev0, re0⟩ := open_terms fu0 _ _ hf0
  have ev0 : Value.slice ad0 ln0 cp0 = vv0 := by simpa [Value.cells] using ev0
  subst ev0
  obtain ⟨a1, rfl, rfl, rfl, w1⟩ := open_int Try.underlying3 (hval 1 3 v1 rfl rfl) h1
  clear hA0 hval0 hsz0 hsz
  refine (law_calls (vs := [.slice ad0 ln0 cp0, .int .i64 a1]) (sets_row a0 a1 wf0 w1) ⟨_, Try.func12, by decide, rfl⟩ rfl ?_).mono fun e W' ⟨he, bel⟩ => ?_
  · intro i p v hp hv
    match i with
    | 0 => cases hp; cases hv; exact re0
    | 1 => cases hp; cases hv; exact RepD.s _ rfl
    | i + 2 => simp at hp
  subst he
  exact ⟨_, rfl, _, _, _, [], _, [], hW', trodAll_mk1 (shut_bool Try.underlying4 _), (trodAll_cons_mk (Below.trod laidOut (by kernel_rfl) (of_decide_eq_true (by kernel_rfl)) k0 bel lt0) (trodAll_cons_mk (shut_int Try.underlying3 w1) trodAll_mk0)), rfl, bel.frame _, fun h => by cases h⟩
theorem over : Rows.orderSetsRow.holds Try.pinned (OpenSpec.ofChange Rows.orderSetsSpec) :=
  OpenClaim.holds_of_wide 12 Try.f12 rfl rfl rfl rfl rfl rfl rfl ⟨rfl, rfl, rfl, rfl, rfl⟩ rfl rfl rfl rfl rfl (by kernel_rfl) Try.func12 (by kernel_rfl)
    (of_decide_eq_true (by kernel_rfl)) (by unfold Func.isWrapper; first | (rw [if_pos (by decide +kernel)]; kernel_rfl) | (rw [if_neg (by decide +kernel)]; exact ⟨rfl, rfl⟩))
    (fun os started H enc _ => lifted os started H enc)
end Go.Proofs.Ytbgpmnpjekmojaa.orderSets
namespace Go.Proofs.Ytbgpmnpjekmojaa
/-- The row. -/
theorem orderSets_holds : Rows.OrderSetsSaid := orderSets.over
#print axioms orderSets_holds
end Go.Proofs.Ytbgpmnpjekmojaa
