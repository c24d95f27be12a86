/- Lines of those who wait: the document's calls on a line. Conditions: none. -/
import Derived.Test.YtecacohkkdhphaaLnF
namespace Go.Proofs.Ytecacohkkdhphaa
open Go.Vc
set_option linter.unusedSimpArgs false
set_option linter.unusedVariables false
set_option maxRecDepth 100000

/-- The document's list of who waits. -/
def RefL (w : World) (a : Option Addr) (c : Nat) (ws : List Wt) : Prop := SlR encR w a ws ∧ ws.length ≤ c
theorem RefL.ch {w w' : World} {a : Option Addr} {c : Nat} {ws : List Wt} (h : RefL w a c ws) (hc : Ch [] w w') : RefL w' a c ws := ⟨hc.slr h.1 (.inr (by simp)), h.2⟩

theorem Own.none_nil {α : Type} {E : Enc α} {t : TypeId} {base : Nat} {w : World} {c : Nat} {xs : List α} (h : Own E t base w none c xs) : xs = [] := by
  cases xs with
  | nil => rfl
  | cons x r =>
    obtain ⟨_, _, h', _⟩ := h.slr 0 x rfl
    cases h'
/-- The list lies where it lay, or in memory that was new in w. -/
def NewOr (w : World) (a : Option Addr) (ws0 : List Wt) (a' : Option Addr) (ws : List Wt) : Prop := ws = [] ∨ (a' = a ∧ ws = ws0) ∨ w.heap.size ≤ pb a'
theorem NewOr.own {w w' : World} {base c : Nat} {a a' : Option Addr} {ws ws0 : List Wt} (h : Own encR 135 base w' a' c ws) (hb : w.heap.size ≤ base) : NewOr w a ws0 a' ws := by
  rcases h.base with rfl | h'
  · exact .inl (Own.none_nil h)
  · exact .inr (.inr (by omega))

theorem retL {w : World} {b b1 n c : Nat} {a : Option Addr} {now : Int} {x y : Value} {K : Option Addr → Nat → Nat → Int → World → Prop} (h : Row w b 77 [.slice a n c, .int .i64 now]) (h1 : Row w b1 77 [x, y])
    (hK : ∀ w', Ch [b1] w w' → K a n c now w') :
    ∃ A : Option Addr, ∃ N : Nat, ∃ C : Nat, w.cell? ⟨b, 0, none⟩ = some (.slice A N C) ∧ ∃ r : Int, w.cell? ⟨b, 1, none⟩ = some (.int .i64 r) ∧
      storeC w b1 0 [.slice A N C, .int .i64 r] fun w3 => ∃ A : Option Addr, ∃ N : Nat, ∃ C : Nat, w3.cell? ⟨b1, 0, none⟩ = some (.slice A N C) ∧ ∃ r : Int, w3.cell? ⟨b1, 1, none⟩ = some (.int .i64 r) ∧ K A N C r w3 := by
  refine ⟨_, _, _, h.cell rfl, _, h.cell rfl, ?_⟩
  refine storeC_row h1 (by simp) fun w3 hr3 hc3 _ => ?_
  exact ⟨_, _, _, hr3.cell rfl, _, hr3.cell rfl, hK w3 hc3⟩

theorem ref_Put_any {w : World} {a : Option Addr} {c : Nat} {s : LS} (hs : RefL w a c s.ws) (hok : s.ok) (hm : s.ws.length ≤ 10000) (id prio until_ : Int) :
    Calls Try.prog 74 #[.agg #[.slice a s.ws.length c, .int .i64 s.now], .int .i64 id, .int .i64 prio, .int .i64 until_] w (Ret fun v w' => ∃ a' c', v = .tuple #[.agg #[.slice a' (s.put id prio until_).ws.length c', .int .i64 s.now], .int .i64 (s.err id prio until_)] ∧
      RefL w' a' c' (s.put id prio until_).ws ∧ NewOr w a s.ws a' (s.put id prio until_).ws ∧ Ch [] w w') := by
  apply purlinref14_Put.calls
  unfold purlinref14_Put.F
  refine newBlk_row fun b w1 hb hs1 hr1 hc1 => newBlk_row fun b1 w2 hb1 hs2 hr2 hc2 => ?_
  have hc02 := hc1.trans0 hc2
  have r1 := hc2.row hr1 (by simp)
  have hnb : b1 ≠ b := by omega
  have bad : ∀ (w9 : World) (k : Int), s.err id prio until_ = k → k ≠ 0 → Ch [] w w9 → ∀ w', Ch [b1] w9 w' →
      ∃ a' c', Value.tuple #[.agg #[.slice a s.ws.length c, .int .i64 s.now], .int .i64 k] = .tuple #[.agg #[.slice a' (s.put id prio until_).ws.length c', .int .i64 s.now], .int .i64 (s.err id prio until_)] ∧
      RefL w' a' c' (s.put id prio until_).ws ∧ NewOr w a s.ws a' (s.put id prio until_).ws ∧ Ch [] w w' := fun w9 k hk hk0 hc9 w' hc' => by
    have hp : s.put id prio until_ = s := by unfold LS.put; rw [if_neg (by rw [hk]; exact hk0)]
    have hc : Ch [] w w' := hc9.trans hc' (by simp; omega)
    exact ⟨a, c, by rw [hp, hk], by rw [hp]; exact hs.ch hc, .inr (.inl ⟨rfl, by rw [hp]⟩), hc⟩
  refine br_dec (fun h => retL r1 hr2 (bad w2 140 (by simp [LS.err, h]) (by omega) hc02)) fun h1 => br_dec (fun h => retL r1 hr2 (bad w2 140 (by rw [LS.err, if_pos (by omega)]) (by omega) hc02)) fun h2 => ?_
  have e1 : ¬ (id < 0 ∨ 65535 < id) := by omega
  refine br_dec (fun h => retL r1 hr2 (bad w2 143 (by rw [LS.err, if_neg e1, if_pos (by omega)]) (by omega) hc02)) fun h3 => br_dec (fun h => retL r1 hr2 (bad w2 143 (by rw [LS.err, if_neg e1, if_pos (by omega)]) (by omega) hc02)) fun h4 => ?_
  have e2 : ¬ (prio < 0 ∨ 63 < prio) := by omega
  have tail : ¬ (until_ ≠ -1 ∧ (until_ ≤ s.now ∨ 1099511627776 < until_)) → purlinref14_Put.K0 id prio until_ (fun v w' => ∃ a' c', v = .tuple #[.agg #[.slice a' (s.put id prio until_).ws.length c', .int .i64 s.now], .int .i64 (s.err id prio until_)] ∧
      RefL w' a' c' (s.put id prio until_).ws ∧ NewOr w a s.ws a' (s.put id prio until_).ws ∧ Ch [] w w') b b1 w2 := by
    intro e3
    unfold purlinref14_Put.K0
    refine ⟨_, _, _, r1.cell rfl, ?_⟩
    refine Calls.ret (ref_find_any id (hs.ch hc02).1 (by omega)) ?_
    rintro v w3 ⟨rfl, rfl⟩
    refine ⟨_, rfl, ?_⟩
    cases hh : s.has id with
    | true =>
      obtain ⟨k, x, hk, _, _⟩ := findW_pos (LS.has_iff.1 hh)
      rw [hk]
      refine br_dec (fun _ => retL r1 hr2 (bad w3 141 (by rw [LS.err, if_neg e1, if_neg e2, if_neg e3, if_pos hh]) (by omega) hc02)) fun h => by omega
    | false =>
      have hno : ∀ x ∈ s.ws, x.id ≠ id := fun x hx he => by
        have : s.has id = true := LS.has_iff.2 ⟨x, hx, he⟩
        rw [hh] at this; cases this
      rw [findW_neg hno]
      refine br_dec (fun h => by omega) fun _ => ?_
      have e0 : s.err id prio until_ = 0 := by rw [LS.err, if_neg e1, if_neg e2, if_neg e3, if_neg (by rw [hh]; simp)]
      refine newBlk_row fun b2 w4 hb2 hs4 hr4 hc4 => ?_
      have hc04 := hc02.trans0 hc4
      refine ⟨_, _, _, (hc4.row r1 (by simp)).cell rfl, ?_⟩
      have ho4 : Own encR 135 w3.heap.size w4 (some ⟨b2, 0, none⟩) 0 [] := Own.row (E := encR) (xs := []) hr4 (by omega) (by simp)
      obtain ⟨a5, c5, w5, hrun5, ho5, hc5, _⟩ := append_new (P := Try.prog) (ty := 75) elR hc4 ho4 (c2 := c) (hs.ch hc04).1 (bndR _ _ (by simp; omega)).1 (bndR _ _ (by simp; omega)).2 (by omega) (Nat.le_refl _)
      refine ⟨a5, _, c5, w5, hrun5, ?_⟩
      simp only [List.nil_append] at ho5 ⊢
      refine newBlk_row fun b3 w6 hb3 hs6 hr6 hc6 => ?_
      obtain ⟨x, hx⟩ : ∃ x : Wt, x = ⟨id, prio, until_, s.came + 1⟩ := ⟨_, rfl⟩
      have z5 := hc5.size
      obtain ⟨a7, c7, w7, hrun7, ho7, hc7, _⟩ := append_new (P := Try.prog) (ty := 75) elR (hc5.trans0 hc6) (hc6.own ho5 (.inr (by simp))) (ys := [x]) (c2 := 1) (SlR.one (E := encR) (x := x) (t := 135) (by rw [hx]; exact hr6)) (bndR _ _ (by simp; omega)).1 (bndR _ _ (by simp; omega)).2 (by omega) (Nat.le_refl _)
      refine ⟨a7, _, c7, w7, hrun7, ?_⟩
      have hput : s.put id prio until_ = s.add id prio until_ := by unfold LS.put; rw [if_pos e0]
      have hws : (s.put id prio until_).ws = s.ws ++ [x] := by rw [hput, hx]; rfl
      refine storeC_row (hc7.row r1 (by simp)) (by simp) fun w8 hr8 hc8 hs8 => ?_
      have hr8 : Row w8 b 77 [.slice a7 (s.ws ++ [x]).length c7, .int .i64 s.now] := hr8
      have r28 := hc8.row (hc7.row hr2 (by simp)) (by simpa using hnb)
      have z1 := hc1.size
      refine retL hr8 r28 fun w9 hc9 => ?_
      have hob := ho7.base
      have hc09 : Ch [] w w9 := ((hc02.trans0 hc7).trans hc8 (by simp; omega)).trans hc9 (by simp; omega)
      have hno7 : NewOr w a s.ws a7 (s.ws ++ [x]) := NewOr.own ho7 (by omega)
      refine ⟨a7, c7, by rw [hws, e0], ?_, by rw [hws]; exact hno7, hc09⟩
      rw [hws]
      have ho9 := hc9.own (hc8.own ho7 (by rcases hob with h | h; exact .inl h; exact .inr (by simp; omega))) (by rcases hob with h | h; exact .inl h; exact .inr (by simp; omega))
      exact ⟨ho9.slr, ho9.cap⟩
  refine br_intro (fun hu => ?_) fun hu => ?_
  · have hu : until_ ≠ -1 := by simpa using hu
    refine ⟨_, r1.cell rfl, ?_⟩
    refine br_dec (fun h => retL r1 hr2 (bad w2 144 (by rw [LS.err, if_neg e1, if_neg e2, if_pos ⟨hu, .inl h⟩]) (by omega) hc02)) fun h5 => br_dec (fun h => retL r1 hr2 (bad w2 144 (by rw [LS.err, if_neg e1, if_neg e2, if_pos ⟨hu, .inr h⟩]) (by omega) hc02)) fun h6 => tail (by omega)
  · have hu : until_ = -1 := by simpa using hu
    exact tail (by omega)

theorem ref_Drop_any {w : World} {a : Option Addr} {c : Nat} {s : LS} (hs : RefL w a c s.ws) (hok : s.ok) (hm : s.ws.length ≤ 10000) (id : Int) :
    Calls Try.prog 42 #[.agg #[.slice a s.ws.length c, .int .i64 s.now], .int .i64 id] w (Ret fun v w' => ∃ a' c', v = .tuple #[.agg #[.slice a' (s.without id).ws.length c', .int .i64 s.now], .int .i64 (if s.has id = true then 0 else 142)] ∧
      RefL w' a' c' (s.without id).ws ∧ NewOr w a s.ws a' (s.without id).ws ∧ Ch [] w w') := by
  apply purlinref14_Drop.calls
  unfold purlinref14_Drop.F
  refine newBlk_row fun b w1 hb hs1 hr1 hc1 => newBlk_row fun b1 w2 hb1 hs2 hr2 hc2 => ?_
  have hc02 := hc1.trans0 hc2
  have r1 := hc2.row hr1 (by simp)
  have hnb : b1 ≠ b := by omega
  refine ⟨_, _, _, r1.cell rfl, ?_⟩
  refine Calls.ret (ref_find_any id (hs.ch hc02).1 (by omega)) ?_
  rintro v w3 ⟨rfl, rfl⟩
  refine ⟨_, rfl, ?_⟩
  cases hh : s.has id with
  | false =>
    have hno : ∀ x ∈ s.ws, x.id ≠ id := fun x hx he => by
      have : s.has id = true := LS.has_iff.2 ⟨x, hx, he⟩
      rw [hh] at this; cases this
    rw [findW_neg hno]
    refine br_dec (fun _ => retL r1 hr2 fun w' hc' => ?_) fun h => by omega
    have hw : (s.without id).ws = s.ws := List.filter_eq_self.2 (fun x hx => by simpa using hno x hx)
    have hc : Ch [] w w' := hc02.trans hc' (by simp; omega)
    exact ⟨a, c, by rw [hw]; simp, by rw [hw]; exact hs.ch hc, .inr (.inl ⟨rfl, hw⟩), hc⟩
  | true =>
    obtain ⟨k, x, hk, hxk, hxid⟩ := findW_pos (LS.has_iff.1 hh)
    rw [hk]
    refine br_dec (fun h => by omega) fun _ => ?_
    refine ⟨_, _, _, r1.cell rfl, ?_⟩
    have hlt := (List.getElem?_eq_some_iff.1 hxk).1
    refine Calls.ret (ref_without_any (hs.ch hc02).1 hs.2 (by omega) hlt) ?_
    rintro v w4 ⟨a4, c4, rfl, ho4, hc4⟩
    rw [without_eq hok hxk, hxid] at ho4 ⊢
    refine ⟨_, _, _, rfl, ?_⟩
    refine storeC_row (hc4.row r1 (by simp)) (by simp) fun w5 hr5 hc5 _ => ?_
    have hr5 : Row w5 b 77 [.slice a4 (s.without id).ws.length c4, .int .i64 s.now] := hr5
    refine retL hr5 (hc5.row (hc4.row hr2 (by simp)) (by simpa using hnb)) fun w6 hc6 => ?_
    have hob := ho4.base
    have z1 := hc1.size
    have ho6 := hc6.own (hc5.own ho4 (by rcases hob with h | h; exact .inl h; exact .inr (by simp; omega))) (by rcases hob with h | h; exact .inl h; exact .inr (by simp; omega))
    exact ⟨a4, c4, by simp, ⟨ho6.slr, ho6.cap⟩, NewOr.own ho4 (by have := hc02.size; omega), ((hc02.trans0 hc4).trans hc5 (by simp; omega)).trans hc6 (by simp; omega)⟩

theorem ref_Take_any {w : World} {a : Option Addr} {c : Nat} {s : LS} (hs : RefL w a c s.ws) (hok : s.ok) (hm : s.ws.length ≤ 10000) :
    Calls Try.prog 78 #[.agg #[.slice a s.ws.length c, .int .i64 s.now]] w (Ret fun v w' => ∃ a' c', v = .tuple #[.agg #[.slice a' s.taken.ws.length c', .int .i64 s.now], .int .i64 (s.list.head?.getD 0), .bool s.list.head?.isSome] ∧
      RefL w' a' c' s.taken.ws ∧ NewOr w a s.ws a' s.taken.ws ∧ Ch [] w w') := by
  apply purlinref14_Take.calls
  unfold purlinref14_Take.F
  refine newBlk_row fun b w1 hb hs1 hr1 hc1 => newBlk_row fun b1 w2 hb1 hs2 hr2 hc2 => ?_
  have hc02 := hc1.trans0 hc2
  have r1 := hc2.row hr1 (by simp)
  have hnb : b1 ≠ b := by omega
  refine ⟨_, _, _, r1.cell rfl, _, r1.cell rfl, ?_⟩
  refine Calls.ret (ref_List_any (hs.ch hc02).1 hok hm) ?_
  rintro v w3 ⟨a3, c3, rfl, ho3, hc3⟩
  refine ⟨_, _, _, rfl, ?_⟩
  have r13 := hc3.row r1 (by simp)
  have r23 := hc3.row hr2 (by simp)
  have hc03 := hc02.trans0 hc3
  cases hl : s.list with
  | nil =>
    refine br_t rfl ?_
    refine retL r13 r23 fun w' hc' => ?_
    have ht : s.taken = s := by unfold LS.taken; rw [hl]; rfl
    have hc : Ch [] w w' := hc03.trans hc' (by simp; omega)
    exact ⟨a, c, by rw [ht]; rfl, by rw [ht]; exact hs.ch hc, .inr (.inl ⟨rfl, by rw [ht]⟩), hc⟩
  | cons id rest =>
    rw [hl] at ho3
    refine br_f (by simp; omega) ?_
    have ht : s.taken = s.without id := by unfold LS.taken; rw [hl]; rfl
    have hin : ∃ x ∈ s.ws, x.id = id := by
      have : id ∈ s.list := by rw [hl]; simp
      obtain ⟨x, hx, he⟩ := List.mem_map.1 this
      exact ⟨x, (ordL_perm s.ws).mem_iff.1 hx, he⟩
    obtain ⟨k, x, hk, hxk, hxid⟩ := findW_pos hin
    have hlt := (List.getElem?_eq_some_iff.1 hxk).1
    refine drawS_intro [] fun w4 hc4 _ => ?_
    have r14 := hc4.row r13 (by simp)
    have r24 := hc4.row r23 (by simp)
    have hc04 := hc03.trans0 hc4
    refine ⟨_, _, _, r14.cell rfl, by omega, by simp, ?_⟩
    have hsl4 := hc4.slr ho3.slr (.inr (by simp))
    obtain ⟨ab, ao, rfl, hcell⟩ := hsl4 0 id rfl
    simp only [okP_some, pb_some, po_some]
    refine ⟨_, hcell 0 _ rfl, _, _, _, fun w9 h9 => (h9.row r14 (by simp)).cell rfl, ?_⟩
    refine Calls.ret (ref_find_any id (hs.ch hc04).1 (by omega)) ?_
    rintro v w5 ⟨rfl, rfl⟩
    rw [hk]
    refine ⟨_, rfl, Ch.refl _ _, ?_⟩
    refine Calls.ret (ref_without_any (hs.ch hc04).1 hs.2 (by omega) hlt) ?_
    rintro v w6 ⟨a6, c6, rfl, ho6, hc6⟩
    rw [without_eq hok hxk, hxid] at ho6 ⊢
    refine ⟨_, _, _, rfl, ?_⟩
    refine storeC_row (hc6.row r14 (by simp)) (by simp) fun w7 hr7 hc7 hs7 => ?_
    have hr7 : Row w7 b 77 [.slice a6 (s.without id).ws.length c6, .int .i64 s.now] := hr7
    have r27 := hc7.row (hc6.row r24 (by simp)) (by simpa using hnb)
    have z2 := hc02.size
    have hob3 := ho3.base
    simp only [pb_some] at hob3
    have hab : ab ≠ b ∧ ab ≠ b1 := by
      rcases hob3 with h | h
      · cases h
      · omega
    have hsl7 : SlR (Enc.int .i64) w7 (some ⟨ab, ao, none⟩) (id :: rest) := hc7.slr (hc6.slr hsl4 (.inr (by simp))) (.inr (by simp; exact hab.1))
    refine drawS_intro [b1] fun w8 hc8 _ => ?_
    have r18 := hc8.row hr7 (by simp)
    have r28 := hc8.row r27 (by simp)
    have hsl8 := hc8.slr hsl7 (.inr (by simp))
    refine ⟨_, _, _, r18.cell rfl, _, r18.cell rfl, by omega, by simp, ?_⟩
    obtain ⟨ab', ao', he', hcell8⟩ := hsl8 0 id rfl
    simp only [Option.some.injEq, Addr.mk.injEq, and_true] at he'
    obtain ⟨rfl, rfl⟩ := he'
    refine ⟨id, fun w9 h9 => h9.cell (hcell8 0 _ rfl) (by simp; exact hab.2), ?_⟩
    refine storeC_row r28 (by simp) fun w9 hr9 hc9 _ => ?_
    refine ⟨hc9, _, _, _, hr9.cell rfl, _, hr9.cell rfl, ?_⟩
    have hob := ho6.base
    have ho9 := hc9.own (hc8.own (hc7.own ho6 (by rcases hob with h | h; exact .inl h; exact .inr (by simp; have := hc4.size; have := hc3.size; omega))) (.inr (by simp))) (by rcases hob with h | h; exact .inl h; exact .inr (by simp; have := hc4.size; have := hc3.size; omega))
    have z1 := hc1.size
    refine ⟨a6, c6, by rw [ht]; rfl, by rw [ht]; exact ⟨ho9.slr, ho9.cap⟩, by rw [ht]; exact NewOr.own ho6 (by have := hc04.size; omega), ?_⟩
    exact (((hc04.trans0 hc6).trans hc7 (by simp; omega)).trans0 hc8).trans hc9 (by simp; omega)

theorem same_any {w : World} {a b : Option Addr} {c c' : Nat} {xs ys : List Int} (hx : SlR (Enc.int .i64) w a xs) (hy : SlR (Enc.int .i64) w b ys) (hm : xs.length ≤ 1000000) :
    Calls Try.prog 29 #[.slice a xs.length c, .slice b ys.length c'] w (Ret fun v w' => v = .bool (decide (xs = ys)) ∧ Ch [] w w') := by
  apply purlinref01_Same.calls
  unfold purlinref01_Same.F
  refine br_intro (fun h => ?_) fun h => ?_
  · refine ⟨?_, Ch.refl _ _⟩
    have : xs ≠ ys := by rintro rfl; simp at h
    simp [this]
  · have hl : xs.length = ys.length := by simp at h; omega
    refine ⟨fun n i w' => ∃ k : Nat, i = k ∧ k ≤ xs.length ∧ n = xs.length - k ∧ xs.take k = ys.take k ∧ Ch [] w w', ⟨_, 0, rfl, Nat.zero_le _, rfl, rfl, Ch.refl _ _⟩, ?_⟩
    rintro n dead w1 i ⟨k, rfl, hk, rfl, htk, hc1⟩
    unfold purlinref01_Same.L0
    refine br_dec (fun hlt => ?_) fun hge => ?_
    · have hlt : k < xs.length := by omega
      refine drawC_intro fun w2 hc2 _ => ?_
      have hc12 := hc1.trans0 hc2
      obtain ⟨x, hxk⟩ : ∃ x, xs[k]? = some x := ⟨xs[k], by simp [hlt]⟩
      obtain ⟨y, hyk⟩ : ∃ y, ys[k]? = some y := ⟨ys[k]'(by omega), List.getElem?_eq_getElem (by omega)⟩
      obtain ⟨ab, ao, rfl, hcx⟩ := (hc12.slr hx (.inr (by simp))) k x hxk
      obtain ⟨bb, bo, rfl, hcy⟩ := (hc12.slr hy (.inr (by simp))) k y hyk
      refine ⟨by omega, by omega, ?_⟩
      simp only [okP_some, pb_some, po_some, toNat_nat]
      refine ⟨_, hcx 0 _ rfl, by omega, by omega, ?_⟩
      refine ⟨_, hcy 0 _ rfl, ?_⟩
      have hxe : xs[k] = x := by have h := hxk; rw [List.getElem?_eq_getElem hlt] at h; exact Option.some.inj h
      have hye : ys[k]'(by omega) = y := by have h := hyk; rw [List.getElem?_eq_getElem (by omega)] at h; exact Option.some.inj h
      refine br_intro (fun hne => ?_) fun he => ?_
      · refine ⟨?_, hc12⟩
        have hne : x ≠ y := by simpa using hne
        have : xs ≠ ys := by
          rintro rfl
          exact hne (hxe.symm.trans hye)
        simp [this]
      · have he : x = y := by simpa using he
        have hk1 : IntKind.wrap .i64 ((k : Int) + 1) = ((k + 1 : Nat) : Int) := by rw [← Int.natCast_succ, wrap64_nat (by omega)]
        refine ⟨xs.length - (k + 1), by omega, k + 1, hk1, by omega, rfl, ?_, hc12⟩
        rw [List.take_succ_eq_append_getElem hlt, List.take_succ_eq_append_getElem (by omega : k < ys.length), htk, hxe, hye, he]
    · have : k = xs.length := by omega
      subst this
      refine ⟨?_, hc1⟩
      rw [List.take_of_length_le (Nat.le_refl _), List.take_of_length_le (by omega)] at htk
      simp [htk]
end Go.Proofs.Ytecacohkkdhphaa
