/- Lines of those who wait: the chapter's examples; a line on which calls were done; LinePlays, LineTakes. Conditions: none. -/
import Derived.Test.YtgkbokhmmoemfaaLnI
namespace Go.Proofs.Ytgkbokhmmoemfaa
open Go.Vc
set_option linter.unusedSimpArgs false
set_option linter.unusedVariables false
set_option maxRecDepth 100000

def sA1 : LS := ⟨[⟨1, 5, -1, 1⟩], 1, 0⟩
def sA2 : LS := ⟨[⟨1, 5, -1, 1⟩, ⟨2, 9, 20, 2⟩], 2, 0⟩
def sA3 : LS := ⟨[⟨1, 5, -1, 1⟩, ⟨2, 9, 20, 2⟩, ⟨3, 5, 10, 3⟩], 3, 0⟩
def sA4 : LS := ⟨[⟨1, 5, -1, 1⟩, ⟨2, 9, 20, 2⟩, ⟨3, 5, 10, 3⟩, ⟨4, 9, 10, 4⟩], 4, 0⟩
def sA5 : LS := ⟨[⟨1, 5, -1, 1⟩, ⟨2, 9, 20, 2⟩], 4, 10⟩
def sA6 : LS := ⟨[⟨1, 5, -1, 1⟩], 4, 10⟩
def sA7 : LS := ⟨[], 4, 10⟩
theorem pA1 : LS.new.put 1 5 (-1) = sA1 := by kernel_rfl
theorem pA2 : sA1.put 2 9 20 = sA2 := by kernel_rfl
theorem pA3 : sA2.put 3 5 10 = sA3 := by kernel_rfl
theorem pA4 : sA3.put 4 9 10 = sA4 := by kernel_rfl
theorem pA5 : sA4.put 1 0 5 = sA4 := by kernel_rfl
theorem pA6 : sA4.stay 10 = sA5 := by kernel_rfl
theorem pA7 : sA5.put 5 1 10 = sA5 := by kernel_rfl
theorem pA8 : sA5.without 2 = sA6 := by kernel_rfl
theorem pA9 : sA6.without 1 = sA7 := by kernel_rfl
theorem fA4 : sA4.fit 4 := pA4 ▸ (pA3 ▸ (pA2 ▸ (pA1 ▸ (LS.new_fit 0).put 1 5 (-1)).put 2 9 20).put 3 5 10).put 4 9 10
theorem fA5 : sA5.fit 4 := pA6 ▸ fA4.stay 10
theorem fA6 : sA6.fit 4 := pA8 ▸ fA5.without 2
theorem fA7 : sA7.fit 4 := pA9 ▸ fA6.without 1
theorem lA4 : sA4.list = [2, 4, 1, 3] := by
  have : ordL sA4.ws = [⟨2, 9, 20, 2⟩, ⟨4, 9, 10, 4⟩, ⟨1, 5, -1, 1⟩, ⟨3, 5, 10, 3⟩] := (ordL_eq fA4.ok.came_ (by decide) (by decide)).symm
  unfold LS.list; rw [this]; rfl
theorem lA5 : sA5.list = [2, 1] := by
  have : ordL sA5.ws = [⟨2, 9, 20, 2⟩, ⟨1, 5, -1, 1⟩] := (ordL_eq fA5.ok.came_ (by decide) (by decide)).symm
  unfold LS.list; rw [this]; rfl
theorem lA6 : sA6.list = [1] := by
  have : ordL sA6.ws = [⟨1, 5, -1, 1⟩] := (ordL_eq fA6.ok.came_ (by decide) (by decide)).symm
  unfold LS.list; rw [this]; rfl
theorem lA7 : sA7.list = [] := by
  have : ordL sA7.ws = [] := (ordL_eq fA7.ok.came_ (by decide) (by decide)).symm
  unfold LS.list; rw [this]; rfl
theorem gA4 : (ordE (sA4.gone 10)).map Wt.id = [4, 3] := by
  have : ordE (sA4.gone 10) = [⟨4, 9, 10, 4⟩, ⟨3, 5, 10, 3⟩] := (ordE_eq (fA4.ok.came_.filter _) (by decide) (by decide)).symm
  rw [this]; rfl

theorem awake14_any {w : World} : Calls Try.prog 27 #[] w (Ret fun v w' => v = .bool true ∧ Ch [] w w') := by
  apply purlinlaw14_awake.calls
  unfold purlinlaw14_awake.F
  refine Calls.ret line_New_any ?_
  rintro v w1 ⟨b, mb, rfl, hl1, hc1, hb, hmb⟩
  refine ⟨_, rfl, br_f rfl ?_⟩
  refine Calls.ret (line_Put_any hl1 LS.new_ok (by decide) (by decide) 1 5 (-1)) ?_
  rintro v w2 ⟨rfl, hl2, hc2⟩
  rw [pA1] at hl2
  refine ⟨_, rfl, ?_⟩
  have f1 : sA1.fit 1 := pA1 ▸ (LS.new_fit 0).put 1 5 (-1)
  refine Calls.ret (line_Put_any hl2 f1.ok (by decide) (by decide) 2 9 20) ?_
  rintro v w3 ⟨rfl, hl3, hc3⟩
  rw [pA2] at hl3
  refine ⟨_, rfl, ?_⟩
  have f2 : sA2.fit 2 := pA2 ▸ f1.put 2 9 20
  refine Calls.ret (line_Put_any hl3 f2.ok (by decide) (by decide) 3 5 10) ?_
  rintro v w4 ⟨rfl, hl4, hc4⟩
  rw [pA3] at hl4
  refine ⟨_, rfl, ?_⟩
  have f3 : sA3.fit 3 := pA3 ▸ f2.put 3 5 10
  refine Calls.ret (line_Put_any hl4 f3.ok (by decide) (by decide) 4 9 10) ?_
  rintro v w5 ⟨rfl, hl5, hc5⟩
  rw [pA4] at hl5
  refine ⟨_, rfl, ?_⟩
  refine Calls.ret (line_List_any sortO hl5 fA4.ok (by decide)) ?_
  rintro v w6 ⟨a6, c6, rfl, ho6, hc6⟩
  rw [lA4] at ho6 ⊢
  refine ⟨_, _, _, rfl, ?_⟩
  have hl6 := hl5.ch hc6 (by simp) (by simp)
  refine Calls.ret (line_Put_any hl6 fA4.ok (by decide) (by decide) 1 0 5) ?_
  rintro v w7 ⟨rfl, hl7, hc7⟩
  rw [pA5] at hl7
  refine ⟨_, rfl, ?_⟩
  refine Calls.ret (line_Expire_any sortE hl7 fA4.ok (by decide) 10) ?_
  rintro v w8 ⟨_, hn8⟩
  obtain ⟨a8, c8, rfl, ho8, hl8, hc8⟩ := hn8 (by decide)
  rw [gA4] at ho8 ⊢
  rw [pA6] at hl8
  refine ⟨_, _, _, _, rfl, ?_⟩
  refine Calls.ret (line_Put_any hl8 fA5.ok (by decide) (by decide) 5 1 10) ?_
  rintro v w9 ⟨rfl, hl9, hc9⟩
  rw [pA7] at hl9
  refine ⟨_, rfl, ?_⟩
  refine Calls.ret (line_Take_any sortO hl9 fA5.ok (by decide)) ?_
  rintro v w10 ⟨rfl, hl10, hc10⟩
  have t5 : sA5.taken = sA6 := by unfold LS.taken; rw [lA5]; exact pA8
  rw [t5] at hl10
  rw [lA5]
  refine ⟨_, _, rfl, ?_⟩
  refine Calls.ret (line_Take_any sortO hl10 fA6.ok (by decide)) ?_
  rintro v w11 ⟨rfl, hl11, hc11⟩
  have t6 : sA6.taken = sA7 := by unfold LS.taken; rw [lA6]; exact pA9
  rw [t6] at hl11
  rw [lA6]
  refine ⟨_, _, rfl, ?_⟩
  refine Calls.ret (line_Take_any sortO hl11 fA7.ok (by decide)) ?_
  rintro v w12 ⟨rfl, hl12, hc12⟩
  have t7 : sA7.taken = sA7 := by unfold LS.taken; rw [lA7]; rfl
  rw [t7] at hl12
  rw [lA7]
  refine ⟨_, _, rfl, ?_⟩
  refine br_t (by decide) (br_t (by decide) (br_t (by decide) (br_t (by decide) ?_)))
  refine newBlk_row fun b1 w13 hb1 hs13 hr13 hc13 => ?_
  have D : ∀ y ∈ [b, mb], y ∈ ([] : List Nat) ∨ w.heap.size ≤ y := by intro y hy; right; simp at hy; omega
  have Dm : ∀ y ∈ [mb], y ∈ ([] : List Nat) ∨ w.heap.size ≤ y := by intro y hy; right; simp at hy; omega
  have h07 : Ch [] w w5 := (((hc1.trans hc2 D).trans hc3 D).trans hc4 D).trans hc5 D
  have z5 := h07.size
  have hlt5 := hl5.lt
  have ho6b := ho6.base
  have hq : ∀ y ∈ [b, mb], a6 = none ∨ pb a6 ≠ y := by
    intro y hy
    rcases ho6b with h | h
    · exact .inl h
    · right; simp at hy; omega
  have n1 : a6 = none ∨ pb a6 ∉ [b, mb] := by
    rcases ho6b with h | h
    · exact .inl h
    · right; simp; omega
  have n2 : a6 = none ∨ pb a6 ∉ [mb] := by
    rcases ho6b with h | h
    · exact .inl h
    · right; simp; omega
  have ho13 := hc13.own (hc12.own (hc11.own (hc10.own (hc9.own (hc8.own (hc7.own ho6 n1) n1) n1) n2) n2) n2) (.inr (by simp))
  have hlt7 := hl7.lt
  have m1 : a8 = none ∨ pb a8 ∉ [b, mb] := by
    rcases ho8.base with h | h
    · exact .inl h
    · right; simp; omega
  have m2 : a8 = none ∨ pb a8 ∉ [mb] := by
    rcases ho8.base with h | h
    · exact .inl h
    · right; simp; omega
  have ho813 := hc13.own (hc12.own (hc11.own (hc10.own (hc9.own ho8 m1) m2) m2) m2) (.inr (by simp))
  have hc013 : Ch [] w w13 := (((((((h07.trans0 hc6).trans hc7 D).trans hc8 D).trans hc9 D).trans hc10 Dm).trans hc11 Dm).trans hc12 Dm).trans0 hc13
  have hsm := same_any (w := w13) (xs := [2, 4, 1, 3]) (ys := [2, 4, 1, 3]) (c := c6) (c' := 4) ho13.slr (SlR.row (E := Enc.int .i64) hr13) (by decide)
  refine Calls.ret hsm ?_
  rintro v w14 ⟨rfl, hc14⟩
  refine ⟨_, rfl, br_t (by decide) (br_t (by decide) (br_t (by decide) ?_))⟩
  refine newBlk_row fun b2 w15 hb2 hs15 hr15 hc15 => ?_
  have hsm2 := same_any (w := w15) (xs := [4, 3]) (ys := [4, 3]) (c := c8) (c' := 2) (hc15.own (hc14.own ho813 (.inr (by simp))) (.inr (by simp))).slr (SlR.row (E := Enc.int .i64) hr15) (by decide)
  refine Calls.ret hsm2 ?_
  rintro v w16 ⟨rfl, hc16⟩
  refine ⟨_, rfl, br_t (by decide) (br_t (by decide) (br_t (by decide) (br_t (by decide) (br_t (by decide) (br_t (by decide) (br_t (by decide) ?_))))))⟩
  have hl16 := (((hl12.ch hc13 (by simp) (by simp)).ch hc14 (by simp) (by simp)).ch hc15 (by simp) (by simp)).ch hc16 (by simp) (by simp)
  refine Calls.ret (line_Now_any hl16) ?_
  rintro v w17 ⟨rfl, rfl⟩
  exact ⟨_, rfl, rfl, ((hc013.trans0 hc14).trans0 hc15).trans0 hc16⟩

def stepN (s : LS) : List LCall → LS
  | [] => s
  | c :: r => stepN (s.step c) r
theorem stepN_snoc (s : LS) (l : List LCall) (c : LCall) : stepN s (l ++ [c]) = (stepN s l).step c := by
  induction l generalizing s with
  | nil => rfl
  | cons x r ih => exact ih _
theorem stepN_fit {s : LS} {n : Nat} (h : s.fit n) : ∀ l : List LCall, (stepN s l).fit (n + l.length)
  | [] => h
  | c :: r => by
    have := stepN_fit (h.step c) r
    exact this.mono (by simp; omega)

theorem made_any {w : World} {a : Option Addr} {c : Nat} {xs : List LCall} (hx : SlR encC w a xs) :
    Calls Try.prog 36 #[.slice a xs.length c] w (Ret fun v w' => ∃ b mb s, v = .pointer (some ⟨b, 0, none⟩) ∧ LineRep w' b mb s ∧ s.fit 60 ∧ Ch [] w w' ∧ w.heap.size ≤ b ∧ w.heap.size ≤ mb) := by
  apply purlinlaw14_made.calls
  unfold purlinlaw14_made.F
  refine Calls.ret line_New_any ?_
  rintro v w1 ⟨b, mb, rfl, hl1, hc1, hb, hmb⟩
  refine ⟨_, rfl, ?_⟩
  have D : ∀ y ∈ [b, mb], y ∈ ([] : List Nat) ∨ w.heap.size ≤ y := by intro y hy; right; simp at hy; omega
  refine ⟨fun n i w' => ∃ (k : Nat) (s : LS), i = k ∧ k ≤ 60 ∧ n = 60 - k ∧ LineRep w' b mb s ∧ s.fit k ∧ Ch [] w w', ⟨_, 0, LS.new, rfl, by omega, rfl, hl1, LS.new_fit 0, hc1⟩, ?_⟩
  rintro n dead w2 i ⟨k, s, rfl, hk, rfl, hl2, hf2, hc2⟩
  unfold purlinlaw14_made.L0
  have done : ∃ b' mb' s', Value.pointer (some ⟨b, 0, none⟩) = .pointer (some ⟨b', 0, none⟩) ∧ LineRep w2 b' mb' s' ∧ s'.fit 60 ∧ Ch [] w w2 ∧ w.heap.size ≤ b' ∧ w.heap.size ≤ mb' := ⟨b, mb, s, rfl, hl2, hf2.mono hk, hc2, hb, hmb⟩
  refine br_dec (fun hlt => br_dec (fun hlt2 => br_t rfl ?_) fun _ => done) fun _ => done
  have hlt : k < xs.length := by omega
  have hlt2 : k < 60 := by omega
  obtain ⟨x, hxk⟩ : ∃ x, xs[k]? = some x := ⟨xs[k], by simp [hlt]⟩
  refine ⟨by omega, by omega, ?_⟩
  obtain ⟨ab, ao, rfl, hcell⟩ := (hc2.slr hx (.inr (by simp))) k x hxk
  simp only [okP_some, pb_some, po_some, toNat_nat]
  refine ⟨_, hcell 0 _ rfl, _, hcell 1 _ rfl, _, hcell 2 _ rfl, _, hcell 3 _ rfl, ?_⟩
  refine Calls.ret (does_any (t := LS.new) (a := none) (c := 0) x hl2 hf2 ⟨SlR.nil _ _ _, Nat.le_refl _⟩ (LS.new_fit k) (by omega) (.inl rfl)) ?_
  rintro v w3 ⟨a3, c3, q, rfl, _, hl3, _, _, hc3⟩
  refine ⟨_, _, _, _, _, rfl, ?_⟩
  have hk1 : IntKind.wrap .i64 ((k : Int) + 1) = ((k + 1 : Nat) : Int) := by rw [← Int.natCast_succ, wrap64_nat (by omega)]
  exact ⟨60 - (k + 1), by omega, k + 1, s.step x, hk1, by omega, rfl, hl3, hf2.step x, hc2.trans hc3 D⟩
end Go.Proofs.Ytgkbokhmmoemfaa
