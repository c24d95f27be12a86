/- Lines of those who wait: a call on both lines; the chapter's examples; a line on which calls were done. Conditions: none. -/
import Derived.Test.YtgkbokhmmoemfaaLnH
import Derived.Test.YtgkbokhmmoemfaaLnS
import Derived.Test.YtgkbokhmmoemfaaLf14
namespace Go.Proofs.Ytgkbokhmmoemfaa
open Go.Vc
set_option linter.unusedSimpArgs false
set_option linter.unusedVariables false
set_option maxRecDepth 100000

structure LCall where
  kind : Int
  id : Int
  prio : Int
  until_ : Int
deriving Inhabited
def encC : Enc LCall := ⟨4, fun x => [.int .i64 x.kind, .int .i64 x.id, .int .i64 x.prio, .int .i64 x.until_], fun _ => rfl, by decide, fun x v hv => by
  simp at hv; rcases hv with h | h | h | h <;> rw [h] <;> rfl⟩

/-- A line of n at most. -/
structure LS.fit (s : LS) (n : Nat) : Prop where
  ok : s.ok
  len : s.ws.length ≤ n
  c0 : 0 ≤ s.came
  cn : s.came ≤ n
theorem LS.new_fit (n : Nat) : LS.new.fit n := ⟨LS.new_ok, Nat.zero_le _, Int.le_refl _, by show (0 : Int) ≤ n; omega⟩
theorem LS.fit.mono {s : LS} {n m : Nat} (h : s.fit n) (hm : n ≤ m) : s.fit m := ⟨h.ok, by have := h.len; omega, h.c0, by have := h.cn; omega⟩
theorem LS.fit.put {s : LS} {n : Nat} (h : s.fit n) (id prio until_ : Int) : (s.put id prio until_).fit (n + 1) := by
  refine ⟨h.ok.put _ _ _, ?_, ?_, ?_⟩ <;> unfold LS.put <;> split <;> have := h.len <;> have := h.c0 <;> have := h.cn <;> simp [LS.add] <;> omega
theorem LS.fit.without {s : LS} {n : Nat} (h : s.fit n) (id : Int) : (s.without id).fit n :=
  ⟨h.ok.without _, by have := h.len; have := List.length_filter_le (fun x : Wt => x.id != id) s.ws; show (s.ws.filter _).length ≤ n; omega, h.c0, h.cn⟩
theorem LS.fit.taken {s : LS} {n : Nat} (h : s.fit n) : s.taken.fit n := by
  unfold LS.taken
  split
  · exact h.without _
  · exact h
theorem LS.fit.stay {s : LS} {n : Nat} (h : s.fit n) (now : Int) : (s.stay now).fit n :=
  ⟨h.ok.stay _, by have := h.len; have := List.length_filter_le (fun x : Wt => !(decide (x.until_ ≠ -1) && decide (x.until_ ≤ now))) s.ws; show (s.ws.filter _).length ≤ n; omega, h.c0, h.cn⟩

def LS.step (s : LS) (c : LCall) : LS :=
  if c.kind = 0 then s.put c.id c.prio c.until_ else if c.kind = 1 then s.taken else if c.kind = 2 then s.without c.id else if c.kind = 3 then (if s.late c.until_ then s else s.stay c.until_) else s
theorem LS.fit.step {s : LS} {n : Nat} (h : s.fit n) (c : LCall) : (s.step c).fit (n + 1) := by
  unfold LS.step
  split
  · exact h.put _ _ _
  split
  · exact h.taken.mono (by omega)
  split
  · exact (h.without _).mono (by omega)
  split
  · split
    · exact h.mono (by omega)
    · exact (h.stay _).mono (by omega)
  · exact h.mono (by omega)

theorem LS.put_now (s : LS) (id prio until_ : Int) : (s.put id prio until_).now = s.now := by unfold LS.put; split <;> rfl
theorem LS.taken_now (s : LS) : s.taken.now = s.now := by unfold LS.taken; split <;> rfl

/-- Which blocks the document's list does not lie in. -/
def Off (a : Option Addr) (ws : List Wt) (D : List Nat) : Prop := ws = [] ∨ ∀ x ∈ D, pb a ≠ x
theorem Off.new {w : World} {a a' : Option Addr} {ws0 ws : List Wt} {D : List Nat} (h : Off a ws0 D) (hn : NewOr w a ws0 a' ws) (hD : ∀ x ∈ D, x < w.heap.size) : Off a' ws D := by
  rcases hn with h1 | ⟨h1, h2⟩ | h1
  · exact .inl h1
  · rw [h1, h2]; exact h
  · exact .inr fun x hx => by have := hD x hx; omega
theorem Off.refl {w w' : World} {a : Option Addr} {c : Nat} {ws : List Wt} {D : List Nat} (h : Off a ws D) (hr : RefL w a c ws) (hc : Ch D w w') : RefL w' a c ws :=
  ⟨hc.slr hr.1 (by rcases h with h | h; exact .inl h; exact .inr fun hm => h _ hm rfl), hr.2⟩

theorem does_any {w : World} {b mb n c : Nat} {s t : LS} {a : Option Addr} (k : LCall) (hl : LineRep w b mb s) (hf : s.fit n) (hm : RefL w a c t.ws) (hg : t.fit n) (hn : n ≤ 1000) (hoff : Off a t.ws [b, mb]) :
    Calls Try.prog 31 #[.pointer (some ⟨b, 0, none⟩), .agg #[.slice a t.ws.length c, .int .i64 t.now], .agg #[.int .i64 k.kind, .int .i64 k.id, .int .i64 k.prio, .int .i64 k.until_]] w
      (Ret fun v w' => ∃ a' c' q, v = .tuple #[.agg #[.slice a' (t.step k).ws.length c', .int .i64 (t.step k).now], .bool q] ∧ (t = s → q = true) ∧ LineRep w' b mb (s.step k) ∧ RefL w' a' c' (t.step k).ws ∧ NewOr w a t.ws a' (t.step k).ws ∧ Ch [b, mb] w w') := by
  have sl := hf.len
  have tl := hg.len
  have sc0 := hf.c0
  have scn := hf.cn
  apply purlinlaw14_does.calls
  unfold purlinlaw14_does.F
  refine newBlk_row fun b4 w1 hb4 hs1 hr1 hc1 => newBlk_row fun b5 w2 hb5 hs2 hr2 hc2 => newBlk_row fun b6 w3 hb6 hs3 hr3 hc3 => ?_
  have r1 := hc3.row (hc2.row hr1 (by simp)) (by simp)
  have r2 := hc3.row hr2 (by simp)
  have hc03 := (hc1.trans0 hc2).trans0 hc3
  have hl3 := hl.ch hc03 (by simp) (by simp)
  have hm3 := hm.ch hc03
  have hlt := hl.lt
  have z3 := hc03.size
  have hlt3 : ∀ x ∈ [b, mb, b6], x < w3.heap.size := by intro x hx; simp at hx; omega
  have hoff6 : Off a t.ws [b, mb, b6] := by
    rcases hoff with h | h
    · exact .inl h
    · rcases hm.1.lt with h' | h'
      · exact .inl h'
      · refine .inr fun x hx => ?_
        have h1 := h b (by simp)
        have h2 := h mb (by simp)
        simp at hx
        rcases hx with rfl | rfl | rfl
        · exact h1
        · exact h2
        · omega
  have hfin : ∀ {w4 w9 : World} {a4 : Option Addr} {c4 : Nat} {t' : LS}, RefL w4 a4 c4 t'.ws → NewOr w3 a t.ws a4 t'.ws → Ch [b, mb, b6] w4 w9 → RefL w9 a4 c4 t'.ws ∧ NewOr w a t.ws a4 t'.ws := fun h1 h2 h3 =>
    ⟨(hoff6.new h2 hlt3).refl h1 h3, by
      rcases h2 with h | h | h
      · exact .inl h
      · exact .inr (.inl h)
      · exact .inr (.inr (by omega))⟩
  have hall : ∀ {w4 w9 : World}, Ch [] w3 w4 → Ch [b, mb, b6] w4 w9 → Ch [b, mb] w w9 := fun h1 h2 => (hc03.trans0 h1).mono (D2 := [b, mb]) (by simp) |>.trans h2 (by simp; omega)
  refine ⟨_, r2.cell rfl, ?_⟩
  refine br_intro (fun hk => ?_) fun hk0 => br_intro (fun hk => ?_) fun hk1 => br_intro (fun hk => ?_) fun hk2 => br_intro (fun hk => ?_) fun hk3 => ?_
  · have hk : k.kind = 0 := by simpa using hk
    have es : s.step k = s.put k.id k.prio k.until_ := by simp [LS.step, hk]
    have et : t.step k = t.put k.id k.prio k.until_ := by simp [LS.step, hk]
    rw [es, et]
    refine ⟨_, _, _, r1.cell rfl, _, r1.cell rfl, _, r2.cell rfl, _, r2.cell rfl, _, r2.cell rfl, ?_⟩
    refine Calls.ret (ref_Put_any hm3 hg.ok (by omega) k.id k.prio k.until_) ?_
    rintro v w4 ⟨a4, c4, rfl, hm4, hn4, hc4⟩
    refine ⟨_, _, _, _, _, rfl, ?_⟩
    refine newBlk_row fun b7 w5 hb7 hs5 hr5 hc5 => storeC_row hr5 (by simp) fun w6 hr6 hc6 hs6 => ?_
    have hr6 : Row w6 b7 65 [.slice a4 (t.put k.id k.prio k.until_).ws.length c4, .int .i64 t.now] := hr6
    have z4 := hc4.size
    have hc46 : Ch [] w4 w6 := hc5.trans hc6 (by simp; omega)
    have hc36 : Ch [] w3 w6 := hc4.trans0 hc46
    refine drawS_intro [b, mb, b6] fun w7 hc7 _ => ?_
    have hc37 := hc36.trans0 hc7
    have r27 := hc37.row r2 (by simp)
    have r37 := hc37.row hr3 (by simp)
    have hr7 := hc7.row hr6 (by simp)
    have keep : ∀ w9, Ch [b, mb, b6] w7 w9 → Row w9 b7 65 [.slice a4 (t.put k.id k.prio k.until_).ws.length c4, .int .i64 t.now] := fun w9 h9 => h9.row hr7 (by simp; omega)
    refine ⟨_, r27.cell rfl, _, r27.cell rfl, _, r27.cell rfl, _, _, _, fun w9 h9 => (keep w9 h9).cell rfl, _, fun w9 h9 => (keep w9 h9).cell rfl, ?_⟩
    refine Calls.ret (line_Put_any (hl3.ch hc37 (by simp) (by simp)) hf.ok sc0 (by omega) k.id k.prio k.until_) ?_
    rintro v w8 ⟨rfl, hl8, hc8⟩
    refine ⟨_, rfl, hc8.mono (by simp), ?_⟩
    have z37 := hc37.size
    refine storeC_row (hc8.row r37 (by simp; omega)) (by simp) fun w9 hr9 hc9 _ => ?_
    refine ⟨(hc8.mono (by simp)).trans hc9 (by simp), _, _, _, hr9.cell rfl, _, hr9.cell rfl, ?_⟩
    have hc49 : Ch [b, mb, b6] w4 w9 := (((hc46.trans0 hc7).mono (D2 := [b, mb, b6]) (by simp)).trans hc8 (by simp)).trans hc9 (by simp)
    obtain ⟨f1, f2⟩ := hfin hm4 hn4 hc49
    refine ⟨a4, c4, _, by rw [LS.put_now], fun he => by subst he; simp, hl8.ch hc9 (by simp; omega) (by simp; omega), f1, f2, hall hc4 hc49⟩
  · have hk : k.kind = 1 := by simpa using hk
    have es : s.step k = s.taken := by simp [LS.step, hk]
    have et : t.step k = t.taken := by simp [LS.step, hk]
    rw [es, et]
    refine ⟨_, _, _, r1.cell rfl, _, r1.cell rfl, ?_⟩
    refine Calls.ret (ref_Take_any hm3 hg.ok (by omega)) ?_
    rintro v w4 ⟨a4, c4, rfl, hm4, hn4, hc4⟩
    refine ⟨_, _, _, _, _, _, rfl, ?_⟩
    refine newBlk_row fun b7 w5 hb7 hs5 hr5 hc5 => storeC_row hr5 (by simp) fun w6 hr6 hc6 hs6 => ?_
    have hr6 : Row w6 b7 65 [.slice a4 t.taken.ws.length c4, .int .i64 t.now] := hr6
    have z4 := hc4.size
    have hc46 : Ch [] w4 w6 := hc5.trans hc6 (by simp; omega)
    have hc36 : Ch [] w3 w6 := hc4.trans0 hc46
    refine Calls.ret (line_Take_any sortO (hl3.ch hc36 (by simp) (by simp)) hf.ok (by omega)) ?_
    rintro v w7 ⟨rfl, hl7, hc7⟩
    refine ⟨_, _, rfl, ?_⟩
    have r37 := hc7.row (hc36.row hr3 (by simp)) (by simp; omega)
    have hr7 := hc7.row hr6 (by simp; omega)
    refine ⟨_, _, _, hr7.cell rfl, _, hr7.cell rfl, ?_⟩
    have fin : ∀ w9, Ch [b6] w7 w9 → ∀ q : Bool, (t = s → q = true) → ∃ a' c' q', Value.tuple #[.agg #[.slice a4 t.taken.ws.length c4, .int .i64 t.now], .bool q] = .tuple #[.agg #[.slice a' t.taken.ws.length c', .int .i64 t.taken.now], .bool q'] ∧ (t = s → q' = true) ∧ LineRep w9 b mb s.taken ∧ RefL w9 a' c' t.taken.ws ∧ NewOr w a t.ws a' t.taken.ws ∧ Ch [b, mb] w w9 := fun w9 hc9 q hq => by
      have hc49 : Ch [b, mb, b6] w4 w9 := ((hc46.mono (D2 := [b, mb, b6]) (by simp)).trans hc7 (by simp)).trans hc9 (by simp)
      obtain ⟨f1, f2⟩ := hfin hm4 hn4 hc49
      exact ⟨a4, c4, q, by rw [LS.taken_now], hq, hl7.ch hc9 (by simp; omega) (by simp; omega), f1, f2, hall hc4 hc49⟩
    refine br_intro (fun h => ?_) fun h => ?_
    · refine storeC_row r37 (by simp) fun w9 hr9 hc9 _ => ?_
      exact ⟨_, _, _, hr9.cell rfl, _, hr9.cell rfl, fin w9 hc9 _ (fun he => by subst he; simp)⟩
    · refine storeC_row r37 (by simp) fun w9 hr9 hc9 _ => ?_
      exact ⟨_, _, _, hr9.cell rfl, _, hr9.cell rfl, fin w9 hc9 _ (fun he => by subst he; simp at h)⟩
  · have hk : k.kind = 2 := by simpa using hk
    have es : s.step k = s.without k.id := by simp [LS.step, hk]
    have et : t.step k = t.without k.id := by simp [LS.step, hk]
    rw [es, et]
    refine ⟨_, _, _, r1.cell rfl, _, r1.cell rfl, _, r2.cell rfl, ?_⟩
    refine Calls.ret (ref_Drop_any hm3 hg.ok (by omega) k.id) ?_
    rintro v w4 ⟨a4, c4, rfl, hm4, hn4, hc4⟩
    refine ⟨_, _, _, _, _, rfl, ?_⟩
    refine newBlk_row fun b7 w5 hb7 hs5 hr5 hc5 => storeC_row hr5 (by simp) fun w6 hr6 hc6 hs6 => ?_
    have hr6 : Row w6 b7 65 [.slice a4 (t.without k.id).ws.length c4, .int .i64 t.now] := hr6
    have z4 := hc4.size
    have hc46 : Ch [] w4 w6 := hc5.trans hc6 (by simp; omega)
    have hc36 : Ch [] w3 w6 := hc4.trans0 hc46
    refine drawS_intro [b, mb, b6] fun w7 hc7 _ => ?_
    have hc37 := hc36.trans0 hc7
    have r27 := hc37.row r2 (by simp)
    have r37 := hc37.row hr3 (by simp)
    have hr7 := hc7.row hr6 (by simp)
    have keep : ∀ w9, Ch [b, mb, b6] w7 w9 → Row w9 b7 65 [.slice a4 (t.without k.id).ws.length c4, .int .i64 t.now] := fun w9 h9 => h9.row hr7 (by simp; omega)
    refine ⟨_, r27.cell rfl, _, _, _, fun w9 h9 => (keep w9 h9).cell rfl, _, fun w9 h9 => (keep w9 h9).cell rfl, ?_⟩
    refine Calls.ret (line_Drop_any (hl3.ch hc37 (by simp) (by simp)) k.id) ?_
    rintro v w8 ⟨rfl, hl8, hc8⟩
    refine ⟨_, rfl, hc8.mono (by simp), ?_⟩
    refine storeC_row (hc8.row r37 (by simp; omega)) (by simp) fun w9 hr9 hc9 _ => ?_
    refine ⟨(hc8.mono (by simp)).trans hc9 (by simp), _, _, _, hr9.cell rfl, _, hr9.cell rfl, ?_⟩
    have hc49 : Ch [b, mb, b6] w4 w9 := (((hc46.trans0 hc7).mono (D2 := [b, mb, b6]) (by simp)).trans hc8 (by simp)).trans hc9 (by simp)
    obtain ⟨f1, f2⟩ := hfin hm4 hn4 hc49
    exact ⟨a4, c4, _, rfl, fun he => by subst he; simp, hl8.ch hc9 (by simp; omega) (by simp; omega), f1, f2, hall hc4 hc49⟩
  · have hk : k.kind = 3 := by simpa using hk
    have es : s.step k = if s.late k.until_ then s else s.stay k.until_ := by simp [LS.step, hk]
    have et : t.step k = if t.late k.until_ then t else t.stay k.until_ := by simp [LS.step, hk]
    rw [es, et]
    refine ⟨_, _, _, r1.cell rfl, _, r1.cell rfl, _, r2.cell rfl, ?_⟩
    refine Calls.ret (ref_Expire_any hm3 hg.ok (by omega) k.until_) ?_
    rintro v w4 ⟨hc4, hlate, hnlate⟩
    have hcase : ∃ (t' : LS) (a4 a5 : Option Addr) (c4 c5 : Nat) (ids : List Int) (e : Int), t' = (if t.late k.until_ then t else t.stay k.until_) ∧ v = .tuple #[.agg #[.slice a4 t'.ws.length c4, .int .i64 t'.now], .slice a5 ids.length c5, .int .i64 e] ∧
        RefL w4 a4 c4 t'.ws ∧ NewOr w3 a t.ws a4 t'.ws ∧ SlR (Enc.int .i64) w4 a5 ids ∧ (ids = [] ∨ w3.heap.size ≤ pb a5) ∧ (e = if t.late k.until_ then 144 else 0) ∧ (ids = if t.late k.until_ then [] else (ordE (t.gone k.until_)).map Wt.id) := by
      by_cases h : t.late k.until_
      · exact ⟨t, a, none, c, 0, [], 144, by rw [if_pos h], hlate h, hm3.ch hc4, .inr (.inl ⟨rfl, rfl⟩), SlR.nil _ _ _, .inl rfl, by rw [if_pos h], by rw [if_pos h]⟩
      · obtain ⟨a4, c4, a5, c5, hv, h1, h2, h3, h4⟩ := hnlate h
        exact ⟨t.stay k.until_, a4, a5, c4, c5, _, 0, by rw [if_neg h], hv, h1, h2, h3, h4, by rw [if_neg h], by rw [if_neg h]⟩
    obtain ⟨t', a4, a5, c4, c5, ids, e, ht', rfl, hm4, hn4, hids, hidsb, he_, hidse⟩ := hcase
    rw [← ht']
    refine ⟨_, _, _, _, _, _, _, _, rfl, ?_⟩
    refine newBlk_row fun b7 w5 hb7 hs5 hr5 hc5 => storeC_row hr5 (by simp) fun w6 hr6 hc6 hs6 => ?_
    have hr6 : Row w6 b7 65 [.slice a4 t'.ws.length c4, .int .i64 t'.now] := hr6
    have z4 := hc4.size
    have hc46 : Ch [] w4 w6 := hc5.trans hc6 (by simp; omega)
    have hc36 : Ch [] w3 w6 := hc4.trans0 hc46
    refine ⟨_, (hc36.row r2 (by simp)).cell rfl, ?_⟩
    refine Calls.ret (line_Expire_any sortE (hl3.ch hc36 (by simp) (by simp)) hf.ok (by omega) k.until_) ?_
    rintro v w7 ⟨hlate7, hnlate7⟩
    have hcase : ∃ (s' : LS) (a7 : Option Addr) (c7 : Nat) (ids7 : List Int) (e7 : Int), s' = (if s.late k.until_ then s else s.stay k.until_) ∧ v = .tuple #[.slice a7 ids7.length c7, .int .i64 e7] ∧
        LineRep w7 b mb s' ∧ SlR (Enc.int .i64) w7 a7 ids7 ∧ (e7 = if s.late k.until_ then 144 else 0) ∧ (ids7 = if s.late k.until_ then [] else (ordE (s.gone k.until_)).map Wt.id) ∧ ids7.length ≤ 1000 ∧ Ch [b, mb] w6 w7 := by
      by_cases h : s.late k.until_
      · obtain ⟨hv, h1, h2⟩ := hlate7 h
        exact ⟨s, none, 0, [], 144, by rw [if_pos h], hv, h1, SlR.nil _ _ _, by rw [if_pos h], by rw [if_pos h], by simp, h2.mono (by simp)⟩
      · obtain ⟨a7, c7, hv, h1, h2, h3⟩ := hnlate7 h
        refine ⟨s.stay k.until_, a7, c7, _, 0, by rw [if_neg h], hv, h2, h1.slr, by rw [if_neg h], by rw [if_neg h], ?_, h3⟩
        rw [List.length_map, (ordE_perm _).length_eq]
        have := List.length_filter_le (fun x : Wt => decide (x.until_ ≠ -1) && decide (x.until_ ≤ k.until_)) s.ws
        show (s.ws.filter _).length ≤ _
        omega
    obtain ⟨s', a7, c7, ids7, e7, hs', rfl, hl7, hids7, he7, hidse7, hlen7, hc7⟩ := hcase
    rw [← hs']
    refine ⟨_, _, _, _, rfl, ?_⟩
    have hc47 : Ch [b, mb, b6] w4 w7 := (hc46.mono (D2 := [b, mb, b6]) (by simp)).trans hc7 (by simp)
    have r37 := hc7.row (hc36.row hr3 (by simp)) (by simp; omega)
    have hr7 := hc7.row hr6 (by simp; omega)
    have hids47 : SlR (Enc.int .i64) w7 a5 ids := hc7.slr (hc46.slr hids (.inr (by simp))) (by
      rcases hidsb with h | h
      · exact .inl h
      · exact .inr (by simp; omega))
    refine drawS_intro [b6] fun w8 hc8 _ => ?_
    have keep : ∀ w9, Ch [b6] w8 w9 → Row w9 b7 65 [.slice a4 t'.ws.length c4, .int .i64 t'.now] := fun w9 h9 => h9.row (hc8.row hr7 (by simp)) (by simp; omega)
    have r38 := hc8.row r37 (by simp)
    have fin : ∀ w9, Ch [b6] w8 w9 → ∀ q : Bool, (t = s → q = true) → ∃ a' c' q', Value.tuple #[.agg #[.slice a4 t'.ws.length c4, .int .i64 t'.now], .bool q] = .tuple #[.agg #[.slice a' t'.ws.length c', .int .i64 t'.now], .bool q'] ∧ (t = s → q' = true) ∧ LineRep w9 b mb s' ∧ RefL w9 a' c' t'.ws ∧ NewOr w a t.ws a' t'.ws ∧ Ch [b, mb] w w9 := fun w9 hc9 q hq => by
      have hc49 : Ch [b, mb, b6] w4 w9 := (hc47.trans0 hc8).trans hc9 (by simp)
      obtain ⟨f1, f2⟩ := hfin hm4 hn4 hc49
      exact ⟨a4, c4, q, rfl, hq, (hl7.ch hc8 (by simp) (by simp)).ch hc9 (by simp; omega) (by simp; omega), f1, f2, hall hc4 hc49⟩
    refine br_intro (fun h => ?_) fun h => ?_
    · refine ⟨_, _, _, fun w9 h9 => (keep w9 h9).cell rfl, _, fun w9 h9 => (keep w9 h9).cell rfl, ?_⟩
      refine Calls.ret (same_any (hc8.slr hids7 (.inr (by simp))) (hc8.slr hids47 (.inr (by simp))) (by omega)) ?_
      rintro v w9 ⟨rfl, hc9⟩
      refine ⟨_, rfl, hc9.mono (by simp), ?_⟩
      refine storeC_row (hc9.row r38 (by simp)) (by simp) fun w10 hr10 hc10 _ => ?_
      have hc810 : Ch [b6] w8 w10 := (hc9.mono (D2 := [b6]) (by simp)).trans hc10 (by simp)
      exact ⟨hc810, _, _, _, hr10.cell rfl, _, hr10.cell rfl, fin w10 hc810 _ (fun he => by subst he; rw [hidse, hidse7]; simp)⟩
    · refine ⟨_, _, _, fun w9 h9 => (keep w9 h9).cell rfl, _, fun w9 h9 => (keep w9 h9).cell rfl, ?_⟩
      refine storeC_row r38 (by simp) fun w10 hr10 hc10 _ => ?_
      exact ⟨hc10, _, _, _, hr10.cell rfl, _, hr10.cell rfl, fin w10 hc10 _ (fun he => by subst he; rw [he7, he_] at h; simp at h)⟩
  · have es : s.step k = s := by
      have h0 : k.kind ≠ 0 := by simpa using hk0
      have h1 : k.kind ≠ 1 := by simpa using hk1
      have h2 : k.kind ≠ 2 := by simpa using hk2
      have h3 : k.kind ≠ 3 := by simpa using hk3
      simp [LS.step, h0, h1, h2, h3]
    have et : t.step k = t := by
      have h0 : k.kind ≠ 0 := by simpa using hk0
      have h1 : k.kind ≠ 1 := by simpa using hk1
      have h2 : k.kind ≠ 2 := by simpa using hk2
      have h3 : k.kind ≠ 3 := by simpa using hk3
      simp [LS.step, h0, h1, h2, h3]
    rw [es, et]
    refine retL r1 hr3 fun w' hc' => ?_
    have hc3' : Ch [b, mb, b6] w3 w' := hc'.mono (by simp)
    obtain ⟨f1, f2⟩ := hfin hm3 (.inr (.inl ⟨rfl, rfl⟩)) hc3'
    exact ⟨a, c, true, rfl, fun _ => rfl, hl3.ch hc' (by simp; omega) (by simp; omega), f1, f2, hall (Ch.refl _ _) hc3'⟩
end Go.Proofs.Ytgkbokhmmoemfaa
