/- Logs of faults: what the functions of package health do. Conditions: none. -/
import Derived.Test.YtgkbokhmmoemfaaHf
import Derived.Test.YtgkbokhmmoemfaaHpA
namespace Go.Proofs.Ytgkbokhmmoemfaa
open Go.Vc
set_option linter.unusedSimpArgs false
set_option linter.unusedVariables false

/-- Block b is a log of so many entries at most, to which all were added. -/
def LogRep (w : World) (b size : Nat) (all : List Entry) : Prop :=
  ∃ l first, LogInv size all l first ∧ Row w b 76 (logCells l size all.length first (min all.length size : Nat))

theorem LogRep.ch {D : List Nat} {w w' : World} {b size : Nat} {all : List Entry} (hr : LogRep w b size all) (h : Ch D w w') (hb : b ∉ D) : LogRep w' b size all := by
  obtain ⟨l, f, hi, hr⟩ := hr
  exact ⟨l, f, hi, h.row hr hb⟩
theorem LogRep.lt {w : World} {b size : Nat} {all : List Entry} (h : LogRep w b size all) : b < w.heap.size := by
  obtain ⟨l, f, hi, hr⟩ := h; exact hr.lt

def zeroE : Entry := ⟨0, 0, 0, 0, 0⟩
theorem zc76 : zcells Try.prog 76 = (logCells (List.replicate 64 zeroE) 0 0 0 0).toArray := by kernel_rfl

theorem health_New_ok {n : Nat} {w : World} (h1 : 1 ≤ n) (h2 : n ≤ 64) :
    Calls Try.prog 12 #[.int .i64 n] w (Ret fun v w' => ∃ b, v = .tuple #[.pointer (some ⟨b, 0, none⟩), .int .i64 0] ∧ LogRep w' b n [] ∧ Ch [] w w' ∧ w.heap.size ≤ b) := by
  apply health_New.calls
  unfold health_New.F
  refine br_dec (fun h => by omega) fun _ => br_dec (fun h => by omega) fun _ => ?_
  refine newBlk_row fun b w' hb _ hr hc => ⟨b, rfl, ⟨List.replicate 64 zeroE, 0, LogInv.new h1 h2 _ (by simp), ?_⟩, hc, by omega⟩
  rw [zc76] at hr
  have e : ((logCells (List.replicate 64 zeroE) 0 0 0 0).toArray.setIfInBounds 320 (.int .i64 (n : Int))).toList = logCells (List.replicate 64 zeroE) n 0 0 0 := by
    simp [logCells, Enc.flat_length, encE, List.set_append_right]
  rw [e] at hr
  simpa using hr

theorem health_New_bad {n : Int} {w : World} (h : n < 1 ∨ 64 < n) :
    Calls Try.prog 12 #[.int .i64 n] w (Ret fun v w' => v = .tuple #[.pointer none, .int .i64 180] ∧ Ch [] w w') := by
  apply health_New.calls
  unfold health_New.F
  refine br_dec (fun h => ⟨rfl, Ch.refl _ _⟩) fun _ => br_dec (fun h => ⟨rfl, Ch.refl _ _⟩) fun _ => ?_
  omega

theorem health_Dropped_any {w : World} {b size : Nat} {all : List Entry} (hr : LogRep w b size all) (hm : all.length ≤ 9223372036854775807) :
    Calls Try.prog 20 #[.pointer (some ⟨b, 0, none⟩)] w (Ret fun v w' => v = .int .i64 ((all.length - min all.length size : Nat) : Int) ∧ Ch [] w w') := by
  obtain ⟨l, f, hi, hr⟩ := hr
  apply health_Log_Dropped.calls
  unfold health_Log_Dropped.F
  refine drawC_intro fun w1 hc _ => ?_
  have hr1 := hc.row hr (by simp)
  refine ⟨_, hr1.cell (logCells_tail hi.len _ _ _ _ 1), _, hr1.cell (logCells_tail hi.len _ _ _ _ 3), ?_, hc⟩
  have : ((all.length : Int) - ((min all.length size : Nat) : Int)) = ((all.length - min all.length size : Nat) : Int) := by omega
  rw [this, wrap64_nat (by omega)]

/-- What the loop of Add does in a round. -/
theorem health_Add_any {w : World} {b size : Nat} {all xs : List Entry} {a : Option Addr} {c : Nat} (hr : LogRep w b size all) (hx : SlR encE w a xs) (hd : xs = [] ∨ pb a ≠ b) (hm : all.length + xs.length ≤ 9223372036854775800) :
    Calls Try.prog 15 #[.pointer (some ⟨b, 0, none⟩), .slice a xs.length c] w (Ret fun v w' => v = .tuple #[] ∧ LogRep w' b size (all ++ xs) ∧ Ch [b] w w') := by
  apply health_Log_Add.calls
  unfold health_Log_Add.F
  refine ⟨fun n i w' => ∃ k : Nat, i = k ∧ k ≤ xs.length ∧ n = xs.length - k ∧ LogRep w' b size (all ++ xs.take k) ∧ Ch [b] w w', ⟨_, 0, rfl, Nat.zero_le _, rfl, by simpa using hr, Ch.refl _ _⟩, ?_⟩
  rintro n dead w1 i ⟨k, rfl, hk, rfl, hr1, hc1⟩
  unfold health_Log_Add.L0
  refine br_dec (fun hlt => ?_) fun hge => ?_
  · have hlt : k < xs.length := by omega
    obtain ⟨x, hxk⟩ : ∃ x, xs[k]? = some x := ⟨xs[k], by simp [hlt]⟩
    refine ⟨by omega, by omega, ?_⟩
    obtain ⟨ab, ao, rfl, hcell⟩ := (hc1.slr hx (by rcases hd with h | h; exact .inl h; exact .inr (by simpa using h))) k x hxk
    simp only [okP_some, pb_some, po_some, toNat_nat]
    refine ⟨_, hcell 0 _ rfl, _, hcell 1 _ rfl, _, hcell 2 _ rfl, _, hcell 3 _ rfl, _, hcell 4 _ rfl, ?_⟩
    refine newBlk_row fun nb w2 hnb hs2 hrow2 hc2 => ?_
    refine storeC_row hrow2 (by simp) fun w3 hrow3 hc3 hs3 => ?_
    refine drawC_intro fun w4 hc4 _ => ?_
    have hbn : b ≠ nb := by have := hr1.lt; omega
    have hr4 : LogRep w4 b size (all ++ xs.take k) := ((hr1.ch hc2 (by simp)).ch hc3 (by simpa using hbn)).ch hc4 (by simp)
    have hrow4 := hc4.row hrow3 (by simp)
    have hc14 : Ch [b] w w4 := ((hc1.trans0 hc2).trans hc3 (by intro y hy; right; simp at hy; subst hy; have := hc1.size; omega)).trans0 hc4
    have hlen : (all ++ xs.take k).length = all.length + k := by simp; omega
    have htk : all ++ xs.take (k + 1) = (all ++ xs.take k) ++ [x] := by
      rw [List.take_succ_eq_append_getElem hlt, List.append_assoc]
      have : xs[k] = x := by simpa [hlt] using hxk
      rw [this]
    obtain ⟨A, hA⟩ : ∃ A, A = all ++ xs.take k := ⟨_, rfl⟩
    rw [← hA] at hr4 hlen htk
    obtain ⟨l, f, hi, hrow⟩ := hr4
    have h64 := hi.hi
    have hlo := hi.lo
    have hft := hi.ft
    obtain ⟨m, hm'⟩ : ∃ m, m = min A.length size := ⟨_, rfl⟩
    rw [← hm'] at hrow
    have t0 := hrow.cell (logCells_tail hi.len _ _ _ _ 0)
    have t2 := hrow.cell (logCells_tail hi.len _ _ _ _ 2)
    have t3 := hrow.cell (logCells_tail hi.len _ _ _ _ 3)
    refine ⟨_, t2, _, t3, _, t0, by omega, ?_⟩
    refine ⟨_, hrow4.cell rfl, _, hrow4.cell rfl, _, hrow4.cell rfl, _, hrow4.cell rfl, _, hrow4.cell rfl, ?_⟩
    have hidx : (IntKind.wrap .i64 ((f : Int) + (m : Int))).tmod (size : Int) = (((f + m) % size : Nat) : Int) := by
      rw [← Int.natCast_add, wrap64_nat (by omega), tmod_nat]
    rw [hidx]
    have hmod : (f + m) % size < size := Nat.mod_lt _ (by omega)
    obtain ⟨p, hp⟩ : ∃ p, p = (f + m) % size := ⟨_, rfl⟩
    rw [← hp] at hmod ⊢
    refine ⟨by omega, by omega, ?_⟩
    simp only [toNat_nat, Nat.zero_add]
    refine storeC_row hrow (by rw [logCells_len hi.len]; simp; omega) fun w5 hrow5 hc5 hs5 => ?_
    rw [show [Value.int .i64 x.tick, .int .i64 x.part, .int .i64 x.proc, .int .u8 x.kind, .int .u8 x.act] = encE.f x from rfl, logCells_setEntry hi.len _ _ _ _ _ (by omega)] at hrow5
    have hl5 : (l.set p x).length = 64 := by simp [hi.len]
    refine drawC_intro fun w6 hc6 _ => ?_
    have hrow6 := hc6.row hrow5 (by simp)
    have hc16 : Ch [b] w w6 := (hc14.trans hc5 (by simp)).trans0 hc6
    have u0 := hrow6.cell (logCells_tail hl5 _ _ _ _ 0)
    have u1 := hrow6.cell (logCells_tail hl5 _ _ _ _ 1)
    have u2 := hrow6.cell (logCells_tail hl5 _ _ _ _ 2)
    have u3 := hrow6.cell (logCells_tail hl5 _ _ _ _ 3)
    have hk1 : IntKind.wrap .i64 ((k : Int) + 1) = ((k + 1 : Nat) : Int) := by rw [← Int.natCast_succ, wrap64_nat (by omega)]
    have ha1 : IntKind.wrap .i64 ((A.length : Int) + 1) = ((A.length + 1 : Nat) : Int) := by rw [← Int.natCast_succ, wrap64_nat (by omega)]
    refine ⟨_, u3, _, u0, ?_⟩
    refine br_dec (fun hroom => ?_) fun hfull => ?_
    · have hroom : A.length < size := by omega
      have hme : m = A.length := by omega
      refine ⟨_, u3, ?_⟩
      refine storeC_row hrow6 (by rw [logCells_len hl5]; simp) fun w7 hrow7 hc7 hs7 => ?_
      rw [show (323 : Nat) = 320 + 3 from rfl, logCells_setTail hl5 _ _ _ _ 3 (by decide)] at hrow7
      have hm1 : IntKind.wrap .i64 ((m : Int) + 1) = ((m + 1 : Nat) : Int) := by rw [← Int.natCast_succ, wrap64_nat (by omega)]
      have hrow7 : Row w7 b 76 (logCells (l.set p x) size A.length f ((m + 1 : Nat) : Int)) := by rw [hm1] at hrow7; exact hrow7
      refine ⟨_, hrow7.cell (logCells_tail hl5 _ _ _ _ 1), ?_⟩
      refine storeC_row hrow7 (by rw [logCells_len hl5]; simp) fun w8 hrow8 hc8 hs8 => ?_
      rw [show (321 : Nat) = 320 + 1 from rfl, logCells_setTail hl5 _ _ _ _ 1 (by decide), ha1] at hrow8
      refine ⟨xs.length - (k + 1), by omega, k + 1, hk1, by omega, rfl, ?_, (hc16.trans hc7 (by simp)).trans hc8 (by simp)⟩
      rw [htk]
      have hinv := hi.room x hroom
      rw [← hme, ← hp] at hinv
      refine ⟨_, _, hinv, ?_⟩
      have e1 : (A ++ [x]).length = A.length + 1 := by simp
      have e2 : min (A.length + 1) size = m + 1 := by omega
      rw [e1, e2]
      exact hrow8
    · have hfull : size ≤ A.length := by omega
      have hme : m = size := by omega
      refine drawC_intro fun w9 hc9 _ => ?_
      have hrow9 := hc9.row hrow6 (by simp)
      refine ⟨_, hrow9.cell (logCells_tail hl5 _ _ _ _ 2), _, hrow9.cell (logCells_tail hl5 _ _ _ _ 0), by omega, ?_⟩
      refine storeC_row hrow9 (by rw [logCells_len hl5]; simp) fun w7 hrow7 hc7 hs7 => ?_
      rw [show (322 : Nat) = 320 + 2 from rfl, logCells_setTail hl5 _ _ _ _ 2 (by decide)] at hrow7
      have hm1 : (IntKind.wrap .i64 ((f : Int) + 1)).tmod (size : Int) = (((f + 1) % size : Nat) : Int) := by rw [← Int.natCast_succ, wrap64_nat (by omega), tmod_nat]
      have hrow7 : Row w7 b 76 (logCells (l.set p x) size A.length ((f + 1) % size : Nat) m) := by rw [hm1] at hrow7; exact hrow7
      refine ⟨_, hrow7.cell (logCells_tail hl5 _ _ _ _ 1), ?_⟩
      refine storeC_row hrow7 (by rw [logCells_len hl5]; simp) fun w8 hrow8 hc8 hs8 => ?_
      rw [show (321 : Nat) = 320 + 1 from rfl, logCells_setTail hl5 _ _ _ _ 1 (by decide), ha1] at hrow8
      refine ⟨xs.length - (k + 1), by omega, k + 1, hk1, by omega, rfl, ?_, ((hc16.trans0 hc9).trans hc7 (by simp)).trans hc8 (by simp)⟩
      rw [htk]
      have hinv : LogInv size (A ++ [x]) (l.set p x) ((f + 1) % size) := by
        have h := hi.full x hfull
        rw [show (f + size) % size = p by rw [hp, hme]] at h
        exact h
      refine ⟨_, _, hinv, ?_⟩
      have e1 : (A ++ [x]).length = A.length + 1 := by simp
      have e2 : min (A.length + 1) size = m := by omega
      rw [e1, show min (A.length + 1) size = size by omega]
      rw [hme] at hrow8
      exact hrow8
  · have : k = xs.length := by omega
    subst this
    refine ⟨rfl, ?_, hc1⟩
    rw [List.take_of_length_le (Nat.le_refl _)] at hr1
    exact hr1

/-- What a log tells of: the entries for which something holds. -/
def logList (size : Nat) (all : List Entry) : List Entry := all.drop (all.length - min all.length size)
theorem logList_len (size : Nat) (all : List Entry) : (logList size all).length = min all.length size := by simp [logList]; omega

theorem elE : ElT Try.prog 22 34 encE 32 := by
  refine ⟨by kernel_rfl, ?_⟩
  have h : (Try.prog.info? 34).map (fun i => (i.zero.isSome, i.size, i.bytes, (i.zero.getD .nilIface).cells.size)) = some (true, 5, 32, 5) := by kernel_rfl
  cases hi : Try.prog.info? 34 with
  | none => rw [hi] at h; cases h
  | some i =>
    rw [hi] at h
    simp only [Option.map_some, Option.some.injEq, Prod.mk.injEq] at h
    obtain ⟨h1, h2, h3, h4⟩ := h
    obtain ⟨z, hz⟩ := Option.isSome_iff_exists.1 h1
    exact ⟨i, z, rfl, hz, h2, h3, by rw [hz] at h4; exact h4⟩

theorem health_some_any {w : World} {b size : Nat} {all : List Entry} {fv : Value} (is : Entry → Bool) (hr : LogRep w b size all) (hm : all.length ≤ 9223372036854775807)
    (hf : ∀ (x : Entry) (w' : World), Ch [] w w' → ∃ f args w2, (callV fv #[.agg #[.int .i64 x.tick, .int .i64 x.part, .int .i64 x.proc, .int .u8 x.kind, .int .u8 x.act]]).run Try.prog w' = .ok (.enter f args) w2 ∧
      Calls Try.prog f args w2 (Ret fun v w3 => v = .bool (is x) ∧ Ch [] w' w3)) :
    Calls Try.prog 39 #[.pointer (some ⟨b, 0, none⟩), fv] w (Ret fun v w' => ∃ a c, v = .slice a ((logList size all).filter is).length c ∧ Own encE 34 w.heap.size w' a c ((logList size all).filter is) ∧ Ch [] w w') := by
  obtain ⟨l, f, hi, hrow⟩ := hr
  have h64 := hi.hi
  have hlo := hi.lo
  have hft := hi.ft
  apply health_Log_some.calls
  unfold health_Log_some.F
  refine ⟨_, hrow.cell (logCells_tail hi.len _ _ _ _ 3), ?_⟩
  obtain ⟨m, hm'⟩ : ∃ m, m = min all.length size := ⟨_, rfl⟩
  have hml : (logList size all).length = m := by rw [logList_len, hm']
  rw [← hm'] at hrow ⊢
  refine ⟨fun n a N C i w' => ∃ k : Nat, i = k ∧ k ≤ m ∧ n = m - k ∧ N = (((logList size all).take k).filter is).length ∧ Own encE 34 w.heap.size w' a C (((logList size all).take k).filter is) ∧ Ch [] w w', ⟨_, 0, rfl, Nat.zero_le _, rfl, by simp, by simpa using Own.nil _ _ _ _, Ch.refl _ _⟩, ?_⟩
  rintro n dead w1 a N C i ⟨k, rfl, hk, rfl, rfl, hown, hc1⟩
  unfold health_Log_some.L0
  refine br_dec (fun hlt => ?_) fun hge => ?_
  · have hlt : k < m := by omega
    have hrow1 := hc1.row hrow (by simp)
    refine ⟨fun w9 => Row w9 b 76 (logCells l size all.length f m), hrow1, ?_⟩
    refine drawC_intro fun w2 hc2 hheap2 => ?_
    refine ⟨_, fun w9 h9 => h9.cell (logCells_tail hi.len _ _ _ _ 2), _, fun w9 h9 => h9.cell (logCells_tail hi.len _ _ _ _ 0), by omega, ?_⟩
    have hidx : (IntKind.wrap .i64 ((f : Int) + (k : Int))).tmod (size : Int) = (((f + k) % size : Nat) : Int) := by
      rw [← Int.natCast_add, wrap64_nat (by omega), tmod_nat]
    rw [hidx]
    have hmod : (f + k) % size < size := Nat.mod_lt _ (by omega)
    obtain ⟨x, hx⟩ : ∃ x, (logList size all)[k]? = some x := ⟨(logList size all)[k]'(by omega), by simp [hml, hlt]⟩
    have hlx : l[(f + k) % size]? = some x := by
      rw [hi.at_ k (by omega), ← hx]; simp [logList]
    obtain ⟨p, hp⟩ : ∃ p, p = (f + k) % size := ⟨_, rfl⟩
    rw [← hp] at hmod hlx ⊢
    refine ⟨by omega, by omega, ?_⟩
    simp only [toNat_nat, Nat.zero_add]
    refine ⟨_, fun w9 h9 => h9.cell (logCells_entry hlx _ _ _ _ (j := 0) rfl), _, fun w9 h9 => h9.cell (logCells_entry hlx _ _ _ _ (j := 1) rfl), _, fun w9 h9 => h9.cell (logCells_entry hlx _ _ _ _ (j := 2) rfl), _, fun w9 h9 => h9.cell (logCells_entry hlx _ _ _ _ (j := 3) rfl), _, fun w9 h9 => h9.cell (logCells_entry hlx _ _ _ _ (j := 4) rfl), ?_⟩
    refine newBlk_row fun nb w3 hnb hs3 hrow3 hc3 => ?_
    have hbn : b ≠ nb := by have := (hc2.row hrow1 (by simp)).lt; omega
    have hrl3 := hc3.row (hc2.row hrow1 (by simp)) (by simp)
    refine ⟨hrl3, ?_⟩
    refine storeC_row hrow3 (by simp) fun w4 hrow4 hc4 hs4 => ?_
    refine ⟨_, hrow4.cell rfl, _, hrow4.cell rfl, _, hrow4.cell rfl, _, hrow4.cell rfl, _, hrow4.cell rfl, ?_⟩
    have hc14 : Ch [] w1 w4 := (hc2.trans0 hc3).trans hc4 (by intro y hy; right; simp at hy; subst hy; have := hc2.size; omega)
    have hnw : w.heap.size ≤ nb := by have := hc1.size; have := hc2.size; omega
    obtain ⟨g, args, w5, hrun, hcall⟩ := hf x w4 (hc1.trans0 hc14)
    refine ⟨g, args, w5, hrun, ?_⟩
    refine Calls.ret hcall ?_
    rintro v w6 ⟨rfl, hc6⟩
    refine ⟨_, rfl, ?_⟩
    have hrow6 := hc6.row hrow4 (by simp)
    have hk1 : IntKind.wrap .i64 ((k : Int) + 1) = ((k + 1 : Nat) : Int) := by rw [← Int.natCast_succ, wrap64_nat (by omega)]
    have htk : (logList size all).take (k + 1) = (logList size all).take k ++ [x] := by
      rw [List.take_succ_eq_append_getElem (by omega)]
      have : (logList size all)[k]'(by omega) = x := by
        have h := hx; rw [List.getElem?_eq_getElem (by omega)] at h; exact Option.some.inj h
      rw [this]
    have hown4 := hc14.own hown (.inr (by simp))
    have hown6 := hc6.own hown4 (.inr (by simp))
    refine br_intro (fun his => ?_) fun his => ?_
    · refine ⟨_, hrow6.cell rfl, _, hrow6.cell rfl, _, hrow6.cell rfl, _, hrow6.cell rfl, _, hrow6.cell rfl, ?_⟩
      refine newBlk_row fun nb2 w7 hnb2 hs7 hrow7 hc7 => ?_
      have hflt : ((logList size all).take (k + 1)).filter is = ((logList size all).take k).filter is ++ [x] := by rw [htk, List.filter_append]; simp [his]
      have hlen : (((logList size all).take k).filter is).length ≤ 64 := by
        have := List.length_filter_le is ((logList size all).take k)
        have : ((logList size all).take k).length ≤ 64 := by simp; omega
        omega
      have hown7 := hc7.own hown6 (.inr (by simp))
      obtain ⟨a', c', w8, hrun, hown8, hc8⟩ := run_append (P := Try.prog) (ty := 22) elE hown7 (ys := [x]) (a2 := some ⟨nb2, 0, none⟩) (c2 := 1)
        (SlR.one (x := x) hrow7) (by simp [maxLen]; omega) (by simp; omega) (by have := hc1.size; have := hc14.size; have := hc6.size; have := hc7.size; omega)
      refine ⟨a', _, c', w8, hrun, m - (k + 1), by omega, k + 1, hk1, by omega, rfl, by rw [hflt], by rw [hflt]; exact hown8, ?_⟩
      refine (((hc1.trans0 hc14).trans0 hc6).trans0 hc7).trans hc8 ?_
      intro y hy
      right
      have hb := hown7.base
      rcases hb with rfl | hb
      · simp [Value.ownBlock] at hy
      · cases a with
        | none => simp [Value.ownBlock] at hy
        | some ad => simp [Value.ownBlock] at hy; subst hy; exact hb
    · have hflt : ((logList size all).take (k + 1)).filter is = ((logList size all).take k).filter is := by rw [htk, List.filter_append]; simp [his]
      refine ⟨m - (k + 1), by omega, k + 1, hk1, by omega, rfl, by rw [hflt], by rw [hflt]; exact hown6, (hc1.trans0 hc14).trans0 hc6⟩
  · have : k = m := by omega
    subst this
    rw [List.take_of_length_le (by omega)] at hown ⊢
    exact ⟨a, C, rfl, hown, hc1⟩

theorem health_List_any {w : World} {b size : Nat} {all : List Entry} (hr : LogRep w b size all) (hm : all.length ≤ 9223372036854775807) :
    Calls Try.prog 18 #[.pointer (some ⟨b, 0, none⟩)] w (Ret fun v w' => ∃ a c, v = .slice a (logList size all).length c ∧ Own encE 34 w.heap.size w' a c (logList size all) ∧ Ch [] w w') := by
  apply health_Log_List.calls
  unfold health_Log_List.F
  refine Calls.ret (health_some_any (fun _ => true) hr hm (fun x w' hc => ⟨40, _, w', callV_run (fn := Try.f40) Try.func40 (by kernel_rfl) (by kernel_rfl), ?_⟩)) ?_
  · refine health_Log_List_1.calls _ _ _ _ _ _ _ ?_
    unfold health_Log_List_1.F
    exact newBlk_row fun nb w2 _ _ _ hc2 => ⟨rfl, hc2⟩
  · rintro v w' ⟨a, c, rfl, hown, hc⟩
    have : (logList size all).filter (fun _ => true) = logList size all := by simp
    rw [this] at hown ⊢
    exact ⟨a, _, c, rfl, a, c, rfl, hown, hc⟩

theorem health_Of_any {w : World} {b size : Nat} {all : List Entry} (part : Int) (hr : LogRep w b size all) (hm : all.length ≤ 9223372036854775807) :
    Calls Try.prog 22 #[.pointer (some ⟨b, 0, none⟩), .int .i64 part] w (Ret fun v w' => ∃ a c, v = .slice a ((logList size all).filter (fun x => x.part == part)).length c ∧ Own encE 34 w.heap.size w' a c ((logList size all).filter (fun x => x.part == part)) ∧ Ch [] w w') := by
  apply health_Log_Of.calls
  unfold health_Log_Of.F
  refine newBlk_row fun nb w1 hnb hs1 hrow1 hc1 => ?_
  refine Calls.ret (health_some_any (fun x => x.part == part) (hr.ch hc1 (by simp)) hm (fun x w' hc => ⟨41, _, w', callV_run (fn := Try.f41) Try.func41 (by kernel_rfl) (by kernel_rfl), ?_⟩)) ?_
  · refine health_Log_Of_1.calls _ _ _ _ _ _ _ _ _ ?_
    unfold health_Log_Of_1.F
    refine newBlk_row fun nb2 w2 _ _ hrow2 hc2 => ?_
    exact ⟨_, hrow2.cell rfl, _, (hc2.row (hc.row hrow1 (by simp)) (by simp)).cell rfl, rfl, hc2⟩
  · rintro v w' ⟨a, c, rfl, hown, hc⟩
    exact ⟨a, _, c, rfl, a, c, rfl, hown.mono (by omega), hc1.trans0 hc⟩
end Go.Proofs.Ytgkbokhmmoemfaa
