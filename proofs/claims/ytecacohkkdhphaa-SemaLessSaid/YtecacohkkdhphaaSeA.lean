/- Semaphores: the plain law, and what package sema's functions do. Conditions: none. -/
import Derived.Test.YtecacohkkdhphaaEvA
import Derived.Test.YtecacohkkdhphaaSef
namespace Go.Proofs.Ytecacohkkdhphaa
open Go.Vc
set_option linter.unusedSimpArgs false
set_option linter.unusedVariables false
set_option maxRecDepth 100000

/-- A semaphore: its line, how many more it lets in, how many at most. -/
structure SS where
  l : LS
  count : Int
  most : Int
def SS.waitE (s : SS) (id prio u : Int) : Int := if s.l.err id prio (-1) ≠ 0 then s.l.err id prio (-1) else if 0 < s.count ∨ u = 0 then 0 else s.l.err id prio u
def SS.waitB (s : SS) (id prio : Int) : Bool := decide (s.l.err id prio (-1) = 0) && decide (0 < s.count)
def SS.wait (s : SS) (id prio u : Int) : SS := if s.l.err id prio (-1) ≠ 0 then s else if 0 < s.count then ⟨s.l, s.count - 1, s.most⟩ else if u = 0 then s else ⟨s.l.put id prio u, s.count, s.most⟩
def SS.sigI (s : SS) : Int := s.l.list.head?.getD 0
def SS.sigB (s : SS) : Bool := s.l.list.head?.isSome
def SS.sigE (s : SS) : Int := if s.l.list.head?.isSome = true then 0 else if s.count = s.most then 151 else 0
def SS.sig (s : SS) : SS := if s.l.list.head?.isSome = true then ⟨s.l.taken, s.count, s.most⟩ else if s.count = s.most then s else ⟨s.l, s.count + 1, s.most⟩
def SS.drop (s : SS) (id : Int) : SS := ⟨s.l.without id, s.count, s.most⟩
def SS.exp (s : SS) (now : Int) : SS := ⟨s.l.exp now, s.count, s.most⟩
structure SS.fit (s : SS) (n : Nat) : Prop where
  l : s.l.fit n
  c0 : 0 ≤ s.count
  cm : s.count ≤ s.most
  mm : s.most ≤ 255
theorem SS.fit.mono {s : SS} {n m : Nat} (h : s.fit n) (hm : n ≤ m) : s.fit m := ⟨h.l.mono hm, h.c0, h.cm, h.mm⟩
theorem SS.fit.wait {s : SS} {n : Nat} (h : s.fit n) (id prio u : Int) : (s.wait id prio u).fit (n + 1) := by
  unfold SS.wait
  split
  · exact h.mono (by omega)
  split
  · exact ⟨h.l.mono (by omega), by simp; omega, by have := h.cm; simp; omega, h.mm⟩
  split
  · exact h.mono (by omega)
  · exact ⟨h.l.put _ _ _, h.c0, h.cm, h.mm⟩
theorem SS.fit.sig {s : SS} {n : Nat} (h : s.fit n) : s.sig.fit n := by
  unfold SS.sig
  split
  · exact ⟨h.l.taken, h.c0, h.cm, h.mm⟩
  split
  · exact h
  · exact ⟨h.l, by have := h.c0; simp; omega, by have := h.cm; simp; omega, h.mm⟩
theorem SS.fit.drop {s : SS} {n : Nat} (h : s.fit n) (id : Int) : (s.drop id).fit n := ⟨h.l.without id, h.c0, h.cm, h.mm⟩
theorem SS.fit.exp {s : SS} {n : Nat} (h : s.fit n) (now : Int) : (s.exp now).fit n := ⟨LS.fit.exp h.l now, h.c0, h.cm, h.mm⟩

/-- Block b is a semaphore. -/
def sema (b : Nat) (s : SS) : HP := fun h => ∃ lb, Sep [row b 107 [.pointer (some ⟨lb, 0, none⟩), .int .i64 s.count, .int .i64 s.most], line lb s.l] h

section
variable {e w : World} {m : Hp} {L : List HP} {b n : Nat} {s : SS}
theorem sema_mk {lb : Nat} (H : St e m w (row b 107 [.pointer (some ⟨lb, 0, none⟩), .int .i64 s.count, .int .i64 s.most] :: line lb s.l :: L)) : St e m w (sema b s :: L) :=
  (St.join (L1 := [_, _]) H).imp fun h hh => ⟨lb, hh⟩
def semaBad (init most : Int) : Prop := most < 1 ∨ 255 < most ∨ init < 0 ∨ most < init
instance (init most : Int) : Decidable (semaBad init most) := by unfold semaBad; exact inferInstance
theorem sema_New_sp (H : St e m w L) (init most : Int) : Calls Try.prog 35 #[.int .i64 init, .int .i64 most] w (Ret fun v w' =>
    (semaBad init most → v = .tuple #[.pointer none, .int .i64 150] ∧ St e m w' L) ∧ (¬ semaBad init most → ∃ b, v = .tuple #[.pointer (some ⟨b, 0, none⟩), .int .i64 0] ∧ St e m w' (sema b ⟨LS.new, init, most⟩ :: L))) := by
  apply sema_New.calls
  unfold sema_New.F
  have bad : semaBad init most → ((semaBad init most → Value.tuple #[.pointer none, .int .i64 150] = .tuple #[.pointer none, .int .i64 150] ∧ St e m w L) ∧ (¬ semaBad init most → ∃ b, Value.tuple #[.pointer none, .int .i64 150] = .tuple #[.pointer (some ⟨b, 0, none⟩), .int .i64 0] ∧ St e m w (sema b ⟨LS.new, init, most⟩ :: L))) :=
    fun h => ⟨fun _ => ⟨rfl, H⟩, fun h' => absurd h h'⟩
  refine br_dec (fun h => bad (.inl h)) fun h1 => br_dec (fun h => bad (.inr (.inl h))) fun h2 => br_dec (fun h => bad (.inr (.inr (.inl h)))) fun h3 => br_dec (fun h => bad (.inr (.inr (.inr h)))) fun h4 => ?_
  refine Calls.ret (line_New_sp H) ?_
  rintro v w1 ⟨lb, rfl, H⟩
  refine ⟨_, rfl, ?_⟩
  refine H.new fun b w2 H => ?_
  exact ⟨fun h => absurd h (by unfold semaBad; omega), fun _ => ⟨b, rfl, sema_mk (s := ⟨LS.new, init, most⟩) H⟩⟩
theorem sema_Count_sp (H : St e m w (sema b s :: L)) : Calls Try.prog 51 #[.pointer (some ⟨b, 0, none⟩)] w (Ret fun v w' => v = .int .i64 s.count ∧ w' = w) := by
  obtain ⟨lb, H⟩ := H.ex
  have H := H.flat
  apply sema_Sema_Count.calls
  unfold sema_Sema_Count.F
  exact ⟨_, H.ld, rfl, rfl⟩
theorem sema_Wait_sp (H : St e m w (sema b s :: L)) (hf : s.fit n) (hn : n ≤ 10000) (id prio u : Int) :
    Calls Try.prog 37 #[.pointer (some ⟨b, 0, none⟩), .int .i64 id, .int .i64 prio, .int .i64 u] w (Ret fun v w' => v = .tuple #[.bool (s.waitB id prio), .int .i64 (s.waitE id prio u)] ∧ St e m w' (sema b (s.wait id prio u) :: L)) := by
  have H0 := H
  obtain ⟨lb, H⟩ := H.ex
  have H := H.flat
  apply sema_Sema_Wait.calls
  unfold sema_Sema_Wait.F
  have bad : ∀ {w' : World} (k : Int), St e m w' (sema b s :: L) → k ≠ 0 → s.l.err id prio (-1) = k →
      (Value.tuple #[.bool false, .int .i64 k] = .tuple #[.bool (s.waitB id prio), .int .i64 (s.waitE id prio u)] ∧ St e m w' (sema b (s.wait id prio u) :: L)) := by
    intro w' k H hk he
    unfold SS.waitB SS.waitE SS.wait
    rw [he, if_pos hk, if_pos hk]
    exact ⟨by simp [hk], H⟩
  refine br_dec (fun h => bad 140 H0 (by omega) (by simp [LS.err, h])) fun h1 => br_dec (fun h => bad 140 H0 (by omega) (by rw [LS.err, if_pos (by omega)])) fun h2 => ?_
  have e1 : ¬ (id < 0 ∨ 65535 < id) := by omega
  refine br_dec (fun h => bad 143 H0 (by omega) (by rw [LS.err, if_neg e1, if_pos (by omega)])) fun h3 => br_dec (fun h => bad 143 H0 (by omega) (by rw [LS.err, if_neg e1, if_pos (by omega)])) fun h4 => ?_
  have e2 : ¬ (prio < 0 ∨ 63 < prio) := by omega
  refine ⟨_, H.ld, ?_⟩
  refine Calls.ret (line_List_sp H.at_ hf.l (by omega)) ?_
  rintro v w1 ⟨a, c, rfl, H⟩
  refine ⟨_, _, _, rfl, ?_⟩
  refine Calls.ret (contains_any H.osl (by rw [list_len]; have := hf.l.len; omega) id) ?_
  rintro v w2 ⟨rfl, rfl⟩
  refine ⟨_, rfl, ?_⟩
  have H1 : St e m w2 (sema b s :: L) := sema_mk H.re
  refine br_dec (fun h => bad 141 H1 (by omega) ?_) fun h => ?_
  · rw [LS.err, if_neg e1, if_neg e2, if_neg (by omega), if_pos (mem_list.1 h)]
  · have e3 : s.l.err id prio (-1) = 0 := by rw [LS.err, if_neg e1, if_neg e2, if_neg (by omega), if_neg (fun hh => h (mem_list.2 hh))]
    unfold SS.waitB SS.waitE SS.wait
    have := hf.c0
    have := hf.cm
    have := hf.mm
    refine ⟨_, H.ld, ?_⟩
    refine br_dec (fun hc => ⟨_, H.ld, ?_⟩) fun hc => br_intro (fun hu0 => ?_) fun hu0 => ?_
    · have hc : 0 < s.count := hc
      have hw : IntKind.wrap .i64 (s.count - 1) = s.count - 1 := wrap64_in (by omega) (by omega)
      refine H.st fun w H => ?_
      rw [hw] at H
      simp only [e3, hc, ne_eq, not_true, if_false, if_true, true_or, decide_true, Bool.and_self]
      exact ⟨by trivial, sema_mk (s := ⟨s.l, s.count - 1, s.most⟩) H.re⟩
    · have hc : ¬ 0 < s.count := hc
      have : u = 0 := by simpa using hu0
      simp only [e3, hc, this, ne_eq, not_true, if_false, if_true, or_true, decide_true, decide_false, Bool.and_false]
      exact ⟨by trivial, H1⟩
    · have hc : ¬ 0 < s.count := hc
      have hu1 : u ≠ 0 := by simpa using hu0
      simp only [e3, hc, hu1, ne_eq, not_true, if_false, or_self, decide_true, decide_false, Bool.and_false]
      refine ⟨_, H.ld, ?_⟩
      refine Calls.ret (line_Put_sp H.at_ hf.l (by omega) id prio u) ?_
      rintro v w4 ⟨rfl, H⟩
      exact ⟨_, rfl, rfl, sema_mk (s := ⟨s.l.put id prio u, s.count, s.most⟩) H.re⟩
theorem bound_Take {lb : Nat} {w : World} : (callV (.func (.func 73) #[.pointer (some ⟨lb, 0, none⟩)] #[]) #[]).run Try.prog w = .ok (.enter 73 #[.pointer (some ⟨lb, 0, none⟩)]) w := by kernel_rfl
theorem sema_Signal_sp (H : St e m w (sema b s :: L)) (hf : s.fit n) (hn : n ≤ 10000) :
    Calls Try.prog 38 #[.pointer (some ⟨b, 0, none⟩)] w (Ret fun v w' => v = .tuple #[.int .i64 s.sigI, .bool s.sigB, .int .i64 s.sigE] ∧ St e m w' (sema b s.sig :: L)) := by
  obtain ⟨lb, H⟩ := H.ex
  have H := H.flat
  apply sema_Sema_Signal.calls
  unfold sema_Sema_Signal.F
  refine ⟨_, H.ld, _, _, _, bound_Take, ?_⟩
  refine Calls.ret (line_Take_sp H.at_ hf.l (by omega)) ?_
  rintro v w1 ⟨rfl, H⟩
  refine ⟨_, _, rfl, ?_⟩
  unfold SS.sigI SS.sigB SS.sigE SS.sig
  have := hf.c0
  have := hf.cm
  have := hf.mm
  refine br_intro (fun h => ?_) fun h => ?_
  · rw [if_pos h, if_pos h, h]
    exact ⟨rfl, sema_mk (s := ⟨s.l.taken, s.count, s.most⟩) H.re⟩
  · have ht : s.l.taken = s.l := by
      unfold LS.taken
      cases hl : s.l.list.head? with
      | none => rfl
      | some x => rw [hl] at h; cases h
    have hd : s.l.list.head?.getD 0 = 0 := by
      cases hl : s.l.list.head? with
      | none => rfl
      | some x => rw [hl] at h; cases h
    rw [ht] at H
    rw [h, hd]
    simp only [Bool.false_eq_true, if_false]
    refine H.drw fun w H => ?_
    refine ⟨_, H.ld, _, H.ld, ?_⟩
    refine br_intro (fun hc => ?_) fun hc => ⟨_, H.ld, ?_⟩
    · have hc : s.count = s.most := by simpa using hc
      rw [if_pos hc, if_pos hc]
      exact ⟨rfl, sema_mk H.re⟩
    · have hc : s.count ≠ s.most := by simpa using hc
      rw [if_neg hc, if_neg hc]
      have hw : IntKind.wrap .i64 (s.count + 1) = s.count + 1 := wrap64_in (by omega) (by omega)
      refine H.st fun w H => ?_
      rw [hw] at H
      exact ⟨rfl, sema_mk (s := ⟨s.l, s.count + 1, s.most⟩) H.re⟩
end
end Go.Proofs.Ytecacohkkdhphaa
