/- Events: what the document's functions do. Conditions: none. -/
import Derived.Test.YtecacohkkdhphaaEvA
import Derived.Test.YtecacohkkdhphaaEvr
namespace Go.Proofs.Ytecacohkkdhphaa
open Go.Vc
set_option linter.unusedSimpArgs false
set_option linter.unusedVariables false
set_option maxRecDepth 100000

theorem LS.wait_now (s : LS) (id prio u : Int) : (s.put id prio u).now = s.now := LS.put_now s id prio u
theorem put_bad {s : LS} {id prio u : Int} (h : s.err id prio u ≠ 0) : s.put id prio u = s := by unfold LS.put; rw [if_neg h]

section
variable {e w : World} {m : Hp} {L : List HP} {a : Option Addr} {c n : Nat} {s : ES}
theorem ref16_Wait_sp (H : St e m w L) (h : RefI m a c s.l.ws) (hf : s.l.fit n) (hn : n ≤ 10000) (id prio u : Int) :
    Calls Try.prog 39 #[.agg #[.slice a s.l.ws.length c, .int .i64 s.l.now, .bool s.up], .int .i64 id, .int .i64 prio, .int .i64 u] w (Ret fun v w' => ∃ a' c' m', v = .tuple #[.agg #[.slice a' (s.wait id prio u).l.ws.length c', .int .i64 (s.wait id prio u).l.now, .bool (s.wait id prio u).up], .bool (s.waitB id prio), .int .i64 (s.waitE id prio u)] ∧
      hle m m' ∧ RefI m' a' c' (s.wait id prio u).l.ws ∧ St e m' w' L) := by
  apply purlinref16_Wait.calls
  unfold purlinref16_Wait.F
  repeat (first | (refine St.new H fun b_ w_ H => ?_) | (refine St.st H fun w_ H => ?_) | (refine ⟨_, St.ld H, ?_⟩) | (refine ⟨_, _, _, St.ld H, ?_⟩) | (refine St.drw H fun w_ H => ?_))
  refine Calls.ret (ref_Put_sp H h hf hn id prio (-1)) ?_
  rintro v w1 ⟨a1, c1, m1, rfl, hm1, h1, H⟩
  refine ⟨_, _, _, _, _, rfl, ?_⟩
  repeat (first | (refine St.new H fun b_ w_ H => ?_) | (refine St.st H fun w_ H => ?_) | (refine ⟨_, St.ld H, ?_⟩) | (refine ⟨_, _, _, St.ld H, ?_⟩) | (refine St.drw H fun w_ H => ?_))
  have h2 := h.mono hm1
  unfold ES.waitE ES.waitB ES.wait
  refine br_intro (fun he => ?_) fun he => ?_
  · have he : s.l.err id prio (-1) ≠ 0 := by simpa using he
    rw [if_pos he, if_pos (.inl he)]
    repeat (first | (refine St.new H fun b_ w_ H => ?_) | (refine St.st H fun w_ H => ?_) | (refine ⟨_, St.ld H, ?_⟩) | (refine ⟨_, _, _, St.ld H, ?_⟩) | (refine St.drw H fun w_ H => ?_))
    exact ⟨a, c, m1, by simp [he], hm1, h2, H.re⟩
  · have he : s.l.err id prio (-1) = 0 := by simpa using he
    repeat (first | (refine St.new H fun b_ w_ H => ?_) | (refine St.st H fun w_ H => ?_) | (refine ⟨_, St.ld H, ?_⟩) | (refine ⟨_, _, _, St.ld H, ?_⟩) | (refine St.drw H fun w_ H => ?_))
    refine br_intro (fun hu => ?_) fun hu => ?_
    · repeat (first | (refine St.new H fun b_ w_ H => ?_) | (refine St.st H fun w_ H => ?_) | (refine ⟨_, St.ld H, ?_⟩) | (refine ⟨_, _, _, St.ld H, ?_⟩) | (refine St.drw H fun w_ H => ?_))
      exact ⟨a, c, m1, by simp [he, hu], hm1, by simp [hu]; exact h2, H.re⟩
    · refine br_intro (fun hu0 => ?_) fun hu0 => ?_
      · have hu0 : u = 0 := by simpa using hu0
        repeat (first | (refine St.new H fun b_ w_ H => ?_) | (refine St.st H fun w_ H => ?_) | (refine ⟨_, St.ld H, ?_⟩) | (refine ⟨_, _, _, St.ld H, ?_⟩) | (refine St.drw H fun w_ H => ?_))
        exact ⟨a, c, m1, by simp [he, hu, hu0], hm1, by simp [hu0]; exact h2, H.re⟩
      · have hu0 : u ≠ 0 := by simpa using hu0
        repeat (first | (refine St.new H fun b_ w_ H => ?_) | (refine St.st H fun w_ H => ?_) | (refine ⟨_, St.ld H, ?_⟩) | (refine ⟨_, _, _, St.ld H, ?_⟩) | (refine St.drw H fun w_ H => ?_))
        refine Calls.ret (ref_Put_sp H h2 hf hn id prio u) ?_
        rintro v w2 ⟨a2, c2, m2, rfl, hm2, h3, H⟩
        refine ⟨_, _, _, _, _, rfl, ?_⟩
        repeat (first | (refine St.new H fun b_ w_ H => ?_) | (refine St.st H fun w_ H => ?_) | (refine ⟨_, St.ld H, ?_⟩) | (refine ⟨_, _, _, St.ld H, ?_⟩) | (refine St.drw H fun w_ H => ?_))
        have hc : ¬ (s.l.err id prio (-1) ≠ 0 ∨ s.up = true ∨ u = 0) := by simp [he, hu, hu0]
        rw [if_neg hc]
        exact ⟨a2, c2, m2, by simp [he, hu, hu0, LS.put_now], hle_trans hm1 hm2, h3, H.re⟩
theorem ref16_Set_sp (H : St e m w L) (h : RefI m a c s.l.ws) (hf : s.l.fit n) (hn : n ≤ 10000) :
    Calls Try.prog 40 #[.agg #[.slice a s.l.ws.length c, .int .i64 s.l.now, .bool s.up]] w (Ret fun v w' => ∃ a' c', v = .tuple #[.agg #[.slice none 0 0, .int .i64 s.l.now, .bool true], .slice a' s.l.list.length c'] ∧
      St e m w' (own (Enc.int .i64) 3 a' c' s.l.list :: L)) := by
  apply purlinref16_Set.calls
  unfold purlinref16_Set.F
  repeat (first | (refine St.new H fun b_ w_ H => ?_) | (refine St.st H fun w_ H => ?_) | (refine ⟨_, St.ld H, ?_⟩) | (refine ⟨_, _, _, St.ld H, ?_⟩) | (refine St.drw H fun w_ H => ?_))
  refine Calls.ret (ref_List_sp H h hf hn) ?_
  rintro v w1 ⟨a1, c1, rfl, H⟩
  refine ⟨_, _, _, rfl, ?_⟩
  repeat (first | (refine St.new H fun b_ w_ H => ?_) | (refine St.st H fun w_ H => ?_) | (refine ⟨_, St.ld H, ?_⟩) | (refine ⟨_, _, _, St.ld H, ?_⟩) | (refine St.drw H fun w_ H => ?_))
  exact ⟨a1, c1, rfl, H.re⟩
end
end Go.Proofs.Ytecacohkkdhphaa
