/- Lines of those who wait: what the document's functions do, told by separated memory. Conditions: none. -/
import Derived.Test.YtecacohkkdhphaaLnSL
import Derived.Test.YtecacohkkdhphaaLnH
namespace Go.Proofs.Ytecacohkkdhphaa
open Go.Vc
set_option linter.unusedSimpArgs false
set_option linter.unusedVariables false
set_option maxRecDepth 100000

def RefI (m : Hp) (a : Option Addr) (c : Nat) (ws : List Wt) : Prop := SlI encR m a ws ∧ ws.length ≤ c
theorem RefI.mono {m m' : Hp} {a : Option Addr} {c : Nat} {ws : List Wt} (h : RefI m a c ws) (hm : hle m m') : RefI m' a c ws := ⟨h.1.mono hm, h.2⟩
theorem RefI.nil {m : Hp} {a : Option Addr} {c : Nat} : RefI m a c [] := ⟨SlI.nil, Nat.zero_le _⟩

section
variable {e w w' : World} {m : Hp} {L : List HP} {a : Option Addr} {c n : Nat} {s : LS}
theorem refOf (H : St e m w L) (h : RefI m a c s.ws) : RefL w a c s.ws := ⟨H.sli h.1, h.2⟩
theorem RefI.of_new {m' : Hp} {ws ws' : List Wt} {a' : Option Addr} {c' : Nat} (h : RefI m a c ws) (hm : hle m m') (hk : ∀ i, w.heap.size ≤ i → m' i = hpOf w' i) (hr : RefL w' a' c' ws') (hn : NewOr w a ws a' ws') : RefI m' a' c' ws' := by
  rcases hn with hn | ⟨rfl, rfl⟩ | hn
  · exact ⟨SlI.of_new hk hr.1 (.inl hn), hr.2⟩
  · exact ⟨h.1.mono hm, hr.2⟩
  · exact ⟨SlI.of_new hk hr.1 (.inr hn), hr.2⟩
theorem ref_List_sp {now : Int} (H : St e m w L) (h : RefI m a c s.ws) (hf : s.fit n) (hn : n ≤ 10000) :
    Calls Try.prog 45 #[.agg #[.slice a s.ws.length c, .int .i64 now]] w (Ret fun v w' => ∃ a' c', v = .slice a' s.list.length c' ∧ St e m w' (own (Enc.int .i64) 3 a' c' s.list :: L)) := by
  refine (ref_List_any (refOf H h).1 hf.ok (by have := hf.len; omega)).mono ?_
  rintro _ w' ⟨v, rfl, a', c', rfl, ho, hc⟩
  exact ⟨_, rfl, a', c', rfl, H.ownIn hc ho (Nat.le_refl _)⟩
theorem ref_Put_sp (H : St e m w L) (h : RefI m a c s.ws) (hf : s.fit n) (hn : n ≤ 10000) (id prio until_ : Int) :
    Calls Try.prog 74 #[.agg #[.slice a s.ws.length c, .int .i64 s.now], .int .i64 id, .int .i64 prio, .int .i64 until_] w (Ret fun v w' => ∃ a' c' m', v = .tuple #[.agg #[.slice a' (s.put id prio until_).ws.length c', .int .i64 s.now], .int .i64 (s.err id prio until_)] ∧
      hle m m' ∧ RefI m' a' c' (s.put id prio until_).ws ∧ St e m' w' L) := by
  refine (ref_Put_any (refOf H h) hf.ok (by have := hf.len; omega) id prio until_).mono ?_
  rintro _ w' ⟨v, rfl, a', c', rfl, hr, hn, hc⟩
  obtain ⟨m', h1, h2, h3⟩ := H.newAll hc
  exact ⟨_, rfl, a', c', m', rfl, h1, h.of_new h1 h2 hr hn, h3⟩
theorem ref_Drop_sp (H : St e m w L) (h : RefI m a c s.ws) (hf : s.fit n) (hn : n ≤ 10000) (id : Int) :
    Calls Try.prog 42 #[.agg #[.slice a s.ws.length c, .int .i64 s.now], .int .i64 id] w (Ret fun v w' => ∃ a' c' m', v = .tuple #[.agg #[.slice a' (s.without id).ws.length c', .int .i64 s.now], .int .i64 (if s.has id = true then 0 else 142)] ∧
      hle m m' ∧ RefI m' a' c' (s.without id).ws ∧ St e m' w' L) := by
  refine (ref_Drop_any (refOf H h) hf.ok (by have := hf.len; omega) id).mono ?_
  rintro _ w' ⟨v, rfl, a', c', rfl, hr, hn, hc⟩
  obtain ⟨m', h1, h2, h3⟩ := H.newAll hc
  exact ⟨_, rfl, a', c', m', rfl, h1, h.of_new h1 h2 hr hn, h3⟩
theorem ref_Take_sp (H : St e m w L) (h : RefI m a c s.ws) (hf : s.fit n) (hn : n ≤ 10000) :
    Calls Try.prog 78 #[.agg #[.slice a s.ws.length c, .int .i64 s.now]] w (Ret fun v w' => ∃ a' c' m', v = .tuple #[.agg #[.slice a' s.taken.ws.length c', .int .i64 s.now], .int .i64 (s.list.head?.getD 0), .bool s.list.head?.isSome] ∧
      hle m m' ∧ RefI m' a' c' s.taken.ws ∧ St e m' w' L) := by
  refine (ref_Take_any (refOf H h) hf.ok (by have := hf.len; omega)).mono ?_
  rintro _ w' ⟨v, rfl, a', c', rfl, hr, hn, hc⟩
  obtain ⟨m', h1, h2, h3⟩ := H.newAll hc
  exact ⟨_, rfl, a', c', m', rfl, h1, h.of_new h1 h2 hr hn, h3⟩
theorem ref_Expire_sp (H : St e m w L) (h : RefI m a c s.ws) (hf : s.fit n) (hn : n ≤ 10000) (now : Int) :
    Calls Try.prog 43 #[.agg #[.slice a s.ws.length c, .int .i64 s.now], .int .i64 now] w (Ret fun v w' => ∃ a' c' a2 c2 m', v = .tuple #[.agg #[.slice a' (s.exp now).ws.length c', .int .i64 (s.exp now).now], .slice a2 (s.goneL now).length c2, .int .i64 (if s.late now then 144 else 0)] ∧
      hle m m' ∧ RefI m' a' c' (s.exp now).ws ∧ SlI (Enc.int .i64) m' a2 (s.goneL now) ∧ St e m' w' L) := by
  refine (ref_Expire_any (refOf H h) hf.ok (by have := hf.len; omega) now).mono ?_
  rintro _ w' ⟨v, rfl, hc, h1, h2⟩
  unfold LS.goneL LS.exp
  by_cases hl : s.late now
  · obtain rfl := h1 hl
    simp only [if_pos hl]
    exact ⟨_, rfl, a, c, none, 0, m, rfl, hle_refl m, h, SlI.nil, H.ch0 hc⟩
  · obtain ⟨a', c', a2, c2, rfl, hr, hn, hs2, hn2⟩ := h2 hl
    simp only [if_neg hl]
    obtain ⟨m', h1, h2, h3⟩ := H.newAll hc
    exact ⟨_, rfl, a', c', a2, c2, m', rfl, h1, h.of_new h1 h2 hr hn, SlI.of_new h2 hs2 hn2, h3⟩
end
end Go.Proofs.Ytecacohkkdhphaa
