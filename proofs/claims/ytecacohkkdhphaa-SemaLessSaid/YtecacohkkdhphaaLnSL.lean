/- Lines of those who wait: what package line's functions do, told by separated memory. Conditions: none. -/
import Derived.Test.YtecacohkkdhphaaVcSL2
import Derived.Test.YtecacohkkdhphaaLnS
import Derived.Test.YtecacohkkdhphaaLnFit
namespace Go.Proofs.Ytecacohkkdhphaa
open Go.Vc
set_option linter.unusedSimpArgs false
set_option linter.unusedVariables false
set_option maxRecDepth 100000

theorem LineRep.loc (b mb : Nat) (s : LS) : LocP [b, mb] (fun w => LineRep w b mb s) := by
  rintro w w' ⟨h1, ⟨⟨es, clock, h2, r⟩, n⟩, h3⟩ hd
  exact ⟨by unfold Row at *; rw [hd b (by simp)]; exact h1, ⟨⟨es, clock, by rw [hd mb (by simp)]; exact h2, r⟩, n⟩, h3⟩
/-- Block b is a line. -/
def line (b : Nat) (s : LS) : HP := fun h => ∃ mb, asW [b, mb] (fun w => LineRep w b mb s) h

section
variable {e w : World} {m : Hp} {L : List HP} {b n : Nat} {s : LS}
theorem line_New_sp (H : St e m w L) : Calls Try.prog 53 #[] w (Ret fun v w' => ∃ b, v = .pointer (some ⟨b, 0, none⟩) ∧ St e m w' (line b LS.new :: L)) := by
  refine line_New_any.mono ?_
  rintro _ w' ⟨v, rfl, b, mb, rfl, hr, hc, hb, hmb⟩
  refine ⟨_, rfl, b, rfl, St.imp (H.asNew (D' := [b, mb]) (P' := fun w => LineRep w b mb LS.new) hc hr ?_) fun h hh => ⟨mb, hh⟩⟩
  intro x hx
  have := hr.lt
  simp at hx; omega
theorem line_Put_sp (H : St e m w (line b s :: L)) (hf : s.fit n) (hn : n ≤ 1000000) (id prio until_ : Int) :
    Calls Try.prog 72 #[.pointer (some ⟨b, 0, none⟩), .int .i64 id, .int .i64 prio, .int .i64 until_] w (Ret fun v w' => v = .int .i64 (s.err id prio until_) ∧ St e m w' (line b (s.put id prio until_) :: L)) := by
  obtain ⟨mb, H⟩ := H.ex
  refine (line_Put_any (H.asOut (LineRep.loc b mb s)) hf.ok hf.c0 (by have := hf.cn; omega) id prio until_).mono ?_
  rintro _ w' ⟨v, rfl, rfl, hr, hc⟩
  refine ⟨_, rfl, rfl, St.imp (H.asIn (D' := [b, mb]) (P' := fun w => LineRep w b mb (s.put id prio until_)) hc hr (fun x hx => .inl hx) ?_) fun h hh => ⟨mb, hh⟩⟩
  intro x hx
  have := hr.lt
  simp at hx ⊢; omega
theorem line_List_sp (H : St e m w (line b s :: L)) (hf : s.fit n) (hn : n ≤ 1000000) :
    Calls Try.prog 52 #[.pointer (some ⟨b, 0, none⟩)] w (Ret fun v w' => ∃ a c, v = .slice a s.list.length c ∧ St e m w' (own (Enc.int .i64) 3 a c s.list :: line b s :: L)) := by
  obtain ⟨mb, H1⟩ := H.ex
  refine (line_List_any sortO (H1.asOut (LineRep.loc b mb s)) hf.ok (by have := hf.len; omega)).mono ?_
  rintro _ w' ⟨v, rfl, a, c, rfl, ho, hc⟩
  exact ⟨_, rfl, a, c, rfl, H.ownIn hc ho (Nat.le_refl _)⟩
theorem line_Take_sp (H : St e m w (line b s :: L)) (hf : s.fit n) (hn : n ≤ 1000000) :
    Calls Try.prog 73 #[.pointer (some ⟨b, 0, none⟩)] w (Ret fun v w' => v = .tuple #[.int .i64 (s.list.head?.getD 0), .bool s.list.head?.isSome] ∧ St e m w' (line b s.taken :: L)) := by
  obtain ⟨mb, H⟩ := H.ex
  refine (line_Take_any sortO (H.asOut (LineRep.loc b mb s)) hf.ok (by have := hf.len; omega)).mono ?_
  rintro _ w' ⟨v, rfl, rfl, hr, hc⟩
  refine ⟨_, rfl, rfl, St.imp (H.asIn (D' := [b, mb]) (P' := fun w => LineRep w b mb s.taken) hc hr (fun x hx => .inl (by simp at hx ⊢; omega)) ?_) fun h hh => ⟨mb, hh⟩⟩
  intro x hx
  have := hr.lt
  simp at hx ⊢; omega
theorem line_Drop_sp (H : St e m w (line b s :: L)) (id : Int) :
    Calls Try.prog 49 #[.pointer (some ⟨b, 0, none⟩), .int .i64 id] w (Ret fun v w' => v = .int .i64 (if s.has id = true then 0 else 142) ∧ St e m w' (line b (s.without id) :: L)) := by
  obtain ⟨mb, H⟩ := H.ex
  refine (line_Drop_any (H.asOut (LineRep.loc b mb s)) id).mono ?_
  rintro _ w' ⟨v, rfl, rfl, hr, hc⟩
  refine ⟨_, rfl, rfl, St.imp (H.asIn (D' := [b, mb]) (P' := fun w => LineRep w b mb (s.without id)) hc hr (fun x hx => .inl (by simp at hx ⊢; omega)) ?_) fun h hh => ⟨mb, hh⟩⟩
  intro x hx
  have := hr.lt
  simp at hx ⊢; omega
def LS.exp (s : LS) (now : Int) : LS := if s.late now then s else s.stay now
def LS.goneL (s : LS) (now : Int) : List Int := if s.late now then [] else (ordE (s.gone now)).map Wt.id
theorem LS.fit.exp (hf : s.fit n) (now : Int) : (s.exp now).fit n := by
  unfold LS.exp; split
  · exact hf
  · exact hf.stay now
theorem line_Expire_sp (H : St e m w (line b s :: L)) (hf : s.fit n) (hn : n ≤ 1000000) (now : Int) :
    Calls Try.prog 50 #[.pointer (some ⟨b, 0, none⟩), .int .i64 now] w (Ret fun v w' => ∃ a c, v = .tuple #[.slice a (s.goneL now).length c, .int .i64 (if s.late now then 144 else 0)] ∧
      St e m w' (own (Enc.int .i64) 3 a c (s.goneL now) :: line b (s.exp now) :: L)) := by
  obtain ⟨mb, H1⟩ := H.ex
  refine (line_Expire_any sortE (H1.asOut (LineRep.loc b mb s)) hf.ok (by have := hf.len; omega) now).mono ?_
  rintro _ w' ⟨v, rfl, h1, h2⟩
  unfold LS.goneL LS.exp
  by_cases hl : s.late now
  · obtain ⟨rfl, hr, hc⟩ := h1 hl
    simp only [if_pos hl]
    exact ⟨_, rfl, none, 0, rfl, (H.ch0 hc).ownNil _ _⟩
  · obtain ⟨a, c, rfl, ho, hr, hc⟩ := h2 hl
    simp only [if_neg hl]
    refine ⟨_, rfl, a, c, rfl, ?_⟩
    have hlt := hr.lt
    -- the line changes first, the list is new
    obtain ⟨p, hp1, hp2, hp3⟩ := own_part (Own_own ho)
    have hlt0 := (H1.asOut (LineRep.loc b mb s)).lt
    have H2 : St e m w' (Sep [own (Enc.int .i64) 3 a c ((ordE (s.gone now)).map Wt.id), asW [b, mb] (fun w => LineRep w b mb (s.stay now))] :: L) := by
      refine St.ch H1 hc fun q hq hl => ⟨fun x hx => .inl (as_dom hq x hx), ?_⟩
      obtain ⟨r, hr1, hr2, hr3⟩ := as_part (D := [b, mb]) (D' := [b, mb]) (P := fun w => LineRep w b mb (s.stay now)) hr (fun x hx => by simp at hx; omega)
      have hd : hdis p r := fun i => by
        rcases Option.eq_none_or_eq_some (p i) with h | ⟨o, h⟩
        · exact .inl h
        · right
          rcases Option.eq_none_or_eq_some (r i) with h' | ⟨o', h'⟩
          · exact h'
          · obtain ⟨k1, rfl⟩ := hp3 i (by rw [h]; simp)
            have k2 := hr3 (pb a) (by rw [h']; simp)
            have := ho.base.resolve_left k1
            simp at k2; omega
      refine ⟨hun p r, ⟨p, r, hp1, ⟨r, hemp, hr1, trivial, fun _ => .inr rfl, hle_refl _, fun _ _ h => by cases h⟩, hd, hle_hun _ _, hle_hun2 hd⟩, hun_le hp2 hr2, fun i hi => ?_⟩
      rcases Option.eq_none_or_eq_some (p i) with h | ⟨o, h⟩
      · left
        rcases Option.eq_none_or_eq_some (r i) with h' | ⟨o', h'⟩
        · exact absurd (hun_none h h') hi
        · exact as_dom hq i (hr3 i (by rw [h']; simp))
      · right
        obtain ⟨k1, rfl⟩ := hp3 i (by rw [h]; simp)
        exact ho.base.resolve_left k1
    have H3 := H2.flat
    exact (((H3.foc (.tl .hd)).imp (A' := line b (s.stay now)) fun h hh => ⟨mb, hh⟩).foc (.tl .hd))
end
end Go.Proofs.Ytecacohkkdhphaa
