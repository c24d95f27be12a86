/- Events: the plain law, and what package event's functions do. Conditions: none. -/
import Derived.Test.YtecacohkkdhphaaLnRSL
import Derived.Test.YtecacohkkdhphaaEvf
namespace Go.Proofs.Ytecacohkkdhphaa
open Go.Vc
set_option linter.unusedSimpArgs false
set_option linter.unusedVariables false
set_option maxRecDepth 100000

/-- An event: its line, and whether it is up. -/
structure ES where
  l : LS
  up : Bool
def ES.waitE (s : ES) (id prio u : Int) : Int := if s.l.err id prio (-1) ≠ 0 then s.l.err id prio (-1) else if s.up = true ∨ u = 0 then 0 else s.l.err id prio u
def ES.waitB (s : ES) (id prio : Int) : Bool := decide (s.l.err id prio (-1) = 0) && s.up
def ES.wait (s : ES) (id prio u : Int) : ES := if s.l.err id prio (-1) ≠ 0 ∨ s.up = true ∨ u = 0 then s else ⟨s.l.put id prio u, s.up⟩
def ES.set (s : ES) : ES := ⟨⟨[], s.l.came, s.l.now⟩, true⟩
def ES.reset (s : ES) : ES := ⟨s.l, false⟩
def ES.drop (s : ES) (id : Int) : ES := ⟨s.l.without id, s.up⟩
def ES.exp (s : ES) (now : Int) : ES := ⟨s.l.exp now, s.up⟩
theorem LS.fit.empty {s : LS} {n : Nat} (h : s.fit n) : (LS.mk [] s.came s.now).fit n := ⟨⟨List.Pairwise.nil, List.nodup_nil, by simp⟩, Nat.zero_le _, h.c0, h.cn⟩
theorem ES.fit_wait {s : ES} {n : Nat} (h : s.l.fit n) (id prio u : Int) : (s.wait id prio u).l.fit (n + 1) := by
  unfold ES.wait; split
  · exact h.mono (by omega)
  · exact h.put _ _ _
theorem ES.fit_set {s : ES} {n : Nat} (h : s.l.fit n) : s.set.l.fit n := h.empty

/-- Block b is an event. -/
def event (b : Nat) (s : ES) : HP := fun h => ∃ lb, Sep [row b 34 [.iface 105 (.pointer (some ⟨lb, 0, none⟩)), .bool s.up], line lb s.l] h

theorem meth_List {lb : Nat} {w : World} : (callMethod (.iface 105 (.pointer (some ⟨lb, 0, none⟩))) "List" #[]).run Try.prog w = .ok (.enter 52 #[.pointer (some ⟨lb, 0, none⟩)]) w := by kernel_rfl
theorem meth_Put {lb : Nat} {w : World} {x y z : Value} : (callMethod (.iface 105 (.pointer (some ⟨lb, 0, none⟩))) "Put" #[x, y, z]).run Try.prog w = .ok (.enter 72 #[.pointer (some ⟨lb, 0, none⟩), x, y, z]) w := by kernel_rfl
theorem meth_Drop {lb : Nat} {w : World} {x : Value} : (callMethod (.iface 105 (.pointer (some ⟨lb, 0, none⟩))) "Drop" #[x]).run Try.prog w = .ok (.enter 49 #[.pointer (some ⟨lb, 0, none⟩), x]) w := by kernel_rfl
theorem meth_Expire {lb : Nat} {w : World} {x : Value} : (callMethod (.iface 105 (.pointer (some ⟨lb, 0, none⟩))) "Expire" #[x]).run Try.prog w = .ok (.enter 50 #[.pointer (some ⟨lb, 0, none⟩), x]) w := by kernel_rfl

/-- Where a number stands in a list. -/
def idxI (xs : List Int) (v : Int) : Int := match xs.findIdx? (fun x => x == v) with | some k => k | none => -1
theorem idxI_neg {xs : List Int} {v : Int} (h : v ∉ xs) : idxI xs v = -1 := by
  have : xs.findIdx? (fun x => x == v) = none := by
    rw [List.findIdx?_eq_none_iff]; intro x hx; simp; rintro rfl; exact h hx
  simp [idxI, this]
theorem idxI_ge {xs : List Int} {v : Int} : decide (idxI xs v ≥ 0) = decide (v ∈ xs) := by
  by_cases h : v ∈ xs
  · obtain ⟨k, hk⟩ : ∃ k, xs.findIdx? (fun x => x == v) = some k := by
      cases hf : xs.findIdx? (fun x => x == v) with
      | none => rw [List.findIdx?_eq_none_iff] at hf; have := hf v h; simp at this
      | some k => exact ⟨k, rfl⟩
    simp [idxI, hk, h]
  · rw [idxI_neg h]; simp [h]

theorem index_any {w : World} {a : Option Addr} {c : Nat} {xs : List Int} (hs : SlR (Enc.int .i64) w a xs) (hm : xs.length ≤ 1000000) (v : Int) :
    Calls Try.prog 84 #[.slice a xs.length c, .int .i64 v] w (Ret fun r w' => r = .int .i64 (idxI xs v) ∧ w' = w) := by
  apply slices_Index_int_int.calls
  unfold slices_Index_int_int.F
  refine ⟨fun n i w' => ∃ k : Nat, i = k ∧ k ≤ xs.length ∧ n = xs.length - k ∧ (∀ x ∈ xs.take k, x ≠ v) ∧ w' = w, ⟨_, 0, rfl, by omega, rfl, by simp, rfl⟩, ?_⟩
  rintro n dead w1 i ⟨k, rfl, hk, rfl, hno, rfl⟩
  unfold slices_Index_int_int.L0
  refine br_dec (fun hlt => ?_) fun hge => ?_
  · have hlt : k < xs.length := by omega
    obtain ⟨x, hxk⟩ : ∃ x, xs[k]? = some x := ⟨xs[k], by simp [hlt]⟩
    have hxe : xs[k] = x := by have h := hxk; rw [List.getElem?_eq_getElem hlt] at h; exact Option.some.inj h
    refine ⟨by omega, by omega, ?_⟩
    obtain ⟨ab, ao, rfl, hcell⟩ := (hs) k _ hxk
    simp only [okP_some, pb_some, po_some, toNat_nat]
    refine ⟨_, hcell 0 _ rfl, ?_⟩
    refine br_intro (fun h => ⟨?_, by trivial⟩) fun h => ?_
    · have h : v = x := by simpa using h
      have : xs.findIdx? (fun x => x == v) = some k := by
        rw [List.findIdx?_eq_some_iff_getElem]
        refine ⟨hlt, by simp [hxe, h], fun j hj => ?_⟩
        have := hno xs[j] (by rw [List.mem_take_iff_getElem]; exact ⟨j, by omega, rfl⟩)
        simpa using this
      simp [idxI, this]
    · have h : v ≠ x := by simpa using h
      have hk1 : IntKind.wrap .i64 ((k : Int) + 1) = ((k + 1 : Nat) : Int) := by rw [← Int.natCast_succ, wrap64_nat (by omega)]
      refine ⟨xs.length - (k + 1), by omega, k + 1, hk1, by omega, rfl, ?_, by trivial⟩
      rw [List.take_succ_eq_append_getElem hlt, hxe]
      intro y hy
      rcases List.mem_append.1 hy with hy | hy
      · exact hno y hy
      · simp at hy; subst hy; exact Ne.symm h
  · have hke : k = xs.length := by omega
    subst hke
    rw [List.take_of_length_le (Nat.le_refl _)] at hno
    exact ⟨by rw [idxI_neg (fun h => hno v h rfl)], rfl⟩
theorem contains_any {w : World} {a : Option Addr} {c : Nat} {xs : List Int} (hs : SlR (Enc.int .i64) w a xs) (hm : xs.length ≤ 1000000) (v : Int) :
    Calls Try.prog 54 #[.slice a xs.length c, .int .i64 v] w (Ret fun r w' => r = .bool (decide (v ∈ xs)) ∧ w' = w) := by
  apply slices_Contains_int_int.calls
  unfold slices_Contains_int_int.F
  refine Calls.ret (index_any hs hm v) ?_
  rintro r w' ⟨rfl, rfl⟩
  exact ⟨_, rfl, by rw [idxI_ge], rfl⟩

section
variable {e w : World} {m : Hp} {L : List HP} {b n : Nat} {s : ES}
theorem event_mk {lb : Nat} (H : St e m w (row b 34 [.iface 105 (.pointer (some ⟨lb, 0, none⟩)), .bool s.up] :: line lb s.l :: L)) : St e m w (event b s :: L) :=
  (St.join (L1 := [_, _]) H).imp fun h hh => ⟨lb, hh⟩
theorem event_New_sp (H : St e m w L) (up : Bool) : Calls Try.prog 16 #[.bool up] w (Ret fun v w' => ∃ b, v = .pointer (some ⟨b, 0, none⟩) ∧ St e m w' (event b ⟨LS.new, up⟩ :: L)) := by
  apply event_New.calls
  unfold event_New.F
  refine Calls.ret (line_New_sp H) ?_
  rintro v w1 ⟨lb, rfl, H⟩
  refine ⟨_, rfl, ?_⟩
  refine H.new fun b w2 H => ?_
  exact ⟨b, rfl, event_mk H⟩
theorem event_Up_sp (H : St e m w (event b s :: L)) : Calls Try.prog 44 #[.pointer (some ⟨b, 0, none⟩)] w (Ret fun v w' => v = .bool s.up ∧ w' = w) := by
  obtain ⟨lb, H⟩ := H.ex
  have H := H.flat
  apply event_Event_Up.calls
  unfold event_Event_Up.F
  exact ⟨_, H.ld, rfl, rfl⟩
theorem event_Reset_sp (H : St e m w (event b s :: L)) : Calls Try.prog 41 #[.pointer (some ⟨b, 0, none⟩)] w (Ret fun v w' => v = .tuple #[] ∧ St e m w' (event b s.reset :: L)) := by
  obtain ⟨lb, H⟩ := H.ex
  have H := H.flat
  apply event_Event_Reset.calls
  unfold event_Event_Reset.F
  refine H.st fun w H => ?_
  exact ⟨rfl, event_mk (s := s.reset) H⟩
theorem event_Wait_sp (H : St e m w (event b s :: L)) (hf : s.l.fit n) (hn : n ≤ 10000) (id prio u : Int) :
    Calls Try.prog 18 #[.pointer (some ⟨b, 0, none⟩), .int .i64 id, .int .i64 prio, .int .i64 u] w (Ret fun v w' => v = .tuple #[.bool (s.waitB id prio), .int .i64 (s.waitE id prio u)] ∧ St e m w' (event b (s.wait id prio u) :: L)) := by
  have H0 := H
  obtain ⟨lb, H⟩ := H.ex
  have H := H.flat
  apply event_Event_Wait.calls
  unfold event_Event_Wait.F
  have bad : ∀ {w' : World} (k : Int), St e m w' (event b s :: L) → k ≠ 0 → s.l.err id prio (-1) = k →
      (Value.tuple #[.bool false, .int .i64 k] = .tuple #[.bool (s.waitB id prio), .int .i64 (s.waitE id prio u)] ∧ St e m w' (event b (s.wait id prio u) :: L)) := by
    intro w' k H hk he
    unfold ES.waitB ES.waitE ES.wait
    rw [he, if_pos hk, if_pos (.inl hk)]
    exact ⟨by simp [hk], H⟩
  refine br_dec (fun h => bad 140 H0 (by omega) (by simp [LS.err, h])) fun h1 => br_dec (fun h => bad 140 H0 (by omega) (by rw [LS.err, if_pos (by omega)])) fun h2 => ?_
  have e1 : ¬ (id < 0 ∨ 65535 < id) := by omega
  refine br_dec (fun h => bad 143 H0 (by omega) (by rw [LS.err, if_neg e1, if_pos (by omega)])) fun h3 => br_dec (fun h => bad 143 H0 (by omega) (by rw [LS.err, if_neg e1, if_pos (by omega)])) fun h4 => ?_
  have e2 : ¬ (prio < 0 ∨ 63 < prio) := by omega
  refine ⟨_, H.ld, _, _, _, meth_List, ?_⟩
  refine Calls.ret (line_List_sp H.at_ hf (by omega)) ?_
  rintro v w1 ⟨a, c, rfl, H⟩
  refine ⟨_, _, _, rfl, ?_⟩
  refine Calls.ret (contains_any H.osl (by rw [list_len]; have := hf.len; omega) id) ?_
  rintro v w2 ⟨rfl, rfl⟩
  refine ⟨_, rfl, ?_⟩
  have H1 : St e m w2 (event b s :: L) := event_mk H.re
  refine br_dec (fun h => bad 141 H1 (by omega) ?_) fun h => ?_
  · rw [LS.err, if_neg e1, if_neg e2, if_neg (by omega), if_pos (mem_list.1 h)]
  · have e3 : s.l.err id prio (-1) = 0 := by rw [LS.err, if_neg e1, if_neg e2, if_neg (by omega), if_neg (fun hh => h (mem_list.2 hh))]
    unfold ES.waitB ES.waitE ES.wait
    simp only [e3]
    refine ⟨_, H.ld, ?_⟩
    refine br_intro (fun hu => ⟨_, H.ld, ?_⟩) fun hu => br_intro (fun hu0 => ⟨_, H.ld, ?_⟩) fun hu0 => ?_
    · simp [hu]; exact H1
    · have : u = 0 := by simpa using hu0
      simp [hu, this]; exact H1
    · have hu1 : u ≠ 0 := by simpa using hu0
      simp only [hu, hu1, ne_eq, not_true, false_or, or_self, if_false, Bool.false_eq_true, decide_true, Bool.and_false]
      refine ⟨_, H.ld, _, _, _, meth_Put, ?_⟩
      refine Calls.ret (line_Put_sp H.at_ hf (by omega) id prio u) ?_
      rintro v w4 ⟨rfl, H⟩
      have H := event_mk (s := ⟨s.l.put id prio u, s.up⟩) H.re
      rw [hu] at H
      exact ⟨_, rfl, rfl, H.re⟩
/-- What is left of a line when the first k of its list have gone. -/
def LS.left (s : LS) (k : Nat) : LS := ⟨s.ws.filter (fun x => !(s.list.take k).contains x.id), s.came, s.now⟩
theorem LS.left_zero (s : LS) : s.left 0 = s := by
  show LS.mk (s.ws.filter _) _ _ = s
  rw [List.filter_eq_self.2 (by simp)]
theorem LS.left_succ {s : LS} {k : Nat} {x : Int} (hx : s.list[k]? = some x) : (s.left k).without x = s.left (k + 1) := by
  obtain ⟨hk, he⟩ := List.getElem?_eq_some_iff.1 hx
  unfold LS.left LS.without
  simp only [LS.mk.injEq, and_true]
  rw [List.filter_filter, List.take_succ_eq_append_getElem hk, he]
  refine List.filter_congr fun y _ => ?_
  by_cases h1 : y.id = x <;> by_cases h2 : y.id ∈ s.list.take k <;> simp [h1, h2]
theorem LS.left_all (s : LS) : s.left s.list.length = ⟨[], s.came, s.now⟩ := by
  unfold LS.left
  simp only [LS.mk.injEq, and_true, List.take_length]
  rw [List.filter_eq_nil_iff]
  intro x hx
  have : x.id ∈ s.list := mem_list.2 (LS.has_iff.2 ⟨x, hx, rfl⟩)
  simp [this]
theorem event_Set_sp (H : St e m w (event b s :: L)) (hf : s.l.fit n) (hn : n ≤ 10000) :
    Calls Try.prog 19 #[.pointer (some ⟨b, 0, none⟩)] w (Ret fun v w' => ∃ a c, v = .slice a s.l.list.length c ∧ St e m w' (own (Enc.int .i64) 3 a c s.l.list :: event b s.set :: L)) := by
  obtain ⟨lb, H⟩ := H.ex
  have H := H.flat
  apply event_Event_Set.calls
  unfold event_Event_Set.F
  refine ⟨_, H.ld, _, _, _, meth_List, ?_⟩
  refine Calls.ret (line_List_sp H.at_ hf (by omega)) ?_
  rintro v w1 ⟨a, c, rfl, H⟩
  refine ⟨_, _, _, rfl, ?_⟩
  have hlen : s.l.list.length ≤ 10000 := by rw [list_len]; have := hf.len; omega
  refine ⟨fun j i w' => ∃ k : Nat, i = k ∧ k ≤ s.l.list.length ∧ j = s.l.list.length - k ∧ St e m w' (own (Enc.int .i64) 3 a c s.l.list :: line lb (s.l.left k) :: row b 34 [.iface 105 (.pointer (some ⟨lb, 0, none⟩)), .bool s.up] :: L),
    ⟨_, 0, rfl, by omega, rfl, ?_⟩, ?_⟩
  · rw [LS.left_zero]; exact H.re
  rintro n9 dead w2 i ⟨k, rfl, hk, rfl, H⟩
  unfold event_Event_Set.L0
  refine br_dec (fun hlt => ?_) fun hge => ?_
  · have hlt : k < s.l.list.length := by omega
    obtain ⟨x, hxk⟩ : ∃ x, s.l.list[k]? = some x := ⟨s.l.list[k], by simp [hlt]⟩
    have hxe : s.l.list[k] = x := by have h := hxk; rw [List.getElem?_eq_getElem hlt] at h; exact Option.some.inj h
    refine ⟨by omega, by omega, ?_⟩
    obtain ⟨ab, ao, rfl, hcell⟩ := (H.osl) k _ hxk
    simp only [okP_some, pb_some, po_some, toNat_nat]
    refine ⟨_, hcell 0 _ rfl, _, H.ld, _, _, _, meth_Drop, ?_⟩
    refine Calls.ret (line_Drop_sp H.at_ x) ?_
    rintro v w3 ⟨rfl, H⟩
    rw [LS.left_succ hxk] at H
    refine ⟨_, rfl, ?_⟩
    have hk1 : IntKind.wrap .i64 ((k : Int) + 1) = ((k + 1 : Nat) : Int) := by rw [← Int.natCast_succ, wrap64_nat (by omega)]
    exact ⟨s.l.list.length - (k + 1), by omega, k + 1, hk1, by omega, rfl, H.re⟩
  · have hke : k = s.l.list.length := by omega
    subst hke
    rw [LS.left_all] at H
    refine H.st fun w H => ?_
    exact ⟨a, c, rfl, (event_mk (s := s.set) (L := own (Enc.int .i64) 3 a c s.l.list :: L) H.re).re⟩
end
end Go.Proofs.Ytecacohkkdhphaa
