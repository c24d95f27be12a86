/- Events: EventUp and EventOnce return true. Conditions: none. -/
import Derived.Test.YtecacohkkdhphaaEvL
namespace Go.Proofs.Ytecacohkkdhphaa
open Go.Vc
set_option linter.unusedSimpArgs false
set_option linter.unusedVariables false
set_option maxRecDepth 100000

theorem elI_ : ElT Try.prog 29 3 (Enc.int .i64) 8 := elI
section
variable {e w : World} {m : Hp} {L : List HP} {b n : Nat} {s : ES}
theorem ev_List {K : Option Addr → Nat → Nat → World → Prop} (H : St e m w (event b s :: L)) (hf : s.l.fit n) (hn : n ≤ 10000) (h : ∀ a c w', St e m w' (own (Enc.int .i64) 3 a c s.l.list :: event b s :: L) → K a s.l.list.length c w') :
    ∃ V : Value, w.cell? ⟨b, 0, none⟩ = some V ∧ ∃ (f : FuncId) (args : Array Value) (w2 : World), (callMethod V "List" #[]).run Try.prog w = .ok (.enter f args) w2 ∧
      Calls Try.prog f args w2 (fun e w1 => ∃ (A : Option Addr) (N C : Nat), e = .returned (.slice A N C) ∧ K A N C w1) := by
  obtain ⟨lb, H⟩ := H.ex
  have H := H.flat
  refine ⟨_, H.ld, _, _, _, meth_List, ?_⟩
  refine Calls.ret (line_List_sp H.at_ hf (by omega)) ?_
  rintro v w2 ⟨a2, c2, rfl, H⟩
  exact ⟨_, _, _, rfl, h _ _ _ ((event_mk (s := s) (L := own (Enc.int .i64) 3 a2 c2 s.l.list :: L) H.re).re)⟩
theorem ev_Drop (H : St e m w (event b s :: L)) (id : Int) : ∃ lb, w.cell? ⟨b, 0, none⟩ = some (.iface 105 (.pointer (some ⟨lb, 0, none⟩))) ∧
    Calls Try.prog 49 #[.pointer (some ⟨lb, 0, none⟩), .int .i64 id] w (Ret fun v w' => v = .int .i64 (if s.l.has id = true then 0 else 142) ∧ St e m w' (event b (s.drop id) :: L)) := by
  obtain ⟨lb, H⟩ := H.ex
  have H := H.flat
  refine ⟨lb, H.ld, ?_⟩
  refine (line_Drop_sp H.at_ id).mono ?_
  rintro _ w' ⟨v, rfl, rfl, H⟩
  exact ⟨_, rfl, rfl, event_mk (s := s.drop id) H.re⟩
theorem ev_Expire (H : St e m w (event b s :: L)) (hf : s.l.fit n) (hn : n ≤ 10000) (now : Int) : ∃ lb, w.cell? ⟨b, 0, none⟩ = some (.iface 105 (.pointer (some ⟨lb, 0, none⟩))) ∧
    Calls Try.prog 50 #[.pointer (some ⟨lb, 0, none⟩), .int .i64 now] w (Ret fun v w' => ∃ a c, v = .tuple #[.slice a (s.l.goneL now).length c, .int .i64 (if s.l.late now then 144 else 0)] ∧
      St e m w' (own (Enc.int .i64) 3 a c (s.l.goneL now) :: event b (s.exp now) :: L)) := by
  obtain ⟨lb, H⟩ := H.ex
  have H := H.flat
  refine ⟨lb, H.ld, ?_⟩
  refine (line_Expire_sp H.at_ hf (by omega) now).mono ?_
  rintro _ w' ⟨v, rfl, a, c, rfl, H⟩
  exact ⟨_, rfl, a, c, rfl, (event_mk (s := s.exp now) (L := own (Enc.int .i64) 3 a c (s.l.goneL now) :: L) H.re).re⟩
end

def ES.calm (s : ES) : Prop := s.up = true → s.l.ws = []
theorem list_nil {s : LS} (h : s.ws = []) : s.list = [] := by
  have := list_len s
  rw [h] at this
  exact List.eq_nil_of_length_eq_zero this
theorem calm_wait {s : ES} (h : s.calm) (id prio u : Int) : (s.wait id prio u).calm := by
  unfold ES.wait; split
  · exact h
  · rename_i hn
    intro hu
    exact absurd (show s.up = true from hu) (fun hu => hn (.inr (.inl hu)))
theorem calm_drop {s : ES} (h : s.calm) (id : Int) : (s.drop id).calm := fun hu => by
  show s.l.ws.filter _ = []
  rw [h hu]; rfl
theorem calm_exp {s : ES} (h : s.calm) (now : Int) : (s.exp now).calm := fun hu => by
  show (s.l.exp now).ws = []
  unfold LS.exp; split
  · exact h hu
  · show s.l.ws.filter _ = []
    rw [h hu]; rfl

theorem EventUp_any {w0 : World} {a : Option Addr} {c : Nat} {xs : List ECall} (up : Bool) (hx : SlR encE w0 a xs) :
    Calls Try.prog 11 #[.bool up, .slice a xs.length c] w0 (Ret fun v w' => v = .bool true ∧ Ch [] w0 w') := by
  have H := St.init w0
  have hx := hx.sli
  have hm := hle_refl (hpOf w0)
  apply purlinlaw16_EventUp.calls
  unfold purlinlaw16_EventUp.F
  refine Calls.ret (event_New_sp H up) ?_
  rintro v w1 ⟨eb, rfl, H⟩
  refine ⟨_, rfl, ?_⟩
  refine Calls.ret (awake16_sp H) ?_
  rintro v w2 ⟨rfl, H⟩
  refine ⟨_, rfl, br_f rfl (br_f rfl ?_)⟩
  refine ⟨fun n i w' => ∃ (k : Nat) (s : ES), i = k ∧ k ≤ 60 ∧ n = 60 - k ∧ s.l.fit k ∧ s.calm ∧ St w0 (hpOf w0) w' [event eb s],
    ⟨_, 0, ⟨LS.new, up⟩, rfl, by omega, rfl, LS.new_fit 0, fun _ => rfl, H.re⟩, ?_⟩
  rintro n9 dead w5 i ⟨k, s, rfl, hk, rfl, hf, hca, H⟩
  unfold purlinlaw16_EventUp.L0
  refine br_dec (fun hlt => br_dec (fun hlt2 => ?_) fun _ => ⟨rfl, H.fin hm⟩) fun _ => ⟨rfl, H.fin hm⟩
  have hlt : k < xs.length := by omega
  have hlt2 : k < 60 := by omega
  obtain ⟨x, hxk⟩ : ∃ x, xs[k]? = some x := ⟨xs[k], by simp [hlt]⟩
  have hxe : xs[k] = x := by have h := hxk; rw [List.getElem?_eq_getElem hlt] at h; exact Option.some.inj h
  refine ⟨by omega, by omega, ?_⟩
  obtain ⟨ab, ao, rfl, hcell⟩ := (H.sli hx) k _ hxk
  simp only [okP_some, pb_some, po_some, toNat_nat]
  refine ⟨_, hcell 0 _ rfl, _, hcell 1 _ rfl, _, hcell 2 _ rfl, _, hcell 3 _ rfl, ?_⟩
  refine H.new fun b1 w H => H.st fun w H => ?_
  have fin : ∀ (w9 : World) (s' : ES), s'.l.fit (k + 1) → s'.calm → St w0 (hpOf w0) w9 [event eb s'] →
      purlinlaw16_EventUp.K0 (fun v w' => v = .bool true ∧ Ch [] w0 w') (some ⟨eb, 0, none⟩) k
        (fun x0 w9 => ∃ m, m < 60 - k ∧ ∃ (k : Nat) (s : ES), x0 = k ∧ k ≤ 60 ∧ m = 60 - k ∧ s.l.fit k ∧ s.calm ∧ St w0 (hpOf w0) w9 [event eb s]) w9 := by
    intro w9 s' hf' hca' H
    have done : ∀ {w : World}, St w0 (hpOf w0) w [event eb s'] → ∃ m, m < 60 - k ∧ ∃ (k_1 : Nat) (s : ES), IntKind.wrap .i64 ((k : Int) + 1) = k_1 ∧ k_1 ≤ 60 ∧ m = 60 - k_1 ∧ s.l.fit k_1 ∧ s.calm ∧ St w0 (hpOf w0) w [event eb s] :=
      fun H => ⟨60 - (k + 1), by omega, k + 1, s', wrapk1 (by omega), by omega, rfl, hf', hca', H⟩
    unfold purlinlaw16_EventUp.K0
    refine Calls.ret (event_Up_sp H) ?_
    rintro v w1 ⟨rfl, rfl⟩
    refine ⟨_, rfl, br_intro (fun hu => ?_) fun hu => done H⟩
    try simp only [okP_some]
    refine ev_List H hf' (by omega) fun a c w H => ?_
    rw [list_nil (hca' hu)]
    exact br_f rfl (done H.re)
  refine Calls.ret (event_Up_sp H.at_) ?_
  rintro v w1 ⟨rfl, rfl⟩
  refine ⟨_, rfl, _, H.ld, ?_⟩
  refine br_intro (fun h0 => ?_) fun h0 => br_intro (fun h1 => ?_) fun h1 => br_intro (fun h2 => ?_) fun h2 => br_intro (fun h3 => ?_) fun h3 => br_intro (fun h4 => ?_) fun h4 => ?_
  · refine ⟨_, H.ld, _, H.ld, _, H.ld, ?_⟩
    refine Calls.ret (event_Wait_sp H.at_ hf (by omega) x.id x.prio x.until_) ?_
    rintro v w2 ⟨rfl, H⟩
    refine ⟨_, _, rfl, ?_⟩
    have fin2 := fin
    have ku : (s.wait x.id x.prio x.until_).up = s.up := by unfold ES.wait; split <;> rfl
    have rest : br s.up (Calls Try.prog 44 #[.pointer (some ⟨eb, 0, none⟩)] w2 (fun e w9 => ∃ t60 : Bool, e = .returned (.bool t60) ∧
        br (!(t60 == s.up)) (Value.bool false = .bool true ∧ Ch [] w0 w9) (purlinlaw16_EventUp.K0 (fun v w' => v = .bool true ∧ Ch [] w0 w') (some ⟨eb, 0, none⟩) k
        (fun x0 w9 => ∃ m, m < 60 - k ∧ ∃ (k : Nat) (s : ES), x0 = k ∧ k ≤ 60 ∧ m = 60 - k ∧ s.l.fit k ∧ s.calm ∧ St w0 (hpOf w0) w9 [event eb s]) w9)))
        (purlinlaw16_EventUp.K0 (fun v w' => v = .bool true ∧ Ch [] w0 w') (some ⟨eb, 0, none⟩) k
        (fun x0 w9 => ∃ m, m < 60 - k ∧ ∃ (k : Nat) (s : ES), x0 = k ∧ k ≤ 60 ∧ m = 60 - k ∧ s.l.fit k ∧ s.calm ∧ St w0 (hpOf w0) w9 [event eb s]) w2) := by
      refine br_intro (fun hu => ?_) fun hu => fin _ _ (ES.fit_wait hf _ _ _) (calm_wait hca _ _ _) H.re
      refine Calls.ret (event_Up_sp H) ?_
      rintro v w3 ⟨rfl, rfl⟩
      refine ⟨_, rfl, br_f (by rw [ku]; simp) ?_⟩
      exact fin _ _ (ES.fit_wait hf _ _ _) (calm_wait hca _ _ _) H.re
    refine br_intro (fun hb => ?_) fun hb => rest
    have hu : s.up = true := by
      unfold ES.waitB at hb
      simp at hb; exact hb.2
    exact br_f (by simp [hu]) rest
  · try simp only [okP_some]
    refine ev_List H.at_ hf (by omega) fun a c w H => ?_
    refine Calls.ret (event_Set_sp H.at_ hf (by omega)) ?_
    rintro v w2 ⟨a2, c2, rfl, H⟩
    refine ⟨_, _, _, rfl, ?_⟩
    have h2 := H.ownOut.slr
    have h3 : SlR (Enc.int .i64) w2 a s.l.list := H.osl (c := c)
    refine Calls.ret (same_sp H h2 h3 (by rw [list_len]; have := hf.len; omega)) ?_
    rintro v w4 ⟨rfl, H⟩
    refine ⟨_, rfl, br_f (by simp) ?_⟩
    refine Calls.ret (event_Up_sp (s := s.set) H.at_) ?_
    rintro v w5 ⟨rfl, rfl⟩
    refine ⟨_, rfl, br_f rfl ?_⟩
    exact fin _ s.set ((ES.fit_set hf).mono (by omega)) (fun _ => rfl) H.re
  · refine Calls.ret (event_Reset_sp H.at_) ?_
    rintro v w1 ⟨rfl, H⟩
    refine ⟨rfl, ?_⟩
    refine Calls.ret (event_Up_sp (s := s.reset) H) ?_
    rintro v w5 ⟨rfl, rfl⟩
    refine ⟨_, rfl, br_f rfl ?_⟩
    exact fin _ s.reset (hf.mono (by omega)) (fun h => by cases h) H.re
  · refine H.drw fun w H => ?_
    try simp only [okP_some]
    obtain ⟨lb, hc, hd⟩ := ev_Drop (H.at_ (A := event eb s)) x.id
    refine ⟨_, hc, _, H.ld, _, _, _, meth_Drop, ?_⟩
    refine Calls.ret hd ?_
    rintro v w2 ⟨rfl, H⟩
    refine ⟨_, rfl, ?_⟩
    exact fin _ _ ((hf.without _).mono (by omega)) (calm_drop hca x.id) H.re
  · refine H.drw fun w H => ?_
    try simp only [okP_some]
    obtain ⟨lb, hc, hd⟩ := ev_Expire (H.at_ (A := event eb s)) hf (by omega) x.until_
    refine ⟨_, hc, _, H.ld, _, _, _, meth_Expire, ?_⟩
    refine Calls.ret hd ?_
    rintro v w2 ⟨a2, c2, rfl, H⟩
    refine ⟨_, _, _, _, rfl, ?_⟩
    exact fin _ _ ((LS.fit.exp hf _).mono (by omega)) (calm_exp hca x.until_) H.re
  · exact fin _ s (hf.mono (by omega)) hca H.re
end Go.Proofs.Ytecacohkkdhphaa
