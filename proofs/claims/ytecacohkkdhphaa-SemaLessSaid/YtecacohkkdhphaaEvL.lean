/- Events: the chapter's examples; EventPlays and EventUp return true. Conditions: none. -/
import Derived.Test.YtecacohkkdhphaaEvB
import Derived.Test.YtecacohkkdhphaaEvl
namespace Go.Proofs.Ytecacohkkdhphaa
open Go.Vc
set_option linter.unusedSimpArgs false
set_option linter.unusedVariables false
set_option maxRecDepth 100000

structure ECall where
  kind : Int
  id : Int
  prio : Int
  until_ : Int
deriving Inhabited
def encE : Enc ECall := ⟨4, fun x => [.int .i64 x.kind, .int .i64 x.id, .int .i64 x.prio, .int .i64 x.until_], fun _ => rfl, by decide, fun x v hv => by
  simp at hv; rcases hv with h | h | h | h <;> rw [h] <;> rfl⟩

theorem same_sp {e w : World} {m : Hp} {L : List HP} {a b : Option Addr} {c c' : Nat} {xs ys : List Int} (H : St e m w L) (hx : SlR (Enc.int .i64) w a xs) (hy : SlR (Enc.int .i64) w b ys) (hm : xs.length ≤ 1000000) :
    Calls Try.prog 29 #[.slice a xs.length c, .slice b ys.length c'] w (Ret fun v w' => v = .bool (decide (xs = ys)) ∧ St e m w' L) :=
  (same_any hx hy hm).mono fun _ w' ⟨v, h, h2, hc⟩ => ⟨v, h, h2, H.ch0 hc⟩

def eA0 : ES := ⟨LS.new, false⟩
def eA1 : ES := ⟨⟨[⟨1, 5, -1, 1⟩], 1, 0⟩, false⟩
def eA2 : ES := ⟨⟨[⟨1, 5, -1, 1⟩, ⟨2, 9, -1, 2⟩], 2, 0⟩, false⟩
def eA3 : ES := ⟨⟨[], 2, 0⟩, true⟩
def eA4 : ES := ⟨⟨[], 2, 0⟩, false⟩
theorem qA1 : eA0.wait 1 5 (-1) = eA1 := by kernel_rfl
theorem qA2 : eA1.wait 2 9 (-1) = eA2 := by kernel_rfl
theorem qA3 : eA2.set = eA3 := by kernel_rfl
theorem qA4 : eA3.wait 3 1 0 = eA3 := by kernel_rfl
theorem qA5 : eA3.reset = eA4 := by kernel_rfl
theorem qA6 : eA4.wait 3 1 0 = eA4 := by kernel_rfl
theorem hA1 : eA1.l.fit 1 := qA1 ▸ ES.fit_wait (LS.new_fit 0) 1 5 (-1)
theorem hA2 : eA2.l.fit 2 := qA2 ▸ ES.fit_wait hA1 2 9 (-1)
theorem hA3 : eA3.l.fit 2 := qA3 ▸ ES.fit_set hA2
theorem mA2 : eA2.l.list = [2, 1] := by
  have : ordL eA2.l.ws = [⟨2, 9, -1, 2⟩, ⟨1, 5, -1, 1⟩] := (ordL_eq hA2.ok.came_ (by decide) (by decide)).symm
  unfold LS.list; rw [this]; rfl
theorem mA4 : eA4.l.list = [] := by
  have : ordL eA4.l.ws = [] := (ordL_eq hA3.ok.came_ (by decide) (by decide)).symm
  unfold LS.list; rw [this]; rfl

theorem awake16_sp {e w : World} {m : Hp} {L : List HP} (H : St e m w L) : Calls Try.prog 17 #[] w (Ret fun v w' => v = .bool true ∧ St e m w' L) := by
  apply purlinlaw16_awake.calls
  unfold purlinlaw16_awake.F
  refine Calls.ret (event_New_sp H false) ?_
  rintro v w1 ⟨b, rfl, H⟩
  refine ⟨_, rfl, br_f rfl ?_⟩
  refine Calls.ret (event_Wait_sp (n := 0) (s := eA0) H (LS.new_fit 0) (by decide) 1 5 (-1)) ?_
  rintro v w2 ⟨rfl, H⟩
  rw [qA1] at H
  refine ⟨_, _, rfl, ?_⟩
  refine Calls.ret (event_Wait_sp H hA1 (by decide) 2 9 (-1)) ?_
  rintro v w3 ⟨rfl, H⟩
  rw [qA2] at H
  refine ⟨_, _, rfl, ?_⟩
  refine Calls.ret (event_Set_sp H hA2 (by decide)) ?_
  rintro v w4 ⟨a4, c4, rfl, H⟩
  rw [qA3, mA2] at H
  rw [mA2]
  refine ⟨_, _, _, rfl, ?_⟩
  refine Calls.ret (event_Wait_sp H.at_ hA3 (by decide) 3 1 0) ?_
  rintro v w5 ⟨rfl, H⟩
  rw [qA4] at H
  refine ⟨_, _, rfl, ?_⟩
  refine Calls.ret (event_Up_sp H) ?_
  rintro v w6 ⟨rfl, rfl⟩
  refine ⟨_, rfl, ?_⟩
  refine Calls.ret (event_Reset_sp H) ?_
  rintro v w7 ⟨rfl, H⟩
  rw [qA5] at H
  refine ⟨rfl, ?_⟩
  refine Calls.ret (event_Wait_sp H (n := 2) hA3 (by decide) 3 1 0) ?_
  rintro v w8 ⟨rfl, H⟩
  rw [qA6] at H
  refine ⟨_, _, rfl, br_t rfl (br_t rfl (br_t rfl (br_t rfl ?_)))⟩
  refine H.new fun nb w9 H => ?_
  have hr := H.rowAt
  refine Calls.ret (same_sp H (xs := [2, 1]) (ys := [2, 1]) H.osl (SlR.row (E := Enc.int .i64) hr) (by decide)) ?_
  rintro v w10 ⟨rfl, H⟩
  refine ⟨_, rfl, br_t rfl (br_t rfl (br_t rfl (br_t rfl ?_)))⟩
  refine Calls.ret (event_Up_sp H.at_) ?_
  rintro v w11 ⟨rfl, rfl⟩
  refine ⟨_, rfl, br_t rfl (br_t rfl (br_t rfl ?_))⟩
  have H := H.at_ (A := event b eA4)
  obtain ⟨lb, H⟩ := H.ex
  have H := H.flat
  try simp only [okP_some]
  refine ⟨_, H.ld, _, _, _, meth_List, ?_⟩
  refine Calls.ret (line_List_sp (H.at_ (A := line lb eA4.l)) (n := 2) hA3 (by decide)) ?_
  rintro v w12 ⟨a12, c12, rfl, H⟩
  rw [mA4] at H ⊢
  exact ⟨_, _, _, rfl, rfl, H.re⟩

def ES.step (s : ES) (c : ECall) : ES :=
  if c.kind = 0 then s.wait c.id c.prio c.until_ else if c.kind = 1 then s.set else if c.kind = 2 then s.reset else if c.kind = 3 then s.drop c.id else if c.kind = 4 then s.exp c.until_ else s

theorem wrapk1 {k : Nat} (h : k ≤ 1000000) : IntKind.wrap .i64 ((k : Int) + 1) = ((k + 1 : Nat) : Int) := by rw [← Int.natCast_succ, wrap64_nat (by omega)]

theorem ES.fit_step {s : ES} {n : Nat} (h : s.l.fit n) (c : ECall) : (s.step c).l.fit (n + 1) := by
  unfold ES.step
  split
  · exact ES.fit_wait h _ _ _
  split
  · exact (ES.fit_set h).mono (by omega)
  split
  · exact h.mono (by omega)
  split
  · exact (h.without _).mono (by omega)
  split
  · exact (LS.fit.exp h _).mono (by omega)
  · exact h.mono (by omega)
theorem br_true_ {b : Bool} {X Y : Prop} (h : b = true) (x : X) : br b X Y := br_t h x

theorem EventPlays_any {w0 : World} {a : Option Addr} {c : Nat} {xs : List ECall} (up : Bool) (hx : SlR encE w0 a xs) :
    Calls Try.prog 10 #[.bool up, .slice a xs.length c] w0 (Ret fun v w' => v = .bool true ∧ Ch [] w0 w') := by
  have H := St.init w0
  have hx := hx.sli
  apply purlinlaw16_EventPlays.calls
  unfold purlinlaw16_EventPlays.F
  refine Calls.ret (event_New_sp H up) ?_
  rintro v w1 ⟨eb, rfl, H⟩
  refine ⟨_, rfl, ?_⟩
  refine H.new fun b w H => H.st fun w H => ?_
  refine Calls.ret (awake16_sp H) ?_
  rintro v w2 ⟨rfl, H⟩
  refine ⟨_, rfl, br_f rfl (br_f rfl ?_)⟩
  refine ⟨fun n i w' => ∃ (k : Nat) (s : ES) (m : Hp) (a' : Option Addr) (c' : Nat), i = k ∧ k ≤ 60 ∧ n = 60 - k ∧ s.l.fit k ∧ hle (hpOf w0) m ∧ RefI m a' c' s.l.ws ∧
      St w0 m w' [event eb s, row b 79 [.slice a' s.l.ws.length c', .int .i64 s.l.now, .bool s.up]],
    ⟨_, 0, ⟨LS.new, up⟩, _, none, 0, rfl, by omega, rfl, LS.new_fit 0, hle_refl _, RefI.nil, H.re⟩, ?_⟩
  rintro n9 dead w5 i ⟨k, s, m, a', c', rfl, hk, rfl, hf, hm, hr, H⟩
  unfold purlinlaw16_EventPlays.L0
  refine br_dec (fun hlt => br_dec (fun hlt2 => ?_) fun _ => ⟨rfl, H.fin hm⟩) fun _ => ⟨rfl, H.fin hm⟩
  have hlt : k < xs.length := by omega
  have hlt2 : k < 60 := by omega
  obtain ⟨x, hxk⟩ : ∃ x, xs[k]? = some x := ⟨xs[k], by simp [hlt]⟩
  have hxe : xs[k] = x := by have h := hxk; rw [List.getElem?_eq_getElem hlt] at h; exact Option.some.inj h
  refine ⟨by omega, by omega, ?_⟩
  obtain ⟨ab, ao, rfl, hcell⟩ := (H.sli (hx.mono hm)) k _ hxk
  simp only [okP_some, pb_some, po_some, toNat_nat]
  refine ⟨_, hcell 0 _ rfl, _, hcell 1 _ rfl, _, hcell 2 _ rfl, _, hcell 3 _ rfl, ?_⟩
  refine H.new fun b1 w H => H.st fun w H => ⟨_, H.ld, ?_⟩
  have fin : ∀ (w9 : World) (s' : ES) (m' : Hp) (a9 : Option Addr) (c9 : Nat), s'.l.fit (k + 1) → hle (hpOf w0) m' → RefI m' a9 c9 s'.l.ws →
      St w0 m' w9 [event eb s', row b 79 [.slice a9 s'.l.ws.length c9, .int .i64 s'.l.now, .bool s'.up]] →
      purlinlaw16_EventPlays.K0 (fun v w' => v = .bool true ∧ Ch [] w0 w') (some ⟨eb, 0, none⟩) b k
        (fun x0 w9 => ∃ m, m < 60 - k ∧ ∃ (k : Nat) (s : ES) (m_1 : Hp) (a' : Option Addr) (c' : Nat), x0 = k ∧ k ≤ 60 ∧ m = 60 - k ∧ s.l.fit k ∧ hle (hpOf w0) m_1 ∧ RefI m_1 a' c' s.l.ws ∧
          St w0 m_1 w9 [event eb s, row b 79 [.slice a' s.l.ws.length c', .int .i64 s.l.now, .bool s.up]]) w9 := by
    intro w9 s' m' a9 c9 hf' hm' hr' H
    unfold purlinlaw16_EventPlays.K0
    refine H.drwS (fun w => ∃ L, St w0 m' w (row b 79 [.slice a9 s'.l.ws.length c9, .int .i64 s'.l.now, .bool s'.up] :: L)) (fun w H => ⟨_, H.re⟩) fun w H => ?_
    refine ⟨_, fun w9 ⟨L, H⟩ => H.ld, ?_⟩
    refine Calls.ret (event_Up_sp H) ?_
    rintro v w1 ⟨rfl, rfl⟩
    refine ⟨_, rfl, ⟨_, H.re⟩, br_f (by simp) ?_⟩
    have H := H.at_ (A := event eb s')
    obtain ⟨lb, H⟩ := H.ex
    have H := H.flat
    try simp only [okP_some]
    refine ⟨_, H.ld, _, _, _, fun w9 ⟨L, H⟩ => H.ld, _, fun w9 ⟨L, H⟩ => H.ld, _, _, _, meth_List, ?_⟩
    refine Calls.ret (line_List_sp H.at_ hf' (by omega)) ?_
    rintro v w2 ⟨a2, c2, rfl, H⟩
    refine ⟨_, _, _, rfl, ⟨_, H.re⟩, ?_⟩
    refine Calls.ret (ref_List_sp H hr' hf' (by omega)) ?_
    rintro v w3 ⟨a3, c3, rfl, H⟩
    refine ⟨_, _, _, rfl, ?_⟩
    have h2 := (H.foc (.tl .hd)).ownOut.slr
    have h3 := H.ownOut.slr
    refine Calls.ret (same_sp H h2 h3 (by rw [list_len]; have := hf'.len; omega)) ?_
    rintro v w4 ⟨rfl, H⟩
    refine ⟨_, rfl, br_f (by simp) ?_⟩
    refine ⟨60 - (k + 1), by omega, k + 1, s', m', a9, c9, wrapk1 (by omega), by omega, rfl, hf', hm', hr', ?_⟩
    exact (event_mk (s := s') H.re).re (L := event eb s' :: row b 79 [.slice a9 s'.l.ws.length c9, .int .i64 s'.l.now, .bool s'.up] :: [])
  refine br_intro (fun h0 => ?_) fun h0 => br_intro (fun h1 => ?_) fun h1 => br_intro (fun h2 => ?_) fun h2 => br_intro (fun h3 => ?_) fun h3 => br_intro (fun h4 => ?_) fun h4 => ?_
  · repeat (first | (refine St.new H fun b_ w_ H => ?_) | (refine St.st H fun w_ H => ?_) | (refine ⟨_, St.ld H, ?_⟩) | (refine ⟨_, _, _, St.ld H, ?_⟩) | (refine St.drw H fun w_ H => ?_))
    refine Calls.ret (ref16_Wait_sp H hr hf (by omega) x.id x.prio x.until_) ?_
    rintro v w1 ⟨a1, c1, m1, rfl, hm1, hr1, H⟩
    refine ⟨_, _, _, _, _, _, _, rfl, ?_⟩
    repeat (first | (refine St.new H fun b_ w_ H => ?_) | (refine St.st H fun w_ H => ?_) | (refine ⟨_, St.ld H, ?_⟩) | (refine ⟨_, _, _, St.ld H, ?_⟩) | (refine St.drw H fun w_ H => ?_))
    refine Calls.ret (event_Wait_sp H.at_ hf (by omega) x.id x.prio x.until_) ?_
    rintro v w2 ⟨rfl, H⟩
    refine ⟨_, _, rfl, br_f (by simp) (br_f (by simp) ?_)⟩
    exact fin _ _ _ _ _ (ES.fit_wait hf _ _ _) (hle_trans hm hm1) hr1 H.re
  · repeat (first | (refine St.new H fun b_ w_ H => ?_) | (refine St.st H fun w_ H => ?_) | (refine ⟨_, St.ld H, ?_⟩) | (refine ⟨_, _, _, St.ld H, ?_⟩) | (refine St.drw H fun w_ H => ?_))
    refine Calls.ret (ref16_Set_sp H hr hf (by omega)) ?_
    rintro v w1 ⟨a1, c1, rfl, H⟩
    refine ⟨_, _, _, _, _, _, _, _, rfl, ?_⟩
    repeat (first | (refine St.new H fun b_ w_ H => ?_) | (refine St.st H fun w_ H => ?_) | (refine ⟨_, St.ld H, ?_⟩) | (refine ⟨_, _, _, St.ld H, ?_⟩) | (refine St.drw H fun w_ H => ?_))
    refine Calls.ret (event_Set_sp H.at_ hf (by omega)) ?_
    rintro v w2 ⟨a2, c2, rfl, H⟩
    refine ⟨_, _, _, rfl, ?_⟩
    have h2 := H.ownOut.slr
    have h3 : SlR (Enc.int .i64) w2 a1 s.l.list := H.osl (c := c1)
    refine Calls.ret (same_sp H h2 h3 (by rw [list_len]; have := hf.len; omega)) ?_
    rintro v w4 ⟨rfl, H⟩
    refine ⟨_, rfl, br_f (by simp) ?_⟩
    exact fin _ s.set _ _ _ ((ES.fit_set hf).mono (by omega)) hm RefI.nil H.re
  · repeat (first | (refine St.new H fun b_ w_ H => ?_) | (refine St.st H fun w_ H => ?_) | (refine ⟨_, St.ld H, ?_⟩) | (refine ⟨_, _, _, St.ld H, ?_⟩) | (refine St.drw H fun w_ H => ?_))
    refine Calls.ret (event_Reset_sp H.at_) ?_
    rintro v w1 ⟨rfl, H⟩
    refine ⟨rfl, ?_⟩
    exact fin _ s.reset _ _ _ (hf.mono (by omega)) hm hr H.re
  · repeat (first | (refine St.new H fun b_ w_ H => ?_) | (refine St.st H fun w_ H => ?_) | (refine ⟨_, St.ld H, ?_⟩) | (refine ⟨_, _, _, St.ld H, ?_⟩) | (refine St.drw H fun w_ H => ?_))
    refine Calls.ret (ref_Drop_sp H hr hf (by omega) x.id) ?_
    rintro v w1 ⟨a1, c1, m1, rfl, hm1, hr1, H⟩
    refine ⟨_, _, _, _, _, rfl, ?_⟩
    repeat (first | (refine St.new H fun b_ w_ H => ?_) | (refine St.st H fun w_ H => ?_) | (refine ⟨_, St.ld H, ?_⟩) | (refine ⟨_, _, _, St.ld H, ?_⟩) | (refine St.drw H fun w_ H => ?_))
    have H := H.at_ (A := event eb s)
    obtain ⟨lb, H⟩ := H.ex
    have H := H.flat
    try simp only [okP_some]
    refine ⟨_, H.ld, _, H.ld, _, _, _, meth_Drop, ?_⟩
    refine Calls.ret (line_Drop_sp H.at_ x.id) ?_
    rintro v w2 ⟨rfl, H⟩
    refine ⟨_, rfl, br_f (by simp) ?_⟩
    exact fin _ (s.drop x.id) _ _ _ ((hf.without _).mono (by omega)) (hle_trans hm hm1) hr1 ((event_mk (s := s.drop x.id) H.re).re (L := event eb (s.drop x.id) :: row b _ _ :: []))
  · repeat (first | (refine St.new H fun b_ w_ H => ?_) | (refine St.st H fun w_ H => ?_) | (refine ⟨_, St.ld H, ?_⟩) | (refine ⟨_, _, _, St.ld H, ?_⟩) | (refine St.drw H fun w_ H => ?_))
    refine Calls.ret (ref_Expire_sp H hr hf (by omega) x.until_) ?_
    rintro v w1 ⟨a1, c1, a2, c2, m1, rfl, hm1, hr1, hs1, H⟩
    refine ⟨_, _, _, _, _, _, _, _, rfl, ?_⟩
    repeat (first | (refine St.new H fun b_ w_ H => ?_) | (refine St.st H fun w_ H => ?_) | (refine ⟨_, St.ld H, ?_⟩) | (refine ⟨_, _, _, St.ld H, ?_⟩) | (refine St.drw H fun w_ H => ?_))
    have H := H.at_ (A := event eb s)
    obtain ⟨lb, H⟩ := H.ex
    have H := H.flat
    try simp only [okP_some]
    refine ⟨_, H.ld, _, H.ld, _, _, _, meth_Expire, ?_⟩
    refine Calls.ret (line_Expire_sp H.at_ hf (by omega) x.until_) ?_
    rintro v w2 ⟨a3, c3, rfl, H⟩
    refine ⟨_, _, _, _, rfl, br_f (by simp) ?_⟩
    refine Calls.ret (same_sp H H.ownOut.slr (H.sli hs1) ?_) ?_
    · unfold LS.goneL; split
      · simp
      · rw [List.length_map, (ordE_perm _).length_eq]
        have := List.length_filter_le (fun x_1 : Wt => decide (x_1.until_ ≠ -1) && decide (x_1.until_ ≤ x.until_)) s.l.ws
        have := hf.len
        unfold LS.gone; omega
    rintro v w4 ⟨rfl, H⟩
    refine ⟨_, rfl, br_f (by simp) ?_⟩
    exact fin _ (s.exp x.until_) _ _ _ ((LS.fit.exp hf _).mono (by omega)) (hle_trans hm hm1) hr1 ((event_mk (s := s.exp x.until_) H.re).re (L := event eb (s.exp x.until_) :: row b _ _ :: []))
  · exact fin _ s _ _ _ (hf.mono (by omega)) hm hr H.re
end Go.Proofs.Ytecacohkkdhphaa
