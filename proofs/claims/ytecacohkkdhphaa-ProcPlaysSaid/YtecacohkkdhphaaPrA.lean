/- Processes: the plain law, and what package proc's functions do. Conditions: none. -/
import Derived.Test.YtecacohkkdhphaaVcSL2
import Derived.Test.YtecacohkkdhphaaVcInt
import Derived.Test.YtecacohkkdhphaaVcEq
import Derived.Test.YtecacohkkdhphaaPrf
namespace Go.Proofs.Ytecacohkkdhphaa
open Go.Vc
set_option linter.unusedSimpArgs false
set_option linter.unusedVariables false
set_option maxRecDepth 100000

structure Pr where
  st : Int
  held : Bool
  prio : Int
  came : Int
deriving DecidableEq, Inhabited
def encP : Enc Pr := ⟨4, fun x => [.int .i64 x.st, .bool x.held, .int .i64 x.prio, .int .i64 x.came], fun _ => rfl, by decide, fun x v hv => by
  simp at hv; rcases hv with h | h | h | h <;> rw [h] <;> rfl⟩
/-- A process that is dormant. -/
def dorm (p : Int) : Pr := ⟨0, false, p, 0⟩
def Pr.may (p : Pr) : Bool := p.st == 1 && !p.held
def Pr.alive (p : Pr) : Bool := p.st != 0
/-- A partition's processes: their first priorities, what they are, how often one came behind. -/
structure PT where
  pr : List Int
  l : List Pr
  came : Int
def PT.put (t : PT) (k : Nat) (q : Pr) (z : Int) : PT :=
  if z = 1 then ⟨t.pr, t.l.set k ⟨1, q.held, q.prio, t.came + 1⟩, t.came + 1⟩ else if z = 2 then ⟨t.pr, t.l.set k ⟨q.st, q.held, q.prio, t.came + 1⟩, t.came + 1⟩ else ⟨t.pr, t.l.set k q, t.came⟩
def PT.withE (t : PT) (i : Int) (is : Pr → Bool) : Int := if i < 0 ∨ (t.l.length : Int) ≤ i then 170 else if is (t.l[i.toNat]?.getD default) = true then 0 else 171
def PT.withS (t : PT) (i : Int) (is : Pr → Bool) (f : Pr → Pr) (z : Int) : PT := if i < 0 ∨ (t.l.length : Int) ≤ i then t else if is (t.l[i.toNat]?.getD default) = true then t.put i.toNat (f (t.l[i.toNat]?.getD default)) z else t
structure PT.fit (t : PT) (n : Nat) : Prop where
  len : t.l.length = t.pr.length
  one : 1 ≤ t.pr.length
  most : t.pr.length ≤ 16
  prio : ∀ p ∈ t.pr, 0 ≤ p ∧ p ≤ 63
  c0 : 0 ≤ t.came
  cn : t.came ≤ n
  dead : ∀ (i : Nat) (x : Pr) (p : Int), t.l[i]? = some x → t.pr[i]? = some p → x.st = 0 → x = dorm p
theorem PT.fit.mono {t : PT} {n k : Nat} (h : t.fit n) (hk : n ≤ k) : t.fit k := ⟨h.len, h.one, h.most, h.prio, h.c0, by have := h.cn; omega, h.dead⟩

/-- Block b is a table of processes. -/
def table (b : Nat) (t : PT) : HP := fun h => ∃ x : Option Addr × Nat × Option Addr × Nat, Sep [row b 116 [.slice x.1 t.pr.length x.2.1, .slice x.2.2.1 t.l.length x.2.2.2, .int .i64 t.came], own (Enc.int .u8) 5 x.1 x.2.1 t.pr, own encP 121 x.2.2.1 x.2.2.2 t.l] h

section
variable {e w : World} {m : Hp} {L : List HP} {b n : Nat} {t : PT}
theorem table_mk {a : Option Addr} {c : Nat} {a2 : Option Addr} {c2 k k2 : Nat} (H : St e m w (row b 116 [.slice a k c, .slice a2 k2 c2, .int .i64 t.came] :: own (Enc.int .u8) 5 a c t.pr :: own encP 121 a2 c2 t.l :: L)) (hk : k = t.pr.length) (hk2 : k2 = t.l.length) : St e m w (table b t :: L) := by
  subst hk; subst hk2
  exact (St.join (L1 := [_, _, _]) H).imp fun h hh => ⟨(a, c, a2, c2), hh⟩
theorem table_open (H : St e m w (table b t :: L)) : ∃ a c a2 c2, St e m w (row b 116 [.slice a t.pr.length c, .slice a2 t.l.length c2, .int .i64 t.came] :: own (Enc.int .u8) 5 a c t.pr :: own encP 121 a2 c2 t.l :: L) := by
  obtain ⟨⟨a, c, a2, c2⟩, H⟩ := H.ex
  exact ⟨a, c, a2, c2, H.flat⟩
theorem proc_Len_sp (H : St e m w (table b t :: L)) : Calls Try.prog 28 #[.pointer (some ⟨b, 0, none⟩)] w (Ret fun v w' => v = .int .i64 t.l.length ∧ w' = w) := by
  obtain ⟨a, c, a2, c2, H⟩ := table_open H
  apply proc_Table_Len.calls
  unfold proc_Table_Len.F
  exact ⟨_, _, _, H.ld, rfl, rfl⟩
theorem dormant_sp (H : St e m w L) {p : Int} (h0 : 0 ≤ p) (h1 : p < 256) : Calls Try.prog 71 #[.int .u8 p] w (Ret fun v w' => v = .agg #[.int .i64 0, .bool false, .int .i64 p, .int .i64 0] ∧ St e m w' L) := by
  apply proc_dormant.calls
  unfold proc_dormant.F
  have hw : IntKind.wrap .i64 p = p := wrap64_in (by omega) (by omega)
  rw [hw]
  repeat (first | (refine St.new H fun b_ w_ H => ?_) | (refine St.st H fun w_ H => ?_) | (refine ⟨_, St.ld H, ?_⟩) | (refine ⟨_, _, _, St.ld H, ?_⟩) | (refine St.drw H fun w_ H => ?_))
  exact ⟨rfl, H.re⟩
theorem may_sp (H : St e m w L) (p : Pr) : Calls Try.prog 64 #[.agg #[.int .i64 p.st, .bool p.held, .int .i64 p.prio, .int .i64 p.came]] w (Ret fun v w' => v = .bool p.may ∧ St e m w' L) := by
  apply proc_may.calls
  unfold proc_may.F
  refine H.new fun b w H => ⟨_, H.ld, ?_⟩
  refine br_intro (fun h => ⟨_, H.ld, ?_⟩) fun h => ?_
  · exact ⟨by simp [Pr.may, h], H.re⟩
  · exact ⟨by simp [Pr.may, h], H.re⟩
theorem alive_sp (H : St e m w L) (p : Pr) : Calls Try.prog 90 #[.agg #[.int .i64 p.st, .bool p.held, .int .i64 p.prio, .int .i64 p.came]] w (Ret fun v w' => v = .bool p.alive ∧ St e m w' L) := by
  apply proc_alive.calls
  unfold proc_alive.F
  refine H.new fun b w H => ⟨_, H.ld, rfl, H.re⟩
theorem proc_State_sp (H : St e m w (table b t :: L)) (i : Int) : Calls Try.prog 32 #[.pointer (some ⟨b, 0, none⟩), .int .i64 i] w (Ret fun v w' =>
    v = .tuple (if i < 0 ∨ (t.l.length : Int) ≤ i then #[.int .i64 0, .bool false, .int .i64 0] else #[.int .i64 (t.l[i.toNat]?.getD default).st, .bool (t.l[i.toNat]?.getD default).held, .int .i64 (t.l[i.toNat]?.getD default).prio]) ∧ St e m w' (table b t :: L)) := by
  have H0 := H
  obtain ⟨a, c, a2, c2, H⟩ := table_open H
  apply proc_Table_State.calls
  unfold proc_Table_State.F
  refine br_dec (fun h => ⟨by rw [if_pos (.inl h)], H0⟩) fun h1 => ⟨_, _, _, H.ld, ?_⟩
  refine br_dec (fun h => ⟨by rw [if_pos (.inr h)], H0⟩) fun h2 => ?_
  rw [if_neg (by omega)]
  refine H.drw fun w H => ⟨_, _, _, H.ld, ?_⟩
  obtain ⟨k, rfl⟩ := Int.eq_ofNat_of_zero_le (Int.not_lt.1 h1)
  have hk : k < t.l.length := by omega
  obtain ⟨x, hxk⟩ : ∃ x, t.l[k]? = some x := ⟨t.l[k], by simp [hk]⟩
  have hxe : t.l[k] = x := by have h := hxk; rw [List.getElem?_eq_getElem hk] at h; exact Option.some.inj h
  obtain ⟨ab, ao, rfl, hcell⟩ := (H.osl (E := encP) (xs := t.l)) k _ hxk
  simp only [okP_some, pb_some, po_some, toNat_nat, hxk, Option.getD_some]
  refine ⟨by omega, by omega, _, hcell 0 _ rfl, _, _, _, H.ld, by omega, by omega, ?_⟩
  simp only [okP_some, pb_some, po_some, toNat_nat]
  refine ⟨_, hcell 1 _ rfl, _, _, _, H.ld, by omega, by omega, ?_⟩
  simp only [okP_some, pb_some, po_some, toNat_nat]
  exact ⟨_, hcell 2 _ rfl, rfl, table_mk H rfl rfl⟩

theorem with_sp {i z : Int} {isV doV : Value} (is : Pr → Bool) (f : Pr → Pr) (H : St e m w (table b t :: L)) (hc : t.came ≤ 1000000000) (hc0 : 0 ≤ t.came)
    (his : ∀ (w : World) (k : Nat) (x : Pr), i = k → t.l[k]? = some x → St e m w (table b t :: L) → ∃ F args w2, (callV isV #[.agg #[.int .i64 x.st, .bool x.held, .int .i64 x.prio, .int .i64 x.came]]).run Try.prog w = .ok (.enter F args) w2 ∧
      Calls Try.prog F args w2 (Ret fun v w' => v = .bool (is x) ∧ St e m w' (table b t :: L)))
    (hdo : ∀ (w : World) (k : Nat) (x : Pr) (a : Option Addr) (c g c2 : Nat), i = k → t.l[k]? = some x → St e m w (own encP 121 (some ⟨g, 0, none⟩) c2 t.l :: row b 116 [.slice a t.pr.length c, .slice (some ⟨g, 0, none⟩) t.l.length c2, .int .i64 t.came] :: own (Enc.int .u8) 5 a c t.pr :: L) →
      ∃ F args w2, (callV doV #[.pointer (some ⟨g, 0 + k * 4, none⟩)]).run Try.prog w = .ok (.enter F args) w2 ∧
      Calls Try.prog F args w2 (Ret fun v w' => v = .tuple #[] ∧ St e m w' (own encP 121 (some ⟨g, 0, none⟩) c2 (t.l.set k (f x)) :: row b 116 [.slice a t.pr.length c, .slice (some ⟨g, 0, none⟩) t.l.length c2, .int .i64 t.came] :: own (Enc.int .u8) 5 a c t.pr :: L))) :
    Calls Try.prog 69 #[.pointer (some ⟨b, 0, none⟩), .int .i64 i, isV, .int .i64 z, doV] w (Ret fun v w' => v = .int .i64 (t.withE i is) ∧ St e m w' (table b (t.withS i is f z) :: L)) := by
  have H0 := H
  obtain ⟨a, c, a2, c2, H⟩ := table_open H
  apply proc_Table_with.calls
  unfold proc_Table_with.F PT.withE PT.withS
  refine br_dec (fun h => ⟨by rw [if_pos (.inl h)], by rw [if_pos (.inl h)]; exact H0⟩) fun h1 => ⟨_, _, _, H.ld, ?_⟩
  refine br_dec (fun h => ⟨by rw [if_pos (.inr h)], by rw [if_pos (.inr h)]; exact H0⟩) fun h2 => ?_
  obtain ⟨k, rfl⟩ := Int.eq_ofNat_of_zero_le (Int.not_lt.1 h1)
  have hk : k < t.l.length := by omega
  obtain ⟨x, hxk⟩ : ∃ x, t.l[k]? = some x := ⟨t.l[k], by simp [hk]⟩
  have hxe : t.l[k] = x := by have h := hxk; rw [List.getElem?_eq_getElem hk] at h; exact Option.some.inj h
  have hno : ¬ ((k : Int) < 0 ∨ (t.l.length : Int) ≤ k) := by omega
  simp only [if_neg hno, toNat_nat, hxk, Option.getD_some]
  refine ⟨_, _, _, H.ld, by omega, by omega, ?_⟩
  obtain ⟨ab, ao, rfl, hcell⟩ := (H.osl (E := encP) (xs := t.l)) k _ hxk
  simp only [okP_some, pb_some, po_some, toNat_nat]
  refine ⟨_, hcell 0 _ rfl, _, hcell 1 _ rfl, _, hcell 2 _ rfl, _, hcell 3 _ rfl, ?_⟩
  obtain ⟨F1, args1, w1, hcall, hret⟩ := his w k x rfl hxk H0
  refine ⟨F1, args1, w1, hcall, ?_⟩
  refine Calls.ret hret ?_
  rintro v w2 ⟨rfl, H2⟩
  refine ⟨_, rfl, ?_⟩
  refine br_intro (fun h => ?_) fun h => ?_
  · have h : is x = false := by simpa using h
    rw [h]
    exact ⟨by simp, by simpa using H2⟩
  have h : is x = true := by simpa using h
  rw [h]
  simp only [if_true]
  clear H hcell H0
  obtain ⟨a, c, a2, c2, H⟩ := table_open H2
  refine ⟨_, _, _, H.ld, by omega, by omega, ?_⟩
  have H := H.at_ (A := own encP _ a2 c2 t.l)
  obtain ⟨g, tl, rfl, p2, p3, p4, H3⟩ := H.ownRow (by intro h; rw [h] at hk; simp at hk)
  simp only [okP_some, pb_some, po_some, toNat_nat]
  obtain ⟨F2, args2, w3, hcall2, hret2⟩ := hdo w2 k x a c g c2 rfl hxk H
  refine ⟨F2, args2, w3, hcall2, ?_⟩
  refine Calls.ret hret2 ?_
  rintro v w4 ⟨rfl, H⟩
  refine ⟨rfl, ?_⟩
  have hw : IntKind.wrap .i64 (t.came + 1) = t.came + 1 := wrap64_in (by omega) (by omega)
  have hxs : ∀ y : Pr, (t.l.set k y)[k]? = some y := fun y => by simp [hk]
  have tail : ∀ {w : World} {y : Pr}, St e m w (own encP 121 (some ⟨g, 0, none⟩) c2 (t.l.set k y) :: row b 116 [.slice a t.pr.length c, .slice (some ⟨g, 0, none⟩) t.l.length c2, .int .i64 t.came] :: own (Enc.int .u8) 5 a c t.pr :: L) →
      proc_Table_with.K0 b 0 k (fun v w' => v = .int .i64 0 ∧ St e m w' (table b ⟨t.pr, t.l.set k ⟨y.st, y.held, y.prio, t.came + 1⟩, t.came + 1⟩ :: L)) w := by
    intro w y H
    unfold proc_Table_with.K0
    refine ⟨_, H.ld, H.st fun w H => H.drw fun w H => ?_⟩
    rw [hw] at H
    refine ⟨_, _, _, H.ld, _, H.ld, by omega, by omega, ?_⟩
    simp only [okP_some, pb_some, po_some, toNat_nat]
    refine St.setEl (H.at_ (A := own encP _ _ _ _)) (hxs y) (j := 3) (i := k) (x' := ⟨y.st, y.held, y.prio, t.came + 1⟩) (by show 0 + k * 4 + 3 = k * 4 + 3; omega) (Nat.le_of_ble_eq_true rfl) rfl fun w H => ?_
    rw [List.set_set] at H
    exact ⟨by trivial, table_mk (t := ⟨t.pr, _, t.came + 1⟩) H.re rfl (by simp)⟩
  unfold PT.put
  refine br_intro (fun hz => ?_) fun hz => br_intro (fun hz2 => ?_) fun hz2 => ?_
  · have hz : z = 1 := by simpa using hz
    rw [if_pos hz]
    refine ⟨_, _, _, H.ld, by omega, by omega, ?_⟩
    simp only [okP_some, pb_some, po_some, toNat_nat]
    refine St.setEl (H.at_ (A := own encP _ _ _ _)) (hxs (f x)) (j := 0) (i := k) (x' := ⟨1, (f x).held, (f x).prio, (f x).came⟩) (by show 0 + k * 4 = k * 4 + 0; omega) (Nat.le_of_ble_eq_true rfl) rfl fun w H => ?_
    rw [List.set_set] at H
    exact tail H
  · have hz : z ≠ 1 := by simpa using hz
    have hz2 : z = 2 := by simpa using hz2
    rw [if_neg hz, if_pos hz2]
    exact tail H
  · have hz : z ≠ 1 := by simpa using hz
    have hz2 : z ≠ 2 := by simpa using hz2
    rw [if_neg hz, if_neg hz2]
    exact ⟨by trivial, table_mk (t := ⟨t.pr, _, t.came⟩) H.re rfl (by simp)⟩
end
end Go.Proofs.Ytecacohkkdhphaa
