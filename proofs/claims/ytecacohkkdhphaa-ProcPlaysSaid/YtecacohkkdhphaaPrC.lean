/- Processes: Start, Stop, Reset, New. Conditions: none. -/
import Derived.Test.YtecacohkkdhphaaPrB
import Derived.Test.YtecacohkkdhphaaVcSL3
namespace Go.Proofs.Ytecacohkkdhphaa
open Go.Vc
set_option linter.unusedSimpArgs false
set_option linter.unusedVariables false
set_option maxRecDepth 100000

theorem allEq_Pr (x y : Pr) : allEq (encP.f x) (encP.f y) = some (decide (x = y)) := by
  obtain ⟨a, b, c, d⟩ := x
  obtain ⟨a', b', c', d'⟩ := y
  simp only [encP, allEq, cellEq, if_true, Pr.mk.injEq, Option.some.injEq]
  by_cases h1 : a = a' <;> by_cases h2 : b = b' <;> by_cases h3 : c = c' <;> by_cases h4 : d = d' <;> simp [h1, h2, h3, h4]
theorem beq_dec_int (a b : Int) : (a == b) = decide (a = b) := by by_cases h : a = b <;> simp [h]

section
variable {e w : World} {m : Hp} {L : List HP} {b n : Nat} {t : PT}
theorem first_get {i : Int} {k : Nat} (hf : t.fit n) (hi : i = k) (hk : k < t.l.length) : ∃ p, t.pr[k]? = some p ∧ t.first i = p ∧ 0 ≤ p ∧ p ≤ 63 := by
  subst hi
  have h : k < t.pr.length := by rw [← hf.len]; exact hk
  refine ⟨t.pr[k], by simp [h], by simp [PT.first, h], ?_⟩
  exact hf.prio _ (List.getElem_mem h)
theorem proc_Start_sp (H : St e m w (table b t :: L)) (hf : t.fit n) (hn : n ≤ 1000000) (i : Int) : Calls Try.prog 55 #[.pointer (some ⟨b, 0, none⟩), .int .i64 i] w (Ret fun v w' => v = .int .i64 (t.opE 0 i) ∧ St e m w' (table b (t.opS 0 i 0) :: L)) := by
  apply proc_Table_Start.calls
  unfold proc_Table_Start.F
  refine H.new fun b0 w H => H.new fun b1 w H => ⟨_, H.ld, _, H.ld, ?_⟩
  have hcg := withS_congr (t := t) (i := i) (z := 1) (is := fun x => decide (x = dorm (t.first i))) (is2 := opIs 0) (f := fun x => x) (f2 := opDo 0 (t.first i) 0) (by
    intro k x hi hx
    obtain ⟨hk, _⟩ := List.getElem?_eq_some_iff.1 hx
    obtain ⟨p, hp, hpe, _, _⟩ := first_get hf hi hk
    rw [hpe]
    show decide (x = dorm p) = (x.st == 0)
    by_cases h : x.st = 0
    · have := hf.dead k x p hx hp h
      rw [this]; simp [dorm]
    · have : x ≠ dorm p := by rintro rfl; exact h rfl
      simp [h, this]) (fun _ _ _ _ => rfl)
  refine Calls.ret (with_sp (fun x => decide (x = dorm (t.first i))) (fun x => x) (H.at_ (A := table b t)) (by have := hf.cn; omega) hf.c0 (fun w k x hi hx H => ⟨_, _, _, callV_run Try.func85 (by kernel_rfl) (by kernel_rfl), ?_⟩) (fun w k x a c g c2 _ hx H => ⟨_, _, _, enter0 Try.func86 (by kernel_rfl) (by kernel_rfl), ?_⟩)) ?_
  · obtain ⟨hk, _⟩ := List.getElem?_eq_some_iff.1 hx
    obtain ⟨p, hp, hpe, hp0, hp1⟩ := first_get hf hi hk
    rw [hpe]
    have hlen := hf.len
    refine proc_Table_Start_1.calls _ _ _ _ _ _ _ _ _ _ ?_
    unfold proc_Table_Start_1.F
    refine H.new fun b2 w H => ?_
    refine H.drwS (fun w => ∃ L, St e m w (row b2 121 [.int .i64 x.st, .bool x.held, .int .i64 x.prio, .int .i64 x.came] :: L)) (fun w H => ⟨_, H⟩) fun w H => ?_
    refine ⟨_, H.ld, ?_⟩
    simp only [okP_some, pb_some, po_some]
    have H1 := H.at_ (A := table b t)
    obtain ⟨a, c, a2, c2, H1⟩ := table_open H1
    refine ⟨_, _, _, H1.ld, _, H1.ld, ?_⟩
    subst hi
    refine ⟨by omega, by omega, ?_⟩
    obtain ⟨ab, ao, rfl, hcell⟩ := (H1.osl (E := Enc.int .u8) (xs := t.pr)) k _ hp
    simp only [okP_some, pb_some, po_some, toNat_nat]
    refine ⟨_, hcell 0 _ rfl, _, fun w ⟨L, H⟩ => H.ld, _, fun w ⟨L, H⟩ => H.ld, _, fun w ⟨L, H⟩ => H.ld, _, fun w ⟨L, H⟩ => H.ld, ?_⟩
    refine Calls.ret (dormant_sp H hp0 (by omega)) ?_
    rintro v w3 ⟨rfl, H⟩
    refine ⟨_, _, _, _, rfl, ⟨_, H⟩, _, (eq_struct (P := Try.prog) (t := 121) (xs := (encP.f x).toArray) (ys := (encP.f (dorm p)).toArray) (b := decide (x = dorm p)) w3 (by kernel_rfl) (by kernel_rfl) (allEq_Pr x (dorm p))).1, rfl, H.re⟩
  · apply proc_Table_Start_2.calls
    unfold proc_Table_Start_2.F
    rw [set_self hx]; exact ⟨rfl, H⟩
  · rintro v w' ⟨rfl, H⟩
    rw [hcg.2] at H
    exact ⟨_, rfl, by rw [hcg.1]; rfl, H.re⟩
theorem proc_Stop_sp (H : St e m w (table b t :: L)) (hf : t.fit n) (hn : n ≤ 1000000) (i : Int) : Calls Try.prog 59 #[.pointer (some ⟨b, 0, none⟩), .int .i64 i] w (Ret fun v w' => v = .int .i64 (t.opE 1 i) ∧ St e m w' (table b (t.opS 1 i 0) :: L)) := by
  apply proc_Table_Stop.calls
  unfold proc_Table_Stop.F
  refine H.new fun b0 w H => H.new fun b1 w H => ⟨_, H.ld, _, H.ld, ?_⟩
  refine Calls.ret (with_sp Pr.alive (fun _ => dorm (t.first i)) (H.at_ (A := table b t)) (by have := hf.cn; omega) hf.c0 (fun w k x hi hx H => ⟨_, _, _, enter0 Try.func90 (by kernel_rfl) (by kernel_rfl), alive_sp H x⟩) (fun w k x a c g c2 hi hx H => ⟨_, _, _, callV_run Try.func91 (by kernel_rfl) (by kernel_rfl), ?_⟩)) ?_
  · obtain ⟨hk, _⟩ := List.getElem?_eq_some_iff.1 hx
    obtain ⟨p, hp, hpe, hp0, hp1⟩ := first_get hf hi hk
    rw [hpe]
    have hlen := hf.len
    refine proc_Table_Stop_1.calls _ _ _ _ _ _ _ _ ?_
    unfold proc_Table_Stop_1.F
    refine H.drw fun w H => ⟨_, H.ld, ?_⟩
    simp only [okP_some, pb_some, po_some]
    refine ⟨_, _, _, H.ld, _, H.ld, ?_⟩
    subst hi
    refine ⟨by omega, by omega, ?_⟩
    obtain ⟨ab, ao, rfl, hcell⟩ := (H.osl (E := Enc.int .u8) (xs := t.pr)) k _ hp
    simp only [okP_some, pb_some, po_some, toNat_nat]
    refine ⟨_, hcell 0 _ rfl, ?_⟩
    refine Calls.ret (dormant_sp H hp0 (by omega)) ?_
    rintro v w3 ⟨rfl, H⟩
    refine ⟨_, _, _, _, rfl, ?_⟩
    exact St.setEl H hx (j := 0) (x' := dorm p) (by show 0 + k * 4 = k * 4 + 0; omega) (Nat.le_of_ble_eq_true rfl) rfl fun w H => ⟨by trivial, H⟩
  · rintro v w' ⟨rfl, H⟩
    exact ⟨_, rfl, rfl, H.re⟩

/-- The first k are dormant. -/
def resetK (pr : List Int) (l : List Pr) (k : Nat) : List Pr := (pr.take k).map dorm ++ l.drop k
theorem resetK_succ {pr : List Int} {l : List Pr} {k : Nat} {p : Int} (hp : pr[k]? = some p) (hl : l.length = pr.length) : (resetK pr l k).set k (dorm p) = resetK pr l (k + 1) := by
  obtain ⟨hk, he⟩ := List.getElem?_eq_some_iff.1 hp
  have hlt : ((pr.take k).map dorm).length = k := by simp; omega
  have h2 : (l.drop k) = l[k]'(by omega) :: l.drop (k + 1) := List.drop_eq_getElem_cons (by omega)
  unfold resetK
  rw [h2, List.set_append_right _ _ (by omega), hlt, Nat.sub_self, List.set_cons_zero, List.take_succ_eq_append_getElem hk, he]
  simp
theorem resetK_len {pr : List Int} {l : List Pr} {k : Nat} (hl : l.length = pr.length) (hk : k ≤ pr.length) : (resetK pr l k).length = pr.length := by
  unfold resetK; simp; omega
theorem proc_Reset_sp (H : St e m w (table b t :: L)) (hl : t.l.length = t.pr.length) (hp : ∀ p ∈ t.pr, 0 ≤ p ∧ p ≤ 63) (hm : t.pr.length ≤ 1000) : Calls Try.prog 34 #[.pointer (some ⟨b, 0, none⟩)] w (Ret fun v w' => v = .tuple #[] ∧ St e m w' (table b t.reset :: L)) := by
  obtain ⟨a, c, a2, c2, H⟩ := table_open H
  apply proc_Table_Reset.calls
  unfold proc_Table_Reset.F
  refine ⟨_, _, _, H.ld, ?_⟩
  refine ⟨fun j i w' => ∃ k : Nat, i = k ∧ k ≤ t.pr.length ∧ j = t.pr.length - k ∧ St e m w' (own encP 121 a2 c2 (resetK t.pr t.l k) :: row b 116 [.slice a t.pr.length c, .slice a2 t.l.length c2, .int .i64 t.came] :: own (Enc.int .u8) 5 a c t.pr :: L),
    ⟨_, 0, rfl, by omega, rfl, ?_⟩, ?_⟩
  · have : resetK t.pr t.l 0 = t.l := by simp [resetK]
    rw [this]; exact H.re
  rintro n9 dead w1 i ⟨k, rfl, hk, rfl, H⟩
  unfold proc_Table_Reset.L0
  refine br_dec (fun hlt => ?_) fun hge => ?_
  · have hlt : k < t.pr.length := by omega
    obtain ⟨x, hxk⟩ : ∃ x, t.pr[k]? = some x := ⟨t.pr[k], by simp [hlt]⟩
    have hxe : t.pr[k] = x := by have h := hxk; rw [List.getElem?_eq_getElem hlt] at h; exact Option.some.inj h
    refine ⟨by omega, by omega, ?_⟩
    obtain ⟨ab, ao, rfl, hcell⟩ := (H.osl (E := Enc.int .u8) (xs := t.pr)) k _ hxk
    simp only [okP_some, pb_some, po_some, toNat_nat]
    refine ⟨_, hcell 0 _ rfl, ?_⟩
    refine H.drwS (fun w => ∃ L', St e m w (row b 116 [.slice (some ⟨ab, ao, none⟩) t.pr.length c, .slice a2 t.l.length c2, .int .i64 t.came] :: L')) (fun w H => ⟨_, H.re⟩) fun w H => ?_
    refine ⟨_, _, _, fun w ⟨L', H⟩ => H.ld, ?_⟩
    have hpx := hp x (by rw [← hxe]; exact List.getElem_mem hlt)
    refine Calls.ret (dormant_sp H hpx.1 (by omega)) ?_
    rintro v w3 ⟨rfl, H⟩
    refine ⟨_, _, _, _, rfl, ⟨_, H.re⟩, by omega, by omega, ?_⟩
    have hlk := resetK_len (k := k) hl hk
    obtain ⟨y, hy⟩ : ∃ y, (resetK t.pr t.l k)[k]? = some y := ⟨_, List.getElem?_eq_getElem (by omega)⟩
    have hne : resetK t.pr t.l k ≠ [] := by intro h; rw [h] at hy; simp at hy
    obtain ⟨g, tl, rfl, _⟩ := H.ownRow hne
    simp only [okP_some, pb_some, po_some, toNat_nat]
    refine St.setEl H hy (j := 0) (x' := dorm x) (by show 0 + k * 4 = k * 4 + 0; omega) (Nat.le_of_ble_eq_true rfl) rfl fun w H => ?_
    rw [resetK_succ hxk hl] at H
    have hk1 : IntKind.wrap .i64 ((k : Int) + 1) = ((k + 1 : Nat) : Int) := by rw [← Int.natCast_succ, wrap64_nat (by omega)]
    exact ⟨t.pr.length - (k + 1), by omega, k + 1, hk1, by omega, rfl, H⟩
  · have hke : k = t.pr.length := by omega
    subst hke
    have : resetK t.pr t.l t.pr.length = t.pr.map dorm := by unfold resetK; rw [List.take_length, ← hl, List.drop_length]; simp
    rw [this] at H
    exact ⟨rfl, table_mk (t := t.reset) (k := t.pr.length) (k2 := t.l.length) H.re rfl (by simp [PT.reset, hl])⟩

def PT.new (pr : List Int) : PT := ⟨pr, pr.map dorm, 0⟩
def prErr (pr : List Int) : Int := if pr.length < 1 ∨ 16 < pr.length then 173 else if pr.any (fun p => decide (63 < p)) = true then 172 else 0
theorem PT.new_fit {pr : List Int} (h : prErr pr = 0) (h0 : ∀ p ∈ pr, 0 ≤ p) (n : Nat) : (PT.new pr).fit n := by
  unfold prErr at h
  split at h
  · omega
  split at h
  · omega
  rename_i h1 h2
  refine ⟨by simp [PT.new], by simp [PT.new]; omega, by simp [PT.new]; omega, fun p hp => ⟨h0 p hp, ?_⟩, Int.le_refl _, by simp [PT.new], ?_⟩
  · simp at h2
    exact h2 p hp
  · intro i x p hx hp _
    simp only [PT.new, List.getElem?_map] at hx hp
    rw [hp] at hx; simpa using hx.symm
theorem elB_ : ElT Try.prog 22 5 (Enc.int .u8) 1 := by
  refine ⟨by kernel_rfl, ?_⟩
  have h : (Try.prog.info? 5).map (fun i => (i.zero.isSome, i.size, i.bytes, (i.zero.getD .nilIface).cells.size)) = some (true, 1, 1, 1) := by kernel_rfl
  cases hi : Try.prog.info? 5 with
  | none => rw [hi] at h; cases h
  | some i =>
    rw [hi] at h
    simp only [Option.map_some, Option.some.injEq, Prod.mk.injEq] at h
    obtain ⟨h1, h2, h3, h4⟩ := h
    obtain ⟨z, hz⟩ := Option.isSome_iff_exists.1 h1
    exact ⟨i, z, rfl, hz, h2, h3, by rw [hz] at h4; exact h4⟩
theorem zeP : ZeT Try.prog 121 encP (dorm 0) := ZeT.of (k := 4) (bytes := 32) (by kernel_rfl) rfl (by decide)
theorem undP : Try.prog.underlying 114 = some (.slice 121) := by kernel_rfl

theorem proc_New_sp {a : Option Addr} {c : Nat} {pr : List Int} (H : St e m w L) (hs : ∀ w, St e m w L → SlR (Enc.int .u8) w a pr) (h0 : ∀ p ∈ pr, 0 ≤ p) :
    Calls Try.prog 20 #[.slice a pr.length c] w (Ret fun v w' => (prErr pr ≠ 0 → v = .tuple #[.pointer none, .int .i64 (prErr pr)] ∧ St e m w' L) ∧ (prErr pr = 0 → ∃ b, v = .tuple #[.pointer (some ⟨b, 0, none⟩), .int .i64 0] ∧ St e m w' (table b (PT.new pr) :: L))) := by
  apply proc_New.calls
  unfold proc_New.F
  have bad : ∀ {w' : World}, prErr pr = 173 → St e m w' L → ((prErr pr ≠ 0 → Value.tuple #[.pointer none, .int .i64 173] = .tuple #[.pointer none, .int .i64 (prErr pr)] ∧ St e m w' L) ∧ (prErr pr = 0 → ∃ b, Value.tuple #[.pointer none, .int .i64 173] = .tuple #[.pointer (some ⟨b, 0, none⟩), .int .i64 0] ∧ St e m w' (table b (PT.new pr) :: L))) :=
    fun h H => ⟨fun _ => ⟨by rw [h], H⟩, fun h' => by omega⟩
  refine br_dec (fun h => bad (by unfold prErr; rw [if_pos (by omega)]) H) fun h1 => br_dec (fun h => bad (by unfold prErr; rw [if_pos (by omega)]) H) fun h2 => ?_
  have hl1 : 1 ≤ pr.length := by omega
  have hl2 : pr.length ≤ 16 := by omega
  refine H.drwS (fun _ => True) (fun _ _ => trivial) fun w H => ?_
  have fin : ∀ {w : World} {b : Nat} {a1 a2 : Option Addr} {c1 c2 : Nat}, St e m w (row b 116 [.slice a1 pr.length c1, .slice a2 pr.length c2, .int .i64 0] :: own (Enc.int .u8) 5 a1 c1 pr :: own encP 121 a2 c2 (List.replicate pr.length (dorm 0)) :: L) →
      proc_New.K0 a pr.length (fun v w' => (prErr pr ≠ 0 → v = .tuple #[.pointer none, .int .i64 (prErr pr)] ∧ St e m w' L) ∧ (prErr pr = 0 → ∃ b, v = .tuple #[.pointer (some ⟨b, 0, none⟩), .int .i64 0] ∧ St e m w' (table b (PT.new pr) :: L))) b w := by
    intro w b a1 a2 c1 c2 H
    unfold proc_New.K0
    have H := table_mk (t := ⟨pr, List.replicate pr.length (dorm 0), 0⟩) (k := pr.length) (k2 := pr.length) H rfl (by simp)
    refine ⟨fun j i w' => ∃ k : Nat, i = k ∧ k ≤ pr.length ∧ j = pr.length - k ∧ (∀ p ∈ pr.take k, p ≤ 63) ∧ St e m w' (table b ⟨pr, List.replicate pr.length (dorm 0), 0⟩ :: L), ⟨_, 0, rfl, by omega, rfl, by simp, H⟩, ?_⟩
    rintro n9 dead w1 i ⟨k, rfl, hk, rfl, hno, H⟩
    unfold proc_New.L0
    refine br_dec (fun hlt => ?_) fun hge => ?_
    · have hlt : k < pr.length := by omega
      obtain ⟨x, hxk⟩ : ∃ x, pr[k]? = some x := ⟨pr[k], by simp [hlt]⟩
      have hxe : pr[k] = x := by have h := hxk; rw [List.getElem?_eq_getElem hlt] at h; exact Option.some.inj h
      have hsl := hs w1 H.drop
      refine ⟨by omega, by omega, ?_⟩
      obtain ⟨ab, ao, rfl, hcell⟩ := hsl k _ hxk
      simp only [okP_some, pb_some, po_some, toNat_nat]
      refine ⟨_, hcell 0 _ rfl, ?_⟩
      refine br_dec (fun h => ?_) fun h => ?_
      · have hb : prErr pr = 172 := by
          unfold prErr
          rw [if_neg (by omega), if_pos]
          rw [List.any_eq_true]; exact ⟨x, by rw [← hxe]; exact List.getElem_mem hlt, by simpa using h⟩
        exact ⟨fun _ => ⟨by rw [hb], H.drop⟩, fun h' => by omega⟩
      · have hk1 : IntKind.wrap .i64 ((k : Int) + 1) = ((k + 1 : Nat) : Int) := by rw [← Int.natCast_succ, wrap64_nat (by omega)]
        refine ⟨pr.length - (k + 1), by omega, k + 1, hk1, by omega, rfl, ?_, H⟩
        rw [List.take_succ_eq_append_getElem hlt, hxe]
        intro p hp
        rcases List.mem_append.1 hp with hp | hp
        · exact hno p hp
        · simp at hp; subst hp; omega
    · have hke : k = pr.length := by omega
      subst hke
      rw [List.take_length] at hno
      refine Calls.ret (proc_Reset_sp H (by simp) (fun p hp => ⟨h0 p hp, hno p hp⟩) (by simp; omega)) ?_
      rintro v w2 ⟨rfl, H⟩
      have hz : prErr pr = 0 := by
        unfold prErr
        rw [if_neg (by omega), if_neg]
        simp; exact hno
      exact ⟨rfl, fun h => absurd hz h, fun _ => ⟨b, rfl, H⟩⟩
  have app : ∀ {w : World} {L' : List HP} {b : Nat} {K : Option Addr → Nat → Nat → World → Prop}, St e m w (own (Enc.int .u8) 5 (some ⟨b, 0, none⟩) 0 [] :: L') → SlR (Enc.int .u8) w a pr →
      (∀ a' c' w', St e m w' (own (Enc.int .u8) 5 a' c' pr :: L') → K a' pr.length c' w') →
      ∃ (A : Option Addr) (N C : Nat) (w2 : World), (Builtin.append_ #[22, 22] 22 #[.slice (some ⟨b, 0, none⟩) 0 0, .slice a pr.length c]).run Try.prog w = .ok (.slice A N C) w2 ∧ K A N C w2 := by
    intro w L' b K H hsl hK
    exact St.app (xs := []) (ys := pr) (L' := L') H elB_ hsl (fun a' c' w' H => hK a' c' w' H)
  refine ⟨?_, ?_⟩
  · refine St.newOwn (E := Enc.int .u8) H [] (by simp) fun b w H => ⟨trivial, ?_, ?_⟩
    · refine app H (hs _ H.drop) fun a1 c1 w H => ⟨trivial, ?_⟩
      refine St.make H undP zeP rfl (by omega) fun g w H => ⟨trivial, ?_⟩
      exact H.new fun b w H => fin H.re
    · refine St.make H undP zeP rfl (by omega) fun g w H => ⟨trivial, ?_⟩
      refine app (H.at_ (A := own (Enc.int .u8) _ _ _ _)) (hs _ H.drop.drop) fun a1 c1 w H => ⟨trivial, ?_⟩
      exact H.new fun b w H => fin H.re
  · refine St.make H undP zeP rfl (by omega) fun g w H => ⟨trivial, ?_⟩
    refine St.newOwn (E := Enc.int .u8) H [] (by simp) fun b w H => ⟨trivial, ?_⟩
    refine app H (hs _ H.drop.drop) fun a1 c1 w H => ⟨trivial, ?_⟩
    exact H.new fun b w H => fin H.re
end
end Go.Proofs.Ytecacohkkdhphaa
