/- Processes: what the document's New, last and Do do. Conditions: none. -/
import Derived.Test.YtecacohkkdhphaaPrP
import Derived.Test.YtecacohkkdhphaaPrr
namespace Go.Proofs.Ytecacohkkdhphaa
open Go.Vc
set_option linter.unusedSimpArgs false
set_option linter.unusedVariables false
set_option maxRecDepth 100000

/-- The document's process: one of ours without the number of her coming. -/
def encD : Enc Pr := ⟨3, fun x => [.int .i64 x.st, .bool x.held, .int .i64 x.prio], fun _ => rfl, by decide, fun x v hv => by
  simp at hv; rcases hv with h | h | h <;> rw [h] <;> rfl⟩
structure RT where
  pr : List Int
  l : List Pr
  cm : List Int
structure RA where
  a : Option Addr
  c : Nat
  a1 : Option Addr
  c1 : Nat
  a2 : Option Addr
  c2 : Nat
theorem elD_ : ElT Try.prog 40 60 encD 24 := by
  refine ⟨by kernel_rfl, ?_⟩
  have h : (Try.prog.info? 60).map (fun i => (i.zero.isSome, i.size, i.bytes, (i.zero.getD .nilIface).cells.size)) = some (true, 3, 24, 3) := by kernel_rfl
  cases hi : Try.prog.info? 60 with
  | none => rw [hi] at h; cases h
  | some i =>
    rw [hi] at h
    simp only [Option.map_some, Option.some.injEq, Prod.mk.injEq] at h
    obtain ⟨h1, h2, h3, h4⟩ := h
    obtain ⟨z, hz⟩ := Option.isSome_iff_exists.1 h1
    exact ⟨i, z, rfl, hz, h2, h3, by rw [hz] at h4; exact h4⟩
/-- What New makes. -/
def RT.mkN (pr : List Int) : RT := if prErr pr = 0 then ⟨pr, pr.map dorm, []⟩ else ⟨[], [], []⟩
/-- Where i came last among the first k. -/
def lastAt (cm : List Int) (i : Int) : Nat → Int
  | 0 => -1
  | k + 1 => if cm[k]? = some i then (k : Int) else lastAt cm i k
def lastC (cm : List Int) (i : Int) : Int := lastAt cm i cm.length
theorem lastAt_app {cm cm2 : List Int} {i : Int} : ∀ {k : Nat}, k ≤ cm.length → lastAt (cm ++ cm2) i k = lastAt cm i k
  | 0, _ => rfl
  | k + 1, h => by
    unfold lastAt
    rw [List.getElem?_append_left (by omega), lastAt_app (by omega)]
theorem lastC_app (cm : List Int) (j i : Int) : lastC (cm ++ [j]) i = if j = i then (cm.length : Int) else lastC cm i := by
  unfold lastC
  rw [List.length_append, List.length_singleton]
  show (if (cm ++ [j])[cm.length]? = some i then _ else _) = _
  rw [List.getElem?_append_right (Nat.le_refl _), Nat.sub_self, lastAt_app (Nat.le_refl _)]
  simp

def RT.doE (U : RT) (k i p : Int) : Int :=
  if k = 8 then 0 else if i < 0 ∨ (U.l.length : Int) ≤ i then 170 else if k = 6 ∧ (p < 0 ∨ 63 < p) then 172 else if opIs k (U.l[i.toNat]?.getD default) = true then 0 else 171
def rDo (k first p : Int) (x : Pr) : Pr := ⟨if k = 0 ∨ k = 3 then 1 else (opDo k first p x).st, (opDo k first p x).held, (opDo k first p x).prio, 0⟩
def RT.doS (U : RT) (k i p : Int) : RT :=
  if k = 8 then RT.mkN U.pr else if U.doE k i p = 0 then ⟨U.pr, U.l.set i.toNat (rDo k (U.pr[i.toNat]?.getD 0) p (U.l[i.toNat]?.getD default)), if behindK k = true then U.cm ++ [i] else U.cm⟩ else U

section
variable {e w : World} {m : Hp} {L : List HP}
theorem ref17_New_sp {a : Option Addr} {c : Nat} {pr : List Int} (H : St e m w L) (hs : ∀ w, St e m w L → SlR (Enc.int .u8) w a pr) (h0 : ∀ p ∈ pr, 0 ≤ p ∧ p < 256) :
    Calls Try.prog 21 #[.slice a pr.length c] w (Ret fun v w' => ∃ x : RA, v = .tuple #[.agg #[.slice x.a (RT.mkN pr).pr.length x.c, .slice x.a1 (RT.mkN pr).l.length x.c1, .slice x.a2 (RT.mkN pr).cm.length x.c2], .int .i64 (prErr pr)] ∧ St e m w' (own (Enc.int .u8) 5 x.a x.c (RT.mkN pr).pr :: own encD 60 x.a1 x.c1 (RT.mkN pr).l :: own (Enc.int .i64) 3 x.a2 x.c2 (RT.mkN pr).cm :: L)) := by
  apply purlinref17_New.calls
  unfold purlinref17_New.F
  have none_ : ∀ {w : World}, prErr pr ≠ 0 → St e m w L → ∃ x : RA, Value.tuple #[.agg #[.slice none 0 0, .slice none 0 0, .slice none 0 0], .int .i64 (prErr pr)] = .tuple #[.agg #[.slice x.a (RT.mkN pr).pr.length x.c, .slice x.a1 (RT.mkN pr).l.length x.c1, .slice x.a2 (RT.mkN pr).cm.length x.c2], .int .i64 (prErr pr)] ∧ St e m w (own (Enc.int .u8) 5 x.a x.c (RT.mkN pr).pr :: own encD 60 x.a1 x.c1 (RT.mkN pr).l :: own (Enc.int .i64) 3 x.a2 x.c2 (RT.mkN pr).cm :: L) := by
    intro w h H
    have : RT.mkN pr = ⟨[], [], []⟩ := by unfold RT.mkN; rw [if_neg h]
    rw [this]
    exact ⟨⟨none, 0, none, 0, none, 0⟩, rfl, ((H.ownNil (Enc.int .i64) 3).ownNil encD 60).ownNil (Enc.int .u8) 5⟩
  refine H.new fun b w H => ?_
  refine br_dec (fun h => H.st fun w H => ?_) fun h1 => br_dec (fun h => H.st fun w H => ?_) fun h2 => ?_
  · have hp : prErr pr = 173 := by unfold prErr; rw [if_pos (by omega)]
    unfold purlinref17_New.K0
    repeat (first | (refine St.new H fun b_ w_ H => ?_) | (refine St.st H fun w_ H => ?_) | (refine ⟨_, St.ld H, ?_⟩) | (refine ⟨_, _, _, St.ld H, ?_⟩) | (refine St.drw H fun w_ H => ?_))
    have := none_ (by omega) H.drop
    rw [hp] at this
    rw [hp]; exact this
  · have hp : prErr pr = 173 := by unfold prErr; rw [if_pos (by omega)]
    unfold purlinref17_New.K0
    repeat (first | (refine St.new H fun b_ w_ H => ?_) | (refine St.st H fun w_ H => ?_) | (refine ⟨_, St.ld H, ?_⟩) | (refine ⟨_, _, _, St.ld H, ?_⟩) | (refine St.drw H fun w_ H => ?_))
    have := none_ (by omega) H.drop
    rw [hp] at this
    rw [hp]; exact this
  have hl1 : 1 ≤ pr.length := by omega
  have hl2 : pr.length ≤ 16 := by omega
  refine St.newOwn (E := Enc.int .u8) H [] (by simp) fun b1 w H => ?_
  refine St.app (xs := []) (ys := pr) H elB_ (hs _ H.drop.drop) fun a1 c1 w H => ?_
  refine H.new fun b2 w H => H.st fun w H => ?_
  have H : St e m w (row b2 42 [.slice a1 pr.length c1, .slice none 0 0, .slice none 0 0] :: own (Enc.int .u8) 5 a1 c1 pr :: row b 42 [.slice none 0 0, .slice none 0 0, .slice none 0 0] :: L) := H
  refine ⟨fun n i w' => ∃ (k : Nat) (A : Option Addr) (C : Nat), i = k ∧ k ≤ pr.length ∧ n = pr.length - k ∧ (∀ p ∈ pr.take k, p ≤ 63) ∧
      St e m w' (row b2 42 [.slice a1 pr.length c1, .slice A ((pr.take k).map dorm).length C, .slice none 0 0] :: own encD 60 A C ((pr.take k).map dorm) :: own (Enc.int .u8) 5 a1 c1 pr :: row b 42 [.slice none 0 0, .slice none 0 0, .slice none 0 0] :: L),
    ⟨_, 0, none, 0, rfl, by omega, rfl, by simp, (H.ownNil encD 60).re⟩, ?_⟩
  rintro n9 dead w1 i ⟨k, A, C, rfl, hk, rfl, hno, H⟩
  unfold purlinref17_New.L0
  refine br_dec (fun hlt => ?_) fun hge => ?_
  · have hlt : k < pr.length := by omega
    obtain ⟨x, hxk⟩ : ∃ x, pr[k]? = some x := ⟨pr[k], by simp [hlt]⟩
    have hxe : pr[k] = x := by have h := hxk; rw [List.getElem?_eq_getElem hlt] at h; exact Option.some.inj h
    have hx := h0 x (List.mem_of_getElem? hxk)
    have hsl := fun w (H : St e m w L) => hs w H
    refine ⟨by omega, by omega, ?_⟩
    obtain ⟨ab, ao, rfl, hcell⟩ := hs _ H.drop.drop.drop.drop k _ hxk
    simp only [okP_some, pb_some, po_some, toNat_nat]
    refine ⟨_, hcell 0 _ rfl, ?_⟩
    refine br_dec (fun h => H.at_ (A := row b _ _) |>.st fun w H => ?_) fun h => ?_
    · have hp : prErr pr = 172 := by
        unfold prErr
        rw [if_neg (by omega), if_pos]
        rw [List.any_eq_true]; exact ⟨x, by rw [← hxe]; exact List.getElem_mem hlt, by simpa using h⟩
      repeat (first | (refine St.new H fun b_ w_ H => ?_) | (refine St.st H fun w_ H => ?_) | (refine ⟨_, St.ld H, ?_⟩) | (refine ⟨_, _, _, St.ld H, ?_⟩) | (refine St.drw H fun w_ H => ?_))
      have := none_ (by omega) H.drop.drop.drop.drop
      rw [hp] at this
      rw [hp]; exact this
    · refine H.drwS (fun w => w.cell? ⟨b2, 1, none⟩ = some (.slice A ((pr.take k).map dorm).length C)) (fun w H => H.ld) fun w H => ?_
      refine ⟨by omega, by omega, ?_⟩
      obtain ⟨ab', ao', hab, hcell⟩ := hs _ H.drop.drop.drop.drop k _ hxk
      cases hab
      refine ⟨_, hcell 0 _ rfl, ?_⟩
      have hw : IntKind.wrap .i64 x = x := wrap64_in (by omega) (by omega)
      rw [hw]
      refine ⟨_, _, _, fun w h => h, ?_⟩
      refine H.new fun b3 w H => ⟨H.ld, ?_⟩
      refine St.app (xs := (pr.take k).map dorm) (ys := [dorm x]) H elD_ (SlR.one (x := dorm x) H.rowAt) (fun a2 c2 w H => ?_) (hn := by simp; omega)
      refine H.st fun w H => ?_
      have hk1 : IntKind.wrap .i64 ((k : Int) + 1) = ((k + 1 : Nat) : Int) := by rw [← Int.natCast_succ, wrap64_nat (by omega)]
      have e1 : (pr.take k).map dorm ++ [dorm x] = (pr.take (k + 1)).map dorm := by
        rw [List.take_succ_eq_append_getElem hlt, hxe]; simp
      refine ⟨pr.length - (k + 1), by omega, k + 1, a2, c2, hk1, by omega, rfl, ?_, ?_⟩
      · rw [List.take_succ_eq_append_getElem hlt, hxe]
        intro p hp
        rcases List.mem_append.1 hp with hp | hp
        · exact hno p hp
        · simp at hp; subst hp; omega
      · rw [← e1]; exact H.re
  · have hke : k = pr.length := by omega
    subst hke
    rw [List.take_length] at hno H
    have hz : prErr pr = 0 := by
      unfold prErr
      rw [if_neg (by omega), if_neg]
      simp; exact hno
    have : RT.mkN pr = ⟨pr, pr.map dorm, []⟩ := by unfold RT.mkN; rw [if_pos hz]
    rw [this, hz]
    repeat (first | (refine St.new H fun b_ w_ H => ?_) | (refine St.st H fun w_ H => ?_) | (refine ⟨_, St.ld H, ?_⟩) | (refine ⟨_, _, _, St.ld H, ?_⟩) | (refine St.drw H fun w_ H => ?_))
    exact ⟨⟨a1, c1, A, C, none, 0⟩, rfl, (H.ownNil (Enc.int .i64) 3).re⟩

theorem last_sp {a a1 a2 : Option Addr} {n n1 c c1 c2 : Nat} {cm : List Int} (H : St e m w L) (hs : ∀ w, St e m w L → SlR (Enc.int .i64) w a2 cm) (hn : cm.length ≤ 1000000) (i : Int) :
    Calls Try.prog 63 #[.agg #[.slice a n c, .slice a1 n1 c1, .slice a2 cm.length c2], .int .i64 i] w (Ret fun v w' => v = .int .i64 (lastC cm i) ∧ St e m w' L) := by
  apply purlinref17_last.calls
  unfold purlinref17_last.F
  refine H.new fun b w H => ?_
  refine ⟨fun n at1 k w' => ∃ q : Nat, k = q ∧ q ≤ cm.length ∧ n = cm.length - q ∧ at1 = lastAt cm i q ∧ w' = w, ⟨_, 0, rfl, by omega, rfl, rfl, rfl⟩, ?_⟩
  rintro n9 dead w1 at1 k ⟨q, rfl, hq, rfl, rfl, rfl⟩
  unfold purlinref17_last.L0
  refine ⟨_, _, _, H.ld, ?_⟩
  refine br_dec (fun hlt => ?_) fun hge => ?_
  · have hlt : q < cm.length := by omega
    obtain ⟨x, hxk⟩ : ∃ x, cm[q]? = some x := ⟨cm[q], by simp [hlt]⟩
    have hxe : cm[q] = x := by have h := hxk; rw [List.getElem?_eq_getElem hlt] at h; exact Option.some.inj h
    refine ⟨_, _, _, H.ld, ?_⟩
    refine ⟨by omega, by omega, ?_⟩
    obtain ⟨ab, ao, rfl, hcell⟩ := (hs _ H.drop) q _ hxk
    simp only [okP_some, pb_some, po_some, toNat_nat]
    refine ⟨_, hcell 0 _ rfl, ?_⟩
    have hk1 : IntKind.wrap .i64 ((q : Int) + 1) = ((q + 1 : Nat) : Int) := by rw [← Int.natCast_succ, wrap64_nat (by omega)]
    refine br_intro (fun h => ?_) fun h => ?_
    · refine ⟨cm.length - (q + 1), by omega, q + 1, hk1, by omega, rfl, ?_, by trivial⟩
      unfold lastAt
      rw [hxk, if_pos (by simpa using h)]
    · refine ⟨cm.length - (q + 1), by omega, q + 1, hk1, by omega, rfl, ?_, by trivial⟩
      rw [show lastAt cm i (q + 1) = if cm[q]? = some i then (q : Int) else lastAt cm i q from rfl, hxk, if_neg (by simpa using h)]
  · have : q = cm.length := by omega
    subst this
    exact ⟨rfl, H.drop⟩

section
variable {R : Value → World → Prop} {b b1 b2 q : Nat} {ok : Bool} {x : RA} {U : RT} {k p : Int} {j : Nat} {cs : List Value} {y : Pr}
theorem doK2 {v1 v2 v3 : Option Addr} {n1 n2 n3 c1 c2 c3 : Nat} (H : St e m w (row b 42 [.slice v1 n1 c1, .slice v2 n2 c2, .slice v3 n3 c3] :: row b2 42 [.slice none 0 0, .slice none 0 0, .slice none 0 0] :: L))
    (h : ∀ w', St e m w' L → R (.tuple #[.agg #[.slice v1 n1 c1, .slice v2 n2 c2, .slice v3 n3 c3], .int .i64 0]) w') : purlinref17_Do.K2 R b b2 w := by
  unfold purlinref17_Do.K2
  repeat (first | (refine St.new H fun b_ w_ H => ?_) | (refine St.st H fun w_ H => ?_) | (refine ⟨_, St.ld H, ?_⟩) | (refine ⟨_, _, _, St.ld H, ?_⟩) | (refine St.drw H fun w_ H => ?_))
  exact h _ H.drop.drop
theorem doK6 {q : Nat} {v1 v2 v3 : Option Addr} {n1 n2 n3 c1 c2 c3 : Nat} (H : St e m w (row b 42 [.slice v1 n1 c1, .slice v2 n2 c2, .slice v3 n3 c3] :: row b2 42 [.slice none 0 0, .slice none 0 0, .slice none 0 0] :: L))
    (h : ∀ w', St e m w' L → R (.tuple #[.agg #[.slice v1 n1 c1, .slice v2 n2 c2, .slice v3 n3 c3], .int .i64 171]) w') : purlinref17_Do.K6 R b b2 q w := by
  unfold purlinref17_Do.K6 purlinref17_Do.K3
  repeat (first | (refine St.new H fun b_ w_ H => ?_) | (refine St.st H fun w_ H => ?_) | (refine ⟨_, St.ld H, ?_⟩) | (refine ⟨_, _, _, St.ld H, ?_⟩) | (refine St.drw H fun w_ H => ?_))
  exact h _ H.drop.drop
theorem doK4 (H : St e m w (row q 60 cs :: row b 42 [.slice x.a U.pr.length x.c, .slice x.a1 U.l.length x.c1, .slice x.a2 U.cm.length x.c2] :: row b1 46 [.int .i64 k, .int .i64 (j : Int), .int .i64 p] :: row b2 42 [.slice none 0 0, .slice none 0 0, .slice none 0 0] :: own (Enc.int .u8) 5 x.a x.c U.pr :: own encD 60 x.a1 x.c1 U.l :: own (Enc.int .i64) 3 x.a2 x.c2 U.cm :: L))
    (hj : j < U.l.length) (hl : U.l.length ≤ 16) (hcs : cs = encD.f y)
    (h0 : ok = false → ∀ w', St e m w' (own (Enc.int .u8) 5 x.a x.c U.pr :: own encD 60 x.a1 x.c1 U.l :: own (Enc.int .i64) 3 x.a2 x.c2 U.cm :: L) → R (.tuple #[.agg #[.slice x.a U.pr.length x.c, .slice x.a1 U.l.length x.c1, .slice x.a2 U.cm.length x.c2], .int .i64 171]) w')
    (h1 : ok = true → ∀ w' a1 c1, St e m w' (own (Enc.int .u8) 5 x.a x.c U.pr :: own encD 60 a1 c1 (U.l.set j y) :: own (Enc.int .i64) 3 x.a2 x.c2 U.cm :: L) →
      R (.tuple #[.agg #[.slice x.a U.pr.length x.c, .slice a1 U.l.length c1, .slice x.a2 U.cm.length x.c2], .int .i64 0]) w') : purlinref17_Do.K4 R b b1 b2 q ok w := by
  subst hcs
  unfold purlinref17_Do.K4
  cases ok with
  | false =>
    refine br_t rfl ?_
    unfold purlinref17_Do.K3
    repeat (first | (refine St.new H fun b_ w_ H => ?_) | (refine St.st H fun w_ H => ?_) | (refine ⟨_, St.ld H, ?_⟩) | (refine ⟨_, _, _, St.ld H, ?_⟩) | (refine St.drw H fun w_ H => ?_))
    exact h0 rfl _ H.re
  | true =>
    refine br_f rfl ?_
    refine St.newOwn (E := encD) H [] (by simp) fun b3 w H => ?_
    refine ⟨_, _, _, H.ld, ?_⟩
    refine St.app (xs := []) (ys := U.l) H elD_ (H.osl (E := encD) (xs := U.l)) fun a1 c1 w H => ?_
    refine ⟨_, H.ld, _, H.ld (cs := encD.f y), _, H.ld (cs := encD.f y), _, H.ld (cs := encD.f y), ?_⟩
    obtain ⟨g, tl, rfl, _⟩ := H.ownRow (by intro h; rw [List.nil_append] at h; rw [h] at hj; simp at hj)
    refine ⟨by omega, by simpa using hj, ?_⟩
    simp only [okP_some, pb_some, po_some, toNat_nat]
    obtain ⟨z, hz⟩ : ∃ z, U.l[j]? = some z := ⟨_, List.getElem?_eq_getElem hj⟩
    refine St.setEl (i := j) (j := 0) (x' := y) H hz (by show 0 + j * 3 = j * 3 + 0; omega) (Nat.le_of_ble_eq_true rfl) rfl fun w H => ?_
    refine H.at_ (A := row b _ _) |>.st fun w H => ?_
    refine doK2 (v1 := x.a) (v2 := some ⟨g, 0, none⟩) (v3 := x.a2) (L := own (Enc.int .u8) 5 x.a x.c U.pr :: own encD 60 (some ⟨g, 0, none⟩) c1 (U.l.set j y) :: own (Enc.int .i64) 3 x.a2 x.c2 U.cm :: L) H.re fun w H => ?_
    exact h1 rfl _ _ _ H
theorem doK5 (H : St e m w (row q 60 cs :: row b 42 [.slice x.a U.pr.length x.c, .slice x.a1 U.l.length x.c1, .slice x.a2 U.cm.length x.c2] :: row b1 46 [.int .i64 k, .int .i64 (j : Int), .int .i64 p] :: row b2 42 [.slice none 0 0, .slice none 0 0, .slice none 0 0] :: own (Enc.int .u8) 5 x.a x.c U.pr :: own encD 60 x.a1 x.c1 U.l :: own (Enc.int .i64) 3 x.a2 x.c2 U.cm :: L))
    (hj : j < U.l.length) (hl : U.l.length ≤ 16) (hcm : U.cm.length ≤ 1000000) (hcs : cs = encD.f y)
    (h0 : ok = false → ∀ w', St e m w' (own (Enc.int .u8) 5 x.a x.c U.pr :: own encD 60 x.a1 x.c1 U.l :: own (Enc.int .i64) 3 x.a2 x.c2 U.cm :: L) → R (.tuple #[.agg #[.slice x.a U.pr.length x.c, .slice x.a1 U.l.length x.c1, .slice x.a2 U.cm.length x.c2], .int .i64 171]) w')
    (h1 : ok = true → ∀ w' a1 c1 a2 c2, St e m w' (own (Enc.int .u8) 5 x.a x.c U.pr :: own encD 60 a1 c1 (U.l.set j y) :: own (Enc.int .i64) 3 a2 c2 (U.cm ++ [(j : Int)]) :: L) →
      R (.tuple #[.agg #[.slice x.a U.pr.length x.c, .slice a1 U.l.length c1, .slice a2 (U.cm ++ [(j : Int)]).length c2], .int .i64 0]) w') : purlinref17_Do.K5 R b b1 b2 q ok w := by
  subst hcs
  unfold purlinref17_Do.K5
  cases ok with
  | false =>
    refine br_t rfl ?_
    unfold purlinref17_Do.K3
    repeat (first | (refine St.new H fun b_ w_ H => ?_) | (refine St.st H fun w_ H => ?_) | (refine ⟨_, St.ld H, ?_⟩) | (refine ⟨_, _, _, St.ld H, ?_⟩) | (refine St.drw H fun w_ H => ?_))
    exact h0 rfl _ H.re
  | true =>
    refine br_f rfl ?_
    refine St.newOwn (E := encD) H [] (by simp) fun b3 w H => ?_
    refine ⟨_, _, _, H.ld, ?_⟩
    refine St.app (xs := []) (ys := U.l) H elD_ (H.osl (E := encD) (xs := U.l)) fun a1 c1 w H => ?_
    refine ⟨_, H.ld, _, H.ld (cs := encD.f y), _, H.ld (cs := encD.f y), _, H.ld (cs := encD.f y), ?_⟩
    obtain ⟨g, tl, rfl, _⟩ := H.ownRow (by intro h; rw [List.nil_append] at h; rw [h] at hj; simp at hj)
    refine ⟨by omega, by simpa using hj, ?_⟩
    simp only [okP_some, pb_some, po_some, toNat_nat]
    obtain ⟨z, hz⟩ : ∃ z, U.l[j]? = some z := ⟨_, List.getElem?_eq_getElem hj⟩
    refine St.setEl (i := j) (j := 0) (x' := y) H hz (by show 0 + j * 3 = j * 3 + 0; omega) (Nat.le_of_ble_eq_true rfl) rfl fun w H => ?_
    refine H.at_ (A := row b _ _) |>.st fun w H => ?_
    have H : St e m w (row b 42 [.slice x.a U.pr.length x.c, .slice (some ⟨g, 0, none⟩) U.l.length c1, .slice x.a2 U.cm.length x.c2] :: row b1 46 [.int .i64 k, .int .i64 (j : Int), .int .i64 p] :: row b2 42 [.slice none 0 0, .slice none 0 0, .slice none 0 0] ::
      own (Enc.int .u8) 5 x.a x.c U.pr :: own encD 60 (some ⟨g, 0, none⟩) c1 (U.l.set j y) :: own (Enc.int .i64) 3 x.a2 x.c2 U.cm :: L) := H.re
    have end_ : ∀ {w : World} {a2 : Option Addr} {c2 : Nat}, St e m w (own (Enc.int .i64) 3 a2 c2 (U.cm ++ [(j : Int)]) :: row b 42 [.slice x.a U.pr.length x.c, .slice (some ⟨g, 0, none⟩) U.l.length c1, .slice x.a2 U.cm.length x.c2] :: row b1 46 [.int .i64 k, .int .i64 (j : Int), .int .i64 p] :: row b2 42 [.slice none 0 0, .slice none 0 0, .slice none 0 0] ::
        own (Enc.int .u8) 5 x.a x.c U.pr :: own encD 60 (some ⟨g, 0, none⟩) c1 (U.l.set j y) :: L) →
        storeC w b 2 [.slice a2 (U.cm ++ [(j : Int)]).length c2] fun w32 => purlinref17_Do.K2 R b b2 w32 := by
      intro w a2 c2 H
      refine H.at_ (A := row b _ _) |>.st fun w H => ?_
      refine doK2 (v1 := x.a) (v2 := some ⟨g, 0, none⟩) (v3 := a2) (L := own (Enc.int .u8) 5 x.a x.c U.pr :: own encD 60 (some ⟨g, 0, none⟩) c1 (U.l.set j y) :: own (Enc.int .i64) 3 a2 c2 (U.cm ++ [(j : Int)]) :: L) H.re fun w H => ?_
      exact h1 rfl _ _ _ _ _ H
    refine H.drwS (fun w => w.cell? ⟨b, 2, none⟩ = some (.slice x.a2 U.cm.length x.c2) ∧ w.cell? ⟨b1, 1, none⟩ = some (.int .i64 (j : Int))) (fun w H => ⟨H.ld, H.ld⟩) fun w H => ?_
    refine ⟨_, _, _, fun w h => h.1, _, fun w h => h.2, ?_, ?_⟩
    · refine St.newOwn (E := Enc.int .i64) H [] (by simp) fun b7 w H => ⟨⟨H.ld, H.ld⟩, ?_, ?_⟩
      · refine St.app (xs := []) (ys := U.cm) H elJ (H.osl (E := Enc.int .i64) (xs := U.cm)) (fun a3 c3 w H => ?_) (hn := by simp; omega)
        refine ⟨⟨H.ld, H.ld⟩, ?_⟩
        refine H.new fun b8 w H => ⟨⟨H.ld, H.ld⟩, ?_⟩
        refine St.app (xs := U.cm) (ys := [(j : Int)]) H elJ (SlR.one (x := (j : Int)) H.rowAt) (fun a4 c4 w H => ?_) (hn := by simp; omega)
        exact end_ H.re
      · refine H.new fun b8 w H => ⟨⟨H.ld, H.ld⟩, ?_⟩
        have hr := H.rowAt
        refine St.app (xs := []) (ys := U.cm) H elJ (H.osl (E := Enc.int .i64) (xs := U.cm)) (fun a3 c3 w H => ?_) (hn := by simp; omega)
        refine ⟨⟨H.ld, H.ld⟩, ?_⟩
        refine St.app (xs := U.cm) (ys := [(j : Int)]) H elJ (SlR.one (x := (j : Int)) (H.at_ (A := row b8 _ _)).rowAt) (fun a4 c4 w H => ?_) (hn := by simp; omega)
        exact end_ H.re
    · refine H.new fun b8 w H => ⟨⟨H.ld, H.ld⟩, ?_⟩
      refine St.newOwn (E := Enc.int .i64) H [] (by simp) fun b7 w H => ⟨⟨H.ld, H.ld⟩, ?_⟩
      refine St.app (xs := []) (ys := U.cm) H elJ (H.osl (E := Enc.int .i64) (xs := U.cm)) (fun a3 c3 w H => ?_) (hn := by simp; omega)
      refine ⟨⟨H.ld, H.ld⟩, ?_⟩
      refine St.app (xs := U.cm) (ys := [(j : Int)]) H elJ (SlR.one (x := (j : Int)) (H.at_ (A := row b8 _ _)).rowAt) (fun a4 c4 w H => ?_) (hn := by simp; omega)
      exact end_ H.re
end
end
end Go.Proofs.Ytecacohkkdhphaa
