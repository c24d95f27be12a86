/- Lines of those who wait: what the functions of package line do. Conditions: none. -/
import Derived.Test.YtecacohkkdhphaaLnC
namespace Go.Proofs.Ytecacohkkdhphaa
open Go.Vc
set_option linter.unusedSimpArgs false
set_option linter.unusedVariables false
set_option maxRecDepth 100000

theorem line_New_any {w : World} : Calls Try.prog 53 #[] w (Ret fun v w' => ∃ b mb, v = .pointer (some ⟨b, 0, none⟩) ∧ LineRep w' b mb LS.new ∧ Ch [] w w' ∧ w.heap.size ≤ b ∧ w.heap.size ≤ mb) := by
  apply line_New.calls
  unfold line_New.F
  refine newBlk_map fun mb w1 hmb hs1 hg1 hc1 => newBlk_row fun b w2 hb hs2 hr2 hc2 => ?_
  refine ⟨b, mb, rfl, ⟨hr2, (MapRep.new hg1).ch hc2 (by simp), by omega⟩, hc1.trans0 hc2, by omega, by omega⟩

theorem zero83 (w : World) : (zeroValue 139).run Try.prog w = .ok (valW ⟨0, 0, 0, 0⟩) w := by
  have h : (Try.prog.info? 139).bind (·.zero) = some (valW ⟨0, 0, 0, 0⟩) := by kernel_rfl
  obtain ⟨i, hi, hz⟩ := Option.bind_eq_some_iff.1 h
  simp [zeroValue, typeInfo, hi, hz]

theorem line_Put_any {w : World} {b mb : Nat} {s : LS} (hr : LineRep w b mb s) (hok : s.ok) (hc0 : 0 ≤ s.came) (hc : s.came ≤ 4611686018427387904) (id prio until_ : Int) :
    Calls Try.prog 72 #[.pointer (some ⟨b, 0, none⟩), .int .i64 id, .int .i64 prio, .int .i64 until_] w (Ret fun v w' => v = .int .i64 (s.err id prio until_) ∧ LineRep w' b mb (s.put id prio until_) ∧ Ch [b, mb] w w') := by
  obtain ⟨hrow, hmap, hmb⟩ := hr
  have hr : LineRep w b mb s := ⟨hrow, hmap, hmb⟩
  apply line_Line_Put.calls
  unfold line_Line_Put.F
  refine ⟨_, hrow.cell rfl, ?_⟩
  have hlook : ∃ x : Wt, (Instr.lookup 141 (.map (some mb)) (.int .i64 id) true).run Try.prog w = .ok (.tuple #[valW x, .bool (s.has id)]) w := by
    cases hh : s.has id with
    | true =>
      obtain ⟨x, hx, rfl⟩ := LS.has_iff.1 hh
      exact ⟨x, lookup_some mapW hmap hx⟩
    | false =>
      refine ⟨⟨0, 0, 0, 0⟩, lookup_none mapW hmap (fun x hx he => ?_) (zero83 w)⟩
      have : s.has id = true := LS.has_iff.2 ⟨x, hx, he⟩
      rw [hh] at this; cases this
  obtain ⟨x0, hlook⟩ := hlook
  refine ⟨_, _, _, _, _, hlook, ?_⟩
  have hlt := hr.lt
  refine newBlk_row fun b1 w1 hb1 hs1 hr1 hc1 => storeC_row hr1 (by simp) fun w2 hr2 hc2 hs2 => ?_
  have hc02 : Ch [] w w2 := hc1.trans hc2 (by simp; omega)
  have hl2 := hr.ch hc02 (by simp) (by simp)
  have bad : ∀ k : Int, s.err id prio until_ = k → k ≠ 0 → (Value.int .i64 k = .int .i64 (s.err id prio until_) ∧ LineRep w2 b mb (s.put id prio until_) ∧ Ch [b, mb] w w2) := fun k hk hk0 => by
    refine ⟨by rw [hk], ?_, hc02.mono (by simp)⟩
    unfold LS.put; rw [if_neg (by rw [hk]; exact hk0)]; exact hl2
  refine br_dec (fun h => bad 140 (by simp [LS.err, h]) (by omega)) fun h1 => br_dec (fun h => bad 140 (by rw [LS.err, if_pos (by omega)]) (by omega)) fun h2 => ?_
  have e1 : ¬ (id < 0 ∨ 65535 < id) := by omega
  refine br_dec (fun h => bad 143 (by rw [LS.err, if_neg e1, if_pos (by omega)]) (by omega)) fun h3 => br_dec (fun h => bad 143 (by rw [LS.err, if_neg e1, if_pos (by omega)]) (by omega)) fun h4 => ?_
  have e2 : ¬ (prio < 0 ∨ 63 < prio) := by omega
  have tail : ¬ (until_ ≠ -1 ∧ (until_ ≤ s.now ∨ 1099511627776 < until_)) → line_Line_Put.K0 b 0 id prio until_ (fun v w' => v = .int .i64 (s.err id prio until_) ∧ LineRep w' b mb (s.put id prio until_) ∧ Ch [b, mb] w w') (s.has id) w2 := by
    intro e3
    unfold line_Line_Put.K0
    refine br_intro (fun hh => bad 141 (by rw [LS.err, if_neg e1, if_neg e2, if_neg e3, if_pos hh]) (by omega)) fun hh => ?_
    have e0 : s.err id prio until_ = 0 := by rw [LS.err, if_neg e1, if_neg e2, if_neg e3, if_neg (by rw [hh]; simp)]
    obtain ⟨hrow2, hmap2, _⟩ := hl2
    refine ⟨_, hrow2.cell rfl, ?_⟩
    refine storeC_row hrow2 (by simp) fun w3 hr3 hc3 hs3 => ?_
    refine drawC_intro fun w4 hc4 _ => ?_
    have hr4 := hc4.row hr3 (by simp)
    have hw : IntKind.wrap .i64 (s.came + 1) = s.came + 1 := wrap64_in (by omega) (by omega)
    refine ⟨_, hr4.cell rfl, _, hr4.cell rfl, ?_⟩
    rw [hw] at hr4 ⊢
    have hmap4 := (hmap2.ch hc3 (by simpa using hmb)).ch hc4 (by simp)
    obtain ⟨w5, hrun, hmap5, hc5⟩ := insert_new (P := Try.prog) mapW hmap4 (x := (⟨id, prio, until_, s.came + 1⟩ : Wt)) (fun y hy he => by
      have : s.has id = true := LS.has_iff.2 ⟨y, hy, he⟩
      rw [hh] at this; cases this)
    refine ⟨w5, hrun, by rw [e0], ?_, ?_⟩
    · unfold LS.put; rw [if_pos e0]
      exact ⟨hc5.row hr4 (by simpa using Ne.symm hmb), hmap5, hmb⟩
    · exact (((hc02.mono (D2 := [b, mb]) (by simp)).trans hc3 (by simp)).trans0 hc4).trans hc5 (by simp)
  refine br_intro (fun hu => ?_) fun hu => ?_
  · have hu : until_ ≠ -1 := by simpa using hu
    refine ⟨_, hl2.1.cell rfl, ?_⟩
    refine br_dec (fun h => bad 144 (by rw [LS.err, if_neg e1, if_neg e2, if_pos ⟨hu, .inl h⟩]) (by omega)) fun h5 => br_dec (fun h => bad 144 (by rw [LS.err, if_neg e1, if_neg e2, if_pos ⟨hu, .inr h⟩]) (by omega)) fun h6 => tail (by omega)
  · have hu : until_ = -1 := by simpa using hu
    exact tail (by omega)

theorem pw_O {ys : List Wt} (h : ys.Pairwise (fun x y => decide (cfO y x < 0) = false)) : ys.Pairwise (fun a b => leO a b = true) :=
  h.imp (fun {a b} h => by rw [cfO_lt] at h; simpa using h)
theorem pw_E {ys : List Wt} (h : ys.Pairwise (fun x y => decide (cfE y x < 0) = false)) : ys.Pairwise (fun a b => leE a b = true) :=
  h.imp (fun {a b} h => by rw [cfE_lt] at h; simpa using h)

theorem line_List_any {w : World} {b mb : Nat} {s : LS} (hS : SortC 82 cfO) (hr : LineRep w b mb s) (hok : s.ok) (hm : s.ws.length ≤ 1000000) :
    Calls Try.prog 52 #[.pointer (some ⟨b, 0, none⟩)] w (Ret fun v w' => ∃ a c, v = .slice a s.list.length c ∧ Own (Enc.int .i64) 3 w.heap.size w' a c s.list ∧ Ch [] w w') := by
  apply line_Line_List.calls
  unfold line_Line_List.F
  refine Calls.ret (sorted_any (fun _ => true) hS hr hm (fun x w' hc => ⟨83, _, w', callV_run (fn := Try.f83) Try.func83 (by kernel_rfl) (by kernel_rfl), ?_⟩)) ?_
  · refine line_Line_List_1.calls _ _ _ _ _ _ ?_
    unfold line_Line_List_1.F
    exact newBlk_row fun nb w2 _ _ _ hc2 => ⟨rfl, hc2⟩
  · rintro v w' ⟨ys, hp, hpw, a, c, rfl, ho, hc⟩
    have hf : s.ws.filter (fun _ => true) = s.ws := by simp
    rw [hf] at hp
    have := ordL_eq hok.came_ hp (pw_O hpw)
    subst this
    exact ⟨a, _, c, rfl, a, c, rfl, ho, hc⟩

theorem line_First_any {w : World} {b mb : Nat} {s : LS} (hS : SortC 82 cfO) (hr : LineRep w b mb s) (hok : s.ok) (hm : s.ws.length ≤ 1000000) :
    Calls Try.prog 100 #[.pointer (some ⟨b, 0, none⟩)] w (Ret fun v w' => v = .tuple #[.int .i64 (s.list.head?.getD 0), .bool s.list.head?.isSome] ∧ Ch [] w w') := by
  apply line_Line_First.calls
  unfold line_Line_First.F
  refine Calls.ret (line_List_any hS hr hok hm) ?_
  rintro v w1 ⟨a, c, rfl, ho, hc⟩
  refine ⟨_, _, _, rfl, ?_⟩
  cases hl : s.list with
  | nil => exact br_t rfl ⟨rfl, hc⟩
  | cons x r =>
    rw [hl] at ho
    refine br_f (by simp; omega) ⟨by omega, by simp, ?_⟩
    obtain ⟨ab, ao, rfl, hcell⟩ := ho.slr 0 x rfl
    simp only [okP_some, pb_some, po_some]
    exact ⟨_, hcell 0 _ rfl, rfl, hc⟩

def LS.taken (s : LS) : LS := match s.list.head? with | some id => s.without id | none => s
theorem LS.ok.taken {s : LS} (h : s.ok) : s.taken.ok := by
  unfold LS.taken
  split
  · exact h.without _
  · exact h

theorem line_Take_any {w : World} {b mb : Nat} {s : LS} (hS : SortC 82 cfO) (hr : LineRep w b mb s) (hok : s.ok) (hm : s.ws.length ≤ 1000000) :
    Calls Try.prog 73 #[.pointer (some ⟨b, 0, none⟩)] w (Ret fun v w' => v = .tuple #[.int .i64 (s.list.head?.getD 0), .bool s.list.head?.isSome] ∧ LineRep w' b mb s.taken ∧ Ch [mb] w w') := by
  apply line_Line_Take.calls
  unfold line_Line_Take.F
  refine Calls.ret (line_First_any hS hr hok hm) ?_
  rintro v w1 ⟨rfl, hc1⟩
  refine ⟨_, _, rfl, ?_⟩
  have hr1 := hr.ch hc1 (by simp) (by simp)
  unfold LS.taken
  cases hl : s.list.head? with
  | none => exact br_f rfl ⟨rfl, hr1, hc1.mono (by simp)⟩
  | some id =>
    refine br_t rfl ?_
    obtain ⟨hrow, hmap, hmb⟩ := hr1
    refine ⟨_, hrow.cell rfl, ?_⟩
    obtain ⟨w2, hrun, hmap2, hc2⟩ := delete_key (P := Try.prog) (ty := 0) mapW hmap id
    exact ⟨w2, hrun, rfl, ⟨hc2.row hrow (by simpa using Ne.symm hmb), hmap2, hmb⟩, (hc1.mono (D2 := [mb]) (by simp)).trans hc2 (by simp)⟩

theorem line_Drop_any {w : World} {b mb : Nat} {s : LS} (hr : LineRep w b mb s) (id : Int) :
    Calls Try.prog 49 #[.pointer (some ⟨b, 0, none⟩), .int .i64 id] w (Ret fun v w' => v = .int .i64 (if s.has id = true then 0 else 142) ∧ LineRep w' b mb (s.without id) ∧ Ch [mb] w w') := by
  obtain ⟨hrow, hmap, hmb⟩ := hr
  have hr : LineRep w b mb s := ⟨hrow, hmap, hmb⟩
  apply line_Line_Drop.calls
  unfold line_Line_Drop.F
  refine ⟨_, hrow.cell rfl, ?_⟩
  have hlook : ∃ x : Wt, (Instr.lookup 141 (.map (some mb)) (.int .i64 id) true).run Try.prog w = .ok (.tuple #[valW x, .bool (s.has id)]) w := by
    cases hh : s.has id with
    | true =>
      obtain ⟨x, hx, rfl⟩ := LS.has_iff.1 hh
      exact ⟨x, lookup_some mapW hmap hx⟩
    | false =>
      refine ⟨⟨0, 0, 0, 0⟩, lookup_none mapW hmap (fun x hx he => ?_) (zero83 w)⟩
      have : s.has id = true := LS.has_iff.2 ⟨x, hx, he⟩
      rw [hh] at this; cases this
  obtain ⟨x0, hlook⟩ := hlook
  refine ⟨_, _, _, _, _, hlook, ?_⟩
  have hlt := hr.lt
  refine newBlk_row fun b1 w1 hb1 hs1 hr1 hc1 => storeC_row hr1 (by simp) fun w2 hr2 hc2 hs2 => ?_
  have hc02 : Ch [] w w2 := hc1.trans hc2 (by simp; omega)
  have hl2 := hr.ch hc02 (by simp) (by simp)
  refine br_intro (fun hh => ?_) fun hh => ?_
  · have hh : s.has id = false := by simpa using hh
    refine ⟨by simp [hh], ?_, hc02.mono (by simp)⟩
    have : s.without id = s := by
      unfold LS.without
      have : s.ws.filter (fun x => x.id != id) = s.ws := List.filter_eq_self.2 (fun x hx => by
        simp
        intro he
        have : s.has id = true := LS.has_iff.2 ⟨x, hx, he⟩
        rw [hh] at this; cases this)
      rw [this]
    rw [this]; exact hl2
  · have hh : s.has id = true := by simpa using hh
    obtain ⟨hrow2, hmap2, _⟩ := hl2
    refine ⟨_, hrow2.cell rfl, ?_⟩
    obtain ⟨w3, hrun, hmap3, hc3⟩ := delete_key (P := Try.prog) (ty := 0) mapW hmap2 id
    exact ⟨w3, hrun, by simp [hh], ⟨hc3.row hrow2 (by simpa using Ne.symm hmb), hmap3, hmb⟩, (hc02.mono (D2 := [mb]) (by simp)).trans hc3 (by simp)⟩

def LS.late (s : LS) (now : Int) : Prop := now < s.now ∨ 1099511627776 < now
instance (s : LS) (now : Int) : Decidable (s.late now) := by unfold LS.late; exact inferInstance

theorem gone_ids {s : LS} (hok : s.ok) (now : Int) : s.ws.filter (fun x => !((ordE (s.gone now)).map Wt.id).contains x.id) = (s.stay now).ws := by
  show _ = s.ws.filter _
  refine List.filter_congr fun x hx => ?_
  have : ((ordE (s.gone now)).map Wt.id).contains x.id = (decide (x.until_ ≠ -1) && decide (x.until_ ≤ now)) := by
    rw [Bool.eq_iff_iff]
    rw [List.contains_iff_mem, List.mem_map]
    constructor
    · rintro ⟨y, hy, he⟩
      have hy := (ordE_perm _).mem_iff.1 hy
      have hy := List.mem_filter.1 hy
      have := inj_of_nodup (f := Wt.id) hok.ids hy.1 hx he
      subst this
      exact hy.2
    · intro h
      exact ⟨x, (ordE_perm _).mem_iff.2 (List.mem_filter.2 ⟨hx, h⟩), rfl⟩
  rw [this]

theorem line_Expire_any {w : World} {b mb : Nat} {s : LS} (hS : SortC 81 cfE) (hr : LineRep w b mb s) (hok : s.ok) (hm : s.ws.length ≤ 1000000) (now : Int) :
    Calls Try.prog 50 #[.pointer (some ⟨b, 0, none⟩), .int .i64 now] w (Ret fun v w' => (s.late now → v = .tuple #[.slice none 0 0, .int .i64 144] ∧ LineRep w' b mb s ∧ Ch [] w w') ∧
      (¬ s.late now → ∃ a c, v = .tuple #[.slice a ((ordE (s.gone now)).map Wt.id).length c, .int .i64 0] ∧ Own (Enc.int .i64) 3 w.heap.size w' a c ((ordE (s.gone now)).map Wt.id) ∧ LineRep w' b mb (s.stay now) ∧ Ch [b, mb] w w')) := by
  apply line_Line_Expire.calls
  unfold line_Line_Expire.F
  refine newBlk_row fun nb w1 hnb hs1 hr1 hc1 => drawC_intro fun w2 hc2 _ => ?_
  have hr2 := hc2.row hr1 (by simp)
  have hc02 := hc1.trans0 hc2
  have hl2 := hr.ch hc02 (by simp) (by simp)
  have hlt := hr.lt
  refine ⟨_, hr2.cell rfl, _, hl2.1.cell rfl, ?_⟩
  refine br_dec (fun h => ⟨fun _ => ⟨rfl, hl2, hc02⟩, fun hn => absurd (.inl h) hn⟩) fun h1 => ⟨_, hr2.cell rfl, br_dec (fun h => ⟨fun _ => ⟨rfl, hl2, hc02⟩, fun hn => absurd (.inr h) hn⟩) fun h2 => ?_⟩
  have hnl : ¬ s.late now := by unfold LS.late; omega
  refine ⟨_, hr2.cell rfl, ?_⟩
  obtain ⟨hrow2, hmap2, hmb⟩ := hl2
  refine storeC_row hrow2 (by simp) fun w3 hr3 hc3 hs3 => ?_
  have hnew : LineRep w3 b mb { s with now := now } := ⟨hr3, hmap2.ch hc3 (by simpa using hmb), hmb⟩
  have hnb3 := hc3.row hr2 (by simp; omega)
  have z2 := hc02.size
  refine Calls.ret (sorted_any (s := { s with now := now }) (fun x => decide (x.until_ ≠ -1) && decide (x.until_ ≤ now)) hS hnew hm (fun x w' hc => ⟨80, _, w', callV_run (fn := Try.f80) Try.func80 (by kernel_rfl) (by kernel_rfl), ?_⟩)) ?_
  · refine line_Line_Expire_1.calls _ _ _ _ _ _ _ _ ?_
    unfold line_Line_Expire_1.F
    refine newBlk_row fun nb2 w5 _ _ hr5 hc5 => ?_
    have hn5 := hc5.row (hc.row hnb3 (by simp)) (by simp)
    refine ⟨_, hr5.cell rfl, br_intro (fun hu => ⟨_, hr5.cell rfl, _, hn5.cell rfl, ?_, hc5⟩) fun hu => ⟨?_, hc5⟩⟩
    · have hu : x.until_ ≠ -1 := by simpa using hu
      simp [hu]
    · have hu : x.until_ = -1 := by simpa using hu
      simp [hu]
  · rintro v w4 ⟨ys, hp, hpw, a, c, rfl, ho, hc4⟩
    have hp : ys.Perm (s.gone now) := hp
    have hye : ys = ordE (s.gone now) := ordE_eq (hok.came_.filter _) hp (pw_E hpw)
    clear hp
    subst hye
    refine ⟨_, _, _, rfl, ?_⟩
    obtain ⟨ids, hids⟩ : ∃ ids, ids = (ordE (s.gone now)).map Wt.id := ⟨_, rfl⟩
    have hgi := gone_ids hok now
    rw [← hids] at ho hgi ⊢
    have hc04 : Ch [b, mb] w w4 := ((hc02.mono (D2 := [b, mb]) (by simp)).trans hc3 (by simp)).trans0 hc4
    have hl4 := hnew.ch hc4 (by simp) (by simp)
    have hob := ho.base
    have z3 : w3.heap.size = w2.heap.size := hs3
    have hilen : ids.length ≤ 1000000 := by
      rw [hids, List.length_map, (ordE_perm _).length_eq]
      have := List.length_filter_le (fun x : Wt => decide (x.until_ ≠ -1) && decide (x.until_ ≤ now)) s.ws
      show (s.ws.filter _).length ≤ _
      omega
    have hnoown : a = none ∨ pb a ∉ [mb] := by
      rcases hob with h | h
      · exact .inl h
      · right; simp; omega
    refine ⟨fun n i w' => ∃ k : Nat, i = k ∧ k ≤ ids.length ∧ n = ids.length - k ∧ LineRep w' b mb ⟨s.ws.filter (fun x => !(ids.take k).contains x.id), s.came, now⟩ ∧ Ch [mb] w4 w',
      ⟨_, 0, rfl, by omega, rfl, by
        have e : s.ws.filter (fun x => !(ids.take 0).contains x.id) = s.ws := List.filter_eq_self.2 (by simp)
        rw [e]; exact hl4, Ch.refl _ _⟩, ?_⟩
    rintro n dead w5 i ⟨k, rfl, hk, rfl, hl5, hc5⟩
    unfold line_Line_Expire.L0
    refine br_dec (fun hlt => ?_) fun hge => ?_
    · have hlt : k < ids.length := by omega
      obtain ⟨x, hxk⟩ : ∃ x, ids[k]? = some x := ⟨ids[k], by simp [hlt]⟩
      have hxe : ids[k] = x := by have h := hxk; rw [List.getElem?_eq_getElem hlt] at h; exact Option.some.inj h
      refine ⟨by omega, by omega, ?_⟩
      obtain ⟨ab, ao, rfl, hcell⟩ := (hc5.own ho hnoown).slr k x hxk
      simp only [okP_some, pb_some, po_some, toNat_nat]
      obtain ⟨hrow5, hmap5, _⟩ := hl5
      refine ⟨_, hcell 0 _ rfl, _, hrow5.cell rfl, ?_⟩
      obtain ⟨w6, hrun, hmap6, hc6⟩ := delete_key (P := Try.prog) (ty := 0) mapW hmap5 x
      have hk1 : IntKind.wrap .i64 ((k : Int) + 1) = ((k + 1 : Nat) : Int) := by rw [← Int.natCast_succ, wrap64_nat (by omega)]
      refine ⟨w6, hrun, ids.length - (k + 1), by omega, k + 1, hk1, by omega, rfl, ⟨hc6.row hrow5 (by simpa using Ne.symm hmb), ?_, hmb⟩, hc5.trans hc6 (by simp)⟩
      have e : s.ws.filter (fun y => !(ids.take (k + 1)).contains y.id) = (s.ws.filter (fun y => !(ids.take k).contains y.id)).filter (fun y => y.id != x) := by
        rw [List.filter_filter]
        refine List.filter_congr fun y _ => ?_
        rw [List.take_succ_eq_append_getElem hlt, hxe]
        simp only [List.contains_append, Bool.not_or, List.contains_cons, List.contains_nil, Bool.or_false]
        rw [Bool.and_comm]; rfl
      show MapRep _ _ _ _ _ (s.ws.filter _)
      rw [e]; exact hmap6
    · have hke : k = ids.length := by omega
      subst hke
      rw [List.take_of_length_le (Nat.le_refl _), hgi] at hl5
      exact ⟨fun h => absurd h hnl, fun _ => ⟨a, c, rfl, (hc5.own ho hnoown).mono (by omega), hl5, hc04.trans hc5 (by simp)⟩⟩
end Go.Proofs.Ytecacohkkdhphaa
