/- Processes: in which order they run. Conditions: none. -/
import Derived.Test.YtecacohkkdhphaaPrO
namespace Go.Proofs.Ytecacohkkdhphaa
open Go.Vc Go.Sort
set_option linter.unusedSimpArgs false
set_option linter.unusedVariables false
set_option maxRecDepth 100000

theorem elJ : ElT Try.prog 29 3 (Enc.int .i64) 8 := by
  refine ⟨by kernel_rfl, ?_⟩
  have h : (Try.prog.info? 3).map (fun i => (i.zero.isSome, i.size, i.bytes, (i.zero.getD .nilIface).cells.size)) = some (true, 1, 8, 1) := by kernel_rfl
  cases hi : Try.prog.info? 3 with
  | none => rw [hi] at h; cases h
  | some i =>
    rw [hi] at h
    simp only [Option.map_some, Option.some.injEq, Prod.mk.injEq] at h
    obtain ⟨h1, h2, h3, h4⟩ := h
    obtain ⟨z, hz⟩ := Option.isSome_iff_exists.1 h1
    exact ⟨i, z, rfl, hz, h2, h3, by rw [hz] at h4; exact h4⟩
/-- Who came behind at one time is one, and no later than now. -/
structure PT.good (t : PT) : Prop where
  uniq : ∀ (i j : Nat) (x y : Pr), t.l[i]? = some x → t.l[j]? = some y → x.st ≠ 0 → y.st ≠ 0 → x.came = y.came → i = j
  le : ∀ (i : Nat) (x : Pr), t.l[i]? = some x → x.came ≤ t.came
def PT.mays (t : PT) : List (Fin t.l.length) := (List.finRange t.l.length).filter fun i => (t.at (i.val : Int)).may
def leI (t : PT) (i j : Fin t.l.length) : Bool := lePr (t.at (i.val : Int)) (t.at (j.val : Int))
def PT.orderF (t : PT) : List (Fin t.l.length) := t.mays.mergeSort (leI t)
def PT.order (t : PT) : List Int := t.orderF.map fun i => (i.val : Int)
theorem leI_trans (t : PT) (a b c : Fin t.l.length) (h1 : leI t a b = true) (h2 : leI t b c = true) : leI t a c = true := by simp [leI, lePr] at *; omega
theorem leI_total (t : PT) (a b : Fin t.l.length) : (leI t a b || leI t b a) = true := by simp [leI, lePr]; omega
theorem PT.at_get {t : PT} (i : Fin t.l.length) : t.l[i.val]? = some (t.at (i.val : Int)) := by
  unfold PT.at; rw [toNat_nat, List.getElem?_eq_getElem i.isLt]; rfl
theorem may_st {x : Pr} (h : x.may = true) : x.st ≠ 0 := by
  unfold Pr.may at h; simp at h; omega
theorem orderF_eq {t : PT} (hg : t.good) {ys : List (Fin t.l.length)} (hp : ys.Perm t.mays) (hs : ys.Pairwise (fun a b => leI t a b = true)) : ys = t.orderF := by
  have hperm : t.orderF.Perm t.mays := List.mergeSort_perm _ _
  refine List.Perm.eq_of_pairwise (le := fun a b => leI t a b = true) (fun a b ha hb h1 h2 => ?_) hs (List.pairwise_mergeSort (leI_trans t) (leI_total t) t.mays) (hp.trans hperm.symm)
  have ma := (List.mem_filter.1 (hp.mem_iff.1 ha)).2
  have mb := (List.mem_filter.1 (hperm.mem_iff.1 hb)).2
  refine Fin.ext (hg.uniq a.val b.val _ _ (PT.at_get a) (PT.at_get b) (may_st ma) (may_st mb) ?_)
  simp [leI, lePr] at h1 h2; omega
theorem mays_take {t : PT} {k : Nat} (hk : k < t.l.length) : ((List.finRange t.l.length).take (k + 1)).filter (fun i => (t.at (i.val : Int)).may) =
    ((List.finRange t.l.length).take k).filter (fun i => (t.at (i.val : Int)).may) ++ (if (t.at (k : Int)).may = true then [⟨k, hk⟩] else []) := by
  rw [List.take_succ_eq_append_getElem (by simpa using hk), List.filter_append]
  congr 1
  simp only [List.getElem_finRange, List.filter_cons, List.filter_nil, Fin.cast_mk]

section
variable {e w : World} {m : Hp} {L : List HP} {b n : Nat} {t : PT}
theorem proc_Order_sp (H : St e m w (table b t :: L)) (hf : t.fit n) (hg : t.good) :
    Calls Try.prog 30 #[.pointer (some ⟨b, 0, none⟩)] w (Ret fun v w' => ∃ a c, v = .slice a t.order.length c ∧ St e m w' (own (Enc.int .i64) 3 a c t.order :: table b t :: L)) := by
  apply proc_Table_Order.calls
  unfold proc_Table_Order.F
  have hlen := hf.len
  have hmost := hf.most
  refine H.new fun b0 w H => ⟨_, H.ld, ?_⟩
  have H := H.at_ (A := table b t)
  obtain ⟨a, c, a2, c2, H⟩ := table_open H
  simp only [okP_some, pb_some, po_some]
  refine ⟨_, _, _, H.ld, ?_⟩
  refine ⟨fun j A N C i w' => ∃ k : Nat, i = k ∧ k ≤ t.l.length ∧ j = t.l.length - k ∧ N = ((((List.finRange t.l.length).take k).filter (fun i => (t.at (i.val : Int)).may)).map (fun i => (i.val : Int))).length ∧
      St e m w' (own (Enc.int .i64) 3 A C ((((List.finRange t.l.length).take k).filter (fun i => (t.at (i.val : Int)).may)).map (fun i => (i.val : Int))) :: row b0 37 [.pointer (some ⟨b, 0, none⟩)] :: row b 116 [.slice a t.pr.length c, .slice a2 t.l.length c2, .int .i64 t.came] :: own encP 121 a2 c2 t.l :: own (Enc.int .u8) 5 a c t.pr :: L),
    ⟨_, 0, rfl, by omega, rfl, by simp, by simpa using (H.ownNil (Enc.int .i64) 3).re⟩, ?_⟩
  rintro n9 dead w1 A N C i ⟨k, rfl, hk, rfl, rfl, H⟩
  unfold proc_Table_Order.L0
  have hfl : (((List.finRange t.l.length).take k).filter (fun i => (t.at (i.val : Int)).may)).length ≤ 16 := by
    have := List.length_filter_le (fun i => (t.at (i.val : Int)).may) ((List.finRange t.l.length).take k)
    rw [List.length_take, List.length_finRange] at this
    omega
  refine br_dec (fun hlt => ?_) fun hge => ?_
  · have hlt : k < t.l.length := by omega
    obtain ⟨x, hxk⟩ : ∃ x, t.l[k]? = some x := ⟨t.l[k], by simp [hlt]⟩
    have hxe : t.l[k] = x := by have h := hxk; rw [List.getElem?_eq_getElem hlt] at h; exact Option.some.inj h
    have hat : t.at (k : Int) = x := by unfold PT.at; rw [toNat_nat, hxk]; rfl
    refine ⟨by omega, by omega, ?_⟩
    obtain ⟨ab, ao, rfl, hcell⟩ := (H.osl (E := encP) (xs := t.l)) k _ hxk
    simp only [okP_some, pb_some, po_some, toNat_nat]
    refine ⟨_, hcell 0 _ rfl, _, hcell 1 _ rfl, _, hcell 2 _ rfl, _, hcell 3 _ rfl, ?_⟩
    refine H.new fun b1 w H => H.st fun w H => ⟨_, H.ld, _, H.ld, _, H.ld, _, H.ld, ?_⟩
    refine Calls.ret (may_sp H x) ?_
    rintro v w2 ⟨rfl, H⟩
    refine ⟨_, rfl, ?_⟩
    have htk := mays_take (t := t) hlt
    rw [hat] at htk
    have hk1 : IntKind.wrap .i64 ((k : Int) + 1) = ((k + 1 : Nat) : Int) := by rw [← Int.natCast_succ, wrap64_nat (by omega)]
    refine br_intro (fun hm => ?_) fun hm => ?_
    · rw [if_pos hm] at htk
      refine St.app1 (xs := (((List.finRange t.l.length).take k).filter (fun i => (t.at (i.val : Int)).may)).map (fun i => (i.val : Int))) H elJ (k : Int) (fun b2 A' C' w H => ?_) (hn := by rw [List.length_map]; omega)
      have e1 : (((List.finRange t.l.length).take k).filter (fun i => (t.at (i.val : Int)).may)).map (fun i => (i.val : Int)) ++ [(k : Int)] = (((List.finRange t.l.length).take (k + 1)).filter (fun i => (t.at (i.val : Int)).may)).map (fun i => (i.val : Int)) := by
        rw [htk, List.map_append]; rfl
      rw [e1] at H ⊢
      exact ⟨t.l.length - (k + 1), by omega, k + 1, hk1, by omega, rfl, rfl, H.re⟩
    · rw [if_neg (by rw [hm]; simp), List.append_nil] at htk
      rw [← htk] at H ⊢
      exact ⟨t.l.length - (k + 1), by omega, k + 1, hk1, by omega, rfl, rfl, H.re⟩
  · have hke : k = t.l.length := by omega
    subst hke
    have hall : (List.finRange t.l.length).take t.l.length = List.finRange t.l.length := by rw [List.take_of_length_le (by simp)]
    rw [hall] at H hfl ⊢
    rw [List.length_map]
    refine Calls.ret (sortI_sp (cf := cfI t) (swoP t) (Go.Proofs.enters_of Try.func66 (by kernel_rfl) rfl) t.mays H (by have : t.mays.length ≤ 16 := hfl; omega) (fun w' H x y => ?_)) ?_
    · exact order1_any H.at_.rowAt (H.at_ (A := row b _ _)).rowAt (H.osl (E := encP) (xs := t.l)) x y
    · rintro v w2 ⟨rfl, ys, hp, hs, H⟩
      have he := orderF_eq hg hp (hs.imp fun {x y} h => by
        have h2 := cfPr_lt (t.at (y.val : Int)) (t.at (x.val : Int))
        have h : decide (cfPr (t.at (y.val : Int)) (t.at (x.val : Int)) < 0) = false := h
        rw [h2] at h
        simpa [leI] using h)
      subst he
      refine ⟨rfl, A, C, ?_, ?_⟩
      · show Value.slice A t.mays.length C = _
        unfold PT.order
        rw [List.length_map, hp.length_eq]
      · exact (table_mk (L := own (Enc.int .i64) 3 A C t.order :: L) (k := t.pr.length) (k2 := t.l.length) H.re rfl rfl).re
theorem proc_Running_sp (H : St e m w (table b t :: L)) (hf : t.fit n) (hg : t.good) :
    Calls Try.prog 26 #[.pointer (some ⟨b, 0, none⟩)] w (Ret fun v w' => v = .tuple #[.int .i64 (t.order.head?.getD 0), .bool t.order.head?.isSome] ∧ St e m w' (table b t :: L)) := by
  apply proc_Table_Running.calls
  unfold proc_Table_Running.F
  refine Calls.ret (proc_Order_sp H hf hg) ?_
  rintro v w1 ⟨a, c, rfl, H⟩
  refine ⟨_, _, _, rfl, ?_⟩
  cases hl : t.order with
  | nil => exact br_t rfl ⟨rfl, H.drop⟩
  | cons x r =>
    rw [hl] at H
    refine br_f (by simp; omega) ⟨by omega, by simp, ?_⟩
    obtain ⟨ab, ao, rfl, hcell⟩ := H.ownOut.slr 0 x rfl
    simp only [okP_some, pb_some, po_some]
    exact ⟨_, hcell 0 _ rfl, rfl, H.drop⟩
end
end Go.Proofs.Ytecacohkkdhphaa
