/- Events: EventAll returns true. Conditions: none. -/
import Derived.Test.YtecacohkkdhphaaEvM
namespace Go.Proofs.Ytecacohkkdhphaa
open Go.Vc
set_option linter.unusedSimpArgs false
set_option linter.unusedVariables false
set_option maxRecDepth 100000

theorem and63 {p : Int} (h0 : 0 ≤ p) (h1 : p < 256) : IntKind.wrap .u8 (((BitVec.ofInt 8 p &&& BitVec.ofInt 8 63).toNat : Nat)) = p % 64 := by
  obtain ⟨k, rfl⟩ := Int.eq_ofNat_of_zero_le h0
  have hk : k < 256 := by omega
  have : ∀ k : Fin 256, IntKind.wrap .u8 (((BitVec.ofInt 8 (k.val : Int) &&& BitVec.ofInt 8 63).toNat : Nat)) = (k.val : Int) % 64 := by decide +kernel
  exact this ⟨k, hk⟩
theorem wrap63 {p : Int} : IntKind.wrap .i64 (p % 64) = p % 64 := wrap64_in (by omega) (by omega)

/-- Those who came one by one, each with the next number. -/
def comers (pr : List Int) (k : Nat) : List Wt := (List.range k).map fun (i : Nat) => (⟨(i : Int), pr[i]?.getD 0 % 64, -1, (i : Int) + 1⟩ : Wt)
def lineC (pr : List Int) (k : Nat) : LS := ⟨comers pr k, k, 0⟩
theorem comers_succ (pr : List Int) (k : Nat) : comers pr (k + 1) = comers pr k ++ [⟨k, pr[k]?.getD 0 % 64, -1, k + 1⟩] := by
  unfold comers; rw [List.range_succ, List.map_append]; rfl
theorem mem_comers {pr : List Int} {k : Nat} {x : Wt} : x ∈ comers pr k ↔ ∃ i : Nat, i < k ∧ x = ⟨i, pr[i]?.getD 0 % 64, -1, i + 1⟩ := by
  unfold comers
  rw [List.mem_map]
  constructor
  · rintro ⟨i, hi, rfl⟩; exact ⟨i, List.mem_range.1 hi, rfl⟩
  · rintro ⟨i, hi, rfl⟩; exact ⟨i, List.mem_range.2 hi, rfl⟩
theorem lineC_err {pr : List Int} {k : Nat} (hk : k < 60000) (h : k < pr.length) : (lineC pr k).err k (pr[k]?.getD 0 % 64) (-1) = 0 := by
  unfold LS.err
  rw [if_neg (by omega), if_neg (by omega), if_neg (by simp), if_neg]
  intro hh
  obtain ⟨x, hx, he⟩ := LS.has_iff.1 hh
  obtain ⟨i, hi, rfl⟩ := mem_comers.1 hx
  simp at he; omega
theorem lineC_put {pr : List Int} {k : Nat} (hk : k < 60000) (h : k < pr.length) : (lineC pr k).put k (pr[k]?.getD 0 % 64) (-1) = lineC pr (k + 1) := by
  unfold LS.put; rw [if_pos (lineC_err hk h)]
  unfold LS.add lineC
  rw [comers_succ]
  simp
theorem lineC_fit {pr : List Int} : ∀ {k : Nat}, k ≤ pr.length → k ≤ 60000 → (lineC pr k).fit k
  | 0, _, _ => LS.new_fit 0
  | k + 1, h, h2 => by rw [← lineC_put (by omega) (by omega)]; exact (lineC_fit (by omega) (by omega)).put _ _ _
/-- Their order: greater priorities first, of one priority who came first. -/
theorem lineC_sorted (pr : List Int) {n k : Nat} {a b : Int} (hab : k + 1 < (lineC pr n).list.length) (ha : (lineC pr n).list[k]? = some a) (hb : (lineC pr n).list[k + 1]? = some b) :
    ∃ i j : Nat, a = i ∧ b = j ∧ i < n ∧ j < n ∧ (pr[j]?.getD 0 % 64 < pr[i]?.getD 0 % 64 ∨ (pr[i]?.getD 0 % 64 = pr[j]?.getD 0 % 64 ∧ i < j)) := by
  unfold LS.list at ha hb hab
  rw [List.length_map] at hab
  have hk0 : k < (ordL (lineC pr n).ws).length := by omega
  rw [List.getElem?_map, List.getElem?_eq_getElem hk0] at ha
  rw [List.getElem?_map, List.getElem?_eq_getElem hab] at hb
  have hs := ordL_sorted (lineC pr n).ws
  have hle := (List.pairwise_iff_getElem.1 hs) k (k + 1) hk0 hab (by omega)
  have hp := ordL_perm (lineC pr n).ws
  have m1 := hp.mem_iff.1 (List.getElem_mem hk0)
  have m2 := hp.mem_iff.1 (List.getElem_mem hab)
  obtain ⟨i, hi, e1⟩ := mem_comers.1 m1
  obtain ⟨j, hj, e2⟩ := mem_comers.1 m2
  have hnd : (ordL (lineC pr n).ws).Nodup := by
    refine hp.nodup_iff.2 ?_
    show (comers pr n).Nodup
    unfold comers
    refine List.Pairwise.map _ ?_ List.nodup_range
    intro x y hxy he
    simp at he; omega
  have hne : i ≠ j := by
    rintro rfl
    exact (List.pairwise_iff_getElem.1 hnd) k (k + 1) hk0 hab (by omega) (by rw [e1, e2])
  rw [e1] at ha hle
  rw [e2] at hb hle
  simp at ha hb
  refine ⟨i, j, ha.symm, hb.symm, hi, hj, ?_⟩
  simp [leO] at hle
  omega

theorem EventAll_any {w0 : World} {a : Option Addr} {c : Nat} {pr : List Int} (hx : SlR (Enc.int .u8) w0 a pr) (hq : ∀ p ∈ pr, 0 ≤ p ∧ p < 256) :
    Calls Try.prog 3 #[.slice a pr.length c] w0 (Ret fun v w' => v = .bool true ∧ Ch [] w0 w') := by
  have H := St.init w0
  have hx := hx.sli
  have hm := hle_refl (hpOf w0)
  apply purlinlaw16_EventAll.calls
  unfold purlinlaw16_EventAll.F
  refine Calls.ret (event_New_sp H false) ?_
  rintro v w1 ⟨eb, rfl, H⟩
  refine ⟨_, rfl, ?_⟩
  refine Calls.ret (awake16_sp H) ?_
  rintro v w2 ⟨rfl, H⟩
  refine ⟨_, rfl, br_f rfl (br_f rfl ?_)⟩
  refine br_dec (fun h => ?_) fun hl => ?_
  · refine Calls.ret (awake16_sp H) ?_
    rintro v w3 ⟨rfl, H⟩
    exact ⟨_, rfl, rfl, H.fin hm⟩
  have hl : pr.length ≤ 100 := by omega
  have hget : ∀ (k : Nat) (x : Int), pr[k]? = some x → 0 ≤ x ∧ x < 256 := fun k x h => hq x (List.mem_of_getElem? h)
  refine ⟨fun n i w' => ∃ k : Nat, i = k ∧ k ≤ pr.length ∧ n = pr.length - k ∧ St w0 (hpOf w0) w' [event eb ⟨lineC pr k, false⟩], ⟨_, 0, rfl, by omega, rfl, H⟩, ?_⟩
  rintro n9 dead w5 i ⟨k, rfl, hk, rfl, H⟩
  unfold purlinlaw16_EventAll.L0
  refine br_dec (fun hlt => ?_) fun hge => ?_
  · have hlt : k < pr.length := by omega
    obtain ⟨x, hxk⟩ : ∃ x, pr[k]? = some x := ⟨pr[k], by simp [hlt]⟩
    have hxe : pr[k] = x := by have h := hxk; rw [List.getElem?_eq_getElem hlt] at h; exact Option.some.inj h
    obtain ⟨h0, h1⟩ := hget k x hxk
    have hpx : pr[k]?.getD 0 % 64 = x % 64 := by rw [hxk]; rfl
    refine ⟨by omega, by omega, ?_⟩
    obtain ⟨ab, ao, rfl, hcell⟩ := (H.sli hx) k _ hxk
    simp only [okP_some, pb_some, po_some, toNat_nat]
    refine ⟨_, hcell 0 _ rfl, ?_⟩
    rw [and63 h0 h1, wrap63, ← hpx]
    refine Calls.ret (event_Wait_sp H (lineC_fit (by omega) (by omega)) (by omega) k (pr[k]?.getD 0 % 64) (-1)) ?_
    rintro v w6 ⟨rfl, H⟩
    have he := lineC_err (pr := pr) (k := k) (by omega) hlt
    have e1 : (ES.mk (lineC pr k) false).waitB k (pr[k]?.getD 0 % 64) = false := by simp [ES.waitB]
    have e2 : (ES.mk (lineC pr k) false).waitE k (pr[k]?.getD 0 % 64) (-1) = 0 := by simp [ES.waitE, he]
    have e3 : (ES.mk (lineC pr k) false).wait k (pr[k]?.getD 0 % 64) (-1) = ⟨lineC pr (k + 1), false⟩ := by
      unfold ES.wait; rw [if_neg (by simp [he]), lineC_put (by omega) hlt]
    rw [e3] at H
    rw [e1, e2]
    refine ⟨_, _, rfl, br_f rfl (br_f rfl ?_)⟩
    have hk1 : IntKind.wrap .i64 ((k : Int) + 1) = ((k + 1 : Nat) : Int) := by rw [← Int.natCast_succ, wrap64_nat (by omega)]
    exact ⟨pr.length - (k + 1), by omega, k + 1, hk1, by omega, rfl, H⟩
  · have hke : k = pr.length := by omega
    subst hke
    have hf := lineC_fit (pr := pr) (k := pr.length) (by omega) (by omega)
    refine Calls.ret (event_Set_sp H hf (by omega)) ?_
    rintro v w6 ⟨a6, c6, rfl, H⟩
    have hll : (lineC pr pr.length).list.length = pr.length := by rw [list_len]; simp [lineC, comers]
    refine ⟨_, _, _, rfl, br_f (by show (_ != _) = false; simp [hll]) ?_⟩
    refine ⟨fun n i w' => ∃ k : Nat, i = ((k + 1 : Nat) : Int) ∧ k ≤ pr.length ∧ n = pr.length - k ∧ St w0 (hpOf w0) w' [own (Enc.int .i64) 3 a6 c6 (lineC pr pr.length).list, event eb (ES.mk (lineC pr pr.length) false).set], ⟨_, 0, rfl, by omega, rfl, H⟩, ?_⟩
    rintro n9 dead w7 i ⟨k, rfl, hk, rfl, H⟩
    unfold purlinlaw16_EventAll.L1
    have hw : IntKind.wrap .i64 (((k + 1 : Nat) : Int) - 1) = (k : Int) := by rw [wrap64_in (by omega) (by omega)]; omega
    refine br_dec (fun hlt => ?_) fun hge => ?_
    · have hlt : k + 1 < (lineC pr pr.length).list.length := by
        have h : ((k + 1 : Nat) : Int) < (((ES.mk (lineC pr pr.length) false).l.list.length : Nat) : Int) := hlt
        have h : ((k + 1 : Nat) : Int) < (((lineC pr pr.length).list.length : Nat) : Int) := h
        omega
      obtain ⟨A, hA⟩ : ∃ A, (lineC pr pr.length).list[k]? = some A := ⟨_, List.getElem?_eq_getElem (by omega)⟩
      obtain ⟨B, hB⟩ : ∃ B, (lineC pr pr.length).list[k + 1]? = some B := ⟨_, List.getElem?_eq_getElem hlt⟩
      obtain ⟨i, j, rfl, rfl, hi, hj, hij⟩ := lineC_sorted pr hlt hA hB
      refine H.drw fun w H => ?_
      rw [hw]
      refine ⟨by omega, by show (k : Int) < (((lineC pr pr.length).list.length : Nat) : Int); omega, ?_⟩
      have hs := H.osl (xs := (lineC pr pr.length).list) (E := Enc.int .i64)
      obtain ⟨ab, ao, rfl, hcA⟩ := hs k _ hA
      obtain ⟨ab', ao', he, hcB⟩ := hs (k + 1) _ hB
      simp only [Option.some.injEq, Addr.mk.injEq, and_true] at he
      obtain ⟨rfl, rfl⟩ := he
      simp only [okP_some, pb_some, po_some, toNat_nat]
      refine ⟨_, hcA 0 _ rfl, by omega, by show ((k + 1 : Nat) : Int) < (((lineC pr pr.length).list.length : Nat) : Int); omega, _, hcB 0 _ rfl, ?_⟩
      refine br_f (by simp) (br_f (by simp) (br_f (by simp; omega) (br_f (by simp; omega) ?_)))
      refine H.drw fun w H => ?_
      obtain ⟨p, hp⟩ : ∃ p, pr[i]? = some p := ⟨_, List.getElem?_eq_getElem hi⟩
      obtain ⟨q, hq2⟩ : ∃ q, pr[j]? = some q := ⟨_, List.getElem?_eq_getElem hj⟩
      obtain ⟨p0, p1⟩ := hget i p hp
      obtain ⟨q0, q1⟩ := hget j q hq2
      refine ⟨by omega, by omega, ?_⟩
      obtain ⟨cb, co, rfl, hcp⟩ := (H.sli hx) i _ hp
      simp only [okP_some, pb_some, po_some, toNat_nat]
      refine ⟨_, hcp 0 _ rfl, by omega, by omega, ?_⟩
      obtain ⟨cb', co', he, hcq⟩ := (H.sli hx) j _ hq2
      simp only [Option.some.injEq, Addr.mk.injEq, and_true] at he
      obtain ⟨rfl, rfl⟩ := he
      refine ⟨_, hcq 0 _ rfl, ?_⟩
      rw [and63 p0 p1, and63 q0 q1]
      rw [hp, hq2] at hij
      simp only [Option.getD_some] at hij
      refine br_f (by simp; omega) ?_
      have done : ∃ m, m < pr.length - k ∧ ∃ (k_1 : Nat), IntKind.wrap .i64 (((k + 1 : Nat) : Int) + 1) = ((k_1 + 1 : Nat) : Int) ∧ k_1 ≤ pr.length ∧ m = pr.length - k_1 ∧ St w0 (hpOf w0) w [own (Enc.int .i64) 3 (some ⟨ab, ao, none⟩) c6 (lineC pr pr.length).list, event eb (ES.mk (lineC pr pr.length) false).set] :=
        ⟨pr.length - (k + 1), by omega, k + 1, by rw [wrap64_in (by omega) (by omega)]; omega, by omega, rfl, H⟩
      refine br_intro (fun hpq => br_f ?_ done) fun hpq => done
      have : p % 64 = q % 64 := by simpa using hpq
      simp; omega
    · try simp only [okP_some]
      refine ev_List (n := pr.length) (s := (ES.mk (lineC pr pr.length) false).set) H.at_ (ES.fit_set hf) (by omega) fun a c w H => ?_
      have hnil : (ES.mk (lineC pr pr.length) false).set.l.list = [] := list_nil rfl
      rw [hnil]
      refine br_t rfl ?_
      refine Calls.ret (event_Set_sp H.at_ (ES.fit_set hf) (by omega)) ?_
      rintro v w8 ⟨a8, c8, rfl, H⟩
      rw [hnil]
      exact ⟨_, _, _, rfl, rfl, H.fin hm⟩
end Go.Proofs.Ytecacohkkdhphaa
