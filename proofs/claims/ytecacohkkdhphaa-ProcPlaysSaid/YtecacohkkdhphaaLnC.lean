/- Lines of those who wait: those for whom something holds, in an order. Conditions: none. -/
import Derived.Test.YtecacohkkdhphaaLnB
import Derived.Test.YtecacohkkdhphaaVcMap
namespace Go.Proofs.Ytecacohkkdhphaa
open Go.Vc
set_option linter.unusedSimpArgs false
set_option linter.unusedVariables false
set_option maxRecDepth 100000

def valW (x : Wt) : Value := .agg #[.int .i64 x.id, .int .i64 x.prio, .int .i64 x.until_, .int .i64 x.came]

/-- What the library's sort does with a function that compares. -/
def SortC (g : Nat) (cf : Wt → Wt → Int) : Prop :=
  ∀ (w : World) (base : Nat) (a : Option Addr) (c : Nat) (xs : List Wt), Own encW 139 base w a c xs → xs.length ≤ 1000000 →
    Calls Try.prog 101 #[.slice a xs.length c, .func (.func g) #[] #[]] w (Ret fun v w' => v = .tuple #[] ∧
      ∃ ys : List Wt, ys.Perm xs ∧ ys.Pairwise (fun x y => decide (cf y x < 0) = false) ∧ SlR encW w' a ys ∧ Ch (a.map (·.block)).toList w w')

/-- Block b is a line, with its map. -/
def LineRep (w : World) (b mb : Nat) (s : LS) : Prop :=
  Row w b 143 [.map (some mb), .int .i64 s.came, .int .i64 s.now] ∧ MapRep .i64 Wt.id valW w mb s.ws ∧ mb ≠ b
theorem LineRep.ch {D : List Nat} {w w' : World} {b mb : Nat} {s : LS} (h : LineRep w b mb s) (hc : Ch D w w') (h1 : b ∉ D) (h2 : mb ∉ D) : LineRep w' b mb s :=
  ⟨hc.row h.1 h1, h.2.1.ch hc h2, h.2.2⟩
theorem LineRep.lt {w : World} {b mb : Nat} {s : LS} (h : LineRep w b mb s) : b < w.heap.size ∧ mb < w.heap.size := ⟨h.1.lt, h.2.1.lt⟩

theorem mapW : MapT Try.prog 141 3 139 .i64 := ⟨by kernel_rfl, by kernel_rfl⟩
theorem elW : ElT Try.prog 152 139 encW 32 := by
  refine ⟨by kernel_rfl, ?_⟩
  have h : (Try.prog.info? 139).map (fun i => (i.zero.isSome, i.size, i.bytes, (i.zero.getD .nilIface).cells.size)) = some (true, 4, 32, 4) := by kernel_rfl
  cases hi : Try.prog.info? 139 with
  | none => rw [hi] at h; cases h
  | some i =>
    rw [hi] at h
    simp only [Option.map_some, Option.some.injEq, Prod.mk.injEq] at h
    obtain ⟨h1, h2, h3, h4⟩ := h
    obtain ⟨z, hz⟩ := Option.isSome_iff_exists.1 h1
    exact ⟨i, z, rfl, hz, h2, h3, by rw [hz] at h4; exact h4⟩
theorem elI : ElT Try.prog 29 3 (Enc.int .i64) 8 := by
  refine ⟨by kernel_rfl, ?_⟩
  have h : (Try.prog.info? 3).map (fun i => (i.zero.isSome, i.size, i.bytes, (i.zero.getD .nilIface).cells.size)) = some (true, 1, 8, 1) := by kernel_rfl
  cases hi : Try.prog.info? 3 with
  | none => rw [hi] at h; cases h
  | some i =>
    rw [hi] at h
    simp only [Option.map_some, Option.some.injEq, Prod.mk.injEq] at h
    obtain ⟨h1, h2, h3, h4⟩ := h
    obtain ⟨z, hz⟩ := Option.isSome_iff_exists.1 h1
    exact ⟨i, z, rfl, hz, h2, h3, by rw [hz] at h4; exact h4⟩

theorem sorted_any {w : World} {b mb g : Nat} {s : LS} {cf : Wt → Wt → Int} {isV : Value} (is : Wt → Bool) (hS : SortC g cf) (hr : LineRep w b mb s) (hm : s.ws.length ≤ 1000000)
    (hf : ∀ (x : Wt) (w' : World), Ch [] w w' → ∃ f args w2, (callV isV #[valW x]).run Try.prog w' = .ok (.enter f args) w2 ∧ Calls Try.prog f args w2 (Ret fun v w3 => v = .bool (is x) ∧ Ch [] w' w3)) :
    Calls Try.prog 79 #[.pointer (some ⟨b, 0, none⟩), isV, .func (.func g) #[] #[]] w (Ret fun v w' => ∃ ys : List Wt, ys.Perm (s.ws.filter is) ∧ ys.Pairwise (fun x y => decide (cf y x < 0) = false) ∧
      ∃ a c, v = .slice a (ys.map Wt.id).length c ∧ Own (Enc.int .i64) 3 w.heap.size w' a c (ys.map Wt.id) ∧ Ch [] w w') := by
  obtain ⟨hrow, hmap, hmb⟩ := hr
  apply line_Line_sorted.calls
  unfold line_Line_sorted.F
  refine ⟨_, hrow.cell rfl, ?_⟩
  obtain ⟨r, w1, hrun, hr, hs1, hit, hmap1, hc1⟩ := iter_start (P := Try.prog) mapW hmap
  refine ⟨_, w1, hrun, ?_⟩
  have hmlt := hmap.lt
  refine ⟨fun n a N C w' => ∃ done : List Wt, N = (done.filter is).length ∧ n = s.ws.length - done.length ∧ IterRep .i64 Wt.id valW w' r mb s.ws done ∧ Own encW 139 w1.heap.size w' a C (done.filter is) ∧ Ch [] w w',
    ⟨_, [], rfl, rfl, hit, Own.nil _ _ _ _, hc1⟩, ?_⟩
  rintro n dead w2 a N C ⟨done, rfl, rfl, hit2, hown2, hc2⟩
  unfold line_Line_sorted.L0
  have z2 := hc2.size
  rcases iter_next (P := Try.prog) (ty := 0) hit2 with ⟨hperm, hrun⟩ | ⟨x, hx, hxd, w3, hrun, hent, hit3, hc3, hs3⟩
  · refine .inl ⟨w2, hrun, ?_⟩
    have hlen : (done.filter is).length ≤ 1000000 := by
      have := List.length_filter_le is done
      have := hperm.length_eq
      omega
    refine Calls.ret (hS w2 _ _ _ _ hown2 hlen) ?_
    rintro v w3 ⟨rfl, ys, hys, hpw, hsl, hc3⟩
    refine ⟨rfl, ?_⟩
    have hylen := hys.length_eq
    have hc03 : Ch [] w w3 := hc2.trans hc3 (by
      intro y hy
      right
      rcases hown2.base with rfl | hb
      · simp at hy
      · cases a with
        | none => simp at hy
        | some ad => simp at hy; subst hy; simp [pb] at hb; omega)
    have hperm2 : ys.Perm (s.ws.filter is) := hys.trans (hperm.filter is)
    refine ⟨fun n ia iN iC i w' => ∃ k : Nat, i = k ∧ k ≤ ys.length ∧ n = ys.length - k ∧ iN = ((ys.take k).map Wt.id).length ∧ Own (Enc.int .i64) 3 w3.heap.size w' ia iC ((ys.take k).map Wt.id) ∧ Ch [] w3 w',
      ⟨_, 0, rfl, by omega, rfl, rfl, Own.nil _ _ _ _, Ch.refl _ _⟩, ?_⟩
    rintro n dead w4 ia iN iC i ⟨k, rfl, hk, rfl, rfl, hown4, hc4⟩
    unfold line_Line_sorted.L1
    rw [← hylen]
    refine br_dec (fun hlt => ?_) fun hge => ?_
    · have hlt : k < ys.length := by omega
      obtain ⟨x, hxk⟩ : ∃ x, ys[k]? = some x := ⟨ys[k], by simp [hlt]⟩
      have hxe : ys[k] = x := by have h := hxk; rw [List.getElem?_eq_getElem hlt] at h; exact Option.some.inj h
      obtain ⟨ab, ao, rfl, hcell⟩ := (hc4.slr hsl (.inr (by simp))) k x hxk
      refine ⟨by omega, by omega, ?_⟩
      simp only [okP_some, pb_some, po_some, toNat_nat]
      refine ⟨_, hcell 0 _ rfl, _, hcell 1 _ rfl, _, hcell 2 _ rfl, _, hcell 3 _ rfl, ?_⟩
      refine newBlk_row fun b5 w5 hb5 hs5 hr5 hc5 => ?_
      refine storeC_row hr5 (by simp) fun w6 hr6 hc6 hs6 => ?_
      refine ⟨_, hr6.cell rfl, ?_⟩
      refine newBlk_row fun b7 w7 hb7 hs7 hr7 hc7 => ?_
      have z4 := hc4.size
      have hc47 : Ch [] w4 w7 := (hc5.trans hc6 (by simp; omega)).trans0 hc7
      obtain ⟨a8, c8, w8, hrun, hown8, hc8, _⟩ := append_new (P := Try.prog) (ty := 29) elI (hc4.trans0 hc47) (hc47.own hown4 (.inr (by simp))) (ys := [x.id]) (c2 := 1) (SlR.one (E := Enc.int .i64) (x := x.id) hr7) (by simp [maxLen]; omega) (by simp; omega) (by have := hc47.size; omega) (Nat.le_refl _)
      refine ⟨a8, _, c8, w8, hrun, ?_⟩
      have hk1 : IntKind.wrap .i64 ((k : Int) + 1) = ((k + 1 : Nat) : Int) := by rw [← Int.natCast_succ, wrap64_nat (by omega)]
      have htk : (ys.take (k + 1)).map Wt.id = (ys.take k).map Wt.id ++ [x.id] := by rw [List.take_succ_eq_append_getElem hlt, hxe]; simp
      exact ⟨ys.length - (k + 1), by omega, k + 1, hk1, by omega, rfl, by rw [htk], by rw [htk]; exact hown8, hc8⟩
    · have hke : k = ys.length := by omega
      subst hke
      rw [List.take_of_length_le (Nat.le_refl _)] at hown4 ⊢
      have z3 := hc03.size
      exact ⟨ys, hperm2, hpw, ia, iC, rfl, hown4.mono z3, hc03.trans0 hc4⟩
  · refine .inr ⟨_, _, w3, hrun, ?_⟩
    have hdl := hit3.done_le
    simp only [List.length_append, List.length_cons, List.length_nil] at hdl
    refine ⟨_, _, _, _, _, hent, ?_⟩
    refine newBlk_row fun b4 w4 hb4 hs4 hr4 hc4 => ?_
    refine storeC_row hr4 (by simp) fun w5 hr5 hc5 hs5 => ?_
    refine ⟨_, hr5.cell rfl, _, hr5.cell rfl, _, hr5.cell rfl, _, hr5.cell rfl, ?_⟩
    have hc03 : Ch [] w w3 := hc2.trans hc3 (by simp; omega)
    have hc35 : Ch [] w3 w5 := hc4.trans hc5 (by simp; omega)
    obtain ⟨f, args, w6, hcall, hret⟩ := hf x w5 (hc03.trans0 hc35)
    refine ⟨f, args, w6, hcall, ?_⟩
    refine Calls.ret hret ?_
    rintro v w7 ⟨rfl, hc7⟩
    refine ⟨_, rfl, ?_⟩
    have hr7 := hc7.row hr5 (by simp)
    have hc37 := hc35.trans0 hc7
    have hit7 := hit3.ch hc37 (by simp) (by simp)
    have hown3 := hc3.own hown2 (by
      rcases hown2.base with h | h
      · exact .inl h
      · exact .inr (by simp; omega))
    have hown7 := hc37.own hown3 (.inr (by simp))
    have hc07 := hc03.trans0 hc37
    refine br_intro (fun his => ?_) fun his => ?_
    · refine ⟨_, hr7.cell rfl, _, hr7.cell rfl, _, hr7.cell rfl, _, hr7.cell rfl, ?_⟩
      refine newBlk_row fun b8 w8 hb8 hs8 hr8 hc8 => ?_
      have hlen : (done.filter is).length ≤ 1000000 := by
        have := List.length_filter_le is done
        omega
      obtain ⟨a9, c9, w9, hrun, hown9, hc9, hd9⟩ := append_new (P := Try.prog) (ty := 152) elW (hc07.trans0 hc8) (hc8.own hown7 (.inr (by simp))) (ys := [x]) (c2 := 1) (SlR.one (E := encW) (x := x) hr8) (by simp [maxLen]; omega) (by simp; omega) (by have := hc37.size; omega) (by omega)
      refine ⟨a9, _, c9, w9, hrun, ?_⟩
      have hflt : (done ++ [x]).filter is = done.filter is ++ [x] := by rw [List.filter_append]; simp [his]
      refine ⟨s.ws.length - (done.length + 1), by omega, done ++ [x], by rw [hflt], by simp, ?_, by rw [hflt]; exact hown9, hc9⟩
      refine (hit7.ch hc8 (by simp) (by simp)).ch hd9 ?_ ?_
      · rcases hown2.base with h | h
        · simp [h]
        · cases a with
          | none => simp
          | some ad => simp [pb] at h ⊢; omega
      · rcases hown2.base with h | h
        · simp [h]
        · cases a with
          | none => simp
          | some ad => simp [pb] at h ⊢; omega
    · have hflt : (done ++ [x]).filter is = done.filter is := by rw [List.filter_append]; simp [his]
      exact ⟨s.ws.length - (done.length + 1), by omega, done ++ [x], by rw [hflt], by simp, hit7, by rw [hflt]; exact hown7, hc07⟩
end Go.Proofs.Ytecacohkkdhphaa
