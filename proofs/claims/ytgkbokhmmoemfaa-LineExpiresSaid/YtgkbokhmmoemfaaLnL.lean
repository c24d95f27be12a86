/- Lines of those who wait: LineDrops returns true. Conditions: none. -/
import Derived.Test.YtgkbokhmmoemfaaLnK
namespace Go.Proofs.Ytgkbokhmmoemfaa
open Go.Vc
set_option linter.unusedSimpArgs false
set_option linter.unusedVariables false
set_option maxRecDepth 100000

theorem has_list {s : LS} {id : Int} : s.has id = s.list.contains id := by
  rw [Bool.eq_iff_iff, LS.has_iff, List.contains_iff_mem]
  unfold LS.list
  rw [List.mem_map]
  constructor
  · rintro ⟨x, hx, he⟩; exact ⟨x, (ordL_perm s.ws).mem_iff.2 hx, he⟩
  · rintro ⟨x, hx, he⟩; exact ⟨x, (ordL_perm s.ws).mem_iff.1 hx, he⟩
/-- Who comes at the least priority comes last. -/
theorem list_add0 {s : LS} (hok : s.ok) {id until_ : Int} (he : s.err id 0 until_ = 0) : (s.add id 0 until_).list = s.list ++ [id] := by
  have h2 := hok.add he
  have : ordL (s.add id 0 until_).ws = ordL s.ws ++ [⟨id, 0, until_, s.came + 1⟩] := by
    refine (ordL_eq h2.came_ ((ordL_perm s.ws).append_right _) ?_).symm
    rw [List.pairwise_append]
    refine ⟨ordL_sorted _, by simp, fun a ha b hb => ?_⟩
    simp at hb; subst hb
    have := hok.bnd a ((ordL_perm s.ws).mem_iff.1 ha)
    simp [leO]; omega
  unfold LS.list
  rw [this]; simp

theorem LineDrops_any {w : World} {a : Option Addr} {c : Nat} {xs : List LCall} (id : Int) (hx : SlR encC w a xs) :
    Calls Try.prog 11 #[.slice a xs.length c, .int .i64 id] w (Ret fun v w' => v = .bool true ∧ Ch [] w w') := by
  apply purlinlaw14_LineDrops.calls
  unfold purlinlaw14_LineDrops.F
  refine Calls.ret (made_any hx) ?_
  rintro v w1 ⟨b, mb, s, rfl, hl1, hf, hc1, hb, hmb⟩
  refine ⟨_, rfl, ?_⟩
  refine Calls.ret awake14_any ?_
  rintro v w2 ⟨rfl, hc2⟩
  refine ⟨_, rfl, br_f rfl (br_f rfl ?_)⟩
  have Dm : ∀ y ∈ [mb], y ∈ ([] : List Nat) ∨ w.heap.size ≤ y := by intro y hy; right; simp at hy; omega
  have D : ∀ y ∈ [b, mb], y ∈ ([] : List Nat) ∨ w.heap.size ≤ y := by intro y hy; right; simp at hy; omega
  have hl2 := hl1.ch hc2 (by simp) (by simp)
  have hsl := hf.len
  have sc0 := hf.c0
  have scn := hf.cn
  refine Calls.ret (line_List_any sortO hl2 hf.ok (by omega)) ?_
  rintro v w3 ⟨a3, c3, rfl, ho3, hc3⟩
  refine ⟨_, _, _, rfl, ?_⟩
  have hl3 := hl2.ch hc3 (by simp) (by simp)
  have hc03 := (hc1.trans0 hc2).trans0 hc3
  obtain ⟨L, hL⟩ : ∃ L, L = s.list := ⟨_, rfl⟩
  have hLl : L.length ≤ 60 := by rw [hL, list_len]; exact hsl
  rw [← hL] at ho3 ⊢
  have hlt3 := hl3.lt
  refine newBlk_row fun b4 w4 hb4 hs4 hr4 hc4 => ?_
  have z03 := hc03.size
  refine ⟨fun n here ra rN rc i w' => ∃ (k : Nat), i = k ∧ k ≤ L.length ∧ n = L.length - k ∧ here = (L.take k).contains id ∧ rN = ((L.take k).filter fun x => x != id).length ∧ Own (Enc.int .i64) 3 w3.heap.size w' ra rc ((L.take k).filter fun x => x != id) ∧ Ch [] w3 w',
    ⟨_, 0, rfl, by omega, rfl, rfl, rfl, Own.row (E := Enc.int .i64) (xs := []) hr4 (by omega) (by simp), hc4⟩, ?_⟩
  rintro n dead w5 here ra rN rc i ⟨k, rfl, hk, rfl, rfl, rfl, ho5, hc5⟩
  unfold purlinlaw14_LineDrops.L0
  refine br_dec (fun hlt => ?_) fun hge => ?_
  · have hlt : k < L.length := by omega
    obtain ⟨x, hxk⟩ : ∃ x, L[k]? = some x := ⟨L[k], by simp [hlt]⟩
    have hxe : L[k] = x := by have h := hxk; rw [List.getElem?_eq_getElem hlt] at h; exact Option.some.inj h
    have htk : L.take (k + 1) = L.take k ++ [x] := by rw [List.take_succ_eq_append_getElem hlt, hxe]
    have hk1 : IntKind.wrap .i64 ((k : Int) + 1) = ((k + 1 : Nat) : Int) := by rw [← Int.natCast_succ, wrap64_nat (by omega)]
    refine ⟨by omega, by omega, ?_⟩
    obtain ⟨ab, ao, rfl, hcell⟩ := (hc5.own ho3 (.inr (by simp))).slr k x hxk
    simp only [okP_some, pb_some, po_some, toNat_nat]
    refine ⟨_, hcell 0 _ rfl, ?_⟩
    refine br_intro (fun he => ?_) fun he => ?_
    · have he : x = id := by simpa using he
      have hflt : ((L.take (k + 1)).filter fun x => x != id) = (L.take k).filter fun x => x != id := by rw [htk, List.filter_append]; simp [he]
      refine ⟨L.length - (k + 1), by omega, k + 1, hk1, by omega, rfl, ?_, by rw [hflt], by rw [hflt]; exact ho5, hc5⟩
      rw [htk]; simp [he]
    · have he : x ≠ id := by simpa using he
      refine ⟨by omega, by omega, _, hcell 0 _ rfl, ?_⟩
      refine newBlk_row fun b6 w6 hb6 hs6 hr6 hc6 => ?_
      have hflt : ((L.take (k + 1)).filter fun x => x != id) = ((L.take k).filter fun x => x != id) ++ [x] := by rw [htk, List.filter_append]; simp [he]
      have hlen := List.length_filter_le (fun x => x != id) (L.take k)
      have htl : (L.take k).length ≤ 60 := by simp; omega
      obtain ⟨a7, c7, w7, hrun7, ho7, hc7, _⟩ := append_new (P := Try.prog) (ty := 56) elI (hc5.trans0 hc6) (hc6.own ho5 (.inr (by simp))) (ys := [x]) (c2 := 1) (SlR.one (E := Enc.int .i64) (x := x) hr6) (by simp [maxLen]; omega) (by simp; omega) (by have := (hc5.trans0 hc6).size; omega) (Nat.le_refl _)
      refine ⟨a7, _, c7, w7, hrun7, L.length - (k + 1), by omega, k + 1, hk1, by omega, rfl, ?_, by rw [hflt], by rw [hflt]; exact ho7, hc7⟩
      rw [htk]; simp [Ne.symm he]
  · have hke : k = L.length := by omega
    subst hke
    rw [List.take_of_length_le (Nat.le_refl _)] at ho5 ⊢
    have hl5 := hl3.ch hc5 (by simp) (by simp)
    have hhas : s.has id = L.contains id := by rw [hL]; exact has_list
    have hrest : (s.without id).list = L.filter fun x => x != id := by rw [hL]; exact list_without hf.ok id
    have hf1 := hf.without id
    refine Calls.ret (line_Drop_any hl5 id) ?_
    rintro v w8 ⟨rfl, hl8, hc8⟩
    rw [hhas]
    refine ⟨_, rfl, br_f (by cases L.contains id <;> rfl) ?_⟩
    obtain ⟨rest, hrs⟩ : ∃ rest, rest = L.filter fun x => x != id := ⟨_, rfl⟩
    rw [← hrs] at hrest ho5 ⊢
    have hrl : rest.length ≤ 60 := by rw [hrs]; have := List.length_filter_le (fun x => x != id) L; omega
    have hob5 := ho5.base
    have hmlt : mb < w3.heap.size := hlt3.2
    have hblt : b < w3.heap.size := hlt3.1
    have nr : ra = none ∨ pb ra ∉ [b, mb] := by
      rcases hob5 with h | h
      · exact .inl h
      · right; simp; omega
    have nrm : ra = none ∨ pb ra ∉ [mb] := by
      rcases hob5 with h | h
      · exact .inl h
      · right; simp; omega
    have ho8 := hc8.own ho5 nrm
    have hc08 : Ch [] w w8 := (hc03.trans0 hc5).trans hc8 Dm
    have k0 : ∀ (w12 : World), LineRep w12 b mb (s.without id) → Own (Enc.int .i64) 3 w3.heap.size w12 ra rc rest → Ch [] w w12 → w3.heap.size ≤ w12.heap.size →
        purlinlaw14_LineDrops.K0 id (fun v w' => v = .bool true ∧ Ch [] w w') (some ⟨b, 0, none⟩) (L.contains id) ra rest.length rc false w12 := by
      intro w12 hl12 ho12 hc12 z12
      unfold purlinlaw14_LineDrops.K0
      refine br_f rfl (br_intro (fun hh => ⟨rfl, hc12⟩) fun hh => ?_)
      have hin : L.contains id = true := by simpa using hh
      obtain ⟨y, hy, hyid⟩ := LS.has_iff.1 (hhas.trans hin)
      have hyb := hf.ok.bnd y hy
      have e0 : (s.without id).err id 0 (-1) = 0 := by
        unfold LS.err
        rw [if_neg (by omega), if_neg (by omega), if_neg (by omega), if_neg (by rw [has_without]; simp)]
      refine newBlk_row fun b13 w13 hb13 hs13 hr13 hc13 => ?_
      have hl13 := hl12.ch hc13 (by simp) (by simp)
      have s1c0 : 0 ≤ (s.without id).came := hf1.c0
      have s1cn := hf1.cn
      refine Calls.ret (line_Put_any hl13 hf1.ok s1c0 (by omega) id 0 (-1)) ?_
      rintro v w14 ⟨rfl, hl14, hc14⟩
      rw [e0]
      refine ⟨_, rfl, ?_⟩
      have hput : (s.without id).put id 0 (-1) = (s.without id).add id 0 (-1) := by unfold LS.put; rw [if_pos e0]
      rw [hput] at hl14
      have hl2nd : ((s.without id).add id 0 (-1)).list = rest ++ [id] := by rw [list_add0 hf1.ok e0, hrest]
      have hf2 : ((s.without id).add id 0 (-1)).fit 61 := hput ▸ hf1.put id 0 (-1)
      have ho14 := hc14.own (hc13.own ho12 (.inr (by simp))) nr
      have hblt13 : b ≠ b13 ∧ mb ≠ b13 := by omega
      have hcr14 := hc14.row hr13 (by simp; omega)
      have hn13 : Own (Enc.int .i64) 3 w12.heap.size w14 (some ⟨b13, 0, none⟩) 0 [] := Own.row (E := Enc.int .i64) (xs := []) hcr14 (by omega) (by simp)
      have hc014 : Ch [] w w14 := (hc12.trans0 hc13).trans hc14 D
      have z014 := hc14.size
      obtain ⟨a15, c15, w15, hrun15, ho15, hc15, hd15⟩ := append_new (P := Try.prog) (ty := 56) elI (w0 := w12) (D := [b, mb]) ((hc13.mono (D2 := [b, mb]) (by simp)).trans hc14 (by simp)) hn13 (c2 := rc) ho14.slr (by simp [maxLen]; omega) (by simp; omega) (by omega) (Nat.le_refl _)
      refine ⟨a15, _, c15, w15, hrun15, ?_⟩
      simp only [List.nil_append] at ho15 ⊢
      have hc1415 : Ch [] w14 w15 ∨ True := .inr trivial
      refine newBlk_row fun b16 w16 hb16 hs16 hr16 hc16 => ?_
      obtain ⟨a17, c17, w17, hrun17, ho17, hc17, hd17⟩ := append_new (P := Try.prog) (ty := 56) elI (w0 := w12) (D := [b, mb]) (hc15.trans0 hc16) (hc16.own ho15 (.inr (by simp))) (ys := [id]) (c2 := 1) (SlR.one (E := Enc.int .i64) (x := id) hr16) (by simp [maxLen]; omega) (by simp; omega) (by have := hd15.size; omega) (Nat.le_refl _)
      refine ⟨a17, _, c17, w17, hrun17, br_t rfl ?_⟩
      have lt12 := hl12.lt
      have nd15 : b ∉ ((some (⟨b13, 0, none⟩ : Addr)).map (·.block)).toList ∧ mb ∉ ((some (⟨b13, 0, none⟩ : Addr)).map (·.block)).toList := by simp; omega
      have nd17 : b ∉ (a15.map (·.block)).toList ∧ mb ∉ (a15.map (·.block)).toList := by
        rcases ho15.base with h | h
        · simp [h]
        · cases a15 with
          | none => simp
          | some ad => simp [pb] at h ⊢; omega
      have hl17 := ((hl14.ch hd15 nd15.1 nd15.2).ch hc16 (by simp) (by simp)).ch hd17 nd17.1 nd17.2
      have hc017 : Ch [] w w17 := hc12.trans hc17 D
      refine Calls.ret (line_List_any sortO hl17 hf2.ok (by have := hf2.len; omega)) ?_
      rintro v w18 ⟨a18, c18, rfl, ho18, hc18⟩
      rw [hl2nd] at ho18 ⊢
      refine ⟨_, _, _, rfl, ?_⟩
      refine Calls.ret (same_any ho18.slr (hc18.own ho17 (.inr (by simp))).slr (by simp; omega)) ?_
      rintro v w19 ⟨rfl, hc19⟩
      refine ⟨_, rfl, br_t (by simp) ?_⟩
      have hl19 := (hl17.ch hc18 (by simp) (by simp)).ch hc19 (by simp) (by simp)
      refine Calls.ret (line_Put_any hl19 hf2.ok hf2.c0 (by have := hf2.cn; omega) id 0 (-1)) ?_
      rintro v w20 ⟨rfl, hl20, hc20⟩
      have e1 : ((s.without id).add id 0 (-1)).err id 0 (-1) = 141 := by
        have hh : ((s.without id).add id 0 (-1)).has id = true := LS.has_iff.2 ⟨⟨id, 0, -1, (s.without id).came + 1⟩, by simp [LS.add], rfl⟩
        unfold LS.err
        rw [if_neg (by omega), if_neg (by omega), if_neg (by omega), if_pos hh]
      rw [e1]
      exact ⟨_, rfl, rfl, ((hc017.trans0 hc18).trans0 hc19).trans hc20 D⟩
    have z5 := hc5.size
    have z8 := hc8.size
    have same : ∀ {w10 : World} {a10 : Option Addr} {c10 : Nat}, Own (Enc.int .i64) 3 w8.heap.size w10 a10 c10 (s.without id).list → Ch [] w8 w10 →
        Calls Try.prog 34 #[.slice a10 (s.without id).list.length c10, .slice ra rest.length rc] w10 (fun e w11 => ∃ t62 : Bool, e = .returned (.bool t62) ∧ purlinlaw14_LineDrops.K0 id (fun v w' => v = .bool true ∧ Ch [] w w') (some ⟨b, 0, none⟩) (L.contains id) ra rest.length rc (!t62) w11) := by
      intro w10 a10 c10 ho10 hc10
      refine Calls.ret (same_any ho10.slr (hc10.own ho8 (.inr (by simp))).slr (by rw [hrest]; omega)) ?_
      rintro v w11 ⟨rfl, hc11⟩
      refine ⟨_, rfl, ?_⟩
      have : (!decide ((s.without id).list = rest)) = false := by rw [hrest]; simp
      rw [this]
      have hc811 := hc10.trans0 hc11
      exact k0 w11 (hl8.ch hc811 (by simp) (by simp)) (hc811.own ho8 (.inr (by simp))) (hc08.trans0 hc811) (by have := hc811.size; omega)
    refine br_intro (fun hh => ?_) fun hh => ?_
    · have hin : L.contains id = false := by simpa using hh
      refine br_f (by rw [hin]; rfl) ?_
      refine Calls.ret (line_List_any sortO hl8 hf1.ok (by have := hf1.len; omega)) ?_
      rintro v w10 ⟨a10, c10, rfl, ho10, hc10⟩
      exact ⟨_, _, _, rfl, same ho10 hc10⟩
    · refine Calls.ret (line_List_any sortO hl8 hf1.ok (by have := hf1.len; omega)) ?_
      rintro v w10 ⟨a10, c10, rfl, ho10, hc10⟩
      exact ⟨_, _, _, rfl, same ho10 hc10⟩
end Go.Proofs.Ytgkbokhmmoemfaa
