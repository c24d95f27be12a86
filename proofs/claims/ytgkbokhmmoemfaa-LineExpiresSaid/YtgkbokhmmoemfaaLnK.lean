/- Lines of those who wait: LineTakes and LinePlays return true. Conditions: none. -/
import Derived.Test.YtgkbokhmmoemfaaLnJ
import Derived.Test.YtgkbokhmmoemfaaLg14
namespace Go.Proofs.Ytgkbokhmmoemfaa
open Go.Vc
set_option linter.unusedSimpArgs false
set_option linter.unusedVariables false
set_option maxRecDepth 100000

theorem without_none {s : LS} {id : Int} (h : s.has id = false) : s.without id = s := by
  unfold LS.without
  have : s.ws.filter (fun x => x.id != id) = s.ws := List.filter_eq_self.2 (fun x hx => by
    simp
    intro he
    have : s.has id = true := LS.has_iff.2 ⟨x, hx, he⟩
    rw [h] at this; cases this)
  rw [this]
theorem has_without {s : LS} {id : Int} : (s.without id).has id = false := by
  cases h : (s.without id).has id with
  | false => rfl
  | true =>
    obtain ⟨x, hx, he⟩ := LS.has_iff.1 h
    have hx : x ∈ s.ws.filter (fun x => x.id != id) := hx
    have := (List.mem_filter.1 hx).2
    simp at this
    exact absurd he this
theorem ord_without {s : LS} (hok : s.ok) {id : Int} : ordL (s.without id).ws = (ordL s.ws).filter (fun x => x.id != id) := by
  refine (ordL_eq (hok.without id).came_ ?_ ((ordL_sorted s.ws).sublist List.filter_sublist)).symm
  exact (ordL_perm s.ws).filter _
theorem list_without {s : LS} (hok : s.ok) (id : Int) : (s.without id).list = s.list.filter (fun x => x != id) := by
  unfold LS.list
  rw [ord_without hok, List.filter_map]
  rfl
theorem list_nodup {s : LS} (hok : s.ok) : s.list.Nodup := ((ordL_perm s.ws).map Wt.id).nodup_iff.2 hok.ids
theorem taken_list {s : LS} (hok : s.ok) : s.taken.list = s.list.tail := by
  unfold LS.taken
  have hn := list_nodup hok
  cases hl : s.list with
  | nil => simp [hl]
  | cons x r =>
    simp only [List.head?_cons, List.tail_cons]
    rw [list_without hok, hl]
    rw [hl] at hn
    have := (List.nodup_cons.1 hn).1
    rw [List.filter_cons]
    simp only [bne_self_eq_false, Bool.false_eq_true, if_false]
    exact List.filter_eq_self.2 (fun y hy => by simp; rintro rfl; exact this hy)

theorem list_len (s : LS) : s.list.length = s.ws.length := by unfold LS.list; rw [List.length_map, (ordL_perm s.ws).length_eq]

theorem LineTakes_any {w : World} {a : Option Addr} {c : Nat} {xs : List LCall} (hx : SlR encC w a xs) :
    Calls Try.prog 10 #[.slice a xs.length c] w (Ret fun v w' => v = .bool true ∧ Ch [] w w') := by
  apply purlinlaw14_LineTakes.calls
  unfold purlinlaw14_LineTakes.F
  refine Calls.ret (made_any hx) ?_
  rintro v w1 ⟨b, mb, s, rfl, hl1, hf, hc1, hb, hmb⟩
  refine ⟨_, rfl, ?_⟩
  refine Calls.ret awake14_any ?_
  rintro v w2 ⟨rfl, hc2⟩
  refine ⟨_, rfl, br_f rfl (br_f rfl ?_)⟩
  have Dm : ∀ y ∈ [mb], y ∈ ([] : List Nat) ∨ w.heap.size ≤ y := by intro y hy; right; simp at hy; omega
  have hl2 := hl1.ch hc2 (by simp) (by simp)
  have hsl := hf.len
  refine Calls.ret (line_List_any sortO hl2 hf.ok (by omega)) ?_
  rintro v w3 ⟨a3, c3, rfl, ho3, hc3⟩
  refine ⟨_, _, _, rfl, ?_⟩
  have hl3 := hl2.ch hc3 (by simp) (by simp)
  have hc03 := (hc1.trans0 hc2).trans0 hc3
  obtain ⟨L, hL⟩ : ∃ L, L = s.list := ⟨_, rfl⟩
  have hLl : L.length ≤ 60 := by rw [hL, list_len]; exact hsl
  rw [← hL] at ho3 ⊢
  have hlt2 := hl2.lt
  have ho3b := ho3.base
  have n3 : a3 = none ∨ pb a3 ∉ [mb] := by
    rcases ho3b with h | h
    · exact .inl h
    · right; simp; omega
  refine ⟨fun n i w' => ∃ (k : Nat) (s' : LS), i = k ∧ k ≤ L.length ∧ n = L.length - k ∧ LineRep w' b mb s' ∧ s'.fit 60 ∧ s'.list = L.drop k ∧ Ch [mb] w3 w' ∧ Ch [] w w',
    ⟨_, 0, s, rfl, by omega, rfl, hl3, hf, by rw [hL]; rfl, Ch.refl _ _, hc03⟩, ?_⟩
  rintro n dead w4 i ⟨k, s', rfl, hk, rfl, hl4, hf4, hlist, hc4, hc04⟩
  unfold purlinlaw14_LineTakes.L0
  have hsl4 := hf4.len
  refine br_dec (fun hlt => ?_) fun hge => ?_
  · have hlt : k < L.length := by omega
    obtain ⟨x, hxk⟩ : ∃ x, L[k]? = some x := ⟨L[k], by simp [hlt]⟩
    have hxe : L[k] = x := by have h := hxk; rw [List.getElem?_eq_getElem hlt] at h; exact Option.some.inj h
    have hdrop : L.drop k = x :: L.drop (k + 1) := by rw [List.drop_eq_getElem_cons hlt, hxe]
    rw [hdrop] at hlist
    refine Calls.ret (line_First_any sortO hl4 hf4.ok (by omega)) ?_
    rintro v w5 ⟨rfl, hc5⟩
    rw [hlist]
    refine ⟨_, _, rfl, ?_⟩
    have hl5 := hl4.ch hc5 (by simp) (by simp)
    refine Calls.ret (line_Take_any sortO hl5 hf4.ok (by omega)) ?_
    rintro v w6 ⟨rfl, hl6, hc6⟩
    rw [hlist]
    refine ⟨_, _, rfl, br_f rfl (br_f rfl (br_f (by simp) ?_))⟩
    have hc36 : Ch [mb] w3 w6 := (hc4.trans0 hc5).trans hc6 (by simp)
    refine ⟨by omega, by omega, ?_⟩
    obtain ⟨ab, ao, rfl, hcell⟩ := (hc36.own ho3 n3).slr k x hxk
    simp only [okP_some, pb_some, po_some, toNat_nat]
    refine ⟨_, hcell 0 _ rfl, br_f (by simp) ?_⟩
    refine Calls.ret (line_Drop_any hl6 x) ?_
    rintro v w7 ⟨rfl, hl7, hc7⟩
    have ht : s'.taken = s'.without x := by unfold LS.taken; rw [hlist]; rfl
    have hno : s'.taken.has x = false := by rw [ht]; exact has_without
    rw [without_none hno] at hl7
    rw [hno]
    refine ⟨_, rfl, br_f (by simp) ?_⟩
    have hk1 : IntKind.wrap .i64 ((k : Int) + 1) = ((k + 1 : Nat) : Int) := by rw [← Int.natCast_succ, wrap64_nat (by omega)]
    refine ⟨L.length - (k + 1), by omega, k + 1, s'.taken, hk1, by omega, rfl, hl7, hf4.taken, ?_, hc36.trans hc7 (by simp), ((hc04.trans0 hc5).trans hc6 Dm).trans hc7 Dm⟩
    rw [taken_list hf4.ok, hlist]; rfl
  · have hke : k = L.length := by omega
    subst hke
    rw [List.drop_length] at hlist
    refine Calls.ret (line_Take_any sortO hl4 hf4.ok (by omega)) ?_
    rintro v w5 ⟨rfl, hl5, hc5⟩
    rw [hlist]
    refine ⟨_, _, rfl, br_t rfl ?_⟩
    have ht : s'.taken = s' := by unfold LS.taken; rw [hlist]; rfl
    rw [ht] at hl5
    refine Calls.ret (line_List_any sortO hl5 hf4.ok (by omega)) ?_
    rintro v w6 ⟨a6, c6, rfl, ho6, hc6⟩
    rw [hlist]
    exact ⟨_, _, _, rfl, rfl, (hc04.trans hc5 Dm).trans0 hc6⟩

theorem LinePlays_any {w : World} {a : Option Addr} {c : Nat} {xs : List LCall} (hx : SlR encC w a xs) :
    Calls Try.prog 9 #[.slice a xs.length c] w (Ret fun v w' => v = .bool true ∧ Ch [] w w') := by
  apply purlinlaw14_LinePlays.calls
  unfold purlinlaw14_LinePlays.F
  refine Calls.ret line_New_any ?_
  rintro v w1 ⟨lb, mb, rfl, hl1, hc1, hlb, hmb⟩
  refine ⟨_, rfl, ?_⟩
  have z1 := hc1.size
  have hlt1 := hl1.lt
  refine newBlk_row fun b w2 hb hs2 hr2 hc2 => storeC_row hr2 (by simp) fun w3 hr3 hc3 hs3 => ?_
  have hr3 : Row w3 b 65 [.slice none 0 0, .int .i64 0] := hr3
  refine Calls.ret awake14_any ?_
  rintro v w4 ⟨rfl, hc4⟩
  refine ⟨_, rfl, br_f rfl (br_f rfl ?_)⟩
  have hl4 := ((hl1.ch hc2 (by simp) (by simp)).ch hc3 (by simp; omega) (by simp; omega)).ch hc4 (by simp) (by simp)
  have hr4 := hc4.row hr3 (by simp)
  have hc04 : Ch [] w w4 := ((hc1.trans0 hc2).trans hc3 (by simp; omega)).trans0 hc4
  have D : ∀ y ∈ [lb, mb], y ∈ ([] : List Nat) ∨ w.heap.size ≤ y := by intro y hy; right; simp at hy; omega
  refine ⟨fun n i w' => ∃ (k : Nat) (s : LS) (a' : Option Addr) (c' : Nat), i = k ∧ k ≤ 60 ∧ n = 60 - k ∧ LineRep w' lb mb s ∧ s.fit k ∧ Row w' b 65 [.slice a' s.ws.length c', .int .i64 s.now] ∧ RefL w' a' c' s.ws ∧ Off a' s.ws [lb, mb, b] ∧ Ch [] w w',
    ⟨_, 0, LS.new, none, 0, rfl, by omega, rfl, hl4, LS.new_fit 0, hr4, ⟨SlR.nil _ _ _, Nat.le_refl _⟩, .inl rfl, hc04⟩, ?_⟩
  rintro n dead w5 i ⟨k, s, a', c', rfl, hk, rfl, hl5, hf5, hr5, hm5, hoff5, hc5⟩
  unfold purlinlaw14_LinePlays.L0
  refine br_dec (fun hlt => br_dec (fun hlt2 => ?_) fun _ => ⟨rfl, hc5⟩) fun _ => ⟨rfl, hc5⟩
  have hlt : k < xs.length := by omega
  have hlt2 : k < 60 := by omega
  obtain ⟨x, hxk⟩ : ∃ x, xs[k]? = some x := ⟨xs[k], by simp [hlt]⟩
  have hxlt : pb a < w.heap.size := by
    rcases hx.lt with h | h
    · subst h; simp at hxk
    · exact h
  have hblt := hr5.lt
  have hllt := hl5.lt
  have z5 := hc5.size
  have tailEq : ∀ {w9 : World} {q : Bool} {X Y : Prop}, (q = true) → Y → br (!q) X Y := fun h y => by subst h; exact y
  have hk1 : IntKind.wrap .i64 ((k : Int) + 1) = ((k + 1 : Nat) : Int) := by rw [← Int.natCast_succ, wrap64_nat (by omega)]
  refine drawS_intro [lb, mb] fun w6 hc6 _ => ?_
  have hc06 := hc5.trans0 hc6
  have hx6 := hc06.slr hx (.inr (by simp))
  have hr6 := hc6.row hr5 (by simp)
  have hl6 := hl5.ch hc6 (by simp) (by simp)
  have hm6 := hm5.ch hc6
  have z6 := hc06.size
  have sr : ∀ w9, Ch [lb, mb] w6 w9 → Row w9 b 65 [.slice a' s.ws.length c', .int .i64 s.now] := fun w9 h9 => h9.row hr6 (by simp; omega)
  have sx : ∀ w9, Ch [lb, mb] w6 w9 → SlR encC w9 a xs := fun w9 h9 => h9.slr hx6 (.inr (by simp; omega))
  refine ⟨by omega, by omega, ?_⟩
  obtain ⟨ab, ao, rfl, hcell⟩ := hx6 k x hxk
  simp only [okP_some, pb_some, po_some, toNat_nat]
  have sc : ∀ w9, Ch [lb, mb] w6 w9 → ∀ j v, (encC.f x)[j]? = some v → w9.cell? ⟨ab, ao + k * 4 + j, none⟩ = some v := fun w9 h9 j v hv => by
    obtain ⟨ab', ao', he, hc⟩ := sx w9 h9 k x hxk
    simp only [Option.some.injEq, Addr.mk.injEq, and_true] at he
    obtain ⟨rfl, rfl⟩ := he
    exact hc j v hv
  refine ⟨_, _, _, fun w9 h9 => (sr w9 h9).cell rfl, _, fun w9 h9 => (sr w9 h9).cell rfl, _, fun w9 h9 => sc w9 h9 0 _ rfl, _, fun w9 h9 => sc w9 h9 1 _ rfl, _, fun w9 h9 => sc w9 h9 2 _ rfl, _, fun w9 h9 => sc w9 h9 3 _ rfl, ?_⟩
  have hoff2 : Off a' s.ws [lb, mb] := by
    rcases hoff5 with h | h
    · exact .inl h
    · exact .inr fun y hy => h y (by simp at hy ⊢; omega)
  have hf6 := hf5.step x
  have fin : ∀ (w10 : World) (nB : Nat) (a9 : Option Addr) (c9 : Nat) (q : Bool), q = true → Row w10 nB 65 [.slice a9 (s.step x).ws.length c9, .int .i64 (s.step x).now] → w6.heap.size ≤ nB → Row w10 b 65 [.slice a' s.ws.length c', .int .i64 s.now] →
      LineRep w10 lb mb (s.step x) → RefL w10 a9 c9 (s.step x).ws → Off a9 (s.step x).ws [lb, mb, b] → Ch [] w w10 →
      purlinlaw14_LinePlays.K0 (fun v w' => v = .bool true ∧ Ch [] w w') (some ⟨lb, 0, none⟩) b k
        (fun x0 w9 => ∃ m, m < 60 - k ∧ ∃ (k : Nat) (s : LS) (a' : Option Addr) (c' : Nat), x0 = k ∧ k ≤ 60 ∧ m = 60 - k ∧ LineRep w9 lb mb s ∧ s.fit k ∧ Row w9 b 65 [.slice a' s.ws.length c', .int .i64 s.now] ∧ RefL w9 a' c' s.ws ∧ Off a' s.ws [lb, mb, b] ∧ Ch [] w w9)
        nB q w10 := by
    intro w10 nB a9 c9 q hq hrn hnB hrb hl10 hm10 hoff10 hc10
    subst hq
    unfold purlinlaw14_LinePlays.K0
    refine ⟨_, _, _, hrn.cell rfl, _, hrn.cell rfl, ?_⟩
    refine storeC_row hrb (by simp) fun w11 hr11 hc11 _ => ?_
    have hr11 : Row w11 b 65 [.slice a9 (s.step x).ws.length c9, .int .i64 (s.step x).now] := hr11
    have hbl : b ≠ lb ∧ b ≠ mb := by omega
    have hl11 := hl10.ch hc11 (by simp; omega) (by simp; omega)
    have hm11 : RefL w11 a9 c9 (s.step x).ws := by
      have h : Off a9 (s.step x).ws [b] := by
        rcases hoff10 with h | h
        · exact .inl h
        · exact .inr fun y hy => h y (by simp at hy ⊢; omega)
      exact h.refl hm10 hc11
    have hc011 : Ch [] w w11 := hc10.trans hc11 (by simp; omega)
    have hfl := hf6.len
    refine ⟨_, _, _, hr11.cell rfl, _, hr11.cell rfl, ?_⟩
    refine Calls.ret (ref_List_any hm11.1 hf6.ok (by omega)) ?_
    rintro v w12 ⟨a12, c12, rfl, ho12, hc12⟩
    refine ⟨_, _, _, rfl, ?_⟩
    have hl12 := hl11.ch hc12 (by simp) (by simp)
    refine Calls.ret (line_First_any sortO hl12 hf6.ok (by omega)) ?_
    rintro v w13 ⟨rfl, hc13⟩
    refine ⟨_, _, rfl, ?_⟩
    have hl13 := hl12.ch hc13 (by simp) (by simp)
    have hc1113 := hc12.trans0 hc13
    refine drawS_intro [] fun w14 hc14 _ => ?_
    have hc1114 := hc1113.trans0 hc14
    have hl14 := hl13.ch hc14 (by simp) (by simp)
    have hr14 := hc1114.row hr11 (by simp)
    refine br_f rfl ?_
    refine Calls.ret (line_List_any sortO hl14 hf6.ok (by omega)) ?_
    rintro v w15 ⟨a15, c15, rfl, ho15, hc15⟩
    refine ⟨_, _, _, rfl, hc15, ?_⟩
    have hlist : (s.step x).list.length ≤ 61 := by rw [list_len]; omega
    have hs12 := ((hc13.trans0 hc14).trans0 hc15).slr ho12.slr (.inr (by simp))
    refine Calls.ret (same_any ho15.slr hs12 (by omega)) ?_
    rintro v w16 ⟨rfl, hc16⟩
    have hc1416 := hc15.trans0 hc16
    refine ⟨_, rfl, hc1416, br_f (by simp) ?_⟩
    have hl16 := hl14.ch hc1416 (by simp) (by simp)
    have hs16 := hc16.slr hs12 (.inr (by simp))
    have hc016 := (hc011.trans0 hc1114).trans0 hc1416
    have nowEnd : ∃ t85 : Int, (∀ w9 : World, Ch [] w14 w9 → w9.cell? ⟨b, 1, none⟩ = some (.int .i64 t85)) ∧
        Calls Try.prog 35 #[.pointer (some ⟨lb, 0, none⟩)] w16 (fun e w19 => ∃ t83 : Int, e = .returned (.int .i64 t83) ∧
        Ch [] w14 w19 ∧ br (t83 != t85) (Value.bool false = .bool true ∧ Ch [] w w19) (∃ m, m < 60 - k ∧ ∃ (k_1 : Nat) (s : LS) (a' : Option Addr) (c' : Nat), IntKind.wrap .i64 ((k : Int) + 1) = k_1 ∧ k_1 ≤ 60 ∧ m = 60 - k_1 ∧ LineRep w19 lb mb s ∧ s.fit k_1 ∧ Row w19 b 65 [.slice a' s.ws.length c', .int .i64 s.now] ∧ RefL w19 a' c' s.ws ∧ Off a' s.ws [lb, mb, b] ∧ Ch [] w w19)) := by
      refine ⟨_, fun w9 h9 => (h9.row hr14 (by simp)).cell rfl, ?_⟩
      refine Calls.ret (line_Now_any hl16) ?_
      rintro v w17 ⟨rfl, rfl⟩
      refine ⟨_, rfl, hc1416, br_f (by simp) ?_⟩
      exact ⟨60 - (k + 1), by omega, k + 1, s.step x, a9, c9, hk1, by omega, rfl, hl16, hf6, hc1416.row hr14 (by simp), (hm11.ch hc1114).ch hc1416, hoff10, hc016⟩
    cases hL : (s.step x).list with
    | nil =>
      refine br_f rfl (br_f rfl (br_t rfl (br_f rfl nowEnd)))
    | cons y r =>
      rw [hL] at hs16
      refine br_f (by simp) (br_t rfl ⟨by omega, by simp, ?_⟩)
      obtain ⟨yb, yo, rfl, hcy⟩ := hs16 0 y rfl
      simp only [okP_some, pb_some, po_some]
      exact ⟨_, hcy 0 _ rfl, br_f (by simp) (br_f rfl nowEnd)⟩
  refine ⟨?_, ?_⟩
  · refine Calls.ret (does_any x hl6 hf5 hm6 hf5 (by omega) hoff2) ?_
    rintro v w7 ⟨a7, c7, q, rfl, hq, hl7, hm7, hn7, hc7⟩
    refine ⟨_, _, _, _, _, rfl, hc7, ?_⟩
    refine newBlk_row fun b1 w8 hb1 hs8 hr8 hc8 => ⟨hc7.trans0 hc8, ?_⟩
    refine storeC_row hr8 (by simp) fun w9 hr9 hc9 _ => ?_
    have z7 := hc7.size
    have hc79 : Ch [] w7 w9 := hc8.trans hc9 (by simp; omega)
    have hc69 : Ch [lb, mb] w6 w9 := hc7.trans0 hc79
    refine ⟨hc69, fin w9 b1 a7 c7 q (hq rfl) hr9 (by omega) (sr w9 hc69) (hl7.ch hc79 (by simp) (by simp)) (hm7.ch hc79) (hoff5.new hn7 (by intro y hy; simp at hy; have := hc6.size; omega)) (hc06.trans hc69 D)⟩
  · refine newBlk_row fun b1 w7 hb1 hs7 hr7 hc7 => ⟨hc7.mono (by simp), ?_⟩
    refine Calls.ret (does_any x (hl6.ch hc7 (by simp) (by simp)) hf5 (hm6.ch hc7) hf5 (by omega) hoff2) ?_
    rintro v w8 ⟨a8, c8, q, rfl, hq, hl8, hm8, hn8, hc8⟩
    have hc68 : Ch [lb, mb] w6 w8 := (hc7.mono (D2 := [lb, mb]) (by simp)).trans hc8 (by simp)
    refine ⟨_, _, _, _, _, rfl, hc68, ?_⟩
    have hlb7 := hl6.lt
    refine storeC_row (hc8.row hr7 (by simp; omega)) (by simp) fun w9 hr9 hc9 _ => ?_
    have hc69 : Ch [lb, mb] w6 w9 := hc68.trans hc9 (by simp; omega)
    have z67 := hc7.size
    have hoffn : Off a8 (s.step x).ws [lb, mb, b] := hoff5.new hn8 (by intro y hy; simp at hy; have := hc6.size; omega)
    have hm9 : RefL w9 a8 c8 (s.step x).ws := by
      refine ⟨hc9.slr hm8.1 ?_, hm8.2⟩
      rcases hm8.1.lt with h | h
      · exact .inl h
      · rcases hn8 with h' | ⟨h', h''⟩ | h'
        · exact .inl h'
        · rcases hm6.1.lt with h1 | h1
          · exact .inl (by rw [h'', h1])
          · right; simp; rw [h']; omega
        · right; simp; omega
    refine ⟨hc69, fin w9 b1 a8 c8 q (hq rfl) hr9 (by omega) (sr w9 hc69) (hl8.ch hc9 (by simp; omega) (by simp; omega)) hm9 hoffn (hc06.trans hc69 D)⟩
end Go.Proofs.Ytgkbokhmmoemfaa
