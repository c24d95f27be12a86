/- Lines of those who wait: the document's expiring. Conditions: none. -/
import Derived.Test.YtecacohkkdhphaaLnG
namespace Go.Proofs.Ytecacohkkdhphaa
open Go.Vc
set_option linter.unusedSimpArgs false
set_option linter.unusedVariables false
set_option maxRecDepth 100000

def expd (now : Int) (x : Wt) : Prop := x.until_ ≠ -1 ∧ x.until_ ≤ now
theorem mem_gone {s : LS} {now : Int} {x : Wt} : x ∈ s.gone now ↔ x ∈ s.ws ∧ expd now x := by
  unfold LS.gone expd; rw [List.mem_filter]; simp

/-- The place of the one that is gone first, of the first k. -/
def Best (now : Int) (o : List Wt) (k : Nat) (at_ : Int) : Prop :=
  (at_ = -1 ∧ ∀ j y, j < k → o[j]? = some y → ¬ expd now y) ∨
  ∃ (j : Nat) (x : Wt), at_ = j ∧ j < k ∧ o[j]? = some x ∧ expd now x ∧ ∀ j' y, j' < k → o[j']? = some y → expd now y → x.until_ < y.until_ ∨ (x.until_ = y.until_ ∧ j ≤ j')

theorem ordE_nil : ordE [] = [] := by simp [ordE]
theorem ref_Expire_any {w : World} {a : Option Addr} {c : Nat} {s : LS} (hs : RefL w a c s.ws) (hok : s.ok) (hm : s.ws.length ≤ 10000) (now : Int) :
    Calls Try.prog 43 #[.agg #[.slice a s.ws.length c, .int .i64 s.now], .int .i64 now] w (Ret fun v w' => Ch [] w w' ∧
      (s.late now → v = .tuple #[.agg #[.slice a s.ws.length c, .int .i64 s.now], .slice none 0 0, .int .i64 144]) ∧
      (¬ s.late now → ∃ a' c' a2 c2, v = .tuple #[.agg #[.slice a' (s.stay now).ws.length c', .int .i64 now], .slice a2 ((ordE (s.gone now)).map Wt.id).length c2, .int .i64 0] ∧
        RefL w' a' c' (s.stay now).ws ∧ NewOr w a s.ws a' (s.stay now).ws ∧ SlR (Enc.int .i64) w' a2 ((ordE (s.gone now)).map Wt.id) ∧ ((ordE (s.gone now)).map Wt.id = [] ∨ w.heap.size ≤ pb a2))) := by
  apply purlinref14_Expire.calls
  unfold purlinref14_Expire.F
  refine newBlk_row fun b w1 hb hs1 hr1 hc1 => newBlk_row fun b1 w2 hb1 hs2 hr2 hc2 => ?_
  have hc02 := hc1.trans0 hc2
  have r1 := hc2.row hr1 (by simp)
  have hnb : b1 ≠ b := by omega
  refine ⟨_, r1.cell rfl, ?_⟩
  have early : s.late now → ∀ w', Ch [b1] w2 w' → Ch [] w w' ∧
      (s.late now → Value.tuple #[.agg #[.slice a s.ws.length c, .int .i64 s.now], .slice none 0 0, .int .i64 144] = .tuple #[.agg #[.slice a s.ws.length c, .int .i64 s.now], .slice none 0 0, .int .i64 144]) ∧
      (¬ s.late now → ∃ a' c' a2 c2, Value.tuple #[.agg #[.slice a s.ws.length c, .int .i64 s.now], .slice none 0 0, .int .i64 144] = .tuple #[.agg #[.slice a' (s.stay now).ws.length c', .int .i64 now], .slice a2 ((ordE (s.gone now)).map Wt.id).length c2, .int .i64 0] ∧
        RefL w' a' c' (s.stay now).ws ∧ NewOr w a s.ws a' (s.stay now).ws ∧ SlR (Enc.int .i64) w' a2 ((ordE (s.gone now)).map Wt.id) ∧ ((ordE (s.gone now)).map Wt.id = [] ∨ w.heap.size ≤ pb a2)) := fun hl w' hc' =>
    ⟨hc02.trans hc' (by simp; omega), fun _ => rfl, fun hn => absurd hl hn⟩
  refine br_dec (fun h => retL r1 hr2 (early (.inl h))) fun h1 => br_dec (fun h => retL r1 hr2 (early (.inr h))) fun h2 => ?_
  have hnl : ¬ s.late now := by unfold LS.late; omega
  refine newBlk_row fun b2 w5 hb2 hs5 hr5 hc5 => ?_
  have hc05 := hc02.trans0 hc5
  refine storeC_row (hc5.row r1 (by simp)) (by simp) fun w6 hr6 hc6 hs6 => ?_
  have hr6 : Row w6 b 77 [.slice a s.ws.length c, .int .i64 now] := hr6
  have z0 : w.heap.size = b := by omega
  have hc06 : Ch [] w w6 := hc05.trans hc6 (by simp; omega)
  obtain ⟨total, htot⟩ : ∃ total, total = (ordE (s.gone now)).map Wt.id := ⟨_, rfl⟩
  rw [← htot]
  have hsd : s.ws = [] ∨ pb a < b := by
    rcases hs.1.lt with h | h
    · exact .inl h
    · exact .inr (by omega)
  refine ⟨fun n oa oN oc w' => ∃ (s' : LS) (outs : List Int) (a' : Option Addr) (c' : Nat) (x y : Value), s'.ok ∧ s'.ws.length ≤ 10000 ∧ outs ++ (ordE (s'.gone now)).map Wt.id = total ∧ s'.came = s.came ∧ (s'.stay now) = (s.stay now) ∧ outs.length ≤ 10000 ∧
      Row w' b 77 [.slice a' s'.ws.length c', .int .i64 now] ∧ Row w' b1 77 [x, y] ∧ RefL w' a' c' s'.ws ∧ oN = outs.length ∧ Own (Enc.int .i64) 3 b2 w' oa oc outs ∧ (s'.ws = [] ∨ (pb a' ∉ (oa.map (·.block)).toList ∧ pb a' ≠ b ∧ pb a' ≠ b1)) ∧ n = s'.ws.length ∧ NewOr w a s.ws a' s'.ws ∧ Ch [] w w',
    ⟨_, s, [], a, c, _, _, hok, hm, by rw [htot]; rfl, rfl, rfl, by simp, hr6, hc6.row (hc5.row hr2 (by simp)) (by simpa using hnb), hs.ch hc06, rfl, hc6.own (Own.row (E := Enc.int .i64) (xs := []) hr5 (Nat.le_refl _) (by simp)) (.inr (by simp; omega)), by
      rcases hsd with h | h
      · exact .inl h
      · exact .inr ⟨by simp; omega, by omega, by omega⟩, rfl, .inr (.inl ⟨rfl, rfl⟩), hc06⟩, ?_⟩
  rintro n dead w7 oa oN oc ⟨s', outs, a', c', x', y', hok', hm', hout, hcame', hstay', hol, hr7, hr17, hs7, rfl, ho7, hd7, rfl, hno7, hc07⟩
  unfold purlinref14_Expire.L0
  refine ⟨_, _, _, hr7.cell rfl, ?_⟩
  refine Calls.ret (ref_Order_any hs7.1 hm') ?_
  rintro v w8 ⟨a8, c8, rfl, ho8, hc8⟩
  rw [ordP_eq hok'] at ho8 ⊢
  refine ⟨_, _, _, rfl, ?_⟩
  obtain ⟨o, hoo⟩ : ∃ o, o = ordL s'.ws := ⟨_, rfl⟩
  have hoperm : o.Perm s'.ws := by rw [hoo]; exact ordL_perm _
  have hosort : o.Pairwise (fun a b => leO a b = true) := by rw [hoo]; exact ordL_sorted _
  rw [← hoo] at ho8 ⊢
  have holen : o.length ≤ 10000 := by rw [hoperm.length_eq]; exact hm'
  refine ⟨fun n at_ i w' => ∃ k : Nat, i = k ∧ k ≤ o.length ∧ n = o.length - k ∧ Best now o k at_ ∧ Ch [] w8 w', ⟨_, 0, rfl, by omega, rfl, .inl ⟨rfl, by omega⟩, Ch.refl _ _⟩, ?_⟩
  rintro n dead w9 at_ i ⟨k, rfl, hk, rfl, hbest, hc9⟩
  unfold purlinref14_Expire.L1
  refine br_dec (fun hlt => ?_) fun hge => ?_
  · have hlt : k < o.length := by omega
    refine drawC_intro fun w10 hc10 _ => ?_
    have hc810 := hc9.trans0 hc10
    obtain ⟨x, hxk⟩ : ∃ x, o[k]? = some x := ⟨o[k], by simp [hlt]⟩
    refine ⟨by omega, by omega, ?_⟩
    have hsl := (hc810.own ho8 (.inr (by simp))).slr
    obtain ⟨ab, ao, rfl, hcell⟩ := hsl k x hxk
    simp only [okP_some, pb_some, po_some, toNat_nat]
    have hk1 : IntKind.wrap .i64 ((k : Int) + 1) = ((k + 1 : Nat) : Int) := by rw [← Int.natCast_succ, wrap64_nat (by omega)]
    have nxt : ∀ at2, Best now o (k + 1) at2 → ∃ m, m < o.length - k ∧ ∃ k_1 : Nat, IntKind.wrap .i64 ((k : Int) + 1) = k_1 ∧ k_1 ≤ o.length ∧ m = o.length - k_1 ∧ Best now o k_1 at2 ∧ Ch [] w8 w10 := fun at2 hb => ⟨o.length - (k + 1), by omega, k + 1, hk1, by omega, rfl, hb, hc810⟩
    have keep : ¬ expd now x → Best now o (k + 1) at_ := fun hne => by
      rcases hbest with ⟨rfl, hno⟩ | ⟨j, z, rfl, hj, hz, hez, hmin⟩
      · refine .inl ⟨rfl, fun j y hj hy => ?_⟩
        by_cases hjk : j = k
        · subst hjk; rw [hxk] at hy; rw [← Option.some.inj hy]; exact hne
        · exact hno j y (by omega) hy
      · refine .inr ⟨j, z, rfl, by omega, hz, hez, fun j' y hj' hy hey => ?_⟩
        by_cases hjk : j' = k
        · subst hjk; rw [hxk] at hy; rw [← Option.some.inj hy] at hey; exact absurd hey hne
        · exact hmin j' y (by omega) hy hey
    refine ⟨_, hcell 2 _ rfl, ?_⟩
    refine br_intro (fun hu => ?_) fun hu => ?_
    · have hu : x.until_ ≠ -1 := by simpa using hu
      refine ⟨by omega, by omega, _, hcell 2 _ rfl, ?_⟩
      refine br_dec (fun hle => ?_) fun hle => ?_
      · have hex : expd now x := ⟨hu, hle⟩
        rcases hbest with ⟨rfl, hno⟩ | ⟨j, z, rfl, hj, hz, hez, hmin⟩
        · refine br_dec (fun _ => nxt _ (.inr ⟨k, x, rfl, by omega, hxk, hex, fun j' y hj' hy hey => ?_⟩)) fun h => by omega
          by_cases hjk : j' = k
          · subst hjk; rw [hxk] at hy; rw [← Option.some.inj hy]; exact .inr ⟨rfl, Nat.le_refl _⟩
          · exact absurd hey (hno j' y (by omega) hy)
        · refine br_dec (fun h => by omega) fun _ => ?_
          refine ⟨by omega, by omega, _, hcell 2 _ rfl, by omega, by omega, ?_⟩
          obtain ⟨ab2, ao2, he2, hcell2⟩ := hsl j z hz
          simp only [Option.some.injEq, Addr.mk.injEq, and_true] at he2
          obtain ⟨rfl, rfl⟩ := he2
          refine ⟨_, hcell2 2 _ rfl, ?_⟩
          refine br_dec (fun hl => nxt _ (.inr ⟨k, x, rfl, by omega, hxk, hex, fun j' y hj' hy hey => ?_⟩)) fun hl => nxt _ (.inr ⟨j, z, rfl, by omega, hz, hez, fun j' y hj' hy hey => ?_⟩)
          · by_cases hjk : j' = k
            · subst hjk; rw [hxk] at hy; rw [← Option.some.inj hy]; exact .inr ⟨rfl, Nat.le_refl _⟩
            · rcases hmin j' y (by omega) hy hey with h | h
              · exact .inl (by omega)
              · exact .inl (by omega)
          · by_cases hjk : j' = k
            · subst hjk; rw [hxk] at hy; rw [← Option.some.inj hy]
              rcases Int.lt_or_eq_of_le (by omega : z.until_ ≤ x.until_) with h | h
              · exact .inl h
              · exact .inr ⟨h, by omega⟩
            · exact hmin j' y (by omega) hy hey
      · exact nxt _ (keep (fun h => hle h.2))
    · have hu : x.until_ = -1 := by simpa using hu
      exact nxt _ (keep (fun h => h.1 hu))
  · have hke : k = o.length := by omega
    subst hke
    have hc79 := hc8.trans0 hc9
    have hr9 := hc79.row hr7 (by simp)
    have hr19 := hc79.row hr17 (by simp)
    have hc09 := hc07.trans0 hc79
    rcases hbest with ⟨rfl, hno⟩ | ⟨j, x, rfl, hj, hxj, hex, hmin⟩
    · refine br_dec (fun _ => ?_) fun h => by omega
      have hgn : s'.gone now = [] := by
        rw [List.eq_nil_iff_forall_not_mem]
        intro y hy
        obtain ⟨h1, h2⟩ := mem_gone.1 hy
        obtain ⟨i, hi⟩ := List.getElem?_of_mem (hoperm.mem_iff.2 h1)
        exact hno i y (List.getElem?_eq_some_iff.1 hi).1 hi h2
      have hst := gone_nil hgn
      have houts : outs = total := by rw [hgn, ordE_nil] at hout; simpa using hout
      have hwss : s'.ws = (s.stay now).ws := by rw [← hstay', hst]
      refine retL hr9 hr19 fun w11 hc11 => ?_
      have hc011 : Ch [] w w11 := hc09.trans hc11 (by simp; omega)
      have hc711 : Ch [b1] w7 w11 := (hc79.mono (D2 := [b1]) (by simp)).trans hc11 (by simp)
      refine ⟨hc011, fun h => absurd h hnl, fun _ => ⟨a', c', oa, oc, by rw [← hwss, ← houts], ?_, by rw [← hwss]; exact hno7, ?_, ?_⟩⟩
      · rw [← hwss]
        refine ⟨hc11.slr (hc79.slr hs7.1 (.inr (by simp))) ?_, hs7.2⟩
        rcases hd7 with h | h
        · exact .inl h
        · exact .inr (by simpa using h.2.2)
      · rw [← houts]
        have hob := ho7.base
        exact (hc711.own ho7 (by rcases hob with h | h; exact .inl h; exact .inr (by simp; omega))).slr
      · rw [← houts]
        rcases ho7.base with h | h
        · left; subst h; exact Own.none_nil ho7
        · right; omega
    · refine br_dec (fun h => by omega) fun _ => ?_
      have hxmem : x ∈ s'.gone now := mem_gone.2 ⟨hoperm.mem_iff.1 (List.mem_of_getElem? hxj), hex⟩
      have hxmin : ∀ y ∈ s'.gone now, leE x y = true := by
        intro y hy
        obtain ⟨h1, h2⟩ := mem_gone.1 hy
        obtain ⟨j', hj'⟩ := List.getElem?_of_mem (hoperm.mem_iff.2 h1)
        have hlt' := (List.getElem?_eq_some_iff.1 hj').1
        rcases hmin j' y hlt' hj' h2 with h | ⟨h, hle⟩
        · simp [leE, h]
        · rcases Nat.lt_or_eq_of_le hle with hl | he
          · have := List.pairwise_iff_getElem.1 hosort j j' hj hlt' hl
            rw [List.getElem?_eq_getElem hj] at hxj
            rw [List.getElem?_eq_getElem hlt'] at hj'
            rw [Option.some.inj hxj, Option.some.inj hj'] at this
            simp [leE, h, this]
          · subst he
            rw [hxj] at hj'
            rw [← Option.some.inj hj']
            simp [leE, leO]
      have hcons := ordE_cons hok' hxmem hxmin
      have hsl9 := (hc9.own ho8 (.inr (by simp))).slr
      refine ⟨by omega, by omega, ?_⟩
      obtain ⟨ab, ao, rfl, hcell⟩ := hsl9 j x hxj
      simp only [okP_some, pb_some, po_some, toNat_nat]
      refine ⟨_, hcell 0 _ rfl, ?_⟩
      refine newBlk_row fun b3 w12 hb3 hs12 hr12 hc12 => ?_
      have z7 := hc07.size
      have z79 := hc79.size
      have hob := ho7.base
      have hol7 := ho7.lt
      have hc712 := hc79.trans0 hc12
      have hb1lt := hr17.lt
      have z712 := hc712.size
      obtain ⟨a13, c13, w13, hrun13, ho13, hc13, hd13⟩ := append_new (P := Try.prog) (ty := 29) elI (hc09.trans0 hc12) (hc712.own ho7 (.inr (by simp))) (ys := [x.id]) (c2 := 1) (SlR.one (E := Enc.int .i64) (x := x.id) hr12) (by simp [maxLen]; omega) (by simp; omega) (by omega) (by omega)
      refine ⟨a13, _, c13, w13, hrun13, ?_⟩
      have hnoa : ∀ k : Nat, k < b2 → k ∉ (oa.map (·.block)).toList := fun k hk => by
        rcases hob with h | h
        · simp [h]
        · cases oa with
          | none => simp
          | some ad => simp [pb] at h ⊢; omega
      have hr13 := hd13.row (hc12.row hr9 (by simp)) (hnoa b (by omega))
      have hr113 := hd13.row (hc12.row hr19 (by simp)) (hnoa b1 (by omega))
      have hob8 := ho8.base
      simp only [pb_some] at hob8
      have hab : ab ∉ (oa.map (·.block)).toList := by
        cases oa with
        | none => simp
        | some ad =>
          simp [pb] at hol7 ⊢
          rcases hob8 with h | h
          · cases h
          · omega
      have hsl13 : SlR encR w13 (some ⟨ab, ao, none⟩) o := hd13.slr (hc12.slr hsl9 (.inr (by simp))) (.inr hab)
      have hs13 : RefL w13 a' c' s'.ws := ⟨hd13.slr (hc712.slr hs7.1 (.inr (by simp))) (by rcases hd7 with h | h; exact .inl h; exact .inr h.1), hs7.2⟩
      refine drawS_intro [] fun w14 hc14 _ => ?_
      have hr14 := hc14.row hr13 (by simp)
      have hr114 := hc14.row hr113 (by simp)
      refine ⟨_, _, _, hr14.cell rfl, by omega, by omega, ?_⟩
      obtain ⟨ab2, ao2, he2, hcell2⟩ := (hc14.slr hsl13 (.inr (by simp))) j x hxj
      simp only [Option.some.injEq, Addr.mk.injEq, and_true] at he2
      obtain ⟨rfl, rfl⟩ := he2
      refine ⟨_, hcell2 0 _ rfl, _, _, _, fun w9 h9 => (h9.row hr14 (by simp)).cell rfl, ?_⟩
      have hs14 := hs13.ch hc14
      refine Calls.ret (ref_find_any x.id hs14.1 (by omega)) ?_
      rintro v w15 ⟨rfl, rfl⟩
      obtain ⟨k', y, hk', hyk', hyid⟩ := findW_pos (ws := s'.ws) (id := x.id) ⟨x, (mem_gone.1 hxmem).1, rfl⟩
      rw [hk']
      refine ⟨_, rfl, Ch.refl _ _, ?_⟩
      have hlt' := (List.getElem?_eq_some_iff.1 hyk').1
      refine Calls.ret (ref_without_any hs14.1 hs14.2 (by omega) hlt') ?_
      rintro v w16 ⟨a16, c16, rfl, ho16, hc16⟩
      have hwl : (s'.without x.id).ws.length + 1 = s'.ws.length := by
        have := without_eq hok' hyk'
        rw [hyid] at this
        rw [← this]
        simp; omega
      rw [without_eq hok' hyk', hyid] at ho16 ⊢
      refine ⟨_, _, _, rfl, ?_⟩
      refine storeC_row (hc16.row hr14 (by simp)) (by simp) fun w17 hr17' hc17 hs17 => ?_
      have hc017 : Ch [] w w17 := ((hc13.trans0 hc14).trans0 hc16).trans hc17 (by simp; omega)
      have hob16 := ho16.base
      have z13 := hd13.size
      have z14 := hc14.size
      have ho17 := hc17.own ho16 (by rcases hob16 with h | h; exact .inl h; exact .inr (by simp; omega))
      have hob13 := ho13.base
      have hlt13 := ho13.lt
      have hout17 := hc17.own (hc16.own (hc14.own ho13 (.inr (by simp))) (.inr (by simp))) (by rcases hob13 with h | h; exact .inl h; exact .inr (by simp; omega))
      rw [hcons] at hout
      have htl : total.length ≤ 10000 := by
        rw [htot, List.length_map, (ordE_perm _).length_eq]
        have := List.length_filter_le (fun x : Wt => decide (x.until_ ≠ -1) && decide (x.until_ ≤ now)) s.ws
        show (s.ws.filter _).length ≤ _
        omega
      refine ⟨(s'.without x.id).ws.length, by omega, s'.without x.id, outs ++ [x.id], a16, c16, _, _, hok'.without _, by omega, by rw [← hout]; simp, hcame', by rw [stay_without hok' hxmem]; exact hstay', ?_, hr17', hc17.row (hc16.row hr114 (by simp)) (by simpa using hnb), ⟨ho17.slr, ho17.cap⟩, rfl, hout17, ?_, rfl, NewOr.own ho17 (by omega), hc017⟩
      · have : (outs ++ [x.id]).length ≤ total.length := by rw [← hout]; simp
        omega
      · cases a16 with
        | none => exact .inl (Own.none_nil ho17)
        | some ad16 =>
          right
          rcases hob16 with h | h
          · cases h
          · refine ⟨?_, by simp [pb] at h ⊢; omega, by simp [pb] at h ⊢; omega⟩
            cases a13 with
            | none => simp
            | some ad13 =>
              simp [pb] at h hlt13 ⊢
              omega
end Go.Proofs.Ytecacohkkdhphaa
