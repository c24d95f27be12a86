/- The engine: a schedule that was checked stands for every order that may be drawn. Conditions: none. -/
import Derived.Test.YtllpiaedljoejaaGreatDoorVcDraw
import Derived.Laws.World
namespace Go.Vc
set_option linter.unusedSimpArgs false
set_option linter.unusedVariables false

section
variable {P : Program} {lo : List Oper} {S : Sp} {K : Fr → World → Prop}

theorem ready_of_mask {L : Nat} {listed : Array Bool} (h : Lst lo.toArray L listed) (i : Nat) : readyM lo L i = true ↔ i ∈ Region.ready .any lo.toArray listed := by
  rw [mem_ready]
  unfold readyM
  cases hi : lo[i]? with
  | none => simp [hi]
  | some o =>
    have hlt : i < lo.length := (List.getElem?_eq_some_iff.1 hi).1
    have h0 := h.2 i (by simpa using hlt)
    have dep : ∀ k, (Nat.blt k lo.length && L.testBit k) = listed.getD k false := by
      intro k
      by_cases hk : k < lo.length
      · have h1 := h.2 k (by simpa using hk)
        have hb : Nat.blt k lo.length = true := by simp [Nat.blt, hk]; omega
        have hks : k < listed.size := by rw [h.1]; simpa using hk
        rw [hb, Bool.true_and, ← h1]
        simp [Array.getD, hks]
      · have hb : Nat.blt k lo.length = false := by
          cases hh : Nat.blt k lo.length with
          | false => rfl
          | true => simp [Nat.blt] at hh; omega
        have hks : ¬ k < listed.size := by rw [h.1]; simpa using hk
        rw [hb, Bool.false_and]
        simp [Array.getD, hks]
    simp only [Bool.and_eq_true, Bool.not_eq_true', List.all_eq_true, Array.all_eq_true_iff_forall_mem, Bool.or_eq_true, dep]
    constructor
    · rintro ⟨ha, hb⟩
      refine ⟨by rw [h0]; exact ha, o, by simpa using hi, fun e he hbnd => ?_⟩
      rcases hb e he with h | h
      · rw [h] at hbnd; cases hbnd
      · exact h
    · rintro ⟨ha, o', ho', hall⟩
      have : o' = o := by
        have : lo[i]? = some o' := by simpa using ho'
        rw [hi] at this; exact (Option.some.inj this).symm
      subst this
      refine ⟨by rw [← h0]; exact ha, fun e he => ?_⟩
      cases hbnd : Region.binds .any e with
      | true => exact .inr (hall e he hbnd)
      | false => exact .inl rfl

theorem readyL_mem {L : Nat} {listed : Array Bool} (h : Lst lo.toArray L listed) (i : Nat) : i ∈ readyL lo L ↔ i ∈ Region.ready .any lo.toArray listed := by
  rw [← ready_of_mask h]
  unfold readyL
  simp only [List.mem_filter, List.mem_range]
  constructor
  · exact fun h => h.2
  · intro hr
    refine ⟨?_, hr⟩
    unfold readyM at hr
    cases hi : lo[i]? with
    | none => simp [hi] at hr
    | some o => exact (List.getElem?_eq_some_iff.1 hi).1

theorem nil_of_mem {a b : List Nat} (h : ∀ i, i ∈ a ↔ i ∈ b) : a = [] ↔ b = [] := by
  constructor <;> intro e <;> subst e
  · cases b with
    | nil => rfl
    | cons x r => exact absurd ((h x).2 (by simp)) (by simp)
  · cases a with
    | nil => rfl
    | cons x r => exact absurd ((h x).1 (by simp)) (by simp)

theorem free_of_mask {L i : Nat} {listed : Array Bool} {oi : Oper} (h : Lst lo.toArray L listed) (hi : lo[i]? = some oi) (hf : freeM lo L i = true) :
    ∀ j oj, lo.toArray[j]? = some oj → j ≠ i → listed.getD j true = false → (∀ e ∈ oj.after, Region.binds .any e = true → e.on ≠ i) → oi.apart lo.toArray oj = true := by
  intro j oj hj hji hun hno
  have hj' : lo[j]? = some oj := by simpa using hj
  have hlt : j < lo.length := (List.getElem?_eq_some_iff.1 hj').1
  unfold freeM at hf
  simp only [hi, List.all_eq_true, List.mem_range] at hf
  have := hf j hlt
  simp only [hj', Bool.or_eq_true, beq_iff_eq] at this
  rcases this with (h1 | h1) | h1 | h1
  · exact (hji h1).elim
  · have := h.2 j (by simpa using hlt)
    rw [hun] at this; rw [h1] at this; cases this
  · unfold waitsOn at h1
    rw [Array.any_eq_true'] at h1
    obtain ⟨e, he, hb⟩ := h1
    simp only [Bool.and_eq_true, beq_iff_eq] at hb
    exact (hno e he hb.1 hb.2).elim
  · exact h1

theorem step_opR {i : Nat} {o : Oper} {l : Fr} {w : World} {Kn : Fr → World → Prop} (hi : lo[i]? = some o) (hS : sP S w)
    (h : withGuard lo o l (fun l => stepVC P lo o l w (fun v w' => sA S w' (Kn (put l o.dst v) w'))) (fun l => Kn (put l o.dst undef) w)) :
    opR P lo.toArray S i l w Kn := by
  have hi' : lo.toArray[i]? = some o := by simpa using hi
  unfold opR
  simp only [hi']
  rcases guard_sound h with ⟨hw, h⟩ | ⟨hw, h⟩
  · simp only [hw, if_true]
    rcases step_sound h with ⟨hs, v, hr, hk⟩ | ⟨hs, hd⟩
    · simp only [hs, if_true]; exact ⟨v, hr, (sA_iff.1 hk).2⟩
    · simp only [hs, Bool.false_eq_true, if_false]
      exact Done.mono (fun v w' hk => sA_iff.1 hk) hd
  · simp only [hw, Bool.false_eq_true, if_false]; exact h

theorem sched_sound {T : Nat} (hsel : ∀ (j : Nat) (o : Oper) cs b, lo.toArray[j]? = some o → o.op ≠ .select cs b) : ∀ (s : Sched) (S : Sp) (f L : Nat) (listed : Array Bool) (l : Fr) (w : World), Late T S → Lst lo.toArray L listed → sP S w → runS P lo S s l w K →
    (okS P lo T f s L none = true → anyR P lo.toArray S K f listed l w) ∧
    (∀ rest f', f = f' + 1 → okS P lo T f s L (some rest) = true → ∀ i ∈ rest, opR P lo.toArray (cut S i) i l w (fun l' w' => anyR P lo.toArray (cut S i) K f' (listed.setIfInBounds i true) l' w'))
  | .done, S, f, L, listed, l, w, hT, hL, hS, hr => by
    refine ⟨fun hok => ?_, fun rest f' _ hok => by simp [okS] at hok⟩
    have h0 : readyL lo L = [] := by cases f <;> simpa [okS] using hok
    have h1 : Region.ready .any lo.toArray listed = [] := (nil_of_mem fun i => readyL_mem hL i).1 h0
    cases f with
    | zero => exact ⟨h1, hr⟩
    | succ f => exact ⟨fun _ => hr, fun i hi => by rw [h1] at hi; cases hi⟩
  | .still i fl U nx, S, f, L, listed, l, w, hT, hL, hS, hr => by
    refine ⟨fun hok => ?_, fun rest f' _ hok => by cases f <;> simp [okS] at hok⟩
    cases f with
    | zero => simp [okS] at hok
    | succ f =>
    simp only [okS, Bool.and_eq_true] at hok
    obtain ⟨⟨⟨⟨hrd, hst⟩, hfr⟩, hu⟩, hnx⟩ := hok
    simp only [runS] at hr
    cases hi : lo[i]? with
    | none => simp [hi] at hr
    | some oi =>
    simp only [hi] at hr
    have hi' : lo.toArray[i]? = some oi := by simpa using hi
    have hst' : stillO P oi = true := by simpa [stillAt, hi] using hst
    have hrdy := (ready_of_mask hL i).1 hrd
    have next : ∀ v, runS P lo S nx (put l oi.dst v) w K → anyR P lo.toArray S K f (listed.setIfInBounds i true) (put l oi.dst v) w :=
      fun v hv => (sched_sound hsel nx S f (L ||| 2 ^ i) _ _ w hT hL.set hS hv).1 hnx
    simp only [okU, Bool.and_eq_true, List.all_eq_true, List.mem_range, Bool.not_eq_true'] at hu
    obtain ⟨⟨hUi, hTi⟩, hall⟩ := hu
    have hci : cut S i = S := hT i hTi
    have hInv : ∀ (ls : Array Bool) (j : Nat) (oj : Oper), (ls.size = lo.length ∧ (∀ k, k < lo.length → ls.getD k true = true → U.testBit k = true) ∧ (∀ k, k < lo.length → L.testBit k = true → ls.getD k true = true)) →
        lo.toArray[j]? = some oj → j ≠ i → j ∈ Region.ready .any lo.toArray ls →
        (fl = true ∨ stillO P oj = true) ∧ cut S j = S ∧ ((ls.setIfInBounds j true).size = lo.length ∧ (∀ k, k < lo.length → (ls.setIfInBounds j true).getD k true = true → U.testBit k = true) ∧ (∀ k, k < lo.length → L.testBit k = true → (ls.setIfInBounds j true).getD k true = true)) := by
      intro ls j oj ⟨hsz, hin, hout⟩ hj hji hjr
      obtain ⟨hjun, oj', hoj', hdep⟩ := mem_ready.1 hjr
      have hj' : lo[j]? = some oj := by simpa using hj
      have hlt : j < lo.length := (List.getElem?_eq_some_iff.1 hj').1
      have he : oj' = oj := by rw [hj] at hoj'; exact (Option.some.inj hoj').symm
      subst he
      obtain ⟨⟨h1, h2⟩, h3⟩ := hall j hlt
      have hUj : U.testBit j = true := by
        cases hb : U.testBit j with
        | true => rfl
        | false =>
          have hrU : readyM lo U j = true := by
            unfold readyM
            simp only [hj', hb, Bool.not_false, Bool.true_and, Array.all_eq_true_iff_forall_mem, Bool.or_eq_true, Bool.and_eq_true]
            intro e hee
            cases hbnd : Region.binds .any e with
            | false => exact .inl rfl
            | true =>
              right
              have hd := hdep e hee hbnd
              have hon : e.on < lo.length := by
                rcases Nat.lt_or_ge e.on lo.length with h | h
                · exact h
                · rw [Array.getD, dif_neg (by omega)] at hd; cases hd
              refine ⟨by simp [Nat.blt]; omega, hin _ hon ?_⟩
              have hs2 : e.on < ls.size := by omega
              simp [Array.getD, hs2] at hd ⊢
              exact hd
          rw [hrU] at h3
          simp at h3
          exact (hji h3).elim
      have hLj : L.testBit j = false := by
        cases hb : L.testBit j with
        | false => rfl
        | true => rw [hout j hlt hb] at hjun; cases hjun
      rw [hUj, hLj] at h2
      simp [hj'] at h2
      refine ⟨h2.2, hT j h2.1, by simpa using hsz, fun k hk hk1 => ?_, fun k hk hk1 => ?_⟩
      · by_cases hjk : j = k
        · subst hjk; exact hUj
        · rw [getD_set_ne true hjk] at hk1; exact hin k hk hk1
      · by_cases hjk : j = k
        · subst hjk; have : j < ls.size := by omega
          simp [this]
        · rw [getD_set_ne true hjk]; exact hout k hk hk1
    have h00 : listed.size = lo.length ∧ (∀ k, k < lo.length → listed.getD k true = true → U.testBit k = true) ∧ (∀ k, k < lo.length → L.testBit k = true → listed.getD k true = true) := by
      refine ⟨by simpa using hL.1, fun k hk hk1 => ?_, fun k hk hk1 => ?_⟩
      · have := hL.2 k (by simpa using hk)
        rw [hk1] at this
        obtain ⟨⟨h1, _⟩, _⟩ := hall k hk
        rw [← this] at h1
        simpa using h1
      · rw [hL.2 k (by simpa using hk)]; exact hk1
    cases fl with
    | true =>
      have hy : ∃ v, Yld P lo.toArray (sP S) oi v l ∧ runS P lo S nx (put l oi.dst v) w K := by
        rcases guard_sound hr with ⟨hw, h⟩ | ⟨hw, h⟩
        · obtain ⟨v, hv, hk⟩ := still_sound h
          exact ⟨v, .inl ⟨hw, fun w' hw' => hv w' ⟨fun a x hx => hx w' hw', fun s x hx => hx w' hw'⟩⟩, hk⟩
        · exact ⟨undef, .inr ⟨hw, rfl⟩, h⟩
      obtain ⟨v, hy, hk⟩ := hy
      exact take_first (C := sP S) hi' hst' hsel _ (fun ls j oj hin hj hji hjr => by
        obtain ⟨_, h2, h3⟩ := hInv ls j oj hin hj hji hjr
        exact ⟨.inr fun _ h => h, h2, h3⟩) hci f listed l w (free_of_mask hL hi hfr) h00 hS hrdy hy (next v hk)
    | false =>
      have hy : ∃ v, Yld P lo.toArray (fun w' => w' = w) oi v l ∧ runS P lo S nx (put l oi.dst v) w K := by
        rcases guard_sound hr with ⟨hw, h⟩ | ⟨hw, h⟩
        · obtain ⟨v, hv, hk⟩ := still_sound h
          exact ⟨v, .inl ⟨hw, fun w' hw' => by subst hw'; exact hv w' ⟨fun a x hx => hx, fun s x hx => hx⟩⟩, hk⟩
        · exact ⟨undef, .inr ⟨hw, rfl⟩, h⟩
      obtain ⟨v, hy, hk⟩ := hy
      exact take_first (C := fun w' => w' = w) hi' hst' hsel _ (fun ls j oj hin hj hji hjr => by
        obtain ⟨h1, h2, h3⟩ := hInv ls j oj hin hj hji hjr
        exact ⟨.inl (h1.resolve_left (by decide)), h2, h3⟩) hci f listed l w (free_of_mask hL hi hfr) h00 rfl hrdy hy (next v hk)
  | .eff i nx, S, f, L, listed, l, w, hT, hL, hS, hr => by
    simp only [runS] at hr
    cases hi : lo[i]? with
    | none => simp [hi] at hr
    | some o =>
    simp only [hi] at hr
    have one : ∀ f', okS P lo T f' nx (L ||| 2 ^ i) none = true → opR P lo.toArray (cut S i) i l w (fun l' w' => anyR P lo.toArray (cut S i) K f' (listed.setIfInBounds i true) l' w') := fun f' hnx => by
      have h2 := step_opR (S := cut S i) (Kn := fun l' w' => sP (cut S i) w' ∧ runS P lo (cut S i) nx l' w' K) hi (sP_cut hS) (by
        have e2 : (fun l => stepVC P lo o l w (fun v w' => sA (cut S i) w' (runS P lo (cut S i) nx (put l o.dst v) w' K))) = (fun l => stepVC P lo o l w (fun v w' => sA (cut S i) w' (sP (cut S i) w' ∧ runS P lo (cut S i) nx (put l o.dst v) w' K))) := by
          funext l
          have e : (fun v w' => sA (cut S i) w' (runS P lo (cut S i) nx (put l o.dst v) w' K)) = (fun v w' => sA (cut S i) w' (sP (cut S i) w' ∧ runS P lo (cut S i) nx (put l o.dst v) w' K)) := by
            funext v w'; apply propext; rw [sA_iff, sA_iff]; exact ⟨fun ⟨a, b⟩ => ⟨a, a, b⟩, fun ⟨a, _, b⟩ => ⟨a, b⟩⟩
          rw [e]
        have e3 : (fun l => runS P lo (cut S i) nx (put l o.dst undef) w K) = (fun l => sP (cut S i) w ∧ runS P lo (cut S i) nx (put l o.dst undef) w K) := by
          funext l; apply propext; exact ⟨fun b => ⟨sP_cut hS, b⟩, fun b => b.2⟩
        rw [← e2, ← e3]
        exact hr)
      exact opR_mono (fun l' w' ⟨hs', hr'⟩ => (sched_sound hsel nx (cut S i) f' (L ||| 2 ^ i) _ l' w' (hT.cut i) hL.set hs' hr').1 hnx) h2
    refine ⟨fun hok => ?_, fun rest f' hf hok => ?_⟩
    · cases f with
      | zero => simp [okS] at hok
      | succ f =>
      simp only [okS, Option.getD_none, Bool.and_eq_true, beq_iff_eq] at hok
      have hmem := fun j => readyL_mem hL j
      rw [hok.1] at hmem
      refine ⟨fun h0 => ?_, fun j hj => ?_⟩
      · have := (hmem i).1 (by simp); rw [h0] at this; cases this
      · have : j = i := by simpa using (hmem j).2 hj
        subst this
        exact one f hok.2
    · subst hf
      simp only [okS, Option.getD_some, Bool.and_eq_true, beq_iff_eq] at hok
      rw [hok.1]
      intro j hj
      have : j = i := by simpa using hj
      subst this
      exact one f' hok.2
  | .alt i nx more, S, f, L, listed, l, w, hT, hL, hS, hr => by
    simp only [runS] at hr
    obtain ⟨hr, hmore⟩ := hr
    cases hi : lo[i]? with
    | none => simp [hi] at hr
    | some o =>
    simp only [hi] at hr
    have one : ∀ f', okS P lo T f' nx (L ||| 2 ^ i) none = true → opR P lo.toArray (cut S i) i l w (fun l' w' => anyR P lo.toArray (cut S i) K f' (listed.setIfInBounds i true) l' w') := fun f' hnx => by
      have h2 := step_opR (S := cut S i) (Kn := fun l' w' => sP (cut S i) w' ∧ runS P lo (cut S i) nx l' w' K) hi (sP_cut hS) (by
        have e2 : (fun l => stepVC P lo o l w (fun v w' => sA (cut S i) w' (runS P lo (cut S i) nx (put l o.dst v) w' K))) = (fun l => stepVC P lo o l w (fun v w' => sA (cut S i) w' (sP (cut S i) w' ∧ runS P lo (cut S i) nx (put l o.dst v) w' K))) := by
          funext l
          have e : (fun v w' => sA (cut S i) w' (runS P lo (cut S i) nx (put l o.dst v) w' K)) = (fun v w' => sA (cut S i) w' (sP (cut S i) w' ∧ runS P lo (cut S i) nx (put l o.dst v) w' K)) := by
            funext v w'; apply propext; rw [sA_iff, sA_iff]; exact ⟨fun ⟨a, b⟩ => ⟨a, a, b⟩, fun ⟨a, _, b⟩ => ⟨a, b⟩⟩
          rw [e]
        have e3 : (fun l => runS P lo (cut S i) nx (put l o.dst undef) w K) = (fun l => sP (cut S i) w ∧ runS P lo (cut S i) nx (put l o.dst undef) w K) := by
          funext l; apply propext; exact ⟨fun b => ⟨sP_cut hS, b⟩, fun b => b.2⟩
        rw [← e2, ← e3]
        exact hr)
      exact opR_mono (fun l' w' ⟨hs', hr'⟩ => (sched_sound hsel nx (cut S i) f' (L ||| 2 ^ i) _ l' w' (hT.cut i) hL.set hs' hr').1 hnx) h2
    refine ⟨fun hok => ?_, fun rest f' hf hok => ?_⟩
    · cases f with
      | zero => simp [okS] at hok
      | succ f =>
      simp only [okS, Option.getD_none] at hok
      cases hrl : readyL lo L with
      | nil => simp [hrl] at hok
      | cons j rest =>
      simp only [hrl, Bool.and_eq_true, beq_iff_eq] at hok
      obtain ⟨⟨hji, hnx⟩, hm⟩ := hok
      have hmem := fun j => readyL_mem hL j
      rw [hrl] at hmem
      refine ⟨fun h0 => ?_, fun k hk => ?_⟩
      · have := (hmem j).1 (by simp); rw [h0] at this; cases this
      · have hk2 := (hmem k).2 hk
        rcases List.mem_cons.1 hk2 with e | hk3
        · rw [e, hji]; exact one f hnx
        · exact (sched_sound hsel more S (f + 1) L listed l w hT hL hS hmore).2 rest f rfl hm k hk3
    · subst hf
      simp only [okS, Option.getD_some] at hok
      cases rest with
      | nil => simp at hok
      | cons j rest =>
      simp only [Bool.and_eq_true, beq_iff_eq] at hok
      obtain ⟨⟨hji, hnx⟩, hm⟩ := hok
      intro k hk
      rcases List.mem_cons.1 hk with e | hk3
      · rw [e, hji]; exact one f' hnx
      · exact (sched_sound hsel more S (f' + 1) L listed l w hT hL hS hmore).2 rest f' rfl hm k hk3

theorem Lst_zero : Lst lo.toArray 0 (Array.replicate lo.toArray.size false) := by
  refine ⟨by simp, fun j hj => ?_⟩
  have : j < lo.length := by simpa using hj
  simp [Array.getD, this]

/-- A region that draws, at a schedule that was checked. -/
theorem draw_sound {T : Nat} {Q : Exit → Act → World → Prop} {id : Nat} {s : Sched} {l : Fr} {w : World} (hm : P.follows .mixedOrders = true) (hn : Region.noSelect lo.toArray = true)
    (hok : okS P lo T lo.length s 0 none = true) (hT : Late T S) (hS : sP S w.drew) (h : runS P lo S s l w.drew K) (hK : ∀ l w, K l w → Q .normal (act l) w) :
    (Code.region id lo.toArray true).wp P Q (act l) w := by
  refine wp_region_any hm (wpAny_of_anyR hK _ S _ _ _ ?_)
  have := (sched_sound (fun j o cs b hj => Region.noSelect_spec hn j o cs b hj) s S lo.length 0 _ l w.drew hT Lst_zero hS h).1 hok
  simpa using this
end
end Go.Vc
