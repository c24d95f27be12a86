/- Processes: Order, Running. Conditions: none. -/
import Derived.Test.YtecacohkkdhphaaPrC
import Derived.Test.YtecacohkkdhphaaPro
import Derived.Test.YtecacohkkdhphaaLnB
import Derived.Test.YtecacohkkdhphaaShp
namespace Go.Proofs.Ytecacohkkdhphaa
open Go.Vc Go.Sort
set_option linter.unusedSimpArgs false
set_option linter.unusedVariables false
set_option maxRecDepth 100000

/-- How two that may run compare. -/
def cfPr (p q : Pr) : Int := orI (cmpI q.prio p.prio) (cmpI p.came q.came)
def lePr (p q : Pr) : Bool := decide (q.prio < p.prio) || (decide (p.prio = q.prio) && decide (p.came ≤ q.came))
theorem cfPr_lt (p q : Pr) : decide (cfPr p q < 0) = !lePr q p := cfO_lt ⟨0, p.prio, 0, p.came⟩ ⟨0, q.prio, 0, q.came⟩
def PT.at (t : PT) (i : Int) : Pr := t.l[i.toNat]?.getD default
def cfI (t : PT) (i j : Fin t.l.length) : Int := cfPr (t.at (i.val : Int)) (t.at (j.val : Int))
theorem swoP (t : PT) : SWO (ltOf (cfI t)) where
  irrefl x := by have := cfPr_lt (t.at (x.val : Int)) (t.at (x.val : Int)); unfold ltOf cfI; rw [this]; simp [lePr]
  trans x y z h1 h2 := by unfold ltOf cfI at *; rw [cfPr_lt] at *; simp [lePr] at *; omega
  ntrans x y z h1 h2 := by unfold ltOf cfI at *; rw [cfPr_lt] at *; simp [lePr] at *; omega
theorem gr_store {w w1 : World} {b o : Nat} {vs : List Value} (h : Gr w w1) (hb : w.heap.size ≤ b) : Gr w (w1.setCells b o vs) := by
  have hc := h.ch.trans (Ch.setCells w1 b o vs) (by simp; omega)
  obtain ⟨q, os, rfl⟩ := h
  have hd : ∀ (vs : List Value) (o : Nat) (w : World), (w.setCells b o vs).drawn = w.drawn := by
    intro vs
    induction vs with
    | nil => intro o w; rfl
    | cons v r ih => intro o w; rw [World.setCells, ih]; rfl
  refine ⟨q, ((Sort.grow (w.drewN q) os).setCells b o vs).heap.extract w.heap.size ((Sort.grow (w.drewN q) os).setCells b o vs).heap.size, ?_⟩
  have hsz := hc.size
  have hheap : ((Sort.grow (w.drewN q) os).setCells b o vs).heap = w.heap ++ ((Sort.grow (w.drewN q) os).setCells b o vs).heap.extract w.heap.size ((Sort.grow (w.drewN q) os).setCells b o vs).heap.size := by
    apply Array.ext_getElem?
    intro i
    by_cases hi : i < w.heap.size
    · rw [Array.getElem?_append_left hi]; exact hc.block i hi (by simp)
    · rw [Array.getElem?_append_right (by omega), Array.getElem?_extract]
      by_cases h2 : i < ((Sort.grow (w.drewN q) os).setCells b o vs).heap.size
      · rw [if_pos (by omega)]; congr 1; omega
      · rw [if_neg (by omega)]; exact Array.getElem?_eq_none (by omega)
  have e1 := hd vs o (Sort.grow (w.drewN q) os)
  have e2 := hc.os
  have e3 := hc.tape
  have e4 := hc.output
  generalize hW : (Sort.grow (w.drewN q) os).setCells b o vs = W at *
  obtain ⟨h, tp, dr, os', ou⟩ := W
  simp only at hheap e1 e2 e3 e4
  subst e2; subst e3; subst e4; subst e1
  unfold Sort.grow
  rw [show (w.drewN q).heap = w.heap from rfl, ← hheap]
  rfl
theorem storeC_gr {w0 w : World} {b o : Nat} {t : TypeId} {cs vs : List Value} {K : World → Prop} (hg : Gr w0 w) (hb : w0.heap.size ≤ b) (hr : Row w b t cs) (ho : o + vs.length ≤ cs.length)
    (h : ∀ w', Row w' b t (splice cs o vs) → Gr w0 w' → Ch [b] w w' → K w') : storeC w b o vs K :=
  ⟨hr.room ho, h _ (Row.set vs o cs w hr ho) (gr_store hg hb) (Ch.setCells _ _ _ _)⟩

theorem order1_K0 {w w6 : World} {pB qB : Nat} {p q : Pr} (hg : Gr w w6) (hp : Row w6 pB 121 (encP.f p)) (hq : Row w6 qB 121 (encP.f q)) :
    proc_Table_Order_1.K0 (fun v w' => v = .int .i64 (cfPr p q) ∧ Gr w w') pB qB w6 := by
  unfold proc_Table_Order_1.K0
  refine drawS_gr fun w7 hg7 hh7 => ?_
  have r1 := hg7.ch.row hp (by simp)
  have r2 := hg7.ch.row hq (by simp)
  refine ⟨_, r2.cell rfl, _, r1.cell rfl, _, fun w9 h9 => (h9.ch.row r1 (by simp)).cell rfl, _, fun w9 h9 => (h9.ch.row r2 (by simp)).cell rfl, ?_⟩
  refine Calls.ret (Compare_any _ _) ?_
  rintro v w8 ⟨rfl, rfl⟩
  refine ⟨_, rfl, Gr.refl _, ?_⟩
  refine Calls.ret (Compare_any _ _) ?_
  rintro v w9 ⟨rfl, rfl⟩
  refine ⟨_, rfl, ?_⟩
  refine newBlk_gr fun b6 w10 hb6 hs6 hr6 hg6 => ?_
  refine Calls.ret (Or_any _ _ hr6) ?_
  rintro v w11 ⟨rfl, rfl⟩
  exact ⟨_, rfl, rfl, (hg.trans hg7).trans hg6⟩
theorem order1_any {w : World} {tb b : Nat} {t : PT} {a a2 : Option Addr} {c c2 : Nat} {ptr : TypeId} (h1 : Row w tb ptr [.pointer (some ⟨b, 0, none⟩)]) (h2 : Row w b 116 [.slice a t.pr.length c, .slice a2 t.l.length c2, .int .i64 t.came]) (h3 : SlR encP w a2 t.l) (x y : Fin t.l.length) :
    Calls Try.prog 66 #[.int .i64 (x.val : Int), .int .i64 (y.val : Int), .pointer (some ⟨tb, 0, none⟩)] w (Ret fun v w' => v = .int .i64 (cfI t x y) ∧ Gr w w') := by
  apply proc_Table_Order_1.calls
  unfold proc_Table_Order_1.F
  obtain ⟨p, hp⟩ : ∃ p, t.l[x.val]? = some p := ⟨_, List.getElem?_eq_getElem x.isLt⟩
  obtain ⟨q, hq⟩ : ∃ q, t.l[y.val]? = some q := ⟨_, List.getElem?_eq_getElem y.isLt⟩
  have ep : t.at (x.val : Int) = p := by unfold PT.at; rw [toNat_nat, hp]; rfl
  have eq : t.at (y.val : Int) = q := by unfold PT.at; rw [toNat_nat, hq]; rfl
  have hcf : cfI t x y = cfPr p q := by unfold cfI; rw [ep, eq]
  rw [hcf]
  have hx := x.isLt
  have hy := y.isLt
  refine drawS_gr fun w1 hg1 hh1 => ?_
  have r1 := hg1.ch.row h1 (by simp)
  have r2 := hg1.ch.row h2 (by simp)
  have s3 := hg1.ch.slr h3 (.inr (by simp))
  have f1 : ∀ w9, Gr w1 w9 → Row w9 tb ptr [.pointer (some ⟨b, 0, none⟩)] := fun w9 h9 => h9.ch.row r1 (by simp)
  have f2 : ∀ w9, Gr w1 w9 → Row w9 b 116 [.slice a t.pr.length c, .slice a2 t.l.length c2, .int .i64 t.came] := fun w9 h9 => h9.ch.row r2 (by simp)
  refine ⟨_, fun w9 h9 => (f1 w9 h9).cell rfl, ?_⟩
  simp only [okP_some, pb_some, po_some]
  refine ⟨_, _, _, fun w9 h9 => (f2 w9 h9).cell rfl, by omega, by omega, ?_⟩
  obtain ⟨ab, ao, rfl, hcp⟩ := s3 x.val _ hp
  obtain ⟨ab', ao', he, hcq⟩ := s3 y.val _ hq
  simp only [Option.some.injEq, Addr.mk.injEq, and_true] at he
  obtain ⟨rfl, rfl⟩ := he
  have gp : ∀ j v, (encP.f p)[j]? = some v → ∀ w9, Gr w1 w9 → w9.cell? ⟨ab, ao + x.val * encP.k + j, none⟩ = some v := fun j v hv w9 h9 => h9.ch.cell (hcp j v hv) (by simp)
  have gq : ∀ j v, (encP.f q)[j]? = some v → ∀ w9, Gr w1 w9 → w9.cell? ⟨ab, ao + y.val * encP.k + j, none⟩ = some v := fun j v hv w9 h9 => h9.ch.cell (hcq j v hv) (by simp)
  simp only [okP_some, pb_some, po_some, toNat_nat]
  refine ⟨_, gp 0 _ rfl, _, gp 1 _ rfl, _, gp 2 _ rfl, _, gp 3 _ rfl, _, fun w9 h9 => (f1 w9 h9).cell rfl, ?_⟩
  simp only [okP_some, pb_some, po_some]
  refine ⟨_, _, _, fun w9 h9 => (f2 w9 h9).cell rfl, by omega, by omega, ?_⟩
  simp only [okP_some, pb_some, po_some, toNat_nat]
  refine ⟨_, gq 0 _ rfl, _, gq 1 _ rfl, _, gq 2 _ rfl, _, gq 3 _ rfl, ?_, ?_⟩
  · refine newBlk_gr fun b1 w2 hb1 hs1 hr1 hg2 => ⟨hg2, ?_⟩
    refine newBlk_gr fun b2 w3 hb2 hs2 hr2 hg3 => ⟨hg2.trans hg3, ?_⟩
    have hr1 := hg3.ch.row hr1 (by simp)
    refine storeC_gr (hg2.trans hg3) (by omega) hr1 (by simp) fun w4 hr4 hg4 hc4 => ⟨hg4, ?_⟩
    have hr2 := hc4.row hr2 (by simp; omega)
    refine storeC_gr hg4 (by omega) hr2 (by simp) fun w5 hr5 hg5 hc5 => ?_
    have hr4 := hc5.row hr4 (by simp; omega)
    exact order1_K0 (hg1.trans hg5) hr4 hr5
  · refine newBlk_gr fun b1 w2 hb1 hs1 hr1 hg2 => ⟨hg2, ?_⟩
    refine newBlk_gr fun b2 w3 hb2 hs2 hr2 hg3 => ⟨hg2.trans hg3, ?_⟩
    have hr1 := hg3.ch.row hr1 (by simp)
    refine storeC_gr (hg2.trans hg3) (by omega) hr2 (by simp) fun w4 hr4 hg4 hc4 => ⟨hg4, ?_⟩
    have hr1 := hc4.row hr1 (by simp; omega)
    refine storeC_gr hg4 (by omega) hr1 (by simp) fun w5 hr5 hg5 hc5 => ?_
    have hr4 := hc5.row hr4 (by simp; omega)
    exact order1_K0 (hg1.trans hg5) hr4 hr5

/-! ### The library's sort of numbers -/
theorem sortI_sp {e w : World} {m : Hp} {L : List HP} {a : Option Addr} {c N g : Nat} {cb : Array Value} {cf : Fin N → Fin N → Int} (hO : SWO (ltOf cf)) (eg : ∀ args w, (callFunc g args).run Try.prog w = .ok (.enter g args) w)
    (xs : List (Fin N)) (H : St e m w (own (Enc.int .i64) 3 a c (xs.map fun i => (i.val : Int)) :: L)) (hm : xs.length ≤ 1000000)
    (hcmp : ∀ w', St e m w' L → ∀ x y : Fin N, Calls Try.prog g (#[.int .i64 (x.val : Int), .int .i64 (y.val : Int)] ++ cb) w' (Ret fun v w'' => v = .int .i64 (cf x y) ∧ Gr w' w'')) :
    Calls Try.prog 65 #[.slice a xs.length c, .func (.func g) #[] cb] w (Ret fun v w' => v = .tuple #[] ∧ ∃ ys : List (Fin N), ys.Perm xs ∧ ys.Pairwise (fun x y => decide (cf y x < 0) = false) ∧ St e m w' (own (Enc.int .i64) 3 a c (ys.map fun i => (i.val : Int)) :: L)) := by
  by_cases hne : xs = []
  · subst hne
    refine (AnyF.slices_SortFunc_none Try.sortI0 a c (.func (.func g) #[] cb) w).mono ?_
    rintro e w' ⟨rfl, rfl⟩
    exact ⟨_, rfl, rfl, [], List.Perm.refl _, List.Pairwise.nil, H⟩
  have hlen1 : 0 < xs.length := List.length_pos_iff.2 hne
  obtain ⟨gb, tl, rfl, p2, p3, p4, H2⟩ := H.ownRow (by intro h; simp at h; exact hne h)
  rw [List.length_map] at p2 p3
  have hrow := H2.rowAt
  have hfl : ∀ zs : List (Fin N), (Enc.int .i64).flat (zs.map fun i => (i.val : Int)) = zs.map fun i => Value.int .i64 (i.val : Int) := fun zs => by
    simp [Enc.flat, Enc.int, List.flatMap_map]
    induction zs with
    | nil => rfl
    | cons z r ih => simp [ih]
  rw [hfl] at hrow H2
  haveI : Inhabited (Fin N) := ⟨xs[0]⟩
  have hget : ∀ (d : Array (Fin N)) (j : Nat) (hj : j < d.size), d[j]! = d[j] := fun d j hj => getElem!_pos d j hj
  have hH : Holds (fun i : Fin N => Value.int .i64 (i.val : Int)) w gb 0 xs.toArray := by
    intro j hj
    have hj' : j < xs.length := by simpa using hj
    refine ⟨?_, by rw [Nat.zero_add]; exact hrow.frozen j⟩
    rw [Nat.zero_add]
    refine hrow.cell ?_
    rw [List.getElem?_append_left (by simpa using hj'), List.getElem?_map, List.getElem?_eq_getElem hj', hget _ _ hj]
    simp
  have hblk : gb < w.heap.size := hrow.lt
  -- the worlds on the way
  have way : ∀ (k : Nat) (d' : Array (Fin N)) (os : Array Obj), d'.size = xs.length → St e m (sortWorld (fun i : Fin N => Value.int .i64 (i.val : Int)) w gb 0 k d' os) (row gb 3 ((d'.toList.map fun i => Value.int .i64 (i.val : Int)) ++ tl) :: L) := by
    intro k d' os hd
    have hnew : (sortWorld (fun i : Fin N => Value.int .i64 (i.val : Int)) w gb 0 k d' os).heap[gb]? = some (.cells ((d'.toList.map fun i => Value.int .i64 (i.val : Int)) ++ tl).toArray 3 (0, 0)) := by
      unfold sortWorld putRow mapBlock Sort.grow
      rw [Array.getElem?_append_left (by simpa using hblk)]
      simp only [Array.getElem?_modify, if_true, Sort.heap_ahead]
      rw [show w.heap[gb]? = _ from hrow]
      simp only [Option.map_some, onCells, Option.some.injEq, Obj.cells.injEq, and_true]
      apply Array.ext_getElem?
      intro j
      unfold putCells
      rw [Array.getElem?_mapIdx]
      simp only [List.getElem?_toArray]
      by_cases hj : j < d'.size
      · have e1 : ((List.map (fun i => Value.int .i64 (i.val : Int)) xs ++ tl))[j]? = some (Value.int .i64 ((xs[j]'(by omega)).val : Int)) := by
          rw [List.getElem?_append_left (by simp; omega), List.getElem?_map, List.getElem?_eq_getElem (by omega)]; rfl
        rw [e1]
        simp only [Option.map_some]
        rw [if_pos (by omega), List.getElem?_append_left (by simpa using hj), List.getElem?_map]
        simp only [Nat.sub_zero]
        rw [hget _ _ hj, List.getElem?_eq_getElem (by simpa using hj)]
        simp
      · have e2 : ((List.map (fun i => Value.int .i64 (i.val : Int)) xs ++ tl))[j]? = tl[j - xs.length]? := by rw [List.getElem?_append_right (by simp; omega)]; simp
        have e3 : ((d'.toList.map fun i => Value.int .i64 (i.val : Int)) ++ tl)[j]? = tl[j - xs.length]? := by rw [List.getElem?_append_right (by simp; omega)]; simp [hd]
        rw [e2, e3]
        cases tl[j - xs.length]? with
        | none => rfl
        | some x => simp only [Option.map_some]; rw [if_neg (by omega)]
    refine St.step H2 rfl rfl rfl fun p hp hl => ⟨hone gb _, hone_self _ _, hone_le hnew, fun i hi => .inl ?_, fun i hi hw => ?_⟩
    · rw [hone_ne hi, show p gb = _ from hp]; simp
    · have hig : gb ≠ i := by rintro rfl; rw [show p gb = _ from hp] at hi; cases hi
      have hlt := hpOf_some.1 hw
      show (sortWorld _ w gb 0 k d' os).heap[i]? = w.heap[i]?
      unfold sortWorld putRow mapBlock Sort.grow
      rw [Array.getElem?_append_left (by simpa using hlt)]
      simp only [Array.getElem?_modify, Sort.heap_ahead, if_neg hig]
  have hcon := Any.slices_SortFunc (P := Try.prog) Try.sortI (fun i : Fin N => Value.int .i64 (i.val : Int)) (fun _ => rfl) cf hO g cb gb 0 c xs.toArray w eg
    (fun k os dk hs x y => (hcmp _ (way k dk os (by simpa using hs)).drop x y).mono (by rintro e w' ⟨v, rfl, rfl, hgr⟩; exact ⟨rfl, hgr⟩)) hH hblk (by simp; omega)
  refine hcon.mono ?_
  rintro _ w' ⟨rfl, d', n, os, hp, hs, rfl⟩
  obtain ⟨hsz, _, hperm⟩ := hp
  have hlen : d'.size = xs.length := by simpa using hsz
  have hperm2 : d'.toList.Perm xs := by
    have e1 : d'.extract 0 xs.toArray.size = d' := by rw [← hsz]; simp
    have e2 : xs.toArray.extract 0 xs.toArray.size = xs.toArray := by simp
    rw [e1, e2] at hperm
    exact hperm
  refine ⟨_, rfl, rfl, d'.toList, hperm2, ?_, ?_⟩
  · rw [List.pairwise_iff_getElem]
    intro i j hi hj hij
    have := hs i j (Nat.zero_le _) hij (by simp at hj ⊢; omega)
    unfold ltOf at this
    rw [getElem!_pos d' i (by simpa using hi), getElem!_pos d' j (by simpa using hj)] at this
    simpa using this
  · have H3 := way n d' os hlen
    rw [← hfl] at H3
    exact H3.rowOwn2 (by simpa [hlen] using p2) (by simpa [hlen] using p3) p4
end Go.Proofs.Ytecacohkkdhphaa
