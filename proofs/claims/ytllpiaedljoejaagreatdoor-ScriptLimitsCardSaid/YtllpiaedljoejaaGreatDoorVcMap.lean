/- Maps with integer keys: what lookups, updates, deletions and loops over them do. Conditions: none. -/
import Derived.Test.YtllpiaedljoejaaGreatDoorVcMem
import Derived.Maps.RangeRun
import Derived.MapKept
namespace Go.Vc
open Go.ChangeMaps (setBlock)
set_option linter.unusedSimpArgs false
set_option linter.unusedVariables false

section
variable {α : Type} {q : IntKind} {K : α → Int} {V : α → Value}

/-- The entries of the map are those of the list, in some order. -/
def EntRep (q : IntKind) (K : α → Int) (V : α → Value) (es : List MapEntry) (xs : List α) : Prop :=
  ∃ ys : List α, ys.Perm xs ∧ es.map (fun e => (e.key, e.val)) = ys.map fun x => (Value.int q (K x), V x)

/-- Block mb is a map with just these entries. -/
def MapRep (q : IntKind) (K : α → Int) (V : α → Value) (w : World) (mb : Nat) (xs : List α) : Prop :=
  (∃ es clock, w.heap[mb]? = some (.map es clock) ∧ EntRep q K V es.toList xs ∧ (∀ e ∈ es.toList, e.born < clock) ∧ (es.toList.map (·.born)).Nodup) ∧ (xs.map K).Nodup

theorem MapRep.lt {w : World} {mb : Nat} {xs : List α} (h : MapRep q K V w mb xs) : mb < w.heap.size := by
  obtain ⟨⟨es, clock, h, _⟩, _⟩ := h
  rcases Nat.lt_or_ge mb w.heap.size with h' | h'
  · exact h'
  · rw [Array.getElem?_eq_none h'] at h; cases h
theorem MapRep.ch {D : List Nat} {w w' : World} {mb : Nat} {xs : List α} (h : MapRep q K V w mb xs) (hc : Ch D w w') (hd : mb ∉ D) : MapRep q K V w' mb xs := by
  obtain ⟨⟨es, clock, h, r⟩, n⟩ := h
  exact ⟨⟨es, clock, hc.obj h hd, r⟩, n⟩
theorem MapRep.perm {w : World} {mb : Nat} {xs ys : List α} (h : MapRep q K V w mb xs) (hp : xs.Perm ys) : MapRep q K V w mb ys := by
  obtain ⟨⟨es, clock, h, ⟨zs, hz, he⟩, r⟩, n⟩ := h
  exact ⟨⟨es, clock, h, ⟨zs, hz.trans hp, he⟩, r⟩, (hp.map K).nodup_iff.1 n⟩
theorem MapRep.new {w : World} {mb : Nat} (h : w.heap[mb]? = some (.map #[] 0)) : MapRep q K V w mb [] :=
  ⟨⟨#[], 0, h, ⟨[], List.Perm.refl _, rfl⟩, by simp, by simp⟩, by simp⟩

theorem findNow_none : ∀ {es : List MapEntry} {ys : List α} {k : Int} {i : Nat}, es.map (fun e => (e.key, e.val)) = ys.map (fun x => (Value.int q (K x), V x)) → (∀ y ∈ ys, K y ≠ k) →
    Instr.findNow (.int q) (.int q k) es i = some none
  | [], ys, k, i, _, _ => rfl
  | e :: es, [], k, i, h, _ => by simp at h
  | e :: es, y :: ys, k, i, h, hk => by
    simp only [List.map_cons, List.cons.injEq, Prod.mk.injEq] at h
    obtain ⟨⟨h1, h2⟩, h⟩ := h
    have hne : (k == K y) = false := by have := hk y (by simp); simp; omega
    unfold Instr.findNow
    rw [h1]
    simp only [Instr.sameNow, if_true, hne]
    exact findNow_none h (fun y hy => hk y (by simp [hy]))
theorem findNow_some : ∀ {es : List MapEntry} {l1 l2 : List α} {x : α} {k : Int} {i : Nat}, es.map (fun e => (e.key, e.val)) = (l1 ++ x :: l2).map (fun x => (Value.int q (K x), V x)) → (∀ y ∈ l1, K y ≠ k) → K x = k →
    Instr.findNow (.int q) (.int q k) es i = some (some (i + l1.length, V x))
  | [], l1, l2, x, k, i, h, _, _ => by simp at h
  | e :: es, [], l2, x, k, i, h, _, hx => by
    simp only [List.nil_append, List.map_cons, List.cons.injEq, Prod.mk.injEq] at h
    obtain ⟨⟨h1, h2⟩, h⟩ := h
    unfold Instr.findNow
    rw [h1, h2, hx]
    simp [Instr.sameNow]
  | e :: es, y :: l1, l2, x, k, i, h, hk, hx => by
    simp only [List.cons_append, List.map_cons, List.cons.injEq, Prod.mk.injEq] at h
    obtain ⟨⟨h1, h2⟩, h⟩ := h
    have hne : (k == K y) = false := by have := hk y (by simp); simp; omega
    unfold Instr.findNow
    rw [h1]
    simp only [Instr.sameNow, if_true, hne]
    rw [findNow_some (i := i + 1) (by simpa using h) (fun y hy => hk y (by simp [hy])) hx]
    simp; omega

theorem split_key {ys : List α} {x : α} (hn : (ys.map K).Nodup) (hx : x ∈ ys) : ∃ l1 l2, ys = l1 ++ x :: l2 ∧ (∀ y ∈ l1, K y ≠ K x) ∧ ∀ y ∈ l2, K y ≠ K x := by
  obtain ⟨l1, l2, rfl⟩ := List.append_of_mem hx
  rw [List.map_append, List.map_cons, List.nodup_append] at hn
  obtain ⟨_, h2, h3⟩ := hn
  refine ⟨l1, l2, rfl, fun y hy => ?_, fun y hy => ?_⟩
  · exact h3 (K y) (List.mem_map.2 ⟨y, hy, rfl⟩) (K x) (by simp)
  · have h4 := (List.nodup_cons.1 h2).1
    intro he
    exact h4 (List.mem_map.2 ⟨y, hy, he⟩)

/-- The types of a map. -/
structure MapT (P : Program) (t kt et : TypeId) (q : IntKind) : Prop where
  ht : P.underlying t = some (.map kt et)
  hk : P.underlying kt = some (.int q)

theorem run_checkKey {P : Program} {kt : TypeId} {w : World} {b : Bool} {k : Int} (hk : P.underlying kt = some (.int q)) : (Instr.checkKey b 10000 kt (.int q k)).run P w = .ok () w := by
  unfold Instr.checkKey
  simp [run_underlying hk]

theorem lookup_some {P : Program} {t kt et : TypeId} (hT : MapT P t kt et q) {w : World} {mb : Nat} {xs : List α} (h : MapRep q K V w mb xs) {x : α} (hx : x ∈ xs) :
    (Instr.lookup t (.map (some mb)) (.int q (K x)) true).run P w = .ok (.tuple #[V x, .bool true]) w := by
  obtain ⟨⟨es, clock, hb, ⟨ys, hp, he⟩, _, _⟩, hn⟩ := h
  obtain ⟨l1, l2, rfl, h1, _⟩ := split_key (K := K) ((hp.map K).nodup_iff.2 hn) (hp.mem_iff.2 hx)
  have hf := MapKept.run_findKey (P := P) (w := w) hT.hk (findNow_some (i := 0) he h1 rfl)
  simp only [Instr.lookup, Sem.run_bind, run_underlying hT.ht, Result.andThen, MapKept.run_getObj_map hb, Sem.run_pure, run_checkKey hT.hk, hf]
  simp
theorem lookup_none {P : Program} {t kt et : TypeId} (hT : MapT P t kt et q) {w : World} {mb : Nat} {xs : List α} (h : MapRep q K V w mb xs) {k : Int} (hx : ∀ x ∈ xs, K x ≠ k) {z : Value} (hz : (zeroValue et).run P w = .ok z w) :
    (Instr.lookup t (.map (some mb)) (.int q k) true).run P w = .ok (.tuple #[z, .bool false]) w := by
  obtain ⟨⟨es, clock, hb, ⟨ys, hp, he⟩, _, _⟩, hn⟩ := h
  have hf := MapKept.run_findKey (P := P) (w := w) hT.hk (findNow_none (i := 0) he (fun y hy => hx y (hp.mem_iff.1 hy)))
  simp only [Instr.lookup, Sem.run_bind, run_underlying hT.ht, Result.andThen, MapKept.run_getObj_map hb, Sem.run_pure, run_checkKey hT.hk, hf, hz]
  simp

theorem setBlock_ch (w : World) (b : Nat) (o : Obj) : Ch [b] w (setBlock w b o) := by
  refine ⟨rfl, rfl, rfl, by simp [setBlock], fun k _ hk => ?_⟩
  have : k ≠ b := by simpa using hk
  simp only [setBlock]
  rw [Array.getElem?_setIfInBounds_ne (Ne.symm this)]
theorem setBlock_get {w : World} {b : Nat} {o : Obj} (h : b < w.heap.size) : (setBlock w b o).heap[b]? = some o := by simp [setBlock, h]
theorem run_setObj {P : Program} {w : World} {b c : Nat} {o : Obj} {es : Array MapEntry} (h0 : w.heap[b]? = some (.map es c)) : (setObj b o).run P w = .ok () (setBlock w b o) := by
  simp [setObj, Sem.run, h0, setBlock]

theorem insert_new {P : Program} {t kt et : TypeId} (hT : MapT P t kt et q) {w : World} {mb : Nat} {xs : List α} (h : MapRep q K V w mb xs) {x : α} (hx : ∀ y ∈ xs, K y ≠ K x) :
    ∃ w', (Instr.mapUpdate t (.map (some mb)) (.int q (K x)) (V x)).run P w = .ok () w' ∧ MapRep q K V w' mb (xs ++ [x]) ∧ Ch [mb] w w' := by
  have hlt := h.lt
  obtain ⟨⟨es, clock, hb, ⟨ys, hp, he⟩, hbn, hnd⟩, hn⟩ := h
  have hf := MapKept.run_findKey (P := P) (w := w) hT.hk (findNow_none (i := 0) he (fun y hy => hx y (hp.mem_iff.1 hy)))
  refine ⟨setBlock w mb (.map (es.push { key := .int q (K x), val := V x, born := clock }) (clock + 1)), ?_, ⟨⟨_, _, setBlock_get hlt, ⟨ys ++ [x], hp.append_right _, by simp [he]⟩, ?_, ?_⟩, ?_⟩, setBlock_ch _ _ _⟩
  · simp only [Instr.mapUpdate, Sem.run_bind, run_underlying hT.ht, Result.andThen, MapKept.run_getObj_map hb, Sem.run_pure, run_checkKey hT.hk, hf]
    exact run_setObj hb
  · intro e he'
    simp at he'
    rcases he' with h | h
    · have := hbn e (by simpa using h); omega
    · subst h; exact Nat.lt_succ_self _
  · simp only [Array.toList_push, List.map_append, List.map_cons, List.map_nil]
    rw [List.nodup_append]
    refine ⟨hnd, by simp, fun a ha b hb' => ?_⟩
    simp at hb'; subst hb'
    simp at ha
    obtain ⟨e, he', rfl⟩ := ha
    have := hbn e (by simpa using he'); omega
  · rw [List.map_append, List.map_cons, List.map_nil, List.nodup_append]
    refine ⟨hn, by simp, fun a ha b hb' => ?_⟩
    simp at hb'; subst hb'
    simp at ha
    obtain ⟨y, hy, rfl⟩ := ha
    exact hx y hy

theorem map_eraseIdx' {β γ : Type} (f : β → γ) : ∀ (l : List β) (i : Nat), (l.eraseIdx i).map f = (l.map f).eraseIdx i
  | [], _ => rfl
  | _ :: _, 0 => rfl
  | x :: l, i + 1 => by simp [List.eraseIdx, map_eraseIdx' f l i]

theorem delete_key {P : Program} {t kt et ty : TypeId} (hT : MapT P t kt et q) {w : World} {mb : Nat} {xs : List α} (h : MapRep q K V w mb xs) (k : Int) :
    ∃ w', (Builtin.delete_ #[t, kt] ty #[.map (some mb), .int q k]).run P w = .ok (.tuple #[]) w' ∧ MapRep q K V w' mb (xs.filter fun x => K x != k) ∧ Ch [mb] w w' := by
  have hlt := h.lt
  obtain ⟨⟨es, clock, hb, ⟨ys, hp, he⟩, hbn, hnd⟩, hn⟩ := h
  have hn' : ((xs.filter fun x => K x != k).map K).Nodup := hn.sublist (List.filter_sublist.map _)
  by_cases hx : ∃ x ∈ xs, K x = k
  · obtain ⟨x, hx, rfl⟩ := hx
    obtain ⟨l1, l2, rfl, h1, h2⟩ := split_key (K := K) ((hp.map K).nodup_iff.2 hn) (hp.mem_iff.2 hx)
    have hf := MapKept.run_findKey (P := P) (w := w) hT.hk (findNow_some (i := 0) he h1 rfl)
    have hfl : (l1 ++ x :: l2).filter (fun y => K y != K x) = l1 ++ l2 := by
      rw [List.filter_append, List.filter_cons]
      simp only [bne_self_eq_false, Bool.false_eq_true, if_false]
      rw [List.filter_eq_self.2 (fun y hy => by simpa using h1 y hy), List.filter_eq_self.2 (fun y hy => by simpa using h2 y hy)]
    refine ⟨setBlock w mb (.map (es.eraseIdxIfInBounds l1.length) clock), ?_, ⟨⟨_, _, setBlock_get hlt, ⟨l1 ++ l2, ?_, ?_⟩, ?_, ?_⟩, hn'⟩, setBlock_ch _ _ _⟩
    · simp only [Builtin.delete_, Sem.run_bind, run_underlying hT.ht, Result.andThen, MapKept.run_getObj_map hb, Sem.run_pure, run_checkKey hT.hk, hf]
      simp only [List.getElem?_toArray, List.getElem?_cons_zero, List.getElem?_cons_succ, Sem.run_bind, run_underlying hT.ht, Result.andThen, MapKept.run_getObj_map hb, run_checkKey hT.hk, hf, Nat.zero_add]
      rw [run_setObj hb]
      simp
    · rw [← hfl]; exact hp.filter _
    · rw [Array.toList_eraseIdxIfInBounds, map_eraseIdx', he, ← map_eraseIdx']
      congr 1
      rw [List.eraseIdx_append_of_length_le (Nat.le_refl _)]
      simp
    · intro e he'
      rw [Array.toList_eraseIdxIfInBounds] at he'
      exact hbn e (List.mem_of_mem_eraseIdx he')
    · rw [Array.toList_eraseIdxIfInBounds, map_eraseIdx']
      exact hnd.sublist (List.eraseIdx_sublist _ _)
  · have hno : ∀ x ∈ xs, K x ≠ k := fun x hx' h => hx ⟨x, hx', h⟩
    have hf := MapKept.run_findKey (P := P) (w := w) hT.hk (findNow_none (i := 0) he (fun y hy => hno y (hp.mem_iff.1 hy)))
    have hfl : xs.filter (fun x => K x != k) = xs := List.filter_eq_self.2 (fun x hx' => by simpa using hno x hx')
    refine ⟨setBlock w mb (.map es clock), ?_, ⟨⟨es, clock, setBlock_get hlt, ⟨ys, by rw [hfl]; exact hp, he⟩, hbn, hnd⟩, hn'⟩, setBlock_ch _ _ _⟩
    simp only [Builtin.delete_, Sem.run_bind, run_underlying hT.ht, Result.andThen, MapKept.run_getObj_map hb, Sem.run_pure, run_checkKey hT.hk, hf]
    simp only [List.getElem?_toArray, List.getElem?_cons_zero, List.getElem?_cons_succ, Sem.run_bind, run_underlying hT.ht, Result.andThen, MapKept.run_getObj_map hb, run_checkKey hT.hk, hf]
    rw [run_setObj hb]
    simp

/-! ### A loop over a map that it does not write -/
theorem inj_of_nodup {β γ : Type} {f : β → γ} : ∀ {l : List β}, (l.map f).Nodup → ∀ {a b : β}, a ∈ l → b ∈ l → f a = f b → a = b
  | [], _, _, _, ha, _, _ => by cases ha
  | x :: l, h, a, b, ha, hb, he => by
    rw [List.map_cons, List.nodup_cons] at h
    rcases List.mem_cons.1 ha with e1 | ha
    · rcases List.mem_cons.1 hb with e2 | hb
      · rw [e1, e2]
      · exact absurd (List.mem_map.2 ⟨b, hb, by rw [← he, e1]⟩) h.1
    · rcases List.mem_cons.1 hb with e2 | hb
      · exact absurd (List.mem_map.2 ⟨a, ha, by rw [he, e2]⟩) h.1
      · exact inj_of_nodup h.2 ha hb he
theorem nodup_of_map {β γ : Type} {f : β → γ} : ∀ {l : List β}, (l.map f).Nodup → l.Nodup
  | [], _ => List.nodup_nil
  | x :: l, h => by
    rw [List.map_cons, List.nodup_cons] at h
    exact List.nodup_cons.2 ⟨fun hx => h.1 (List.mem_map.2 ⟨x, hx, rfl⟩), nodup_of_map h.2⟩

/-- The map's entries, and those that the loop has had. -/
structure Had (q : IntKind) (K : α → Int) (V : α → Value) (es : List MapEntry) (clock : Nat) (seen : Array Nat) (xs done : List α) : Prop where
  young : ∀ e ∈ es, e.born < clock
  nd : (es.map (·.born)).Nodup
  nx : (xs.map K).Nodup
  dn : (done.map K).Nodup
  sub : ∀ x ∈ done, x ∈ xs
  rep : EntRep q K V es xs
  ds : ∃ ds : List MapEntry, (∀ e ∈ ds, e ∈ es) ∧ seen.toList = ds.map (·.born) ∧ ds.map (fun e => (e.key, e.val)) = done.map fun x => (Value.int q (K x), V x)

/-- Block r is the loop's iterator: these are done. -/
def IterRep (q : IntKind) (K : α → Int) (V : α → Value) (w : World) (r mb : Nat) (xs done : List α) : Prop :=
  ∃ es clock seen, w.heap[mb]? = some (.map es clock) ∧ w.heap[r]? = some (.mapIter (some mb) clock seen clock) ∧ Had q K V es.toList clock seen xs done

theorem Had.key_of {es : List MapEntry} {clock : Nat} {seen : Array Nat} {xs done : List α} (h : Had q K V es clock seen xs done) {e : MapEntry} (he : e ∈ es) : ∃ x ∈ xs, e.key = .int q (K x) ∧ e.val = V x := by
  obtain ⟨ys, hp, hm⟩ := h.rep
  have : (e.key, e.val) ∈ es.map (fun e => (e.key, e.val)) := List.mem_map.2 ⟨e, he, rfl⟩
  rw [hm] at this
  obtain ⟨x, hx, he⟩ := List.mem_map.1 this
  simp only [Prod.mk.injEq] at he
  exact ⟨x, hp.mem_iff.1 hx, he.1.symm, he.2.symm⟩
theorem Had.ent_of {es : List MapEntry} {clock : Nat} {seen : Array Nat} {xs done : List α} (h : Had q K V es clock seen xs done) {x : α} (hx : x ∈ xs) : ∃ e ∈ es, e.key = .int q (K x) ∧ e.val = V x := by
  obtain ⟨ys, hp, hm⟩ := h.rep
  have : (Value.int q (K x), V x) ∈ ys.map (fun x => (Value.int q (K x), V x)) := List.mem_map.2 ⟨x, hp.mem_iff.2 hx, rfl⟩
  rw [← hm] at this
  obtain ⟨e, he, heq⟩ := List.mem_map.1 this
  simp only [Prod.mk.injEq] at heq
  exact ⟨e, he, heq⟩
theorem Had.key_inj {es : List MapEntry} {clock : Nat} {seen : Array Nat} {xs done : List α} (h : Had q K V es clock seen xs done) {e e' : MapEntry} (he : e ∈ es) (he' : e' ∈ es) (hk : e.key = e'.key) : e = e' := by
  obtain ⟨ys, hp, hm⟩ := h.rep
  have hn : (es.map (·.key)).Nodup := by
    have e1 : es.map (·.key) = ys.map (fun x => Value.int q (K x)) := by
      have := congrArg (List.map Prod.fst) hm
      simpa [List.map_map, Function.comp_def] using this
    rw [e1]
    have h2 : (ys.map K).Nodup := (hp.map K).nodup_iff.2 h.nx
    have : ys.map (fun x => Value.int q (K x)) = (ys.map K).map (Value.int q) := by simp [List.map_map, Function.comp_def]
    rw [this]
    refine List.Pairwise.map _ (fun a b hab => ?_) h2
    intro hh; cases hh; exact hab rfl
  exact inj_of_nodup hn he he' hk

theorem iter_start {P : Program} {t kt et : TypeId} (hT : MapT P t kt et q) {w : World} {mb : Nat} {xs : List α} (h : MapRep q K V w mb xs) :
    ∃ r w', (Instr.range t (.map (some mb))).run P w = .ok (.pointer (some ⟨r, 0, none⟩)) w' ∧ r = w.heap.size ∧ w'.heap.size = r + 1 ∧ IterRep q K V w' r mb xs [] ∧ MapRep q K V w' mb xs ∧ Ch [] w w' := by
  have hlt := h.lt
  have h0 := h
  obtain ⟨⟨es, clock, hb, hr, hbn, hnd⟩, hn⟩ := h
  refine ⟨_, _, run_range_map w t kt et mb es clock hT.ht hb, rfl, size_alloc _ _, ⟨es, clock, #[], ?_, heap_alloc _ _, ⟨hbn, hnd, hn, by simp, by simp, hr, [], by simp, rfl, rfl⟩⟩, h0.ch (Ch.alloc _ _) (by simp), Ch.alloc _ _⟩
  exact (Ch.alloc _ _).obj hb (by simp)

theorem iter_next {P : Program} {ty : TypeId} {w : World} {r mb : Nat} {xs done : List α} (h : IterRep q K V w r mb xs done) :
    (done.Perm xs ∧ (Instr.next (.pointer (some ⟨r, 0, none⟩)) false ty).run P w = .ok (.tuple #[.bool false]) w) ∨
    ∃ x ∈ xs, x ∉ done ∧ ∃ w', (Instr.next (.pointer (some ⟨r, 0, none⟩)) false ty).run P w = .ok (.tuple #[.bool true, .int q (K x), V x]) w' ∧
      (Instr.entry (.pointer (some ⟨r, 0, none⟩))).run P w' = .ok (.tuple #[.int q (K x), V x]) w' ∧ IterRep q K V w' r mb xs (done ++ [x]) ∧ Ch [r] w w' ∧ w'.heap.size = w.heap.size := by
  obtain ⟨es, clock, seen, hb, hr, hh⟩ := h
  have hrl : r < w.heap.size := by
    rcases Nat.lt_or_ge r w.heap.size with h' | h'
    · exact h'
    · rw [Array.getElem?_eq_none h'] at hr; cases hr
  obtain ⟨ds, hds, hseen, hkv⟩ := hh.ds
  have hmr : mb ≠ r := by rintro rfl; rw [hb] at hr; cases hr
  rcases run_next_at (P := P) w ty r mb clock clock seen es clock hr hb hh.young (Nat.le_refl _) with ⟨h0, hrun⟩ | ⟨e, he, w1, hw1, hrun⟩
  · left
    refine ⟨?_, hrun⟩
    rw [List.perm_ext_iff_of_nodup (nodup_of_map hh.dn) (nodup_of_map hh.nx)]
    intro x
    refine ⟨hh.sub x, fun hx => ?_⟩
    obtain ⟨e, he, hk, hv⟩ := hh.ent_of hx
    have hin : seen.contains e.born = true := by
      cases hc : seen.contains e.born with
      | true => rfl
      | false =>
        have : e ∈ (leftOf es seen) := by
          unfold leftOf; rw [Array.mem_filter]; exact ⟨by simpa using he, by rw [hc]; rfl⟩
        rw [Array.eq_empty_of_size_eq_zero h0] at this
        simp at this
    have hmem : e.born ∈ ds.map (·.born) := by rw [← hseen]; simpa using hin
    obtain ⟨e', he', hbe⟩ := List.mem_map.1 hmem
    have : e' = e := inj_of_nodup hh.nd (hds e' he') he hbe
    subst this
    have : (e'.key, e'.val) ∈ ds.map (fun e => (e.key, e.val)) := List.mem_map.2 ⟨e', he', rfl⟩
    rw [hkv] at this
    obtain ⟨x', hx', hq⟩ := List.mem_map.1 this
    simp only [Prod.mk.injEq] at hq
    rw [hk] at hq
    have hKK : K x' = K x := by simpa using hq.1
    have := inj_of_nodup hh.nx (hh.sub x' hx') hx hKK
    rw [← this]; exact hx'
  · right
    have hmem : e ∈ es.toList ∧ seen.contains e.born = false := by
      have : e ∈ leftOf es seen := by simpa using he
      unfold leftOf at this
      rw [Array.mem_filter] at this
      exact ⟨by simpa using this.1, by simpa using this.2⟩
    obtain ⟨x, hx, hk, hv⟩ := hh.key_of hmem.1
    have hKno : ∀ x' ∈ done, K x' ≠ K x := by
      intro x' hx' hK
      have : (Value.int q (K x'), V x') ∈ done.map (fun x => (Value.int q (K x), V x)) := List.mem_map.2 ⟨x', hx', rfl⟩
      rw [← hkv] at this
      obtain ⟨e', he', hq⟩ := List.mem_map.1 this
      simp only [Prod.mk.injEq] at hq
      have : e' = e := hh.key_inj (hds e' he') hmem.1 (by rw [hq.1, hk, hK])
      subst this
      have hin : e'.born ∈ seen.toList := by rw [hseen]; exact List.mem_map.2 ⟨e', he', rfl⟩
      have := hmem.2
      simp at this hin
      exact this hin
    have hnd : x ∉ done := fun hd => hKno x hd rfl
    have hw1h : w1.heap = w.heap := by rcases hw1 with rfl | rfl <;> rfl
    have hc1 : Ch [] w w1 := by
      rcases hw1 with rfl | rfl
      · exact Ch.refl _ _
      · exact Ch.drew _
    have hget : (setBlock w1 r (.mapIter (some mb) clock (seen.push e.born) clock)).heap[r]? = some (.mapIter (some mb) clock (seen.push e.born) clock) := setBlock_get (by rw [hw1h]; exact hrl)
    have hcb := setBlock_ch w1 r (.mapIter (some mb) clock (seen.push e.born) clock)
    have hgetm : (setBlock w1 r (.mapIter (some mb) clock (seen.push e.born) clock)).heap[mb]? = some (.map es clock) := hcb.obj (by rw [hw1h]; exact hb) (by simpa using hmr)
    rw [hk, hv] at hrun
    have hent := run_entry_at (P := P) _ r mb clock seen es clock e hget hgetm hmem.1 hh.nd
    rw [hk, hv] at hent
    refine ⟨x, hx, hnd, _, hrun, hent, ⟨es, clock, seen.push e.born, hgetm, hget, ⟨hh.young, hh.nd, hh.nx, ?_, ?_, hh.rep, ds ++ [e], ?_, ?_, ?_⟩⟩, (hc1.mono (D2 := [r]) (by simp)).trans hcb (by simp), ?_⟩
    · rw [List.map_append, List.map_cons, List.map_nil, List.nodup_append]
      refine ⟨hh.dn, by simp, fun a ha b hb' => ?_⟩
      simp at hb'; subst hb'
      obtain ⟨x', hx', rfl⟩ := List.mem_map.1 ha
      exact hKno x' hx'
    · intro y hy
      rcases List.mem_append.1 hy with h | h
      · exact hh.sub y h
      · simp at h; subst h; exact hx
    · intro y hy
      rcases List.mem_append.1 hy with h | h
      · exact hds y h
      · simp at h; subst h; exact hmem.1
    · simp [hseen]
    · simp [hkv, hk, hv]
    · simp [setBlock, hw1h]

theorem IterRep.ch {D : List Nat} {w w' : World} {r mb : Nat} {xs done : List α} (h : IterRep q K V w r mb xs done) (hc : Ch D w w') (h1 : mb ∉ D) (h2 : r ∉ D) : IterRep q K V w' r mb xs done := by
  obtain ⟨es, clock, seen, hb, hr, hh⟩ := h
  exact ⟨es, clock, seen, hc.obj hb h1, hc.obj hr h2, hh⟩
theorem IterRep.done_le {w : World} {r mb : Nat} {xs done : List α} (h : IterRep q K V w r mb xs done) : done.length ≤ xs.length := by
  obtain ⟨es, clock, seen, _, _, hh⟩ := h
  exact (nodup_of_map hh.dn).length_le_of_subset (fun x hx => hh.sub x hx)
end
end Go.Vc
