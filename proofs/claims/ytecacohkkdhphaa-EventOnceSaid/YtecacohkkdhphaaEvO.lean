/- Events: EventOnce returns true. Conditions: none. -/
import Derived.Test.YtecacohkkdhphaaEvM
import Derived.Test.YtecacohkkdhphaaVcSL3
namespace Go.Proofs.Ytecacohkkdhphaa
open Go.Vc
set_option linter.unusedSimpArgs false
set_option linter.unusedVariables false
set_option maxRecDepth 100000

theorem inj_of_nodup {α β : Type} {f : α → β} : ∀ {l : List α}, (l.map f).Nodup → ∀ {x y : α}, x ∈ l → y ∈ l → f x = f y → x = y
  | [], _, x, y, hx, _, _ => by cases hx
  | a :: l, h, x, y, hx, hy, e => by
    rw [List.map_cons, List.nodup_cons] at h
    rcases List.mem_cons.1 hx with h1 | h1
    · rcases List.mem_cons.1 hy with h2 | h2
      · rw [h1, h2]
      · exact absurd (List.mem_map.2 ⟨y, h2, by rw [← e, h1]⟩) h.1
    · rcases List.mem_cons.1 hy with h2 | h2
      · exact absurd (List.mem_map.2 ⟨x, h1, by rw [e, h2]⟩) h.1
      · exact inj_of_nodup h.2 h1 h2 e
def ids (s : LS) : List Int := s.ws.map (·.id)
/-- What is left of a list when the first k of another have gone out of it. -/
def lessK (W G : List Int) (k : Nat) : List Int := W.filter fun x => !(G.take k).contains x
theorem lessK_zero (W G : List Int) : lessK W G 0 = W := by unfold lessK; simp
theorem lessK_succ {W G : List Int} {k : Nat} {g : Int} (hg : G[k]? = some g) : (lessK W G k).filter (fun x => x != g) = lessK W G (k + 1) := by
  obtain ⟨hk, he⟩ := List.getElem?_eq_some_iff.1 hg
  unfold lessK
  rw [List.filter_filter, List.take_succ_eq_append_getElem hk, he]
  refine List.filter_congr fun y _ => ?_
  by_cases h1 : y = g <;> by_cases h2 : y ∈ G.take k <;> simp [h1, h2]
theorem lessK_mem {W G : List Int} {k : Nat} {g : Int} (hG : G.Nodup) (hs : ∀ g ∈ G, g ∈ W) (hg : G[k]? = some g) : g ∈ lessK W G k := by
  obtain ⟨hk, he⟩ := List.getElem?_eq_some_iff.1 hg
  unfold lessK
  rw [List.mem_filter]
  refine ⟨hs g (by rw [← he]; exact List.getElem_mem hk), ?_⟩
  have : g ∉ G.take k := by
    intro hm
    obtain ⟨j, hj, hje⟩ := List.mem_take_iff_getElem.1 hm
    exact (List.pairwise_iff_getElem.1 hG) j k (by omega) hk (by omega) (by rw [he]; exact hje)
  simp [this]
theorem filter_ne_len {W : List Int} {g : Int} (hW : W.Nodup) (hg : g ∈ W) : (W.filter (fun x => x != g)).length = W.length - 1 := by
  rw [← hW.erase_eq_filter, List.length_erase_of_mem hg]

theorem once_K0 {w0 w : World} {m : Hp} {eb k : Nat} {waitsA goneA : Option Addr} {waitsC goneC : Nat} {Nx0 : Option Addr → Nat → Nat → Int → World → Prop} {W G : List Int} {s : ES}
    (H : St w0 m w [own (Enc.int .i64) 3 waitsA waitsC W, own (Enc.int .i64) 3 goneA goneC G, event eb s]) (hW : W.Nodup) (hG : G.Nodup) (hs : ∀ g ∈ G, g ∈ W) (hend : lessK W G G.length = ids s.l)
    (hWl : W.length ≤ 1000) (hGl : G.length ≤ 1000) (hf : s.l.fit (k + 1)) (hk : k ≤ 100) (nx : ∀ a c w, St w0 m w [own (Enc.int .i64) 3 a c (ids s.l), event eb s] → Nx0 a (ids s.l).length c (IntKind.wrap .i64 ((k : Int) + 1)) w) :
    purlinlaw16_EventOnce.K0 (fun v w' => v = .bool true ∧ Ch [] w0 w') (some ⟨eb, 0, none⟩) k Nx0 waitsA W.length waitsC goneA G.length goneC w := by
  unfold purlinlaw16_EventOnce.K0
  have hle : ∀ j, (lessK W G j).length ≤ 1000 := fun j => by have := List.length_filter_le (fun x => !(G.take j).contains x) W; unfold lessK; omega
  refine ⟨fun n a N c i w' => ∃ j : Nat, i = j ∧ j ≤ G.length ∧ n = G.length - j ∧ N = (lessK W G j).length ∧ St w0 m w' [own (Enc.int .i64) 3 a c (lessK W G j), own (Enc.int .i64) 3 goneA goneC G, event eb s],
    ⟨_, 0, rfl, by omega, rfl, by rw [lessK_zero], by rw [lessK_zero]; exact H⟩, ?_⟩
  rintro n9 dead w1 a N c i ⟨j, rfl, hj, rfl, rfl, H⟩
  unfold purlinlaw16_EventOnce.L1
  refine br_dec (fun hlt => ?_) fun hge => ?_
  · have hlt : j < G.length := by omega
    obtain ⟨g, hg⟩ : ∃ g, G[j]? = some g := ⟨G[j], by simp [hlt]⟩
    refine St.newOwn (E := Enc.int .i64) H [] (by simp) fun b4 w H => ?_
    refine ⟨fun n la lN lc q w' => ∃ z : Nat, q = z ∧ z ≤ (lessK W G j).length ∧ n = (lessK W G j).length - z ∧ lN = (((lessK W G j).take z).filter (fun x => x != g)).length ∧
        St w0 m w' [own (Enc.int .i64) 3 la lc (((lessK W G j).take z).filter (fun x => x != g)), own (Enc.int .i64) 3 a c (lessK W G j), own (Enc.int .i64) 3 goneA goneC G, event eb s],
      ⟨_, 0, rfl, by omega, rfl, by simp, by simpa using H⟩, ?_⟩
    rintro n9 dead w2 la lN lc q ⟨z, rfl, hz, rfl, rfl, H⟩
    unfold purlinlaw16_EventOnce.L2
    have hlez := hle j
    refine br_dec (fun hlt2 => ?_) fun hge2 => ?_
    · have hlt2 : z < (lessK W G j).length := by omega
      obtain ⟨x, hxk⟩ : ∃ x, (lessK W G j)[z]? = some x := ⟨(lessK W G j)[z], by simp [hlt2]⟩
      have hxe : (lessK W G j)[z] = x := by have h := hxk; rw [List.getElem?_eq_getElem hlt2] at h; exact Option.some.inj h
      refine H.drw fun w H => ?_
      refine ⟨by omega, by omega, ?_⟩
      obtain ⟨ab, ao, rfl, hcell⟩ := (H.osl (xs := lessK W G j)) z _ hxk
      simp only [okP_some, pb_some, po_some, toNat_nat]
      refine ⟨_, hcell 0 _ rfl, by omega, by omega, ?_⟩
      obtain ⟨gb, go, rfl, hcell2⟩ := (H.osl (xs := G)) j _ hg
      simp only [okP_some, pb_some, po_some, toNat_nat]
      refine ⟨_, hcell2 0 _ rfl, ?_⟩
      have htk : (lessK W G j).take (z + 1) = (lessK W G j).take z ++ [x] := by rw [List.take_succ_eq_append_getElem hlt2, hxe]
      have hk1 : IntKind.wrap .i64 ((z : Int) + 1) = ((z + 1 : Nat) : Int) := by rw [← Int.natCast_succ, wrap64_nat (by omega)]
      refine br_intro (fun hne => ?_) fun hne => ?_
      · refine ⟨by omega, by omega, _, hcell 0 _ rfl, ?_⟩
        have hfl := List.length_filter_le (fun x => x != g) ((lessK W G j).take z)
        rw [List.length_take] at hfl
        refine St.app1 H elI_ x fun b5 a5 c5 w H => ?_
        have e1 : ((lessK W G j).take z).filter (fun x => x != g) ++ [x] = ((lessK W G j).take (z + 1)).filter (fun x => x != g) := by rw [htk, List.filter_append]; simp [hne]
        rw [e1] at H ⊢
        exact ⟨(lessK W G j).length - (z + 1), by omega, z + 1, hk1, by omega, rfl, rfl, H⟩
      · have e1 : ((lessK W G j).take z).filter (fun x => x != g) = ((lessK W G j).take (z + 1)).filter (fun x => x != g) := by rw [htk, List.filter_append]; simp [hne]
        rw [e1] at H ⊢
        exact ⟨(lessK W G j).length - (z + 1), by omega, z + 1, hk1, by omega, rfl, rfl, H⟩
    · have hze : z = (lessK W G j).length := by omega
      subst hze
      rw [List.take_length, lessK_succ hg] at H ⊢
      have hlen : (lessK W G (j + 1)).length = (lessK W G j).length - 1 := by
        rw [← lessK_succ hg]
        exact filter_ne_len (hW.sublist List.filter_sublist) (lessK_mem hG hs hg)
      have hpos : 0 < (lessK W G j).length := List.length_pos_of_mem (lessK_mem hG hs hg)
      have hw : IntKind.wrap .i64 (((lessK W G j).length : Int) - 1) = (((lessK W G j).length - 1 : Nat) : Int) := by rw [wrap64_in (by omega) (by omega)]; omega
      refine br_f (by rw [hw, hlen]; simp) ?_
      have hk1 : IntKind.wrap .i64 ((j : Int) + 1) = ((j + 1 : Nat) : Int) := by rw [← Int.natCast_succ, wrap64_nat (by omega)]
      exact ⟨G.length - (j + 1), by omega, j + 1, hk1, by omega, rfl, rfl, H.re⟩
  · have hje : j = G.length := by omega
    subst hje
    rw [hend] at H ⊢
    try simp only [okP_some]
    refine ev_List H.at_ hf (by omega) fun a2 c2 w H => ?_
    have : s.l.list.length = (ids s.l).length := by rw [list_len]; simp [ids]
    refine br_f (by rw [this]; simp) (nx _ _ _ H.re)

theorem ids_nodup {s : LS} {n : Nat} (h : s.fit n) : (ids s).Nodup := h.ok.ids
theorem ids_len (s : LS) : (ids s).length = s.ws.length := by simp [ids]
theorem lessK_all (W : List Int) (s : LS) (p : Wt → Bool) (G : List Int) (hW : W = ids s) (hp : ∀ x ∈ s.ws, G.contains x.id = !p x) : lessK W G G.length = (s.ws.filter p).map (·.id) := by
  subst hW
  unfold lessK ids
  rw [List.take_length, List.filter_map]
  congr 1
  refine List.filter_congr fun x hx => ?_
  simp only [Function.comp]
  rw [hp x hx, Bool.not_not]

theorem EventOnce_any {w0 : World} {a : Option Addr} {c : Nat} {xs : List ECall} (hx : SlR encE w0 a xs) :
    Calls Try.prog 12 #[.slice a xs.length c] w0 (Ret fun v w' => v = .bool true ∧ Ch [] w0 w') := by
  have H := St.init w0
  have hx := hx.sli
  have hm := hle_refl (hpOf w0)
  apply purlinlaw16_EventOnce.calls
  unfold purlinlaw16_EventOnce.F
  refine Calls.ret (event_New_sp H false) ?_
  rintro v w1 ⟨eb, rfl, H⟩
  refine ⟨_, rfl, ?_⟩
  refine Calls.ret (awake16_sp H) ?_
  rintro v w2 ⟨rfl, H⟩
  refine ⟨_, rfl, br_f rfl (br_f rfl ?_)⟩
  refine St.newOwn (E := Enc.int .i64) H [] (by simp) fun b w H => ?_
  refine ⟨fun n wa wN wc i w' => ∃ (k : Nat) (s : ES), i = k ∧ k ≤ 60 ∧ n = 60 - k ∧ s.l.fit k ∧ wN = (ids s.l).length ∧ St w0 (hpOf w0) w' [own (Enc.int .i64) 3 wa wc (ids s.l), event eb s],
    ⟨_, 0, ⟨LS.new, false⟩, rfl, by omega, rfl, LS.new_fit 0, rfl, H⟩, ?_⟩
  rintro n9 dead w5 wa wN wc i ⟨k, s, rfl, hk, rfl, hf, rfl, H⟩
  unfold purlinlaw16_EventOnce.L0
  refine br_dec (fun hlt => br_dec (fun hlt2 => ?_) fun _ => ⟨rfl, H.fin hm⟩) fun _ => ⟨rfl, H.fin hm⟩
  have hlt : k < xs.length := by omega
  have hlt2 : k < 60 := by omega
  obtain ⟨x, hxk⟩ : ∃ x, xs[k]? = some x := ⟨xs[k], by simp [hlt]⟩
  have hxe : xs[k] = x := by have h := hxk; rw [List.getElem?_eq_getElem hlt] at h; exact Option.some.inj h
  refine ⟨by omega, by omega, ?_⟩
  obtain ⟨ab, ao, rfl, hcell⟩ := (H.sli hx) k _ hxk
  simp only [okP_some, pb_some, po_some, toNat_nat]
  refine ⟨_, hcell 0 _ rfl, _, hcell 1 _ rfl, _, hcell 2 _ rfl, _, hcell 3 _ rfl, ?_⟩
  refine H.new fun b1 w H => H.st fun w H => ?_
  refine St.newOwn (E := Enc.int .i64) H [] (by simp) fun b2 w H => ⟨_, H.ld, ?_⟩
  have hwl : (ids s.l).length ≤ 1000 := by rw [ids_len]; have := hf.len; omega
  have nx : ∀ (s' : ES), s'.l.fit (k + 1) → ∀ a c w, St w0 (hpOf w0) w [own (Enc.int .i64) 3 a c (ids s'.l), event eb s'] →
      ∃ m, m < 60 - k ∧ ∃ (k_1 : Nat) (s : ES), IntKind.wrap .i64 ((k : Int) + 1) = k_1 ∧ k_1 ≤ 60 ∧ m = 60 - k_1 ∧ s.l.fit k_1 ∧ (ids s'.l).length = (ids s.l).length ∧ St w0 (hpOf w0) w [own (Enc.int .i64) 3 a c (ids s.l), event eb s] :=
    fun s' hf' a c w H => ⟨60 - (k + 1), by omega, k + 1, s', wrapk1 (by omega), by omega, rfl, hf', rfl, H⟩
  have same0 : ∀ {w : World} {s' : ES} {wa : Option Addr} {wc : Nat} {g : Option Addr} {gc : Nat} {Nx0 : Option Addr → Nat → Nat → Int → World → Prop}, s'.l.fit (k + 1) →
      St w0 (hpOf w0) w [own (Enc.int .i64) 3 wa wc (ids s'.l), own (Enc.int .i64) 3 g gc [], event eb s'] → (∀ a c w, St w0 (hpOf w0) w [own (Enc.int .i64) 3 a c (ids s'.l), event eb s'] → Nx0 a (ids s'.l).length c (IntKind.wrap .i64 ((k : Int) + 1)) w) →
      purlinlaw16_EventOnce.K0 (fun v w' => v = .bool true ∧ Ch [] w0 w') (some ⟨eb, 0, none⟩) k Nx0 wa (ids s'.l).length wc g 0 gc w :=
    fun hf' H hn => once_K0 (G := []) H (ids_nodup hf') List.nodup_nil (by simp) (by simp [lessK]) (by rw [ids_len]; have := hf'.len; omega) (by simp) hf' (by omega) hn
  refine br_intro (fun h0 => ?_) fun h0 => br_intro (fun h1 => ?_) fun h1 => br_intro (fun h2 => ?_) fun h2 => br_intro (fun h3 => ?_) fun h3 => br_intro (fun h4 => ?_) fun h4 => ?_
  · refine ⟨_, H.ld, _, H.ld, _, H.ld, ?_⟩
    refine Calls.ret (event_Wait_sp H.at_ hf (by omega) x.id x.prio x.until_) ?_
    rintro v w2 ⟨rfl, H⟩
    refine ⟨_, _, rfl, ?_⟩
    have hf' := ES.fit_wait hf x.id x.prio x.until_
    have keep : s.wait x.id x.prio x.until_ = s → purlinlaw16_EventOnce.K0 (fun v w' => v = .bool true ∧ Ch [] w0 w') (some ⟨eb, 0, none⟩) k
        (fun x0 x1 x2 x3 w9 => ∃ m, m < 60 - k ∧ ∃ (k : Nat) (s : ES), x3 = k ∧ k ≤ 60 ∧ m = 60 - k ∧ s.l.fit k ∧ x1 = (ids s.l).length ∧ St w0 (hpOf w0) w9 [own (Enc.int .i64) 3 x0 x2 (ids s.l), event eb s]) wa (ids s.l).length wc (some ⟨b2, 0, none⟩) 0 0 w2 := by
      intro he
      rw [he] at H
      exact same0 (s' := s) (hf.mono (by omega)) H.re (nx s (hf.mono (by omega)))
    by_cases hacc : s.l.err x.id x.prio (-1) ≠ 0 ∨ s.up = true ∨ x.until_ = 0
    · have hkeep := keep (by unfold ES.wait; rw [if_pos hacc])
      refine br_intro (fun hb => br_intro (fun he => ⟨_, H.ld, br_intro (fun hu => ?_) fun hu => hkeep⟩) fun he => hkeep) fun hb => hkeep
      exfalso
      have hu : x.until_ ≠ 0 := by simpa using hu
      have he : s.waitE x.id x.prio x.until_ = 0 := by simpa using he
      have hb : s.waitB x.id x.prio = false := by simpa using hb
      unfold ES.waitE at he
      unfold ES.waitB at hb
      by_cases h1 : s.l.err x.id x.prio (-1) = 0
      · rcases hacc with h | h | h
        · exact h h1
        · simp [h1, h] at hb
        · exact hu h
      · rw [if_pos h1] at he; exact h1 he
    · have hu : x.until_ ≠ 0 := fun h => hacc (.inr (.inr h))
      have hup : s.up = false := by cases h : s.up with | false => rfl | true => exact absurd (.inr (.inl h)) hacc
      have h1 : s.l.err x.id x.prio (-1) = 0 := by
        by_cases h : s.l.err x.id x.prio (-1) = 0
        · exact h
        · exact absurd (.inl h) hacc
      have hst : s.wait x.id x.prio x.until_ = ⟨s.l.put x.id x.prio x.until_, s.up⟩ := by unfold ES.wait; rw [if_neg hacc]
      have hE : s.waitE x.id x.prio x.until_ = s.l.err x.id x.prio x.until_ := by unfold ES.waitE; simp [h1, hup, hu]
      refine br_t (by simp [ES.waitB, hup]) ?_
      rw [hE]
      refine br_intro (fun he => ⟨_, H.ld, br_t (by simpa using hu) ⟨_, H.ld, ?_⟩⟩) fun he => keep (by rw [hst, put_bad (by simpa using he)])
      have he : s.l.err x.id x.prio x.until_ = 0 := by simpa using he
      have hids : ids (s.wait x.id x.prio x.until_).l = ids s.l ++ [x.id] := by
        rw [hst]
        show ids (s.l.put x.id x.prio x.until_) = _
        unfold LS.put ids; rw [if_pos he]
        simp [LS.add]
      refine St.app1 (H.at_ (A := own (Enc.int .i64) 3 wa wc (ids s.l))) elI_ x.id fun b3 a3 c3 w H => ?_
      rw [← hids] at H ⊢
      exact same0 (s' := s.wait x.id x.prio x.until_) hf' H.re (nx _ hf')
  · refine Calls.ret (event_Set_sp H.at_ hf (by omega)) ?_
    rintro v w2 ⟨a2, c2, rfl, H⟩
    refine ⟨_, _, _, rfl, ?_⟩
    have hf' : s.set.l.fit (k + 1) := (ES.fit_set hf).mono (by omega)
    refine once_K0 (W := ids s.l) (s := s.set) H.re (ids_nodup hf) (list_nodup hf.ok) (fun g hg => ?_) ?_ hwl (by rw [list_len]; have := hf.len; omega) hf' (by omega) (nx _ hf')
    · obtain ⟨x, hx, he⟩ := LS.has_iff.1 (mem_list.1 hg)
      exact List.mem_map.2 ⟨x, hx, he⟩
    · rw [lessK_all (ids s.l) s.l (fun _ => false) s.l.list rfl (fun x hx => ?_)]
      · have : s.l.ws.filter (fun _ => false) = [] := by simp
        rw [this]; rfl
      · have : x.id ∈ s.l.list := mem_list.2 (LS.has_iff.2 ⟨x, hx, rfl⟩)
        simp [this]
  · refine Calls.ret (event_Reset_sp H.at_) ?_
    rintro v w1 ⟨rfl, H⟩
    refine ⟨rfl, ?_⟩
    exact same0 (s' := s.reset) (hf.mono (by omega)) H.re (nx s.reset (hf.mono (by omega)))
  · refine H.drw fun w H => ?_
    try simp only [okP_some]
    obtain ⟨lb, hc, hd⟩ := ev_Drop (H.at_ (A := event eb s)) x.id
    refine ⟨_, hc, _, H.ld, _, _, _, meth_Drop, ?_⟩
    refine Calls.ret hd ?_
    rintro v w2 ⟨rfl, H⟩
    refine ⟨_, rfl, ?_⟩
    have hf' : (s.drop x.id).l.fit (k + 1) := (hf.without _).mono (by omega)
    cases hh : s.l.has x.id with
    | true =>
      refine br_t rfl ⟨_, H.ld, ?_⟩
      refine St.app1 (xs := []) (a := some ⟨b2, 0, none⟩) (c := 0) H elI_ x.id fun b6 a6 c6 w H => ?_
      refine once_K0 (W := ids s.l) (G := [x.id]) (s := s.drop x.id) H.re (ids_nodup hf) (by simp) (fun g hg => ?_) ?_ hwl (by simp) hf' (by omega) (nx _ hf')
      · simp at hg; subst hg
        obtain ⟨y, hy, he⟩ := LS.has_iff.1 hh
        exact List.mem_map.2 ⟨y, hy, he⟩
      · rw [lessK_all (ids s.l) s.l (fun y => y.id != x.id) [x.id] rfl (fun y hy => by
          by_cases h : y.id = x.id <;> simp [h])]
        rfl
    | false =>
      have he : s.drop x.id = s := by unfold ES.drop; rw [without_none hh]
      rw [he] at H
      refine br_f rfl ?_
      exact same0 (s' := s) (hf.mono (by omega)) H.re (nx s (hf.mono (by omega)))
  · refine H.drw fun w H => ?_
    try simp only [okP_some]
    obtain ⟨lb, hc, hd⟩ := ev_Expire (H.at_ (A := event eb s)) hf (by omega) x.until_
    refine ⟨_, hc, _, H.ld, _, _, _, meth_Expire, ?_⟩
    refine Calls.ret hd ?_
    rintro v w2 ⟨a2, c2, rfl, H⟩
    refine ⟨_, _, _, _, rfl, ?_⟩
    have hf' : (s.exp x.until_).l.fit (k + 1) := (LS.fit.exp hf _).mono (by omega)
    by_cases hl : s.l.late x.until_
    · have h1 : s.l.goneL x.until_ = [] := by unfold LS.goneL; rw [if_pos hl]
      have h2 : s.exp x.until_ = s := by unfold ES.exp LS.exp; rw [if_pos hl]
      rw [h1] at H ⊢
      rw [h2] at H
      exact same0 (s' := s) (hf.mono (by omega)) H.re (nx s (hf.mono (by omega)))
    · have h1 : s.l.goneL x.until_ = (ordE (s.l.gone x.until_)).map Wt.id := by unfold LS.goneL; rw [if_neg hl]
      have hperm := (ordE_perm (s.l.gone x.until_)).map Wt.id
      have hmem : ∀ y ∈ s.l.ws, (s.l.goneL x.until_).contains y.id = !(!(decide (y.until_ ≠ -1) && decide (y.until_ ≤ x.until_))) := by
        intro y hy
        rw [h1, Bool.not_not, Bool.eq_iff_iff, List.contains_iff_mem, hperm.mem_iff]
        unfold LS.gone
        rw [List.mem_map]
        constructor
        · rintro ⟨z, hz, he⟩
          obtain ⟨hz1, hz2⟩ := List.mem_filter.1 hz
          have : z = y := by
            have hn := hf.ok.ids
            have hi := inj_of_nodup hn hz1 hy he
            exact hi
          subst this; exact hz2
        · intro h; exact ⟨y, List.mem_filter.2 ⟨hy, h⟩, rfl⟩
      refine once_K0 (W := ids s.l) (s := s.exp x.until_) H.re (ids_nodup hf) ?_ (fun g hg => ?_) ?_ hwl ?_ hf' (by omega) (nx _ hf')
      · rw [h1]
        exact hperm.nodup_iff.2 (hf.ok.ids.sublist (List.filter_sublist.map _))
      · rw [h1] at hg
        obtain ⟨z, hz, he⟩ := List.mem_map.1 (hperm.mem_iff.1 hg)
        exact List.mem_map.2 ⟨z, (List.mem_filter.1 hz).1, he⟩
      · rw [lessK_all (ids s.l) s.l _ _ rfl hmem]
        unfold ES.exp LS.exp; rw [if_neg hl]; rfl
      · rw [h1, List.length_map, (ordE_perm _).length_eq]
        have := List.length_filter_le (fun y : Wt => decide (y.until_ ≠ -1) && decide (y.until_ ≤ x.until_)) s.l.ws
        have := hf.len
        unfold LS.gone; omega
  · exact same0 (s' := s) (hf.mono (by omega)) H.re (nx s (hf.mono (by omega)))
end Go.Proofs.Ytecacohkkdhphaa
