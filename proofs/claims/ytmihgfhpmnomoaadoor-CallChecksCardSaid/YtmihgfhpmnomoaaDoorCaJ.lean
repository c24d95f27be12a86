/- Calls: Parse, walked. Conditions: none. -/
import Derived.Test.YtmihgfhpmnomoaaDoorCaI
namespace Go.Proofs.YtmihgfhpmnomoaaDoor
open Go.Vc Go.Lib
set_option linter.unusedSimpArgs false
set_option linter.unusedVariables false
set_option maxRecDepth 100000

def Bad (t : List UInt8) : Prop := ∀ (op' a' b' : Int) (s' : ByteArray), rightE op' a' b' s' = 0 → inR a' → inR b' → t ≠ showL op' a' b' s'.data.toList
theorem right_ok {op a b : Int} {s : ByteArray} (h1 : 1 ≤ op) (h2 : op ≤ 30) (hA : fA op = false → a = 0) (hB : fB op = false → b = 0) (hS : fS op = false → s = ⟨#[]⟩) : rightE op a b s = 0 := by
  unfold rightE
  rw [if_neg (nameB_in h1 h2), if_neg]
  rintro (⟨x, y⟩ | ⟨x, y⟩ | ⟨x, y⟩)
  · exact y (hA x)
  · exact y (hB x)
  · exact y (hS x)
section
variable {e w : World} {m : Hp} {L : List HP}
theorem call_Parse_sp (H : St e m w L) (hv : LibV m) (t : ByteArray) (ht : t.size ≤ 1000000) : Calls Tryd.prog 16 #[.string t] w
    (Ret fun v w' => ∃ (op a b : Int) (s : ByteArray) (er : Int), v = .tuple #[.agg #[.int .i64 op, .int .i64 a, .int .i64 b, .string s], .int .i64 er] ∧ parseR t.data.toList op a b s er ∧ St e m w' L) := by
  apply call_Parse.calls
  unfold call_Parse.F
  obtain ⟨R, hR⟩ : ∃ R : Value → World → Prop, R = fun v w' => ∃ (op a b : Int) (s : ByteArray) (er : Int), v = .tuple #[.agg #[.int .i64 op, .int .i64 a, .int .i64 b, .string s], .int .i64 er] ∧ parseR t.data.toList op a b s er ∧ St e m w' L := ⟨_, rfl⟩
  rw [← hR]
  have rbad : ∀ {w : World}, Bad t.data.toList → St e m w L → R (.tuple #[.agg #[.int .i64 0, .int .i64 0, .int .i64 0, .string ⟨#[]⟩], .int .i64 223]) w :=
    fun h H => by rw [hR]; exact ⟨0, 0, 0, ⟨#[]⟩, 223, rfl, .inr ⟨rfl, rfl, rfl, rfl, rfl, h⟩, H⟩
  refine H.new fun bk w H => ?_
  refine Calls.ret (Cut_sp H hv t _ ht) ?_
  rintro v w2 ⟨rfl, H⟩
  refine ⟨_, _, _, rfl, ?_⟩
  obtain ⟨k, hk, hcut⟩ := cut_first t.data.toList
  rw [show (⟨#[32]⟩ : ByteArray).data.toList = [32] from rfl, hcut]
  refine Calls.ret (call_Number_sp H (baL (t.data.toList.take k))) ?_
  rintro v w3 ⟨op, ok, rfl, hok, hno, rfl⟩
  refine ⟨_, _, rfl, ?_⟩
  cases ok with
  | false =>
    refine br_t rfl ?_
    refine H.st fun w H => ?_
    refine ⟨_, H.ld, _, H.ld, _, H.ld, _, H.ld, ?_⟩
    refine rbad (fun op' a' b' s' hr ha hb he => ?_) H.drop
    obtain ⟨r1, r2⟩ := right_in hr
    rw [showL_eq] at he
    have := firstIx_app (nameL_no32 r1 r2) (blanky_A op' a' b' s'.data.toList)
    rw [← he] at this
    have hkk := firstIx_one hk this
    apply (hno rfl).2 op' r1 r2
    rw [hkk, he, List.take_left]; rfl
  | true =>
    refine br_f rfl ?_
    obtain ⟨o1, o2, hname⟩ := hok rfl
    have hnl : t.data.toList.take k = nameL op := by
      have := congrArg (fun z : ByteArray => z.data.toList) hname
      exact this
    obtain ⟨rest, hrest⟩ : ∃ rest, rest = t.data.toList.drop k := ⟨_, rfl⟩
    have htl : t.data.toList = nameL op ++ rest := by rw [← hnl, hrest, List.take_append_drop]
    have hbl : blanky rest := by rw [hrest]; exact hk.at_
    have htlen : t.data.toList.length ≤ 1000000 := by rw [← ba_size]; exact ht
    have hrl : rest.length ≤ 1000000 := by rw [hrest]; simp; omega
    have hklen : (nameL op).length = k := by rw [← hnl, List.length_take]; have := hk.le; omega
    have hbadA : badA op rest → Bad t.data.toList := by
      intro h op' a' b' s' hr ha hb he
      obtain ⟨r1, r2⟩ := right_in hr
      rw [showL_eq, htl] at he
      obtain ⟨x1, x2⟩ := word_one (nameL_no32 o1 o2) (nameL_no32 r1 r2) hbl (blanky_A _ _ _ _) he
      have : op = op' := nameB_inj o1 o2 r1 r2 (by unfold nameB; rw [x1])
      subst this
      exact h a' b' s' hr ha hb x2
    have k1 : ∀ (okk : Bool) (r : ByteArray) (a b : Int) (s : ByteArray) (xB hB : Nat) (w : World), (okk = true → inR a ∧ inR b) → (okk = true → r.data.toList = [] → rightE op a b s = 0 ∧ t.data.toList = showL op a b s.data.toList) → (okk = false ∨ r.data.toList ≠ [] → Bad t.data.toList) →
        St e m w (row xB 30 [.int .i64 op, .int .i64 a, .int .i64 b, .string s] :: row hB 53 [.bool (fA op), .bool (fB op), .bool (fS op)] :: row bk 30 [.int .i64 0, .int .i64 0, .int .i64 0, .string ⟨#[]⟩] :: L) → call_Parse.K1 R bk xB okk r w := by
      intro okk r a b s xB hB w hab h1 h2 H
      unfold call_Parse.K1
      refine br_intro (fun ho => ?_) fun ho => ?_
      · refine H.at_ (A := row bk _ _) |>.st fun w H => ?_
        unfold call_Parse.K0
        refine ⟨_, H.ld, _, H.ld, _, H.ld, _, H.ld, rbad (h2 (.inl (by simpa using ho))) H.drop.drop.drop⟩
      · rw [ba_beq]
        refine br_intro (fun hr => ?_) fun hr => ?_
        · refine H.at_ (A := row bk _ _) |>.st fun w H => ?_
          unfold call_Parse.K0
          refine ⟨_, H.ld, _, H.ld, _, H.ld, _, H.ld, rbad (h2 (.inr fun h => ?_)) H.drop.drop.drop⟩
          have : ¬ r = ⟨#[]⟩ := by simpa using hr
          exact this (by rw [← baL_of r, h]; rfl)
        · have hr : r = ⟨#[]⟩ := by simpa using hr
          refine ⟨_, H.ld, _, H.ld, _, H.ld, _, H.ld, ?_⟩
          refine H.at_ (A := row bk _ _) |>.st fun w H => ?_
          refine ⟨_, H.ld, _, H.ld, _, H.ld, _, H.ld, ?_⟩
          obtain ⟨g1, g2⟩ := h1 (by simpa using ho) (by rw [hr])
          rw [hR]
          exact ⟨op, a, b, s, 0, rfl, .inl ⟨rfl, g1, (hab (by simpa using ho)).1, (hab (by simpa using ho)).2, g2⟩, H.drop.drop.drop⟩
    have k2 : ∀ (okk : Bool) (r : ByteArray) (a b : Int) (xB hB : Nat) (w : World), (okk = true → inR a ∧ inR b) → (fA op = false → a = 0) → (fB op = false → b = 0) → (okk = true → (badS op r.data.toList → Bad t.data.toList) ∧ ∀ s, r.data.toList = tailS op s → t.data.toList = showL op a b s) → (okk = false → Bad t.data.toList) →
        St e m w (row xB 30 [.int .i64 op, .int .i64 a, .int .i64 b, .string ⟨#[]⟩] :: row hB 53 [.bool (fA op), .bool (fB op), .bool (fS op)] :: row bk 30 [.int .i64 0, .int .i64 0, .int .i64 0, .string ⟨#[]⟩] :: L) → call_Parse.K2 R bk xB hB okk r w := by
      intro okk r a b xB hB w hab zA zB h1 h2 H
      unfold call_Parse.K2
      have plain : fS op = false ∨ okk = false → call_Parse.K1 R bk xB okk r w := by
        intro hc
        refine k1 okk r a b _ xB hB w hab (fun ho hr => ?_) (fun hc2 => ?_) H
        · have hS : fS op = false := hc.resolve_right (by rw [ho]; simp)
          refine ⟨right_ok o1 o2 zA zB (fun _ => rfl), (h1 ho).2 [] ?_⟩
          rw [hr]; unfold tailS; rw [hS]; rfl
        · cases okk with
          | false => exact h2 rfl
          | true =>
            have hS : fS op = false := hc.resolve_right (by simp)
            refine (h1 rfl).1 fun s he => ?_
            unfold tailS at he; rw [hS] at he
            exact (hc2.resolve_left (by simp)) he
      refine ⟨by omega, by omega, _, H.ld, br_intro (fun hS => br_intro (fun ho => ?_) fun ho => plain (.inr ho)) fun hS => plain (.inl hS)⟩
      refine Calls.ret (CutPrefix_sp H r _) ?_
      rintro v w4 ⟨rfl, H⟩
      refine ⟨_, _, rfl, ?_⟩
      refine H.st fun w H => ?_
      rw [show (⟨#[32, 61]⟩ : ByteArray).data.toList = [32, 61] from rfl] at H ⊢
      obtain ⟨g1, g2⟩ := h1 ho
      refine k1 _ _ a b (baL (trimPrefix r.data.toList [32, 61])) xB hB w (fun _ => hab ho) (fun hp _ => ⟨right_ok o1 o2 zA zB (fun h => by rw [hS] at h; cases h), g2 _ ?_⟩) (fun hc => ?_) H
      · unfold tailS
        rw [if_pos hS, baL_data]
        unfold trimPrefix
        rw [if_pos hp]
        unfold hasPrefix at hp
        obtain ⟨z, hz⟩ := List.isPrefixOf_iff_prefix.1 hp
        rw [← hz]; rfl
      · have hp : hasPrefix r.data.toList [32, 61] = false := hc.resolve_right (fun h => h rfl)
        refine g1 fun s he => ?_
        unfold tailS at he
        rw [if_pos hS] at he
        rw [he] at hp
        simp [hasPrefix] at hp
    have z0 : inR 0 := ⟨by decide, by decide⟩
    have k3 : ∀ (okk : Bool) (r : ByteArray) (a : Int) (xB hB : Nat) (w : World), (okk = true → inR a) → (fA op = false → a = 0) → (okk = true → (badB op r.data.toList → Bad t.data.toList) ∧ ∀ b s, r.data.toList = tailB op b s → t.data.toList = showL op a b s) → (okk = false → Bad t.data.toList) → r.size ≤ 1000000 →
        St e m w (row xB 30 [.int .i64 op, .int .i64 a, .int .i64 0, .string ⟨#[]⟩] :: row hB 53 [.bool (fA op), .bool (fB op), .bool (fS op)] :: row bk 30 [.int .i64 0, .int .i64 0, .int .i64 0, .string ⟨#[]⟩] :: L) → call_Parse.K3 R bk xB hB okk r w := by
      intro okk r a xB hB w ha zA h1 h2 hr H
      unfold call_Parse.K3
      have plain : fB op = false ∨ okk = false → call_Parse.K2 R bk xB hB okk r w := by
        intro hc
        refine k2 okk r a 0 xB hB w (fun ho => ⟨ha ho, z0⟩) zA (fun _ => rfl) (fun ho => ?_) h2 H
        have hB : fB op = false := hc.resolve_right (by rw [ho]; simp)
        refine ⟨fun hs => (h1 ho).1 fun b s _ he => hs s ?_, fun s he => (h1 ho).2 0 s ?_⟩
        · unfold tailB at he; rw [hB] at he; simpa using he
        · unfold tailB; rw [hB]; simpa using he
      refine ⟨by omega, by omega, _, H.ld, br_intro (fun hB1 => br_intro (fun ho => ?_) fun ho => plain (.inr ho)) fun hB1 => plain (.inl hB1)⟩
      refine Calls.ret (call_next_sp H hv r hr) ?_
      rintro v w4 ⟨n, r2, ok2, rfl, ⟨q1, q2⟩, hr2, H⟩
      refine ⟨_, _, _, rfl, ?_⟩
      refine H.st fun w H => ?_
      obtain ⟨g1, g2⟩ := h1 ho
      refine k2 ok2 r2 a n xB hB w (fun h => ⟨ha ho, (q1 h).2.1⟩) zA (fun h => by rw [hB1] at h; cases h) (fun h => ?_) (fun h => ?_) H
      · obtain ⟨p1, p2, p3⟩ := q1 h
        refine ⟨fun hs => g1 (by rw [p1]; exact badB_of p2 p3 hs hB1), fun s he => g2 n s ?_⟩
        rw [p1, he]; unfold tailB; rw [if_pos hB1]; rfl
      · refine g1 fun b s hb he => q2 h b _ hb (blanky_S op s.data.toList) ?_
        rw [he]; unfold tailB; rw [if_pos hB1]; rfl
    have hext : t.extract ((baL (t.data.toList.take k)).size : Int).toNat t.size = baL rest := by
      rw [toNat_nat, hnl, baL_size, hklen, ← baL_of t, extract_baL, hrest, baL_of]
      rw [ba_size, List.take_of_length_le (by simp)]
    have k4 : ∀ (xB hB : Nat) (w : World), St e m w (row xB 30 [.int .i64 op, .int .i64 0, .int .i64 0, .string ⟨#[]⟩] :: row hB 53 [.bool (fA op), .bool (fB op), .bool (fS op)] :: row bk 30 [.int .i64 0, .int .i64 0, .int .i64 0, .string ⟨#[]⟩] :: L) →
        call_Parse.K4 t R bk (baL (t.data.toList.take k)) true xB hB w := by
      intro xB hB w H
      unfold call_Parse.K4
      rw [hext]
      refine ⟨by omega, by omega, _, H.ld, br_intro (fun hA => br_t rfl ?_) fun hA => ?_⟩
      · refine Calls.ret (call_next_sp H hv (baL rest) (by rw [baL_size]; exact hrl)) ?_
        rintro v w4 ⟨n, r2, ok2, rfl, ⟨q1, q2⟩, hr2, H⟩
        refine ⟨_, _, _, rfl, ?_⟩
        refine H.st fun w H => ?_
        rw [baL_data] at q1 q2
        refine k3 ok2 r2 n xB hB w (fun h => (q1 h).2.1) (fun h => by rw [hA] at h; cases h) (fun h => ?_) (fun h => ?_) hr2 H
        · obtain ⟨p1, p2, p3⟩ := q1 h
          refine ⟨fun hs => hbadA (by rw [p1]; exact badA_of p2 p3 hs hA), fun b s he => ?_⟩
          rw [showL_eq, htl, p1, he]; unfold tailA; rw [if_pos hA]; rfl
        · refine hbadA fun a b s _ ha _ he => q2 h a _ ha (blanky_B op b s.data.toList) ?_
          rw [he]; unfold tailA; rw [if_pos hA]; rfl
      · refine k3 true (baL rest) 0 xB hB w (fun _ => z0) (fun _ => rfl) (fun _ => ⟨fun hs => hbadA fun a b s _ _ hb he => hs b s hb ?_, fun b s he => ?_⟩) (fun h => (by cases h)) (by rw [baL_size]; exact hrl) H
        · rw [baL_data, he]; unfold tailA; rw [hA]; simp
        · rw [baL_data] at he
          rw [showL_eq, htl, he]; unfold tailA; rw [hA]; simp
    refine H.drwS (fun _ => True) (fun _ _ => trivial) fun w H => ?_
    have hks : (baL (t.data.toList.take k)).size ≤ t.size := by rw [baL_size, ba_size]; simp; omega
    refine ⟨by omega, by omega, ?_, ?_, ?_⟩
    · refine Calls.ret (call_fields_sp H hv.vars op) ?_
      rintro v w4 ⟨rfl, H⟩
      refine ⟨_, _, _, rfl, trivial, ?_, ?_⟩
      · refine H.new fun b1 w H => ⟨trivial, H.new fun b2 w H => ⟨trivial, ?_⟩⟩
        refine H.at_ (A := row b1 _ _) |>.st fun w H => ⟨trivial, ?_⟩
        refine H.at_ (A := row b2 _ _) |>.st fun w H => ⟨trivial, ?_⟩
        exact k4 b1 b2 w H.re
      · refine H.new fun b1 w H => ⟨trivial, H.new fun b2 w H => ⟨trivial, ?_⟩⟩
        refine H.at_ (A := row b2 _ _) |>.st fun w H => ⟨trivial, ?_⟩
        refine H.at_ (A := row b1 _ _) |>.st fun w H => ⟨trivial, ?_⟩
        exact k4 b2 b1 w H.re
    · refine H.new fun b1 w H => ⟨trivial, ?_, ?_⟩
      · refine Calls.ret (call_fields_sp H hv.vars op) ?_
        rintro v w4 ⟨rfl, H⟩
        refine ⟨_, _, _, rfl, trivial, ?_⟩
        refine H.new fun b2 w H => ⟨trivial, ?_⟩
        refine H.at_ (A := row b1 _ _) |>.st fun w H => ⟨trivial, ?_⟩
        refine H.at_ (A := row b2 _ _) |>.st fun w H => ⟨trivial, ?_⟩
        exact k4 b1 b2 w H.re
      · refine H.new fun b2 w H => ⟨trivial, ?_⟩
        refine Calls.ret (call_fields_sp H hv.vars op) ?_
        rintro v w4 ⟨rfl, H⟩
        refine ⟨_, _, _, rfl, trivial, ?_⟩
        refine H.at_ (A := row b1 _ _) |>.st fun w H => ⟨trivial, ?_⟩
        refine H.at_ (A := row b2 _ _) |>.st fun w H => ⟨trivial, ?_⟩
        exact k4 b1 b2 w H.re
    · refine H.new fun b1 w H => ⟨trivial, ?_, ?_⟩
      · refine Calls.ret (call_fields_sp H hv.vars op) ?_
        rintro v w4 ⟨rfl, H⟩
        refine ⟨_, _, _, rfl, trivial, ?_⟩
        refine H.new fun b2 w H => ⟨trivial, ?_⟩
        refine H.at_ (A := row b2 _ _) |>.st fun w H => ⟨trivial, ?_⟩
        refine H.at_ (A := row b1 _ _) |>.st fun w H => ⟨trivial, ?_⟩
        exact k4 b2 b1 w H.re
      · refine H.new fun b2 w H => ⟨trivial, ?_⟩
        refine Calls.ret (call_fields_sp H hv.vars op) ?_
        rintro v w4 ⟨rfl, H⟩
        refine ⟨_, _, _, rfl, trivial, ?_⟩
        refine H.at_ (A := row b2 _ _) |>.st fun w H => ⟨trivial, ?_⟩
        refine H.at_ (A := row b1 _ _) |>.st fun w H => ⟨trivial, ?_⟩
        exact k4 b2 b1 w H.re
end
end Go.Proofs.YtmihgfhpmnomoaaDoor
