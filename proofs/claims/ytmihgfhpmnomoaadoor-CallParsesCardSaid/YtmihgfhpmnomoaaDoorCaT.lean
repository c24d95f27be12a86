/- Calls: the document's Parse; CallParses. Conditions: none. -/
import Derived.Test.YtmihgfhpmnomoaaDoorCaV
import Derived.Test.YtmihgfhpmnomoaaDoorCl3
namespace Go.Proofs.YtmihgfhpmnomoaaDoor
open Go.Vc Go.Lib
set_option linter.unusedSimpArgs false
set_option linter.unusedVariables false
set_option maxRecDepth 100000

theorem len2 {α : Type} {l : List α} (h : l.length = 2) : ∃ y z, l = [y, z] := by
  match l, h with
  | [y, z], _ => exact ⟨y, z, rfl⟩
theorem nameL_inj {a b : Int} (a1 : 1 ≤ a) (a2 : a ≤ 30) (b1 : 1 ≤ b) (b2 : b ≤ 30) (h : nameL a = nameL b) : a = b :=
  nameB_inj a1 a2 b1 b2 (by show baL (nameL a) = baL (nameL b); rw [h])
theorem has_cases {op : Int} (h1 : 1 ≤ op) (h2 : op ≤ 30) : hasN op = 0 ∨ hasN op = 1 ∨ hasN op = 2 ∨ hasN op = 3 :=
  op30 (p := fun op => hasN op = 0 ∨ hasN op = 1 ∨ hasN op = 2 ∨ hasN op = 3) (by decide +kernel) h1 h2
/-- The first word does not hang on how many are wanted. -/
theorem wordsA_head : ∀ (l acc : List UInt8) (k k' : Nat), ∃ x r r', wordsA (k + 1) acc l = x :: r ∧ wordsA (k' + 1) acc l = x :: r'
  | [], acc, k, k' => ⟨acc, [], [], rfl, rfl⟩
  | c :: r, acc, k, k' => by
    unfold wordsA
    split
    · exact ⟨acc, _, _, rfl, rfl⟩
    · exact wordsA_head r (acc ++ [c]) k k'
/-- A call's text's words. -/
theorem words_show {op a b : Int} {s : List UInt8} (h1 : 1 ≤ op) (h2 : op ≤ 30) (ha : inR a) (hb : inR b) :
    (∃ r, wordsA 1 [] (showL op a b s) = nameL op :: r) ∧ (hasN op = 0 → wordsA 3 [] (showL op a b s) = [nameL op]) ∧ (hasN op = 1 → wordsA 3 [] (showL op a b s) = [nameL op, itoa a]) ∧
    (hasN op = 2 → wordsA 3 [] (showL op a b s) = [nameL op, itoa a, itoa b]) ∧ (hasN op = 3 → wordsA 2 [] (showL op a b s) = [nameL op, itoa a, 61 :: s]) := by
  obtain ⟨hA, hB, hS⟩ := has_of h1 h2
  have n1 := nameL_no32 h1 h2
  have n2 := itoa_no32 ha
  have n3 := itoa_no32 hb
  rcases has_cases h1 h2 with h | h | h | h <;> rw [h] at hA hB hS <;> unfold showL <;> rw [hA, hB, hS] <;> simp only [h]
  · refine ⟨⟨[], ?_⟩, fun _ => ?_, fun h => by omega, fun h => by omega, fun h => by omega⟩
    · rw [show nameL op ++ ((if (!(0 : Int) == 0) = true then 32 :: itoa a else []) ++ ((if ((0 : Int) == 2) = true then 32 :: itoa b else []) ++ (if ((0 : Int) == 3) = true then 32 :: 61 :: s else []))) = nameL op by simp]
      exact wordsA_none n1
    · rw [show nameL op ++ ((if (!(0 : Int) == 0) = true then 32 :: itoa a else []) ++ ((if ((0 : Int) == 2) = true then 32 :: itoa b else []) ++ (if ((0 : Int) == 3) = true then 32 :: 61 :: s else []))) = nameL op by simp]
      exact wordsA_none n1
  · rw [show nameL op ++ ((if (!(1 : Int) == 0) = true then 32 :: itoa a else []) ++ ((if ((1 : Int) == 2) = true then 32 :: itoa b else []) ++ (if ((1 : Int) == 3) = true then 32 :: 61 :: s else []))) = nameL op ++ 32 :: itoa a by simp]
    refine ⟨⟨_, wordsA_cons n1⟩, fun h => by omega, fun _ => ?_, fun h => by omega, fun h => by omega⟩
    rw [wordsA_cons n1, wordsA_none n2]; rfl
  · rw [show nameL op ++ ((if (!(2 : Int) == 0) = true then 32 :: itoa a else []) ++ ((if ((2 : Int) == 2) = true then 32 :: itoa b else []) ++ (if ((2 : Int) == 3) = true then 32 :: 61 :: s else []))) = nameL op ++ 32 :: (itoa a ++ 32 :: itoa b) by simp]
    refine ⟨⟨_, wordsA_cons n1⟩, fun h => by omega, fun h => by omega, fun _ => ?_, fun h => by omega⟩
    rw [wordsA_cons n1, wordsA_cons n2, wordsA_none n3]; rfl
  · rw [show nameL op ++ ((if (!(3 : Int) == 0) = true then 32 :: itoa a else []) ++ ((if ((3 : Int) == 2) = true then 32 :: itoa b else []) ++ (if ((3 : Int) == 3) = true then 32 :: 61 :: s else []))) = nameL op ++ 32 :: (itoa a ++ 32 :: 61 :: s) by simp]
    refine ⟨⟨_, wordsA_cons n1⟩, fun h => by omega, fun h => by omega, fun h => by omega, fun _ => ?_⟩
    rw [wordsA_cons n1, wordsA_cons n2, wordsA_zero]; rfl
/-- What is a call's text is that call's whose name is first. -/
theorem show_first {op op' a b : Int} {s : List UInt8} {r : List (List UInt8)} (h1 : 1 ≤ op) (h2 : op ≤ 30) (g1 : 1 ≤ op') (g2 : op' ≤ 30) (ha : inR a) (hb : inR b) (h : wordsA 1 [] (showL op' a b s) = nameL op :: r) : op' = op := by
  obtain ⟨⟨r', e⟩, _⟩ := words_show (s := s) g1 g2 ha hb
  rw [h] at e
  exact (nameL_inj h1 h2 g1 g2 (List.cons.inj e).1).symm

section
variable {e w : World} {m : Hp} {L : List HP}
theorem ref21_Parse_sp (H : St e m w L) (t : ByteArray) (ht : t.size ≤ 1000000) : Calls Tryd.prog 17 #[.string t] w
    (Ret fun v w' => ∃ (op a b : Int) (s : ByteArray) (er : Int), v = .tuple #[.agg #[.int .i64 op, .int .i64 a, .int .i64 b, .string s], .int .i64 er] ∧ parseR t.data.toList op a b s er ∧ St e m w' L) := by
  apply purlinref21_Parse.calls
  unfold purlinref21_Parse.F
  obtain ⟨R, hR⟩ : ∃ R : Value → World → Prop, R = fun v w' => ∃ (op a b : Int) (s : ByteArray) (er : Int), v = .tuple #[.agg #[.int .i64 op, .int .i64 a, .int .i64 b, .string s], .int .i64 er] ∧ parseR t.data.toList op a b s er ∧ St e m w' L := ⟨_, rfl⟩
  rw [← hR]
  refine H.new fun b w H => H.new fun b1 w H => H.st fun w H => ?_
  have H : St e m w (row b1 30 [.int .i64 0, .int .i64 0, .int .i64 0, .string ⟨#[]⟩] :: row b 30 [.int .i64 0, .int .i64 0, .int .i64 0, .string ⟨#[]⟩] :: L) := H
  refine Calls.ret (ref21_words_sp H t 1 (by omega) ht) ?_
  rintro v w2 ⟨A, C, rfl, H⟩
  obtain ⟨l, hl⟩ : ∃ l, l = t.data.toList := ⟨_, rfl⟩
  rw [← hl] at H ⊢
  obtain ⟨x, r, _, hw, _⟩ := wordsA_head l [] 0 0
  have hw : wordsA 1 [] l = x :: r := hw
  rw [hw] at H ⊢
  refine ⟨_, _, _, rfl, ?_⟩
  have bad : ∀ {w3 : World} {L' : List HP}, (∀ (op' a' b' : Int) (s' : ByteArray), rightE op' a' b' s' = 0 → inR a' → inR b' → l ≠ showL op' a' b' s'.data.toList) → St e m w3 L →
      R (.tuple #[.agg #[.int .i64 0, .int .i64 0, .int .i64 0, .string ⟨#[]⟩], .int .i64 223]) w3 := fun hb H => by
    rw [hR]; exact ⟨0, 0, 0, _, 223, rfl, .inr ⟨rfl, rfl, rfl, rfl, rfl, by rw [← hl]; exact hb⟩, H⟩
  refine ⟨fun n q w' => 1 ≤ q ∧ q ≤ 31 ∧ (∀ j : Int, 1 ≤ j → j < q → nameL j ≠ x) ∧ n = (31 - q).toNat ∧ St e m w' (own Enc.str 9 A C ((x :: r).map baL) :: row b1 30 [.int .i64 0, .int .i64 0, .int .i64 0, .string ⟨#[]⟩] :: row b 30 [.int .i64 0, .int .i64 0, .int .i64 0, .string ⟨#[]⟩] :: L),
    ⟨_, by omega, by omega, fun j h1 h2 => by omega, rfl, H⟩, ?_⟩
  rintro n9 dead w3 q ⟨q1, q2, hno, rfl, H⟩
  unfold purlinref21_Parse.L0
  refine br_dec (fun g => ?_) fun g => ?_
  · refine Calls.ret (ref21_Name_sp H q) ?_
    rintro v w4 ⟨rfl, H⟩
    refine ⟨_, _, rfl, by omega, by simp, ?_⟩
    obtain ⟨ab, ao, rfl, hcell⟩ := (H.osl (E := Enc.str) (xs := (x :: r).map baL)) 0 _ rfl
    simp only [okP_some, pb_some, po_some]
    refine ⟨baL x, hcell 0 _ rfl, ?_⟩
    rw [ba_beq]
    refine br_intro (fun g2 => ?_) fun g2 => ?_
    · have hne : nameL q ≠ x := fun h => by
        have : nameB q = baL x := by rw [← h]; rfl
        rw [decide_eq_true this] at g2; cases g2
      rw [wrap64_in (by omega) (by omega)]
      refine ⟨(31 - (q + 1)).toNat, by omega, by omega, by omega, fun j h1 h2 => ?_, rfl, H⟩
      by_cases hj : j = q
      · subst hj; exact hne
      · exact hno j h1 (by omega)
    · have hx : x = nameL q := by
        have g2 : nameB q = baL x := by simpa using g2
        have := congrArg (fun x : ByteArray => x.data.toList) g2
        exact this.symm
      subst hx
      clear hcell
      have first : ∀ {op' a' b' : Int} {s' : ByteArray}, rightE op' a' b' s' = 0 → inR a' → inR b' → l = showL op' a' b' s'.data.toList → op' = q := fun hr ha hb he => by
        obtain ⟨o1, o2⟩ := right_in hr
        rw [he] at hw
        exact show_first q1 (by omega) o1 o2 ha hb hw
      obtain ⟨hA, hB, hS⟩ := has_of q1 (show q ≤ 30 by omega)
      -- what is no call's
      have badL : ∀ {w5 : World}, (∀ (a' b' : Int) (s' : ByteArray), rightE q a' b' s' = 0 → inR a' → inR b' → l ≠ showL q a' b' s'.data.toList) → St e m w5 L →
          R (.tuple #[.agg #[.int .i64 0, .int .i64 0, .int .i64 0, .string ⟨#[]⟩], .int .i64 223]) w5 := fun hb H =>
        bad (L' := L) (fun op' a' b' s' hr ha hb' he => by obtain rfl := first hr ha hb' he; exact hb a' b' s' hr ha hb' he) H
      have ok : ∀ {w5 : World} {a' b' : Int} {s' : ByteArray}, inR a' → inR b' → (fA q = false → a' = 0) → (fB q = false → b' = 0) → (fS q = false → s' = ⟨#[]⟩) → l = showL q a' b' s'.data.toList → St e m w5 L →
          R (.tuple #[.agg #[.int .i64 q, .int .i64 a', .int .i64 b', .string s'], .int .i64 0]) w5 := fun ha hb xa xb xs he H => by
        rw [hR]; exact ⟨q, _, _, _, 0, rfl, .inl ⟨rfl, right_ok q1 (by omega) xa xb xs, ha, hb, by rw [← hl]; exact he⟩, H⟩
      have z0 : inR 0 := by unfold inR; omega
      have k0 : ∀ {w5 : World} (_ : True), (∀ (a' b' : Int) (s' : ByteArray), rightE q a' b' s' = 0 → inR a' → inR b' → l ≠ showL q a' b' s'.data.toList) →
          St e m w5 (row b 30 [.int .i64 0, .int .i64 0, .int .i64 0, .string ⟨#[]⟩] :: row b1 30 [.int .i64 0, .int .i64 0, .int .i64 0, .string ⟨#[]⟩] :: L) → purlinref21_Parse.K4 R b b1 w5 := by
        intro w5 _ hb H
        unfold purlinref21_Parse.K4
        refine ⟨_, H.ld, _, H.ld, _, H.ld, _, H.ld, H.st fun w H => ?_⟩
        unfold purlinref21_Parse.K0
        exact ⟨_, H.ld, _, H.ld, _, H.ld, _, H.ld, badL hb H.drop.drop⟩
      have k2 : ∀ {w5 : World} {b2 : Nat}, (∀ (a' b' : Int) (s' : ByteArray), rightE q a' b' s' = 0 → inR a' → inR b' → l ≠ showL q a' b' s'.data.toList) →
          St e m w5 (row b 30 [.int .i64 0, .int .i64 0, .int .i64 0, .string ⟨#[]⟩] :: row b1 30 [.int .i64 0, .int .i64 0, .int .i64 0, .string ⟨#[]⟩] :: L) → purlinref21_Parse.K2 R b b1 b2 false w5 := by
        intro w5 b2 hb H
        unfold purlinref21_Parse.K2
        refine br_t rfl ⟨_, H.ld, _, H.ld, _, H.ld, _, H.ld, H.st fun w H => ?_⟩
        unfold purlinref21_Parse.K0
        exact ⟨_, H.ld, _, H.ld, _, H.ld, _, H.ld, badL hb H.drop.drop⟩
      have k1 : ∀ {w5 : World} {b2 : Nat} {a' b' : Int} {s' : ByteArray}, inR a' → inR b' → (fA q = false → a' = 0) → (fB q = false → b' = 0) → (fS q = false → s' = ⟨#[]⟩) → l = showL q a' b' s'.data.toList →
          St e m w5 (row b 30 [.int .i64 0, .int .i64 0, .int .i64 0, .string ⟨#[]⟩] :: row b2 30 [.int .i64 q, .int .i64 a', .int .i64 b', .string s'] :: L) → purlinref21_Parse.K1 R b b2 w5 := by
        intro w5 b2 a' b' s' ha hb xa xb xs he H
        unfold purlinref21_Parse.K1
        refine ⟨_, H.ld, _, H.ld, _, H.ld, _, H.ld, H.st fun w H => ?_⟩
        exact ⟨_, H.ld, _, H.ld, _, H.ld, _, H.ld, ok ha hb xa xb xs he H.drop.drop⟩
      have H : St e m w4 (row b 30 [.int .i64 0, .int .i64 0, .int .i64 0, .string ⟨#[]⟩] :: row b1 30 [.int .i64 0, .int .i64 0, .int .i64 0, .string ⟨#[]⟩] :: L) := H.drop.at_
      -- three words at most, or four
      obtain ⟨hs, hhs⟩ : ∃ hs, hs = hasN q := ⟨_, rfl⟩
      rw [← hhs] at hA hB hS ⊢
      have k6 : ∀ K : Nat, K = (if hs = 3 then 2 else 3) → purlinref21_Parse.K6 t R b b1 q hs (K + 1 : Nat) w4 := by
        intro K hK
        unfold purlinref21_Parse.K6
        refine Calls.ret (ref21_words_sp H t K (by rw [hK]; split <;> omega) ht) ?_
        rintro v w5 ⟨A2, C2, rfl, H⟩
        rw [← hl] at H ⊢
        refine ⟨_, _, _, rfl, ?_⟩
        obtain ⟨W, hW⟩ : ∃ W, W = wordsA K [] l := ⟨_, rfl⟩
        rw [← hW] at H ⊢
        have hj : joinL W = l := by rw [hW]; exact joinL_words l K []
        obtain ⟨K', hK'⟩ : ∃ K', K = K' + 1 := ⟨K - 1, by rw [hK]; split <;> rfl⟩
        have hhd : ∃ r', W = nameL q :: r' := by
          obtain ⟨x', r1, r2, e1, e2⟩ := wordsA_head l [] 0 K'
          have e1 : wordsA 1 [] l = x' :: r1 := e1
          rw [hw] at e1
          exact ⟨r2, by rw [hW, hK', e2, (List.cons.inj e1).1]⟩
        have hsz : ∀ y ∈ W, y.length ≤ 1000000 := fun y hy => by
          have : ∀ (W : List (List UInt8)) y, y ∈ W → y.length ≤ (joinL W).length := by
            intro W
            induction W with
            | nil => intro y hy; cases hy
            | cons a W ih =>
              intro y hy
              cases W with
              | nil => rw [List.mem_singleton.1 hy]; exact Nat.le_refl _
              | cons a2 W =>
                show y.length ≤ (a ++ 32 :: joinL (a2 :: W)).length
                rcases List.mem_cons.1 hy with h | h
                · rw [h]; simp
                · have := ih y h; simp; omega
          have h1 := this W y hy
          rw [hj, hl, ← ba_size] at h1
          omega
        obtain ⟨r', hr'⟩ := hhd
        refine H.new fun b2 w H => H.st fun w H => ?_
        have H : St e m w (row b2 30 [.int .i64 q, .int .i64 0, .int .i64 0, .string ⟨#[]⟩] :: own Enc.str 9 A2 C2 (W.map baL) :: row b 30 [.int .i64 0, .int .i64 0, .int .i64 0, .string ⟨#[]⟩] :: row b1 30 [.int .i64 0, .int .i64 0, .int .i64 0, .string ⟨#[]⟩] :: L) := H
        have err : (∀ (a' b' : Int) (s' : ByteArray), rightE q a' b' s' = 0 → inR a' → inR b' → l ≠ showL q a' b' s'.data.toList) → ∃ t45 : Int, w.cell? ⟨b1, 0, none⟩ = some (.int .i64 t45) ∧ ∃ t451 : Int, w.cell? ⟨b1, 1, none⟩ = some (.int .i64 t451) ∧ ∃ t452 : Int, w.cell? ⟨b1, 2, none⟩ = some (.int .i64 t452) ∧ ∃ t453 : ByteArray, w.cell? ⟨b1, 3, none⟩ = some (.string t453) ∧
            storeC w b 0 [.int .i64 t45, .int .i64 t451, .int .i64 t452, .string t453] fun w11 =>
            ∃ r : Int, w11.cell? ⟨b, 0, none⟩ = some (.int .i64 r) ∧ ∃ r1 : Int, w11.cell? ⟨b, 1, none⟩ = some (.int .i64 r1) ∧ ∃ r2 : Int, w11.cell? ⟨b, 2, none⟩ = some (.int .i64 r2) ∧ ∃ r3 : ByteArray, w11.cell? ⟨b, 3, none⟩ = some (.string r3) ∧
            R (.tuple #[.agg #[.int .i64 r, .int .i64 r1, .int .i64 r2, .string r3], .int .i64 223]) w11 := by
          intro hb
          have H := H.drop.drop
          refine ⟨_, H.ld, _, H.ld, _, H.ld, _, H.ld, H.st fun w H => ?_⟩
          exact ⟨_, H.ld, _, H.ld, _, H.ld, _, H.ld, badL hb H.drop.drop⟩
        have sh : ∀ {a' b' : Int} {s' : ByteArray}, rightE q a' b' s' = 0 → inR a' → inR b' → l = showL q a' b' s'.data.toList → (hs = 0 → W = [nameL q]) ∧ (hs = 1 → W = [nameL q, itoa a']) ∧ (hs = 2 → W = [nameL q, itoa a', itoa b']) ∧ (hs = 3 → W = [nameL q, itoa a', 61 :: s'.data.toList]) := fun {a' b' s'} hr ha hb he => by
          obtain ⟨_, c0, c1, c2, c3⟩ := words_show (s := s'.data.toList) q1 (show q ≤ 30 by omega) ha hb
          rw [← he, ← hhs] at c0 c1 c2 c3
          refine ⟨fun h => ?_, fun h => ?_, fun h => ?_, fun h => ?_⟩
          · rw [hW, hK, if_neg (by omega)]; exact c0 h
          · rw [hW, hK, if_neg (by omega)]; exact c1 h
          · rw [hW, hK, if_neg (by omega)]; exact c2 h
          · rw [hW, hK, if_pos h]; exact c3 h
        have err2 : ∀ {w6 : World} {c0 c1 c2 c3 : Value}, (∀ (a' b' : Int) (s' : ByteArray), rightE q a' b' s' = 0 → inR a' → inR b' → l ≠ showL q a' b' s'.data.toList) →
            St e m w6 (row b2 30 [c0, c1, c2, c3] :: own Enc.str 9 A2 C2 (W.map baL) :: row b 30 [.int .i64 0, .int .i64 0, .int .i64 0, .string ⟨#[]⟩] :: row b1 30 [.int .i64 0, .int .i64 0, .int .i64 0, .string ⟨#[]⟩] :: L) → purlinref21_Parse.K2 R b b1 b2 false w6 :=
          fun hb H => k2 hb H.drop.drop
        have fin : ∀ {w6 : World} {a' b' : Int} {s' : ByteArray}, inR a' → inR b' → (fA q = false → a' = 0) → (fB q = false → b' = 0) → (fS q = false → s' = ⟨#[]⟩) → l = showL q a' b' s'.data.toList →
            St e m w6 (row b2 30 [.int .i64 q, .int .i64 a', .int .i64 b', .string s'] :: own Enc.str 9 A2 C2 (W.map baL) :: row b 30 [.int .i64 0, .int .i64 0, .int .i64 0, .string ⟨#[]⟩] :: row b1 30 [.int .i64 0, .int .i64 0, .int .i64 0, .string ⟨#[]⟩] :: L) → purlinref21_Parse.K1 R b b2 w6 :=
          fun ha hb xa xb xs he H => k1 ha hb xa xb xs he H.re
        have nb : ∀ {y : List UInt8} {n : Int}, numR (baL y) n false → (∀ (a' b' : Int) (s' : ByteArray), rightE q a' b' s' = 0 → inR a' → inR b' → l = showL q a' b' s'.data.toList → ∃ v, inR v ∧ y = itoa v) → ∀ (a' b' : Int) (s' : ByteArray), rightE q a' b' s' = 0 → inR a' → inR b' → l ≠ showL q a' b' s'.data.toList :=
          fun hn hy a' b' s' hr ha hb he => by
            obtain ⟨v, hv, e⟩ := hy a' b' s' hr ha hb he
            exact hn.2 rfl v hv e
        have sz : ∀ {y : List UInt8}, y ∈ W → (baL y).size ≤ 1000000 := fun hy => by rw [baL_size]; exact hsz _ hy
        subst hr'
        rcases has_cases q1 (show q ≤ 30 by omega) with h | h | h | h <;> rw [← hhs] at h <;> subst h
        · have hA : fA q = false := by rw [hA]; rfl
          have hB : fB q = false := by rw [hB]; rfl
          have hS : fS q = false := by rw [hS]; rfl
          refine ⟨by omega, by omega, 1, rfl, br_intro (fun g => err fun a' b' s' hr ha hb he => ?_) fun g => ?_⟩
          · have := (sh hr ha hb he).1 rfl
            rw [this] at g; simp at g
          · have : r' = [] := List.length_eq_zero_iff.1 (by have h9 : (r'.length : Int) + 1 = 1 := (by simpa using g); omega)
            subst this
            refine br_f rfl (br_f rfl (br_f rfl (fin z0 z0 (fun _ => rfl) (fun _ => rfl) (fun _ => rfl) ?_ H)))
            rw [← hj]; unfold showL; rw [hA, hB, hS]; simp [joinL]
        · have hA : fA q = true := by rw [hA]; rfl
          have hB : fB q = false := by rw [hB]; rfl
          have hS : fS q = false := by rw [hS]; rfl
          refine ⟨by omega, by omega, 2, rfl, br_intro (fun g => err fun a' b' s' hr ha hb he => ?_) fun g => ?_⟩
          · have := (sh hr ha hb he).2.1 rfl
            rw [this] at g; simp at g
          · obtain ⟨y, rfl⟩ : ∃ y, r' = [y] := List.length_eq_one_iff.1 (by have h9 : (r'.length : Int) + 1 = 2 := (by simpa using g); omega)
            refine br_t rfl ⟨by omega, by simp, ?_⟩
            obtain ⟨ab, ao, rfl, hcell⟩ := (H.osl (E := Enc.str) (xs := ([nameL q, y]).map baL)) 1 _ rfl
            simp only [okP_some, pb_some, po_some]
            refine ⟨baL y, hcell 0 _ rfl, ?_⟩
            refine Calls.ret (ref21_Number_sp H (baL y) (sz (by simp))) ?_
            rintro v w6 ⟨n, ok1, rfl, hn, H⟩
            refine ⟨_, _, rfl, H.st fun w H => ?_⟩
            have H : St e m w (row b2 30 [.int .i64 q, .int .i64 n, .int .i64 0, .string ⟨#[]⟩] :: own Enc.str 9 (some ⟨ab, ao, none⟩) C2 ([nameL q, y].map baL) :: row b 30 [.int .i64 0, .int .i64 0, .int .i64 0, .string ⟨#[]⟩] :: row b1 30 [.int .i64 0, .int .i64 0, .int .i64 0, .string ⟨#[]⟩] :: L) := H
            refine br_f rfl ?_
            unfold purlinref21_Parse.K5
            refine br_f rfl ?_
            cases ok1 with
            | false =>
              refine err2 (nb hn fun a' b' s' hr ha hb he => ?_) H
              have := (sh hr ha hb he).2.1 rfl
              exact ⟨a', ha, by simpa using this⟩
            | true =>
              obtain ⟨hy, hnR⟩ := hn.1 rfl
              have hy : y = itoa n := hy
              unfold purlinref21_Parse.K2
              refine br_f rfl (fin hnR z0 (fun h => by rw [hA] at h; cases h) (fun _ => rfl) (fun _ => rfl) ?_ H)
              rw [← hj]; unfold showL; rw [hA, hB, hS, hy]; simp [joinL]
        · have hA : fA q = true := by rw [hA]; rfl
          have hB : fB q = true := by rw [hB]; rfl
          have hS : fS q = false := by rw [hS]; rfl
          refine ⟨by omega, by omega, 3, rfl, br_intro (fun g => err fun a' b' s' hr ha hb he => ?_) fun g => ?_⟩
          · have := (sh hr ha hb he).2.2.1 rfl
            rw [this] at g; simp at g
          · obtain ⟨y, z, rfl⟩ : ∃ y z, r' = [y, z] := len2 (by have h9 : (r'.length : Int) + 1 = 3 := (by simpa using g); omega)
            refine br_t rfl ⟨by omega, by simp, ?_⟩
            obtain ⟨ab, ao, rfl, hcell⟩ := (H.osl (E := Enc.str) (xs := ([nameL q, y, z]).map baL)) 1 _ rfl
            simp only [okP_some, pb_some, po_some]
            refine ⟨baL y, hcell 0 _ rfl, ?_⟩
            refine Calls.ret (ref21_Number_sp H (baL y) (sz (by simp))) ?_
            rintro v w6 ⟨n, ok1, rfl, hn, H⟩
            refine ⟨_, _, rfl, H.st fun w H => ?_⟩
            have H : St e m w (row b2 30 [.int .i64 q, .int .i64 n, .int .i64 0, .string ⟨#[]⟩] :: own Enc.str 9 (some ⟨ab, ao, none⟩) C2 ([nameL q, y, z].map baL) :: row b 30 [.int .i64 0, .int .i64 0, .int .i64 0, .string ⟨#[]⟩] :: row b1 30 [.int .i64 0, .int .i64 0, .int .i64 0, .string ⟨#[]⟩] :: L) := H
            refine br_t rfl ?_
            cases ok1 with
            | false =>
              refine br_f rfl ?_
              unfold purlinref21_Parse.K5
              refine br_f rfl (err2 (nb hn fun a' b' s' hr ha hb he => ?_) H)
              have := (sh hr ha hb he).2.2.1 rfl
              exact ⟨a', ha, by simp at this; exact this.1⟩
            | true =>
              obtain ⟨hy, hnR⟩ := hn.1 rfl
              have hy : y = itoa n := hy
              refine br_t rfl ⟨by omega, by simp, ?_⟩
              obtain ⟨ab2, ao2, e2, hcell2⟩ := (H.osl (E := Enc.str) (xs := ([nameL q, y, z]).map baL)) 2 _ rfl
              cases e2
              refine ⟨baL z, hcell2 0 _ rfl, ?_⟩
              refine Calls.ret (ref21_Number_sp H (baL z) (sz (by simp))) ?_
              rintro v w7 ⟨n2, ok2, rfl, hn2, H⟩
              refine ⟨_, _, rfl, H.st fun w H => ?_⟩
              have H : St e m w (row b2 30 [.int .i64 q, .int .i64 n, .int .i64 n2, .string ⟨#[]⟩] :: own Enc.str 9 (some ⟨ab, ao, none⟩) C2 ([nameL q, y, z].map baL) :: row b 30 [.int .i64 0, .int .i64 0, .int .i64 0, .string ⟨#[]⟩] :: row b1 30 [.int .i64 0, .int .i64 0, .int .i64 0, .string ⟨#[]⟩] :: L) := H
              unfold purlinref21_Parse.K5
              refine br_f rfl ?_
              cases ok2 with
              | false =>
                refine err2 (nb hn2 fun a' b' s' hr ha hb he => ?_) H
                have := (sh hr ha hb he).2.2.1 rfl
                exact ⟨b', hb, by simp at this; exact this.2⟩
              | true =>
                obtain ⟨hz, hnR2⟩ := hn2.1 rfl
                have hz : z = itoa n2 := hz
                unfold purlinref21_Parse.K2
                refine br_f rfl (fin hnR hnR2 (fun h => by rw [hA] at h; cases h) (fun h => by rw [hB] at h; cases h) (fun _ => rfl) ?_ H)
                rw [← hj]; unfold showL; rw [hA, hB, hS, hy, hz]; simp [joinL]
        · have hA : fA q = true := by rw [hA]; rfl
          have hB : fB q = false := by rw [hB]; rfl
          have hS : fS q = true := by rw [hS]; rfl
          refine ⟨by omega, by omega, 3, rfl, br_intro (fun g => err fun a' b' s' hr ha hb he => ?_) fun g => ?_⟩
          · have := (sh hr ha hb he).2.2.2 rfl
            rw [this] at g; simp at g
          · obtain ⟨y, z, rfl⟩ : ∃ y z, r' = [y, z] := len2 (by have h9 : (r'.length : Int) + 1 = 3 := (by simpa using g); omega)
            refine br_t rfl ⟨by omega, by simp, ?_⟩
            obtain ⟨ab, ao, rfl, hcell⟩ := (H.osl (E := Enc.str) (xs := ([nameL q, y, z]).map baL)) 1 _ rfl
            simp only [okP_some, pb_some, po_some]
            refine ⟨baL y, hcell 0 _ rfl, ?_⟩
            refine Calls.ret (ref21_Number_sp H (baL y) (sz (by simp))) ?_
            rintro v w6 ⟨n, ok1, rfl, hn, H⟩
            refine ⟨_, _, rfl, H.st fun w H => ?_⟩
            have H : St e m w (row b2 30 [.int .i64 q, .int .i64 n, .int .i64 0, .string ⟨#[]⟩] :: own Enc.str 9 (some ⟨ab, ao, none⟩) C2 ([nameL q, y, z].map baL) :: row b 30 [.int .i64 0, .int .i64 0, .int .i64 0, .string ⟨#[]⟩] :: row b1 30 [.int .i64 0, .int .i64 0, .int .i64 0, .string ⟨#[]⟩] :: L) := H
            refine br_f rfl ?_
            unfold purlinref21_Parse.K5
            refine br_t rfl ?_
            cases ok1 with
            | false =>
              refine br_f rfl (err2 (nb hn fun a' b' s' hr ha hb he => ?_) H)
              have := (sh hr ha hb he).2.2.2 rfl
              exact ⟨a', ha, by simp at this; exact this.1⟩
            | true =>
              obtain ⟨hy, hnR⟩ := hn.1 rfl
              have hy : y = itoa n := hy
              have zz : ∀ (a' b' : Int) (s' : ByteArray), rightE q a' b' s' = 0 → inR a' → inR b' → l = showL q a' b' s'.data.toList → z = 61 :: s'.data.toList := fun a' b' s' hr ha hb he => by
                have := (sh hr ha hb he).2.2.2 rfl
                simp at this; exact this.2
              obtain ⟨ab2, ao2, e2, hcell2⟩ := (H.osl (E := Enc.str) (xs := ([nameL q, y, z]).map baL)) 2 _ rfl
              cases e2
              refine br_t rfl ⟨by omega, by simp, ?_⟩
              simp only [okP_some, pb_some, po_some]
              refine ⟨baL z, hcell2 0 _ rfl, ?_⟩
              rw [ba_beq]
              cases z with
              | nil =>
                refine br_f (by simp [baL]) (k0 trivial (fun a' b' s' hr ha hb he => ?_) H.drop.drop)
                have := zz a' b' s' hr ha hb he
                cases this
              | cons c z =>
                refine br_t (by simp [baL]) ⟨by omega, by simp, baL (c :: z), hcell2 0 _ rfl, by omega, by rw [baL_size, List.length_cons]; omega, ?_⟩
                rw [show (baL (c :: z)).data.getD (0 : Int).toNat 0 = c from rfl]
                unfold purlinref21_Parse.K3
                refine br_intro (fun g5 => ?_) fun g5 => ?_
                · have hc : c = 61 := by
                    have : (c.toNat : Int) = 61 := by simpa using g5
                    rw [← UInt8.ofNat_toNat (x := c), show c.toNat = 61 by omega]; rfl
                  subst hc
                  refine ⟨by omega, by simp, ?_⟩
                  simp only [okP_some, pb_some, po_some]
                  refine ⟨baL (61 :: z), hcell2 0 _ rfl, by omega, by rw [baL_size, List.length_cons]; omega, ?_⟩
                  rw [show (1 : Int).toNat = 1 from rfl, extract_baL, baL_size]
                  have ez : ((61 :: z).drop 1).take ((61 :: z).length - 1) = z := by simp
                  rw [ez]
                  refine H.st fun w H => ?_
                  have H : St e m w (row b2 30 [.int .i64 q, .int .i64 n, .int .i64 0, .string (baL z)] :: own Enc.str 9 (some ⟨ab, ao, none⟩) C2 ([nameL q, y, 61 :: z].map baL) :: row b 30 [.int .i64 0, .int .i64 0, .int .i64 0, .string ⟨#[]⟩] :: row b1 30 [.int .i64 0, .int .i64 0, .int .i64 0, .string ⟨#[]⟩] :: L) := H
                  rw [g5]
                  unfold purlinref21_Parse.K2
                  refine br_f rfl (fin hnR z0 (fun h => by rw [hA] at h; cases h) (fun _ => rfl) (fun h => by rw [hS] at h; cases h) ?_ H)
                  rw [← hj]; unfold showL; rw [hA, hB, hS, hy, baL_data]; simp [joinL]
                · rw [g5]
                  refine err2 (fun a' b' s' hr ha hb he => ?_) H
                  have := zz a' b' s' hr ha hb he
                  rw [(List.cons.inj this).1] at g5
                  exact absurd g5 (by decide)
      refine br_intro (fun g3 => ?_) fun g3 => ?_
      · exact k6 2 (by rw [if_pos (by simpa using g3)])
      · exact k6 3 (by rw [if_neg (by simpa using g3)])
  · have H := H.drop
    refine ⟨_, H.ld, _, H.ld, _, H.ld, _, H.ld, H.st fun w H => ?_⟩
    refine ⟨_, H.ld, _, H.ld, _, H.ld, _, H.ld, bad (L' := L) (fun op' a' b' s' hr ha hb he => ?_) H.drop.drop⟩
    obtain ⟨o1, o2⟩ := right_in hr
    obtain ⟨⟨r', e'⟩, _⟩ := words_show (s := s'.data.toList) o1 o2 ha hb
    rw [← he, hw] at e'
    exact hno op' o1 (by omega) (List.cons.inj e').1.symm
end

theorem CallParses_any {w0 : World} (hv : LibV (hpOf w0)) (s : ByteArray) : Calls Tryd.prog 5 #[.string s] w0 (Ret fun v w' => v = .bool true ∧ Ch [] w0 w') := by
  have H := St.init w0
  have hm := hle_refl (hpOf w0)
  apply purlinlaw21_CallParses.calls
  unfold purlinlaw21_CallParses.F
  refine br_dec (fun _ => ?_) fun hs => ?_
  · refine Calls.ret (awake21_sp H hv) ?_
    rintro v w3 ⟨rfl, H3⟩
    exact ⟨_, rfl, rfl, H3.fin hm⟩
  have hs : s.size ≤ 1000000 := by omega
  refine Calls.ret (call_Parse_sp H hv s hs) ?_
  rintro v w2 ⟨op, a, b, x, er, rfl, hp, H⟩
  refine ⟨_, _, _, _, _, rfl, H.new fun b0 w H => H.st fun w H => ?_⟩
  refine Calls.ret (ref21_Parse_sp H s hs) ?_
  rintro v w3 ⟨op', a', b', x', er', rfl, hp', H⟩
  obtain ⟨rfl, rfl, rfl, rfl, rfl⟩ := parse_one hp hp'
  refine ⟨_, _, _, _, _, rfl, H.new fun b1 w H => H.st fun w H => ?_⟩
  refine Calls.ret (awake21_sp H hv) ?_
  rintro v w4 ⟨rfl, H⟩
  refine ⟨_, rfl, br_t rfl ⟨_, H.ld, _, H.ld, _, H.ld, _, H.ld, _, H.ld, _, H.ld, _, H.ld, _, H.ld, ?_⟩⟩
  exact ⟨true, (eq_struct (P := Tryd.prog) (t := 30) (b := true) _ (by kernel_rfl) rfl (by simp [allEq, cellEq, ba_self])).1, br_t rfl ⟨by simp, H.fin hm⟩⟩
end Go.Proofs.YtmihgfhpmnomoaaDoor
