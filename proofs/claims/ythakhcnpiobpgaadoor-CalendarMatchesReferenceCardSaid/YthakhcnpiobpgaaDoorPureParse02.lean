/- The printed reference Parse and Text compute what calendar's do. -/
import Derived.Test.YthakhcnpiobpgaaDoorPureRefB02
import Derived.Test.YthakhcnpiobpgaaDoorPureText02
namespace Go.Proofs.YthakhcnpiobpgaaDoor.PureParse02
open Go.RowKit Go.Proofs.YthakhcnpiobpgaaDoor Go.Proofs.YthakhcnpiobpgaaDoor.PAll Go.Proofs.YthakhcnpiobpgaaDoorW.PrintWords Go.Proofs.YthakhcnpiobpgaaDoorW.PrintMore
open Go.Proofs.YthakhcnpiobpgaaDoor.Cal Go.Proofs.YthakhcnpiobpgaaDoor.CalA Go.Proofs.YthakhcnpiobpgaaDoor.Stub Go.Proofs.YthakhcnpiobpgaaDoor.PureRef02 Go.Proofs.YthakhcnpiobpgaaDoor.PureRefB02 Go.Proofs.YthakhcnpiobpgaaDoor.PureText02

def numL : Int → List UInt8 → Int × Bool
  | n, [] => (n, true)
  | n, c :: r => if 48 ≤ c.toNat ∧ c.toNat ≤ 57 then numL (10 * n + ((c.toNat : Int) - 48)) r else (0, false)
theorem num_loop (s : ByteArray) (b : Nat) (hb : b ≤ s.size) (hb2 : b ≤ 10) : ∀ (r : List UInt8) (k i : Nat) (n : Int), i + r.length = b → r.length < k → r = (s.data.toList.drop i).take r.length → 0 ≤ n → n * 10 ^ r.length + 10 ^ r.length ≤ 100000 →
    wageofficeref02_number.l0 k s (b : Int) n (i : Int) = some (numL n r) := by
  intro r
  induction r with
  | nil =>
    intro k i n hi hk hr n0 n1
    obtain ⟨k, rfl⟩ := rounds (show 0 < k by omega)
    rw [wageofficeref02_number.l0, if_neg (by simp at hi; omega)]
    rfl
  | cons c r ih =>
    intro k i n hi hk hr n0 n1
    obtain ⟨k, rfl⟩ := rounds (show 0 < k by omega)
    simp only [List.length_cons] at hi hk hr n1
    have hlt : i < s.size := by omega
    rw [CalB.drop_byte s i hlt, List.take_succ_cons] at hr
    injection hr with hc hr
    have hbt : bt s (i : Int) = (c.toNat : Int) := by
      rw [hc]
      unfold bt
      rw [dif_pos (show (i : Int).toNat < s.size by simpa using hlt)]
      rfl
    have hc8 : c.toNat < 256 := c.toNat_lt
    have hp : (1 : Int) ≤ 10 ^ r.length := by have : (0 : Int) < 10 ^ r.length := Int.pow_pos (by decide); omega
    rw [Int.pow_succ] at n1
    have hn : n ≤ 100000 := by
      have := Int.mul_le_mul_of_nonneg_left hp n0
      rw [← Int.mul_assoc] at n1
      omega
    rw [wageofficeref02_number.l0, if_pos (by omega), if_pos (by omega), if_pos (by omega), hbt, numL]
    by_cases a : (c.toNat : Int) < 48
    · rw [if_pos a, if_neg (by omega)]
    · rw [if_neg a]
      by_cases d : (c.toNat : Int) > 57
      · rw [if_pos d, if_neg (by omega)]
      · rw [if_neg d, if_pos (by omega), wrap64_id (x := 10 * n) (by omega) (by omega), wrap64_id (x := (c.toNat : Int)) (by omega) (by omega), wrap64_id (x := 10 * n + (c.toNat : Int)) (by omega) (by omega), wrap64_id (x := 10 * n + (c.toNat : Int) - 48) (by omega) (by omega), wrap64_id (x := (i : Int) + 1) (by omega) (by omega)]
        have := ih k (i + 1) (10 * n + ((c.toNat : Int) - 48)) (by omega) (by omega) hr (by omega) (by
          have e : (10 * n + ((c.toNat : Int) - 48)) * 10 ^ r.length + 10 ^ r.length = n * (10 ^ r.length * 10) + ((c.toNat : Int) - 48) * 10 ^ r.length + 10 ^ r.length := by
            rw [Int.add_mul, Int.mul_comm (10 ^ r.length) 10, ← Int.mul_assoc n, Int.mul_comm n 10]
          have h9 : ((c.toNat : Int) - 48) * 10 ^ r.length ≤ 9 * 10 ^ r.length := Int.mul_le_mul_of_nonneg_right (by omega) (by omega)
          rw [e]
          omega)
        rw [show 10 * n + (c.toNat : Int) - 48 = 10 * n + ((c.toNat : Int) - 48) by omega]
        exact_mod_cast this
theorem numL_range : ∀ (r : List UInt8) (n : Int), 0 ≤ n → 0 ≤ (numL n r).1 ∧ (numL n r).1 ≤ n * 10 ^ r.length + 10 ^ r.length - 1 := by
  intro r
  induction r with
  | nil => intro n h; simp [numL]; omega
  | cons c r ih =>
    intro n h
    rw [numL]
    have hp : (1 : Int) ≤ 10 ^ r.length := by have : (0 : Int) < 10 ^ r.length := Int.pow_pos (by decide); omega
    simp only [List.length_cons, Int.pow_succ]
    split
    · rename_i hc
      obtain ⟨i0, i1⟩ := ih (10 * n + ((c.toNat : Int) - 48)) (by omega)
      refine ⟨i0, ?_⟩
      have e : (10 * n + ((c.toNat : Int) - 48)) * 10 ^ r.length = n * (10 ^ r.length * 10) + ((c.toNat : Int) - 48) * 10 ^ r.length := by
        rw [Int.add_mul, Int.mul_comm (10 ^ r.length) 10, ← Int.mul_assoc n, Int.mul_comm n 10]
      have h9 : ((c.toNat : Int) - 48) * 10 ^ r.length ≤ 9 * 10 ^ r.length := Int.mul_le_mul_of_nonneg_right (by omega) (by omega)
      rw [e] at i1
      omega
    · have := Int.mul_nonneg h (show (0 : Int) ≤ 10 ^ r.length * 10 by omega)
      exact ⟨Int.le_refl 0, by show (0 : Int) ≤ _; omega⟩
theorem parts_dig (c : UInt8) (r : List UInt8) (i k : Nat) (ps : List Int) (h : ¬ (i = 4 ∨ i = 7)) : parts (c :: r) i k ps = if 48 ≤ c.toNat ∧ c.toNat ≤ 57 then parts r (i + 1) k (ps.set k (10 * ps.getD k 0 + ((c.toNat : Int) - 48))) else none := by rw [parts, if_neg h]
theorem parts_dash (c : UInt8) (r : List UInt8) (i k : Nat) (ps : List Int) (h : i = 4 ∨ i = 7) : parts (c :: r) i k ps = if c.toNat = 45 then parts r (i + 1) (k + 1) ps else none := by rw [parts, if_pos h]
/-- A group of digits. -/
theorem parts_group (k : Nat) (ps : List Int) (hk : k < ps.length) (t : List UInt8) : ∀ (r : List UInt8) (i : Nat) (n : Int), (∀ j, i ≤ j → j < i + r.length → ¬ (j = 4 ∨ j = 7)) →
    parts (r ++ t) i k (ps.set k n) = if (numL n r).2 = true then parts t (i + r.length) k (ps.set k (numL n r).1) else none := by
  intro r
  induction r with
  | nil => intro i n h; simp [numL]
  | cons c r ih =>
    intro i n h
    simp only [List.length_cons] at h
    rw [List.cons_append, parts_dig _ _ _ _ _ (h i (by omega) (by omega)), numL]
    split
    · have e : (ps.set k n).getD k 0 = n := by simp [List.getD_eq_getElem?_getD, hk]
      rw [e, List.set_set, ih (i + 1) _ (fun j h1 h2 => h j (by omega) (by omega))]
      simp only [List.length_cons]
      rw [show i + 1 + r.length = i + (r.length + 1) by omega]
    · rfl
theorem parse_ten (c0 c1 c2 c3 c4 c5 c6 c7 c8 c9 : UInt8) : parse ⟨#[c0, c1, c2, c3, c4, c5, c6, c7, c8, c9]⟩ =
    if c4.toNat = 45 ∧ c7.toNat = 45 ∧ (numL 0 [c0, c1, c2, c3]).2 = true ∧ (numL 0 [c5, c6]).2 = true ∧ (numL 0 [c8, c9]).2 = true then day (numL 0 [c0, c1, c2, c3]).1 (numL 0 [c5, c6]).1 (numL 0 [c8, c9]).1 else (0, 12) := by
  unfold parse
  rw [if_pos (show (⟨#[c0, c1, c2, c3, c4, c5, c6, c7, c8, c9]⟩ : ByteArray).size = 10 from rfl)]
  have g1 := parts_group 0 [0, 0, 0] (by decide) [c4, c5, c6, c7, c8, c9] [c0, c1, c2, c3] 0 0 (fun j h1 h2 => by simp at h2; omega)
  have e1 : parts [c0, c1, c2, c3, c4, c5, c6, c7, c8, c9] 0 0 [0, 0, 0] = parts ([c0, c1, c2, c3] ++ [c4, c5, c6, c7, c8, c9]) 0 0 ([0, 0, 0].set 0 0) := rfl
  show (match parts [c0, c1, c2, c3, c4, c5, c6, c7, c8, c9] 0 0 [0, 0, 0] with | some ps => day (ps.getD 0 0) (ps.getD 1 0) (ps.getD 2 0) | none => (0, 12)) = _
  rw [e1, g1]
  generalize numL 0 [c0, c1, c2, c3] = Y at *
  obtain ⟨y, yb⟩ := Y
  cases yb with
  | false => rw [if_neg (show ¬ false = true by decide), if_neg (fun h => by cases h.2.2.1)]
  | true =>
    rw [if_pos rfl]
    show (match parts (c4 :: [c5, c6, c7, c8, c9]) 4 0 ([0, 0, 0].set 0 y) with | some ps => day (ps.getD 0 0) (ps.getD 1 0) (ps.getD 2 0) | none => (0, 12)) = _
    rw [parts_dash _ _ _ _ _ (.inl rfl)]
    by_cases h4 : c4.toNat = 45
    · rw [if_pos h4]
      have g2 := parts_group 1 [y, 0, 0] (by simp) [c7, c8, c9] [c5, c6] 5 0 (fun j h1 h2 => by simp at h2; omega)
      have e2 : parts [c5, c6, c7, c8, c9] (4 + 1) (0 + 1) ([0, 0, 0].set 0 y) = parts ([c5, c6] ++ [c7, c8, c9]) 5 1 ([y, 0, 0].set 1 0) := rfl
      rw [e2, g2]
      generalize numL 0 [c5, c6] = M at *
      obtain ⟨m, mb⟩ := M
      cases mb with
      | false => rw [if_neg (show ¬ false = true by decide), if_neg (fun h => by cases h.2.2.2.1)]
      | true =>
        rw [if_pos rfl]
        show (match parts (c7 :: [c8, c9]) 7 1 ([y, 0, 0].set 1 m) with | some ps => day (ps.getD 0 0) (ps.getD 1 0) (ps.getD 2 0) | none => (0, 12)) = _
        rw [parts_dash _ _ _ _ _ (.inr rfl)]
        by_cases h7 : c7.toNat = 45
        · rw [if_pos h7]
          have g3 := parts_group 2 [y, m, 0] (by simp) [] [c8, c9] 8 0 (fun j h1 h2 => by simp at h2; omega)
          have e3 : parts [c8, c9] (7 + 1) (1 + 1) ([y, 0, 0].set 1 m) = parts ([c8, c9] ++ []) 8 2 ([y, m, 0].set 2 0) := rfl
          rw [e3, g3]
          generalize numL 0 [c8, c9] = D at *
          obtain ⟨d, db⟩ := D
          cases db with
          | false => rw [if_neg (show ¬ false = true by decide), if_neg (fun h => by cases h.2.2.2.2)]
          | true => rw [if_pos rfl, if_pos ⟨h4, h7, rfl, rfl, rfl⟩]; rfl
        · rw [if_neg h7, if_neg (fun h => h7 h.2.1)]
    · rw [if_neg h4, if_neg (fun h => h4 h.1)]
theorem ten (s : ByteArray) (h : s.size = 10) : ∃ c0 c1 c2 c3 c4 c5 c6 c7 c8 c9 : UInt8, s = ⟨#[c0, c1, c2, c3, c4, c5, c6, c7, c8, c9]⟩ := by
  obtain ⟨⟨l⟩⟩ := s
  have hl : l.length = 10 := h
  match l, hl with
  | [c0, c1, c2, c3, c4, c5, c6, c7, c8, c9], _ => exact ⟨c0, c1, c2, c3, c4, c5, c6, c7, c8, c9, rfl⟩
theorem Parse_f (k : Nat) (hk : 1215 ≤ k) (s : ByteArray) : wageofficeref02_Parse.f k s = some (parse s) := by
  obtain ⟨k, rfl⟩ := rounds (show 0 < k by omega)
  unfold wageofficeref02_Parse.f
  by_cases h : s.size = 10
  · obtain ⟨c0, c1, c2, c3, c4, c5, c6, c7, c8, c9, rfl⟩ := ten s h
    rw [parse_ten]
    generalize hs : (⟨#[c0, c1, c2, c3, c4, c5, c6, c7, c8, c9]⟩ : ByteArray) = s at *
    have hl : s.data.toList = [c0, c1, c2, c3, c4, c5, c6, c7, c8, c9] := by rw [← hs]
    have b4 : bt s 4 = (c4.toNat : Int) := by rw [← hs]; rfl
    have b7 : bt s 7 = (c7.toNat : Int) := by rw [← hs]; rfl
    have hy : wageofficeref02_number.f k s 0 4 = some (numL 0 [c0, c1, c2, c3]) := num_loop s 4 (by omega) (by decide) [c0, c1, c2, c3] k 0 0 rfl (by simp; omega) (by rw [hl]; rfl) (by decide) (show (0 : Int) * 10 ^ 4 + 10 ^ 4 ≤ 100000 by decide)
    have hm : wageofficeref02_number.f k s 5 7 = some (numL 0 [c5, c6]) := num_loop s 7 (by omega) (by decide) [c5, c6] k 5 0 rfl (by simp; omega) (by rw [hl]; rfl) (by decide) (show (0 : Int) * 10 ^ 2 + 10 ^ 2 ≤ 100000 by decide)
    have hd : wageofficeref02_number.f k s 8 10 = some (numL 0 [c8, c9]) := num_loop s 10 (by omega) (by decide) [c8, c9] k 8 0 rfl (by simp; omega) (by rw [hl]; rfl) (by decide) (show (0 : Int) * 10 ^ 2 + 10 ^ 2 ≤ 100000 by decide)
    have rd := numL_range [c8, c9] 0 (by decide)
    simp only [List.length_cons, List.length_nil] at rd
    rw [if_pos (by omega), if_pos (by omega), b4, b7]
    by_cases h4 : c4.toNat = 45
    · rw [if_pos (by omega), if_pos (by omega), wageofficeref02_Parse.j0]
      by_cases h7 : c7.toNat = 45
      · rw [if_neg (by rw [h7]; decide), hy, Option.bind_some, hm, Option.bind_some, hd, Option.bind_some]
        generalize numL 0 [c0, c1, c2, c3] = Y at *
        generalize numL 0 [c5, c6] = M at *
        generalize numL 0 [c8, c9] = D at *
        obtain ⟨y, yb⟩ := Y
        obtain ⟨m, mb⟩ := M
        obtain ⟨d, db⟩ := D
        dsimp only at rd ⊢
        cases yb with
        | false => rw [if_neg (show ¬ false = true by decide), if_neg (fun h => by cases h.2.2.1)]
        | true =>
          rw [if_pos rfl]
          cases mb with
          | false => rw [if_neg (show ¬ false = true by decide), if_neg (fun h => by cases h.2.2.2.1)]
          | true =>
            rw [if_pos rfl]
            cases db with
            | false => rw [if_neg (show ¬ false = true by decide), if_neg (fun h => by cases h.2.2.2.2)]
            | true =>
              rw [if_pos rfl, if_pos ⟨h4, h7, rfl, rfl, rfl⟩, Day_f k (by omega) y m d (by omega), Option.bind_some]
      · rw [if_pos (by rw [bne_iff_ne]; omega), if_neg (fun h => h7 h.2.1)]
    · rw [if_neg (by omega), wageofficeref02_Parse.j0, if_pos rfl, if_neg (fun h => h4 h.1)]
  · rw [if_neg (by omega), wageofficeref02_Parse.j0, if_pos rfl]
    unfold parse
    rw [if_neg h]
theorem two_f (v : Int) (h0 : 0 ≤ v) (h1 : v ≤ 99) : wageofficeref02_two.f v = some (strOfNums (g2 v)) := by
  unfold wageofficeref02_two.f g2
  rw [Int.tdiv_eq_ediv_of_nonneg h0, Int.tmod_eq_emod_of_nonneg h0, wrap64_id (x := v / 10) (by omega) (by omega), wrap64_id (x := 48 + v / 10) (by omega) (by omega), wrap64_id (x := 48 + v % 10) (by omega) (by omega), Int.emod_eq_of_lt (a := 48 + v / 10) (by omega) (by omega), Int.emod_eq_of_lt (a := 48 + v % 10) (by omega) (by omega)]
theorem rText_f (k : Nat) (hk : 1215 ≤ k) (n : Int) : wageofficeref02_Text.f k n = some (text n) := by
  unfold wageofficeref02_Text.f
  rw [Date_f k (by omega), Option.bind_some]
  by_cases h : okD n = true
  · obtain ⟨h0, h1⟩ := (okD_iff n).1 h
    have hr := date_range h0 h1
    rw [text_ok h0 h1]
    generalize date n = t at *
    obtain ⟨y, m, d⟩ := t
    dsimp only at hr ⊢
    rw [if_neg (by omega), Int.tdiv_eq_ediv_of_nonneg (by omega), Int.tmod_eq_emod_of_nonneg (by omega), wrap64_id (x := y / 100) (by omega) (by omega)]
    rw [two_f (y / 100) (by omega) (by omega), Option.bind_some, two_f (y % 100) (by omega) (by omega), Option.bind_some, two_f m (by omega) (by omega), Option.bind_some, two_f d (by omega) (by omega), Option.bind_some]
    have sz : ∀ v : Int, (g2 v).length = 2 := fun _ => rfl
    simp only [strOfNums_size, sz]
    rw [if_pos (by decide), if_pos (by decide), if_pos (by decide), if_pos (by decide), if_pos (by decide), dash, str_app, str_app, str_app, str_app, str_app]
    rfl
  · unfold date text
    rw [if_neg h, if_neg h, if_pos rfl]
end Go.Proofs.YthakhcnpiobpgaaDoor.PureParse02
