/- How rational numbers compare, their signs, what they are without these, how long they are, and their digits, are just what the document says. Part 17 of 20. -/
import Derived.Test.YtagbnkbhobmgjaaRatioOrdersP
import Derived.Test.YtagbnkbhobmgjaaRatioOrdersH
import Derived.Lib.Bytes
import Derived.Test.YtagbnkbhobmgjaaRatioOrdersO
import Derived.Test.YtagbnkbhobmgjaaRatioOrdersM
import Derived.Test.YtagbnkbhobmgjaaRatioOrdersN
import Derived.Test.YtagbnkbhobmgjaaRatioOrdersL
section
/- Numbers and their digits: what is written: plain arithmetic. -/
set_option linter.unusedVariables false
set_option linter.unusedSimpArgs false
namespace Go.Proofs.Ytagbnkbhobmgjaa.Pure
open Go.RowKit Go.Proofs.Ytagbnkbhobmgjaa.Fn Go.Proofs.YtagbnkbhobmgjaaW.PrintWords Go.Proofs.YtagbnkbhobmgjaaW.PrintMore Go.Proofs.YtagbnkbhobmgjaaW.PrintLast
/-! ### rows of digits, the least one first -/
def dv : List Int → Nat
  | [] => 0
  | x :: xs => (x - 48).toNat + 10 * dv xs
def DG (a : List Int) : Prop := ∀ x ∈ a, 48 ≤ x ∧ x ≤ 57
def digR (n : Nat) : List Int := if h : n = 0 then [] else ((48 + n % 10 : Nat) : Int) :: digR (n / 10)
  termination_by n
  decreasing_by exact Nat.div_lt_self (Nat.pos_of_ne_zero h) (by decide)
theorem digR_zero : digR 0 = [] := by unfold digR; rfl
theorem digR_pos {n : Nat} (h : n ≠ 0) : digR n = ((48 + n % 10 : Nat) : Int) :: digR (n / 10) := by rw [digR]; exact dif_neg h
theorem digR_dv : ∀ {a : List Int}, DG a → (∀ x, a.getLast? = some x → x ≠ 48) → digR (dv a) = a
  | [], _, _ => digR_zero
  | x :: xs, h, hn => by
    have hx := h x List.mem_cons_self
    have hxs : DG xs := fun y hy => h y (List.mem_cons_of_mem _ hy)
    have hnx : ∀ y, xs.getLast? = some y → y ≠ 48 := by
      intro y hy
      cases xs with
      | nil => cases hy
      | cons z zs => exact hn y (by rw [List.getLast?_cons_cons]; exact hy)
    have ih := digR_dv hxs hnx
    have hne : dv (x :: xs) ≠ 0 := by
      simp only [dv]
      intro e
      have hx0 : x = 48 := by omega
      have hw0 : dv xs = 0 := by omega
      rw [hw0, digR_zero] at ih
      subst ih
      exact hn x rfl hx0
    have e1 : ((x - 48).toNat + 10 * dv xs) % 10 = (x - 48).toNat := by omega
    have e2 : ((x - 48).toNat + 10 * dv xs) / 10 = dv xs := by omega
    rw [digR_pos hne]
    simp only [dv]
    rw [e1, e2, ih]
    congr 1
    omega
theorem dv_append : ∀ (a b : List Int), dv (a ++ b) = dv a + 10 ^ a.length * dv b
  | [], b => by simp [dv]
  | x :: xs, b => by
    rw [List.cons_append]
    simp only [dv]
    rw [dv_append xs b, List.length_cons, Nat.pow_succ, Nat.mul_add, Nat.mul_comm (10 ^ xs.length) 10, Nat.mul_assoc]
    omega
theorem dv_snoc (a : List Int) (x : Int) : dv (a ++ [x]) = dv a + 10 ^ a.length * (x - 48).toNat := by
  rw [dv_append]; simp [dv]
theorem digR_len : ∀ (k n : Nat), n < 10 ^ k → (digR n).length ≤ k
  | 0, n, h => by
    have : n = 0 := by simp at h; exact h
    subst this; rw [digR_zero]; simp
  | k + 1, n, h => by
    by_cases h0 : n = 0
    · subst h0; rw [digR_zero]; simp
    · rw [digR_pos h0, List.length_cons]
      have : n / 10 < 10 ^ k := by rw [Nat.div_lt_iff_lt_mul (by decide), ← Nat.pow_succ]; exact h
      have := digR_len k _ this
      omega
/-- A number's text. -/
def txt (n : Nat) : ByteArray := if n = 0 then ⟨#[48]⟩ else strOfNums (digR n).reverse
/-! ### slices.Reverse -/
theorem rd_get {a : List Int} {i : Nat} (h : i < a.length) : a[i]? = some (rd a (i : Int)) := by
  rw [List.getElem?_eq_getElem h, rd_lt a i h]
theorem Rev_ev (D : List Int) (n : Nat) (hn : D.length = n) (hm : n ≤ 1000000000000) : ∀ (d i : Nat) (x : List Int), 2 * i + d = n → x.length = n →
    (∀ p, p < n → x[p]? = if p < i ∨ n ≤ p + i then D[n - 1 - p]? else D[p]?) →
    Ev (fun k => slices_Reverse_byte_byte.l0 k x (i : Int) ((n : Int) - 1 - i)) D.reverse := by
  intro d
  induction d using Nat.strongRecOn with
  | _ d ih =>
    intro i x hd hl hx
    by_cases h : i + 1 < n - i
    · have hi : i < x.length := by omega
      have hj : n - 1 - i < x.length := by omega
      have ej : ((n : Int) - 1 - i) = ((n - 1 - i : Nat) : Int) := by omega
      have ri := rd_get hi
      have rj := rd_get hj
      have key := ih (d - 2) (by omega) (i + 1) ((x.set i (rd x ((n - 1 - i : Nat) : Int))).set (n - 1 - i) (rd x (i : Int))) (by omega) (by simp [hl]) (by
        intro p hp
        rw [List.getElem?_set, List.getElem?_set, List.length_set]
        by_cases h1 : n - 1 - i = p
        · subst h1
          rw [if_pos rfl, if_pos hj, if_pos (by omega), ← ri, hx i (by omega), if_neg (by omega)]
          congr 1; omega
        · rw [if_neg h1]
          by_cases h2 : i = p
          · subst h2
            rw [if_pos rfl, if_pos hi, if_pos (by omega), ← rj, hx (n - 1 - i) (by omega), if_neg (by omega)]
          · rw [if_neg h2, hx p hp]
            by_cases h3 : p < i ∨ n ≤ p + i
            · rw [if_pos h3, if_pos (by omega)]
            · rw [if_neg h3, if_neg (by omega)])
      refine Ev.step (fun k => ?_) key
      simp only [slices_Reverse_byte_byte.l0]
      rw [ej]
      rw [if_pos (by omega), if_pos (by omega), if_pos (by omega), if_pos (by omega), if_pos (by omega), w64 (x := (i : Int) + 1) (by omega) (by omega), w64 (x := ((n - 1 - i : Nat) : Int) - 1) (by omega) (by omega)]
      have e3 : ((n - 1 - i : Nat) : Int) - 1 = (n : Int) - 1 - ((i + 1 : Nat) : Int) := by omega
      rw [e3]
      rfl
    · have e : x = D.reverse := by
        refine List.ext_getElem? fun p => ?_
        by_cases hp : p < n
        · rw [hx p hp, List.getElem?_reverse (by omega), hn]
          by_cases h3 : p < i ∨ n ≤ p + i
          · rw [if_pos h3]
          · rw [if_neg h3]; congr 1; omega
        · rw [List.getElem?_eq_none (by omega), List.getElem?_eq_none (by simp; omega)]
      rw [← e]
      refine Ev.step (f := fun _ => some x) (fun k => ?_) (Ev.now _)
      simp only [slices_Reverse_byte_byte.l0]
      rw [if_neg (by omega)]
theorem Rev_spec (D : List Int) (hm : D.length ≤ 1000000000000) : Ev (fun k => slices_Reverse_byte_byte.f k D) D.reverse := by
  have := Rev_ev D D.length rfl hm D.length 0 D (by omega) rfl (by
    intro p hp
    rw [if_neg (by omega)])
  unfold slices_Reverse_byte_byte.f
  rw [w64 (by omega) (by omega)]
  simpa using this
/-! ### Text -/
theorem Text_l2 (N : Nat) : ∀ (n : Nat) (a : List Int), a.length = n → n ≤ 1000000000000 → DG a → dv a = N → Ev (fun k => nat_Nat_Text.l2 k a) (txt N)
  | 0, a, hl, _, _, hv => by
    obtain rfl := List.eq_nil_of_length_eq_zero hl
    have : N = 0 := by rw [← hv]; rfl
    subst this
    exact Ev.step (f := fun _ => some (txt 0)) (fun k => by simp only [nat_Nat_Text.l2]; rw [if_neg (by simp), if_pos (by simp)]; rfl) (Ev.now _)
  | n + 1, a, hl, hm, hD, hv => by
    have hne : a ≠ [] := by intro e; subst e; simp at hl
    obtain ⟨xs, x, rfl⟩ : ∃ xs x, a = xs ++ [x] := ⟨a.dropLast, a.getLast hne, (List.dropLast_concat_getLast hne).symm⟩
    have hlx : xs.length = n := by simpa using hl
    have hw : wrap64 ((xs ++ [x]).length - 1 : Int) = ((xs ++ [x]).length - 1 : Int) := w64 (by omega) (by omega)
    have hx := (hD x (by simp))
    by_cases h0 : x = 48
    · subst h0
      have ih := Text_l2 N n xs hlx (by omega) (fun y hy => hD y (List.mem_append_left _ hy)) (by rw [← hv, dv_snoc]; simp)
      refine Ev.step (f := fun k => nat_Nat_Text.l2 k xs) (fun k => ?_) ih
      simp only [nat_Nat_Text.l2]
      rw [hw, if_pos (by simp), if_pos (by simp), if_pos (by omega), rd_last, if_pos rfl, if_pos (by omega)]
      congr 1
      have : (((xs ++ [(48 : Int)]).length : Int) - 1).toNat = xs.length := by simp
      rw [this, List.take_left']
      rfl
    · have e : digR N = xs ++ [x] := by
        rw [← hv]
        exact digR_dv hD (fun y hy => by
          rw [List.getLast?_concat] at hy
          injection hy with hy
          rw [← hy]; exact h0)
      have hN : N ≠ 0 := by intro e0; rw [e0, digR_zero] at e; simp at e
      have hr := Rev_spec (xs ++ [x]) (by omega)
      have et : txt N = strOfNums (xs ++ [x]).reverse := by unfold txt; rw [if_neg hN, e]
      rw [et]
      refine Ev.step (f := fun k => (slices_Reverse_byte_byte.f k (xs ++ [x])).bind fun t118 => some (strOfNums t118)) (fun k => ?_) (Ev.bind hr (Ev.now _))
      simp only [nat_Nat_Text.l2]
      rw [hw, if_pos (by simp), if_pos (by simp), if_pos (by omega), rd_last, if_neg h0, if_neg (by simp; omega)]
theorem Text_l1 (M V : Nat) (R : ByteArray) (o0 : Nat) (ho : o0 ≤ 1000000000) (hk : ∀ a, DG a → a.length = o0 + 9 → V = dv a + 10 ^ a.length * M → Ev (fun k => nat_Nat_Text.l0 k (words M) a) R) :
    ∀ (d j : Nat) (a : List Int) (x : Int), j + d = 9 → a.length = o0 + j → DG a → 0 ≤ x → x.toNat < 10 ^ d → V = dv a + 10 ^ a.length * x.toNat + 10 ^ (o0 + 9) * M →
      Ev (fun k => nat_Nat_Text.l1 k (words M) a x (j : Int)) R
  | 0, j, a, x, hd, hl, hD, h0, h1, hV => by
    have ej : j = 9 := by omega
    subst ej
    have ex : x.toNat = 0 := by simpa using h1
    rw [ex, Nat.mul_zero, Nat.add_zero, ← hl] at hV
    refine Ev.step (fun k => ?_) (hk a hD (by omega) hV)
    simp only [nat_Nat_Text.l1]
    rw [if_neg (by omega)]
  | d + 1, j, a, x, hd, hl, hD, h0, h1, hV => by
    have hp : 10 ^ (d + 1) ≤ 10 ^ 9 := Nat.pow_le_pow_right (by decide) (by omega)
    have hx9 : x < 1000000000 := by omega
    have e1 : (IntKind.u64.wrap (48 + Int.tmod x 10)) % 256 = ((48 + x.toNat % 10 : Nat) : Int) := by
      rw [Int.tmod_eq_emod_of_nonneg h0, u64i (by omega) (by omega)]; omega
    have e2 : IntKind.u64.wrap (Int.tdiv x 10) = ((x.toNat / 10 : Nat) : Int) := by
      rw [Int.tdiv_eq_ediv_of_nonneg h0, u64i (by omega) (by omega)]; omega
    have ih := Text_l1 M V R o0 ho hk d (j + 1) (a ++ [((48 + x.toNat % 10 : Nat) : Int)]) ((x.toNat / 10 : Nat) : Int) (by omega) (by simp; omega)
      (fun y hy => by
        rcases List.mem_append.1 hy with hy | hy
        · exact hD y hy
        · rw [List.mem_singleton.1 hy]; omega)
      (by omega) (by rw [Int.toNat_natCast, Nat.div_lt_iff_lt_mul (by decide), ← Nat.pow_succ]; exact h1)
      (by
        rw [hV, dv_snoc, List.length_append, List.length_singleton, Nat.pow_succ (m := a.length), Int.toNat_natCast]
        have e3 : (((48 + x.toNat % 10 : Nat) : Int) - 48).toNat = x.toNat % 10 := by omega
        rw [e3]
        have e4 : 10 ^ a.length * x.toNat = 10 ^ a.length * (x.toNat % 10) + 10 ^ a.length * 10 * (x.toNat / 10) := by
          rw [Nat.mul_assoc, ← Nat.mul_add, Nat.mod_add_div]
        rw [e4]
        simp only [Nat.add_assoc])
    refine Ev.step (fun k => ?_) ih
    simp only [nat_Nat_Text.l1]
    rw [if_pos (by omega), if_pos (by omega), e1, e2, w64 (by omega) (by omega)]
    rfl
theorem rd_words0 {n : Nat} (h : n < BW) : rd (words n) 0 = (n : Int) := by
  have h1 := mod_BW_drop (WD_words n) 0
  rw [List.drop_zero, wv_words, Nat.mod_eq_of_lt h] at h1
  have := (WD_rd (WD_words n) ((0 : Nat) : Int)).1
  have e : rd (words n) ((0 : Nat) : Int) = rd (words n) 0 := rfl
  rw [e] at h1 this
  omega
theorem Text_l0 (V : Nat) : ∀ (c N : Nat) (a : List Int), N < 1000000000 ^ c → a.length + 9 * c ≤ 1000000000 → (words N).length ≤ 1000000000 → DG a → V = dv a + 10 ^ a.length * N → Ev (fun k => nat_Nat_Text.l0 k (words N) a) (txt V)
  | 0, N, a, hN, hl, hw, hD, hV => by
    have : N = 0 := by simpa using hN
    subst this
    rw [words_zero]
    rw [Nat.mul_zero, Nat.add_zero] at hV
    refine Ev.step (fun k => ?_) (Text_l2 V a.length a rfl (by omega) hD hV.symm)
    simp only [nat_Nat_Text.l0]
    rw [if_neg (by simp)]
  | c + 1, N, a, hN, hl, hw, hD, hV => by
    by_cases h : N = 0
    · subst h
      rw [words_zero]
      rw [Nat.mul_zero, Nat.add_zero] at hV
      refine Ev.step (fun k => ?_) (Text_l2 V a.length a rfl (by omega) hD hV.symm)
      simp only [nat_Nat_Text.l0]
      rw [if_neg (by simp)]
    · have hs := short_spec (WD_words N) (by omega) 1000000000 (by omega) (by omega)
      rw [wv_words] at hs
      have e9 : (1000000000 : Int).toNat = 1000000000 := rfl
      rw [e9] at hs
      have hm : N % 1000000000 < 1000000000 := Nat.mod_lt _ (by decide)
      have hdl : (words (N / 1000000000)).length ≤ 1000000000 := by
        have : (words (N / 1000000000)).length ≤ (words N).length := words_len _ _ (Nat.lt_of_le_of_lt (Nat.div_le_self _ _) (by have := wv_lt (WD_words N); rw [wv_words] at this; exact this))
        omega
      have hl1 := Text_l1 (N / 1000000000) V (txt V) a.length (by omega) (fun a' h1 h2 h3 => Text_l0 V c (N / 1000000000) a' (by rw [Nat.div_lt_iff_lt_mul (by decide), ← Nat.pow_succ]; exact hN) (by omega) hdl h1 h3) 9 0 a ((N % 1000000000 : Nat) : Int) (by omega) (by omega) hD (by omega) (by rw [Int.toNat_natCast]; exact hm) (by
          rw [Int.toNat_natCast, hV]
          have e10 : (10 : Nat) ^ 9 = 1000000000 := rfl
          have e2 : 10 ^ a.length * N = 10 ^ a.length * (N % 1000000000) + 10 ^ (a.length + 9) * (N / 1000000000) := by
            rw [Nat.pow_add, e10, Nat.mul_assoc, ← Nat.mul_add, Nat.mod_add_div]
          omega)
      refine Ev.step (fun k => ?_) (Ev.bind hs (f := fun k bt104 => (nat_Nat_at.f bt104.2 0).bind fun t110 => nat_Nat_Text.l1 k bt104.1 a t110 0) ?_)
      · simp only [nat_Nat_Text.l0]
        rw [if_pos (by have := words_ne h; omega)]
      · refine Ev.congr (fun k => ?_) hl1
        rw [at_spec (WD_words _) 0 (by omega), rd_words0 (by rw [BW_eq]; omega)]
        rfl
theorem Text_spec {a : List Int} {A m : Nat} (ha : Is a A m) (hm : m ≤ 1000000) : Ev (fun k => nat_Nat_Text.f k a) (txt A) := by
  have ht := trim_spec ha.wd (Nat.le_trans ha.len (by omega))
  rw [ha.val] at ht
  unfold nat_Nat_Text.f
  refine Ev.bind ht (Text_l0 A (2 * m) A [] ?_ (by simp; omega) ?_ (fun x hx => by cases hx) (by simp [dv]))
  · refine Nat.lt_of_lt_of_le ha.lt ?_
    rw [Nat.pow_mul]
    exact Nat.pow_le_pow_left (by decide) m
  · have := words_len _ _ ha.lt
    omega
end Go.Proofs.Ytagbnkbhobmgjaa.Pure
end
section
/- The document's digits: plain arithmetic. -/
set_option linter.unusedVariables false
set_option linter.unusedSimpArgs false
namespace Go.Proofs.Ytagbnkbhobmgjaa.Pure
open Go.RowKit Go.Proofs.Ytagbnkbhobmgjaa.Fn Go.Proofs.YtagbnkbhobmgjaaW.PrintWords Go.Proofs.YtagbnkbhobmgjaaW.PrintMore Go.Proofs.YtagbnkbhobmgjaaW.PrintLast
/-! ### the document's text -/
theorem strOfNums_cons (x : Int) (acc : List Int) : strOfNums [x] ++ strOfNums acc = strOfNums (x :: acc) := by
  apply ByteArray.ext
  simp [strOfNums, ByteArray.data_append]
theorem strOf_nil {acc : List Int} : (strOfNums acc).toList = ([] : List UInt8) ↔ acc = [] := by
  rw [Lib.strOfNums_toList]
  unfold Lib.bytesOf
  exact List.map_eq_nil_iff
theorem div10_bits {n : Nat} (h : n ≠ 0) : (bits (n / 10)).length < (bits n).length := by
  have c := bv_lt (bits n)
  rw [bv_bits] at c
  have hp : (bits n).length ≠ 0 := by
    intro e
    have := (bits_len_le_iff n 0).1 (by omega)
    omega
  have e : 2 ^ (bits n).length = 2 * 2 ^ ((bits n).length - 1) := by
    rw [← Nat.pow_succ']; congr 1; omega
  have := bits_len ((bits n).length - 1) (n / 10) (by omega)
  omega
theorem RText_ev (T : List Bool) (hT : bv T = 10) (hTl : T.length = 64) : ∀ (L : Nat) (b : List Bool) (acc : List Int), (bits (bv b)).length = L → b.length ≤ 1000000000 → L + acc.length ≤ 1000000000 →
    Ev (fun k => flyballref02_Text.l0 k b T (strOfNums acc)) (if bv b = 0 ∧ acc = [] then ⟨#[48]⟩ else strOfNums ((digR (bv b)).reverse ++ acc)) := by
  intro L
  induction L using Nat.strongRecOn with
  | _ L ih =>
    intro b acc hL hb hacc
    have hlen := Len_spec b (by omega)
    by_cases h : bv b = 0
    · rw [h, bits_zero] at hlen
      rw [h, digR_zero]
      refine Ev.step (fun k => by simp only [flyballref02_Text.l0]; rfl) (Ev.bind hlen ?_)
      have z : ¬ (((([] : List Bool).length : Nat) : Int) > 0) := by simp
      simp only [if_neg z]
      by_cases hn : acc = []
      · subst hn
        rw [if_pos (show True ∧ ([] : List Int) = [] from ⟨trivial, rfl⟩)]
        exact Ev.congr (fun k => if_pos (strOf_nil.2 rfl)) (Ev.now _)
      · rw [if_neg (show ¬ (True ∧ acc = []) from fun c => hn c.2)]
        exact Ev.congr (fun k => if_neg (fun c => hn (strOf_nil.1 c))) (Ev.now _)
    · rw [if_neg (fun c => h c.1)]
      have hlp : 0 < (bits (bv b)).length := by
        have := bits_len_le_iff (bv b) 0
        omega
      obtain ⟨Q, d1, d2, d3⟩ := RDiv_spec b T (by omega) (by omega) (by omega)
      rw [hT] at d1 d2
      have hr10 : bv b % 10 < 10 := Nat.mod_lt _ (by decide)
      have hw := RWords_spec (bits (bv b % 10)) (by have := bits_len 4 (bv b % 10) (by omega); omega)
      rw [bv_take64 (by rw [bv_bits]; omega), bv_bits] at hw
      have hQl := Len_spec Q (by omega)
      have hQb := bits_bv_len Q
      have hd := div10_bits h
      rw [← d2] at hd
      have key := ih (bits (bv Q)).length (by omega) (bits (bv Q)) (((48 + bv b % 10 : Nat) : Int) :: acc) (by rw [bv_bits]) (by omega) (by rw [List.length_cons]; omega)
      rw [bv_bits, if_neg (fun c => by cases c.2), d2] at key
      have e3 : (digR (bv b)).reverse ++ acc = (digR (bv b / 10)).reverse ++ (((48 + bv b % 10 : Nat) : Int) :: acc) := by
        rw [digR_pos h, List.reverse_cons, List.append_assoc]; rfl
      rw [← e3] at key
      have e4 : (IntKind.u64.wrap (48 + rd [((bv b % 10 : Nat) : Int)] 0)) % 256 = ((48 + bv b % 10 : Nat) : Int) := by
        have er : rd [((bv b % 10 : Nat) : Int)] 0 = ((bv b % 10 : Nat) : Int) := rfl
        rw [er, u64i (by omega) (by omega)]; omega
      refine Ev.step (fun k => by simp only [flyballref02_Text.l0]; rfl) (Ev.bind hlen ?_)
      have z : (((bits (bv b)).length : Nat) : Int) > 0 := by omega
      simp only [if_pos z]
      refine Ev.bind d1 (Ev.bind hw ?_)
      have z1 : (0 : Int) < ((([((bv b % 10 : Nat) : Int)] : List Int).length : Nat) : Int) := by simp
      have z2 : (strOfNums [((48 + bv b % 10 : Nat) : Int)]).size + (strOfNums acc).size ≤ 9223372036854775807 := by
        rw [strOfNums_size, strOfNums_size, List.length_singleton]; omega
      simp only [if_pos z1, e4, Option.bind_some, if_pos z2]
      refine Ev.bind hQl (Ev.congr (fun k => ?_) key)
      rw [if_pos (by omega), if_pos (by omega), Int.toNat_natCast, bits_take, strOfNums_cons, d2]
theorem RText_spec (b : List Bool) (hb : b.length ≤ 100000000) : Ev (fun k => flyballref02_Text.f k b) (txt (bv b)) := by
  obtain ⟨T, h1, h2, h3⟩ := Of_spec (v := 10) (by omega) (by omega)
  have hbl := bits_bv_len b
  have := RText_ev T h3 h2 (bits (bv b)).length b [] rfl (by omega) (by simp; omega)
  unfold flyballref02_Text.f
  refine Ev.bind h1 ?_
  have e : (if bv b = 0 ∧ ([] : List Int) = [] then (⟨#[48]⟩ : ByteArray) else strOfNums ((digR (bv b)).reverse ++ [])) = txt (bv b) := by
    unfold txt; rw [List.append_nil]
    by_cases h : bv b = 0
    · rw [if_pos ⟨h, rfl⟩, if_pos h]
    · rw [if_neg (fun c => h c.1), if_neg h]
  rw [e] at this
  exact this
end Go.Proofs.Ytagbnkbhobmgjaa.Pure
end
section
/- What is read: plain arithmetic. -/
set_option linter.unusedVariables false
set_option linter.unusedSimpArgs false
namespace Go.Proofs.Ytagbnkbhobmgjaa.Pure
open Go.RowKit Go.Proofs.Ytagbnkbhobmgjaa.Fn Go.Proofs.YtagbnkbhobmgjaaW.PrintWords Go.Proofs.YtagbnkbhobmgjaaW.PrintMore Go.Proofs.YtagbnkbhobmgjaaW.PrintLast
/-! ### reading -/
end Go.Proofs.Ytagbnkbhobmgjaa.Pure
end
section
/- What is written is read again. -/
set_option linter.unusedVariables false
set_option linter.unusedSimpArgs false
namespace Go.Proofs.Ytagbnkbhobmgjaa.Pure
open Go.RowKit Go.Proofs.Ytagbnkbhobmgjaa.Fn Go.Proofs.YtagbnkbhobmgjaaW.PrintWords Go.Proofs.YtagbnkbhobmgjaaW.PrintMore Go.Proofs.YtagbnkbhobmgjaaW.PrintLast
/-! ### what is written is read again -/
theorem txt_size {N m : Nat} (h : N < 10 ^ m) (hm : 1 ≤ m) : (txt N).size ≤ m := by
  unfold txt
  by_cases h0 : N = 0
  · rw [if_pos h0]; exact hm
  · rw [if_neg h0, strOfNums_size, List.length_reverse]
    exact digR_len m N h
end Go.Proofs.Ytagbnkbhobmgjaa.Pure
end
section
/- How rational numbers compare, their signs, what they are without these, how long they are, and their digits, are just what the document says. -/
set_option linter.unusedVariables false
namespace Go.Proofs.Ytagbnkbhobmgjaa.Pure
open Go.RowKit Go.Proofs.Ytagbnkbhobmgjaa.Fn Go.Proofs.YtagbnkbhobmgjaaW.PrintWords Go.Proofs.YtagbnkbhobmgjaaW.PrintMore Go.Proofs.YtagbnkbhobmgjaaW.PrintLast
theorem signS_I (q : QQ) : signS q = cmpI (sv q) 0 := by
  unfold signS sv cmpI
  by_cases h : q.2.1 = 0
  · rw [if_pos h, h]
    split <;> simp
  · rw [if_neg h]
    by_cases h1 : q.1 = true
    · rw [if_pos h1, if_pos h1, if_pos (by omega)]
    · rw [if_neg h1, if_neg h1, if_neg (by omega), if_neg (by omega)]
theorem signS_rep {q : QQ} {u : Int} {v : Nat} (h : Rep q u v) : signS q = cmpI u 0 := by
  have hv : (0 : Int) < (v : Int) := by have := h.pos; omega
  have hd : (0 : Int) < (q.2.2 : Int) := by have := h.den; omega
  have e := cmpI_scale u 0 _ hd
  rw [Int.zero_mul] at e
  rw [signS_I, ← cmpI_scale (sv q) 0 _ hv, h.val, Int.zero_mul, e]
theorem cmpI_sub (x y : Int) : cmpI (x - y) 0 = cmpI x y := by
  unfold cmpI
  by_cases h : x < y
  · rw [if_pos h, if_pos (by omega)]
  · by_cases h2 : x = y
    · rw [if_neg h, if_pos h2, if_neg (by omega), if_pos (by omega)]
    · rw [if_neg h, if_neg h2, if_neg (by omega), if_neg (by omega)]
theorem rCmpQ_ev {p : QQ} {t : Bool} {C D m : Nat} (hp : QL p m) (hq : QL (lowS t C D) m) (h1 : 1 ≤ m) (hm : m ≤ 40000) {x z : Int} {y w : Nat} (rp : Rep p x y) (rq : Rep (lowS t C D) z w) :
    Ev (fun k => flyballref03_Cmp.f k (RB p).1 (RB p).2.1 (RB p).2.2 (RB (lowS t C D)).1 (RB (lowS t C D)).2.1 (RB (lowS t C D)).2.2) (cmpS p (lowS t C D)) := by
  have e1 := rMinus_ev hq (by omega)
  rw [minus_low] at e1
  have rn := neg_rep rq
  have hn : QL (lowS (!t) C D) m := by
    have h2 := hq
    by_cases c : C = 0 ∨ D = 0
    · have e : ∀ s, lowS s C D = (false, 0, 1) := fun s => by unfold lowS; rw [if_pos c]
      rw [e] at h2 ⊢; exact h2
    · have e : ∀ s, lowS s C D = (s, C / Nat.gcd C D, D / Nat.gcd C D) := fun s => by unfold lowS; rw [if_neg c]
      rw [e] at h2 ⊢; exact ⟨h2.num, h2.den⟩
  have e2 := rAdd_ev hp hn (by omega)
  have e3 := rSign_ev (m := m + m + 1) (addS_QL hp hn) (by omega)
  have ev : signS (addS p (lowS (!t) C D)) = cmpS p (lowS t C D) := by
    rw [signS_rep (add_rep rp rn), cmp_rep rp rq, ← cmpI_sub (x * (w : Int)), Int.neg_mul]
    rfl
  rw [ev] at e3
  unfold flyballref03_Cmp.f
  exact Ev.bind e1 (Ev.bind e2 (Ev.bind e3 (Ev.now _)))
/-- A number's digits. -/
def textS (q : QQ) : ByteArray :=
  let s := if q.1 = true then (⟨#[45]⟩ : ByteArray) ++ txt q.2.1 else txt q.2.1
  if q.2.2 = 1 then s else (s ++ (⟨#[47]⟩ : ByteArray)) ++ txt q.2.2
theorem cmpN_zero (m n : Nat) : cmpN m n = 0 ↔ m = n := by
  unfold cmpN
  by_cases h : m < n
  · rw [if_pos h]; constructor <;> intro c <;> omega
  · rw [if_neg h]
    by_cases h2 : m = n
    · rw [if_pos h2]; exact ⟨fun _ => h2, fun _ => rfl⟩
    · rw [if_neg h2]; constructor <;> intro c <;> omega
theorem txt_4 {N : Nat} (h : N < BW ^ 4) : (txt N).size ≤ 39 := txt_size (Nat.lt_of_lt_of_le h (by rw [BW_eq]; decide)) (by decide)
theorem size1 (b : UInt8) : (⟨#[b]⟩ : ByteArray).size = 1 := rfl
theorem text_ev {a : Bool} {n d : List Int} {q : QQ} (h : G a n d q 4) : Ev (fun k => ratio_R_Text.f k a n d) (textS q) := by
  have e1 := Rlow_ev a h.num h.den (by decide) (by decide)
  rw [h.low] at e1
  have hq := h.ql (by decide)
  have i1 := Is.mk' hq.num
  have i2 := Is.mk' hq.den
  have s1 := txt_4 hq.num
  have s2 := txt_4 hq.den
  have e2 := Text_spec i1 (by decide)
  have e3 := Text_spec i2 (by decide)
  have one : Is (words 1) 1 4 := Is.mk' (by rw [BW_eq]; decide)
  have e4 := i2.cmp one (by decide) (by decide)
  have j : ∀ s : ByteArray, s.size ≤ 100 → Ev (fun k => ratio_R_Text.j0 k s q.1 (words q.2.1) (words q.2.2)) (if q.2.2 = 1 then s else (s ++ (⟨#[47]⟩ : ByteArray)) ++ txt q.2.2) := fun s hs => by
    refine Ev.step (fun k => by simp only [ratio_R_Text.j0]; rfl) (Ev.bind (New_spec 1 (by decide) (by decide)) (Ev.bind e4 ?_))
    by_cases c : q.2.2 = 1
    · rw [if_pos c]; exact Ev.congr (fun k => if_pos ((cmpN_zero _ _).2 c)) (Ev.now _)
    · rw [if_neg c]
      refine Ev.congr (fun k => if_neg (fun e => c ((cmpN_zero _ _).1 e))) (Ev.bind e3 ?_)
      refine Ev.congr (fun k => if_pos (by omega)) (Ev.congr (fun k => if_pos (by rw [ByteArray.size_append, size1]; omega)) ?_)
      rw [ByteArray.append_assoc]
      exact Ev.now _
  unfold ratio_R_Text.f textS
  refine Ev.bind e1 (Ev.bind e2 ?_)
  by_cases c : q.1 = true
  · rw [if_pos c]
    exact Ev.congr (fun k => if_pos c) (Ev.congr (fun k => if_pos (by omega)) (j _ (by rw [ByteArray.size_append, size1]; omega)))
  · rw [if_neg c]
    exact Ev.congr (fun k => if_neg c) (j _ (by omega))
theorem rText_ev {q : QQ} (hq : QL q 4) : Ev (fun k => flyballref03_Text.f k (RB q).1 (RB q).2.1 (RB q).2.2) (textS q) := by
  have b1 := blen_of hq.num
  have b2 := blen_of hq.den
  have s1 := txt_4 hq.num
  have s2 := txt_4 hq.den
  have e2 := RText_spec (bits q.2.1) (by omega)
  have e3 := RText_spec (bits q.2.2) (by omega)
  rw [bv_bits] at e2 e3
  have e4 := RCmp_spec (bits q.2.2) [true] (by omega) (by decide)
  have v1 : bv [true] = 1 := by rw [← bits_one, bv_bits]
  rw [bv_bits, v1] at e4
  have j : ∀ s : ByteArray, s.size ≤ 100 → Ev (fun k => flyballref03_Text.j0 k s q.1 (bits q.2.1) (bits q.2.2)) (if q.2.2 = 1 then s else (s ++ (⟨#[47]⟩ : ByteArray)) ++ txt q.2.2) := fun s hs => by
    refine Ev.step (fun k => by simp only [flyballref03_Text.j0]; rfl) (Ev.bind (a := ([true] : List Bool)) (Ev.now _) (Ev.bind e4 ?_))
    by_cases c : q.2.2 = 1
    · rw [if_pos c]; exact Ev.congr (fun k => if_pos ((cmpN_zero _ _).2 c)) (Ev.now _)
    · rw [if_neg c]
      refine Ev.congr (fun k => if_neg (fun e => c ((cmpN_zero _ _).1 e))) (Ev.congr (fun k => if_pos (by omega)) (Ev.bind e3 ?_))
      exact Ev.congr (fun k => if_pos (by rw [ByteArray.size_append, size1]; omega)) (Ev.now _)
  unfold flyballref03_Text.f textS
  refine Ev.bind e2 ?_
  by_cases c : q.1 = true
  · rw [if_pos c]
    exact Ev.congr (fun k => if_pos c) (Ev.congr (fun k => if_pos (by omega)) (j _ (by rw [ByteArray.size_append, size1]; omega)))
  · rw [if_neg c]
    exact Ev.congr (fun k => if_neg c) (j _ (by omega))
theorem sign_ev {a : Bool} {n d : List Int} {p : QQ} {m : Nat} (h : G a n d p m) (h1 : 1 ≤ m) (hm : m ≤ 40000) : Ev (fun k => ratio_R_Sign.f k a n d) (signS p) := by
  have e := Rlow_ev a h.num h.den (by omega) (by omega)
  rw [h.low] at e
  have hz : ((words p.2.1).length : Int) = 0 ↔ p.2.1 = 0 := by
    constructor
    · intro c
      have c2 : words p.2.1 = [] := List.eq_nil_of_length_eq_zero (by omega)
      have := wv_words p.2.1
      rw [c2] at this
      exact this.symm
    · intro c; rw [c, words_zero]; rfl
  unfold ratio_R_Sign.f signS
  refine Ev.bind e ?_
  by_cases h0 : p.2.1 = 0
  · rw [if_pos h0]; exact Ev.congr (fun k => if_pos (hz.2 h0)) (Ev.now _)
  · rw [if_neg h0]
    refine Ev.congr (fun k => if_neg (fun c => h0 (hz.1 c))) ?_
    by_cases h2 : p.1 = true
    · rw [if_pos h2]; exact Ev.congr (fun k => if_pos h2) (Ev.now _)
    · rw [if_neg h2]; exact Ev.congr (fun k => if_neg h2) (Ev.now _)
theorem RatioOrders_j (b0 b1 : Bool) {l01 l02 l11 l12 : List Int} (h01 : WD l01) (h02 : WD l02) (h11 : WD l11) (h12 : WD l12) (n01 : l01.length ≤ 4) (n02 : l02.length ≤ 4) (n11 : l11.length ≤ 4) (n12 : l12.length ≤ 4) :
    Ev (fun k => (flyballlaw03_of.f k b0 l01 l02).bind fun bt108 => ((flyballlaw03_of.f k b1 l11 l12).bind fun bt116 => ((ratio_R_Neg1.f k b0 l01 l02).bind fun bt124 => ((flyballref03_Minus.f k bt108.1 bt108.2.1 bt108.2.2).bind fun bt131 => ((flyballlaw03_is.f k bt124.1 bt124.2.1 bt124.2.2 bt131.1 bt131.2.1 bt131.2.2).bind fun t138 => ((flyballref03_Low.f k false bt108.2.1 bt108.2.2).bind fun bt139 => ((ratio_R_Abs.f k b0 l01 l02).bind fun bt147 => ((flyballlaw03_is.f k bt147.1 bt147.2.1 bt147.2.2 bt139.1 bt139.2.1 bt139.2.2).bind fun t154 => (if t138 = true then (if t154 = true then ((ratio_R_Cmp.f k b0 l01 l02 b1 l11 l12).bind fun t155 => ((flyballref03_Cmp.f k bt108.1 bt108.2.1 bt108.2.2 bt116.1 bt116.2.1 bt116.2.2).bind fun t156 => (if t155 = t156 then ((ratio_R_Sign.f k b0 l01 l02).bind fun t157 => ((flyballref03_Sign.f k bt108.1 bt108.2.1 bt108.2.2).bind fun t158 => (if t157 = t158 then ((ratio_R_Len.f k b0 l01 l02).bind fun t159 => ((flyballref01_Len.f k bt108.2.1).bind fun t160 => ((flyballref01_Len.f k bt108.2.2).bind fun t161 => (if t159 = (wrap64 (t160 + t161)) then ((ratio_R_Text.f k b0 l01 l02).bind fun t162 => ((flyballref03_Text.f k bt108.1 bt108.2.1 bt108.2.2).bind fun t163 => (some (t162.toList == t163.toList)))) else (some false))))) else (some false)))) else (some false)))) else (some false)) else (some false)))))))))) true := by
  have ga : G b0 l01 l02 (lowS b0 (wv l01) (wv l02)) 4 := ⟨⟨h01, rfl, n01⟩, ⟨h02, rfl, n02⟩, rfl⟩
  have gb : G b1 l11 l12 (lowS b1 (wv l11) (wv l12)) 4 := ⟨⟨h11, rfl, n11⟩, ⟨h12, rfl, n12⟩, rfl⟩
  obtain ⟨x, y, rp⟩ := rep_any b0 (wv l01) (wv l02)
  obtain ⟨z, w, rq⟩ := rep_any b1 (wv l11) (wv l12)
  have qx := ga.ql (by decide)
  have qy := gb.ql (by decide)
  have e1 := of_ev b0 h01 h02 (by omega) (by omega)
  have e2 := of_ev b1 h11 h12 (by omega) (by omega)
  have e3 := RNeg1_ev b0 ga.num ga.den (by decide)
  have e4 := rMinus_ev qx (by decide)
  rw [minus_low] at e4
  have e5 := is_ev (q := lowS (!b0) (wv l01) (wv l02)) (lowS_QL ga.num.lt ga.den.lt (by decide)) (by decide)
  have bl1 := blen_of qx.num
  have bl2 := blen_of qx.den
  have e6 := rLow_ev false (bits (lowS b0 (wv l01) (wv l02)).2.1) (bits (lowS b0 (wv l01) (wv l02)).2.2) (by omega) (by omega)
  rw [bv_bits, bv_bits, lowS_low] at e6
  have e7 : Ev (fun k => ratio_R_Abs.f k b0 l01 l02) (RW (lowS false (wv l01) (wv l02))) := by
    unfold ratio_R_Abs.f
    exact Ev.bind (low_ev false ga.num ga.den (by decide) (by decide)) (Ev.now _)
  have e8 := is_ev (q := lowS false (wv l01) (wv l02)) (lowS_QL ga.num.lt ga.den.lt (by decide)) (by decide)
  have e9 := RCmp_ev' b0 b1 ga.num ga.den gb.num gb.den (by decide) (by decide)
  have e10 := rCmpQ_ev (t := b1) (C := wv l11) (D := wv l12) qx qy (by decide) (by decide) rp rq
  have e11 := sign_ev ga (by decide) (by decide)
  have e12 := rSign_ev qx (by decide)
  have i1 := Is.mk' qx.num
  have i2 := Is.mk' qx.den
  have e13 : Ev (fun k => ratio_R_Len.f k b0 l01 l02) (wrap64 ((((bits (lowS b0 (wv l01) (wv l02)).2.1).length : Nat) : Int) + (((bits (lowS b0 (wv l01) (wv l02)).2.2).length : Nat) : Int))) := by
    unfold ratio_R_Len.f
    exact Ev.bind (Rlow_ev b0 ga.num ga.den (by decide) (by decide)) (Ev.bind (i1.blen (by decide)) (Ev.bind (i2.blen (by decide)) (Ev.now _)))
  have e14 := Len_spec (bits (lowS b0 (wv l01) (wv l02)).2.1) (by omega)
  have e15 := Len_spec (bits (lowS b0 (wv l01) (wv l02)).2.2) (by omega)
  rw [bv_bits] at e14 e15
  have e16 := text_ev ga
  have e17 := rText_ev qx
  refine Ev.bind e1 (Ev.bind e2 (Ev.bind e3 (Ev.bind e4 (Ev.bind e5 (Ev.bind e6 (Ev.bind e7 (Ev.bind e8 (Ev.congr (fun k => if_pos rfl) (Ev.congr (fun k => if_pos rfl) ?_)))))))))
  refine Ev.bind e9 (Ev.bind e10 (Ev.congr (fun k => if_pos rfl) (Ev.bind e11 (Ev.bind e12 (Ev.congr (fun k => if_pos rfl) (Ev.bind e13 (Ev.bind e14 (Ev.bind e15 (Ev.congr (fun k => if_pos rfl) (Ev.bind e16 (Ev.bind e17 ?_)))))))))))
  exact Ev.congr (fun k => by rw [beq_self_eq_true]) (Ev.now true)
theorem RatioOrders (b0 : Bool) (l01 l02 : List Int) (b1 : Bool) (l11 l12 : List Int)
    (m01 : l01.length ≤ maxLen) (f01 : ∀ n ∈ l01, (Lit.int .u32 n).wf = true) (m02 : l02.length ≤ maxLen) (f02 : ∀ n ∈ l02, (Lit.int .u32 n).wf = true)
    (m11 : l11.length ≤ maxLen) (f11 : ∀ n ∈ l11, (Lit.int .u32 n).wf = true) (m12 : l12.length ≤ maxLen) (f12 : ∀ n ∈ l12, (Lit.int .u32 n).wf = true) :
    ∃ k, flyballlaw03_RatioOrders.f k b0 l01 l02 b1 l11 l12 = some true := by
  have h01 : WD l01 := WD_of f01
  have h02 : WD l02 := WD_of f02
  have h11 : WD l11 := WD_of f11
  have h12 : WD l12 := WD_of f12
  refine Ev.rounds ?_
  unfold flyballlaw03_RatioOrders.f
  refine Ev.bind works03_spec (Ev.congr (fun k => if_pos rfl) (Ev.bind (small3_spec _ (by simp)) ?_))
  simp only [List.all_cons, List.all_nil, Bool.and_true]
  by_cases hc : ((decide (l01.length ≤ 4) && decide (l02.length ≤ 4)) && (decide (l11.length ≤ 4) && decide (l12.length ≤ 4))) = true
  · rw [hc]
    simp only [Bool.and_eq_true, decide_eq_true_eq] at hc
    exact Ev.congr (fun k => if_pos rfl) (RatioOrders_j b0 b1 h01 h02 h11 h12 hc.1.1 hc.1.2 hc.2.1 hc.2.2)
  · exact Ev.congr (fun k => if_neg hc) (Ev.now _)
end Go.Proofs.Ytagbnkbhobmgjaa.Pure
end
