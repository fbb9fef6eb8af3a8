/- Digits are written, and read, just as the document says; what is written is read as the same number. Part 17 of 20. -/
import Derived.Test.YtagbnkbhobmgjaaNatTextsP
import Derived.Test.YtagbnkbhobmgjaaNatTextsH
import Derived.Lib.Bytes
import Derived.Test.YtagbnkbhobmgjaaNatTextsO
import Derived.Test.YtagbnkbhobmgjaaNatTextsL
import Derived.Test.YtagbnkbhobmgjaaNatTextsE
import Derived.Test.YtagbnkbhobmgjaaNatTextsM
import Derived.Test.YtagbnkbhobmgjaaNatTextsN
section
/- Numbers and their digits: what is written: plain arithmetic. -/
set_option linter.unusedVariables false
set_option linter.unusedSimpArgs false
namespace Go.Proofs.Ytagbnkbhobmgjaa.Pure
open Go.RowKit Go.Proofs.Ytagbnkbhobmgjaa.Fn Go.Proofs.YtagbnkbhobmgjaaW.PrintWords Go.Proofs.YtagbnkbhobmgjaaW.PrintMore Go.Proofs.YtagbnkbhobmgjaaW.PrintLast
/-! ### rows of digits, the least one first -/
def dv : List Int → Nat
  | [] => 0
  | x :: xs => (x - 48).toNat + 10 * dv xs
def DG (a : List Int) : Prop := ∀ x ∈ a, 48 ≤ x ∧ x ≤ 57
def digR (n : Nat) : List Int := if h : n = 0 then [] else ((48 + n % 10 : Nat) : Int) :: digR (n / 10)
  termination_by n
  decreasing_by exact Nat.div_lt_self (Nat.pos_of_ne_zero h) (by decide)
theorem digR_zero : digR 0 = [] := by unfold digR; rfl
theorem digR_pos {n : Nat} (h : n ≠ 0) : digR n = ((48 + n % 10 : Nat) : Int) :: digR (n / 10) := by rw [digR]; exact dif_neg h
theorem dv_digR : ∀ n, dv (digR n) = n := by
  intro n
  induction n using Nat.strongRecOn with
  | _ n ih =>
    by_cases h : n = 0
    · subst h; rw [digR_zero]; rfl
    · rw [digR_pos h]
      have := ih (n / 10) (Nat.div_lt_self (Nat.pos_of_ne_zero h) (by decide))
      simp only [dv]
      rw [this]; omega
theorem DG_digR : ∀ n, DG (digR n) := by
  intro n
  induction n using Nat.strongRecOn with
  | _ n ih =>
    by_cases h : n = 0
    · subst h; rw [digR_zero]; intro x hx; cases hx
    · rw [digR_pos h]
      intro x hx
      rcases List.mem_cons.1 hx with e | hx
      · subst e; omega
      · exact ih _ (Nat.div_lt_self (Nat.pos_of_ne_zero h) (by decide)) x hx
theorem digR_dv : ∀ {a : List Int}, DG a → (∀ x, a.getLast? = some x → x ≠ 48) → digR (dv a) = a
  | [], _, _ => digR_zero
  | x :: xs, h, hn => by
    have hx := h x List.mem_cons_self
    have hxs : DG xs := fun y hy => h y (List.mem_cons_of_mem _ hy)
    have hnx : ∀ y, xs.getLast? = some y → y ≠ 48 := by
      intro y hy
      cases xs with
      | nil => cases hy
      | cons z zs => exact hn y (by rw [List.getLast?_cons_cons]; exact hy)
    have ih := digR_dv hxs hnx
    have hne : dv (x :: xs) ≠ 0 := by
      simp only [dv]
      intro e
      have hx0 : x = 48 := by omega
      have hw0 : dv xs = 0 := by omega
      rw [hw0, digR_zero] at ih
      subst ih
      exact hn x rfl hx0
    have e1 : ((x - 48).toNat + 10 * dv xs) % 10 = (x - 48).toNat := by omega
    have e2 : ((x - 48).toNat + 10 * dv xs) / 10 = dv xs := by omega
    rw [digR_pos hne]
    simp only [dv]
    rw [e1, e2, ih]
    congr 1
    omega
theorem dv_append : ∀ (a b : List Int), dv (a ++ b) = dv a + 10 ^ a.length * dv b
  | [], b => by simp [dv]
  | x :: xs, b => by
    rw [List.cons_append]
    simp only [dv]
    rw [dv_append xs b, List.length_cons, Nat.pow_succ, Nat.mul_add, Nat.mul_comm (10 ^ xs.length) 10, Nat.mul_assoc]
    omega
theorem dv_snoc (a : List Int) (x : Int) : dv (a ++ [x]) = dv a + 10 ^ a.length * (x - 48).toNat := by
  rw [dv_append]; simp [dv]
theorem digR_len : ∀ (k n : Nat), n < 10 ^ k → (digR n).length ≤ k
  | 0, n, h => by
    have : n = 0 := by simp at h; exact h
    subst this; rw [digR_zero]; simp
  | k + 1, n, h => by
    by_cases h0 : n = 0
    · subst h0; rw [digR_zero]; simp
    · rw [digR_pos h0, List.length_cons]
      have : n / 10 < 10 ^ k := by rw [Nat.div_lt_iff_lt_mul (by decide), ← Nat.pow_succ]; exact h
      have := digR_len k _ this
      omega
/-- A number's text. -/
def txt (n : Nat) : ByteArray := if n = 0 then ⟨#[48]⟩ else strOfNums (digR n).reverse
/-! ### slices.Reverse -/
theorem rd_get {a : List Int} {i : Nat} (h : i < a.length) : a[i]? = some (rd a (i : Int)) := by
  rw [List.getElem?_eq_getElem h, rd_lt a i h]
theorem Rev_ev (D : List Int) (n : Nat) (hn : D.length = n) (hm : n ≤ 1000000000000) : ∀ (d i : Nat) (x : List Int), 2 * i + d = n → x.length = n →
    (∀ p, p < n → x[p]? = if p < i ∨ n ≤ p + i then D[n - 1 - p]? else D[p]?) →
    Ev (fun k => slices_Reverse_byte_byte.l0 k x (i : Int) ((n : Int) - 1 - i)) D.reverse := by
  intro d
  induction d using Nat.strongRecOn with
  | _ d ih =>
    intro i x hd hl hx
    by_cases h : i + 1 < n - i
    · have hi : i < x.length := by omega
      have hj : n - 1 - i < x.length := by omega
      have ej : ((n : Int) - 1 - i) = ((n - 1 - i : Nat) : Int) := by omega
      have ri := rd_get hi
      have rj := rd_get hj
      have key := ih (d - 2) (by omega) (i + 1) ((x.set i (rd x ((n - 1 - i : Nat) : Int))).set (n - 1 - i) (rd x (i : Int))) (by omega) (by simp [hl]) (by
        intro p hp
        rw [List.getElem?_set, List.getElem?_set, List.length_set]
        by_cases h1 : n - 1 - i = p
        · subst h1
          rw [if_pos rfl, if_pos hj, if_pos (by omega), ← ri, hx i (by omega), if_neg (by omega)]
          congr 1; omega
        · rw [if_neg h1]
          by_cases h2 : i = p
          · subst h2
            rw [if_pos rfl, if_pos hi, if_pos (by omega), ← rj, hx (n - 1 - i) (by omega), if_neg (by omega)]
          · rw [if_neg h2, hx p hp]
            by_cases h3 : p < i ∨ n ≤ p + i
            · rw [if_pos h3, if_pos (by omega)]
            · rw [if_neg h3, if_neg (by omega)])
      refine Ev.step (fun k => ?_) key
      simp only [slices_Reverse_byte_byte.l0]
      rw [ej]
      rw [if_pos (by omega), if_pos (by omega), if_pos (by omega), if_pos (by omega), if_pos (by omega), w64 (x := (i : Int) + 1) (by omega) (by omega), w64 (x := ((n - 1 - i : Nat) : Int) - 1) (by omega) (by omega)]
      have e3 : ((n - 1 - i : Nat) : Int) - 1 = (n : Int) - 1 - ((i + 1 : Nat) : Int) := by omega
      rw [e3]
      rfl
    · have e : x = D.reverse := by
        refine List.ext_getElem? fun p => ?_
        by_cases hp : p < n
        · rw [hx p hp, List.getElem?_reverse (by omega), hn]
          by_cases h3 : p < i ∨ n ≤ p + i
          · rw [if_pos h3]
          · rw [if_neg h3]; congr 1; omega
        · rw [List.getElem?_eq_none (by omega), List.getElem?_eq_none (by simp; omega)]
      rw [← e]
      refine Ev.step (f := fun _ => some x) (fun k => ?_) (Ev.now _)
      simp only [slices_Reverse_byte_byte.l0]
      rw [if_neg (by omega)]
theorem Rev_spec (D : List Int) (hm : D.length ≤ 1000000000000) : Ev (fun k => slices_Reverse_byte_byte.f k D) D.reverse := by
  have := Rev_ev D D.length rfl hm D.length 0 D (by omega) rfl (by
    intro p hp
    rw [if_neg (by omega)])
  unfold slices_Reverse_byte_byte.f
  rw [w64 (by omega) (by omega)]
  simpa using this
/-! ### Text -/
theorem Text_l2 (N : Nat) : ∀ (n : Nat) (a : List Int), a.length = n → n ≤ 1000000000000 → DG a → dv a = N → Ev (fun k => nat_Nat_Text.l2 k a) (txt N)
  | 0, a, hl, _, _, hv => by
    obtain rfl := List.eq_nil_of_length_eq_zero hl
    have : N = 0 := by rw [← hv]; rfl
    subst this
    exact Ev.step (f := fun _ => some (txt 0)) (fun k => by simp only [nat_Nat_Text.l2]; rw [if_neg (by simp), if_pos (by simp)]; rfl) (Ev.now _)
  | n + 1, a, hl, hm, hD, hv => by
    have hne : a ≠ [] := by intro e; subst e; simp at hl
    obtain ⟨xs, x, rfl⟩ : ∃ xs x, a = xs ++ [x] := ⟨a.dropLast, a.getLast hne, (List.dropLast_concat_getLast hne).symm⟩
    have hlx : xs.length = n := by simpa using hl
    have hw : wrap64 ((xs ++ [x]).length - 1 : Int) = ((xs ++ [x]).length - 1 : Int) := w64 (by omega) (by omega)
    have hx := (hD x (by simp))
    by_cases h0 : x = 48
    · subst h0
      have ih := Text_l2 N n xs hlx (by omega) (fun y hy => hD y (List.mem_append_left _ hy)) (by rw [← hv, dv_snoc]; simp)
      refine Ev.step (f := fun k => nat_Nat_Text.l2 k xs) (fun k => ?_) ih
      simp only [nat_Nat_Text.l2]
      rw [hw, if_pos (by simp), if_pos (by simp), if_pos (by omega), rd_last, if_pos rfl, if_pos (by omega)]
      congr 1
      have : (((xs ++ [(48 : Int)]).length : Int) - 1).toNat = xs.length := by simp
      rw [this, List.take_left']
      rfl
    · have e : digR N = xs ++ [x] := by
        rw [← hv]
        exact digR_dv hD (fun y hy => by
          rw [List.getLast?_concat] at hy
          injection hy with hy
          rw [← hy]; exact h0)
      have hN : N ≠ 0 := by intro e0; rw [e0, digR_zero] at e; simp at e
      have hr := Rev_spec (xs ++ [x]) (by omega)
      have et : txt N = strOfNums (xs ++ [x]).reverse := by unfold txt; rw [if_neg hN, e]
      rw [et]
      refine Ev.step (f := fun k => (slices_Reverse_byte_byte.f k (xs ++ [x])).bind fun t118 => some (strOfNums t118)) (fun k => ?_) (Ev.bind hr (Ev.now _))
      simp only [nat_Nat_Text.l2]
      rw [hw, if_pos (by simp), if_pos (by simp), if_pos (by omega), rd_last, if_neg h0, if_neg (by simp; omega)]
theorem Text_l1 (M V : Nat) (R : ByteArray) (o0 : Nat) (ho : o0 ≤ 1000000000) (hk : ∀ a, DG a → a.length = o0 + 9 → V = dv a + 10 ^ a.length * M → Ev (fun k => nat_Nat_Text.l0 k (words M) a) R) :
    ∀ (d j : Nat) (a : List Int) (x : Int), j + d = 9 → a.length = o0 + j → DG a → 0 ≤ x → x.toNat < 10 ^ d → V = dv a + 10 ^ a.length * x.toNat + 10 ^ (o0 + 9) * M →
      Ev (fun k => nat_Nat_Text.l1 k (words M) a x (j : Int)) R
  | 0, j, a, x, hd, hl, hD, h0, h1, hV => by
    have ej : j = 9 := by omega
    subst ej
    have ex : x.toNat = 0 := by simpa using h1
    rw [ex, Nat.mul_zero, Nat.add_zero, ← hl] at hV
    refine Ev.step (fun k => ?_) (hk a hD (by omega) hV)
    simp only [nat_Nat_Text.l1]
    rw [if_neg (by omega)]
  | d + 1, j, a, x, hd, hl, hD, h0, h1, hV => by
    have hp : 10 ^ (d + 1) ≤ 10 ^ 9 := Nat.pow_le_pow_right (by decide) (by omega)
    have hx9 : x < 1000000000 := by omega
    have e1 : (IntKind.u64.wrap (48 + Int.tmod x 10)) % 256 = ((48 + x.toNat % 10 : Nat) : Int) := by
      rw [Int.tmod_eq_emod_of_nonneg h0, u64i (by omega) (by omega)]; omega
    have e2 : IntKind.u64.wrap (Int.tdiv x 10) = ((x.toNat / 10 : Nat) : Int) := by
      rw [Int.tdiv_eq_ediv_of_nonneg h0, u64i (by omega) (by omega)]; omega
    have ih := Text_l1 M V R o0 ho hk d (j + 1) (a ++ [((48 + x.toNat % 10 : Nat) : Int)]) ((x.toNat / 10 : Nat) : Int) (by omega) (by simp; omega)
      (fun y hy => by
        rcases List.mem_append.1 hy with hy | hy
        · exact hD y hy
        · rw [List.mem_singleton.1 hy]; omega)
      (by omega) (by rw [Int.toNat_natCast, Nat.div_lt_iff_lt_mul (by decide), ← Nat.pow_succ]; exact h1)
      (by
        rw [hV, dv_snoc, List.length_append, List.length_singleton, Nat.pow_succ (m := a.length), Int.toNat_natCast]
        have e3 : (((48 + x.toNat % 10 : Nat) : Int) - 48).toNat = x.toNat % 10 := by omega
        rw [e3]
        have e4 : 10 ^ a.length * x.toNat = 10 ^ a.length * (x.toNat % 10) + 10 ^ a.length * 10 * (x.toNat / 10) := by
          rw [Nat.mul_assoc, ← Nat.mul_add, Nat.mod_add_div]
        rw [e4]
        simp only [Nat.add_assoc])
    refine Ev.step (fun k => ?_) ih
    simp only [nat_Nat_Text.l1]
    rw [if_pos (by omega), if_pos (by omega), e1, e2, w64 (by omega) (by omega)]
    rfl
theorem rd_words0 {n : Nat} (h : n < BW) : rd (words n) 0 = (n : Int) := by
  have h1 := mod_BW_drop (WD_words n) 0
  rw [List.drop_zero, wv_words, Nat.mod_eq_of_lt h] at h1
  have := (WD_rd (WD_words n) ((0 : Nat) : Int)).1
  have e : rd (words n) ((0 : Nat) : Int) = rd (words n) 0 := rfl
  rw [e] at h1 this
  omega
theorem Text_l0 (V : Nat) : ∀ (c N : Nat) (a : List Int), N < 1000000000 ^ c → a.length + 9 * c ≤ 1000000000 → (words N).length ≤ 1000000000 → DG a → V = dv a + 10 ^ a.length * N → Ev (fun k => nat_Nat_Text.l0 k (words N) a) (txt V)
  | 0, N, a, hN, hl, hw, hD, hV => by
    have : N = 0 := by simpa using hN
    subst this
    rw [words_zero]
    rw [Nat.mul_zero, Nat.add_zero] at hV
    refine Ev.step (fun k => ?_) (Text_l2 V a.length a rfl (by omega) hD hV.symm)
    simp only [nat_Nat_Text.l0]
    rw [if_neg (by simp)]
  | c + 1, N, a, hN, hl, hw, hD, hV => by
    by_cases h : N = 0
    · subst h
      rw [words_zero]
      rw [Nat.mul_zero, Nat.add_zero] at hV
      refine Ev.step (fun k => ?_) (Text_l2 V a.length a rfl (by omega) hD hV.symm)
      simp only [nat_Nat_Text.l0]
      rw [if_neg (by simp)]
    · have hs := short_spec (WD_words N) (by omega) 1000000000 (by omega) (by omega)
      rw [wv_words] at hs
      have e9 : (1000000000 : Int).toNat = 1000000000 := rfl
      rw [e9] at hs
      have hm : N % 1000000000 < 1000000000 := Nat.mod_lt _ (by decide)
      have hdl : (words (N / 1000000000)).length ≤ 1000000000 := by
        have : (words (N / 1000000000)).length ≤ (words N).length := words_len _ _ (Nat.lt_of_le_of_lt (Nat.div_le_self _ _) (by have := wv_lt (WD_words N); rw [wv_words] at this; exact this))
        omega
      have hl1 := Text_l1 (N / 1000000000) V (txt V) a.length (by omega) (fun a' h1 h2 h3 => Text_l0 V c (N / 1000000000) a' (by rw [Nat.div_lt_iff_lt_mul (by decide), ← Nat.pow_succ]; exact hN) (by omega) hdl h1 h3) 9 0 a ((N % 1000000000 : Nat) : Int) (by omega) (by omega) hD (by omega) (by rw [Int.toNat_natCast]; exact hm) (by
          rw [Int.toNat_natCast, hV]
          have e10 : (10 : Nat) ^ 9 = 1000000000 := rfl
          have e2 : 10 ^ a.length * N = 10 ^ a.length * (N % 1000000000) + 10 ^ (a.length + 9) * (N / 1000000000) := by
            rw [Nat.pow_add, e10, Nat.mul_assoc, ← Nat.mul_add, Nat.mod_add_div]
          omega)
      refine Ev.step (fun k => ?_) (Ev.bind hs (f := fun k bt104 => (nat_Nat_at.f bt104.2 0).bind fun t110 => nat_Nat_Text.l1 k bt104.1 a t110 0) ?_)
      · simp only [nat_Nat_Text.l0]
        rw [if_pos (by have := words_ne h; omega)]
      · refine Ev.congr (fun k => ?_) hl1
        rw [at_spec (WD_words _) 0 (by omega), rd_words0 (by rw [BW_eq]; omega)]
        rfl
theorem Text_spec {a : List Int} {A m : Nat} (ha : Is a A m) (hm : m ≤ 1000000) : Ev (fun k => nat_Nat_Text.f k a) (txt A) := by
  have ht := trim_spec ha.wd (Nat.le_trans ha.len (by omega))
  rw [ha.val] at ht
  unfold nat_Nat_Text.f
  refine Ev.bind ht (Text_l0 A (2 * m) A [] ?_ (by simp; omega) ?_ (fun x hx => by cases hx) (by simp [dv]))
  · refine Nat.lt_of_lt_of_le ha.lt ?_
    rw [Nat.pow_mul]
    exact Nat.pow_le_pow_left (by decide) m
  · have := words_len _ _ ha.lt
    omega
end Go.Proofs.Ytagbnkbhobmgjaa.Pure
end
section
/- The document's digits: plain arithmetic. -/
set_option linter.unusedVariables false
set_option linter.unusedSimpArgs false
namespace Go.Proofs.Ytagbnkbhobmgjaa.Pure
open Go.RowKit Go.Proofs.Ytagbnkbhobmgjaa.Fn Go.Proofs.YtagbnkbhobmgjaaW.PrintWords Go.Proofs.YtagbnkbhobmgjaaW.PrintMore Go.Proofs.YtagbnkbhobmgjaaW.PrintLast
/-! ### the document's text -/
theorem strOfNums_cons (x : Int) (acc : List Int) : strOfNums [x] ++ strOfNums acc = strOfNums (x :: acc) := by
  apply ByteArray.ext
  simp [strOfNums, ByteArray.data_append]
theorem strOf_nil {acc : List Int} : (strOfNums acc).toList = ([] : List UInt8) ↔ acc = [] := by
  rw [Lib.strOfNums_toList]
  unfold Lib.bytesOf
  exact List.map_eq_nil_iff
theorem div10_bits {n : Nat} (h : n ≠ 0) : (bits (n / 10)).length < (bits n).length := by
  have c := bv_lt (bits n)
  rw [bv_bits] at c
  have hp : (bits n).length ≠ 0 := by
    intro e
    have := (bits_len_le_iff n 0).1 (by omega)
    omega
  have e : 2 ^ (bits n).length = 2 * 2 ^ ((bits n).length - 1) := by
    rw [← Nat.pow_succ']; congr 1; omega
  have := bits_len ((bits n).length - 1) (n / 10) (by omega)
  omega
theorem RText_ev (T : List Bool) (hT : bv T = 10) (hTl : T.length = 64) : ∀ (L : Nat) (b : List Bool) (acc : List Int), (bits (bv b)).length = L → b.length ≤ 1000000000 → L + acc.length ≤ 1000000000 →
    Ev (fun k => flyballref02_Text.l0 k b T (strOfNums acc)) (if bv b = 0 ∧ acc = [] then ⟨#[48]⟩ else strOfNums ((digR (bv b)).reverse ++ acc)) := by
  intro L
  induction L using Nat.strongRecOn with
  | _ L ih =>
    intro b acc hL hb hacc
    have hlen := Len_spec b (by omega)
    by_cases h : bv b = 0
    · rw [h, bits_zero] at hlen
      rw [h, digR_zero]
      refine Ev.step (fun k => by simp only [flyballref02_Text.l0]; rfl) (Ev.bind hlen ?_)
      have z : ¬ (((([] : List Bool).length : Nat) : Int) > 0) := by simp
      simp only [if_neg z]
      by_cases hn : acc = []
      · subst hn
        rw [if_pos (show True ∧ ([] : List Int) = [] from ⟨trivial, rfl⟩)]
        exact Ev.congr (fun k => if_pos (strOf_nil.2 rfl)) (Ev.now _)
      · rw [if_neg (show ¬ (True ∧ acc = []) from fun c => hn c.2)]
        exact Ev.congr (fun k => if_neg (fun c => hn (strOf_nil.1 c))) (Ev.now _)
    · rw [if_neg (fun c => h c.1)]
      have hlp : 0 < (bits (bv b)).length := by
        have := bits_len_le_iff (bv b) 0
        omega
      obtain ⟨Q, d1, d2, d3⟩ := RDiv_spec b T (by omega) (by omega) (by omega)
      rw [hT] at d1 d2
      have hr10 : bv b % 10 < 10 := Nat.mod_lt _ (by decide)
      have hw := RWords_spec (bits (bv b % 10)) (by have := bits_len 4 (bv b % 10) (by omega); omega)
      rw [bv_take64 (by rw [bv_bits]; omega), bv_bits] at hw
      have hQl := Len_spec Q (by omega)
      have hQb := bits_bv_len Q
      have hd := div10_bits h
      rw [← d2] at hd
      have key := ih (bits (bv Q)).length (by omega) (bits (bv Q)) (((48 + bv b % 10 : Nat) : Int) :: acc) (by rw [bv_bits]) (by omega) (by rw [List.length_cons]; omega)
      rw [bv_bits, if_neg (fun c => by cases c.2), d2] at key
      have e3 : (digR (bv b)).reverse ++ acc = (digR (bv b / 10)).reverse ++ (((48 + bv b % 10 : Nat) : Int) :: acc) := by
        rw [digR_pos h, List.reverse_cons, List.append_assoc]; rfl
      rw [← e3] at key
      have e4 : (IntKind.u64.wrap (48 + rd [((bv b % 10 : Nat) : Int)] 0)) % 256 = ((48 + bv b % 10 : Nat) : Int) := by
        have er : rd [((bv b % 10 : Nat) : Int)] 0 = ((bv b % 10 : Nat) : Int) := rfl
        rw [er, u64i (by omega) (by omega)]; omega
      refine Ev.step (fun k => by simp only [flyballref02_Text.l0]; rfl) (Ev.bind hlen ?_)
      have z : (((bits (bv b)).length : Nat) : Int) > 0 := by omega
      simp only [if_pos z]
      refine Ev.bind d1 (Ev.bind hw ?_)
      have z1 : (0 : Int) < ((([((bv b % 10 : Nat) : Int)] : List Int).length : Nat) : Int) := by simp
      have z2 : (strOfNums [((48 + bv b % 10 : Nat) : Int)]).size + (strOfNums acc).size ≤ 9223372036854775807 := by
        rw [strOfNums_size, strOfNums_size, List.length_singleton]; omega
      simp only [if_pos z1, e4, Option.bind_some, if_pos z2]
      refine Ev.bind hQl (Ev.congr (fun k => ?_) key)
      rw [if_pos (by omega), if_pos (by omega), Int.toNat_natCast, bits_take, strOfNums_cons, d2]
theorem RText_spec (b : List Bool) (hb : b.length ≤ 100000000) : Ev (fun k => flyballref02_Text.f k b) (txt (bv b)) := by
  obtain ⟨T, h1, h2, h3⟩ := Of_spec (v := 10) (by omega) (by omega)
  have hbl := bits_bv_len b
  have := RText_ev T h3 h2 (bits (bv b)).length b [] rfl (by omega) (by simp; omega)
  unfold flyballref02_Text.f
  refine Ev.bind h1 ?_
  have e : (if bv b = 0 ∧ ([] : List Int) = [] then (⟨#[48]⟩ : ByteArray) else strOfNums ((digR (bv b)).reverse ++ [])) = txt (bv b) := by
    unfold txt; rw [List.append_nil]
    by_cases h : bv b = 0
    · rw [if_pos ⟨h, rfl⟩, if_pos h]
    · rw [if_neg (fun c => h c.1), if_neg h]
  rw [e] at this
  exact this
end Go.Proofs.Ytagbnkbhobmgjaa.Pure
end
section
/- What is read: plain arithmetic. -/
set_option linter.unusedVariables false
set_option linter.unusedSimpArgs false
namespace Go.Proofs.Ytagbnkbhobmgjaa.Pure
open Go.RowKit Go.Proofs.Ytagbnkbhobmgjaa.Fn Go.Proofs.YtagbnkbhobmgjaaW.PrintWords Go.Proofs.YtagbnkbhobmgjaaW.PrintMore Go.Proofs.YtagbnkbhobmgjaaW.PrintLast
/-! ### reading -/
def digb (s : ByteArray) (i : Nat) : Bool := decide (48 ≤ bt s (i : Int)) && decide (bt s (i : Int) ≤ 57)
def pv (s : ByteArray) : Nat → Nat
  | 0 => 0
  | i + 1 => pv s i * 10 + (bt s (i : Int) - 48).toNat
/-- Are they digits, d of them, from the i-th on? -/
def allD (s : ByteArray) : Nat → Nat → Bool
  | 0, _ => true
  | d + 1, i => digb s i && allD s d (i + 1)
theorem pv_lt (s : ByteArray) : ∀ (i : Nat), (∀ j, j < i → digb s j = true) → pv s i < 10 ^ i
  | 0, _ => by simp [pv]
  | i + 1, h => by
    have h1 := pv_lt s i (fun j hj => h j (by omega))
    have h2 := h i (by omega)
    unfold digb at h2
    simp only [Bool.and_eq_true, decide_eq_true_eq] at h2
    simp only [pv]
    rw [Nat.pow_succ]; omega
theorem Parse_l0 (s : ByteArray) (w : List Int) (sum p : Int) (i : Nat) (h : i < s.size) (hm : s.size ≤ 20000) (k : Nat) : nat_Parse.l0 (k + 1) s w sum p (s.size : Int) (i : Int) = nat_Parse.j1 k s w sum p (i : Int) (s.size : Int) (i : Int) (!(digb s i)) := by
  simp only [nat_Parse.l0]
  rw [if_pos (by omega), if_pos (by omega), if_pos (by omega)]
  unfold digb
  by_cases c : bt s (i : Int) < 48
  · rw [if_pos c, decide_eq_false (by omega : ¬ 48 ≤ bt s (i : Int))]; rfl
  · rw [if_neg c, decide_eq_true (by omega : 48 ≤ bt s (i : Int))]
    by_cases c2 : bt s (i : Int) > 57
    · rw [decide_eq_true c2, decide_eq_false (by omega)]; rfl
    · rw [decide_eq_false c2, decide_eq_true (by omega)]; rfl
theorem Parse_l0_end (s : ByteArray) (w : List Int) (sum p : Int) (k : Nat) : nat_Parse.l0 (k + 1) s w sum p (s.size : Int) (s.size : Int) = some (w, 0) := by
  simp only [nat_Parse.l0]
  rw [if_neg (by omega)]
theorem Parse_j1_bad (s : ByteArray) (w : List Int) (sum p a b c : Int) (k : Nat) : nat_Parse.j1 (k + 1) s w sum p a b c true = some ([], 22) := by
  simp only [nat_Parse.j1, if_true]
theorem Parse_j1_good (s : ByteArray) (w : List Int) (sum p : Int) (i : Nat) (h : i < s.size) (hm : s.size ≤ 20000) (k : Nat) : nat_Parse.j1 (k + 1) s w sum p (i : Int) (s.size : Int) (i : Int) false =
    if IntKind.u64.wrap (p * 10) = 1000000000 then nat_Parse.j2 k s w (IntKind.u64.wrap (IntKind.u64.wrap (sum * 10) + (bt s (i : Int) - 48) % 256)) (IntKind.u64.wrap (p * 10)) (s.size : Int) (i : Int) true
    else nat_Parse.j2 k s w (IntKind.u64.wrap (IntKind.u64.wrap (sum * 10) + (bt s (i : Int) - 48) % 256)) (IntKind.u64.wrap (p * 10)) (s.size : Int) (i : Int) ((i : Int) == (s.size : Int) - 1) := by
  have e : wrap64 ((s.size : Int) - 1) = (s.size : Int) - 1 := w64 (by omega) (by omega)
  simp only [nat_Parse.j1]
  rw [if_neg Bool.false_ne_true, if_pos (by omega), if_pos (by omega), e]
theorem Parse_j2_no (s : ByteArray) (w : List Int) (sum p c : Int) (i : Nat) (h : i ≤ 20000) (k : Nat) : nat_Parse.j2 (k + 1) s w sum p c (i : Int) false = nat_Parse.l0 k s w sum p c ((i + 1 : Nat) : Int) := by
  have e : wrap64 ((i : Int) + 1) = ((i + 1 : Nat) : Int) := w64 (by omega) (by omega)
  simp only [nat_Parse.j2]
  rw [if_neg Bool.false_ne_true, e]
theorem Parse_j2_yes (s : ByteArray) (w : List Int) (sum p c : Int) (i : Nat) (h : i ≤ 20000) (k : Nat) : nat_Parse.j2 (k + 1) s w sum p c (i : Int) true = (nat_New.f k p).bind fun t101 => (nat_Nat_Mul.f k w t101).bind fun t104 => (nat_New.f k sum).bind fun t107 => (nat_Nat_Add.f k t104 t107).bind fun t110 => nat_Parse.l0 k s t110 0 1 c ((i + 1 : Nat) : Int) := by
  have e : wrap64 ((i : Int) + 1) = ((i + 1 : Nat) : Int) := w64 (by omega) (by omega)
  simp only [nat_Parse.j2]
  rw [if_pos trivial, e]
theorem pow10_le {j : Nat} (hj : j ≤ 8) : 10 ^ j ≤ 100000000 := Nat.pow_le_pow_right (by decide) hj
theorem ar_by {j : Nat} (hj : j ≤ 8) : IntKind.u64.wrap (((10 ^ j : Nat) : Int) * 10) = ((10 ^ (j + 1) : Nat) : Int) := by
  have h := pow10_le hj
  rw [Nat.pow_succ]
  generalize 10 ^ j = P at *
  rw [u64i (by omega) (by omega)]; omega
theorem ar_sum {sum dg : Nat} {b : Int} (hb : b = ((48 + dg : Nat) : Int)) (h : sum < 100000000) (h9 : dg ≤ 9) : IntKind.u64.wrap (IntKind.u64.wrap ((sum : Int) * 10) + (b - 48) % 256) = ((sum * 10 + dg : Nat) : Int) := by
  rw [hb, u64i (x := (sum : Int) * 10) (by omega) (by omega), u64i (by omega) (by omega)]; omega
theorem nine_of {j : Nat} (hj : j ≤ 8) (h : ¬ ((10 ^ (j + 1) : Nat) : Int) = 1000000000) : j + 1 ≤ 8 := by
  rcases Nat.lt_or_ge j 8 with h1 | h1
  · exact h1
  · have : j = 8 := Nat.le_antisymm hj h1
    subst this
    exact absurd rfl h
theorem digb_of {s : ByteArray} {i : Nat} (h : digb s i = true) : ∃ dg : Nat, bt s (i : Int) = ((48 + dg : Nat) : Int) ∧ dg ≤ 9 := by
  unfold digb at h
  simp only [Bool.and_eq_true, decide_eq_true_eq] at h
  exact ⟨(bt s (i : Int) - 48).toNat, by omega, by omega⟩
theorem pv_step {s : ByteArray} {i dg : Nat} (h : bt s (i : Int) = ((48 + dg : Nat) : Int)) : pv s (i + 1) = pv s i * 10 + dg := by
  simp only [pv]
  rw [h]
  have : (((48 + dg : Nat) : Int) - 48).toNat = dg := by omega
  rw [this]
theorem le_ext {s : ByteArray} {i : Nat} (hp : ∀ p, p < i → digb s p = true) (h : digb s i = true) : ∀ p, p < i + 1 → digb s p = true := fun p hq => by
  rcases Nat.lt_or_ge p i with h1 | h1
  · exact hp p h1
  · have : p = i := by omega
    rw [this]; exact h
/-- A group of digits is put down. -/
theorem Parse_put {s : ByteArray} {A sum P i : Nat} {R : List Int × Int} (hm : i ≤ 20000) (hA : A < BW ^ i) (hP : P ≤ 1000000000) (hs : sum < P) (ih : Ev (fun k => nat_Parse.l0 k s (words (A * P + sum)) 0 1 (s.size : Int) ((i + 1 : Nat) : Int)) R) :
    Ev (fun k => nat_Parse.j2 k s (words A) (sum : Int) (P : Int) (s.size : Int) (i : Int) true) R := by
  have n1 := New_spec (P : Int) (by omega) (by omega)
  have n2 := New_spec (sum : Int) (by omega) (by omega)
  rw [Int.toNat_natCast] at n1 n2
  have b1 : P < BW ^ 1 := by rw [Nat.pow_one, BW_eq]; omega
  have b2 : sum < BW ^ 1 := by rw [Nat.pow_one, BW_eq]; omega
  have i1 := Is.mk' hA
  obtain ⟨m1, i4⟩ := i1.mul (Is.mk' b1) (by omega) (by omega)
  obtain ⟨m2, i5⟩ := i4.add (Is.mk' b2) (by omega) (by omega)
  exact Ev.step (Parse_j2_yes s (words A) (sum : Int) (P : Int) (s.size : Int) i hm) (Ev.bind n1 (Ev.bind m1 (Ev.bind n2 (Ev.bind m2 ih))))
theorem Parse_ev (s : ByteArray) (hm : s.size ≤ 20000) : ∀ (d i A j sum : Nat), i + d = s.size → (∀ p, p < i → digb s p = true) → j ≤ 8 → sum < 10 ^ j → pv s i = A * 10 ^ j + sum → (d = 0 → j = 0 ∧ sum = 0) → A < BW ^ i →
    Ev (fun k => nat_Parse.l0 k s (words A) (sum : Int) ((10 ^ j : Nat) : Int) (s.size : Int) (i : Int)) (if allD s d i = true then (words (pv s s.size), 0) else ([], 22))
  | 0, i, A, j, sum, hd, hp, hj, hs, hv, hz, hA => by
    obtain ⟨ej, es⟩ := hz rfl
    have ei : i = s.size := hd
    subst ej es
    rw [Nat.pow_zero, Nat.mul_one, Nat.add_zero] at hv
    rw [← hv]
    subst ei
    exact Ev.step (f := fun _ => some (words (pv s s.size), 0)) (Parse_l0_end s _ _ _) (Ev.now _)
  | d + 1, i, A, j, sum, hd, hp, hj, hs, hv, hz, hA => by
    have hi : i < s.size := Nat.lt_of_lt_of_eq (Nat.lt_add_of_pos_right (Nat.succ_pos d)) hd
    have hd' : i + 1 + d = s.size := by rw [← hd, Nat.add_assoc, Nat.add_comm 1 d]
    have hi2 : i ≤ 20000 := Nat.le_trans (Nat.le_of_lt hi) hm
    refine Ev.step (Parse_l0 s _ _ _ i hi hm) ?_
    cases hdg : digb s i with
    | false =>
      have : allD s (d + 1) i = false := by simp only [allD]; rw [hdg]; rfl
      rw [this]
      exact Ev.step (f := fun _ => some ([], 22)) (Parse_j1_bad s _ _ _ _ _ _) (Ev.now _)
    | true =>
      have hall : allD s (d + 1) i = allD s d (i + 1) := by simp only [allD]; rw [hdg]; rfl
      rw [hall]
      have hp' := le_ext hp hdg
      obtain ⟨dg, hb, h9⟩ := digb_of hdg
      have h8 := pow10_le hj
      have es := ar_sum hb (Nat.lt_of_lt_of_le hs h8) h9
      have eb := ar_by hj
      have hpv : pv s (i + 1) = A * 10 ^ (j + 1) + (sum * 10 + dg) := by
        rw [pv_step hb, hv, Nat.pow_succ, Nat.add_mul, Nat.mul_assoc, Nat.add_assoc]
      have hs' : sum * 10 + dg < 10 ^ (j + 1) := by
        rw [Nat.pow_succ]
        clear hpv es eb hv
        generalize 10 ^ j = P at *
        omega
      have hA' : pv s (i + 1) < BW ^ (i + 1) := Nat.lt_of_lt_of_le (pv_lt s (i + 1) hp') (Nat.pow_le_pow_left (by decide) _)
      have hA1 : A < BW ^ (i + 1) := Nat.lt_of_lt_of_le hA (Nat.pow_le_pow_right BW_pos (Nat.le_succ i))
      have hP9 : 10 ^ (j + 1) ≤ 1000000000 := by
        rw [Nat.pow_succ]
        exact Nat.mul_le_mul_right 10 h8
      have put : Ev (fun k => nat_Parse.j2 k s (words A) ((sum * 10 + dg : Nat) : Int) ((10 ^ (j + 1) : Nat) : Int) (s.size : Int) (i : Int) true) (if allD s d (i + 1) = true then (words (pv s s.size), 0) else ([], 22)) := by
        have ih := Parse_ev s hm d (i + 1) (pv s (i + 1)) 0 0 hd' hp' (Nat.zero_le 8) Nat.one_pos (by simp) (fun _ => ⟨rfl, rfl⟩) hA'
        rw [hpv] at ih
        exact Parse_put hi2 hA hP9 hs' ih
      refine Ev.step (Parse_j1_good s _ _ _ i hi hm) ?_
      rw [es, eb]
      by_cases c9 : ((10 ^ (j + 1) : Nat) : Int) = 1000000000
      · exact Ev.congr (fun k => if_pos c9) put
      · refine Ev.congr (fun k => if_neg c9) ?_
        by_cases cl : (i : Int) = (s.size : Int) - 1
        · rw [beq_iff_eq.2 cl]; exact put
        · rw [beq_eq_false_iff_ne.2 cl]
          have hd0 : ¬ d = 0 := fun c => by
            subst c
            clear hpv es eb hv hs' hA' hA1 hP9 put c9 hs h8 hA
            omega
          have ih := Parse_ev s hm d (i + 1) A (j + 1) (sum * 10 + dg) hd' hp' (nine_of hj c9) hs' hpv (fun h => absurd h hd0) hA1
          exact Ev.step (Parse_j2_no s _ _ _ _ i hi2) ih
theorem Parse_spec (s : ByteArray) (hm : s.size ≤ 20000) : Ev (fun k => nat_Parse.f k s) (if 0 < s.size ∧ allD s s.size 0 = true then (words (pv s s.size), 0) else ([], 22)) := by
  unfold nat_Parse.f
  refine Ev.congr (fun k => if_neg (by omega)) ?_
  by_cases h : s.size = 0
  · have e : s.toList = ([] : List UInt8) := by
      rw [Lib.toList_data]
      exact List.eq_nil_of_length_eq_zero (by rw [Array.length_toList]; exact h)
    rw [if_neg (by omega)]
    exact Ev.congr (fun k => if_pos e) (Ev.now _)
  · have e : ¬ s.toList = ([] : List UInt8) := fun c => by
      rw [Lib.toList_data] at c
      have := congrArg List.length c
      rw [Array.length_toList] at this
      exact h this
    have hp := Parse_ev s hm s.size 0 0 0 0 (by omega) (fun p hp => by omega) (by omega) (by simp) (by simp [pv]) (fun c => absurd c h) (by simp)
    have e2 : (if 0 < s.size ∧ allD s s.size 0 = true then (words (pv s s.size), (0 : Int)) else ([], 22)) = (if allD s s.size 0 = true then (words (pv s s.size), 0) else ([], 22)) := by
      by_cases c : allD s s.size 0 = true
      · rw [if_pos c, if_pos ⟨by omega, c⟩]
      · rw [if_neg c, if_neg (fun d => c d.2)]
    rw [e2]
    rw [words_zero] at hp
    exact Ev.congr (fun k => if_neg e) hp
end Go.Proofs.Ytagbnkbhobmgjaa.Pure
end
section
/- What the document reads: plain arithmetic. -/
set_option linter.unusedVariables false
set_option linter.unusedSimpArgs false
namespace Go.Proofs.Ytagbnkbhobmgjaa.Pure
open Go.RowKit Go.Proofs.Ytagbnkbhobmgjaa.Fn Go.Proofs.YtagbnkbhobmgjaaW.PrintWords Go.Proofs.YtagbnkbhobmgjaaW.PrintMore Go.Proofs.YtagbnkbhobmgjaaW.PrintLast
theorem RParse_ev (s : ByteArray) (n : Nat) (hn : s.size = n) (hm : n ≤ 20000) (T : List Bool) (hT : bv T = 10) (hTl : T.length = 64) : ∀ (d i : Nat) (x : List Bool), i + d = n → (∀ p, p < i → digb s p = true) → bv x = pv s i → x.length ≤ 4 * i →
    ∃ r, Ev (fun k => flyballref02_Parse.l0 k s x T (i : Int)) r ∧ (allD s d i = true → r.2 = decide (0 < n) ∧ bv r.1 = pv s n ∧ r.1.length ≤ 4 * n) ∧ (allD s d i = false → r = ([], false))
  | 0, i, x, hd, hp, hv, hx => by
    have ei : i = n := by omega
    refine ⟨(x, decide ((s.size : Int) > 0)), Ev.step (f := fun _ => some (x, decide ((s.size : Int) > 0))) (fun k => ?_) (Ev.now _), fun _ => ⟨?_, by rw [hv, ei], by show x.length ≤ 4 * n; omega⟩, fun h => by simp [allD] at h⟩
    · simp only [flyballref02_Parse.l0]
      rw [if_neg (by omega)]
    · show decide ((s.size : Int) > 0) = _
      rw [decide_eq_decide]; omega
  | d + 1, i, x, hd, hp, hv, hx => by
    have ei : wrap64 ((i : Int) + 1) = ((i + 1 : Nat) : Int) := w64 (by omega) (by omega)
    have step : ∀ k, flyballref02_Parse.l0 (k + 1) s x T (i : Int) = flyballref02_Parse.j1 k s x T (i : Int) (!(digb s i)) := fun k => by
      simp only [flyballref02_Parse.l0]
      rw [if_pos (by omega), if_pos (by omega)]
      unfold digb
      by_cases c : bt s (i : Int) < 48
      · rw [if_pos c, decide_eq_false (by omega : ¬ 48 ≤ bt s (i : Int))]; rfl
      · rw [if_neg c, decide_eq_true (by omega : 48 ≤ bt s (i : Int))]
        by_cases c2 : bt s (i : Int) > 57
        · rw [decide_eq_true c2, decide_eq_false (by omega)]; rfl
        · rw [decide_eq_false c2, decide_eq_true (by omega)]; rfl
    cases hdg : digb s i with
    | false =>
      rw [hdg] at step
      refine ⟨([], false), Ev.step step (Ev.step (f := fun _ => some ([], false)) (fun k => by simp only [flyballref02_Parse.j1]; rfl) (Ev.now _)), fun h => ?_, fun _ => rfl⟩
      simp only [allD] at h
      rw [hdg] at h; cases h
    | true =>
      rw [hdg] at step
      have hall : allD s (d + 1) i = allD s d (i + 1) := by simp only [allD]; rw [hdg]; rfl
      rw [hall]
      have hp' : ∀ p, p < i + 1 → digb s p = true := fun p h => by
        rcases Nat.lt_or_ge p i with h1 | h1
        · exact hp p h1
        · have : p = i := by omega
          rw [this]; exact hdg
      have hdd := hdg
      unfold digb at hdd
      simp only [Bool.and_eq_true, decide_eq_true_eq] at hdd
      obtain ⟨g0, g1⟩ := hdd
      have ev : (bt s (i : Int) - 48) % 256 = bt s (i : Int) - 48 := by omega
      obtain ⟨m, m1, m2, m3⟩ := RMul_spec x T (by omega)
      obtain ⟨o, o1, o2, o3⟩ := Of_spec (v := (bt s (i : Int) - 48) % 256) (by omega) (by omega)
      rw [ev] at o3
      obtain ⟨a, a1, a2, a3⟩ := RAdd_spec m o (by omega) (by omega)
      have hav : bv a = pv s (i + 1) := by
        rw [a2, m2, o3, hv, hT]; rfl
      have hL := Len_spec a (by omega)
      have hab := bits_bv_len a
      have hlt := pv_lt s (i + 1) hp'
      have hbl : (bits (bv a)).length ≤ 4 * (i + 1) := by
        rw [hav]
        refine bits_len _ _ (Nat.lt_of_lt_of_le hlt ?_)
        rw [Nat.pow_mul]; exact Nat.pow_le_pow_left (by decide) _
      obtain ⟨r, r1, r2, r3⟩ := RParse_ev s n hn hm T hT hTl d (i + 1) (bits (bv a)) (by omega) hp' (by rw [bv_bits, hav]) hbl
      refine ⟨r, Ev.step step (Ev.step (fun k => by simp only [flyballref02_Parse.j1]; rw [if_neg (by simp), ei]) (Ev.bind m1 (Ev.congr (fun k => by rw [if_pos (by omega), if_pos (by omega)]) (Ev.bind o1 (Ev.bind a1 (Ev.bind hL (Ev.congr (fun k => ?_) r1))))))), r2, r3⟩
      rw [if_pos (by omega), if_pos (by omega), Int.toNat_natCast, bits_take]
theorem RParse_spec (s : ByteArray) (hm : s.size ≤ 20000) : ∃ r, Ev (fun k => flyballref02_Parse.f k s) r ∧ ((0 < s.size ∧ allD s s.size 0 = true) → r.2 = true ∧ bv r.1 = pv s s.size ∧ r.1.length ≤ 4 * s.size) ∧ (¬ (0 < s.size ∧ allD s s.size 0 = true) → r.2 = false) := by
  obtain ⟨T, h1, h2, h3⟩ := Of_spec (v := 10) (by omega) (by omega)
  obtain ⟨r, r1, r2, r3⟩ := RParse_ev s s.size rfl hm T h3 h2 s.size 0 [] (by omega) (fun p hp => by omega) (by simp [bv_nil, pv]) (by simp)
  refine ⟨r, Ev.bind h1 r1, fun h => ?_, fun h => ?_⟩
  · obtain ⟨a, b, c⟩ := r2 h.2
    exact ⟨by rw [a, decide_eq_true h.1], b, c⟩
  · by_cases c : allD s s.size 0 = true
    · have h0 : ¬ 0 < s.size := fun c2 => h ⟨c2, c⟩
      rw [(r2 c).1, decide_eq_false h0]
    · rw [r3 (by simpa using c)]
end Go.Proofs.Ytagbnkbhobmgjaa.Pure
end
section
/- What is written is read again. -/
set_option linter.unusedVariables false
set_option linter.unusedSimpArgs false
namespace Go.Proofs.Ytagbnkbhobmgjaa.Pure
open Go.RowKit Go.Proofs.Ytagbnkbhobmgjaa.Fn Go.Proofs.YtagbnkbhobmgjaaW.PrintWords Go.Proofs.YtagbnkbhobmgjaaW.PrintMore Go.Proofs.YtagbnkbhobmgjaaW.PrintLast
/-! ### what is written is read again -/
theorem bt_strOf {D : List Int} (i : Nat) (hi : i < D.length) (h : ∀ x ∈ D, 0 ≤ x ∧ x < 256) : bt (strOfNums D) (i : Int) = rd D (i : Int) := by
  have hs := strOfNums_size D
  unfold bt
  rw [Int.toNat_natCast, dif_pos (by omega), rd_lt D i hi]
  have hx := h D[i] (List.getElem_mem hi)
  have e : (strOfNums D)[i]'(by omega) = UInt8.ofNat (D[i]).toNat := by
    unfold strOfNums
    simp [ByteArray.getElem_eq_getElem_data]
  rw [e]
  have : (UInt8.ofNat (D[i]).toNat).toNat = (D[i]).toNat := by
    rw [UInt8.toNat_ofNat']; omega
  rw [this]; omega
theorem pv_strOf {D : List Int} (hD : DG D) : ∀ i, i ≤ D.length → pv (strOfNums D) i = dv (D.take i).reverse
  | 0, _ => by simp [pv, dv]
  | i + 1, h => by
    have hi : i < D.length := by omega
    simp only [pv]
    rw [pv_strOf hD i (by omega), bt_strOf i hi (fun x hx => by have := hD x hx; omega), rd_lt D i hi, List.take_succ_eq_append_getElem hi, List.reverse_append]
    simp only [List.reverse_cons, List.reverse_nil, List.nil_append, List.cons_append, dv]
    omega
theorem allD_strOf {D : List Int} (hD : DG D) : ∀ (d i : Nat), i + d = D.length → allD (strOfNums D) d i = true
  | 0, i, h => rfl
  | d + 1, i, h => by
    have hi : i < D.length := by omega
    have hx := hD D[i] (List.getElem_mem hi)
    simp only [allD]
    rw [allD_strOf hD d (i + 1) (by omega)]
    unfold digb
    rw [bt_strOf i hi (fun x hx => by have := hD x hx; omega), rd_lt D i hi, decide_eq_true hx.1, decide_eq_true hx.2]; rfl
theorem txt_reads (N : Nat) : 0 < (txt N).size ∧ allD (txt N) (txt N).size 0 = true ∧ pv (txt N) (txt N).size = N := by
  unfold txt
  by_cases h : N = 0
  · rw [if_pos h, h]
    refine ⟨by decide, by decide, by decide⟩
  · rw [if_neg h]
    have hD : DG (digR N).reverse := fun x hx => DG_digR N x (List.mem_reverse.1 hx)
    have hl : (strOfNums (digR N).reverse).size = (digR N).reverse.length := strOfNums_size _
    have hp : 0 < (digR N).length := by rw [digR_pos h]; simp
    rw [hl]
    refine ⟨by simpa using hp, allD_strOf hD _ 0 (by omega), ?_⟩
    rw [pv_strOf hD _ (Nat.le_refl _), List.take_length, List.reverse_reverse, dv_digR]
theorem txt_size {N m : Nat} (h : N < 10 ^ m) (hm : 1 ≤ m) : (txt N).size ≤ m := by
  unfold txt
  by_cases h0 : N = 0
  · rw [if_pos h0]; exact hm
  · rw [if_neg h0, strOfNums_size, List.length_reverse]
    exact digR_len m N h
end Go.Proofs.Ytagbnkbhobmgjaa.Pure
end
section
/- Digits are written, and read, just as the document says; what is written is read as the same number. -/
set_option linter.unusedVariables false
set_option linter.unusedSimpArgs false
namespace Go.Proofs.Ytagbnkbhobmgjaa.Pure
open Go.RowKit Go.Proofs.Ytagbnkbhobmgjaa.Fn Go.Proofs.YtagbnkbhobmgjaaW.PrintWords Go.Proofs.YtagbnkbhobmgjaaW.PrintMore Go.Proofs.YtagbnkbhobmgjaaW.PrintLast
theorem allD_all {s : ByteArray} : ∀ (d i : Nat), allD s d i = true → ∀ p, i ≤ p → p < i + d → digb s p = true
  | 0, i, _, p, h1, h2 => by omega
  | d + 1, i, h, p, h1, h2 => by
    simp only [allD, Bool.and_eq_true] at h
    rcases Nat.lt_or_ge i p with h3 | h3
    · exact allD_all d (i + 1) h.2 p h3 (by omega)
    · have : p = i := by omega
      rw [this]; exact h.1
theorem NatTexts_j1 (s : ByteArray) (hs : s.size ≤ 200) : Ev (fun k => flyballlaw02_NatTexts.j1 k s true false) true := by
  have hp := Parse_spec s (by omega)
  obtain ⟨r, r1, r2, r3⟩ := RParse_spec s (by omega)
  by_cases c : 0 < s.size ∧ allD s s.size 0 = true
  · rw [if_pos c] at hp
    obtain ⟨e1, e2, e3⟩ := r2 c
    have hlt := pv_lt s s.size (fun p h => allD_all s.size 0 c.2 p (Nat.zero_le p) (by omega))
    have hw : (words (pv s s.size)).length ≤ s.size := words_len _ _ (Nat.lt_of_lt_of_le hlt (Nat.pow_le_pow_left (by decide) _))
    have hi := Is_spec (words (pv s s.size)) r.1 (by omega) (by omega)
    rw [e2, decide_eq_true rfl] at hi
    refine Ev.step (fun k => by simp only [flyballlaw02_NatTexts.j1]; rw [if_neg Bool.false_ne_true]) (Ev.bind hp (Ev.bind r1 ?_))
    refine Ev.congr (fun k => if_pos e1) (Ev.bind hi (Ev.now true))
  · rw [if_neg c] at hp
    have e1 := r3 c
    refine Ev.step (fun k => by simp only [flyballlaw02_NatTexts.j1]; rw [if_neg Bool.false_ne_true]) (Ev.bind hp (Ev.bind r1 ?_))
    exact Ev.congr (fun k => if_neg (by rw [e1]; exact Bool.false_ne_true)) (Ev.now true)
theorem NatTexts : flyballlaw02_NatTexts.Pure := by
  intro a s la _ ha hs
  have hWa := WD_of ha
  refine Ev.rounds ?_
  unfold flyballlaw02_NatTexts.f
  have done : Ev (fun k => flyballlaw02_NatTexts.j0 k a s true true) true := Ev.step (f := fun _ => some true) (fun k => by simp only [flyballlaw02_NatTexts.j0, if_true]) (Ev.now _)
  refine Ev.bind works02_spec (Ev.congr (fun k => if_pos rfl) (Ev.bind (small_spec [a] (by simp)) ?_))
  by_cases hsm' : ¬ ([a].all fun l => decide (l.length ≤ 24)) = true
  · simp only [if_neg hsm']; exact done
  have hsm := Decidable.not_not.1 hsm'
  simp only [if_pos hsm]
  have l1 : a.length ≤ 24 := by simpa using hsm
  by_cases h2 : (s.size : Int) > 200
  · rw [decide_eq_true h2]; exact done
  · rw [decide_eq_false h2]
    have iA := Is.of hWa l1
    have hT := Text_spec iA (by omega)
    have hB := Bits_spec hWa (by omega)
    have n1 := bits_wv_len hWa
    have hR := RText_spec (bits (wv a)) (by omega)
    rw [bv_bits] at hR
    obtain ⟨t1, t2, t3⟩ := txt_reads (wv a)
    have hsz : (txt (wv a)).size ≤ 10 * 24 := txt_size (Nat.lt_of_lt_of_le iA.lt (by rw [Nat.pow_mul]; exact Nat.pow_le_pow_left (by decide) 24)) (by omega)
    have hP := Parse_spec (txt (wv a)) (by omega)
    rw [if_pos ⟨t1, t2⟩, t3] at hP
    have hc := (Is.mk' iA.lt).cmp iA (by omega) (by omega)
    rw [cmpN_eq] at hc
    refine Ev.step (fun k => by simp only [flyballlaw02_NatTexts.j0]; rw [if_neg Bool.false_ne_true]) (Ev.bind hT (Ev.bind hP (Ev.bind hB (Ev.bind hR (Ev.congr (fun k => if_pos rfl) (Ev.congr (fun k => if_pos rfl) (Ev.bind hc ?_)))))))
    exact NatTexts_j1 s (by omega)
end Go.Proofs.Ytagbnkbhobmgjaa.Pure
end
