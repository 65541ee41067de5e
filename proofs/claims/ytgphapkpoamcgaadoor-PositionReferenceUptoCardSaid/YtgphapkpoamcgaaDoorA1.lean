/- A1: joined from L0 O0. -/
import Derived.Test.YtgphapkpoamcgaaDoorK3
import Derived.Lib.Strings
import Derived.Lib.Bytealg
import Derived.Lib.Fields
import Derived.Lib.TrimU
import Derived.Shelf.Unicode.DecodeSlow
/- Strings as lists of bytes; what the lexer computes. -/
set_option linter.unusedSimpArgs false
set_option linter.unusedVariables false
namespace Go.Proofs.YtgphapkpoamcgaaDoor
open Go Go.Ab
abbrev ii (n : Int) : PV := .lit (.int .i64 n)
abbrev bb (n : Bool) : PV := .lit (.bool n)
abbrev u8 (c : UInt8) : PV := .lit (.int .u8 (c.toNat : Int))
abbrev sb (l : List UInt8) : PV := .lit (.string ⟨l.toArray⟩)
theorem c0 : ((0 : Nat) : Int) = 0 := rfl
theorem c1x : ((1 : Nat) : Int) = 1 := rfl
theorem sb_size (l : List UInt8) : (⟨l.toArray⟩ : ByteArray).size = l.length := by rw [Go.Lib.size_eq]
theorem sb_cut (l : List UInt8) (a b : Nat) : (⟨l.toArray⟩ : ByteArray).extract a b = ⟨((l.drop a).take (b - a)).toArray⟩ := by rw [Go.Lib.extract_eq]
theorem sb_take (l : List UInt8) (b : Nat) : (⟨l.toArray⟩ : ByteArray).extract 0 b = ⟨(l.take b).toArray⟩ := by rw [sb_cut]; rfl
theorem sb_drop (l : List UInt8) (a : Nat) : (⟨l.toArray⟩ : ByteArray).extract a l.length = ⟨(l.drop a).toArray⟩ := by
  rw [sb_cut, List.take_of_length_le (by simp)]
theorem sb_list (l : List UInt8) : (⟨l.toArray⟩ : ByteArray).toList = l := by rw [Go.Lib.toList_data]
theorem sb_get (l : List UInt8) (n : Nat) : (⟨l.toArray⟩ : ByteArray)[n]? = l[n]? := by
  rcases Nat.lt_or_ge n l.length with h | h
  · rw [List.getElem?_eq_getElem h, getElem?_pos (⟨l.toArray⟩ : ByteArray) n (by rw [sb_size]; exact h)]; rfl
  · rw [List.getElem?_eq_none h, getElem?_neg (⟨l.toArray⟩ : ByteArray) n (by rw [sb_size]; omega)]
theorem sb_at {l : List UInt8} {k : Nat} {p : UInt8 → Prop} (h : k < l.length) : (∃ (c : UInt8), (⟨l.toArray⟩ : ByteArray)[k]? = some c ∧ p c) = p (l.getD k 0) := by
  refine propext ⟨fun ⟨c, h2, h3⟩ => ?_, fun h1 => ⟨l.getD k 0, ?_, h1⟩⟩
  · rw [sb_get] at h2
    rw [List.getD_eq_getElem?_getD, h2]; exact h3
  · rw [sb_get, List.getD_eq_getElem?_getD, List.getElem?_eq_getElem h]; rfl
theorem sb_eta (x : ByteArray) : PV.lit (.string x) = sb x.data.toList := rfl
def encS (xs : List (List UInt8)) : List PV := xs.map fun x => sb x
theorem encS_len (xs : List (List UInt8)) : (encS xs).length = xs.length := by simp [encS]
theorem encS_at (ts us : List (List UInt8)) (t : List UInt8) : (encS (ts ++ t :: us))[ts.length]? = some (sb t) := by simp [encS]
/-! ### runs -/
def runL (p : UInt8 → Bool) : List UInt8 → Nat
  | [] => 0
  | c :: l => if p c then runL p l + 1 else 0
theorem runL_le (p : UInt8 → Bool) : ∀ l, runL p l ≤ l.length
  | [] => Nat.le_refl _
  | c :: l => by
    have := runL_le p l
    simp only [runL, List.length_cons]; split <;> omega
def spB (c : UInt8) : Bool := decide (Go.Lib.indexByte [32, 9, 10, 13] c ≥ 0)
def ltB (c : UInt8) : Bool := if decide ((c.toNat : Int) ≥ 97) && decide ((c.toNat : Int) ≤ 122) then true else if decide ((c.toNat : Int) ≥ 65) && decide ((c.toNat : Int) ≤ 90) then true else (c.toNat : Int) == 95
def dgB (c : UInt8) : Bool := decide ((c.toNat : Int) ≥ 48) && decide ((c.toNat : Int) ≤ 57)
def nlB (c : UInt8) : Bool := (c.toNat : Int) != 10
def ldB (c : UInt8) : Bool := if ltB c then true else dgB c
/-- string literals: behind the first quote -/
def litG : List UInt8 → Nat → Nat
  | [], _ => 0
  | [c], i => if (c.toNat : Int) != 10 then (if (c.toNat : Int) == 34 then i + 1 else 0) else 0
  | c :: d :: r, i => if (c.toNat : Int) != 10 then (if (c.toNat : Int) == 34 then i + 1 else if (c.toNat : Int) == 92 then (if (d.toNat : Int) != 10 then litG r (i + 2) else 0) else litG (d :: r) (i + 1)) else 0
def litE : List UInt8 → Bool → Nat → Nat
  | [], _, _ => 0
  | c :: r, e, i => if (c.toNat : Int) != 10 then (if ((c.toNat : Int) == 34 && !e) then i + 1 else litE r ((c.toNat : Int) == 92 && !e) (i + 1)) else 0
theorem litE_G : ∀ (l : List UInt8) (i : Nat), litE l false i = litG l i
  | [], i => rfl
  | [c], i => by
    simp only [litE, litG, Bool.not_false, Bool.and_true]
  | c :: d :: r, i => by
    have h1 := litE_G (d :: r) (i + 1)
    have h2 := litE_G r (i + 2)
    simp only [litE, litG, Bool.not_false, Bool.and_true] at h1 ⊢
    cases h10 : ((c.toNat : Int) != 10) with
    | false => rfl
    | true =>
      cases h34 : ((c.toNat : Int) == 34) with
      | true => rfl
      | false =>
        cases h92 : ((c.toNat : Int) == 92) with
        | false => simpa using h1
        | true =>
          cases hd : ((d.toNat : Int) != 10) with
          | false => simp
          | true => simpa using h2
def KW : List (List UInt8) := Go.Lib.fields [117, 115, 101, 32, 112, 117, 98, 32, 97, 115, 32, 102, 110, 32, 115, 116, 114, 117, 99, 116, 32, 101, 110, 117, 109, 32, 116, 114, 97, 105, 116, 32, 105, 109, 112, 108, 32, 102, 111, 114, 32, 99, 111, 110, 115, 116, 32, 109, 97, 99, 114, 111, 32, 108, 101, 116, 32, 109, 117, 116, 32, 119, 104, 105, 108, 101, 32, 114, 101, 116, 117, 114, 110, 32, 109, 97, 116, 99, 104, 32, 105, 102, 32, 101, 108, 115, 101, 32, 110, 101, 119, 32, 116, 114, 117, 101, 32, 102, 97, 108, 115, 101, 32, 116, 121, 112, 101]
def P2 : List (List UInt8) := Go.Lib.fields [58, 58, 32, 61, 62, 32, 45, 62, 32, 61, 61, 32, 38, 38, 32, 124, 124]
def P1 : List UInt8 := [40, 41, 123, 125, 91, 93, 60, 62, 44, 59, 58, 46, 61, 43, 45, 42, 47, 33, 38, 124]
def hasS (ls : List (List UInt8)) (x : List UInt8) : Bool := ls.any fun y => x == y
def strP (l : List UInt8) : Int × Int := if decide (litG (l.drop 1) 1 > 0) then ((litG (l.drop 1) 1 : Nat), 106) else ((1 + runL nlB (l.drop 1) : Nat), 108)
def pfx (l p : List UInt8) : Bool := decide ((l.length : Int) ≥ (p.length : Int)) && (l.take p.length == p)
/-- First -/
def fstP (l : List UInt8) : Int × Int :=
  if spB (l.getD 0 0) then ((runL spB l : Nat), 101)
  else if pfx l [47, 47] then ((runL nlB l : Nat), 102)
  else if ltB (l.getD 0 0) then (if hasS KW (l.take (runL ldB l)) then ((runL ldB l : Nat), 104) else ((runL ldB l : Nat), 103))
  else if dgB (l.getD 0 0) then ((runL dgB l : Nat), 105)
  else if ((l.getD 0 0).toNat : Int) == 34 then strP l
  else if (decide ((l.length : Int) > 1) && hasS P2 (l.take 2)) then (2, 107)
  else if decide (Go.Lib.indexByte P1 (l.getD 0 0) ≥ 0) then (1, 107)
  else (1, 108)
end Go.Proofs.YtgphapkpoamcgaaDoor
/- Lines and code points of a string: what the program and the reference compute; that they agree. -/
set_option linter.unusedSimpArgs false
set_option linter.unusedVariables false
namespace Go.Proofs.YtgphapkpoamcgaaDoor
open Go Go.Ab
/-! ### one code point -/
def dec (l : List UInt8) : Nat × Nat := Go.Lib.decodeGo ⟨l.toArray⟩
theorem get_D (l : List UInt8) (i : Nat) : (⟨l.toArray⟩ : ByteArray).get! i = l.getD i 0 := by
  show (l.toArray)[i]! = _
  rcases Nat.lt_or_ge i l.length with h | h
  · rw [List.getD_eq_getElem?_getD, List.getElem?_eq_getElem h]
    simp [h]
  · rw [List.getD_eq_getElem?_getD, List.getElem?_eq_none h]
    simp [h]; rfl
theorem dec_at (l : List UInt8) (i : Nat) : Utf8.decode ⟨l.toArray⟩ i = Go.Lib.decodeN (l.length - i) (l.getD i 0).toNat (l.getD (i + 1) 0).toNat (l.getD (i + 2) 0).toNat (l.getD (i + 3) 0).toNat := by
  rw [Go.Lib.decode_at, sb_size, get_D, get_D, get_D, get_D]
theorem dec_eq {l : List UInt8} (h : l ≠ []) : dec l = Go.Lib.decodeN l.length (l.getD 0 0).toNat (l.getD 1 0).toNat (l.getD 2 0).toNat (l.getD 3 0).toNat := by
  unfold dec Go.Lib.decodeGo
  rw [if_neg (by rw [sb_size]; exact fun h0 => h (List.length_eq_zero_iff.1 h0)), dec_at]
  rfl
theorem getD_drop (l : List UInt8) (p i : Nat) : (l.drop p).getD i 0 = l.getD (p + i) 0 := by
  simp only [List.getD_eq_getElem?_getD, List.getElem?_drop]
theorem dec_drop (l : List UInt8) (p : Nat) (h : p < l.length) : Utf8.decode ⟨l.toArray⟩ p = dec (l.drop p) := by
  rw [dec_eq (fun h0 => by have := List.drop_eq_nil_iff.1 h0; omega), dec_at, getD_drop, getD_drop, getD_drop, getD_drop, List.length_drop]
  rfl
theorem decN_le (n b0 b1 b2 b3 : Nat) (hn : 1 ≤ n) : (Go.Lib.decodeN n b0 b1 b2 b3).2 ≤ n := by
  unfold Go.Lib.decodeN
  repeat' split
  all_goals (simp only; omega)
theorem dec_pos {l : List UInt8} (h : l ≠ []) : 1 ≤ (dec l).2 := by
  rw [dec_eq h]; exact Go.Lib.decodeN_ge1 _ _ _ _ _
theorem dec_le (l : List UInt8) : (dec l).2 ≤ l.length := by
  by_cases h : l = []
  · subst h; simp [dec, Go.Lib.decodeGo, ByteArray.size]
  · rw [dec_eq h]; exact decN_le _ _ _ _ _ (List.length_pos_iff.2 h)
theorem dec_rune (l : List UInt8) : (dec l).1 ≤ 1114111 := by
  by_cases h : l = []
  · subst h; simp [dec, Go.Lib.decodeGo, ByteArray.size]
  · rw [dec_eq h]; exact Go.Lib.decodeN_rune_le _ _ _ _ _ (UInt8.toNat_lt _)
/-! ### a line -/
def lnC (c : UInt8) : Bool := (c.toNat : Int) != 10
def ln (x : List UInt8) : List UInt8 := x.take (runL lnC x)
theorem ln_len (x : List UInt8) : (ln x).length = runL lnC x := by
  unfold ln; rw [List.length_take]; exact Nat.min_eq_left (runL_le _ _)
theorem ln_cons (c : UInt8) (x : List UInt8) : ln (c :: x) = if lnC c then c :: ln x else [] := by
  unfold ln; simp only [runL]; split <;> rfl
theorem ln_split : ∀ x : List UInt8, ∃ r, x = ln x ++ r ∧ (r = [] ∨ ∃ r', r = 10 :: r')
  | [] => ⟨[], rfl, .inl rfl⟩
  | c :: x => by
    obtain ⟨r, h1, h2⟩ := ln_split x
    rw [ln_cons]
    by_cases hc : lnC c = true
    · rw [if_pos hc]; exact ⟨r, by rw [List.cons_append, ← h1], h2⟩
    · rw [if_neg hc]
      refine ⟨c :: x, rfl, .inr ⟨x, ?_⟩⟩
      have : c = 10 := by
        unfold lnC at hc
        simp only [bne_iff_ne, ne_eq, Decidable.not_not] at hc
        exact UInt8.toNat_inj.1 (by have : c.toNat = 10 := by omega
                                    rw [this]; rfl)
      rw [this]
theorem decN_cut (n N b0 b1 b2 b3 c1 c2 c3 : Nat) (hn : 1 ≤ n) (hN : n < N) (h1 : 1 < n → c1 = b1) (h2 : 2 < n → c2 = b2) (h3 : 3 < n → c3 = b3) (e1 : n = 1 → b1 = 10) (e2 : n = 2 → b2 = 10) (e3 : n = 3 → b3 = 10) :
    Go.Lib.decodeN n b0 c1 c2 c3 = Go.Lib.decodeN N b0 b1 b2 b3 := by
  rcases Nat.lt_or_ge 3 n with h | h
  · rw [h1 (by omega), h2 (by omega), h3 h]
    unfold Go.Lib.decodeN
    have a1 : (1 < n) = (1 < N) := propext ⟨fun _ => by omega, fun _ => by omega⟩
    have a2 : (2 < n) = (2 < N) := propext ⟨fun _ => by omega, fun _ => by omega⟩
    have a3 : (3 < n) = (3 < N) := propext ⟨fun _ => by omega, fun _ => by omega⟩
    simp only [a1, a2, a3]
  · have : n = 1 ∨ n = 2 ∨ n = 3 := by omega
    rcases this with rfl | rfl | rfl
    · rw [e1 rfl]; unfold Go.Lib.decodeN; simp
    · rw [e2 rfl, h1 (by omega)]; unfold Go.Lib.decodeN
      have a1 : 1 < N := by omega
      simp [a1]
    · rw [e3 rfl, h1 (by omega), h2 (by omega)]; unfold Go.Lib.decodeN
      have a1 : 1 < N := by omega
      have a2 : 2 < N := by omega
      simp [a1, a2]
/-- a code point of the line is the text's -/
theorem dec_ln {x : List UInt8} (h : ln x ≠ []) : dec (ln x) = dec x := by
  obtain ⟨r, h1, h2⟩ := ln_split x
  have hx : x ≠ [] := by rintro rfl; exact h rfl
  rw [dec_eq h, dec_eq hx]
  have hlen := List.length_pos_iff.2 h
  generalize hy : ln x = y at h h1 hlen
  subst h1
  have hg : ∀ i, i < y.length → (y ++ r).getD i 0 = y.getD i 0 := fun i hi => by
    simp only [List.getD_eq_getElem?_getD]; rw [List.getElem?_append_left hi]
  rcases h2 with rfl | ⟨r', rfl⟩
  · simp only [List.append_nil]
  · have hh : (y ++ 10 :: r').getD y.length 0 = 10 := by
      simp only [List.getD_eq_getElem?_getD]; rw [List.getElem?_append_right (Nat.le_refl _)]; simp
    rw [hg 0 hlen]
    refine decN_cut _ _ _ _ _ _ _ _ _ hlen (by simp) (fun hi => by rw [hg 1 hi]) (fun hi => by rw [hg 2 hi]) (fun hi => by rw [hg 3 hi]) (fun hi => ?_) (fun hi => ?_) (fun hi => ?_)
    · rw [← hi, hh]; rfl
    · rw [← hi, hh]; rfl
    · rw [← hi, hh]; rfl
theorem ln_drop : ∀ (x : List UInt8) (w : Nat), w ≤ (ln x).length → ln (x.drop w) = (ln x).drop w
  | x, 0, _ => rfl
  | [], w + 1, h => by simp [ln]
  | c :: x, w + 1, h => by
    rw [ln_cons] at h ⊢
    by_cases hc : lnC c = true
    · rw [if_pos hc] at h ⊢
      simp only [List.drop_succ_cons]
      exact ln_drop x w (by simpa using h)
    · rw [if_neg hc] at h; simp at h
/-! ### code points of a line -/
def un (r : Nat) : Nat := if r > 65535 then 2 else 1
def wd (u : Bool) (r : Nat) : Nat := if u then un r else 1
abbrev R3 := Nat × Nat × Nat
def rns : Nat → Nat → List UInt8 → List R3
  | 0, _, _ => []
  | n + 1, p, x => if x = [] then [] else (p, (dec x).2, un (dec x).1) :: rns n (p + (dec x).2) (x.drop (dec x).2)
def lnRunes (l : List UInt8) (st : Nat) : List R3 := rns (ln (l.drop st)).length st (ln (l.drop st))
theorem rns_len : ∀ n p x, (rns n p x).length ≤ n
  | 0, _, _ => Nat.le_refl _
  | n + 1, p, x => by
    simp only [rns]; split
    · simp
    · have := rns_len n (p + (dec x).2) (x.drop (dec x).2)
      simp only [List.length_cons]; omega
/-! ### line starts -/
def lsts : List UInt8 → Nat → List Nat
  | [], _ => []
  | c :: r, i => if (c.toNat : Int) == 10 then (i + 1) :: lsts r (i + 1) else lsts r (i + 1)
def starts (l : List UInt8) : List Nat := 0 :: lsts l 0
theorem lsts_len : ∀ l i, (lsts l i).length ≤ l.length
  | [], _ => Nat.le_refl _
  | c :: r, i => by
    have := lsts_len r (i + 1)
    simp only [lsts]; split <;> simp only [List.length_cons] <;> omega
theorem lsts_gt : ∀ l i, ∀ x ∈ lsts l i, i < x ∧ x ≤ i + l.length
  | [], _, x, h => by cases h
  | c :: r, i, x, h => by
    have ih := lsts_gt r (i + 1) x
    simp only [lsts] at h
    simp only [List.length_cons]
    split at h
    · rcases List.mem_cons.1 h with rfl | h
      · omega
      · have := ih h; omega
    · have := ih h; omega
theorem starts_le (l : List UInt8) : ∀ x ∈ starts l, x ≤ l.length := fun x h => by
  rcases List.mem_cons.1 h with rfl | h
  · omega
  · have := lsts_gt l 0 x h; omega
def cntN (l : List UInt8) : Nat := Go.Lib.countByte l 10
theorem isN (c : UInt8) : ((c.toNat : Int) == 10) = (c == 10) := by
  rw [Bool.eq_iff_iff]; simp only [beq_iff_eq]
  constructor
  · intro h; exact UInt8.toNat_inj.1 (by have : c.toNat = 10 := by omega
                                         rw [this]; rfl)
  · rintro rfl; rfl
theorem cntN_cons (c : UInt8) (l : List UInt8) : cntN (c :: l) = cntN l + if (c.toNat : Int) == 10 then 1 else 0 := by
  unfold cntN Go.Lib.countByte; rw [List.count_cons, isN]
theorem lsts_at : ∀ (l : List UInt8) (b o j x : Nat), (lsts l b)[j]? = some x → (x ≤ b + o ↔ j < cntN (l.take o))
  | [], b, o, j, x, h => by simp [lsts] at h
  | c :: r, b, 0, j, x, h => by
    have := (lsts_gt _ _ x (List.mem_of_getElem? h)).1
    rw [List.take_zero, show cntN [] = 0 from rfl]; omega
  | c :: r, b, o + 1, j, x, h => by
    rw [List.take_succ_cons, cntN_cons]
    simp only [lsts] at h
    cases hc : ((c.toNat : Int) == 10) with
    | true =>
      rw [if_pos hc] at h; rw [if_pos rfl]
      cases j with
      | zero => simp at h; subst h; omega
      | succ j =>
        have ih := lsts_at r (b + 1) o j x (by simpa using h)
        rw [show b + 1 + o = b + (o + 1) by omega] at ih; rw [ih]; omega
    | false =>
      rw [if_neg (by rw [hc]; decide)] at h; rw [if_neg (by decide)]
      have ih := lsts_at r (b + 1) o j x h
      rw [show b + 1 + o = b + (o + 1) by omega] at ih; rw [ih]; omega
theorem lsts_cnt : ∀ (l : List UInt8) (b o : Nat) (c : UInt8), l[o]? = some c → ((c.toNat : Int) == 10) = true → (lsts l b)[cntN (l.take o)]? = some (b + o + 1)
  | [], b, o, c, h, _ => by simp at h
  | d :: r, b, 0, c, h, hc => by
    simp at h; subst h
    simp [lsts, hc, cntN, Go.Lib.countByte]
  | d :: r, b, o + 1, c, h, hc => by
    have ih := lsts_cnt r (b + 1) o c (by simpa using h) hc
    rw [List.take_succ_cons, cntN_cons]
    simp only [lsts]
    split
    · rw [List.getElem?_cons_succ, ih]; congr 1; omega
    · show (lsts r (b + 1))[cntN (List.take o r)]? = _
      rw [ih]; congr 1; omega
theorem cntN_succ (l : List UInt8) (o : Nat) (c : UInt8) (h : l[o]? = some c) : cntN (l.take (o + 1)) = cntN (l.take o) + if (c.toNat : Int) == 10 then 1 else 0 := by
  rw [List.take_add_one, h]
  unfold cntN Go.Lib.countByte
  rw [List.count_append, isN]; simp [List.count_cons]
def lastTo (l : List UInt8) : Nat → Int
  | 0 => -1
  | n + 1 => if ((l.getD n 0).toNat : Int) == 10 then (n : Int) else lastTo l n
theorem lastTo_ge (l : List UInt8) : ∀ n, -1 ≤ lastTo l n ∧ lastTo l n < n
  | 0 => by simp [lastTo]
  | n + 1 => by
    have := lastTo_ge l n
    simp only [lastTo]; split <;> omega
def lst (l : List UInt8) (o : Nat) : Nat := (lastTo l o + 1).toNat
theorem starts_cnt (l : List UInt8) : ∀ o, o ≤ l.length → (starts l)[cntN (l.take o)]? = some (lst l o)
  | 0, _ => rfl
  | o + 1, h => by
    have ih := starts_cnt l o (by omega)
    have hg : l[o]? = some (l.getD o 0) := by rw [List.getD_eq_getElem?_getD, List.getElem?_eq_getElem (by omega)]; rfl
    rw [cntN_succ l o _ hg]
    unfold lst
    simp only [lastTo]
    cases hc : (((l.getD o 0).toNat : Int) == 10) with
    | true =>
      rw [if_pos rfl, if_pos rfl]
      have := lsts_cnt l 0 o _ hg hc
      unfold starts
      rw [List.getElem?_cons_succ, this]; congr 1; omega
    | false => rw [if_neg (by decide), if_neg (by decide)]; exact ih
theorem cnt_lt (l : List UInt8) (o : Nat) (h : o ≤ l.length) : cntN (l.take o) < (starts l).length := (List.getElem?_eq_some_iff.1 (starts_cnt l o h)).1
theorem starts_at (l : List UInt8) (o j x : Nat) (h : (starts l)[j]? = some x) : x ≤ o ↔ j ≤ cntN (l.take o) := by
  cases j with
  | zero => simp [starts] at h; subst h; omega
  | succ j =>
    have := lsts_at l 0 o j x (by simpa [starts] using h)
    rw [Nat.zero_add] at this; rw [this]; omega
/-- within a line: no line feed up to o -/
theorem lst_ln (l : List UInt8) : ∀ o, o ≤ l.length → o ≤ lst l o + (ln (l.drop (lst l o))).length ∧ lst l o ≤ o
  | 0, _ => by simp [lst, lastTo]
  | o + 1, h => by
    have ih := lst_ln l o (by omega)
    unfold lst at ih ⊢
    simp only [lastTo]
    split
    · have : ((o : Int) + 1).toNat = o + 1 := by omega
      rw [this]; omega
    · rename_i hc
      have hlt := lastTo_ge l o
      refine ⟨?_, by omega⟩
      generalize (lastTo l o + 1).toNat = p at ih
      -- one letter more
      rcases Nat.lt_or_ge o (p + (ln (l.drop p)).length) with h1 | h1
      · omega
      · exfalso
        have hk : (ln (l.drop p)).length = o - p := by omega
        obtain ⟨r, e1, e2⟩ := ln_split (l.drop p)
        have hr : r ≠ [] := by
          rintro rfl
          rw [List.append_nil] at e1
          have := congrArg List.length e1
          rw [List.length_drop, hk] at this; omega
        obtain ⟨r', rfl⟩ := e2.resolve_left hr
        have : l.getD o 0 = 10 := by
          have h2 := getD_drop l p (o - p)
          rw [show p + (o - p) = o by omega] at h2
          rw [← h2, e1]
          simp only [List.getD_eq_getElem?_getD]
          rw [List.getElem?_append_right (by omega), hk]; simp
        rw [this] at hc; simp at hc
end Go.Proofs.YtgphapkpoamcgaaDoor
