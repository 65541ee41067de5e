/- A1: joined from L0 L1. -/
import Derived.Test.YtljpmkaecfollaaDoorK3
import Derived.Lib.Strings
import Derived.Lib.Bytealg
import Derived.Lib.Fields
import Derived.Test.YtljpmkaecfollaaDoorS1
/- Strings as lists of bytes; what the lexer computes. -/
set_option linter.unusedSimpArgs false
set_option linter.unusedVariables false
namespace Go.Proofs.YtljpmkaecfollaaDoor
open Go Go.Ab
abbrev ii (n : Int) : PV := .lit (.int .i64 n)
abbrev bb (n : Bool) : PV := .lit (.bool n)
abbrev u8 (c : UInt8) : PV := .lit (.int .u8 (c.toNat : Int))
abbrev sb (l : List UInt8) : PV := .lit (.string ⟨l.toArray⟩)
theorem c0 : ((0 : Nat) : Int) = 0 := rfl
theorem c1x : ((1 : Nat) : Int) = 1 := rfl
theorem sb_size (l : List UInt8) : (⟨l.toArray⟩ : ByteArray).size = l.length := by rw [Go.Lib.size_eq]
theorem sb_cut (l : List UInt8) (a b : Nat) : (⟨l.toArray⟩ : ByteArray).extract a b = ⟨((l.drop a).take (b - a)).toArray⟩ := by rw [Go.Lib.extract_eq]
theorem sb_take (l : List UInt8) (b : Nat) : (⟨l.toArray⟩ : ByteArray).extract 0 b = ⟨(l.take b).toArray⟩ := by rw [sb_cut]; rfl
theorem sb_drop (l : List UInt8) (a : Nat) : (⟨l.toArray⟩ : ByteArray).extract a l.length = ⟨(l.drop a).toArray⟩ := by
  rw [sb_cut, List.take_of_length_le (by simp)]
theorem sb_list (l : List UInt8) : (⟨l.toArray⟩ : ByteArray).toList = l := by rw [Go.Lib.toList_data]
theorem sb_get (l : List UInt8) (n : Nat) : (⟨l.toArray⟩ : ByteArray)[n]? = l[n]? := by
  rcases Nat.lt_or_ge n l.length with h | h
  · rw [List.getElem?_eq_getElem h, getElem?_pos (⟨l.toArray⟩ : ByteArray) n (by rw [sb_size]; exact h)]; rfl
  · rw [List.getElem?_eq_none h, getElem?_neg (⟨l.toArray⟩ : ByteArray) n (by rw [sb_size]; omega)]
theorem sb_at {l : List UInt8} {k : Nat} {p : UInt8 → Prop} (h : k < l.length) : (∃ (c : UInt8), (⟨l.toArray⟩ : ByteArray)[k]? = some c ∧ p c) = p (l.getD k 0) := by
  refine propext ⟨fun ⟨c, h2, h3⟩ => ?_, fun h1 => ⟨l.getD k 0, ?_, h1⟩⟩
  · rw [sb_get] at h2
    rw [List.getD_eq_getElem?_getD, h2]; exact h3
  · rw [sb_get, List.getD_eq_getElem?_getD, List.getElem?_eq_getElem h]; rfl
theorem sb_eta (x : ByteArray) : PV.lit (.string x) = sb x.data.toList := rfl
def encS (xs : List (List UInt8)) : List PV := xs.map fun x => sb x
theorem encS_len (xs : List (List UInt8)) : (encS xs).length = xs.length := by simp [encS]
theorem encS_at (ts us : List (List UInt8)) (t : List UInt8) : (encS (ts ++ t :: us))[ts.length]? = some (sb t) := by simp [encS]
/-! ### runs -/
def runL (p : UInt8 → Bool) : List UInt8 → Nat
  | [] => 0
  | c :: l => if p c then runL p l + 1 else 0
theorem runL_le (p : UInt8 → Bool) : ∀ l, runL p l ≤ l.length
  | [] => Nat.le_refl _
  | c :: l => by
    have := runL_le p l
    simp only [runL, List.length_cons]; split <;> omega
def spB (c : UInt8) : Bool := decide (Go.Lib.indexByte [32, 9, 10, 13] c ≥ 0)
def ltB (c : UInt8) : Bool := if decide ((c.toNat : Int) ≥ 97) && decide ((c.toNat : Int) ≤ 122) then true else if decide ((c.toNat : Int) ≥ 65) && decide ((c.toNat : Int) ≤ 90) then true else (c.toNat : Int) == 95
def dgB (c : UInt8) : Bool := decide ((c.toNat : Int) ≥ 48) && decide ((c.toNat : Int) ≤ 57)
def nlB (c : UInt8) : Bool := (c.toNat : Int) != 10
def ldB (c : UInt8) : Bool := if ltB c then true else dgB c
/-- string literals: behind the first quote -/
def litG : List UInt8 → Nat → Nat
  | [], _ => 0
  | [c], i => if (c.toNat : Int) != 10 then (if (c.toNat : Int) == 34 then i + 1 else 0) else 0
  | c :: d :: r, i => if (c.toNat : Int) != 10 then (if (c.toNat : Int) == 34 then i + 1 else if (c.toNat : Int) == 92 then (if (d.toNat : Int) != 10 then litG r (i + 2) else 0) else litG (d :: r) (i + 1)) else 0
def litE : List UInt8 → Bool → Nat → Nat
  | [], _, _ => 0
  | c :: r, e, i => if (c.toNat : Int) != 10 then (if ((c.toNat : Int) == 34 && !e) then i + 1 else litE r ((c.toNat : Int) == 92 && !e) (i + 1)) else 0
theorem litE_G : ∀ (l : List UInt8) (i : Nat), litE l false i = litG l i
  | [], i => rfl
  | [c], i => by
    simp only [litE, litG, Bool.not_false, Bool.and_true]
  | c :: d :: r, i => by
    have h1 := litE_G (d :: r) (i + 1)
    have h2 := litE_G r (i + 2)
    simp only [litE, litG, Bool.not_false, Bool.and_true] at h1 ⊢
    cases h10 : ((c.toNat : Int) != 10) with
    | false => rfl
    | true =>
      cases h34 : ((c.toNat : Int) == 34) with
      | true => rfl
      | false =>
        cases h92 : ((c.toNat : Int) == 92) with
        | false => simpa using h1
        | true =>
          cases hd : ((d.toNat : Int) != 10) with
          | false => simp
          | true => simpa using h2
def KW : List (List UInt8) := Go.Lib.fields [117, 115, 101, 32, 112, 117, 98, 32, 97, 115, 32, 102, 110, 32, 115, 116, 114, 117, 99, 116, 32, 101, 110, 117, 109, 32, 116, 114, 97, 105, 116, 32, 105, 109, 112, 108, 32, 102, 111, 114, 32, 99, 111, 110, 115, 116, 32, 109, 97, 99, 114, 111, 32, 108, 101, 116, 32, 109, 117, 116, 32, 119, 104, 105, 108, 101, 32, 114, 101, 116, 117, 114, 110, 32, 109, 97, 116, 99, 104, 32, 105, 102, 32, 101, 108, 115, 101, 32, 110, 101, 119, 32, 116, 114, 117, 101, 32, 102, 97, 108, 115, 101, 32, 116, 121, 112, 101]
def P2 : List (List UInt8) := Go.Lib.fields [58, 58, 32, 61, 62, 32, 45, 62, 32, 61, 61, 32, 38, 38, 32, 124, 124]
def P1 : List UInt8 := [40, 41, 123, 125, 91, 93, 60, 62, 44, 59, 58, 46, 61, 43, 45, 42, 47, 33, 38, 124]
def hasS (ls : List (List UInt8)) (x : List UInt8) : Bool := ls.any fun y => x == y
def strP (l : List UInt8) : Int × Int := if decide (litG (l.drop 1) 1 > 0) then ((litG (l.drop 1) 1 : Nat), 106) else ((1 + runL nlB (l.drop 1) : Nat), 108)
def pfx (l p : List UInt8) : Bool := decide ((l.length : Int) ≥ (p.length : Int)) && (l.take p.length == p)
/-- First -/
def fstP (l : List UInt8) : Int × Int :=
  if spB (l.getD 0 0) then ((runL spB l : Nat), 101)
  else if pfx l [47, 47] then ((runL nlB l : Nat), 102)
  else if ltB (l.getD 0 0) then (if hasS KW (l.take (runL ldB l)) then ((runL ldB l : Nat), 104) else ((runL ldB l : Nat), 103))
  else if dgB (l.getD 0 0) then ((runL dgB l : Nat), 105)
  else if ((l.getD 0 0).toNat : Int) == 34 then strP l
  else if (decide ((l.length : Int) > 1) && hasS P2 (l.take 2)) then (2, 107)
  else if decide (Go.Lib.indexByte P1 (l.getD 0 0) ≥ 0) then (1, 107)
  else (1, 108)
end Go.Proofs.YtljpmkaecfollaaDoor
/- IndexByte, Fields: the shelf's contracts as the logic's. -/
set_option maxRecDepth 10000
set_option linter.unusedSimpArgs false
set_option linter.unusedVariables false
namespace Go.Proofs.YtljpmkaecfollaaDoor
open Go Go.Ab Go.RowKit
theorem idxB_ok (l : List UInt8) (c : UInt8) : PCall Tryd.prog 25 [sb l, u8 c] (ii (Go.Lib.indexByte l c)) := by
  refine ⟨⟨_, Tryd.func25, rfl, rfl⟩, fun I w us hI hus => ?_⟩
  simp only [RPL, RP] at hus
  obtain ⟨u1, _, rfl, rfl, u2, _, rfl, rfl, rfl⟩ := hus
  refine (sh_strings_IndexByte ⟨l.toArray⟩ (c.toNat : Int) w).mono fun e w' ⟨he, hw⟩ => ?_
  subst hw
  refine ⟨_, I, he, .refl _, fun a v h _ => h, hI, ?_, Below.refl _ _⟩
  simp only [RP]
  rw [show ((c.toNat : Int)).toNat.toUInt8 = c by simp]
theorem spT : ∀ c : Nat, c < 256 → (if c = 32 ∨ (9 ≤ c ∧ c ≤ 13) then (1 : Int) else 0) = (if Go.Lib.isSp (UInt8.ofNat c) then 1 else 0) := by
  have : ∀ c : Fin 256, (if c.val = 32 ∨ (9 ≤ c.val ∧ c.val ≤ 13) then (1 : Int) else 0) = (if Go.Lib.isSp (UInt8.ofNat c.val) then 1 else 0) := by decide +kernel
  exact fun c h => this ⟨c, h⟩
theorem cntF_le : ∀ (l : List UInt8) (b : Bool), Go.Lib.cntF b l ≤ l.length
  | [], b => Nat.le_refl _
  | c :: l, b => by
    have := cntF_le l (Go.Lib.isSp c)
    simp only [Go.Lib.cntF, List.length_cons]; split <;> omega
theorem fields_ok (l : List UInt8) (hl : l.length < 4294967281) (ha : ∀ c ∈ l, c.toNat < 128) : PCall Tryd.prog 14 [sb l] (.list 1 (encS (Go.Lib.fields l))) := by
  refine ⟨⟨_, Tryd.func14, rfl, rfl⟩, fun I w us hI hus => ?_⟩
  simp only [RPL, RP] at hus
  obtain ⟨u1, _, rfl, rfl, rfl⟩ := hus
  have hT : ∀ c : Nat, c < 256 → w.cell? ⟨0, c, none⟩ = some (.int .u8 (if Go.Lib.isSp (UInt8.ofNat c) then 1 else 0)) := fun c hc => by
    refine hI.ok _ _ (hI.laid 0 _ (by unfold laidL; exact List.mem_singleton.2 rfl) c _ ?_)
    rw [List.getElem?_map, List.getElem?_range hc, ← spT c hc]; rfl
  have hfl : (Go.Lib.fields l).length ≤ big := by
    have h1 := Go.Lib.fields_length l
    have h2 := cntF_le l true
    unfold big; omega
  refine (Any.strings_Fields_core lays157 (by kernel_rfl) ⟨l.toArray⟩ w (by rw [sb_size]; exact hl) (fun j b hj => ha b (List.mem_of_getElem? hj)) hT).mono fun e w' ⟨he, hw⟩ => ?_
  have hd : (⟨l.toArray⟩ : ByteArray).data.toList = l := rfl
  rw [hd] at he hw
  generalize Go.Lib.fields l = xs at he hw hfl
  have hcell : ∀ (i : Nat) t, xs[i]? = some t → w'.cell? ⟨w.heap.size, i, none⟩ = some (.string ⟨t.toArray⟩) := fun i t ht => by
    rw [hw, World.cell?_alloc_new]; simp [ht]
  have hIlt : ∀ a v, I a = some v → a.block < w.heap.size := fun a v h => World.block_lt_of_cell? w a (hI.ok a v h)
  have hle : I.le fun a => if a.block = w.heap.size then w'.cell? a else I a := fun a v h => by
    have := hIlt a v h
    dsimp only
    rw [if_neg (by omega)]; exact h
  refine ⟨_, fun a => if a.block = w.heap.size then w'.cell? a else I a, he, hle, fun a v h hlt => ?_, ⟨fun a v h => ?_, hI.laid.mono hle⟩, ?_, by rw [hw]; exact (Below.refl _ _).alloc (Nat.le_refl _) _⟩
  · dsimp only at h
    rw [if_neg (by omega)] at h; exact h
  · by_cases hb : a.block = w.heap.size
    · rw [if_pos hb] at h; exact h
    · rw [if_neg hb] at h
      rw [hw, World.cell?_alloc_lt _ _ _ (hIlt a v h)]; exact hI.ok a v h
  · simp only [RP]
    refine ⟨_, _, _, rfl, (encS_len xs).symm, Nat.le_refl _, hfl, .inr ⟨_, rfl, RPE_iff.2 fun i x hx => ?_⟩⟩
    unfold encS at hx
    rw [List.getElem?_map] at hx
    obtain ⟨t, ht, rfl⟩ := Option.map_eq_some_iff.1 hx
    refine ⟨rfl, RPC_iff.2 fun j c hc => ?_⟩
    cases j with
    | succ j => simp [PV.cells] at hc
    | zero =>
      simp only [PV.cells, List.getElem?_cons_zero, Option.some.injEq] at hc
      subst hc
      refine ⟨.string ⟨t.toArray⟩, ?_, by simp [Value.oneCell'], by simp only [RP]⟩
      have := hcell i t ht
      have ea : (⟨w.heap.size, 0, none⟩ : Addr).add (0 + i * 1 + 0) = ⟨w.heap.size, i, none⟩ := by
        cases i <;> simp [Addr.add]
      rw [ea]
      dsimp only
      rw [if_pos rfl]
      exact this
end Go.Proofs.YtljpmkaecfollaaDoor
