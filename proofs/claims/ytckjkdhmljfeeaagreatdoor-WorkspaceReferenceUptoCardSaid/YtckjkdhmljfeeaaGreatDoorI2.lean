/- I2: joined from L0 L1 L2 L3 L4 L5. -/
import Derived.Test.YtckjkdhmljfeeaaGreatDoorFnW
import Derived.Test.YtckjkdhmljfeeaaGreatDoorK3
import Derived.Lib.Strings
import Derived.Lib.Bytealg
import Derived.Lib.Fields
import Derived.Test.YtckjkdhmljfeeaaGreatDoorI1
/- Strings as lists of bytes; what the lexer computes. -/
set_option linter.unusedSimpArgs false
set_option linter.unusedVariables false
namespace Go.Proofs.YtckjkdhmljfeeaaGreatDoor
open Go Go.Ab
abbrev ii (n : Int) : PV := .lit (.int .i64 n)
abbrev bb (n : Bool) : PV := .lit (.bool n)
abbrev u8 (c : UInt8) : PV := .lit (.int .u8 (c.toNat : Int))
abbrev sb (l : List UInt8) : PV := .lit (.string ⟨l.toArray⟩)
theorem c0 : ((0 : Nat) : Int) = 0 := rfl
theorem c1x : ((1 : Nat) : Int) = 1 := rfl
theorem sb_size (l : List UInt8) : (⟨l.toArray⟩ : ByteArray).size = l.length := by rw [Go.Lib.size_eq]
theorem sb_cut (l : List UInt8) (a b : Nat) : (⟨l.toArray⟩ : ByteArray).extract a b = ⟨((l.drop a).take (b - a)).toArray⟩ := by rw [Go.Lib.extract_eq]
theorem sb_take (l : List UInt8) (b : Nat) : (⟨l.toArray⟩ : ByteArray).extract 0 b = ⟨(l.take b).toArray⟩ := by rw [sb_cut]; rfl
theorem sb_drop (l : List UInt8) (a : Nat) : (⟨l.toArray⟩ : ByteArray).extract a l.length = ⟨(l.drop a).toArray⟩ := by
  rw [sb_cut, List.take_of_length_le (by simp)]
theorem sb_list (l : List UInt8) : (⟨l.toArray⟩ : ByteArray).toList = l := by rw [Go.Lib.toList_data]
theorem sb_get (l : List UInt8) (n : Nat) : (⟨l.toArray⟩ : ByteArray)[n]? = l[n]? := by
  rcases Nat.lt_or_ge n l.length with h | h
  · rw [List.getElem?_eq_getElem h, getElem?_pos (⟨l.toArray⟩ : ByteArray) n (by rw [sb_size]; exact h)]; rfl
  · rw [List.getElem?_eq_none h, getElem?_neg (⟨l.toArray⟩ : ByteArray) n (by rw [sb_size]; omega)]
theorem sb_at {l : List UInt8} {k : Nat} {p : UInt8 → Prop} (h : k < l.length) : (∃ (c : UInt8), (⟨l.toArray⟩ : ByteArray)[k]? = some c ∧ p c) = p (l.getD k 0) := by
  refine propext ⟨fun ⟨c, h2, h3⟩ => ?_, fun h1 => ⟨l.getD k 0, ?_, h1⟩⟩
  · rw [sb_get] at h2
    rw [List.getD_eq_getElem?_getD, h2]; exact h3
  · rw [sb_get, List.getD_eq_getElem?_getD, List.getElem?_eq_getElem h]; rfl
theorem sb_eta (x : ByteArray) : PV.lit (.string x) = sb x.data.toList := rfl
def encS (xs : List (List UInt8)) : List PV := xs.map fun x => sb x
theorem encS_len (xs : List (List UInt8)) : (encS xs).length = xs.length := by simp [encS]
theorem encS_at (ts us : List (List UInt8)) (t : List UInt8) : (encS (ts ++ t :: us))[ts.length]? = some (sb t) := by simp [encS]
/-! ### runs -/
def runL (p : UInt8 → Bool) : List UInt8 → Nat
  | [] => 0
  | c :: l => if p c then runL p l + 1 else 0
theorem runL_le (p : UInt8 → Bool) : ∀ l, runL p l ≤ l.length
  | [] => Nat.le_refl _
  | c :: l => by
    have := runL_le p l
    simp only [runL, List.length_cons]; split <;> omega
def spB (c : UInt8) : Bool := decide (Go.Lib.indexByte [32, 9, 10, 13] c ≥ 0)
def ltB (c : UInt8) : Bool := if decide ((c.toNat : Int) ≥ 97) && decide ((c.toNat : Int) ≤ 122) then true else if decide ((c.toNat : Int) ≥ 65) && decide ((c.toNat : Int) ≤ 90) then true else (c.toNat : Int) == 95
def dgB (c : UInt8) : Bool := decide ((c.toNat : Int) ≥ 48) && decide ((c.toNat : Int) ≤ 57)
def nlB (c : UInt8) : Bool := (c.toNat : Int) != 10
def ldB (c : UInt8) : Bool := if ltB c then true else dgB c
/-- string literals: behind the first quote -/
def litG : List UInt8 → Nat → Nat
  | [], _ => 0
  | [c], i => if (c.toNat : Int) != 10 then (if (c.toNat : Int) == 34 then i + 1 else 0) else 0
  | c :: d :: r, i => if (c.toNat : Int) != 10 then (if (c.toNat : Int) == 34 then i + 1 else if (c.toNat : Int) == 92 then (if (d.toNat : Int) != 10 then litG r (i + 2) else 0) else litG (d :: r) (i + 1)) else 0
def litE : List UInt8 → Bool → Nat → Nat
  | [], _, _ => 0
  | c :: r, e, i => if (c.toNat : Int) != 10 then (if ((c.toNat : Int) == 34 && !e) then i + 1 else litE r ((c.toNat : Int) == 92 && !e) (i + 1)) else 0
theorem litE_G : ∀ (l : List UInt8) (i : Nat), litE l false i = litG l i
  | [], i => rfl
  | [c], i => by
    simp only [litE, litG, Bool.not_false, Bool.and_true]
  | c :: d :: r, i => by
    have h1 := litE_G (d :: r) (i + 1)
    have h2 := litE_G r (i + 2)
    simp only [litE, litG, Bool.not_false, Bool.and_true] at h1 ⊢
    cases h10 : ((c.toNat : Int) != 10) with
    | false => rfl
    | true =>
      cases h34 : ((c.toNat : Int) == 34) with
      | true => rfl
      | false =>
        cases h92 : ((c.toNat : Int) == 92) with
        | false => simpa using h1
        | true =>
          cases hd : ((d.toNat : Int) != 10) with
          | false => simp
          | true => simpa using h2
def KW : List (List UInt8) := Go.Lib.fields [117, 115, 101, 32, 112, 117, 98, 32, 97, 115, 32, 102, 110, 32, 115, 116, 114, 117, 99, 116, 32, 101, 110, 117, 109, 32, 116, 114, 97, 105, 116, 32, 105, 109, 112, 108, 32, 102, 111, 114, 32, 99, 111, 110, 115, 116, 32, 109, 97, 99, 114, 111, 32, 108, 101, 116, 32, 109, 117, 116, 32, 119, 104, 105, 108, 101, 32, 114, 101, 116, 117, 114, 110, 32, 109, 97, 116, 99, 104, 32, 105, 102, 32, 101, 108, 115, 101, 32, 110, 101, 119, 32, 116, 114, 117, 101, 32, 102, 97, 108, 115, 101, 32, 116, 121, 112, 101]
def P2 : List (List UInt8) := Go.Lib.fields [58, 58, 32, 61, 62, 32, 45, 62, 32, 61, 61, 32, 38, 38, 32, 124, 124]
def P1 : List UInt8 := [40, 41, 123, 125, 91, 93, 60, 62, 44, 59, 58, 46, 61, 43, 45, 42, 47, 33, 38, 124]
def hasS (ls : List (List UInt8)) (x : List UInt8) : Bool := ls.any fun y => x == y
def strP (l : List UInt8) : Int × Int := if decide (litG (l.drop 1) 1 > 0) then ((litG (l.drop 1) 1 : Nat), 106) else ((1 + runL nlB (l.drop 1) : Nat), 108)
def pfx (l p : List UInt8) : Bool := decide ((l.length : Int) ≥ (p.length : Int)) && (l.take p.length == p)
/-- First -/
def fstP (l : List UInt8) : Int × Int :=
  if spB (l.getD 0 0) then ((runL spB l : Nat), 101)
  else if pfx l [47, 47] then ((runL nlB l : Nat), 102)
  else if ltB (l.getD 0 0) then (if hasS KW (l.take (runL ldB l)) then ((runL ldB l : Nat), 104) else ((runL ldB l : Nat), 103))
  else if dgB (l.getD 0 0) then ((runL dgB l : Nat), 105)
  else if ((l.getD 0 0).toNat : Int) == 34 then strP l
  else if (decide ((l.length : Int) > 1) && hasS P2 (l.take 2)) then (2, 107)
  else if decide (Go.Lib.indexByte P1 (l.getD 0 0) ≥ 0) then (1, 107)
  else (1, 108)
end Go.Proofs.YtckjkdhmljfeeaaGreatDoor
/- IndexByte, Fields: the shelf's contracts as the logic's. -/
set_option maxRecDepth 10000
set_option linter.unusedSimpArgs false
set_option linter.unusedVariables false
namespace Go.Proofs.YtckjkdhmljfeeaaGreatDoor
open Go Go.Ab Go.RowKit
theorem idxB_ok (l : List UInt8) (c : UInt8) : PCall Tryz.prog 78 [sb l, u8 c] (ii (Go.Lib.indexByte l c)) := by
  refine ⟨⟨_, Tryz.func78, rfl, rfl⟩, fun I w us hI hus => ?_⟩
  simp only [RPL, RP] at hus
  obtain ⟨u1, _, rfl, rfl, u2, _, rfl, rfl, rfl⟩ := hus
  refine (sh_strings_IndexByte ⟨l.toArray⟩ (c.toNat : Int) w).mono fun e w' ⟨he, hw⟩ => ?_
  subst hw
  refine ⟨_, I, he, .refl _, fun a v h _ => h, hI, ?_, Below.refl _ _⟩
  simp only [RP]
  rw [show ((c.toNat : Int)).toNat.toUInt8 = c by simp]
theorem spT : ∀ c : Nat, c < 256 → (if c = 32 ∨ (9 ≤ c ∧ c ≤ 13) then (1 : Int) else 0) = (if Go.Lib.isSp (UInt8.ofNat c) then 1 else 0) := by
  have : ∀ c : Fin 256, (if c.val = 32 ∨ (9 ≤ c.val ∧ c.val ≤ 13) then (1 : Int) else 0) = (if Go.Lib.isSp (UInt8.ofNat c.val) then 1 else 0) := by decide +kernel
  exact fun c h => this ⟨c, h⟩
theorem cntF_le : ∀ (l : List UInt8) (b : Bool), Go.Lib.cntF b l ≤ l.length
  | [], b => Nat.le_refl _
  | c :: l, b => by
    have := cntF_le l (Go.Lib.isSp c)
    simp only [Go.Lib.cntF, List.length_cons]; split <;> omega
theorem fields_ok (l : List UInt8) (hl : l.length < 4294967281) (ha : ∀ c ∈ l, c.toNat < 128) : PCall Tryz.prog 110 [sb l] (.list 1 (encS (Go.Lib.fields l))) := by
  refine ⟨⟨_, Tryz.func110, rfl, rfl⟩, fun I w us hI hus => ?_⟩
  simp only [RPL, RP] at hus
  obtain ⟨u1, _, rfl, rfl, rfl⟩ := hus
  have hT : ∀ c : Nat, c < 256 → w.cell? ⟨0, c, none⟩ = some (.int .u8 (if Go.Lib.isSp (UInt8.ofNat c) then 1 else 0)) := fun c hc => by
    refine hI.ok _ _ (hI.laid 0 _ (by unfold laidL; exact List.mem_singleton.2 rfl) c _ ?_)
    rw [List.getElem?_map, List.getElem?_range hc, ← spT c hc]; rfl
  have hfl : (Go.Lib.fields l).length ≤ big := by
    have h1 := Go.Lib.fields_length l
    have h2 := cntF_le l true
    unfold big; omega
  refine (Any.strings_Fields_core lays157 (by kernel_rfl) ⟨l.toArray⟩ w (by rw [sb_size]; exact hl) (fun j b hj => ha b (List.mem_of_getElem? hj)) hT).mono fun e w' ⟨he, hw⟩ => ?_
  have hd : (⟨l.toArray⟩ : ByteArray).data.toList = l := rfl
  rw [hd] at he hw
  generalize Go.Lib.fields l = xs at he hw hfl
  have hcell : ∀ (i : Nat) t, xs[i]? = some t → w'.cell? ⟨w.heap.size, i, none⟩ = some (.string ⟨t.toArray⟩) := fun i t ht => by
    rw [hw, World.cell?_alloc_new]; simp [ht]
  have hIlt : ∀ a v, I a = some v → a.block < w.heap.size := fun a v h => World.block_lt_of_cell? w a (hI.ok a v h)
  have hle : I.le fun a => if a.block = w.heap.size then w'.cell? a else I a := fun a v h => by
    have := hIlt a v h
    dsimp only
    rw [if_neg (by omega)]; exact h
  refine ⟨_, fun a => if a.block = w.heap.size then w'.cell? a else I a, he, hle, fun a v h hlt => ?_, ⟨fun a v h => ?_, hI.laid.mono hle⟩, ?_, by rw [hw]; exact (Below.refl _ _).alloc (Nat.le_refl _) _⟩
  · dsimp only at h
    rw [if_neg (by omega)] at h; exact h
  · by_cases hb : a.block = w.heap.size
    · rw [if_pos hb] at h; exact h
    · rw [if_neg hb] at h
      rw [hw, World.cell?_alloc_lt _ _ _ (hIlt a v h)]; exact hI.ok a v h
  · simp only [RP]
    refine ⟨_, _, _, rfl, (encS_len xs).symm, Nat.le_refl _, hfl, .inr ⟨_, rfl, RPE_iff.2 fun i x hx => ?_⟩⟩
    unfold encS at hx
    rw [List.getElem?_map] at hx
    obtain ⟨t, ht, rfl⟩ := Option.map_eq_some_iff.1 hx
    refine ⟨rfl, RPC_iff.2 fun j c hc => ?_⟩
    cases j with
    | succ j => simp [PV.cells] at hc
    | zero =>
      simp only [PV.cells, List.getElem?_cons_zero, Option.some.injEq] at hc
      subst hc
      refine ⟨.string ⟨t.toArray⟩, ?_, by simp [Value.oneCell'], by simp only [RP]⟩
      have := hcell i t ht
      have ea : (⟨w.heap.size, 0, none⟩ : Addr).add (0 + i * 1 + 0) = ⟨w.heap.size, i, none⟩ := by
        cases i <;> simp [Addr.add]
      rw [ea]
      dsimp only
      rw [if_pos rfl]
      exact this
end Go.Proofs.YtckjkdhmljfeeaaGreatDoor
/- The lexer's small functions. -/
set_option maxRecDepth 10000
set_option linter.unusedSimpArgs false
set_option linter.unusedVariables false
namespace Go.Proofs.YtckjkdhmljfeeaaGreatDoor
open Go Go.Ab
theorem isSpace_ok (c : UInt8) : PCall Tryz.prog 67 ([u8 c] ++ []) (bb (spB c)) := by
  have h := idxB_ok [32, 9, 10, 13] c
  refine PCall.intro (ps := [bb (spB c)]) fn67 (by simp) ?_
  unfold ac67
  simp only [List.append_nil, argFr]
  (repeat' (first | ((first | (with_reducible refine aops_call fun C hC => ?_) | (with_reducible refine aopsD_call fun C hC => ?_) | ((with_reducible intro C hC); (with_reducible refine ax_call_mp ?_))); (first | (simp only [go_sem]; (first | ((with_reducible apply ACall.pure0 [] (h)); (focus (exact vwA)))))); (simp only [PV.scal, PV.scalL, if_true, Bool.and_true, Bool.and_false, Bool.false_and, Bool.true_and, frz, List.map_nil, Bool.false_eq_true, if_false, ite_self]); ((with_reducible first | refine finA hC ?_ | refine finD hC ?_); clear hC C)) | ((with_reducible first | refine aops_cons' fun C hC => ?_ | refine aopsD_cons' fun C hC => ?_ | intro C hC); simp only [go_sem]; ((with_reducible first | refine finA hC ?_ | refine finD hC ?_); clear hC C)) | (with_reducible first | refine awp_seq_k fun K hK => ?_ | refine awp_reg_k fun K hK => ?_ | refine awp_dreg_k fun K hK => ?_ | (refine aops_nil ?_; refine hK _ _ ?_; try clear hK K) | (refine aopsD_nil ?_; refine hK _ _ _ ?_ ?_; (focus kernel_rfl); try clear hK K) | (refine thn_normal ?_; refine hK _ _ ?_; try clear hK K) | refine catch_normal ?_ | refine awp_skip_k ?_ | refine awp_ret_k ?_ | refine awp_exit_k ?_ | refine awp_block_k ?_ | (refine thn_exit ?_; try clear hK K) | (refine thn_ret ?_; try clear hK K) | refine catch_ret ?_ | refine catch_exit ?_ | (refine catch_other ?_ ?_; focus decide)) | ((with_reducible first | apply aops_guard' | apply aopsD_guard' | apply awp_cond_g); focus (simp only [go_sem]; exact rfl)) | (with_reducible first | refine gk_tt ?_ | refine gk_ff ?_ | refine ck_t ?_ | refine ck_f ?_) | ((with_reducible first | refine gk_tf ?_ | refine gk_ft ?_ | refine gk_u ?_ | refine gk_u' ?_); first | (intro _ e; (first | rw [put_some] at e | rw [put_none] at e); subst e) | (intro _ _ e e'; (first | rw [put_some] at e | rw [put_none] at e); subst e; subst e'))))
  (refine retP_ret (List.range 40) rfl ?_; (try simp only [spB, if_true, if_false, Bool.false_eq_true, Bool.not_true, Bool.not_false]); exact vwA)
theorem isLetter_ok (c : UInt8) : PCall Tryz.prog 71 [u8 c] (bb (ltB c)) := by
  refine PCall.intro (ps := [bb (ltB c)]) fn71 (by simp) ?_
  unfold ac71
  simp only [argFr]
  have hs : True := trivial
  (repeat' (first | ((with_reducible first | refine aops_cons' fun C hC => ?_ | refine aopsD_cons' fun C hC => ?_ | intro C hC); simp only [go_sem, hs]; ((with_reducible first | refine finA hC ?_ | refine finD hC ?_); clear hC C)) | (with_reducible first | refine awp_seq_k fun K hK => ?_ | refine awp_reg_k fun K hK => ?_ | refine awp_dreg_k fun K hK => ?_ | (refine aops_nil ?_; refine hK _ _ ?_; try clear hK K) | (refine aopsD_nil ?_; refine hK _ _ _ ?_ ?_; (focus kernel_rfl); try clear hK K) | (refine thn_normal ?_; refine hK _ _ ?_; try clear hK K) | refine catch_normal ?_ | refine awp_skip_k ?_ | refine awp_ret_k ?_ | refine awp_exit_k ?_ | refine awp_block_k ?_ | (refine thn_exit ?_; try clear hK K) | (refine thn_ret ?_; try clear hK K) | refine catch_ret ?_ | refine catch_exit ?_ | (refine catch_other ?_ ?_; focus decide)) | ((with_reducible first | apply aops_guard' | apply aopsD_guard' | apply awp_cond_g); focus (simp only [go_sem, hs]; exact rfl)) | (with_reducible first | refine gk_tt ?_ | refine gk_ff ?_ | refine ck_t ?_ | refine ck_f ?_) | ((with_reducible first | refine gk_tf ?_ | refine gk_ft ?_ | refine gk_u ?_ | refine gk_u' ?_); first | (intro _ e; (first | rw [put_some] at e | rw [put_none] at e); subst e) | (intro _ _ e e'; (first | rw [put_some] at e | rw [put_none] at e); subst e; subst e')) | ((with_reducible refine ck_s (fun h => ?_) (fun h => ?_)); all_goals ((try simp only [Bool.not_eq_true', Bool.not_eq_false'] at h); (try simp only [h, Bool.not_true, Bool.not_false]); (replace hs := And.intro h hs); clear h)) | ((with_reducible refine gk_s (fun h => ?_) (fun h => ?_)); all_goals ((try simp only [Bool.not_eq_true', Bool.not_eq_false'] at h); (try simp only [h, Bool.not_true, Bool.not_false]); (replace hs := And.intro h hs); clear h))))
  all_goals (refine retP_ret (List.range 40) rfl ?_; (try simp only [ltB, Bool.true_and, Bool.false_and, Bool.and_true, Bool.and_false, hs, if_true, if_false, Bool.false_eq_true, Bool.not_true, Bool.not_false, reduceIte]); exact vwA)
theorem isDigit_ok (c : UInt8) : PCall Tryz.prog 73 ([u8 c] ++ []) (bb (dgB c)) := by
  refine PCall.intro (ps := [bb (dgB c)]) fn73 (by simp) ?_
  unfold ac73
  simp only [List.append_nil, argFr]
  have hs : True := trivial
  (repeat' (first | ((with_reducible first | refine aops_cons' fun C hC => ?_ | refine aopsD_cons' fun C hC => ?_ | intro C hC); simp only [go_sem, hs]; ((with_reducible first | refine finA hC ?_ | refine finD hC ?_); clear hC C)) | (with_reducible first | refine awp_seq_k fun K hK => ?_ | refine awp_reg_k fun K hK => ?_ | refine awp_dreg_k fun K hK => ?_ | (refine aops_nil ?_; refine hK _ _ ?_; try clear hK K) | (refine aopsD_nil ?_; refine hK _ _ _ ?_ ?_; (focus kernel_rfl); try clear hK K) | (refine thn_normal ?_; refine hK _ _ ?_; try clear hK K) | refine catch_normal ?_ | refine awp_skip_k ?_ | refine awp_ret_k ?_ | refine awp_exit_k ?_ | refine awp_block_k ?_ | (refine thn_exit ?_; try clear hK K) | (refine thn_ret ?_; try clear hK K) | refine catch_ret ?_ | refine catch_exit ?_ | (refine catch_other ?_ ?_; focus decide)) | ((with_reducible first | apply aops_guard' | apply aopsD_guard' | apply awp_cond_g); focus (simp only [go_sem, hs]; exact rfl)) | (with_reducible first | refine gk_tt ?_ | refine gk_ff ?_ | refine ck_t ?_ | refine ck_f ?_) | ((with_reducible first | refine gk_tf ?_ | refine gk_ft ?_ | refine gk_u ?_ | refine gk_u' ?_); first | (intro _ e; (first | rw [put_some] at e | rw [put_none] at e); subst e) | (intro _ _ e e'; (first | rw [put_some] at e | rw [put_none] at e); subst e; subst e')) | ((with_reducible refine ck_s (fun h => ?_) (fun h => ?_)); all_goals ((try simp only [Bool.not_eq_true', Bool.not_eq_false'] at h); (try simp only [h, Bool.not_true, Bool.not_false]); (replace hs := And.intro h hs); clear h)) | ((with_reducible refine gk_s (fun h => ?_) (fun h => ?_)); all_goals ((try simp only [Bool.not_eq_true', Bool.not_eq_false'] at h); (try simp only [h, Bool.not_true, Bool.not_false]); (replace hs := And.intro h hs); clear h))))
  all_goals (refine retP_ret (List.range 40) rfl ?_; (try simp only [dgB, Bool.true_and, Bool.false_and, Bool.and_true, Bool.and_false, hs, if_true, if_false, Bool.false_eq_true, Bool.not_true, Bool.not_false, reduceIte]); exact vwA)
theorem nl1_ok (c : UInt8) : PCall Tryz.prog 70 ([u8 c] ++ []) (bb (nlB c)) := by
  refine PCall.intro (ps := [bb (nlB c)]) fn70 (by simp) ?_
  unfold ac70
  simp only [List.append_nil, argFr]
  (repeat' (first | ((with_reducible first | refine aops_cons' fun C hC => ?_ | refine aopsD_cons' fun C hC => ?_ | intro C hC); simp only [go_sem]; ((with_reducible first | refine finA hC ?_ | refine finD hC ?_); clear hC C)) | (with_reducible first | refine awp_seq_k fun K hK => ?_ | refine awp_reg_k fun K hK => ?_ | refine awp_dreg_k fun K hK => ?_ | (refine aops_nil ?_; refine hK _ _ ?_; try clear hK K) | (refine aopsD_nil ?_; refine hK _ _ _ ?_ ?_; (focus kernel_rfl); try clear hK K) | (refine thn_normal ?_; refine hK _ _ ?_; try clear hK K) | refine catch_normal ?_ | refine awp_skip_k ?_ | refine awp_ret_k ?_ | refine awp_exit_k ?_ | refine awp_block_k ?_ | (refine thn_exit ?_; try clear hK K) | (refine thn_ret ?_; try clear hK K) | refine catch_ret ?_ | refine catch_exit ?_ | (refine catch_other ?_ ?_; focus decide)) | ((with_reducible first | apply aops_guard' | apply aopsD_guard' | apply awp_cond_g); focus (simp only [go_sem]; exact rfl)) | (with_reducible first | refine gk_tt ?_ | refine gk_ff ?_ | refine ck_t ?_ | refine ck_f ?_) | ((with_reducible first | refine gk_tf ?_ | refine gk_ft ?_ | refine gk_u ?_ | refine gk_u' ?_); first | (intro _ e; (first | rw [put_some] at e | rw [put_none] at e); subst e) | (intro _ _ e e'; (first | rw [put_some] at e | rw [put_none] at e); subst e; subst e'))))
  (refine retP_ret (List.range 40) rfl ?_; (try simp only [nlB, if_true, if_false, Bool.false_eq_true, Bool.not_true, Bool.not_false]); exact vwA)
theorem nl2_ok (c : UInt8) : PCall Tryz.prog 111 ([u8 c] ++ []) (bb (nlB c)) := by
  refine PCall.intro (ps := [bb (nlB c)]) fn111 (by simp) ?_
  unfold ac111
  simp only [List.append_nil, argFr]
  (repeat' (first | ((with_reducible first | refine aops_cons' fun C hC => ?_ | refine aopsD_cons' fun C hC => ?_ | intro C hC); simp only [go_sem]; ((with_reducible first | refine finA hC ?_ | refine finD hC ?_); clear hC C)) | (with_reducible first | refine awp_seq_k fun K hK => ?_ | refine awp_reg_k fun K hK => ?_ | refine awp_dreg_k fun K hK => ?_ | (refine aops_nil ?_; refine hK _ _ ?_; try clear hK K) | (refine aopsD_nil ?_; refine hK _ _ _ ?_ ?_; (focus kernel_rfl); try clear hK K) | (refine thn_normal ?_; refine hK _ _ ?_; try clear hK K) | refine catch_normal ?_ | refine awp_skip_k ?_ | refine awp_ret_k ?_ | refine awp_exit_k ?_ | refine awp_block_k ?_ | (refine thn_exit ?_; try clear hK K) | (refine thn_ret ?_; try clear hK K) | refine catch_ret ?_ | refine catch_exit ?_ | (refine catch_other ?_ ?_; focus decide)) | ((with_reducible first | apply aops_guard' | apply aopsD_guard' | apply awp_cond_g); focus (simp only [go_sem]; exact rfl)) | (with_reducible first | refine gk_tt ?_ | refine gk_ff ?_ | refine ck_t ?_ | refine ck_f ?_) | ((with_reducible first | refine gk_tf ?_ | refine gk_ft ?_ | refine gk_u ?_ | refine gk_u' ?_); first | (intro _ e; (first | rw [put_some] at e | rw [put_none] at e); subst e) | (intro _ _ e e'; (first | rw [put_some] at e | rw [put_none] at e); subst e; subst e'))))
  (refine retP_ret (List.range 40) rfl ?_; (try simp only [nlB, if_true, if_false, Bool.false_eq_true, Bool.not_true, Bool.not_false]); exact vwA)
theorem ld_ok (c : UInt8) : PCall Tryz.prog 72 ([u8 c] ++ []) (bb (ldB c)) := by
  have h1 := isLetter_ok c
  have h2 := isDigit_ok c
  rw [List.append_nil] at h2
  refine PCall.intro (ps := [bb (ldB c)]) fn72 (by simp) ?_
  unfold ac72
  simp only [List.append_nil, argFr]
  cases h : ltB c with
  | true =>
    rw [h] at h1
    (repeat' (first | ((first | (with_reducible refine aops_call fun C hC => ?_) | (with_reducible refine aopsD_call fun C hC => ?_) | ((with_reducible intro C hC); (with_reducible refine ax_call_mp ?_))); (first | (simp only [go_sem]; (first | ((with_reducible apply ACall.pure0 [] (h1)); (focus (exact vwA)))))); (simp only [PV.scal, PV.scalL, if_true, Bool.and_true, Bool.and_false, Bool.false_and, Bool.true_and, frz, List.map_nil, Bool.false_eq_true, if_false, ite_self]); ((with_reducible first | refine finA hC ?_ | refine finD hC ?_); clear hC C)) | ((with_reducible first | refine aops_cons' fun C hC => ?_ | refine aopsD_cons' fun C hC => ?_ | intro C hC); simp only [go_sem]; ((with_reducible first | refine finA hC ?_ | refine finD hC ?_); clear hC C)) | (with_reducible first | refine awp_seq_k fun K hK => ?_ | refine awp_reg_k fun K hK => ?_ | refine awp_dreg_k fun K hK => ?_ | (refine aops_nil ?_; refine hK _ _ ?_; try clear hK K) | (refine aopsD_nil ?_; refine hK _ _ _ ?_ ?_; (focus kernel_rfl); try clear hK K) | (refine thn_normal ?_; refine hK _ _ ?_; try clear hK K) | refine catch_normal ?_ | refine awp_skip_k ?_ | refine awp_ret_k ?_ | refine awp_exit_k ?_ | refine awp_block_k ?_ | (refine thn_exit ?_; try clear hK K) | (refine thn_ret ?_; try clear hK K) | refine catch_ret ?_ | refine catch_exit ?_ | (refine catch_other ?_ ?_; focus decide)) | ((with_reducible first | apply aops_guard' | apply aopsD_guard' | apply awp_cond_g); focus (simp only [go_sem]; exact rfl)) | (with_reducible first | refine gk_tt ?_ | refine gk_ff ?_ | refine ck_t ?_ | refine ck_f ?_) | ((with_reducible first | refine gk_tf ?_ | refine gk_ft ?_ | refine gk_u ?_ | refine gk_u' ?_); first | (intro _ e; (first | rw [put_some] at e | rw [put_none] at e); subst e) | (intro _ _ e e'; (first | rw [put_some] at e | rw [put_none] at e); subst e; subst e'))))
    (refine retP_ret (List.range 40) rfl ?_; (try simp only [ldB, h, if_true, if_false, Bool.false_eq_true, Bool.not_true, Bool.not_false]); exact vwA)
  | false =>
    rw [h] at h1
    (repeat' (first | ((first | (with_reducible refine aops_call fun C hC => ?_) | (with_reducible refine aopsD_call fun C hC => ?_) | ((with_reducible intro C hC); (with_reducible refine ax_call_mp ?_))); (first | (simp only [go_sem]; (first | ((with_reducible apply ACall.pure0 [] (h1)); (focus (exact vwA))) | ((with_reducible apply ACall.pure0 [] (h2)); (focus (exact vwA)))))); (simp only [PV.scal, PV.scalL, if_true, Bool.and_true, Bool.and_false, Bool.false_and, Bool.true_and, frz, List.map_nil, Bool.false_eq_true, if_false, ite_self]); ((with_reducible first | refine finA hC ?_ | refine finD hC ?_); clear hC C)) | ((with_reducible first | refine aops_cons' fun C hC => ?_ | refine aopsD_cons' fun C hC => ?_ | intro C hC); simp only [go_sem]; ((with_reducible first | refine finA hC ?_ | refine finD hC ?_); clear hC C)) | (with_reducible first | refine awp_seq_k fun K hK => ?_ | refine awp_reg_k fun K hK => ?_ | refine awp_dreg_k fun K hK => ?_ | (refine aops_nil ?_; refine hK _ _ ?_; try clear hK K) | (refine aopsD_nil ?_; refine hK _ _ _ ?_ ?_; (focus kernel_rfl); try clear hK K) | (refine thn_normal ?_; refine hK _ _ ?_; try clear hK K) | refine catch_normal ?_ | refine awp_skip_k ?_ | refine awp_ret_k ?_ | refine awp_exit_k ?_ | refine awp_block_k ?_ | (refine thn_exit ?_; try clear hK K) | (refine thn_ret ?_; try clear hK K) | refine catch_ret ?_ | refine catch_exit ?_ | (refine catch_other ?_ ?_; focus decide)) | ((with_reducible first | apply aops_guard' | apply aopsD_guard' | apply awp_cond_g); focus (simp only [go_sem]; exact rfl)) | (with_reducible first | refine gk_tt ?_ | refine gk_ff ?_ | refine ck_t ?_ | refine ck_f ?_) | ((with_reducible first | refine gk_tf ?_ | refine gk_ft ?_ | refine gk_u ?_ | refine gk_u' ?_); first | (intro _ e; (first | rw [put_some] at e | rw [put_none] at e); subst e) | (intro _ _ e e'; (first | rw [put_some] at e | rw [put_none] at e); subst e; subst e'))))
    (refine retP_ret (List.range 40) rfl ?_; (try simp only [ldB, h, if_true, if_false, Bool.false_eq_true, Bool.not_true, Bool.not_false]); exact vwA)
theorem pfx1_ok (l p : List UInt8) : PCall Tryz.prog 108 [sb l, sb p] (bb (pfx l p)) := by
  refine PCall.intro (ps := [bb (pfx l p)]) fn108 (by simp) ?_
  unfold ac108
  simp only [argFr]
  cases h : decide ((l.length : Int) ≥ (p.length : Int)) with
  | false =>
    (repeat' (first | ((with_reducible first | refine aops_cons' fun C hC => ?_ | refine aopsD_cons' fun C hC => ?_ | intro C hC); simp only [go_sem, sb_size, h]; ((with_reducible first | refine finA hC ?_ | refine finD hC ?_); clear hC C)) | (with_reducible first | refine awp_seq_k fun K hK => ?_ | refine awp_reg_k fun K hK => ?_ | refine awp_dreg_k fun K hK => ?_ | (refine aops_nil ?_; refine hK _ _ ?_; try clear hK K) | (refine aopsD_nil ?_; refine hK _ _ _ ?_ ?_; (focus kernel_rfl); try clear hK K) | (refine thn_normal ?_; refine hK _ _ ?_; try clear hK K) | refine catch_normal ?_ | refine awp_skip_k ?_ | refine awp_ret_k ?_ | refine awp_exit_k ?_ | refine awp_block_k ?_ | (refine thn_exit ?_; try clear hK K) | (refine thn_ret ?_; try clear hK K) | refine catch_ret ?_ | refine catch_exit ?_ | (refine catch_other ?_ ?_; focus decide)) | ((with_reducible first | apply aops_guard' | apply aopsD_guard' | apply awp_cond_g); focus (simp only [go_sem, sb_size, h]; exact rfl)) | (with_reducible first | refine gk_tt ?_ | refine gk_ff ?_ | refine ck_t ?_ | refine ck_f ?_) | ((with_reducible first | refine gk_tf ?_ | refine gk_ft ?_ | refine gk_u ?_ | refine gk_u' ?_); first | (intro _ e; (first | rw [put_some] at e | rw [put_none] at e); subst e) | (intro _ _ e e'; (first | rw [put_some] at e | rw [put_none] at e); subst e; subst e'))))
    (refine retP_ret (List.range 40) rfl ?_; (try simp only [pfx, h, Bool.false_and, if_true, if_false, Bool.false_eq_true, Bool.not_true, Bool.not_false]); exact vwA)
  | true =>
    have hle : p.length ≤ l.length := by have := of_decide_eq_true h; omega
    (repeat' (first | ((with_reducible first | refine aops_cons' fun C hC => ?_ | refine aopsD_cons' fun C hC => ?_ | intro C hC); simp only [go_sem, sb_size, h, hle, sb_take, sb_list, Nat.zero_le]; ((with_reducible first | refine finA hC ?_ | refine finD hC ?_); clear hC C)) | (with_reducible first | refine awp_seq_k fun K hK => ?_ | refine awp_reg_k fun K hK => ?_ | refine awp_dreg_k fun K hK => ?_ | (refine aops_nil ?_; refine hK _ _ ?_; try clear hK K) | (refine aopsD_nil ?_; refine hK _ _ _ ?_ ?_; (focus kernel_rfl); try clear hK K) | (refine thn_normal ?_; refine hK _ _ ?_; try clear hK K) | refine catch_normal ?_ | refine awp_skip_k ?_ | refine awp_ret_k ?_ | refine awp_exit_k ?_ | refine awp_block_k ?_ | (refine thn_exit ?_; try clear hK K) | (refine thn_ret ?_; try clear hK K) | refine catch_ret ?_ | refine catch_exit ?_ | (refine catch_other ?_ ?_; focus decide)) | ((with_reducible first | apply aops_guard' | apply aopsD_guard' | apply awp_cond_g); focus (simp only [go_sem, sb_size, h, hle, sb_take, sb_list, Nat.zero_le]; exact rfl)) | (with_reducible first | refine gk_tt ?_ | refine gk_ff ?_ | refine ck_t ?_ | refine ck_f ?_) | ((with_reducible first | refine gk_tf ?_ | refine gk_ft ?_ | refine gk_u ?_ | refine gk_u' ?_); first | (intro _ e; (first | rw [put_some] at e | rw [put_none] at e); subst e) | (intro _ _ e e'; (first | rw [put_some] at e | rw [put_none] at e); subst e; subst e'))))
    (refine retP_ret (List.range 40) rfl ?_; (try simp only [pfx, h, Bool.true_and, if_true, if_false, Bool.false_eq_true, Bool.not_true, Bool.not_false]); exact vwA)
theorem pfx_ok (l p : List UInt8) : PCall Tryz.prog 69 [sb l, sb p] (bb (pfx l p)) := by
  have h := pfx1_ok l p
  refine PCall.intro (ps := [bb (pfx l p)]) fn69 (by simp) ?_
  unfold ac69
  simp only [argFr]
  (repeat' (first | ((first | (with_reducible refine aops_call fun C hC => ?_) | (with_reducible refine aopsD_call fun C hC => ?_) | ((with_reducible intro C hC); (with_reducible refine ax_call_mp ?_))); (first | (simp only [go_sem]; (first | ((with_reducible apply ACall.pure0 [] (h)); (focus (exact vwA)))))); (simp only [PV.scal, PV.scalL, if_true, Bool.and_true, Bool.and_false, Bool.false_and, Bool.true_and, frz, List.map_nil, Bool.false_eq_true, if_false, ite_self]); ((with_reducible first | refine finA hC ?_ | refine finD hC ?_); clear hC C)) | ((with_reducible first | refine aops_cons' fun C hC => ?_ | refine aopsD_cons' fun C hC => ?_ | intro C hC); simp only [go_sem]; ((with_reducible first | refine finA hC ?_ | refine finD hC ?_); clear hC C)) | (with_reducible first | refine awp_seq_k fun K hK => ?_ | refine awp_reg_k fun K hK => ?_ | refine awp_dreg_k fun K hK => ?_ | (refine aops_nil ?_; refine hK _ _ ?_; try clear hK K) | (refine aopsD_nil ?_; refine hK _ _ _ ?_ ?_; (focus kernel_rfl); try clear hK K) | (refine thn_normal ?_; refine hK _ _ ?_; try clear hK K) | refine catch_normal ?_ | refine awp_skip_k ?_ | refine awp_ret_k ?_ | refine awp_exit_k ?_ | refine awp_block_k ?_ | (refine thn_exit ?_; try clear hK K) | (refine thn_ret ?_; try clear hK K) | refine catch_ret ?_ | refine catch_exit ?_ | (refine catch_other ?_ ?_; focus decide)) | ((with_reducible first | apply aops_guard' | apply aopsD_guard' | apply awp_cond_g); focus (simp only [go_sem]; exact rfl)) | (with_reducible first | refine gk_tt ?_ | refine gk_ff ?_ | refine ck_t ?_ | refine ck_f ?_) | ((with_reducible first | refine gk_tf ?_ | refine gk_ft ?_ | refine gk_u ?_ | refine gk_u' ?_); first | (intro _ e; (first | rw [put_some] at e | rw [put_none] at e); subst e) | (intro _ _ e e'; (first | rw [put_some] at e | rw [put_none] at e); subst e; subst e'))))
  (refine retP_ret (List.range 40) rfl ?_; exact vwA)
def idxF {α : Type} (p : α → Bool) : List α → Nat → Int
  | [], _ => -1
  | x :: xs, i => if p x then (i : Int) else idxF p xs (i + 1)
theorem idxF_ge {α : Type} (p : α → Bool) : ∀ (ts : List α) (i : Nat), decide (idxF p ts i ≥ 0) = ts.any p
  | [], i => by simp [idxF]
  | t :: ts, i => by
    cases h : p t with
    | true => simp [idxF, h]
    | false =>
      have := idxF_ge p ts (i + 1)
      simp only [idxF, h, Bool.false_eq_true, if_false, List.any_cons, Bool.false_or]; exact this
theorem idxS_ok (ts : List (List UInt8)) (x : List UInt8) : PCall Tryz.prog 109 [.list 1 (encS ts), sb x] (ii (idxF (fun y => x == y) ts 0)) := by
  refine PCall.intro' (ps := [ii (idxF (fun y => x == y) ts 0)]) fn109 (by simp) fun hok => ?_
  have hss : ts.length ≤ 1099511627776 := by
    simp only [PV.okL, PV.ok, encS_len, big] at hok; exact hok.1.1
  clear hok
  unfold ac109
  simp only [argFr]
  (repeat' (first | ((with_reducible first | refine aops_cons' fun C hC => ?_ | refine aopsD_cons' fun C hC => ?_ | intro C hC); simp only [go_sem, encS_len]; ((with_reducible first | refine finA hC ?_ | refine finD hC ?_); clear hC C)) | (with_reducible first | refine awp_seq_k fun K hK => ?_ | refine awp_reg_k fun K hK => ?_ | refine awp_dreg_k fun K hK => ?_ | (refine aops_nil ?_; refine hK _ _ ?_; try clear hK K) | (refine aopsD_nil ?_; refine hK _ _ _ ?_ ?_; (focus kernel_rfl); try clear hK K) | (refine thn_normal ?_; refine hK _ _ ?_; try clear hK K) | refine catch_normal ?_ | refine awp_skip_k ?_ | refine awp_ret_k ?_ | refine awp_exit_k ?_ | refine awp_block_k ?_ | (refine thn_exit ?_; try clear hK K) | (refine thn_ret ?_; try clear hK K) | refine catch_ret ?_ | refine catch_exit ?_ | (refine catch_other ?_ ?_; focus decide)) | ((with_reducible first | apply aops_guard' | apply aopsD_guard' | apply awp_cond_g); focus (simp only [go_sem, encS_len]; exact rfl)) | (with_reducible first | refine gk_tt ?_ | refine gk_ff ?_ | refine ck_t ?_ | refine ck_f ?_) | ((with_reducible first | refine gk_tf ?_ | refine gk_ft ?_ | refine gk_u ?_ | refine gk_u' ?_); first | (intro _ e; (first | rw [put_some] at e | rw [put_none] at e); subst e) | (intro _ _ e e'; (first | rw [put_some] at e | rw [put_none] at e); subst e; subst e'))))
  have rows : ∀ (rest pre : List (List UInt8)), pre ++ rest = ts → idxF (fun y => x == y) ts 0 = idxF (fun y => x == y) rest pre.length → loopN (awp Tryz.prog ac109_l0) (catch_ 0 (thn K (retP [RV.tmp 4] [ii (idxF (fun y => x == y) ts 0)]))) (rest.length + 1)
     [(8, .pv (ii pre.length)), (7, .pv (ii ts.length)), (1, .pv (sb x)), (0, .pv (.list 1 (encS ts)))] [] := by
    intro rest
    induction rest with
    | nil =>
      intro pre hpre hi
      have hpre : pre = ts := by simpa using hpre
      subst hpre
      refine loopN_k fun K1 hK1 => ?_
      unfold ac109_l0
      (repeat' (first | ((with_reducible first | refine aops_cons' fun C hC => ?_ | refine aopsD_cons' fun C hC => ?_ | intro C hC); simp only [go_sem, lt_end]; ((with_reducible first | refine finA hC ?_ | refine finD hC ?_); clear hC C)) | (with_reducible first | refine awp_seq_k fun K hK => ?_ | refine awp_reg_k fun K hK => ?_ | refine awp_dreg_k fun K hK => ?_ | (refine aops_nil ?_; refine hK _ _ ?_; try clear hK K) | (refine aopsD_nil ?_; refine hK _ _ _ ?_ ?_; (focus kernel_rfl); try clear hK K) | (refine thn_normal ?_; refine hK _ _ ?_; try clear hK K) | refine catch_normal ?_ | refine awp_skip_k ?_ | refine awp_ret_k ?_ | refine awp_exit_k ?_ | refine awp_block_k ?_ | (refine thn_exit ?_; try clear hK K) | (refine thn_ret ?_; try clear hK K) | refine catch_ret ?_ | refine catch_exit ?_ | (refine catch_other ?_ ?_; focus decide)) | ((with_reducible first | apply aops_guard' | apply aopsD_guard' | apply awp_cond_g); focus (simp only [go_sem, lt_end]; exact rfl)) | (with_reducible first | refine gk_tt ?_ | refine gk_ff ?_ | refine ck_t ?_ | refine ck_f ?_) | ((with_reducible first | refine gk_tf ?_ | refine gk_ft ?_ | refine gk_u ?_ | refine gk_u' ?_); first | (intro _ e; (first | rw [put_some] at e | rw [put_none] at e); subst e) | (intro _ _ e e'; (first | rw [put_some] at e | rw [put_none] at e); subst e; subst e'))))
      rw [hi]
      (refine retP_ret (List.range 40) rfl ?_; (try simp only [idxF, if_true, if_false, Bool.false_eq_true, Bool.not_true, Bool.not_false]); exact vwA)
    | cons t rest ih =>
      intro pre hpre hi
      have hlt : decide ((pre.length : Int) < (ts.length : Int)) = true := by subst hpre; exact lt_app _ _ _
      have hat : (encS ts)[pre.length]? = some (sb t) := by subst hpre; exact encS_at _ _ _
      have hb : pre.length + 1 ≤ big := by have := congrArg List.length hpre; simp at this; unfold big; omega
      refine loopN_k fun K1 hK1 => ?_
      unfold ac109_l0
      cases hpt : (x == t) with
      | true =>
        (repeat' (first | ((with_reducible first | refine aops_cons' fun C hC => ?_ | refine aopsD_cons' fun C hC => ?_ | intro C hC); simp only [go_sem, hlt, hat, pc_lit, sb_list, hpt]; ((with_reducible first | refine finA hC ?_ | refine finD hC ?_); clear hC C)) | (with_reducible first | refine awp_seq_k fun K hK => ?_ | refine awp_reg_k fun K hK => ?_ | refine awp_dreg_k fun K hK => ?_ | (refine aops_nil ?_; refine hK _ _ ?_; try clear hK K) | (refine aopsD_nil ?_; refine hK _ _ _ ?_ ?_; (focus kernel_rfl); try clear hK K) | (refine thn_normal ?_; refine hK _ _ ?_; try clear hK K) | refine catch_normal ?_ | refine awp_skip_k ?_ | refine awp_ret_k ?_ | refine awp_exit_k ?_ | refine awp_block_k ?_ | (refine thn_exit ?_; try clear hK K) | (refine thn_ret ?_; try clear hK K) | refine catch_ret ?_ | refine catch_exit ?_ | (refine catch_other ?_ ?_; focus decide)) | ((with_reducible first | apply aops_guard' | apply aopsD_guard' | apply awp_cond_g); focus (simp only [go_sem, hlt, hat, pc_lit, sb_list, hpt]; exact rfl)) | (with_reducible first | refine gk_tt ?_ | refine gk_ff ?_ | refine ck_t ?_ | refine ck_f ?_) | ((with_reducible first | refine gk_tf ?_ | refine gk_ft ?_ | refine gk_u ?_ | refine gk_u' ?_); first | (intro _ e; (first | rw [put_some] at e | rw [put_none] at e); subst e) | (intro _ _ e e'; (first | rw [put_some] at e | rw [put_none] at e); subst e; subst e'))))
        simp only [idxF, hpt, if_true] at hi
        rw [hi]
        (refine retP_ret (List.range 40) rfl ?_; exact vwA)
      | false =>
        (repeat' (first | ((with_reducible first | refine aops_cons' fun C hC => ?_ | refine aopsD_cons' fun C hC => ?_ | intro C hC); simp only [go_sem, hlt, hat, pc_lit, sb_list, hpt]; ((with_reducible first | refine finA hC ?_ | refine finD hC ?_); clear hC C)) | (with_reducible first | refine awp_seq_k fun K hK => ?_ | refine awp_reg_k fun K hK => ?_ | refine awp_dreg_k fun K hK => ?_ | (refine aops_nil ?_; refine hK _ _ ?_; try clear hK K) | (refine aopsD_nil ?_; refine hK _ _ _ ?_ ?_; (focus kernel_rfl); try clear hK K) | (refine thn_normal ?_; refine hK _ _ ?_; try clear hK K) | refine catch_normal ?_ | refine awp_skip_k ?_ | refine awp_ret_k ?_ | refine awp_exit_k ?_ | refine awp_block_k ?_ | (refine thn_exit ?_; try clear hK K) | (refine thn_ret ?_; try clear hK K) | refine catch_ret ?_ | refine catch_exit ?_ | (refine catch_other ?_ ?_; focus decide)) | ((with_reducible first | apply aops_guard' | apply aopsD_guard' | apply awp_cond_g); focus (simp only [go_sem, hlt, hat, pc_lit, sb_list, hpt]; exact rfl)) | (with_reducible first | refine gk_tt ?_ | refine gk_ff ?_ | refine ck_t ?_ | refine ck_f ?_) | ((with_reducible first | refine gk_tf ?_ | refine gk_ft ?_ | refine gk_u ?_ | refine gk_u' ?_); first | (intro _ e; (first | rw [put_some] at e | rw [put_none] at e); subst e) | (intro _ _ e e'; (first | rw [put_some] at e | rw [put_none] at e); subst e; subst e'))))
        have hw := wrapS (n := pre.length) (by unfold big at hb; omega)
        refine thn_normal ?_
        refine hK1 _ _ _ _ _ (LeB [] (by refine ⟨?_, ?_, ?_⟩ <;> simp only [leFr, leFb, leHp, V.ren, V.renL, V.bd, V.bdL, allL, lt, Go.Ab.get, hget, List.map_cons, List.map_nil, List.length_cons, List.length_nil, List.length_append, List.getElem?_cons_zero, List.getElem?_cons_succ, List.getElem?_nil, Option.join_some, Option.join_none, List.getD_cons_zero, List.getD_cons_succ, List.getD_nil, Nat.reduceAdd, Nat.reduceLT, Nat.reduceEqDiff, Nat.zero_add, reduceIte, if_true, if_false, and_true, true_and, renL_vcells, allL_vcells, renL_pv, leBlk_some, eq_self, true_or, or_true, reduceCtorEq, false_or, hw, List.length_append])) (ih (pre ++ [t]) (by simp [hpre]) (by simpa [idxF, hpt] using hi))
  refine awp_loop_k _ (LeB [] (by refine ⟨?_, ?_, ?_⟩ <;> simp only [leFr, leFb, leHp, V.ren, V.renL, V.bd, V.bdL, allL, lt, Go.Ab.get, hget, List.map_cons, List.map_nil, List.length_cons, List.length_nil, List.length_append, List.getElem?_cons_zero, List.getElem?_cons_succ, List.getElem?_nil, Option.join_some, Option.join_none, List.getD_cons_zero, List.getD_cons_succ, List.getD_nil, Nat.reduceAdd, Nat.reduceLT, Nat.reduceEqDiff, Nat.zero_add, reduceIte, if_true, if_false, and_true, true_and, renL_vcells, allL_vcells, renL_pv, leBlk_some, eq_self, true_or, or_true, reduceCtorEq, false_or, c0])) (rows ts [] rfl rfl)
theorem hasS_ok (ts : List (List UInt8)) (x : List UInt8) : PCall Tryz.prog 74 [.list 1 (encS ts), sb x] (bb (hasS ts x)) := by
  have h := idxS_ok ts x
  refine PCall.intro (ps := [bb (hasS ts x)]) fn74 (by simp) ?_
  unfold ac74
  simp only [argFr]
  (repeat' (first | ((first | (with_reducible refine aops_call fun C hC => ?_) | (with_reducible refine aopsD_call fun C hC => ?_) | ((with_reducible intro C hC); (with_reducible refine ax_call_mp ?_))); (first | (simp only [go_sem, idxF_ge]; (first | ((with_reducible apply ACall.pure0 [] (h)); (focus (exact vwA)))))); (simp only [PV.scal, PV.scalL, if_true, Bool.and_true, Bool.and_false, Bool.false_and, Bool.true_and, frz, List.map_nil, Bool.false_eq_true, if_false, ite_self, idxF_ge]); ((with_reducible first | refine finA hC ?_ | refine finD hC ?_); clear hC C)) | ((with_reducible first | refine aops_cons' fun C hC => ?_ | refine aopsD_cons' fun C hC => ?_ | intro C hC); simp only [go_sem, idxF_ge]; ((with_reducible first | refine finA hC ?_ | refine finD hC ?_); clear hC C)) | (with_reducible first | refine awp_seq_k fun K hK => ?_ | refine awp_reg_k fun K hK => ?_ | refine awp_dreg_k fun K hK => ?_ | (refine aops_nil ?_; refine hK _ _ ?_; try clear hK K) | (refine aopsD_nil ?_; refine hK _ _ _ ?_ ?_; (focus kernel_rfl); try clear hK K) | (refine thn_normal ?_; refine hK _ _ ?_; try clear hK K) | refine catch_normal ?_ | refine awp_skip_k ?_ | refine awp_ret_k ?_ | refine awp_exit_k ?_ | refine awp_block_k ?_ | (refine thn_exit ?_; try clear hK K) | (refine thn_ret ?_; try clear hK K) | refine catch_ret ?_ | refine catch_exit ?_ | (refine catch_other ?_ ?_; focus decide)) | ((with_reducible first | apply aops_guard' | apply aopsD_guard' | apply awp_cond_g); focus (simp only [go_sem, idxF_ge]; exact rfl)) | (with_reducible first | refine gk_tt ?_ | refine gk_ff ?_ | refine ck_t ?_ | refine ck_f ?_) | ((with_reducible first | refine gk_tf ?_ | refine gk_ft ?_ | refine gk_u ?_ | refine gk_u' ?_); first | (intro _ e; (first | rw [put_some] at e | rw [put_none] at e); subst e) | (intro _ _ e e'; (first | rw [put_some] at e | rw [put_none] at e); subst e; subst e'))))
  (refine retP_ret (List.range 40) rfl ?_; (try simp only [hasS, if_true, if_false, Bool.false_eq_true, Bool.not_true, Bool.not_false]); exact vwA)
theorem kw_ok : PCall Tryz.prog 75 [] (.list 1 (encS KW)) := by
  have h := fields_ok [117, 115, 101, 32, 112, 117, 98, 32, 97, 115, 32, 102, 110, 32, 115, 116, 114, 117, 99, 116, 32, 101, 110, 117, 109, 32, 116, 114, 97, 105, 116, 32, 105, 109, 112, 108, 32, 102, 111, 114, 32, 99, 111, 110, 115, 116, 32, 109, 97, 99, 114, 111, 32, 108, 101, 116, 32, 109, 117, 116, 32, 119, 104, 105, 108, 101, 32, 114, 101, 116, 117, 114, 110, 32, 109, 97, 116, 99, 104, 32, 105, 102, 32, 101, 108, 115, 101, 32, 110, 101, 119, 32, 116, 114, 117, 101, 32, 102, 97, 108, 115, 101, 32, 116, 121, 112, 101] (by decide +kernel) (by decide +kernel)
  refine PCall.intro (ps := [.list 1 (encS KW)]) fn75 (by simp) ?_
  unfold ac75
  simp only [argFr]
  (repeat' (first | ((first | (with_reducible refine aops_call fun C hC => ?_) | (with_reducible refine aopsD_call fun C hC => ?_) | ((with_reducible intro C hC); (with_reducible refine ax_call_mp ?_))); (first | (simp only [go_sem]; (first | ((with_reducible apply ACall.pure0 [] (h)); (focus (exact vwA)))))); (simp only [PV.scal, PV.scalL, if_true, Bool.and_true, Bool.and_false, Bool.false_and, Bool.true_and, frz, List.map_nil, Bool.false_eq_true, if_false, ite_self]); ((with_reducible first | refine finA hC ?_ | refine finD hC ?_); clear hC C)) | ((with_reducible first | refine aops_cons' fun C hC => ?_ | refine aopsD_cons' fun C hC => ?_ | intro C hC); simp only [go_sem]; ((with_reducible first | refine finA hC ?_ | refine finD hC ?_); clear hC C)) | (with_reducible first | refine awp_seq_k fun K hK => ?_ | refine awp_reg_k fun K hK => ?_ | refine awp_dreg_k fun K hK => ?_ | (refine aops_nil ?_; refine hK _ _ ?_; try clear hK K) | (refine aopsD_nil ?_; refine hK _ _ _ ?_ ?_; (focus kernel_rfl); try clear hK K) | (refine thn_normal ?_; refine hK _ _ ?_; try clear hK K) | refine catch_normal ?_ | refine awp_skip_k ?_ | refine awp_ret_k ?_ | refine awp_exit_k ?_ | refine awp_block_k ?_ | (refine thn_exit ?_; try clear hK K) | (refine thn_ret ?_; try clear hK K) | refine catch_ret ?_ | refine catch_exit ?_ | (refine catch_other ?_ ?_; focus decide)) | ((with_reducible first | apply aops_guard' | apply aopsD_guard' | apply awp_cond_g); focus (simp only [go_sem]; exact rfl)) | (with_reducible first | refine gk_tt ?_ | refine gk_ff ?_ | refine ck_t ?_ | refine ck_f ?_) | ((with_reducible first | refine gk_tf ?_ | refine gk_ft ?_ | refine gk_u ?_ | refine gk_u' ?_); first | (intro _ e; (first | rw [put_some] at e | rw [put_none] at e); subst e) | (intro _ _ e e'; (first | rw [put_some] at e | rw [put_none] at e); subst e; subst e'))))
  (refine retP_ret (List.range 40) rfl ?_; (try simp only [KW, if_true, if_false, Bool.false_eq_true, Bool.not_true, Bool.not_false]); exact vwA)
theorem p2_ok : PCall Tryz.prog 77 [] (.list 1 (encS P2)) := by
  have h := fields_ok [58, 58, 32, 61, 62, 32, 45, 62, 32, 61, 61, 32, 38, 38, 32, 124, 124] (by decide +kernel) (by decide +kernel)
  refine PCall.intro (ps := [.list 1 (encS P2)]) fn77 (by simp) ?_
  unfold ac77
  simp only [argFr]
  (repeat' (first | ((first | (with_reducible refine aops_call fun C hC => ?_) | (with_reducible refine aopsD_call fun C hC => ?_) | ((with_reducible intro C hC); (with_reducible refine ax_call_mp ?_))); (first | (simp only [go_sem]; (first | ((with_reducible apply ACall.pure0 [] (h)); (focus (exact vwA)))))); (simp only [PV.scal, PV.scalL, if_true, Bool.and_true, Bool.and_false, Bool.false_and, Bool.true_and, frz, List.map_nil, Bool.false_eq_true, if_false, ite_self]); ((with_reducible first | refine finA hC ?_ | refine finD hC ?_); clear hC C)) | ((with_reducible first | refine aops_cons' fun C hC => ?_ | refine aopsD_cons' fun C hC => ?_ | intro C hC); simp only [go_sem]; ((with_reducible first | refine finA hC ?_ | refine finD hC ?_); clear hC C)) | (with_reducible first | refine awp_seq_k fun K hK => ?_ | refine awp_reg_k fun K hK => ?_ | refine awp_dreg_k fun K hK => ?_ | (refine aops_nil ?_; refine hK _ _ ?_; try clear hK K) | (refine aopsD_nil ?_; refine hK _ _ _ ?_ ?_; (focus kernel_rfl); try clear hK K) | (refine thn_normal ?_; refine hK _ _ ?_; try clear hK K) | refine catch_normal ?_ | refine awp_skip_k ?_ | refine awp_ret_k ?_ | refine awp_exit_k ?_ | refine awp_block_k ?_ | (refine thn_exit ?_; try clear hK K) | (refine thn_ret ?_; try clear hK K) | refine catch_ret ?_ | refine catch_exit ?_ | (refine catch_other ?_ ?_; focus decide)) | ((with_reducible first | apply aops_guard' | apply aopsD_guard' | apply awp_cond_g); focus (simp only [go_sem]; exact rfl)) | (with_reducible first | refine gk_tt ?_ | refine gk_ff ?_ | refine ck_t ?_ | refine ck_f ?_) | ((with_reducible first | refine gk_tf ?_ | refine gk_ft ?_ | refine gk_u ?_ | refine gk_u' ?_); first | (intro _ e; (first | rw [put_some] at e | rw [put_none] at e); subst e) | (intro _ _ e e'; (first | rw [put_some] at e | rw [put_none] at e); subst e; subst e'))))
  (refine retP_ret (List.range 40) rfl ?_; (try simp only [P2, if_true, if_false, Bool.false_eq_true, Bool.not_true, Bool.not_false]); exact vwA)
def KWl : List (List UInt8) := [[117, 115, 101], [112, 117, 98], [97, 115], [102, 110], [115, 116, 114, 117, 99, 116], [101, 110, 117, 109], [116, 114, 97, 105, 116], [105, 109, 112, 108], [102, 111, 114], [99, 111, 110, 115, 116], [109, 97, 99, 114, 111], [108, 101, 116], [109, 117, 116], [119, 104, 105, 108, 101], [114, 101, 116, 117, 114, 110], [109, 97, 116, 99, 104], [105, 102], [101, 108, 115, 101], [110, 101, 119], [116, 114, 117, 101], [102, 97, 108, 115, 101], [116, 121, 112, 101]]
theorem KW_eq : KW = KWl := by kernel_rfl
def PU : List (List UInt8) := [[58, 58], [61, 62], [45, 62], [61, 61], [38, 38], [124, 124], [40], [41], [123], [125], [91], [93], [60], [62], [44], [59], [58], [46], [61], [43], [45], [42], [47], [33], [38], [124]]
def cS (t : List UInt8) : List V := [.pv (sb t)]
theorem VwE_S {h : HF} {B : List Nat} : ∀ (xs : List (List UInt8)), VwE h B 1 (xs.map cS) (encS xs)
  | [] => .nil _
  | x :: xs => .cons _ _ _ _ _ rfl (.cons _ _ _ _ (.pv _) .nil) (VwE_S xs)
theorem ba_self (x : ByteArray) : (x == x) = true := by
  cases x with
  | mk d => show (d == d) = true; simp
structure TK where
  k : Int
  x : List UInt8
def TK.enc (t : TK) : PV := .agg [ii t.k, sb t.x]
def TK.tc (t : TK) : List V := [.pv (ii t.k), .pv (sb t.x)]
theorem pcells_tk (t : TK) : t.enc.cells = [ii t.k, sb t.x] := rfl
theorem cells_tk (t : TK) : (V.pv t.enc).cells? = some t.tc := rfl
def encK (ts : List TK) : List PV := ts.map TK.enc
theorem encK_len (xs : List TK) : (encK xs).length = xs.length := by simp [encK]
theorem encK_at (ts us : List TK) (t : TK) : (encK (ts ++ t :: us))[ts.length]? = some t.enc := by simp [encK]
end Go.Proofs.YtckjkdhmljfeeaaGreatDoor
/- The lexer's loops over a string. -/
set_option maxRecDepth 10000
set_option linter.unusedSimpArgs false
set_option linter.unusedVariables false
namespace Go.Proofs.YtckjkdhmljfeeaaGreatDoor
open Go Go.Ab
theorem getD_mid (pre rest : List UInt8) (c : UInt8) : (pre ++ c :: rest).getD pre.length 0 = c := by simp [List.getD_eq_getElem?_getD]
set_option maxHeartbeats 1000000 in
theorem scan_ok (fid : FuncId) (caps : List PV) (p : UInt8 → Bool) (hp : ∀ c, PCall Tryz.prog fid ([u8 c] ++ caps) (bb (p c))) (l : List UInt8) (k : Nat) (hk : k ≤ l.length) (hl : l.length ≤ 1048576) : PCall Tryz.prog 68 [sb l, ii k, .fn fid caps] (ii ((k + runL p (l.drop k) : Nat) : Int)) := by
  generalize hR : k + runL p (l.drop k) = R
  refine PCall.intro (ps := [ii R]) fn68 (by simp) ?_
  unfold ac68
  simp only [argFr]
  (repeat' (first | ((with_reducible first | refine aops_cons' fun C hC => ?_ | refine aopsD_cons' fun C hC => ?_ | intro C hC); simp only [go_sem]; ((with_reducible first | refine finA hC ?_ | refine finD hC ?_); clear hC C)) | (with_reducible first | refine awp_seq_k fun K hK => ?_ | refine awp_reg_k fun K hK => ?_ | refine awp_dreg_k fun K hK => ?_ | (refine aops_nil ?_; refine hK _ _ ?_; try clear hK K) | (refine aopsD_nil ?_; refine hK _ _ _ ?_ ?_; (focus kernel_rfl); try clear hK K) | (refine thn_normal ?_; refine hK _ _ ?_; try clear hK K) | refine catch_normal ?_ | refine awp_skip_k ?_ | refine awp_ret_k ?_ | refine awp_exit_k ?_ | refine awp_block_k ?_ | (refine thn_exit ?_; try clear hK K) | (refine thn_ret ?_; try clear hK K) | refine catch_ret ?_ | refine catch_exit ?_ | (refine catch_other ?_ ?_; focus decide)) | ((with_reducible first | apply aops_guard' | apply aopsD_guard' | apply awp_cond_g); focus (simp only [go_sem]; exact rfl)) | (with_reducible first | refine gk_tt ?_ | refine gk_ff ?_ | refine ck_t ?_ | refine ck_f ?_) | ((with_reducible first | refine gk_tf ?_ | refine gk_ft ?_ | refine gk_u ?_ | refine gk_u' ?_); first | (intro _ e; (first | rw [put_some] at e | rw [put_none] at e); subst e) | (intro _ _ e e'; (first | rw [put_some] at e | rw [put_none] at e); subst e; subst e'))))
  have rows : ∀ (rest pre : List UInt8), pre ++ rest = l → pre.length + runL p rest = R → loopN (awp Tryz.prog ac68_l0) (catch_ 0 (thn K (retP [RV.tmp 6] [ii R]))) (rest.length + 1)
     [(1, .pv (ii pre.length)), (2, .pv (.fn fid caps)), (0, .pv (sb l))] [] := by
    intro rest
    induction rest with
    | nil =>
      intro pre hpre hr
      have hpre : pre = l := by simpa using hpre
      have hlt : decide ((pre.length : Int) < (l.length : Int)) = false := by rw [hpre]; exact lt_end _
      simp only [runL, Nat.add_zero] at hr
      subst hr
      refine loopN_k fun K1 hK1 => ?_
      unfold ac68_l0
      (repeat' (first | ((with_reducible first | refine aops_cons' fun C hC => ?_ | refine aopsD_cons' fun C hC => ?_ | intro C hC); simp only [go_sem, hlt, sb_size]; ((with_reducible first | refine finA hC ?_ | refine finD hC ?_); clear hC C)) | (with_reducible first | refine awp_seq_k fun K hK => ?_ | refine awp_reg_k fun K hK => ?_ | refine awp_dreg_k fun K hK => ?_ | (refine aops_nil ?_; refine hK _ _ ?_; try clear hK K) | (refine aopsD_nil ?_; refine hK _ _ _ ?_ ?_; (focus kernel_rfl); try clear hK K) | (refine thn_normal ?_; refine hK _ _ ?_; try clear hK K) | refine catch_normal ?_ | refine awp_skip_k ?_ | refine awp_ret_k ?_ | refine awp_exit_k ?_ | refine awp_block_k ?_ | (refine thn_exit ?_; try clear hK K) | (refine thn_ret ?_; try clear hK K) | refine catch_ret ?_ | refine catch_exit ?_ | (refine catch_other ?_ ?_; focus decide)) | ((with_reducible first | apply aops_guard' | apply aopsD_guard' | apply awp_cond_g); focus (simp only [go_sem, hlt, sb_size]; exact rfl)) | (with_reducible first | refine gk_tt ?_ | refine gk_ff ?_ | refine ck_t ?_ | refine ck_f ?_) | ((with_reducible first | refine gk_tf ?_ | refine gk_ft ?_ | refine gk_u ?_ | refine gk_u' ?_); first | (intro _ e; (first | rw [put_some] at e | rw [put_none] at e); subst e) | (intro _ _ e e'; (first | rw [put_some] at e | rw [put_none] at e); subst e; subst e'))))
      (refine retP_ret (List.range 40) rfl ?_; exact vwA)
    | cons c rest ih =>
      intro pre hpre hr
      have hlt : decide ((pre.length : Int) < (l.length : Int)) = true := by rw [← hpre]; exact lt_app _ _ _
      have hk1 : pre.length < l.length := by rw [← hpre]; simp
      have hg : l.getD pre.length 0 = c := by rw [← hpre]; exact getD_mid _ _ _
      have hw := wrapS (n := pre.length) (by omega)
      have hc := hp c
      refine loopN_k fun K1 hK1 => ?_
      unfold ac68_l0
      cases hpc : p c with
      | false =>
        rw [hpc] at hc
        simp only [runL, hpc, Bool.false_eq_true, if_false, Nat.add_zero] at hr
        subst hr
        (repeat' (first | ((first | (with_reducible refine aops_call fun C hC => ?_) | (with_reducible refine aopsD_call fun C hC => ?_) | ((with_reducible intro C hC); (with_reducible refine ax_call_mp ?_))); (first | (simp only [go_sem, hlt, sb_size, sb_at, hk1, hg]; (first | ((with_reducible refine ACall.pure [] (.pv _) ?_ (hc) ?_); (focus (exact vwA)))))); (simp only [PV.scal, PV.scalL, if_true, Bool.and_true, Bool.and_false, Bool.false_and, Bool.true_and, frz, List.map_nil, Bool.false_eq_true, if_false, ite_self, hlt, sb_size, sb_at, hk1, hg]); ((with_reducible first | refine finA hC ?_ | refine finD hC ?_); clear hC C)) | ((with_reducible first | refine aops_cons' fun C hC => ?_ | refine aopsD_cons' fun C hC => ?_ | intro C hC); simp only [go_sem, hlt, sb_size, sb_at, hk1, hg]; ((with_reducible first | refine finA hC ?_ | refine finD hC ?_); clear hC C)) | (with_reducible first | refine awp_seq_k fun K hK => ?_ | refine awp_reg_k fun K hK => ?_ | refine awp_dreg_k fun K hK => ?_ | (refine aops_nil ?_; refine hK _ _ ?_; try clear hK K) | (refine aopsD_nil ?_; refine hK _ _ _ ?_ ?_; (focus kernel_rfl); try clear hK K) | (refine thn_normal ?_; refine hK _ _ ?_; try clear hK K) | refine catch_normal ?_ | refine awp_skip_k ?_ | refine awp_ret_k ?_ | refine awp_exit_k ?_ | refine awp_block_k ?_ | (refine thn_exit ?_; try clear hK K) | (refine thn_ret ?_; try clear hK K) | refine catch_ret ?_ | refine catch_exit ?_ | (refine catch_other ?_ ?_; focus decide)) | ((with_reducible first | apply aops_guard' | apply aopsD_guard' | apply awp_cond_g); focus (simp only [go_sem, hlt, sb_size, sb_at, hk1, hg]; exact rfl)) | (with_reducible first | refine gk_tt ?_ | refine gk_ff ?_ | refine ck_t ?_ | refine ck_f ?_) | ((with_reducible first | refine gk_tf ?_ | refine gk_ft ?_ | refine gk_u ?_ | refine gk_u' ?_); first | (intro _ e; (first | rw [put_some] at e | rw [put_none] at e); subst e) | (intro _ _ e e'; (first | rw [put_some] at e | rw [put_none] at e); subst e; subst e'))))
        (refine retP_ret (List.range 40) rfl ?_; exact vwA)
      | true =>
        rw [hpc] at hc
        simp only [runL, hpc, if_true] at hr
        (repeat' (first | ((first | (with_reducible refine aops_call fun C hC => ?_) | (with_reducible refine aopsD_call fun C hC => ?_) | ((with_reducible intro C hC); (with_reducible refine ax_call_mp ?_))); (first | (simp only [go_sem, hlt, sb_size, sb_at, hk1, hg]; (first | ((with_reducible refine ACall.pure [] (.pv _) ?_ (hc) ?_); (focus (exact vwA)))))); (simp only [PV.scal, PV.scalL, if_true, Bool.and_true, Bool.and_false, Bool.false_and, Bool.true_and, frz, List.map_nil, Bool.false_eq_true, if_false, ite_self, hlt, sb_size, sb_at, hk1, hg]); ((with_reducible first | refine finA hC ?_ | refine finD hC ?_); clear hC C)) | ((with_reducible first | refine aops_cons' fun C hC => ?_ | refine aopsD_cons' fun C hC => ?_ | intro C hC); simp only [go_sem, hlt, sb_size, sb_at, hk1, hg]; ((with_reducible first | refine finA hC ?_ | refine finD hC ?_); clear hC C)) | (with_reducible first | refine awp_seq_k fun K hK => ?_ | refine awp_reg_k fun K hK => ?_ | refine awp_dreg_k fun K hK => ?_ | (refine aops_nil ?_; refine hK _ _ ?_; try clear hK K) | (refine aopsD_nil ?_; refine hK _ _ _ ?_ ?_; (focus kernel_rfl); try clear hK K) | (refine thn_normal ?_; refine hK _ _ ?_; try clear hK K) | refine catch_normal ?_ | refine awp_skip_k ?_ | refine awp_ret_k ?_ | refine awp_exit_k ?_ | refine awp_block_k ?_ | (refine thn_exit ?_; try clear hK K) | (refine thn_ret ?_; try clear hK K) | refine catch_ret ?_ | refine catch_exit ?_ | (refine catch_other ?_ ?_; focus decide)) | ((with_reducible first | apply aops_guard' | apply aopsD_guard' | apply awp_cond_g); focus (simp only [go_sem, hlt, sb_size, sb_at, hk1, hg]; exact rfl)) | (with_reducible first | refine gk_tt ?_ | refine gk_ff ?_ | refine ck_t ?_ | refine ck_f ?_) | ((with_reducible first | refine gk_tf ?_ | refine gk_ft ?_ | refine gk_u ?_ | refine gk_u' ?_); first | (intro _ e; (first | rw [put_some] at e | rw [put_none] at e); subst e) | (intro _ _ e e'; (first | rw [put_some] at e | rw [put_none] at e); subst e; subst e'))))
        refine thn_normal ?_
        refine hK1 _ _ _ _ _ (LeB [] (by refine ⟨?_, ?_, ?_⟩ <;> simp only [leFr, leFb, leHp, V.ren, V.renL, V.bd, V.bdL, allL, lt, Go.Ab.get, hget, List.map_cons, List.map_nil, List.length_cons, List.length_nil, List.length_append, List.getElem?_cons_zero, List.getElem?_cons_succ, List.getElem?_nil, Option.join_some, Option.join_none, List.getD_cons_zero, List.getD_cons_succ, List.getD_nil, Nat.reduceAdd, Nat.reduceLT, Nat.reduceEqDiff, Nat.zero_add, reduceIte, if_true, if_false, and_true, true_and, renL_vcells, allL_vcells, renL_pv, leBlk_some, eq_self, true_or, or_true, reduceCtorEq, false_or, hw, List.length_append])) (ih (pre ++ [c]) (by simp [hpre]) (by simp; omega))
  have h0 := rows (l.drop k) (l.take k) (List.take_append_drop _ _) (by rw [List.length_take, Nat.min_eq_left hk]; exact hR)
  rw [List.length_take, Nat.min_eq_left hk] at h0
  refine awp_loop_k _ (LeB [] (by refine ⟨?_, ?_, ?_⟩ <;> simp only [leFr, leFb, leHp, V.ren, V.renL, V.bd, V.bdL, allL, lt, Go.Ab.get, hget, List.map_cons, List.map_nil, List.length_cons, List.length_nil, List.length_append, List.getElem?_cons_zero, List.getElem?_cons_succ, List.getElem?_nil, Option.join_some, Option.join_none, List.getD_cons_zero, List.getD_cons_succ, List.getD_nil, Nat.reduceAdd, Nat.reduceLT, Nat.reduceEqDiff, Nat.zero_add, reduceIte, if_true, if_false, and_true, true_and, renL_vcells, allL_vcells, renL_pv, leBlk_some, eq_self, true_or, or_true, reduceCtorEq, false_or, c0])) h0
-- run
def sp4 (c : UInt8) : Bool := if (c.toNat : Int) == 32 then true else if (c.toNat : Int) == 9 then true else if (c.toNat : Int) == 10 then true else (c.toNat : Int) == 13
end Go.Proofs.YtckjkdhmljfeeaaGreatDoor
/- String literals. -/
set_option maxRecDepth 10000
set_option linter.unusedSimpArgs false
set_option linter.unusedVariables false
namespace Go.Proofs.YtckjkdhmljfeeaaGreatDoor
open Go Go.Ab
set_option maxHeartbeats 2000000 in
theorem scanStr_ok (l : List UInt8) (h0 : l ≠ []) (hl : l.length ≤ 1048576) : PCall Tryz.prog 76 [sb l] (.tup [ii (strP l).1, ii (strP l).2]) := by
  have hsc := scan_ok 111 [] nlB nl2_ok l 1 (by cases l with | nil => exact absurd rfl h0 | cons a t => simp) hl
  generalize hR : strP l = R
  unfold strP at hR
  obtain ⟨a, t, rfl⟩ : ∃ a t, l = a :: t := by
    cases l with
    | nil => exact absurd rfl h0
    | cons a t => exact ⟨a, t, rfl⟩
  refine PCall.intro (ps := [ii R.1, ii R.2]) fn76 (by simp) ?_
  unfold ac76
  simp only [argFr]
  have hd : (a :: t).drop 1 = t := rfl
  rw [hd] at hR hsc
  generalize hll : a :: t = l at hl hsc
  (repeat' (first | ((with_reducible first | refine aops_cons' fun C hC => ?_ | refine aopsD_cons' fun C hC => ?_ | intro C hC); simp only [go_sem]; ((with_reducible first | refine finA hC ?_ | refine finD hC ?_); clear hC C)) | (with_reducible first | refine awp_seq_k fun K hK => ?_ | refine awp_reg_k fun K hK => ?_ | refine awp_dreg_k fun K hK => ?_ | (refine aops_nil ?_; refine hK _ _ ?_; try clear hK K) | (refine aopsD_nil ?_; refine hK _ _ _ ?_ ?_; (focus kernel_rfl); try clear hK K) | (refine thn_normal ?_; refine hK _ _ ?_; try clear hK K) | refine catch_normal ?_ | refine awp_skip_k ?_ | refine awp_ret_k ?_ | refine awp_exit_k ?_ | refine awp_block_k ?_ | (refine thn_exit ?_; try clear hK K) | (refine thn_ret ?_; try clear hK K) | refine catch_ret ?_ | refine catch_exit ?_ | (refine catch_other ?_ ?_; focus decide)) | ((with_reducible first | apply aops_guard' | apply aopsD_guard' | apply awp_cond_g); focus (simp only [go_sem]; exact rfl)) | (with_reducible first | refine gk_tt ?_ | refine gk_ff ?_ | refine ck_t ?_ | refine ck_f ?_) | ((with_reducible first | refine gk_tf ?_ | refine gk_ft ?_ | refine gk_u ?_ | refine gk_u' ?_); first | (intro _ e; (first | rw [put_some] at e | rw [put_none] at e); subst e) | (intro _ _ e e'; (first | rw [put_some] at e | rw [put_none] at e); subst e; subst e'))))
  have rows : ∀ (n : Nat) (rest pre : List UInt8), rest.length ≤ n → pre ++ rest = l → litG t 1 = litG rest pre.length → loopN (awp Tryz.prog ac76_l0) (catch_ 0 (thn K (retP [RV.tmp 2, RV.tmp 3] [ii R.1, ii R.2]))) (n + 1)
     [(4, .pv (ii pre.length)), (0, .pv (sb l))] [] := by
    intro n
    induction n with
    | zero =>
      intro rest pre hn hpre hr
      obtain rfl : rest = [] := by cases rest with
        | nil => rfl
        | cons c r => simp at hn
      have hpre : pre = l := by simpa using hpre
      have hlt : decide ((pre.length : Int) < (l.length : Int)) = false := by rw [hpre]; exact lt_end _
      rw [hr] at hR
      simp only [litG, Nat.lt_irrefl, gt_iff_lt, decide_false, Bool.false_eq_true, if_false] at hR
      subst hR
      refine loopN_k fun K1 hK1 => ?_
      unfold ac76_l0
      (repeat' (first | ((first | (with_reducible refine aops_call fun C hC => ?_) | (with_reducible refine aopsD_call fun C hC => ?_) | ((with_reducible intro C hC); (with_reducible refine ax_call_mp ?_))); (first | (simp only [go_sem, hlt, sb_size]; (first | ((with_reducible apply ACall.pure0 [] (hsc)); (focus (exact vwA)))))); (simp only [PV.scal, PV.scalL, if_true, Bool.and_true, Bool.and_false, Bool.false_and, Bool.true_and, frz, List.map_nil, Bool.false_eq_true, if_false, ite_self, hlt, sb_size]); ((with_reducible first | refine finA hC ?_ | refine finD hC ?_); clear hC C)) | ((with_reducible first | refine aops_cons' fun C hC => ?_ | refine aopsD_cons' fun C hC => ?_ | intro C hC); simp only [go_sem, hlt, sb_size]; ((with_reducible first | refine finA hC ?_ | refine finD hC ?_); clear hC C)) | (with_reducible first | refine awp_seq_k fun K hK => ?_ | refine awp_reg_k fun K hK => ?_ | refine awp_dreg_k fun K hK => ?_ | (refine aops_nil ?_; refine hK _ _ ?_; try clear hK K) | (refine aopsD_nil ?_; refine hK _ _ _ ?_ ?_; (focus kernel_rfl); try clear hK K) | (refine thn_normal ?_; refine hK _ _ ?_; try clear hK K) | refine catch_normal ?_ | refine awp_skip_k ?_ | refine awp_ret_k ?_ | refine awp_exit_k ?_ | refine awp_block_k ?_ | (refine thn_exit ?_; try clear hK K) | (refine thn_ret ?_; try clear hK K) | refine catch_ret ?_ | refine catch_exit ?_ | (refine catch_other ?_ ?_; focus decide)) | ((with_reducible first | apply aops_guard' | apply aopsD_guard' | apply awp_cond_g); focus (simp only [go_sem, hlt, sb_size]; exact rfl)) | (with_reducible first | refine gk_tt ?_ | refine gk_ff ?_ | refine ck_t ?_ | refine ck_f ?_) | ((with_reducible first | refine gk_tf ?_ | refine gk_ft ?_ | refine gk_u ?_ | refine gk_u' ?_); first | (intro _ e; (first | rw [put_some] at e | rw [put_none] at e); subst e) | (intro _ _ e e'; (first | rw [put_some] at e | rw [put_none] at e); subst e; subst e'))))
      (refine retP_ret (List.range 40) rfl ?_; exact vwA)
    | succ n ih =>
      intro rest pre hn hpre hr
      cases rest with
      | nil =>
        have hpre : pre = l := by simpa using hpre
        have hlt : decide ((pre.length : Int) < (l.length : Int)) = false := by rw [hpre]; exact lt_end _
        rw [hr] at hR
        simp only [litG, Nat.lt_irrefl, gt_iff_lt, decide_false, Bool.false_eq_true, if_false] at hR
        subst hR
        refine loopN_k fun K1 hK1 => ?_
        unfold ac76_l0
        (repeat' (first | ((first | (with_reducible refine aops_call fun C hC => ?_) | (with_reducible refine aopsD_call fun C hC => ?_) | ((with_reducible intro C hC); (with_reducible refine ax_call_mp ?_))); (first | (simp only [go_sem, hlt, sb_size]; (first | ((with_reducible apply ACall.pure0 [] (hsc)); (focus (exact vwA)))))); (simp only [PV.scal, PV.scalL, if_true, Bool.and_true, Bool.and_false, Bool.false_and, Bool.true_and, frz, List.map_nil, Bool.false_eq_true, if_false, ite_self, hlt, sb_size]); ((with_reducible first | refine finA hC ?_ | refine finD hC ?_); clear hC C)) | ((with_reducible first | refine aops_cons' fun C hC => ?_ | refine aopsD_cons' fun C hC => ?_ | intro C hC); simp only [go_sem, hlt, sb_size]; ((with_reducible first | refine finA hC ?_ | refine finD hC ?_); clear hC C)) | (with_reducible first | refine awp_seq_k fun K hK => ?_ | refine awp_reg_k fun K hK => ?_ | refine awp_dreg_k fun K hK => ?_ | (refine aops_nil ?_; refine hK _ _ ?_; try clear hK K) | (refine aopsD_nil ?_; refine hK _ _ _ ?_ ?_; (focus kernel_rfl); try clear hK K) | (refine thn_normal ?_; refine hK _ _ ?_; try clear hK K) | refine catch_normal ?_ | refine awp_skip_k ?_ | refine awp_ret_k ?_ | refine awp_exit_k ?_ | refine awp_block_k ?_ | (refine thn_exit ?_; try clear hK K) | (refine thn_ret ?_; try clear hK K) | refine catch_ret ?_ | refine catch_exit ?_ | (refine catch_other ?_ ?_; focus decide)) | ((with_reducible first | apply aops_guard' | apply aopsD_guard' | apply awp_cond_g); focus (simp only [go_sem, hlt, sb_size]; exact rfl)) | (with_reducible first | refine gk_tt ?_ | refine gk_ff ?_ | refine ck_t ?_ | refine ck_f ?_) | ((with_reducible first | refine gk_tf ?_ | refine gk_ft ?_ | refine gk_u ?_ | refine gk_u' ?_); first | (intro _ e; (first | rw [put_some] at e | rw [put_none] at e); subst e) | (intro _ _ e e'; (first | rw [put_some] at e | rw [put_none] at e); subst e; subst e'))))
        (refine retP_ret (List.range 40) rfl ?_; exact vwA)
      | cons c rest =>
        have hlt : decide ((pre.length : Int) < (l.length : Int)) = true := by rw [← hpre]; exact lt_app _ _ _
        have hk1 : pre.length < l.length := by rw [← hpre]; simp
        have hg : l.getD pre.length 0 = c := by rw [← hpre]; exact getD_mid _ _ _
        have hw := wrapS (n := pre.length) (by omega)
        have hw2 := wrapS (n := pre.length + 1) (by omega)
        have hll2 : l.length = pre.length + (rest.length + 1) := by rw [← hpre]; simp
        have hpre2 : (pre ++ [c]) ++ rest = l := by simp [hpre]
        simp only [List.length_cons] at hn
        refine loopN_k fun K1 hK1 => ?_
        unfold ac76_l0
        cases h10 : ((c.toNat : Int) != 10) with
        | false =>
          have e : litG (c :: rest) pre.length = 0 := by cases rest <;> simp [litG, h10]
          rw [hr, e] at hR
          simp only [Nat.lt_irrefl, gt_iff_lt, decide_false, Bool.false_eq_true, if_false] at hR
          subst hR
          (repeat' (first | ((first | (with_reducible refine aops_call fun C hC => ?_) | (with_reducible refine aopsD_call fun C hC => ?_) | ((with_reducible intro C hC); (with_reducible refine ax_call_mp ?_))); (first | (simp only [go_sem, hlt, sb_size, sb_at, hk1, hg, h10]; (first | ((with_reducible apply ACall.pure0 [] (hsc)); (focus (exact vwA)))))); (simp only [PV.scal, PV.scalL, if_true, Bool.and_true, Bool.and_false, Bool.false_and, Bool.true_and, frz, List.map_nil, Bool.false_eq_true, if_false, ite_self, hlt, sb_size, sb_at, hk1, hg, h10]); ((with_reducible first | refine finA hC ?_ | refine finD hC ?_); clear hC C)) | ((with_reducible first | refine aops_cons' fun C hC => ?_ | refine aopsD_cons' fun C hC => ?_ | intro C hC); simp only [go_sem, hlt, sb_size, sb_at, hk1, hg, h10]; ((with_reducible first | refine finA hC ?_ | refine finD hC ?_); clear hC C)) | (with_reducible first | refine awp_seq_k fun K hK => ?_ | refine awp_reg_k fun K hK => ?_ | refine awp_dreg_k fun K hK => ?_ | (refine aops_nil ?_; refine hK _ _ ?_; try clear hK K) | (refine aopsD_nil ?_; refine hK _ _ _ ?_ ?_; (focus kernel_rfl); try clear hK K) | (refine thn_normal ?_; refine hK _ _ ?_; try clear hK K) | refine catch_normal ?_ | refine awp_skip_k ?_ | refine awp_ret_k ?_ | refine awp_exit_k ?_ | refine awp_block_k ?_ | (refine thn_exit ?_; try clear hK K) | (refine thn_ret ?_; try clear hK K) | refine catch_ret ?_ | refine catch_exit ?_ | (refine catch_other ?_ ?_; focus decide)) | ((with_reducible first | apply aops_guard' | apply aopsD_guard' | apply awp_cond_g); focus (simp only [go_sem, hlt, sb_size, sb_at, hk1, hg, h10]; exact rfl)) | (with_reducible first | refine gk_tt ?_ | refine gk_ff ?_ | refine ck_t ?_ | refine ck_f ?_) | ((with_reducible first | refine gk_tf ?_ | refine gk_ft ?_ | refine gk_u ?_ | refine gk_u' ?_); first | (intro _ e; (first | rw [put_some] at e | rw [put_none] at e); subst e) | (intro _ _ e e'; (first | rw [put_some] at e | rw [put_none] at e); subst e; subst e'))))
          (refine retP_ret (List.range 40) rfl ?_; exact vwA)
        | true =>
          cases h34 : ((c.toNat : Int) == 34) with
          | true =>
            have e : litG (c :: rest) pre.length = pre.length + 1 := by cases rest <;> simp [litG, h10, h34]
            rw [hr, e] at hR
            simp only [gt_iff_lt, Nat.zero_lt_succ, decide_true, if_true] at hR
            subst hR
            (repeat' (first | ((with_reducible first | refine aops_cons' fun C hC => ?_ | refine aopsD_cons' fun C hC => ?_ | intro C hC); simp only [go_sem, hlt, sb_size, sb_at, hk1, hg, h10, h34, hw]; ((with_reducible first | refine finA hC ?_ | refine finD hC ?_); clear hC C)) | (with_reducible first | refine awp_seq_k fun K hK => ?_ | refine awp_reg_k fun K hK => ?_ | refine awp_dreg_k fun K hK => ?_ | (refine aops_nil ?_; refine hK _ _ ?_; try clear hK K) | (refine aopsD_nil ?_; refine hK _ _ _ ?_ ?_; (focus kernel_rfl); try clear hK K) | (refine thn_normal ?_; refine hK _ _ ?_; try clear hK K) | refine catch_normal ?_ | refine awp_skip_k ?_ | refine awp_ret_k ?_ | refine awp_exit_k ?_ | refine awp_block_k ?_ | (refine thn_exit ?_; try clear hK K) | (refine thn_ret ?_; try clear hK K) | refine catch_ret ?_ | refine catch_exit ?_ | (refine catch_other ?_ ?_; focus decide)) | ((with_reducible first | apply aops_guard' | apply aopsD_guard' | apply awp_cond_g); focus (simp only [go_sem, hlt, sb_size, sb_at, hk1, hg, h10, h34, hw]; exact rfl)) | (with_reducible first | refine gk_tt ?_ | refine gk_ff ?_ | refine ck_t ?_ | refine ck_f ?_) | ((with_reducible first | refine gk_tf ?_ | refine gk_ft ?_ | refine gk_u ?_ | refine gk_u' ?_); first | (intro _ e; (first | rw [put_some] at e | rw [put_none] at e); subst e) | (intro _ _ e e'; (first | rw [put_some] at e | rw [put_none] at e); subst e; subst e'))))
            (refine retP_ret (List.range 40) rfl ?_; exact vwA)
          | false =>
            cases h92 : ((c.toNat : Int) == 92) with
            | false =>
              have e : litG (c :: rest) pre.length = litG rest (pre ++ [c]).length := by cases rest <;> simp [litG, h10, h34, h92]
              (repeat' (first | ((with_reducible first | refine aops_cons' fun C hC => ?_ | refine aopsD_cons' fun C hC => ?_ | intro C hC); simp only [go_sem, hlt, sb_size, sb_at, hk1, hg, h10, h34, h92]; ((with_reducible first | refine finA hC ?_ | refine finD hC ?_); clear hC C)) | (with_reducible first | refine awp_seq_k fun K hK => ?_ | refine awp_reg_k fun K hK => ?_ | refine awp_dreg_k fun K hK => ?_ | (refine aops_nil ?_; refine hK _ _ ?_; try clear hK K) | (refine aopsD_nil ?_; refine hK _ _ _ ?_ ?_; (focus kernel_rfl); try clear hK K) | (refine thn_normal ?_; refine hK _ _ ?_; try clear hK K) | refine catch_normal ?_ | refine awp_skip_k ?_ | refine awp_ret_k ?_ | refine awp_exit_k ?_ | refine awp_block_k ?_ | (refine thn_exit ?_; try clear hK K) | (refine thn_ret ?_; try clear hK K) | refine catch_ret ?_ | refine catch_exit ?_ | (refine catch_other ?_ ?_; focus decide)) | ((with_reducible first | apply aops_guard' | apply aopsD_guard' | apply awp_cond_g); focus (simp only [go_sem, hlt, sb_size, sb_at, hk1, hg, h10, h34, h92]; exact rfl)) | (with_reducible first | refine gk_tt ?_ | refine gk_ff ?_ | refine ck_t ?_ | refine ck_f ?_) | ((with_reducible first | refine gk_tf ?_ | refine gk_ft ?_ | refine gk_u ?_ | refine gk_u' ?_); first | (intro _ e; (first | rw [put_some] at e | rw [put_none] at e); subst e) | (intro _ _ e e'; (first | rw [put_some] at e | rw [put_none] at e); subst e; subst e'))))
              refine thn_normal ?_
              refine hK1 _ _ _ _ _ (LeB [] (by refine ⟨?_, ?_, ?_⟩ <;> simp only [leFr, leFb, leHp, V.ren, V.renL, V.bd, V.bdL, allL, lt, Go.Ab.get, hget, List.map_cons, List.map_nil, List.length_cons, List.length_nil, List.length_append, List.getElem?_cons_zero, List.getElem?_cons_succ, List.getElem?_nil, Option.join_some, Option.join_none, List.getD_cons_zero, List.getD_cons_succ, List.getD_nil, Nat.reduceAdd, Nat.reduceLT, Nat.reduceEqDiff, Nat.zero_add, reduceIte, if_true, if_false, and_true, true_and, renL_vcells, allL_vcells, renL_pv, leBlk_some, eq_self, true_or, or_true, reduceCtorEq, false_or, hw, List.length_append])) (ih rest (pre ++ [c]) (by omega) hpre2 (hr.trans e))
            | true =>
              cases rest with
              | nil =>
                have hlt2 : decide (((pre.length + 1 : Nat) : Int) < (l.length : Int)) = false := decide_eq_false (by rw [hll2]; simp)
                have e : litG [c] pre.length = litG [] (pre ++ [c]).length := by simp [litG, h10, h34]
                (repeat' (first | ((with_reducible first | refine aops_cons' fun C hC => ?_ | refine aopsD_cons' fun C hC => ?_ | intro C hC); simp only [go_sem, hlt, sb_size, sb_at, hk1, hg, h10, h34, h92, hw, hlt2]; ((with_reducible first | refine finA hC ?_ | refine finD hC ?_); clear hC C)) | (with_reducible first | refine awp_seq_k fun K hK => ?_ | refine awp_reg_k fun K hK => ?_ | refine awp_dreg_k fun K hK => ?_ | (refine aops_nil ?_; refine hK _ _ ?_; try clear hK K) | (refine aopsD_nil ?_; refine hK _ _ _ ?_ ?_; (focus kernel_rfl); try clear hK K) | (refine thn_normal ?_; refine hK _ _ ?_; try clear hK K) | refine catch_normal ?_ | refine awp_skip_k ?_ | refine awp_ret_k ?_ | refine awp_exit_k ?_ | refine awp_block_k ?_ | (refine thn_exit ?_; try clear hK K) | (refine thn_ret ?_; try clear hK K) | refine catch_ret ?_ | refine catch_exit ?_ | (refine catch_other ?_ ?_; focus decide)) | ((with_reducible first | apply aops_guard' | apply aopsD_guard' | apply awp_cond_g); focus (simp only [go_sem, hlt, sb_size, sb_at, hk1, hg, h10, h34, h92, hw, hlt2]; exact rfl)) | (with_reducible first | refine gk_tt ?_ | refine gk_ff ?_ | refine ck_t ?_ | refine ck_f ?_) | ((with_reducible first | refine gk_tf ?_ | refine gk_ft ?_ | refine gk_u ?_ | refine gk_u' ?_); first | (intro _ e; (first | rw [put_some] at e | rw [put_none] at e); subst e) | (intro _ _ e e'; (first | rw [put_some] at e | rw [put_none] at e); subst e; subst e'))))
                refine thn_normal ?_
                refine hK1 _ _ _ _ _ (LeB [] (by refine ⟨?_, ?_, ?_⟩ <;> simp only [leFr, leFb, leHp, V.ren, V.renL, V.bd, V.bdL, allL, lt, Go.Ab.get, hget, List.map_cons, List.map_nil, List.length_cons, List.length_nil, List.length_append, List.getElem?_cons_zero, List.getElem?_cons_succ, List.getElem?_nil, Option.join_some, Option.join_none, List.getD_cons_zero, List.getD_cons_succ, List.getD_nil, Nat.reduceAdd, Nat.reduceLT, Nat.reduceEqDiff, Nat.zero_add, reduceIte, if_true, if_false, and_true, true_and, renL_vcells, allL_vcells, renL_pv, leBlk_some, eq_self, true_or, or_true, reduceCtorEq, false_or, hw, List.length_append])) (ih [] (pre ++ [c]) (by simp) hpre2 (hr.trans e))
              | cons d r =>
                have hlt2 : decide (((pre.length + 1 : Nat) : Int) < (l.length : Int)) = true := decide_eq_true (by rw [hll2]; simp; omega)
                have hk2 : pre.length + 1 < l.length := by rw [hll2]; simp
                have hg2 : l.getD (pre.length + 1) 0 = d := by
                  have := getD_mid (pre ++ [c]) r d
                  rw [hpre2] at this
                  simpa using this
                cases hd10 : ((d.toNat : Int) != 10) with
                | false =>
                  have e : litG (c :: d :: r) pre.length = litG (d :: r) (pre ++ [c]).length := by
                    have : litG (d :: r) (pre ++ [c]).length = 0 := by cases r <;> simp [litG, hd10]
                    rw [this]; simp [litG, h10, h34, h92, hd10]
                  (repeat' (first | ((with_reducible first | refine aops_cons' fun C hC => ?_ | refine aopsD_cons' fun C hC => ?_ | intro C hC); simp only [go_sem, hlt, sb_size, sb_at, hk1, hg, h10, h34, h92, hw, hlt2, hk2, hg2, hd10]; ((with_reducible first | refine finA hC ?_ | refine finD hC ?_); clear hC C)) | (with_reducible first | refine awp_seq_k fun K hK => ?_ | refine awp_reg_k fun K hK => ?_ | refine awp_dreg_k fun K hK => ?_ | (refine aops_nil ?_; refine hK _ _ ?_; try clear hK K) | (refine aopsD_nil ?_; refine hK _ _ _ ?_ ?_; (focus kernel_rfl); try clear hK K) | (refine thn_normal ?_; refine hK _ _ ?_; try clear hK K) | refine catch_normal ?_ | refine awp_skip_k ?_ | refine awp_ret_k ?_ | refine awp_exit_k ?_ | refine awp_block_k ?_ | (refine thn_exit ?_; try clear hK K) | (refine thn_ret ?_; try clear hK K) | refine catch_ret ?_ | refine catch_exit ?_ | (refine catch_other ?_ ?_; focus decide)) | ((with_reducible first | apply aops_guard' | apply aopsD_guard' | apply awp_cond_g); focus (simp only [go_sem, hlt, sb_size, sb_at, hk1, hg, h10, h34, h92, hw, hlt2, hk2, hg2, hd10]; exact rfl)) | (with_reducible first | refine gk_tt ?_ | refine gk_ff ?_ | refine ck_t ?_ | refine ck_f ?_) | ((with_reducible first | refine gk_tf ?_ | refine gk_ft ?_ | refine gk_u ?_ | refine gk_u' ?_); first | (intro _ e; (first | rw [put_some] at e | rw [put_none] at e); subst e) | (intro _ _ e e'; (first | rw [put_some] at e | rw [put_none] at e); subst e; subst e'))))
                  refine thn_normal ?_
                  refine hK1 _ _ _ _ _ (LeB [] (by refine ⟨?_, ?_, ?_⟩ <;> simp only [leFr, leFb, leHp, V.ren, V.renL, V.bd, V.bdL, allL, lt, Go.Ab.get, hget, List.map_cons, List.map_nil, List.length_cons, List.length_nil, List.length_append, List.getElem?_cons_zero, List.getElem?_cons_succ, List.getElem?_nil, Option.join_some, Option.join_none, List.getD_cons_zero, List.getD_cons_succ, List.getD_nil, Nat.reduceAdd, Nat.reduceLT, Nat.reduceEqDiff, Nat.zero_add, reduceIte, if_true, if_false, and_true, true_and, renL_vcells, allL_vcells, renL_pv, leBlk_some, eq_self, true_or, or_true, reduceCtorEq, false_or, hw, List.length_append])) (ih (d :: r) (pre ++ [c]) (by omega) hpre2 (hr.trans e))
                | true =>
                  have e : litG (c :: d :: r) pre.length = litG r (pre ++ [c, d]).length := by simp [litG, h10, h34, h92, hd10]
                  (repeat' (first | ((with_reducible first | refine aops_cons' fun C hC => ?_ | refine aopsD_cons' fun C hC => ?_ | intro C hC); simp only [go_sem, hlt, sb_size, sb_at, hk1, hg, h10, h34, h92, hw, hlt2, hk2, hg2, hd10, hw2]; ((with_reducible first | refine finA hC ?_ | refine finD hC ?_); clear hC C)) | (with_reducible first | refine awp_seq_k fun K hK => ?_ | refine awp_reg_k fun K hK => ?_ | refine awp_dreg_k fun K hK => ?_ | (refine aops_nil ?_; refine hK _ _ ?_; try clear hK K) | (refine aopsD_nil ?_; refine hK _ _ _ ?_ ?_; (focus kernel_rfl); try clear hK K) | (refine thn_normal ?_; refine hK _ _ ?_; try clear hK K) | refine catch_normal ?_ | refine awp_skip_k ?_ | refine awp_ret_k ?_ | refine awp_exit_k ?_ | refine awp_block_k ?_ | (refine thn_exit ?_; try clear hK K) | (refine thn_ret ?_; try clear hK K) | refine catch_ret ?_ | refine catch_exit ?_ | (refine catch_other ?_ ?_; focus decide)) | ((with_reducible first | apply aops_guard' | apply aopsD_guard' | apply awp_cond_g); focus (simp only [go_sem, hlt, sb_size, sb_at, hk1, hg, h10, h34, h92, hw, hlt2, hk2, hg2, hd10, hw2]; exact rfl)) | (with_reducible first | refine gk_tt ?_ | refine gk_ff ?_ | refine ck_t ?_ | refine ck_f ?_) | ((with_reducible first | refine gk_tf ?_ | refine gk_ft ?_ | refine gk_u ?_ | refine gk_u' ?_); first | (intro _ e; (first | rw [put_some] at e | rw [put_none] at e); subst e) | (intro _ _ e e'; (first | rw [put_some] at e | rw [put_none] at e); subst e; subst e'))))
                  refine thn_normal ?_
                  refine hK1 _ _ _ _ _ (LeB [] (by refine ⟨?_, ?_, ?_⟩ <;> simp only [leFr, leFb, leHp, V.ren, V.renL, V.bd, V.bdL, allL, lt, Go.Ab.get, hget, List.map_cons, List.map_nil, List.length_cons, List.length_nil, List.length_append, List.getElem?_cons_zero, List.getElem?_cons_succ, List.getElem?_nil, Option.join_some, Option.join_none, List.getD_cons_zero, List.getD_cons_succ, List.getD_nil, Nat.reduceAdd, Nat.reduceLT, Nat.reduceEqDiff, Nat.zero_add, reduceIte, if_true, if_false, and_true, true_and, renL_vcells, allL_vcells, renL_pv, leBlk_some, eq_self, true_or, or_true, reduceCtorEq, false_or, hw, hw2, List.length_append, List.length_cons, List.length_nil, Nat.zero_add, Nat.reduceAdd])) (ih r (pre ++ [c, d]) (by simp only [List.length_cons] at hn; omega) (by simp [← hpre]) (hr.trans e))
  have h1 := rows t.length t [a] (Nat.le_refl _) (by simp [hll]) rfl
  refine awp_loop_k _ (LeB [] (by refine ⟨?_, ?_, ?_⟩ <;> simp only [leFr, leFb, leHp, V.ren, V.renL, V.bd, V.bdL, allL, lt, Go.Ab.get, hget, List.map_cons, List.map_nil, List.length_cons, List.length_nil, List.length_append, List.getElem?_cons_zero, List.getElem?_cons_succ, List.getElem?_nil, Option.join_some, Option.join_none, List.getD_cons_zero, List.getD_cons_succ, List.getD_nil, Nat.reduceAdd, Nat.reduceLT, Nat.reduceEqDiff, Nat.zero_add, reduceIte, if_true, if_false, and_true, true_and, renL_vcells, allL_vcells, renL_pv, leBlk_some, eq_self, true_or, or_true, reduceCtorEq, false_or, c0, c1x, List.length_cons, List.length_nil, Nat.zero_add])) h1
end Go.Proofs.YtckjkdhmljfeeaaGreatDoor
/- The first token. -/
set_option maxRecDepth 10000
set_option linter.unusedSimpArgs false
set_option linter.unusedVariables false
namespace Go.Proofs.YtckjkdhmljfeeaaGreatDoor
open Go Go.Ab
set_option maxHeartbeats 4000000 in
theorem first_ok (l : List UInt8) (h0 : l ≠ []) (hl : l.length ≤ 1048576) : PCall Tryz.prog 32 [sb l] (.tup [ii (fstP l).1, ii (fstP l).2]) := by
  have hpos : 0 < l.length := by cases l with | nil => exact absurd rfl h0 | cons a t => simp
  have c1 := isSpace_ok (l.getD 0 0)
  have c2 := isLetter_ok (l.getD 0 0)
  have c3 := isDigit_ok (l.getD 0 0)
  have c4 := idxB_ok P1 (l.getD 0 0)
  rw [List.append_nil] at c1 c3
  have s1 := scan_ok 67 [] spB isSpace_ok l 0 (Nat.zero_le _) hl
  have s2 := scan_ok 70 [] nlB nl1_ok l 0 (Nat.zero_le _) hl
  have s3 := scan_ok 72 [] ldB ld_ok l 0 (Nat.zero_le _) hl
  have s4 := scan_ok 73 [] dgB isDigit_ok l 0 (Nat.zero_le _) hl
  rw [List.drop_zero, Nat.zero_add] at s1 s2 s3 s4
  have hp := pfx_ok l [47, 47]
  have hk := kw_ok
  have h2 := p2_ok
  have hst := scanStr_ok l h0 hl
  have hld := runL_le ldB l
  have hh := hasS_ok KW (l.take (runL ldB l))
  have hh2 := hasS_ok P2 (l.take 2)
  generalize hR : fstP l = R
  unfold fstP at hR
  refine PCall.intro (ps := [ii R.1, ii R.2]) fn32 (by simp) ?_
  unfold ac32
  simp only [argFr]
  generalize hc : l.getD 0 0 = c at *
  cases g1 : spB c with
  | true =>
    rw [g1] at c1 hR
    rw [if_pos rfl] at hR; subst hR
    (repeat' (first | ((first | (with_reducible refine aops_call fun C hC => ?_) | (with_reducible refine aopsD_call fun C hC => ?_) | ((with_reducible intro C hC); (with_reducible refine ax_call_mp ?_))); (first | (simp only [go_sem, sb_at, hpos, hc]; (first | ((with_reducible apply ACall.pure0 [] (c1)); (focus (exact vwA))) | ((with_reducible apply ACall.pure0 [] (s1)); (focus (exact vwA)))))); (simp only [PV.scal, PV.scalL, if_true, Bool.and_true, Bool.and_false, Bool.false_and, Bool.true_and, frz, List.map_nil, Bool.false_eq_true, if_false, ite_self, sb_at, hpos, hc]); ((with_reducible first | refine finA hC ?_ | refine finD hC ?_); clear hC C)) | ((with_reducible first | refine aops_cons' fun C hC => ?_ | refine aopsD_cons' fun C hC => ?_ | intro C hC); simp only [go_sem, sb_at, hpos, hc]; ((with_reducible first | refine finA hC ?_ | refine finD hC ?_); clear hC C)) | (with_reducible first | refine awp_seq_k fun K hK => ?_ | refine awp_reg_k fun K hK => ?_ | refine awp_dreg_k fun K hK => ?_ | (refine aops_nil ?_; refine hK _ _ ?_; try clear hK K) | (refine aopsD_nil ?_; refine hK _ _ _ ?_ ?_; (focus kernel_rfl); try clear hK K) | (refine thn_normal ?_; refine hK _ _ ?_; try clear hK K) | refine catch_normal ?_ | refine awp_skip_k ?_ | refine awp_ret_k ?_ | refine awp_exit_k ?_ | refine awp_block_k ?_ | (refine thn_exit ?_; try clear hK K) | (refine thn_ret ?_; try clear hK K) | refine catch_ret ?_ | refine catch_exit ?_ | (refine catch_other ?_ ?_; focus decide)) | ((with_reducible first | apply aops_guard' | apply aopsD_guard' | apply awp_cond_g); focus (simp only [go_sem, sb_at, hpos, hc]; exact rfl)) | (with_reducible first | refine gk_tt ?_ | refine gk_ff ?_ | refine ck_t ?_ | refine ck_f ?_) | ((with_reducible first | refine gk_tf ?_ | refine gk_ft ?_ | refine gk_u ?_ | refine gk_u' ?_); first | (intro _ e; (first | rw [put_some] at e | rw [put_none] at e); subst e) | (intro _ _ e e'; (first | rw [put_some] at e | rw [put_none] at e); subst e; subst e'))))
    (refine retP_ret (List.range 40) rfl ?_; exact vwA)
  | false =>
    rw [g1] at c1 hR
    rw [if_neg (by simp)] at hR
    cases g2 : pfx l [47, 47] with
    | true =>
      rw [g2] at hp hR
      rw [if_pos rfl] at hR; subst hR
      (repeat' (first | ((first | (with_reducible refine aops_call fun C hC => ?_) | (with_reducible refine aopsD_call fun C hC => ?_) | ((with_reducible intro C hC); (with_reducible refine ax_call_mp ?_))); (first | (simp only [go_sem, sb_at, hpos, hc]; (first | ((with_reducible apply ACall.pure0 [] (c1)); (focus (exact vwA))) | ((with_reducible apply ACall.pure0 [] (hp)); (focus (exact vwA))) | ((with_reducible apply ACall.pure0 [] (s2)); (focus (exact vwA)))))); (simp only [PV.scal, PV.scalL, if_true, Bool.and_true, Bool.and_false, Bool.false_and, Bool.true_and, frz, List.map_nil, Bool.false_eq_true, if_false, ite_self, sb_at, hpos, hc]); ((with_reducible first | refine finA hC ?_ | refine finD hC ?_); clear hC C)) | ((with_reducible first | refine aops_cons' fun C hC => ?_ | refine aopsD_cons' fun C hC => ?_ | intro C hC); simp only [go_sem, sb_at, hpos, hc]; ((with_reducible first | refine finA hC ?_ | refine finD hC ?_); clear hC C)) | (with_reducible first | refine awp_seq_k fun K hK => ?_ | refine awp_reg_k fun K hK => ?_ | refine awp_dreg_k fun K hK => ?_ | (refine aops_nil ?_; refine hK _ _ ?_; try clear hK K) | (refine aopsD_nil ?_; refine hK _ _ _ ?_ ?_; (focus kernel_rfl); try clear hK K) | (refine thn_normal ?_; refine hK _ _ ?_; try clear hK K) | refine catch_normal ?_ | refine awp_skip_k ?_ | refine awp_ret_k ?_ | refine awp_exit_k ?_ | refine awp_block_k ?_ | (refine thn_exit ?_; try clear hK K) | (refine thn_ret ?_; try clear hK K) | refine catch_ret ?_ | refine catch_exit ?_ | (refine catch_other ?_ ?_; focus decide)) | ((with_reducible first | apply aops_guard' | apply aopsD_guard' | apply awp_cond_g); focus (simp only [go_sem, sb_at, hpos, hc]; exact rfl)) | (with_reducible first | refine gk_tt ?_ | refine gk_ff ?_ | refine ck_t ?_ | refine ck_f ?_) | ((with_reducible first | refine gk_tf ?_ | refine gk_ft ?_ | refine gk_u ?_ | refine gk_u' ?_); first | (intro _ e; (first | rw [put_some] at e | rw [put_none] at e); subst e) | (intro _ _ e e'; (first | rw [put_some] at e | rw [put_none] at e); subst e; subst e'))))
      (refine retP_ret (List.range 40) rfl ?_; exact vwA)
    | false =>
      rw [g2] at hp hR
      rw [if_neg (by simp)] at hR
      cases g3 : ltB c with
      | true =>
        rw [g3] at c2 hR
        rw [if_pos rfl] at hR
        cases g4 : hasS KW (l.take (runL ldB l)) with
        | true =>
          rw [g4] at hh hR
          rw [if_pos rfl] at hR; subst hR
          (repeat' (first | ((first | (with_reducible refine aops_call fun C hC => ?_) | (with_reducible refine aopsD_call fun C hC => ?_) | ((with_reducible intro C hC); (with_reducible refine ax_call_mp ?_))); (first | (simp only [go_sem, sb_at, hpos, hc, sb_size, sb_take, hld, Nat.zero_le]; (first | ((with_reducible apply ACall.pure0 [] (c1)); (focus (exact vwA))) | ((with_reducible apply ACall.pure0 [] (hp)); (focus (exact vwA))) | ((with_reducible apply ACall.pure0 [] (c2)); (focus (exact vwA))) | ((with_reducible apply ACall.pure0 [] (s3)); (focus (exact vwA))) | ((with_reducible apply ACall.pure0 [] (hk)); (focus (exact vwA))) | ((with_reducible apply ACall.pure0 [] (hh)); (focus (exact vwA)))))); (simp only [PV.scal, PV.scalL, if_true, Bool.and_true, Bool.and_false, Bool.false_and, Bool.true_and, frz, List.map_nil, Bool.false_eq_true, if_false, ite_self, sb_at, hpos, hc, sb_size, sb_take, hld, Nat.zero_le]); ((with_reducible first | refine finA hC ?_ | refine finD hC ?_); clear hC C)) | ((with_reducible first | refine aops_cons' fun C hC => ?_ | refine aopsD_cons' fun C hC => ?_ | intro C hC); simp only [go_sem, sb_at, hpos, hc, sb_size, sb_take, hld, Nat.zero_le]; ((with_reducible first | refine finA hC ?_ | refine finD hC ?_); clear hC C)) | (with_reducible first | refine awp_seq_k fun K hK => ?_ | refine awp_reg_k fun K hK => ?_ | refine awp_dreg_k fun K hK => ?_ | (refine aops_nil ?_; refine hK _ _ ?_; try clear hK K) | (refine aopsD_nil ?_; refine hK _ _ _ ?_ ?_; (focus kernel_rfl); try clear hK K) | (refine thn_normal ?_; refine hK _ _ ?_; try clear hK K) | refine catch_normal ?_ | refine awp_skip_k ?_ | refine awp_ret_k ?_ | refine awp_exit_k ?_ | refine awp_block_k ?_ | (refine thn_exit ?_; try clear hK K) | (refine thn_ret ?_; try clear hK K) | refine catch_ret ?_ | refine catch_exit ?_ | (refine catch_other ?_ ?_; focus decide)) | ((with_reducible first | apply aops_guard' | apply aopsD_guard' | apply awp_cond_g); focus (simp only [go_sem, sb_at, hpos, hc, sb_size, sb_take, hld, Nat.zero_le]; exact rfl)) | (with_reducible first | refine gk_tt ?_ | refine gk_ff ?_ | refine ck_t ?_ | refine ck_f ?_) | ((with_reducible first | refine gk_tf ?_ | refine gk_ft ?_ | refine gk_u ?_ | refine gk_u' ?_); first | (intro _ e; (first | rw [put_some] at e | rw [put_none] at e); subst e) | (intro _ _ e e'; (first | rw [put_some] at e | rw [put_none] at e); subst e; subst e'))))
          (refine retP_ret (List.range 40) rfl ?_; exact vwA)
        | false =>
          rw [g4] at hh hR
          rw [if_neg (by simp)] at hR; subst hR
          (repeat' (first | ((first | (with_reducible refine aops_call fun C hC => ?_) | (with_reducible refine aopsD_call fun C hC => ?_) | ((with_reducible intro C hC); (with_reducible refine ax_call_mp ?_))); (first | (simp only [go_sem, sb_at, hpos, hc, sb_size, sb_take, hld, Nat.zero_le]; (first | ((with_reducible apply ACall.pure0 [] (c1)); (focus (exact vwA))) | ((with_reducible apply ACall.pure0 [] (hp)); (focus (exact vwA))) | ((with_reducible apply ACall.pure0 [] (c2)); (focus (exact vwA))) | ((with_reducible apply ACall.pure0 [] (s3)); (focus (exact vwA))) | ((with_reducible apply ACall.pure0 [] (hk)); (focus (exact vwA))) | ((with_reducible apply ACall.pure0 [] (hh)); (focus (exact vwA)))))); (simp only [PV.scal, PV.scalL, if_true, Bool.and_true, Bool.and_false, Bool.false_and, Bool.true_and, frz, List.map_nil, Bool.false_eq_true, if_false, ite_self, sb_at, hpos, hc, sb_size, sb_take, hld, Nat.zero_le]); ((with_reducible first | refine finA hC ?_ | refine finD hC ?_); clear hC C)) | ((with_reducible first | refine aops_cons' fun C hC => ?_ | refine aopsD_cons' fun C hC => ?_ | intro C hC); simp only [go_sem, sb_at, hpos, hc, sb_size, sb_take, hld, Nat.zero_le]; ((with_reducible first | refine finA hC ?_ | refine finD hC ?_); clear hC C)) | (with_reducible first | refine awp_seq_k fun K hK => ?_ | refine awp_reg_k fun K hK => ?_ | refine awp_dreg_k fun K hK => ?_ | (refine aops_nil ?_; refine hK _ _ ?_; try clear hK K) | (refine aopsD_nil ?_; refine hK _ _ _ ?_ ?_; (focus kernel_rfl); try clear hK K) | (refine thn_normal ?_; refine hK _ _ ?_; try clear hK K) | refine catch_normal ?_ | refine awp_skip_k ?_ | refine awp_ret_k ?_ | refine awp_exit_k ?_ | refine awp_block_k ?_ | (refine thn_exit ?_; try clear hK K) | (refine thn_ret ?_; try clear hK K) | refine catch_ret ?_ | refine catch_exit ?_ | (refine catch_other ?_ ?_; focus decide)) | ((with_reducible first | apply aops_guard' | apply aopsD_guard' | apply awp_cond_g); focus (simp only [go_sem, sb_at, hpos, hc, sb_size, sb_take, hld, Nat.zero_le]; exact rfl)) | (with_reducible first | refine gk_tt ?_ | refine gk_ff ?_ | refine ck_t ?_ | refine ck_f ?_) | ((with_reducible first | refine gk_tf ?_ | refine gk_ft ?_ | refine gk_u ?_ | refine gk_u' ?_); first | (intro _ e; (first | rw [put_some] at e | rw [put_none] at e); subst e) | (intro _ _ e e'; (first | rw [put_some] at e | rw [put_none] at e); subst e; subst e'))))
          (refine retP_ret (List.range 40) rfl ?_; exact vwA)
      | false =>
        rw [g3] at c2 hR
        rw [if_neg (by simp)] at hR
        cases g5 : dgB c with
        | true =>
          rw [g5] at c3 hR
          rw [if_pos rfl] at hR; subst hR
          (repeat' (first | ((first | (with_reducible refine aops_call fun C hC => ?_) | (with_reducible refine aopsD_call fun C hC => ?_) | ((with_reducible intro C hC); (with_reducible refine ax_call_mp ?_))); (first | (simp only [go_sem, sb_at, hpos, hc]; (first | ((with_reducible apply ACall.pure0 [] (c1)); (focus (exact vwA))) | ((with_reducible apply ACall.pure0 [] (hp)); (focus (exact vwA))) | ((with_reducible apply ACall.pure0 [] (c2)); (focus (exact vwA))) | ((with_reducible apply ACall.pure0 [] (c3)); (focus (exact vwA))) | ((with_reducible apply ACall.pure0 [] (s4)); (focus (exact vwA)))))); (simp only [PV.scal, PV.scalL, if_true, Bool.and_true, Bool.and_false, Bool.false_and, Bool.true_and, frz, List.map_nil, Bool.false_eq_true, if_false, ite_self, sb_at, hpos, hc]); ((with_reducible first | refine finA hC ?_ | refine finD hC ?_); clear hC C)) | ((with_reducible first | refine aops_cons' fun C hC => ?_ | refine aopsD_cons' fun C hC => ?_ | intro C hC); simp only [go_sem, sb_at, hpos, hc]; ((with_reducible first | refine finA hC ?_ | refine finD hC ?_); clear hC C)) | (with_reducible first | refine awp_seq_k fun K hK => ?_ | refine awp_reg_k fun K hK => ?_ | refine awp_dreg_k fun K hK => ?_ | (refine aops_nil ?_; refine hK _ _ ?_; try clear hK K) | (refine aopsD_nil ?_; refine hK _ _ _ ?_ ?_; (focus kernel_rfl); try clear hK K) | (refine thn_normal ?_; refine hK _ _ ?_; try clear hK K) | refine catch_normal ?_ | refine awp_skip_k ?_ | refine awp_ret_k ?_ | refine awp_exit_k ?_ | refine awp_block_k ?_ | (refine thn_exit ?_; try clear hK K) | (refine thn_ret ?_; try clear hK K) | refine catch_ret ?_ | refine catch_exit ?_ | (refine catch_other ?_ ?_; focus decide)) | ((with_reducible first | apply aops_guard' | apply aopsD_guard' | apply awp_cond_g); focus (simp only [go_sem, sb_at, hpos, hc]; exact rfl)) | (with_reducible first | refine gk_tt ?_ | refine gk_ff ?_ | refine ck_t ?_ | refine ck_f ?_) | ((with_reducible first | refine gk_tf ?_ | refine gk_ft ?_ | refine gk_u ?_ | refine gk_u' ?_); first | (intro _ e; (first | rw [put_some] at e | rw [put_none] at e); subst e) | (intro _ _ e e'; (first | rw [put_some] at e | rw [put_none] at e); subst e; subst e'))))
          (refine retP_ret (List.range 40) rfl ?_; exact vwA)
        | false =>
          rw [g5] at c3 hR
          rw [if_neg (by simp)] at hR
          cases g6 : ((c.toNat : Int) == 34) with
          | true =>
            rw [g6, if_pos rfl] at hR; subst hR
            (repeat' (first | ((first | (with_reducible refine aops_call fun C hC => ?_) | (with_reducible refine aopsD_call fun C hC => ?_) | ((with_reducible intro C hC); (with_reducible refine ax_call_mp ?_))); (first | (simp only [go_sem, sb_at, hpos, hc, g6]; (first | ((with_reducible apply ACall.pure0 [] (c1)); (focus (exact vwA))) | ((with_reducible apply ACall.pure0 [] (hp)); (focus (exact vwA))) | ((with_reducible apply ACall.pure0 [] (c2)); (focus (exact vwA))) | ((with_reducible apply ACall.pure0 [] (c3)); (focus (exact vwA))) | ((with_reducible apply ACall.pure0 [] (hst)); (focus (exact vwA)))))); (simp only [PV.scal, PV.scalL, if_true, Bool.and_true, Bool.and_false, Bool.false_and, Bool.true_and, frz, List.map_nil, Bool.false_eq_true, if_false, ite_self, sb_at, hpos, hc, g6]); ((with_reducible first | refine finA hC ?_ | refine finD hC ?_); clear hC C)) | ((with_reducible first | refine aops_cons' fun C hC => ?_ | refine aopsD_cons' fun C hC => ?_ | intro C hC); simp only [go_sem, sb_at, hpos, hc, g6]; ((with_reducible first | refine finA hC ?_ | refine finD hC ?_); clear hC C)) | (with_reducible first | refine awp_seq_k fun K hK => ?_ | refine awp_reg_k fun K hK => ?_ | refine awp_dreg_k fun K hK => ?_ | (refine aops_nil ?_; refine hK _ _ ?_; try clear hK K) | (refine aopsD_nil ?_; refine hK _ _ _ ?_ ?_; (focus kernel_rfl); try clear hK K) | (refine thn_normal ?_; refine hK _ _ ?_; try clear hK K) | refine catch_normal ?_ | refine awp_skip_k ?_ | refine awp_ret_k ?_ | refine awp_exit_k ?_ | refine awp_block_k ?_ | (refine thn_exit ?_; try clear hK K) | (refine thn_ret ?_; try clear hK K) | refine catch_ret ?_ | refine catch_exit ?_ | (refine catch_other ?_ ?_; focus decide)) | ((with_reducible first | apply aops_guard' | apply aopsD_guard' | apply awp_cond_g); focus (simp only [go_sem, sb_at, hpos, hc, g6]; exact rfl)) | (with_reducible first | refine gk_tt ?_ | refine gk_ff ?_ | refine ck_t ?_ | refine ck_f ?_) | ((with_reducible first | refine gk_tf ?_ | refine gk_ft ?_ | refine gk_u ?_ | refine gk_u' ?_); first | (intro _ e; (first | rw [put_some] at e | rw [put_none] at e); subst e) | (intro _ _ e e'; (first | rw [put_some] at e | rw [put_none] at e); subst e; subst e'))))
            (refine retP_ret (List.range 40) rfl ?_; exact vwA)
          | false =>
            rw [g6, if_neg (by simp)] at hR
            cases g7 : decide ((l.length : Int) > 1) with
            | false =>
              rw [g7] at hR
              rw [Bool.false_and, if_neg (by simp)] at hR
              cases g9 : decide (Go.Lib.indexByte P1 c ≥ 0) with
              | true =>
                rw [g9, if_pos rfl] at hR; subst hR
                (repeat' (first | ((first | (with_reducible refine aops_call fun C hC => ?_) | (with_reducible refine aopsD_call fun C hC => ?_) | ((with_reducible intro C hC); (with_reducible refine ax_call_mp ?_))); (first | (simp only [go_sem, sb_at, hpos, hc, g6, g7, g9, sb_size]; (first | ((with_reducible apply ACall.pure0 [] (c1)); (focus (exact vwA))) | ((with_reducible apply ACall.pure0 [] (hp)); (focus (exact vwA))) | ((with_reducible apply ACall.pure0 [] (c2)); (focus (exact vwA))) | ((with_reducible apply ACall.pure0 [] (c3)); (focus (exact vwA))) | ((with_reducible apply ACall.pure0 [] (c4)); (focus (exact vwA)))))); (simp only [PV.scal, PV.scalL, if_true, Bool.and_true, Bool.and_false, Bool.false_and, Bool.true_and, frz, List.map_nil, Bool.false_eq_true, if_false, ite_self, sb_at, hpos, hc, g6, g7, g9, sb_size]); ((with_reducible first | refine finA hC ?_ | refine finD hC ?_); clear hC C)) | ((with_reducible first | refine aops_cons' fun C hC => ?_ | refine aopsD_cons' fun C hC => ?_ | intro C hC); simp only [go_sem, sb_at, hpos, hc, g6, g7, g9, sb_size]; ((with_reducible first | refine finA hC ?_ | refine finD hC ?_); clear hC C)) | (with_reducible first | refine awp_seq_k fun K hK => ?_ | refine awp_reg_k fun K hK => ?_ | refine awp_dreg_k fun K hK => ?_ | (refine aops_nil ?_; refine hK _ _ ?_; try clear hK K) | (refine aopsD_nil ?_; refine hK _ _ _ ?_ ?_; (focus kernel_rfl); try clear hK K) | (refine thn_normal ?_; refine hK _ _ ?_; try clear hK K) | refine catch_normal ?_ | refine awp_skip_k ?_ | refine awp_ret_k ?_ | refine awp_exit_k ?_ | refine awp_block_k ?_ | (refine thn_exit ?_; try clear hK K) | (refine thn_ret ?_; try clear hK K) | refine catch_ret ?_ | refine catch_exit ?_ | (refine catch_other ?_ ?_; focus decide)) | ((with_reducible first | apply aops_guard' | apply aopsD_guard' | apply awp_cond_g); focus (simp only [go_sem, sb_at, hpos, hc, g6, g7, g9, sb_size]; exact rfl)) | (with_reducible first | refine gk_tt ?_ | refine gk_ff ?_ | refine ck_t ?_ | refine ck_f ?_) | ((with_reducible first | refine gk_tf ?_ | refine gk_ft ?_ | refine gk_u ?_ | refine gk_u' ?_); first | (intro _ e; (first | rw [put_some] at e | rw [put_none] at e); subst e) | (intro _ _ e e'; (first | rw [put_some] at e | rw [put_none] at e); subst e; subst e'))))
                (refine retP_ret (List.range 40) rfl ?_; exact vwA)
              | false =>
                rw [g9, if_neg (by simp)] at hR; subst hR
                (repeat' (first | ((first | (with_reducible refine aops_call fun C hC => ?_) | (with_reducible refine aopsD_call fun C hC => ?_) | ((with_reducible intro C hC); (with_reducible refine ax_call_mp ?_))); (first | (simp only [go_sem, sb_at, hpos, hc, g6, g7, g9, sb_size]; (first | ((with_reducible apply ACall.pure0 [] (c1)); (focus (exact vwA))) | ((with_reducible apply ACall.pure0 [] (hp)); (focus (exact vwA))) | ((with_reducible apply ACall.pure0 [] (c2)); (focus (exact vwA))) | ((with_reducible apply ACall.pure0 [] (c3)); (focus (exact vwA))) | ((with_reducible apply ACall.pure0 [] (c4)); (focus (exact vwA)))))); (simp only [PV.scal, PV.scalL, if_true, Bool.and_true, Bool.and_false, Bool.false_and, Bool.true_and, frz, List.map_nil, Bool.false_eq_true, if_false, ite_self, sb_at, hpos, hc, g6, g7, g9, sb_size]); ((with_reducible first | refine finA hC ?_ | refine finD hC ?_); clear hC C)) | ((with_reducible first | refine aops_cons' fun C hC => ?_ | refine aopsD_cons' fun C hC => ?_ | intro C hC); simp only [go_sem, sb_at, hpos, hc, g6, g7, g9, sb_size]; ((with_reducible first | refine finA hC ?_ | refine finD hC ?_); clear hC C)) | (with_reducible first | refine awp_seq_k fun K hK => ?_ | refine awp_reg_k fun K hK => ?_ | refine awp_dreg_k fun K hK => ?_ | (refine aops_nil ?_; refine hK _ _ ?_; try clear hK K) | (refine aopsD_nil ?_; refine hK _ _ _ ?_ ?_; (focus kernel_rfl); try clear hK K) | (refine thn_normal ?_; refine hK _ _ ?_; try clear hK K) | refine catch_normal ?_ | refine awp_skip_k ?_ | refine awp_ret_k ?_ | refine awp_exit_k ?_ | refine awp_block_k ?_ | (refine thn_exit ?_; try clear hK K) | (refine thn_ret ?_; try clear hK K) | refine catch_ret ?_ | refine catch_exit ?_ | (refine catch_other ?_ ?_; focus decide)) | ((with_reducible first | apply aops_guard' | apply aopsD_guard' | apply awp_cond_g); focus (simp only [go_sem, sb_at, hpos, hc, g6, g7, g9, sb_size]; exact rfl)) | (with_reducible first | refine gk_tt ?_ | refine gk_ff ?_ | refine ck_t ?_ | refine ck_f ?_) | ((with_reducible first | refine gk_tf ?_ | refine gk_ft ?_ | refine gk_u ?_ | refine gk_u' ?_); first | (intro _ e; (first | rw [put_some] at e | rw [put_none] at e); subst e) | (intro _ _ e e'; (first | rw [put_some] at e | rw [put_none] at e); subst e; subst e'))))
                (refine retP_ret (List.range 40) rfl ?_; exact vwA)
            | true =>
              have hlen2 : 2 ≤ l.length := by have := of_decide_eq_true g7; omega
              rw [g7] at hR
              rw [Bool.true_and] at hR
              cases g8 : hasS P2 (l.take 2) with
              | true =>
                rw [g8] at hh2 hR
                rw [if_pos rfl] at hR; subst hR
                (repeat' (first | ((first | (with_reducible refine aops_call fun C hC => ?_) | (with_reducible refine aopsD_call fun C hC => ?_) | ((with_reducible intro C hC); (with_reducible refine ax_call_mp ?_))); (first | (simp only [go_sem, sb_at, hpos, hc, g6, g7, sb_size, sb_take, hlen2, Nat.zero_le]; (first | ((with_reducible apply ACall.pure0 [] (c1)); (focus (exact vwA))) | ((with_reducible apply ACall.pure0 [] (hp)); (focus (exact vwA))) | ((with_reducible apply ACall.pure0 [] (c2)); (focus (exact vwA))) | ((with_reducible apply ACall.pure0 [] (c3)); (focus (exact vwA))) | ((with_reducible apply ACall.pure0 [] (h2)); (focus (exact vwA))) | ((with_reducible apply ACall.pure0 [] (hh2)); (focus (exact vwA)))))); (simp only [PV.scal, PV.scalL, if_true, Bool.and_true, Bool.and_false, Bool.false_and, Bool.true_and, frz, List.map_nil, Bool.false_eq_true, if_false, ite_self, sb_at, hpos, hc, g6, g7, sb_size, sb_take, hlen2, Nat.zero_le]); ((with_reducible first | refine finA hC ?_ | refine finD hC ?_); clear hC C)) | ((with_reducible first | refine aops_cons' fun C hC => ?_ | refine aopsD_cons' fun C hC => ?_ | intro C hC); simp only [go_sem, sb_at, hpos, hc, g6, g7, sb_size, sb_take, hlen2, Nat.zero_le]; ((with_reducible first | refine finA hC ?_ | refine finD hC ?_); clear hC C)) | (with_reducible first | refine awp_seq_k fun K hK => ?_ | refine awp_reg_k fun K hK => ?_ | refine awp_dreg_k fun K hK => ?_ | (refine aops_nil ?_; refine hK _ _ ?_; try clear hK K) | (refine aopsD_nil ?_; refine hK _ _ _ ?_ ?_; (focus kernel_rfl); try clear hK K) | (refine thn_normal ?_; refine hK _ _ ?_; try clear hK K) | refine catch_normal ?_ | refine awp_skip_k ?_ | refine awp_ret_k ?_ | refine awp_exit_k ?_ | refine awp_block_k ?_ | (refine thn_exit ?_; try clear hK K) | (refine thn_ret ?_; try clear hK K) | refine catch_ret ?_ | refine catch_exit ?_ | (refine catch_other ?_ ?_; focus decide)) | ((with_reducible first | apply aops_guard' | apply aopsD_guard' | apply awp_cond_g); focus (simp only [go_sem, sb_at, hpos, hc, g6, g7, sb_size, sb_take, hlen2, Nat.zero_le]; exact rfl)) | (with_reducible first | refine gk_tt ?_ | refine gk_ff ?_ | refine ck_t ?_ | refine ck_f ?_) | ((with_reducible first | refine gk_tf ?_ | refine gk_ft ?_ | refine gk_u ?_ | refine gk_u' ?_); first | (intro _ e; (first | rw [put_some] at e | rw [put_none] at e); subst e) | (intro _ _ e e'; (first | rw [put_some] at e | rw [put_none] at e); subst e; subst e'))))
                (refine retP_ret (List.range 40) rfl ?_; exact vwA)
              | false =>
                rw [g8] at hh2 hR
                rw [if_neg (by simp)] at hR
                cases g9 : decide (Go.Lib.indexByte P1 c ≥ 0) with
                | true =>
                  rw [g9, if_pos rfl] at hR; subst hR
                  (repeat' (first | ((first | (with_reducible refine aops_call fun C hC => ?_) | (with_reducible refine aopsD_call fun C hC => ?_) | ((with_reducible intro C hC); (with_reducible refine ax_call_mp ?_))); (first | (simp only [go_sem, sb_at, hpos, hc, g6, g7, g9, sb_size, sb_take, hlen2, Nat.zero_le]; (first | ((with_reducible apply ACall.pure0 [] (c1)); (focus (exact vwA))) | ((with_reducible apply ACall.pure0 [] (hp)); (focus (exact vwA))) | ((with_reducible apply ACall.pure0 [] (c2)); (focus (exact vwA))) | ((with_reducible apply ACall.pure0 [] (c3)); (focus (exact vwA))) | ((with_reducible apply ACall.pure0 [] (h2)); (focus (exact vwA))) | ((with_reducible apply ACall.pure0 [] (hh2)); (focus (exact vwA))) | ((with_reducible apply ACall.pure0 [] (c4)); (focus (exact vwA)))))); (simp only [PV.scal, PV.scalL, if_true, Bool.and_true, Bool.and_false, Bool.false_and, Bool.true_and, frz, List.map_nil, Bool.false_eq_true, if_false, ite_self, sb_at, hpos, hc, g6, g7, g9, sb_size, sb_take, hlen2, Nat.zero_le]); ((with_reducible first | refine finA hC ?_ | refine finD hC ?_); clear hC C)) | ((with_reducible first | refine aops_cons' fun C hC => ?_ | refine aopsD_cons' fun C hC => ?_ | intro C hC); simp only [go_sem, sb_at, hpos, hc, g6, g7, g9, sb_size, sb_take, hlen2, Nat.zero_le]; ((with_reducible first | refine finA hC ?_ | refine finD hC ?_); clear hC C)) | (with_reducible first | refine awp_seq_k fun K hK => ?_ | refine awp_reg_k fun K hK => ?_ | refine awp_dreg_k fun K hK => ?_ | (refine aops_nil ?_; refine hK _ _ ?_; try clear hK K) | (refine aopsD_nil ?_; refine hK _ _ _ ?_ ?_; (focus kernel_rfl); try clear hK K) | (refine thn_normal ?_; refine hK _ _ ?_; try clear hK K) | refine catch_normal ?_ | refine awp_skip_k ?_ | refine awp_ret_k ?_ | refine awp_exit_k ?_ | refine awp_block_k ?_ | (refine thn_exit ?_; try clear hK K) | (refine thn_ret ?_; try clear hK K) | refine catch_ret ?_ | refine catch_exit ?_ | (refine catch_other ?_ ?_; focus decide)) | ((with_reducible first | apply aops_guard' | apply aopsD_guard' | apply awp_cond_g); focus (simp only [go_sem, sb_at, hpos, hc, g6, g7, g9, sb_size, sb_take, hlen2, Nat.zero_le]; exact rfl)) | (with_reducible first | refine gk_tt ?_ | refine gk_ff ?_ | refine ck_t ?_ | refine ck_f ?_) | ((with_reducible first | refine gk_tf ?_ | refine gk_ft ?_ | refine gk_u ?_ | refine gk_u' ?_); first | (intro _ e; (first | rw [put_some] at e | rw [put_none] at e); subst e) | (intro _ _ e e'; (first | rw [put_some] at e | rw [put_none] at e); subst e; subst e'))))
                  (refine retP_ret (List.range 40) rfl ?_; exact vwA)
                | false =>
                  rw [g9, if_neg (by simp)] at hR; subst hR
                  (repeat' (first | ((first | (with_reducible refine aops_call fun C hC => ?_) | (with_reducible refine aopsD_call fun C hC => ?_) | ((with_reducible intro C hC); (with_reducible refine ax_call_mp ?_))); (first | (simp only [go_sem, sb_at, hpos, hc, g6, g7, g9, sb_size, sb_take, hlen2, Nat.zero_le]; (first | ((with_reducible apply ACall.pure0 [] (c1)); (focus (exact vwA))) | ((with_reducible apply ACall.pure0 [] (hp)); (focus (exact vwA))) | ((with_reducible apply ACall.pure0 [] (c2)); (focus (exact vwA))) | ((with_reducible apply ACall.pure0 [] (c3)); (focus (exact vwA))) | ((with_reducible apply ACall.pure0 [] (h2)); (focus (exact vwA))) | ((with_reducible apply ACall.pure0 [] (hh2)); (focus (exact vwA))) | ((with_reducible apply ACall.pure0 [] (c4)); (focus (exact vwA)))))); (simp only [PV.scal, PV.scalL, if_true, Bool.and_true, Bool.and_false, Bool.false_and, Bool.true_and, frz, List.map_nil, Bool.false_eq_true, if_false, ite_self, sb_at, hpos, hc, g6, g7, g9, sb_size, sb_take, hlen2, Nat.zero_le]); ((with_reducible first | refine finA hC ?_ | refine finD hC ?_); clear hC C)) | ((with_reducible first | refine aops_cons' fun C hC => ?_ | refine aopsD_cons' fun C hC => ?_ | intro C hC); simp only [go_sem, sb_at, hpos, hc, g6, g7, g9, sb_size, sb_take, hlen2, Nat.zero_le]; ((with_reducible first | refine finA hC ?_ | refine finD hC ?_); clear hC C)) | (with_reducible first | refine awp_seq_k fun K hK => ?_ | refine awp_reg_k fun K hK => ?_ | refine awp_dreg_k fun K hK => ?_ | (refine aops_nil ?_; refine hK _ _ ?_; try clear hK K) | (refine aopsD_nil ?_; refine hK _ _ _ ?_ ?_; (focus kernel_rfl); try clear hK K) | (refine thn_normal ?_; refine hK _ _ ?_; try clear hK K) | refine catch_normal ?_ | refine awp_skip_k ?_ | refine awp_ret_k ?_ | refine awp_exit_k ?_ | refine awp_block_k ?_ | (refine thn_exit ?_; try clear hK K) | (refine thn_ret ?_; try clear hK K) | refine catch_ret ?_ | refine catch_exit ?_ | (refine catch_other ?_ ?_; focus decide)) | ((with_reducible first | apply aops_guard' | apply aopsD_guard' | apply awp_cond_g); focus (simp only [go_sem, sb_at, hpos, hc, g6, g7, g9, sb_size, sb_take, hlen2, Nat.zero_le]; exact rfl)) | (with_reducible first | refine gk_tt ?_ | refine gk_ff ?_ | refine ck_t ?_ | refine ck_f ?_) | ((with_reducible first | refine gk_tf ?_ | refine gk_ft ?_ | refine gk_u ?_ | refine gk_u' ?_); first | (intro _ e; (first | rw [put_some] at e | rw [put_none] at e); subst e) | (intro _ _ e e'; (first | rw [put_some] at e | rw [put_none] at e); subst e; subst e'))))
                  (refine retP_ret (List.range 40) rfl ?_; exact vwA)
end Go.Proofs.YtckjkdhmljfeeaaGreatDoor
