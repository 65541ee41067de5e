/- Each operation does in the machine what it does to abstract values: what computes, what builds, append. -/
import Derived.Test.YtgphapkpoamcgaaBb6
import Derived.Laws.OwnMore
import Derived.WalkSpells
set_option linter.unusedVariables false
set_option linter.unusedSimpArgs false
namespace Go.Ab
open Go.RowKit

section
variable {P : Program} {nb : Nat} {f : FV} {h : HF} {K : Kont}

theorem snd_un {op : UnOp} {t : TypeId} {x : Operand} {o : AO} (hc : compOp P (.unOp op t x) = some o) (hA : AS o nb f h K) : Snd P (.unOp op t x) nb f h K := by
  simp only [compOp, Option.some.injEq] at hc; subst hc
  simp only [AS] at hA
  split at hA
  · rename_i k n hx0
    refine snd_pure _ hA fun N S G f2 h2 a w st hx oper ho => ?_
    have h1 := st.ev x; rw [hx x (by simp [Op.operands]), hx0] at h1; simp only [R, RP] at h1
    exact ⟨.int k (k.wrap (0 - n)), by simp [execOp, ho, h1, Op.unary, Op.intArith], by simp [R, RP], by simp [V.bd]⟩
  · rename_i b hx0
    refine snd_pure _ hA fun N S G f2 h2 a w st hx oper ho => ?_
    have h1 := st.ev x; rw [hx x (by simp [Op.operands]), hx0] at h1; simp only [R, RP] at h1
    exact ⟨.bool (!b), by simp [execOp, ho, h1, Op.unary], by simp [R, RP], by simp [V.bd]⟩
  · exact hA.elim
theorem snd_conv {src dst : TypeId} {x : Operand} {o : AO} (hc : compOp P (.convert src dst x) = some o) (hA : AS o nb f h K) : Snd P (.convert src dst x) nb f h K := by
  simp only [compOp] at hc
  split at hc
  case h_2 => cases hc
  rename_i k0 k hs hd
  simp only [Option.some.injEq] at hc; subst hc
  simp only [AS] at hA
  split at hA
  · rename_i k' n hx0
    refine snd_pure _ hA fun N S G f2 h2 a w st hx oper ho => ?_
    have h1 := st.ev x; rw [hx x (by simp [Op.operands]), hx0] at h1; simp only [R, RP] at h1
    exact ⟨.int k (k.wrap n), by simp [execOp, ho, h1, convert, run_underlying hs, run_underlying hd, Conv.intToInt], by simp [R, RP], by simp [V.bd]⟩
  · exact hA.elim
theorem RL_map_ev {N S G f2 h2 a w} (st : St N S G f2 h2 a w) : ∀ (xs : List Operand), (∀ x ∈ xs, ev f2 x = ev f x) → RL G (xs.map (ev f)) (xs.map a.eval) ∧ V.bdL S (xs.map (ev f))
  | [], _ => by simp [RL, V.bdL]
  | x :: xs, hx => by
    obtain ⟨h1, h2⟩ := RL_map_ev st xs fun y hy => hx y (by simp [hy])
    have e := hx x (by simp)
    simp only [List.map_cons, RL, V.bdL]
    exact ⟨⟨_, _, rfl, e ▸ st.ev x, h1⟩, e ▸ st.evbd x, h2⟩
theorem snd_mkfn {g : Fn} {first caps : Array Operand} {o : AO} (hc : compOp P (.makeFunc g first caps) = some o) (hA : AS o nb f h K) : Snd P (.makeFunc g first caps) nb f h K := by
  cases g with
  | func g =>
    simp only [compOp] at hc
    split at hc
    · rename_i hf
      simp only [Option.some.injEq] at hc; subst hc
      simp only [AS] at hA
      refine snd_pure _ hA fun N S G f2 h2 a w st hx oper ho => ?_
      obtain ⟨h1, h2⟩ := RL_map_ev st caps.toList fun x hx' => hx x (by simp [Op.operands]; right; simpa using hx')
      have hf' : first = #[] := Array.eq_empty_of_size_eq_zero hf
      exact ⟨.func (.func g) #[] (caps.map a.eval), by simp [execOp, ho, Instr.makeFunc, hf'], by simp only [R]; exact ⟨_, rfl, by simpa using h1⟩, by simpa [V.bd] using h2⟩
    · cases hc
  | _ => simp [compOp] at hc
theorem snd_ext {x : Operand} {k : Nat} {o : AO} (hc : compOp P (.extract x k) = some o) (hA : AS o nb f h K) : Snd P (.extract x k) nb f h K := by
  simp only [compOp, Option.some.injEq] at hc; subst hc
  simp only [AS] at hA
  split at hA
  · rename_i vs hx0
    split at hA
    case h_2 => exact hA.elim
    rename_i v hv
    refine snd_pure _ hA fun N S G f2 h2 a w st hx oper ho => ?_
    have h1 := st.ev x; rw [hx x (by simp [Op.operands]), hx0] at h1; simp only [R] at h1
    have hb := st.evbd x; rw [hx x (by simp [Op.operands]), hx0] at hb; simp only [V.bd] at hb
    obtain ⟨us, h1, h3⟩ := h1
    obtain ⟨u, e, hu⟩ := RL_get h3 k v hv
    rw [Array.getElem?_toList] at e
    exact ⟨u, by simp [execOp, ho, h1, Instr.extract, e], hu, bdL_iff.1 hb v (List.mem_of_getElem? hv)⟩
  · rename_i vs hx0
    split at hA
    case h_2 => exact hA.elim
    rename_i v hv
    refine snd_pure _ hA fun N S G f2 h2 a w st hx oper ho => ?_
    have h1 := st.ev x; rw [hx x (by simp [Op.operands]), hx0] at h1; simp only [R, RP] at h1
    obtain ⟨us, h1, h3⟩ := h1
    obtain ⟨u, e, hu⟩ := RPL_get h3 k v hv
    rw [Array.getElem?_toList] at e
    exact ⟨u, by simp [execOp, ho, h1, Instr.extract, e], by simpa [R] using hu, by simp [V.bd]⟩
  · exact hA.elim
theorem snd_field {t : TypeId} {x : Operand} {j : Nat} {o : AO} (hc : compOp P (.field t x j) = some o) (hA : AS o nb f h K) : Snd P (.field t x j) nb f h K := by
  simp only [compOp] at hc
  split at hc
  case h_2 => cases hc
  rename_i fs hu
  split at hc
  case h_2 => cases hc
  rename_i fd hfd
  split at hc
  case h_2 => cases hc
  rename_i g ti hg hi
  simp only [Option.some.injEq] at hc; subst hc
  have run : ∀ (us : Array Value) (w : World), fd.offset + ti.size ≤ us.size → (g = true ∨ ti.size = 1) → (Instr.field t (.agg us) j).run P w = .ok (mkc g ((us.toList.drop fd.offset).take ti.size)) w := fun us w hle hcond => by
    have h5 : (sizeOf fd.type).run P w = .ok ti.size w := by simp [sizeOf, typeInfo, hi]
    simp only [Instr.field, Sem.run_bind, run_underlying hu, Result.andThen_ok, hfd, asAgg, part, run_isAgg hg, Sem.run_pure]
    cases g with
    | true =>
      simp only [if_true, Sem.run_bind, h5, Result.andThen_ok, Sem.run_pure, mkc]
      congr 2
      apply Array.ext'
      simp [List.take_drop]
    | false =>
      have h1 : ti.size = 1 := by simpa using hcond
      rw [h1] at hle
      have h2 : us[fd.offset]? = some us[fd.offset] := Array.getElem?_eq_getElem (by omega)
      simp only [Bool.false_eq_true, if_false, h2, Sem.run_pure, mkc, h1]
      congr 1
      rw [List.take_one, List.head?_drop, Array.getElem?_toList, h2]; rfl
  simp only [AS] at hA
  split at hA
  · rename_i cs hx0
    obtain ⟨hle, hcond, hA⟩ := hA
    refine snd_pure _ hA fun N S G f2 h2 a w st hx oper ho => ?_
    have h1 := st.ev x; rw [hx x (by simp [Op.operands]), hx0] at h1; simp only [R] at h1
    have hb := st.evbd x; rw [hx x (by simp [Op.operands]), hx0] at hb; simp only [V.bd] at hb
    obtain ⟨us, h1, hone, h3⟩ := h1
    have hl := RL_length h3
    rw [Array.length_toList] at hl
    refine ⟨_, by simp only [execOp, ho, h1, Sem.run_bind, run us w (by omega) hcond, Result.andThen_ok, Sem.run_pure]; rfl, ?_, mkv_bd (bdL_sub hb fun c hc => List.mem_of_mem_drop (List.mem_of_mem_take hc))⟩
    refine mkv_R (RL_take _ (RL_drop _ h3)) (fun u hu => hone u (List.mem_of_mem_drop (List.mem_of_mem_take hu))) ?_
    rcases hcond with hcond | hcond
    · exact .inl hcond
    · right; simp; omega
  · rename_i cs hx0
    obtain ⟨hle, hcond, hA⟩ := hA
    refine snd_pure _ hA fun N S G f2 h2 a w st hx oper ho => ?_
    have h1 := st.ev x; rw [hx x (by simp [Op.operands]), hx0] at h1; simp only [R, RP] at h1
    obtain ⟨us, h1, hone, h3⟩ := h1
    have hl := RPL_length h3
    rw [Array.length_toList] at hl
    refine ⟨_, by simp only [execOp, ho, h1, Sem.run_bind, run us w (by omega) hcond, Result.andThen_ok, Sem.run_pure]; rfl, ?_, by simp [V.bd]⟩
    simp only [R]
    refine mkp_R (RPL_take _ (RPL_drop _ h3)) (fun u hu => hone u (List.mem_of_mem_drop (List.mem_of_mem_take hu))) ?_
    rcases hcond with hcond | hcond
    · exact .inl hcond
    · right; simp; omega
  · exact hA.elim
theorem snd_sindex {t : TypeId} {x y : Operand} {o : AO} (hc : compOp P (.index t x y) = some o) (hA : AS o nb f h K) : Snd P (.index t x y) nb f h K := by
  simp only [compOp] at hc
  split at hc
  case h_2 => cases hc
  rename_i hu
  simp only [Option.some.injEq] at hc; subst hc
  simp only [AS] at hA
  split at hA
  · rename_i s kd iv hx0 hy0
    obtain ⟨n, c, rfl, hcn, hA⟩ := hA
    refine snd_pure _ hA fun N S G f2 h2 a w st hx oper ho => ?_
    have h1 := st.ev x; rw [hx x (by simp [Op.operands]), hx0] at h1; simp only [R, RP] at h1
    have h2' := st.ev y; rw [hx y (by simp [Op.operands]), hy0] at h2'; simp only [R, RP] at h2'
    refine ⟨.int .u8 c.toNat, ?_, by simp [R, RP], by simp [V.bd]⟩
    have hr : (Instr.index t (.string s) (.int kd (n : Int))).run P w = .ok (.int .u8 c.toNat) w := by
      simp [Instr.index, asIntOf, run_underlying hu, hcn]
    simp only [execOp, ho, h1, h2', Sem.run_bind, hr, Result.andThen_ok, Sem.run_pure]
  · exact hA.elim
theorem snd_nilc {x : Operand} {o : AO} (hc : compOp P (.nilCheck x) = some o) (hA : AS o nb f h K) : Snd P (.nilCheck x) nb f h K := by
  simp only [compOp, Option.some.injEq] at hc; subst hc
  simp only [AS] at hA
  split at hA
  case h_2 => exact hA.elim
  rename_i hn
  refine snd_pure _ hA fun N S G f2 h2 a w st hx oper ho => ?_
  have e := hx x (by simp [Op.operands])
  have h1 := st.ev x; rw [e] at h1
  have hb := st.evbd x; rw [e] at hb
  refine ⟨a.eval x, ?_, h1, hb⟩
  generalize ev f x = v at *
  unfold V.nil? at hn
  split at hn <;> first | (simp at hn; done) | skip
  · simp only [R, RP] at h1; obtain ⟨ad, h1, _⟩ := h1; simp [execOp, ho, h1]
  · simp only [R, RP] at h1; obtain ⟨A, n, c, h1, _⟩ := h1; simp [execOp, ho, h1]
  · simp only [R, RP] at h1; obtain ⟨us, h1, _⟩ := h1; simp [execOp, ho, h1]
  · simp only [R] at h1; simp [execOp, ho, h1]
  · simp only [R] at h1; obtain ⟨c, h1, _⟩ := h1; simp [execOp, ho, h1]
  · simp only [R] at h1; obtain ⟨us, h1, _⟩ := h1; simp [execOp, ho, h1]
theorem snd_len {c : Call} {x : Operand} {t : TypeId} {str : Bool} (hb : c.callee = .builtin .len) (ha : c.args.toList = [x]) (ht : c.argTypes.toList = [t])
    (hu : (str = true ∧ P.underlying t = some .string) ∨ (str = false ∧ ∃ e, P.underlying t = some (.slice e))) (hA : AS (.slen str x) nb f h K) : Snd P (.call c) nb f h K := by
  obtain ⟨callee, args, tys⟩ := c
  simp only at hb ha ht; subst hb
  have ha' : args = #[x] := by rw [← Array.toArray_toList (xs := args), ha]
  have ht' : tys = #[t] := by rw [← Array.toArray_toList (xs := tys), ht]
  subst ha'; subst ht'
  simp only [AS] at hA
  have gs : ∀ (A : Option Addr) (n cap : Nat) (w : World) (a : Act) (oper : Oper), str = false → oper.op = .call { callee := .builtin .len, args := #[x], argTypes := #[t] } → a.eval x = .slice A n cap →
      (execOp a.eval oper).run P w = .ok (.value (.int .i64 n)) w := by
    intro A n cap w a oper hs ho hx
    rcases hu with ⟨h1, _⟩ | ⟨_, e, hu⟩
    · rw [hs] at h1; cases h1
    · simp [execOp, ho, hx, resolve, invoke, builtin, Builtin.len_, run_underlying hu, goInt]
  split at hA
  · rename_i sz xs hx0
    obtain ⟨hs, hA⟩ := hA
    refine snd_pure _ hA fun N S G f2 h2 a w st hx oper ho => ?_
    have h1 := st.ev x; rw [hx x (by simp [Op.operands, Call.operands]), hx0] at h1; simp only [R, RP] at h1
    obtain ⟨A, n, c, h1, hn, _⟩ := h1
    exact ⟨.int .i64 xs.length, hn ▸ gs A n c w a oper hs ho h1, by simp [R, RP], by simp [V.bd]⟩
  · rename_i hx0
    obtain ⟨hs, hA⟩ := hA
    refine snd_pure _ hA fun N S G f2 h2 a w st hx oper ho => ?_
    have h1 := st.ev x; rw [hx x (by simp [Op.operands, Call.operands]), hx0] at h1; simp only [R, RP] at h1
    exact ⟨.int .i64 0, gs none 0 0 w a oper hs ho h1, by simp [R, RP], by simp [V.bd]⟩
  · rename_i s hx0
    obtain ⟨hs, hA⟩ := hA
    refine snd_pure _ hA fun N S G f2 h2 a w st hx oper ho => ?_
    have h1 := st.ev x; rw [hx x (by simp [Op.operands, Call.operands]), hx0] at h1; simp only [R, RP] at h1
    refine ⟨.int .i64 s.size, ?_, by simp [R, RP], by simp [V.bd]⟩
    rcases hu with ⟨_, hu⟩ | ⟨h3, _⟩
    · simp [execOp, ho, h1, resolve, invoke, builtin, Builtin.len_, run_underlying hu, goInt]
    · rw [hs] at h3; cases h3
  · rename_i b n fl hx0
    obtain ⟨hs, hA⟩ := hA
    refine snd_pure _ hA fun N S G f2 h2 a w st hx oper ho => ?_
    have h1 := st.ev x; rw [hx x (by simp [Op.operands, Call.operands]), hx0] at h1; simp only [R] at h1
    obtain ⟨c, h1, _⟩ := h1
    exact ⟨.int .i64 n, gs _ n c w a oper hs ho h1, by simp [R, RP], by simp [V.bd]⟩
  · exact hA.elim

theorem snd_minmax {c : Call} {x y : Operand} {mn : Bool} (hb : c.callee = .builtin (if mn then .min else .max)) (ha : c.args.toList = [x, y]) (hA : AS (.minmax mn x y) nb f h K) : Snd P (.call c) nb f h K := by
  obtain ⟨callee, args, tys⟩ := c
  simp only at hb ha; subst hb
  have ha' : args = #[x, y] := by rw [← Array.toArray_toList (xs := args), ha]
  subst ha'
  simp only [AS] at hA
  split at hA
  · rename_i k p k' q hx0 hy0
    refine snd_pure _ hA fun N S G f2 h2 a w st hx oper ho => ?_
    have h1 := st.ev x; rw [hx x (by simp [Op.operands, Call.operands]), hx0] at h1; simp only [R, RP] at h1
    have h2' := st.ev y; rw [hx y (by simp [Op.operands, Call.operands]), hy0] at h2'; simp only [R, RP] at h2'
    refine ⟨.int k (if mn then (if q < p then q else p) else (if q > p then q else p)), ?_, by simp only [R, RP], by simp [V.bd]⟩
    cases mn <;> simp [execOp, ho, h1, h2', resolve, invoke, builtin, Builtin.min_, Builtin.max_, Builtin.min2, Builtin.max2]
  · exact hA.elim
end
end Go.Ab
