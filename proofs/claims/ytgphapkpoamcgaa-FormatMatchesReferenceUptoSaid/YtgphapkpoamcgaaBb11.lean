/- append; all the operations together. -/
import Derived.Test.YtgphapkpoamcgaaBb10
set_option linter.unusedVariables false
set_option linter.unusedSimpArgs false
namespace Go.Ab
open Go.RowKit

section
variable {P : Program} {nb : Nat} {f : FV} {h : HF} {K : Kont}

theorem run_append {x y : Operand} {t : TypeId} {a : Act} {w w' : World} {u v1 v2 : Value} {oper : Oper} (ho : oper.op = .call { callee := .builtin .append, args := #[x, y], argTypes := #[t, t] }) (h1 : a.eval x = v1) (h2 : a.eval y = v2)
    (hr : ∀ ty, (Builtin.append_ #[t, t] ty #[v1, v2]).run P w = .ok u w' ) : (execOp a.eval oper).run P w = .ok (.value u) w' := by
  simp [execOp, ho, resolve, invoke, builtin, h1, h2, hr]

theorem snd_app {c : Call} {x y : Operand} {t e : TypeId} {ti : TypeInfo} {n : Nat} {z : List Value} (hb : c.callee = .builtin .append) (ha : c.args.toList = [x, y]) (ht : c.argTypes.toList = [t, t])
    (hu : P.underlying t = some (.slice e)) (hi0 : P.info? e = some ti) (hz0 : zeroOf P e = some (n, z)) (hby : ti.bytes ≤ 128) (hA : AS (.app e n x y) nb f h K) : Snd P (.call c) nb f h K := by
  obtain ⟨callee, args, tys⟩ := c
  simp only at hb ha ht; subst hb
  have ha' : args = #[x, y] := by rw [← Array.toArray_toList (xs := args), ha]
  have ht' : tys = #[t, t] := by rw [← Array.toArray_toList (xs := tys), ht]
  subst ha'; subst ht'
  obtain ⟨ti', zv, hi, hz, hpos, hsz, hvs, rfl, hzl, hone⟩ := zeroOf_spec hz0
  have : ti = ti' := by rw [hi] at hi0; exact (Option.some.inj hi0).symm
  subst this
  have bytes : ∀ m : Nat, m ≤ big → m * ti.bytes ≤ 140737488355328 := fun m hm => by
    unfold big at hm
    have := Nat.mul_le_mul hm hby
    omega
  simp only [AS] at hA
  obtain ⟨ys, rd, hA, hsrc⟩ := srcK_spec hpos hA
  have ops : ∀ (f2 : FV), (∀ o ∈ (Op.call { callee := .builtin .append, args := #[x, y], argTypes := #[t, t] }).operands.toList, ev f2 o = ev f o) → ev f2 x = ev f x ∧ ev f2 y = ev f y := fun f2 hx => ⟨hx x (by simp [Op.operands, Call.operands]), hx y (by simp [Op.operands, Call.operands])⟩
  split at hA
  · rename_i hx0
    obtain ⟨hne, hbig, hA⟩ := hA
    refine ⟨_, _, _, hA, by simp, fun N S G f2 h2 a w st hx hr hn oper ho => ?_⟩
    obtain ⟨e1, e2⟩ := ops f2 hx
    have hv := st.ev x; rw [e1, hx0] at hv; simp only [R, RP] at hv
    obtain ⟨A, c, hy, hs, hbd⟩ := hsrc N S G f2 h2 a w st e2 hr
    have hS : ∀ b, SS S nb b → SD S [(nb, some ⟨false, e, n, ys, none⟩)] b := fun b hb => by
      rcases hb with hb | rfl
      · exact .inl hb
      · exact .inr ⟨_, List.mem_singleton.2 rfl⟩
    have key : ∀ ty, ∃ u w' G', (Builtin.append_ #[t, t] ty #[.slice none 0 0, .slice A ys.length c]).run P w = .ok u w' ∧ Gh.le S G G' ∧
        Rel (SS S nb) G' (upd h2 nb (some ⟨false, e, n, [] ++ ys, none⟩)) w' ∧ Tr G h2 w G' (upd h2 nb (some ⟨false, e, n, [] ++ ys, none⟩)) w' ∧ R G' (.row nb (0 + ys.length) false) u := fun ty =>
      st.rel.append_new (P := P) (nb := nb) hn n e t ty ti zv hu hi hz hsz hvs hpos none A c 0 [] ys rfl ⟨by simp, .inl rfl⟩ hs hne (by simp) hbd (fun _ => rfl) (bytes _ (by omega)) (by omega)
    obtain ⟨u, w', G', hrun, hle, hrel, htr, hR⟩ := key oper.type
    simp only [List.nil_append, Nat.zero_add] at hrel htr hR
    refine ⟨u, w', G', .inl ?_, hle, hrel.monoS hS, htr, hR, by simp only [V.bd]; exact hS nb (.inr rfl)⟩
    simp [execOp, ho, resolve, invoke, builtin, hv, hy, hrun]
  · rename_i b m full hx0
    split at hA
    case h_2 => exact hA.elim
    rename_i k hk
    obtain ⟨rfl, rfl, rfl, hbig, hA⟩ := hA
    split at hA
    · rename_i hro
      obtain ⟨hfull, hpm, hne, hA⟩ := hA
      refine ⟨_, _, _, hA, by simp, fun N S G f2 h2 a w st hx hr hn oper ho => ?_⟩
      obtain ⟨e1, e2⟩ := ops f2 hx
      have hv := st.ev x; rw [e1, hx0] at hv; simp only [R] at hv
      obtain ⟨cap, hv, hc, _, hcm, hκ, hfc⟩ := hv
      have hce : cap = k.xs.length := hfc hfull
      subst hce
      have hk2 : h2 b = some k := (hr b (by simp)).trans hk
      obtain ⟨arr, e', rr⟩ := st.rel.blk b k hk2
      obtain ⟨A, c, hy, hs, hbd⟩ := hsrc N S G f2 h2 a w st e2 fun b' hb' => hr b' (by simp [hb'])
      have hS : ∀ b, SS S nb b → SD S [(nb, some ⟨false, k.ty, k.sz, k.xs ++ ys, none⟩)] b := fun b hb => by
        rcases hb with hb | rfl
        · exact .inl hb
        · exact .inr ⟨_, List.mem_singleton.2 rfl⟩
      have hsx : Src G k.sz w (some ⟨G.φ b, 0, none⟩) k.xs := by
        refine ⟨fun cs hcs => ?_, .inr ⟨_, arr.toList.take (k.xs.length * k.sz), rfl, ?_, fun j u hu => ?_, fun u hu => ?_, fun i j cs c e1 e2 => ?_⟩⟩
        · obtain ⟨i, hi⟩ := List.getElem?_of_mem hcs; exact rr.len i cs hi
        · have := rr.fits; simp; omega
        · rw [add_plain', Nat.zero_add, cell_arr e']
          rw [List.getElem?_take] at hu
          split at hu
          · simpa using hu
          · cases hu
        · obtain ⟨j, hj⟩ := List.getElem?_of_mem hu
          rw [List.getElem?_take] at hj
          split at hj
          case isFalse => cases hj
          rename_i hjlt
          have hi : j / k.sz < k.xs.length := (Nat.div_lt_iff_lt_mul hpos).2 hjlt
          have hxx := List.getElem?_eq_getElem hi
          have hjm : j % k.sz < (k.xs[j / k.sz]).length := by rw [rr.len _ _ hxx]; exact Nat.mod_lt _ hpos
          obtain ⟨v, q1, q2, _⟩ := rr.cell _ _ _ _ hxx (List.getElem?_eq_getElem hjm)
          rw [Nat.mul_comm, Nat.div_add_mod] at q1
          rw [Array.getElem?_toList, q1] at hj; cases hj; exact q2
        · obtain ⟨u, q1, _, q3⟩ := rr.cell i j cs c e1 e2
          have hj : j < k.sz := by rw [← rr.len i cs e1]; exact (List.getElem?_eq_some_iff.1 e2).1
          have hi : i < k.xs.length := (List.getElem?_eq_some_iff.1 e1).1
          refine ⟨u, ?_, q3⟩
          rw [take_get (by have := Nat.mul_le_mul_right k.sz (show i + 1 ≤ k.xs.length by omega); rw [Nat.add_mul] at this; omega), Array.getElem?_toList]; exact q1
      obtain ⟨u, w', G', hrun, hle, hrel, htr, hR⟩ := st.rel.append_new (P := P) (nb := nb) hn k.sz k.ty t oper.type ti zv hu hi hz hsz hvs hpos (some ⟨G.φ b, 0, none⟩) A c k.xs.length k.xs ys rfl hsx hs hne (st.rel.bd b k hk2) hbd (fun h0 => by omega) (bytes _ hbig) hbig
      refine ⟨u, w', G', .inl ?_, hle, hrel.monoS hS, htr, hR, by simp only [V.bd]; exact hS nb (.inr rfl)⟩
      simp [execOp, ho, resolve, invoke, builtin, hv, hy, hrun]
    · rename_i hro
      refine ⟨_, _, _, hA, (fun b' k' hb' => by rcases (by simpa using hb' : (b' = b ∧ k' = none) ∨ _) with ⟨rfl, _⟩ | ⟨rfl, _⟩ <;> simp), fun N S G f2 h2 a w st hx hr hn oper ho => ?_⟩
      obtain ⟨e1, e2⟩ := ops f2 hx
      have hv := st.ev x; rw [e1, hx0] at hv; simp only [R] at hv
      obtain ⟨cap, hv, hc, _, hcm, hκ, hfc⟩ := hv
      have hk2 : h2 b = some k := (hr b (by simp)).trans hk
      obtain ⟨A, c, hy, hs, hbd⟩ := hsrc N S G f2 h2 a w st e2 fun b' hb' => hr b' (by simp [hb'])
      have hS : ∀ b', SS S nb b' → SD S [(b, none), (nb, some ⟨false, k.ty, k.sz, k.xs ++ ys, none⟩)] b' := fun b hb => by
        rcases hb with hb | rfl
        · exact .inl hb
        · exact .inr ⟨_, by simp; rfl⟩
      obtain ⟨u, w', G', hrun, hle, hrel, htr, hR⟩ := st.rel.append_own (P := P) (nb := nb) hn hk2 (by simpa using hro) cap hc hcm hκ t oper.type ti zv hu hi hz hsz hvs hpos A c ys hs hbd (bytes _ hbig) hbig
      refine ⟨u, w', G', .inl ?_, hle, hrel.monoS hS, htr, hR, by simp only [V.bd]; exact hS nb (.inr rfl)⟩
      simp [execOp, ho, resolve, invoke, builtin, hv, hy, hrun]
  · exact hA.elim

theorem AS_sound {op : Op} {o : AO} (hc : compOp P op = some o) (hA : AS o nb f h K) : Snd P op nb f h K := by
  cases op with
  | move x => simp only [compOp, Option.some.injEq] at hc; subst hc; exact snd_move hA
  | assign x => simp only [compOp, Option.some.injEq] at hc; subst hc; exact snd_assign hA
  | pick c x y => simp only [compOp, Option.some.injEq] at hc; subst hc; exact snd_pick hA
  | alloc e => exact snd_alloc hc hA
  | box e x => exact snd_box hc hA
  | build t parts => exact snd_build hc hA
  | buildSlice t len parts => exact snd_bslice hc hA
  | load t x => exact snd_load hc hA
  | store t x y => exact snd_store hc hA
  | nilCheck x => exact snd_nilc hc hA
  | binOp op t x y yt => exact snd_bin hc hA
  | unOp op t x => exact snd_un hc hA
  | convert s d x => exact snd_conv hc hA
  | makeFunc g first caps => exact snd_mkfn hc hA
  | makeSlice t l c => exact snd_mkslice hc hA
  | fieldAddr t x k => exact snd_faddr hc hA
  | field t x k => exact snd_field hc hA
  | indexAddr t x i => exact snd_iaddr hc hA
  | index t x i => exact snd_sindex hc hA
  | extract x k => exact snd_ext hc hA
  | slice t x lo hi mx =>
    simp only [compOp] at hc
    split at hc
    · rename_i e hu
      split at hc
      case h_2 => cases hc
      rename_i ti hi'
      split at hc
      case isFalse => cases hc
      rename_i hcond
      simp only [Option.some.injEq] at hc; subst hc
      exact snd_slice hu hi' hcond.1 hcond.2 hA
    · rename_i hu
      split at hc
      case isFalse => cases hc
      rename_i hmx
      simp only [Option.some.injEq] at hc; subst hc
      have : mx = none := by simpa using hmx
      subst this
      exact snd_sslice hu hA
    · cases hc
  | call c =>
    simp only [compOp] at hc
    split at hc
    · simp only [Option.some.injEq] at hc; subst hc; exact hA.elim
    · rename_i hb
      split at hc
      case h_2 => cases hc
      rename_i x t ha ht
      split at hc
      · rename_i hu; simp only [Option.some.injEq] at hc; subst hc; exact snd_len hb ha ht (.inl ⟨rfl, hu⟩) hA
      · rename_i e hu; simp only [Option.some.injEq] at hc; subst hc; exact snd_len hb ha ht (.inr ⟨rfl, e, hu⟩) hA
      · cases hc
    · rename_i hb
      split at hc
      case h_2 => cases hc
      rename_i x y t t' ha ht
      split at hc
      case isFalse => cases hc
      rename_i htt; subst htt
      split at hc
      case h_2 => cases hc
      rename_i e hu
      split at hc
      case h_2 => cases hc
      rename_i ti n z hi hz
      split at hc
      case isFalse => cases hc
      rename_i hby
      simp only [Option.some.injEq] at hc; subst hc
      exact snd_app hb ha ht hu hi hz hby hA
    · rename_i hb
      split at hc
      case h_2 => cases hc
      rename_i x y ha
      simp only [Option.some.injEq] at hc; subst hc
      exact snd_minmax (mn := true) (by simpa using hb) ha hA
    · rename_i hb
      split at hc
      case h_2 => cases hc
      rename_i x y ha
      simp only [Option.some.injEq] at hc; subst hc
      exact snd_minmax (mn := false) (by simpa using hb) ha hA
    · cases hc
  | _ => simp [compOp] at hc
end
end Go.Ab
