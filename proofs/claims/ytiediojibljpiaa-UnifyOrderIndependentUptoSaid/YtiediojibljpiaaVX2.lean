/- X2: joined from ZX2. -/
import Derived.Test.YtiediojibljpiaaVFnU
import Derived.Test.YtiediojibljpiaaVX1
import Derived.RangeFuncOwn
/- A range over a function: what is kept from round to round. -/
set_option maxRecDepth 10000
set_option linter.unusedSimpArgs false
set_option linter.unusedVariables false
namespace Go.Ab
open Go Go.RowKit
theorem st_pure {N : Nat} {args : List PV} {us : List Value} {G : Gh} {H : Hp} {w : World} (hN : args.length ≤ N) (hr : Rel (lt H) G (hget H) w) (hus : RPL G.I args us) :
    ASt N G (argFr 0 args) H { tmps := us.toArray ++ Array.replicate (N - us.toArray.size) undef, defers := [] } w := by
  have hlen : us.length = args.length := RPL_length hus
  refine ⟨hr, fun t => ?_, fun t => ?_, ?_, rfl⟩
  · rcases argFr_get args 0 t with h | ⟨p, _, hp, h⟩
    · rw [h]; simp [R]
    · rw [h]
      obtain ⟨u, e1, e2⟩ := RPL_get hus t p (by simpa using hp)
      have htl : t < us.length := (List.getElem?_eq_some_iff.1 e1).1
      have : (us.toArray ++ Array.replicate (N - us.toArray.size) undef).getD t undef = u := by
        rw [Array.getD_eq_getD_getElem?, Array.getElem?_append_left (by simpa using htl)]
        simp [e1]
      rw [this]
      simp only [R]; exact e2
  · rcases argFr_get args 0 t with h | ⟨p, _, hp, h⟩
    · rw [h]; simp [V.bd]
    · rw [h]; simp [V.bd]
  · simp; omega
theorem rel_nil {I : Imm} {w : World} (hI : ImmOk I w) : Rel (lt []) ⟨fun _ => 0, fun _ => 0, fun _ => 0, I⟩ (hget []) w :=
  ⟨hI, fun b k e => by simp [hget] at e, fun b b' k k' e => by simp [hget] at e, fun b k e => by simp [hget] at e, fun b k e => by simp [hget] at e, fun b k e => by simp [hget] at e⟩
theorem immOk_kept {I : Imm} {w w' : World} {row : Option Nat} (h : ImmOk I w) (hg : w.grownBy w' row) (hr : ∀ r, row = some r → ∃ o : Obj, w.heap[r]? = some o ∧ o.isCells = false) : ImmOk I w' :=
  ⟨fun a v e => cell_kept (h.ok a v e) hg hr, h.laid⟩
theorem rel_kept {S : Nat → Prop} {G : Gh} {h : HF} {w w' : World} {row : Option Nat} (r : Rel S G h w) (hg : w.grownBy w' row) (hr : ∀ r, row = some r → ∃ o : Obj, w.heap[r]? = some o ∧ o.isCells = false) : Rel S G h w' := by
  refine ⟨immOk_kept r.imm hg hr, fun b k e => ?_, r.inj, r.sep, r.live, r.bd⟩
  obtain ⟨arr, e1, e2⟩ := r.blk b k e
  exact ⟨arr, (grownBy_keeps_cells hg hr e1 rfl).trans e1, e2⟩
theorem rel_putObj {S : Nat → Prop} {G : Gh} {h : HF} {w : World} {l : Nat} {o : Obj} (o' : Obj) (r : Rel S G h w) (hl : w.heap[l]? = some o) (ho : o.isCells = false) : Rel S G h (w.putObj l o') :=
  rel_kept r (grownBy_putObj' w l o') fun k e => by cases e; exact ⟨o, hl, ho⟩
theorem rel_alloc {S : Nat → Prop} {G : Gh} {h : HF} {w : World} (o : Obj) (r : Rel S G h w) : Rel S G h (w.alloc o) := rel_kept r (World.grownBy_alloc w o none) fun k e => by cases e
theorem tr_keep {S : Nat → Prop} {G G' : Gh} {h h' : HF} {w w' : World} (t : Tr G h w G' h' w') (r : Rel S G h w) {k : Nat} {o : Obj} (hk : w.heap[k]? = some o) (ho : o.isCells = false) : w'.heap[k]? = some o := by
  rw [t.old k (Array.getElem?_eq_some_iff.1 hk).1 fun b blk hb hr e => ?_]
  · exact hk
  · obtain ⟨arr, e1, _⟩ := r.blk b blk hb
    rw [e, hk] at e1
    cases e1; cases ho
def Lo (n0 : Nat) (G : Gh) (h : HF) : Prop := ∀ b k, h b = some k → n0 ≤ G.φ b
theorem tr_lo {G G' : Gh} {h h' : HF} {w w' : World} {n0 : Nat} (t : Tr G h w G' h' w') (hl : Lo n0 G h) (hn : n0 ≤ w.heap.size) : Lo n0 G' h' := fun b k e => by
  rcases Nat.lt_or_ge (G'.φ b) n0 with hlt | hge
  · obtain ⟨b0, k0, e0, e1⟩ := t.lives b k e (by omega)
    have := hl b0 k0 e0
    omega
  · exact hge
theorem tr_below {G G' : Gh} {h h' : HF} {w w' : World} {n0 : Nat} (t : Tr G h w G' h' w') (hl : Lo n0 G h) (hn : n0 ≤ w.heap.size) : Below n0 w w' :=
  ⟨t.os, t.tape, t.output, t.size, fun k hk => t.old k (by omega) fun b blk hb _ e => by have := hl b blk hb; omega⟩
theorem below_putObj {n0 : Nat} {w : World} {l : Nat} {o : Obj} (o' : Obj) (hl : w.heap[l]? = some o) (hn : n0 ≤ l) : Below n0 w (w.putObj l o') :=
  ⟨rfl, rfl, rfl, by simp, fun k hk => World.putObj_heap_other (by omega)⟩
/-- the one block is named -/
theorem rel_tag {S : Nat → Prop} {G : Gh} {k : Blk} {w : World} (r : Rel S G (hget [some k]) w) : Rel S G (hget [some { k with tag := some (G.φ 0, G.κ 0, G.σ 0) }]) w := by
  have h0 : ∀ b x, hget [some { k with tag := some (G.φ 0, G.κ 0, G.σ 0) }] b = some x → b = 0 ∧ x = { k with tag := some (G.φ 0, G.κ 0, G.σ 0) } := fun b x e => by
    cases b with
    | zero => simp [hget] at e; exact ⟨rfl, e.symm⟩
    | succ b => simp [hget] at e
  have hk : hget [some k] 0 = some k := rfl
  refine ⟨r.imm, fun b x e => ?_, fun b b' x x' e e' _ => by rw [(h0 b x e).1, (h0 b' x' e').1], fun b x e hro a v ea => ?_, fun b x e => ?_, fun b x e => ?_⟩
  · obtain ⟨rfl, rfl⟩ := h0 b x e
    obtain ⟨arr, e1, e2⟩ := r.blk 0 k hk
    exact ⟨arr, e1, ⟨e2.sz, e2.size, e2.fits, e2.len, e2.cell, e2.ro, fun m hm => by simpa using hm.symm⟩⟩
  · obtain ⟨rfl, rfl⟩ := h0 b x e
    exact r.sep 0 k hk hro a v ea
  · obtain ⟨rfl, rfl⟩ := h0 b x e
    exact r.live 0 k hk
  · obtain ⟨rfl, rfl⟩ := h0 b x e
    exact r.bd 0 k hk
/-- an operation that calls yield -/
theorem yield_in {n : Nat} {P : Program} {o : Oper} {f x y : Operand} {ts : Array TypeId} {a : Act} {w : World} {l : Nat} {u1 u2 : Value} {next : Act → World → Prop} {Q : Exit → Act → World → Prop}
    (ho : o.op = .call { callee := .value f, args := #[x, y], argTypes := ts }) (hf : a.eval f = .func (.yield l) #[] #[]) (h1 : a.eval x = u1) (h2 : a.eval y = u2)
    (hy : YieldAt (FW none) (n - 1) P l #[u1, u2] w fun e w' => e = .returned (.bool true) ∧ next (a.put o.dst (.bool true)) w') : o.wpIn (FW none) n P a w next Q := by
  obtain ⟨fn, tmps, assign, body, hr, hR⟩ := hy
  have hs : (o.semAt (FW none).round a.eval).run P w = .ok (.round l fn tmps assign body) w := by
    rw [show o.semAt (FW none).round a.eval = execOp a.eval o from rfl]
    simp [execOp, ho, resolve, hf, h1, h2, invoke, hr, Sem.run_bind, Result.andThen, Deferred.ofValue]
  refine ⟨fun _ _ => trivial, ?_⟩
  rw [hs]
  refine ⟨fun h => (by cases h), hR.mono fun e w' ⟨he, hn⟩ => ?_⟩
  subst he
  exact hn
/-- a piece of code -/
def LeR (frT : Fr) (HT : Hp) (Qr : Post) : Post := fun e fr H => (e = .normal ∧ ∃ ρ, Le ρ fr H frT HT) ∨ (e = .ret ∧ Qr .ret fr H)
theorem code_in {n : Nat} {P : Program} (hm : P.follows .mixedOrders = true) {N : Nat} {c : Code} {ac : AC} {fr frT : Fr} {H HT : Hp} {Qr : Post} {G : Gh} {a : Act} {w : World} {Q : Exit → Act → World → Prop}
    (hc : compCode P N c = some ac) (hA : awp P ac (LeR frT HT Qr) fr H) (st : ASt N G fr H a w)
    (hQ : ∀ G' a' w', ASt N G' frT HT a' w' → Tr G (hget H) w G' (hget HT) w' → Q .normal a' w')
    (hR : ∀ G' fr' H' a' w', Qr .ret fr' H' → ASt N G' fr' H' a' w' → Tr G (hget H) w G' (hget H') w' → Q .ret a' w') : c.wpIn (FW none) n P Q a w := by
  refine wpIn_wide.2 (wp_mono (awp_sound hm c ac hc _ _ _ hA G a w st) fun e a' w' ⟨G', fr', H', hq, st', tr'⟩ => ?_)
  rcases hq with ⟨rfl, ρ, hle⟩ | ⟨rfl, hq⟩
  · obtain ⟨G2, st2, tr2⟩ := st'.le hle
    exact hQ G2 a' w' st2 (tr'.trans tr2)
  · exact hR G' fr' H' a' w' hq st' tr'
end Go.Ab
