/- Lists are no longer than memory lets them be; small steps of arithmetic. -/
import Derived.Test.YtgphapkpoamcgaaBb18
import Derived.IntWalk
set_option linter.unusedVariables false
set_option linter.unusedSimpArgs false
namespace Go.Ab
mutual
/-- no list in it is longer than what memory holds -/
def PV.ok : PV → Prop
  | .lit _ => True
  | .rptr cs => PV.okL cs
  | .list _ xs => xs.length ≤ big ∧ PV.okL xs
  | .agg cs => PV.okL cs
  | .tup cs => PV.okL cs
  | .fn _ cs => PV.okL cs
def PV.okL : List PV → Prop
  | [] => True
  | p :: ps => PV.ok p ∧ PV.okL ps
end
mutual
theorem RP_ok {I : Imm} : ∀ (p : PV) (u : Value), RP I p u → p.ok
  | .lit _, _, _ => trivial
  | .rptr cs, u, r => by
    simp only [RP] at r; obtain ⟨ad, _, r⟩ := r
    simp only [PV.ok]; exact RPC_ok _ _ cs r
  | .list sz xs, u, r => by
    simp only [RP] at r; obtain ⟨a, n, cap, _, h1, _, h3, r⟩ := r
    simp only [PV.ok]
    refine ⟨by omega, ?_⟩
    rcases r with r | ⟨ad, _, r⟩
    · cases xs with
      | nil => trivial
      | cons x xs => simp at h1; omega
    · exact RPE_ok _ _ _ xs r
  | .agg cs, u, r => by
    simp only [RP] at r; obtain ⟨us, _, _, r⟩ := r
    simp only [PV.ok]; exact RPL_ok cs _ r
  | .tup cs, u, r => by
    simp only [RP] at r; obtain ⟨us, _, r⟩ := r
    simp only [PV.ok]; exact RPL_ok cs _ r
  | .fn _ cs, u, r => by
    simp only [RP] at r; obtain ⟨us, _, r⟩ := r
    simp only [PV.ok]; exact RPL_ok cs _ r
theorem RPL_ok {I : Imm} : ∀ (ps : List PV) (us : List Value), RPL I ps us → PV.okL ps
  | [], _, _ => trivial
  | p :: ps, us, r => by
    simp only [RPL] at r; obtain ⟨u, us', _, r1, r2⟩ := r
    exact ⟨RP_ok p u r1, RPL_ok ps us' r2⟩
theorem RPC_ok {I : Imm} (ad : Addr) (k : Nat) : ∀ (ps : List PV), RPC I ad k ps → PV.okL ps
  | [], _ => trivial
  | p :: ps, r => by
    simp only [RPC] at r; obtain ⟨⟨u, _, _, r1⟩, r2⟩ := r
    exact ⟨RP_ok p u r1, RPC_ok ad (k + 1) ps r2⟩
theorem RPE_ok {I : Imm} (ad : Addr) (k sz : Nat) : ∀ (ps : List PV), RPE I ad k sz ps → PV.okL ps
  | [], _ => trivial
  | .agg cs :: ps, r => by
    simp only [RPE] at r
    exact ⟨by simp only [PV.ok]; exact RPC_ok ad k cs r.2.1, RPE_ok ad (k + sz) sz ps r.2.2⟩
  | .lit x :: ps, r => by
    simp only [RPE] at r; obtain ⟨_, ⟨u, _, _, r1⟩, r2⟩ := r
    exact ⟨RP_ok _ u r1, RPE_ok ad (k + sz) sz ps r2⟩
  | .rptr x :: ps, r => by
    simp only [RPE] at r; obtain ⟨_, ⟨u, _, _, r1⟩, r2⟩ := r
    exact ⟨RP_ok _ u r1, RPE_ok ad (k + sz) sz ps r2⟩
  | .list s x :: ps, r => by
    simp only [RPE] at r; obtain ⟨_, ⟨u, _, _, r1⟩, r2⟩ := r
    exact ⟨RP_ok _ u r1, RPE_ok ad (k + sz) sz ps r2⟩
  | .tup x :: ps, r => by
    simp only [RPE] at r; obtain ⟨_, ⟨u, _, _, r1⟩, r2⟩ := r
    exact ⟨RP_ok _ u r1, RPE_ok ad (k + sz) sz ps r2⟩
  | .fn f x :: ps, r => by
    simp only [RPE] at r; obtain ⟨_, ⟨u, _, _, r1⟩, r2⟩ := r
    exact ⟨RP_ok _ u r1, RPE_ok ad (k + sz) sz ps r2⟩
end
theorem PCall.intro' {P : Program} {f : FuncId} {N : Nat} {ac : AC} {rs : List RV} (hf : Fun P f N ac rs) {args ps : List PV} (hN : args.length ≤ N) (h : PV.okL args → awp P ac (retP rs ps) (argFr 0 args) []) : PCall P f args (one ps) := by
  obtain ⟨fn, c, h1, h2, h3, h4, h5, h6⟩ := hf.ex
  exact ⟨⟨fn, h1, by rw [h2]; rfl, h3⟩, fun I w us hI hus => (PCall.intro hf hN (h (RPL_ok args us hus))).2 I w us hI hus⟩
theorem retP_ret {rs : List RV} {ps : List PV} {fr : Fr} {H : Hp} {vs : List V} (B : List Nat) (h1 : resVs fr H rs = some vs) (h2 : VwL (hget H) B vs ps) : retP rs ps .ret fr H := ⟨vs, h1, B, h2⟩
theorem retP_normal {rs : List RV} {ps : List PV} {fr : Fr} {H : Hp} {vs : List V} (B : List Nat) (h1 : resVs fr H rs = some vs) (h2 : VwL (hget H) B vs ps) : retP rs ps .normal fr H := ⟨vs, h1, B, h2⟩
theorem exNat {a : Int} {p : Nat → Prop} : (∃ n : Nat, a = (n : Int) ∧ p n) ↔ 0 ≤ a ∧ p a.toNat :=
  ⟨fun ⟨n, e, h⟩ => by subst e; exact ⟨by omega, by simpa using h⟩, fun ⟨h0, h⟩ => ⟨a.toNat, by omega, h⟩⟩
theorem ACall.pure0 {P : Program} {nb : Nat} {vs : List V} {h : HF} {K : Kont} {f : FuncId} {args : List PV} {r : PV} (B : List Nat) (hc : PCall P f args r) (hv : VwL h B vs args)
    (hK : K (.pv r) B (if r.scal then [] else frz h B)) : ACall P nb (.pv (.fn f [])) vs h K := ACall.pure (caps := []) B (.pv _) hv (by simpa using hc) hK
theorem pc_agg (cs : List PV) : (PV.agg cs).cells = cs := rfl
theorem pc_lit (v : Value) : (PV.lit v).cells = [.lit v] := rfl
theorem pc_rptr (cs : List PV) : (PV.rptr cs).cells = [.rptr cs] := rfl
theorem pc_list (n : Nat) (cs : List PV) : (PV.list n cs).cells = [.list n cs] := rfl
theorem pc_fn (f : FuncId) (cs : List PV) : (PV.fn f cs).cells = [.fn f cs] := rfl
theorem vc_agg (cs : List PV) : (V.pv (.agg cs)).cells? = some (cs.map .pv) := rfl
theorem vc_int (k : IntKind) (n : Int) : (V.pv (.lit (.int k n))).cells? = some [.pv (.lit (.int k n))] := rfl
theorem vc_bool (b : Bool) : (V.pv (.lit (.bool b))).cells? = some [.pv (.lit (.bool b))] := rfl
theorem vc_str (b : ByteArray) : (V.pv (.lit (.string b))).cells? = some [.pv (.lit (.string b))] := rfl
theorem vc_slice (a : Option Addr) (n c : Nat) : (V.pv (.lit (.slice a n c))).cells? = some [.pv (.lit (.slice a n c))] := rfl
theorem vc_ptr (a : Option Addr) : (V.pv (.lit (.pointer a))).cells? = some [.pv (.lit (.pointer a))] := rfl
theorem vc_nilf : (V.pv (.lit .nilFunc)).cells? = some [.pv (.lit .nilFunc)] := rfl
theorem vc_rptr (cs : List PV) : (V.pv (.rptr cs)).cells? = some [.pv (.rptr cs)] := rfl
theorem vc_list (n : Nat) (cs : List PV) : (V.pv (.list n cs)).cells? = some [.pv (.list n cs)] := rfl
theorem vc_fn (f : FuncId) (cs : List PV) : (V.pv (.fn f cs)).cells? = some [.pv (.fn f cs)] := rfl
theorem vc_vagg (cs : List V) : (V.agg cs).cells? = some cs := rfl
theorem vc_vptr (b i o : Nat) : (V.ptr b i o).cells? = some [.ptr b i o] := rfl
theorem vc_row (b n : Nat) (f : Bool) : (V.row b n f).cells? = some [.row b n f] := rfl
theorem vc_vfn (f : FuncId) (cs : List V) : (V.fn f cs).cells? = some [.fn f cs] := rfl
theorem allL_app {S : Nat → Prop} : ∀ (l m : List (List V)), allL S (l ++ m) = (allL S l ∧ allL S m)
  | [], m => by simp [allL]
  | c :: l, m => by simp [allL, allL_app l m, and_assoc]
theorem row_view {h : HF} {B : List Nat} {b n : Nat} {fl ro : Bool} {ty sz : Nat} {xs : List (List V)} {ps : List PV} {tg : Option (Nat × Nat × Nat)} (hb : b ∈ B) (hk : h b = some ⟨ro, ty, sz, xs, tg⟩) (hn : n = xs.length) (hv : VwE h B sz xs ps) : Vw h B (.row b n fl) (.list sz ps) :=
  Vw.row (h := h) (B := B) b n fl ⟨ro, ty, sz, xs, tg⟩ ps hb hk (by subst hn; exact Nat.le_refl _) (by subst hn; rw [List.take_length]; exact hv)
theorem RP_nil {I : Imm} {sz : Nat} {u : Value} (h : RP I (.lit (.slice none 0 0)) u) : RP I (.list sz []) u := by
  simp only [RP] at h ⊢; subst h; exact ⟨none, 0, 0, rfl, rfl, Nat.le_refl _, by unfold big; omega, .inl rfl⟩
theorem Vw_nil {h : HF} {B : List Nat} {sz : Nat} : Vw h B (.pv (.lit (.slice none 0 0))) (.list sz []) := .weak _ _ fun _ _ => RP_nil
theorem big1 : (1 ≤ big) = True := by simp [big]
theorem wrap01 : IntKind.i64.wrap (0 + 1) = ((1 : Nat) : Int) := by decide
section
variable {P : Program} {Q : Post} {fr : Fr} {H : Hp}
/-- a guard's value -/
def gk (vg : V) (want : Bool) (A B : Prop) : Prop :=
  match vg with
  | .pv (.lit (.bool b)) => if b = want then A else B
  | .pv (.lit (.tuple _)) => B
  | _ => False
theorem gk_tt {A B : Prop} (h : A) : gk (.pv (.lit (.bool true))) true A B := by simpa [gk] using h
theorem gk_tf {A B : Prop} (h : B) : gk (.pv (.lit (.bool true))) false A B := by simpa [gk] using h
theorem gk_ft {A B : Prop} (h : B) : gk (.pv (.lit (.bool false))) true A B := by simpa [gk] using h
theorem gk_ff {A B : Prop} (h : A) : gk (.pv (.lit (.bool false))) false A B := by simpa [gk] using h
theorem gk_u {A B : Prop} {w : Bool} (h : B) : gk (.pv (.lit undef)) w A B := by simpa [gk, undef] using h
theorem gk_u' {A B : Prop} {w : Bool} {x : Array Value} (h : B) : gk (.pv (.lit (.tuple x))) w A B := by simpa [gk] using h
theorem gk_s {A B : Prop} {w b : Bool} (h1 : b = true → gk (.pv (.lit (.bool true))) w A B) (h2 : b = false → gk (.pv (.lit (.bool false))) w A B) : gk (.pv (.lit (.bool b))) w A B := by
  cases b with
  | true => exact h1 rfl
  | false => exact h2 rfl
theorem aops_guard {K : Fr → Hp → Prop} {o : AOp} {os : List AOp} {s : Nat} {want : Bool} {vg : V} (hg : o.g = some (s, want)) (hb : get fr s = vg)
    (h : gk vg want (∀ C : Kont, (∀ v rd δ fr' H', put o.dst v fr = fr' → updL H δ = H' → aops P os fr' H' K → C v rd δ) → AX P o.op H.length (get fr) (hget H) C)
      (∀ fr', put o.dst (lv undef) fr = fr' → aops P os fr' H K)) : aops P (o :: os) fr H K := by
  rw [aops, hg]
  simp only [gsel, hb]
  unfold gk at h
  split at h
  · split at h
    · rename_i h1
      simp only [h1, if_true]
      exact h _ fun v rd δ fr' H' e1 e2 h => by subst e1; subst e2; exact h
    · rename_i h1
      simp only [h1, if_false]
      exact h _ rfl
  · exact h _ rfl
  · exact h.elim
theorem aopsD_guard {KD : List Foot → Fr → Hp → Prop} {base i : Nat} {lks : List (List Nat)} {tr : List Foot} {o : AOp} {os : List AOp} {lk : List Nat} {s : Nat} {want : Bool} {vg : V} (hg : o.g = some (s, want)) (hb : get fr s = vg)
    (h : gk vg want (∀ C : Kont, (∀ v rd δ fr' H' tr', put o.dst v fr = fr' → updL H δ = H' → tr ++ [⟨lk, o.dst, rd, δ.map (·.1)⟩] = tr' → aopsD P base (i + 1) os lks fr' H' tr' KD → C v rd δ) → AX P o.op (base + i) (get fr) (hget H) C)
      (∀ fr' tr', put o.dst (lv undef) fr = fr' → tr ++ [⟨lk, o.dst, [], []⟩] = tr' → aopsD P base (i + 1) os lks fr' H tr' KD)) : aopsD P base i (o :: os) (lk :: lks) fr H tr KD := by
  rw [aopsD, hg]
  simp only [gsel, hb]
  unfold gk at h
  split at h
  · split at h
    · rename_i h1
      simp only [h1, if_true]
      exact h _ fun v rd δ fr' H' tr' e1 e2 e3 h => by subst e1; subst e2; subst e3; exact h
    · rename_i h1
      simp only [h1, if_false]
      exact h _ _ rfl rfl
  · exact h _ _ rfl rfl
  · exact h.elim
def ck (vg : V) (A B : Prop) : Prop :=
  match vg with
  | .pv (.lit (.bool b)) => if b then A else B
  | _ => False
theorem ck_t {A B : Prop} (h : A) : ck (.pv (.lit (.bool true))) A B := by simpa [ck] using h
theorem ck_f {A B : Prop} (h : B) : ck (.pv (.lit (.bool false))) A B := by simpa [ck] using h
theorem ck_s {A B : Prop} {b : Bool} (h1 : b = true → A) (h2 : b = false → B) : ck (.pv (.lit (.bool b))) A B := by
  cases b with
  | true => exact ck_t (h1 rfl)
  | false => exact ck_f (h2 rfl)
theorem awp_cond_g {c : Operand} {a b : AC} {vg : V} (hc : ev (get fr) c = vg) (h : ck vg (awp P a Q fr H) (awp P b Q fr H)) : awp P (.cond c a b) Q fr H := by
  unfold ck at h
  split at h
  · split at h
    · rename_i h1; exact awp_cond_k hc (fun _ => h) (fun e => by rw [h1] at e; cases e)
    · rename_i h1; exact awp_cond_k hc (fun e => by rw [e] at h1; exact absurd rfl h1) (fun _ => h)
  · exact h.elim
end
theorem ev_tmp {f : FV} {t : Nat} : ev f (.tmp t) = f t := rfl

theorem wrapS {n : Nat} (h : n ≤ 2305843009213693952) : IntKind.i64.wrap ((n : Int) + 1) = ((n + 1 : Nat) : Int) := by
  rw [IntWalk.i64_in _ (by omega)]; omega
theorem wrapP {n : Nat} (h : n ≤ 2305843009213693952) : IntKind.i64.wrap ((n + 1 : Nat) - (1 : Int)) = (n : Int) := by
  rw [IntWalk.i64_in _ (by omega)]; omega
theorem lt_app {α} (l m : List α) (c : α) : (decide ((l.length : Int) < ((l ++ c :: m).length : Int))) = true := by simp; omega
theorem lt_zero {α} : (decide ((0 : Int) < (([] : List α).length : Int))) = false := rfl
theorem lt0S (n : Nat) : (decide ((0 : Int) < ((n + 1 : Nat) : Int))) = true := by simp
theorem lt0Z : (decide ((0 : Int) < ((0 : Nat) : Int))) = false := rfl
theorem lt_end {α} (l : List α) : (decide ((l.length : Int) < (l.length : Int))) = false := by simp
theorem nat_nn (n : Nat) : (0 ≤ (n : Int)) = True := by simp
theorem bind_ite {c : Bool} {α} (a : α) : (if c = true then a else a) = a := by cases c <;> rfl
end Go.Ab
