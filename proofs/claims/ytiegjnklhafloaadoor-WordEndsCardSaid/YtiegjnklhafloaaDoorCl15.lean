/-
  Code, functions, calls: what the clean evaluator says is what the model does.
-/
import Derived.Test.YtiegjnklhafloaaDoorCl14
import Derived.Test.YtiegjnklhafloaaDoorClM
import Derived.Deep.LoopGhost
import Derived.Scope
namespace Go.Cl
open Go
set_option linter.unusedSimpArgs false
set_option linter.unusedVariables false

def codeM (P : Program) (G : Gam) (N : Nat) : Code → SCode → Bool
  | .skip, .skip => true
  | .label _, .skip => true
  | .region _ ops draw, .ops l D _ => (match draw, D with
    | false, none => opsM P G N ops ops.toList l
    | true, some D => drawM P G N ops l D
    | _, _ => false)
  | .seq a b, .seq a' b' => codeM P G N a a' && codeM P G N b b'
  | .cond c x y, .cond c' x' y' => opdM G c c' && codeM P G N x x' && codeM P G N y y'
  | .block id b, .block id' b' => id == id' && codeM P G N b b'
  | .loop b, .loop _ b' => codeM P G N b b'
  | .exit id, .exit id' => id == id'
  | .ret, .ret => true
  | .scope b, s => codeM P G N b s
  | _, _ => false

def Ex.go : Ex → Exit
  | .normal => .normal
  | .exit id => .exit id
  | .ret => .ret

section
variable {P : Program} {G : Gam} {N : Nat} {call : CallF}

theorem code_wp (hmix : P.follows .mixedOrders = true) (hG : Good P G) (hC : CallOK P G call) (hL : CallLen call) :
    ∀ (n : Nat) (c : Code) (sc : SCode), codeM P G N c sc = true → ∀ (m : Mp) (e : Env) (h : Heap) (a : Act) (w : World) (x : Ex) (e' : Env) (h' : Heap) (Q : Exit → Act → World → Prop), evC call n sc e h = some (x, e', h') → ER G m N e a → Sim G m h w →
      (∀ m' a' w', ER G m' N e' a' → a'.defers = a.defers → Sim G m' h' w' → Evo m h w m' h' w' → Q x.go a' w') → c.wp P Q a w := by
  intro n
  induction n with
  | zero => intro c sc _ m e h a w x e' h' Q hev; simp [evC] at hev
  | succ n ih =>
    intro c
    induction c with
    | scope b ihb =>
      intro sc hM m e h a w x e' h' Q hev he s hQ
      refine wp_scope_straight (ihb sc (by cases sc <;> exact hM) m e h a w x e' h' _ hev he s ?_)
      intro m' a' w' g1 g2 g3 g4
      have := hQ m' a' w' g1 g2 g3 g4
      cases x <;> exact this
    | skip =>
      intro sc hM m e h a w x e' h' Q hev he s hQ
      cases sc <;> simp [codeM] at hM
      simp [evC] at hev
      obtain ⟨rfl, rfl, rfl⟩ := hev
      exact wp_skip (hQ m a w he rfl s (Evo.refl ..))
    | label k =>
      intro sc hM m e h a w x e' h' Q hev he s hQ
      cases sc <;> simp [codeM] at hM
      simp [evC] at hev
      obtain ⟨rfl, rfl, rfl⟩ := hev
      exact wp_label (hQ m a w he rfl s (Evo.refl ..))
    | region id ops draw =>
      intro sc hM m e h a w x e' h' Q hev he s hQ
      cases sc <;> simp [codeM] at hM
      rename_i l D keep
      simp only [evC] at hev
      cases h1 : evOps call l l e h with
      | none => simp [h1] at hev
      | some p =>
        obtain ⟨e1, h1'⟩ := p
        simp [h1] at hev
        obtain ⟨rfl, rfl, rfl⟩ := hev
        cases draw <;> cases D <;> simp at hM
        · refine wp_region ?_
          have := ops_wp hG hC (Q := Q) ops.toList l 0 (by simp) hM m e h a w e1 h1' l h1 he s fun m' a' w' g1 g2 g3 g4 => hQ m' a' w' (g1.only keep) g2 g3 g4
          rw [List.range_eq_range']
          simpa using this
        · exact draw_wp hmix hG hC hL hM h1 he s fun m' a' w' g1 g2 g3 g4 => hQ m' a' w' (g1.only keep) g2 g3 g4
    | seq c1 c2 _ _ =>
      intro sc hM m e h a w x e' h' Q hev he s hQ
      cases sc <;> simp [codeM] at hM
      rename_i s1 s2
      simp only [evC] at hev
      cases h1 : evC call n s1 e h with
      | none => simp [h1] at hev
      | some p =>
        obtain ⟨x1, e1, h1'⟩ := p
        cases x1 with
        | normal =>
          simp [h1] at hev
          refine wp_seq (ih c1 s1 hM.1 m e h a w .normal e1 h1' _ h1 he s ?_)
          intro m1 a1 w1 g1 g2 g3 g4
          show c2.wp P Q a1 w1
          refine ih c2 s2 hM.2 m1 e1 h1' a1 w1 x e' h' Q hev g1 g3 ?_
          intro m2 a2 w2 k1 k2 k3 k4
          exact hQ m2 a2 w2 k1 (k2.trans g2) k3 (g4.trans k4)
        | exit id =>
          simp [h1] at hev
          obtain ⟨rfl, rfl, rfl⟩ := hev
          exact wp_seq (ih c1 s1 hM.1 m e h a w _ _ _ _ h1 he s fun m' a' w' g1 g2 g3 g4 => hQ m' a' w' g1 g2 g3 g4)
        | ret =>
          simp [h1] at hev
          obtain ⟨rfl, rfl, rfl⟩ := hev
          exact wp_seq (ih c1 s1 hM.1 m e h a w _ _ _ _ h1 he s fun m' a' w' g1 g2 g3 g4 => hQ m' a' w' g1 g2 g3 g4)
    | cond c x1 x2 _ _ =>
      intro sc hM m e h a w x e' h' Q hev he s hQ
      cases sc <;> simp [codeM] at hM
      rename_i c' s1 s2
      simp only [evC] at hev
      cases hc : c'.ev e with
      | none => simp [hc] at hev
      | some cv =>
        cases cv <;> simp [hc] at hev
        rename_i b
        have hb := tr_bool (opd_sim he hM.1.1 hc)
        cases b with
        | true => simp at hev; exact wp_cond_true hb (ih x1 s1 hM.1.2 m e h a w x e' h' Q hev he s hQ)
        | false => simp at hev; exact wp_cond_false hb (ih x2 s2 hM.2 m e h a w x e' h' Q hev he s hQ)
    | block id b _ =>
      intro sc hM m e h a w x e' h' Q hev he s hQ
      cases sc <;> simp [codeM] at hM
      rename_i id' b'
      obtain ⟨rfl, hM⟩ := hM
      simp only [evC] at hev
      cases h1 : evC call n b' e h with
      | none => simp [h1] at hev
      | some p =>
        obtain ⟨x1, e1, h1'⟩ := p
        refine wp_block (ih b b' hM m e h a w x1 e1 h1' _ h1 he s ?_)
        intro m1 a1 w1 g1 g2 g3 g4
        cases x1 with
        | normal =>
          simp [h1] at hev
          obtain ⟨rfl, rfl, rfl⟩ := hev
          exact hQ m1 a1 w1 g1 g2 g3 g4
        | exit i =>
          simp [h1] at hev
          show (if i = id then Q .normal a1 w1 else Q (.exit i) a1 w1)
          split at hev
          · rename_i hi
            simp at hev
            obtain ⟨rfl, rfl, rfl⟩ := hev
            rw [if_pos hi]; exact hQ m1 a1 w1 g1 g2 g3 g4
          · rename_i hi
            simp at hev
            obtain ⟨rfl, rfl, rfl⟩ := hev
            rw [if_neg hi]; exact hQ m1 a1 w1 g1 g2 g3 g4
        | ret =>
          simp [h1] at hev
          obtain ⟨rfl, rfl, rfl⟩ := hev
          exact hQ m1 a1 w1 g1 g2 g3 g4
    | loop b _ =>
      intro sc hM m e h a w x e' h' Q hev he s hQ
      cases sc <;> simp [codeM] at hM
      rename_i live b'
      refine wp_loop_ghost (fun k a1 w1 => k ≤ n + 1 ∧ ∃ m1 e1 h1, evC call k (.loop live b') e1 h1 = some (x, e', h') ∧ ER G m1 N e1 a1 ∧ a1.defers = a.defers ∧ Sim G m1 h1 w1 ∧ Evo m h w m1 h1 w1) (n + 1) ⟨Nat.le_refl _, m, e, h, hev, he, rfl, s, Evo.refl ..⟩ ?_
      rintro k a1 w1 ⟨hk, m1, e1, h1, hev1, he1, hd1, s1, ev1⟩
      cases k with
      | zero => simp [evC] at hev1
      | succ k =>
        simp only [evC] at hev1
        cases hb : evC call k b' (Env.only live e1) h1 with
        | none => simp [hb] at hev1
        | some p =>
          obtain ⟨x2, e2, h2⟩ := p
          refine ih b b' hM m1 (Env.only live e1) h1 a1 w1 x2 e2 h2 _ (evC_le (CallLe.refl call) k n (by omega) hb) (he1.only live) s1 ?_
          intro m2 a2 w2 g1 g2 g3 g4
          cases x2 with
          | normal =>
            simp [hb] at hev1
            exact ⟨k, Nat.lt_succ_self k, by omega, m2, e2, h2, hev1, g1, g2.trans hd1, g3, ev1.trans g4⟩
          | exit i =>
            simp [hb] at hev1
            obtain ⟨rfl, rfl, rfl⟩ := hev1
            exact hQ m2 a2 w2 g1 (g2.trans hd1) g3 (ev1.trans g4)
          | ret =>
            simp [hb] at hev1
            obtain ⟨rfl, rfl, rfl⟩ := hev1
            exact hQ m2 a2 w2 g1 (g2.trans hd1) g3 (ev1.trans g4)
    | exit id =>
      intro sc hM m e h a w x e' h' Q hev he s hQ
      cases sc <;> simp [codeM] at hM
      subst hM
      simp [evC] at hev
      obtain ⟨rfl, rfl, rfl⟩ := hev
      exact wp_exit (hQ m a w he rfl s (Evo.refl ..))
    | ret =>
      intro sc hM m e h a w x e' h' Q hev he s hQ
      cases sc <;> simp [codeM] at hM
      simp [evC] at hev
      obtain ⟨rfl, rfl, rfl⟩ := hev
      exact wp_ret (hQ m a w he rfl s (Evo.refl ..))
    | goto k => intro sc hM; cases sc <;> simp [codeM] at hM
    | refuse y => intro sc hM; cases sc <;> simp [codeM] at hM
    | rangeFunc f ps c1 c2 _ _ => intro sc hM; cases sc <;> simp [codeM] at hM

theorem evOps_len (hL : CallLen call) {all : List SOper} : ∀ {l : List SOper} {e e' : Env} {h h' : Heap}, evOps call all l e h = some (e', h') → h.length ≤ h'.length
  | [], e, e', h, h', hev => by simp [evOps] at hev; rw [hev.2]; exact Nat.le_refl _
  | o :: l, e, e', h, h', hev => by
    simp only [evOps] at hev
    cases h1 : evOper call all o e h with
    | none => simp [h1] at hev
    | some p =>
      obtain ⟨e1, h1'⟩ := p
      simp only [h1] at hev
      have hk := evOps_len hL hev
      refine Nat.le_trans ?_ hk
      simp only [evOper] at h1
      cases hw : wanted e o.guard with
      | none => simp [hw] at h1
      | some b =>
        cases b with
        | false => simp [hw] at h1; rw [h1.2]; exact Nat.le_refl _
        | true =>
          simp only [hw] at h1
          cases h2 : evOp call o.op e h with
          | none => simp [h2] at h1
          | some q =>
            obtain ⟨v, h3⟩ := q
            simp only [h2] at h1
            split at h1
            · simp at h1; rw [← h1.2]; exact evOp_len hL h2
            · cases h1

theorem evC_len (hL : CallLen call) : ∀ (n : Nat) {sc : SCode} {e e' : Env} {h h' : Heap} {x : Ex}, evC call n sc e h = some (x, e', h') → h.length ≤ h'.length
  | 0, sc, e, e', h, h', x, hev => by simp [evC] at hev
  | n + 1, sc, e, e', h, h', x, hev => by
    have ih := fun {sc e e' h h' x} (k : evC call n sc e h = some (x, e', h')) => evC_len hL n (sc := sc) (e := e) (e' := e') (h := h) (h' := h') (x := x) k
    cases sc with
    | skip => simp [evC] at hev; rw [hev.2.2]; exact Nat.le_refl _
    | exit id => simp [evC] at hev; rw [hev.2.2]; exact Nat.le_refl _
    | ret => simp [evC] at hev; rw [hev.2.2]; exact Nat.le_refl _
    | ops l D keep =>
      simp only [evC] at hev
      cases h1 : evOps call l l e h with
      | none => simp [h1] at hev
      | some p => obtain ⟨e1, h1'⟩ := p; simp [h1] at hev; rw [← hev.2.2]; exact evOps_len hL h1
    | seq a b =>
      simp only [evC] at hev
      cases h1 : evC call n a e h with
      | none => simp [h1] at hev
      | some p =>
        obtain ⟨x1, e1, h1'⟩ := p
        cases x1 <;> simp only [h1] at hev
        · exact Nat.le_trans (ih h1) (ih hev)
        · simp at hev; rw [← hev.2.2]; exact ih h1
        · simp at hev; rw [← hev.2.2]; exact ih h1
    | cond y a b =>
      simp only [evC] at hev
      cases hx : y.ev e with
      | none => simp [hx] at hev
      | some v =>
        cases v <;> simp [hx] at hev
        rename_i t
        cases t <;> simp at hev <;> exact ih hev
    | block id b =>
      simp only [evC] at hev
      cases h1 : evC call n b e h with
      | none => simp [h1] at hev
      | some p =>
        obtain ⟨x1, e1, h1'⟩ := p
        cases x1 <;> simp only [h1] at hev
        · simp at hev; rw [← hev.2.2]; exact ih h1
        · split at hev <;> (simp at hev; rw [← hev.2.2]; exact ih h1)
        · simp at hev; rw [← hev.2.2]; exact ih h1
    | loop live b =>
      simp only [evC] at hev
      cases h1 : evC call n b (Env.only live e) h with
      | none => simp [h1] at hev
      | some p =>
        obtain ⟨x1, e1, h1'⟩ := p
        cases x1 <;> simp only [h1] at hev
        · exact Nat.le_trans (ih h1) (ih hev)
        · simp at hev; rw [← hev.2.2]; exact ih h1
        · simp at hev; rw [← hev.2.2]; exact ih h1

/-! ### results -/

def rvM (P : Program) : List ResultVar → List RV → Bool
  | [], [] => true
  | .tmp t :: r, .t t' :: r' => t == t' && rvM P r r'
  | .cell a t :: r, .cell n t' :: r' => a == t' && ldM P t n && rvM P r r'
  | _, _ => false

def rvGet (tmps : Array Value) : ResultVar → Sem Value
  | .tmp t => pure (tmps.getD t undef)
  | .cell b t => do loadVar t (← asAddr (tmps.getD b undef))

theorem results_eq (fn : Func) (tmps : Array Value) : results fn tmps = (do let vs ← fn.results.mapM (rvGet tmps); pure (if h : vs.size = 1 then vs[0] else .tuple vs)) := by
  unfold results
  have : (fun x : ResultVar => match x with | .tmp t => (pure (tmps.getD t undef) : Sem Value) | .cell a t => do loadVar t (← asAddr (tmps.getD a undef))) = rvGet tmps := by
    funext x; cases x <;> rfl
  rw [← this]
  rfl

theorem rvs_sim {m : Mp} {e : Env} {h : Heap} {a : Act} {w : World} (he : ER G m N e a) (s : Sim G m h w) : ∀ (R : List ResultVar) (R' : List RV) (rs : List CV), rvM P R R' = true → rvs e h R' = some rs →
    ∃ vs, (R.mapM (rvGet a.tmps)).run P w = .ok vs w ∧ trL G m rs = some vs
  | [], [], rs, _, hr => by simp [rvs] at hr; subst hr; exact ⟨[], by simp, rfl⟩
  | [], _ :: _, _, hM, _ => by simp [rvM] at hM
  | .tmp t :: R, [], _, hM, _ => by simp [rvM] at hM
  | .cell _ _ :: R, [], _, hM, _ => by simp [rvM] at hM
  | .tmp t :: R, .cell _ _ :: R', _, hM, _ => by simp [rvM] at hM
  | .cell _ _ :: R, .t _ :: R', _, hM, _ => by simp [rvM] at hM
  | .tmp t :: R, .t t' :: R', rs, hM, hr => by
    simp [rvM] at hM
    obtain ⟨rfl, hM⟩ := hM
    simp only [rvs] at hr
    cases hg : Env.get e t with
    | none => simp [hg] at hr
    | some v =>
      cases hrs : rvs e h R' with
      | none => simp [hg, hrs] at hr
      | some vs =>
        simp [hg, hrs] at hr; subst hr
        obtain ⟨us, g1, g2⟩ := rvs_sim he s R R' vs hM hrs
        have hv := opd_sim he (x := .tmp t) (y := .t t) (by simp [opdM]) (v := v) hg
        refine ⟨a.tmps.getD t undef :: us, ?_, trL_cons_mk hv g2⟩
        rw [List.mapM_cons]
        simp only [rvGet, Sem.run_bind, Sem.run_pure, Result.andThen_ok, g1]
  | .cell b t :: R, .cell n t' :: R', rs, hM, hr => by
    simp [rvM] at hM
    obtain ⟨⟨rfl, hld⟩, hM⟩ := hM
    simp only [rvs] at hr
    cases hg : Env.get e b with
    | none => simp [hg] at hr
    | some v =>
      cases v <;> simp [hg] at hr
      rename_i bb oo
      cases hl : loadAt h bb oo n with
      | none => simp [hl] at hr
      | some v =>
        cases hrs : rvs e h R' with
        | none => simp [hl, hrs] at hr
        | some vs =>
          simp [hl, hrs] at hr; subst hr
          obtain ⟨us, g1, g2⟩ := rvs_sim he s R R' vs hM hrs
          have hv := opd_sim he (x := .tmp b) (y := .t b) (by simp [opdM]) (v := .ptr bb oo) hg
          obtain ⟨L, q1, q2⟩ := tr_ptr hv
          obtain ⟨rv, k1, k2⟩ := loadAt_sim (P := P) s q1 hld hl
          refine ⟨rv :: us, ?_, trL_cons_mk k2 g2⟩
          have q2' : a.tmps.getD b undef = .pointer (some (L.ad oo)) := q2
          rw [List.mapM_cons]
          simp only [rvGet, Sem.run_bind, q2', asAddr, Sem.run_pure, Result.andThen_ok, k1, g1]

theorem results_sim {m : Mp} {e : Env} {h : Heap} {a : Act} {w : World} (he : ER G m N e a) (s : Sim G m h w) {fn : Func} {R' : List RV} {rs : List CV} (hM : rvM P fn.results.toList R' = true) (hr : rvs e h R' = some rs) :
    ∃ rv, (results fn a.tmps).run P w = .ok rv w ∧ tr G m (result rs) = some rv := by
  obtain ⟨vs, g1, g2⟩ := rvs_sim he s _ R' rs hM hr
  have hlen := trL_length g2
  refine ⟨if hh : vs.toArray.size = 1 then vs.toArray[0] else .tuple vs.toArray, ?_, ?_⟩
  · rw [results_eq, Sem.run_bind, Array.mapM_eq_mapM_toList, Sem.run_map, g1]
    rfl
  · match rs, vs, g2, hlen with
    | [], [], _, _ => rfl
    | [r], [v], g2, _ =>
      obtain ⟨x, xs, h1, h2, h3⟩ := trL_cons g2
      simp [trL] at h2; subst h2
      simp at h3; subst h3
      exact h1
    | r :: r2 :: rs, v :: v2 :: vs, g2, _ =>
      simp [result, tr, g2]
    | [], _ :: _, _, hl => simp at hl
    | [_], [], _, hl => simp at hl
    | [_], _ :: _ :: _, _, hl => simp at hl
    | _ :: _ :: _, [], _, hl => simp at hl
    | _ :: _ :: _, [_], _, hl => simp at hl

/-! ### functions -/

def funM (P : Program) (G : Gam) (sf : SFunc) (fn : Func) : Bool :=
  (match fn.body with | some c => codeM P G fn.ntmps c sf.body | none => false) && rvM P fn.results.toList sf.results && !(fn.name == "runtime.NumGoroutine")

theorem args_get : ∀ (vs : List CV) (k i : Nat) (v : CV), Env.get (args k vs) i = some v → k ≤ i ∧ vs[i - k]? = some v
  | [], k, i, v, h => by simp [args, Env.get] at h
  | u :: vs, k, i, v, h => by
    simp only [args, Env.get] at h
    by_cases hi : i = k
    · subst hi; simp at h; subst h; simp
    · rw [if_neg hi] at h
      obtain ⟨h1, h2⟩ := args_get vs (k + 1) i v h
      exact ⟨by omega, by rw [show i - k = (i - (k + 1)) + 1 by omega]; simpa using h2⟩

/-- a program's functions, each with its clean text -/
def Linked (P : Program) (G : Gam) (Pg : Prog) : Prop :=
  ∀ f fid, G.F f = some fid → ∀ sf, Pg f = some sf → ∃ fn, P.funcs[fid]? = some fn ∧ funM P G sf fn = true

/-- functions that are taken by what is proved of them elsewhere -/
def PrimOK (P : Program) (G : Gam) (pr : Prims) : Prop :=
  ∀ f g, pr f = some g → ∀ vs h r h', g vs h = some (r, h') → h.length ≤ h'.length ∧ ∀ fid, G.F f = some fid → CallSim P G fid vs h r h'

theorem call_all (hmix : P.follows .mixedOrders = true) (hG : Good P G) {Pg : Prog} {pr : Prims} (hLk : Linked P G Pg) (hPr : PrimOK P G pr) : ∀ n, CallOK P G (evCall Pg pr n) ∧ CallLen (evCall Pg pr n)
  | 0 => ⟨fun f vs h r h' hev => by simp [evCall] at hev, fun f vs h r h' hev => by simp [evCall] at hev⟩
  | n + 1 => by
    obtain ⟨ih1, ih2⟩ := call_all hmix hG hLk hPr n
    refine ⟨?_, ?_⟩
    · intro f vs h r h' hev fid hf
      simp only [evCall] at hev
      cases hp : pr f with
      | some g => simp only [hp] at hev; exact (hPr f g hp vs h r h' hev).2 fid hf
      | none =>
        simp only [hp] at hev
        cases hs : Pg f with
        | none => simp [hs] at hev
        | some sf =>
          simp only [hs] at hev
          obtain ⟨fn, h1, h2⟩ := hLk f fid hf sf hs
          simp only [funM, Bool.and_eq_true] at h2
          obtain ⟨⟨h2, h3⟩, h4⟩ := h2
          cases hb : fn.body with
          | none => simp [hb] at h2
          | some c =>
            simp only [hb] at h2
            simp only [evBody] at hev
            intro m w rvs s hv
            cases hc : evC (evCall Pg pr n) n sf.body (args 0 vs) h with
            | none => simp [hc] at hev
            | some p =>
              obtain ⟨x, e1, h1'⟩ := p
              refine calls_of_wp h1 hb ?_
              have hER : ER G m fn.ntmps (args 0 vs) { tmps := rvs.toArray ++ Array.replicate (fn.ntmps - rvs.toArray.size) undef, defers := [] } := by
                refine ⟨by simp; omega, fun i v hi => ?_⟩
                obtain ⟨_, hi⟩ := args_get vs 0 i v hi
                obtain ⟨rv, k1, k2⟩ := trL_get hv _ v hi
                refine ⟨rv, k1, ?_⟩
                have hlt : i < rvs.length := by have := (List.getElem?_eq_some_iff.1 k2).1; simpa using this
                rw [Array.getElem?_append_left (by simpa using hlt)]
                simpa using k2
              refine code_wp hmix hG ih1 ih2 n c sf.body h2 m _ h _ w x e1 h1' _ hc hER s ?_
              intro m' a' w' g1 g2 g3 g4
              cases x with
              | exit id => simp [hc] at hev
              | normal =>
                simp only [hc] at hev
                cases hr : Cl.rvs e1 h1' sf.results with
                | none => simp [hr] at hev
                | some rs =>
                  simp [hr] at hev
                  obtain ⟨rfl, rfl⟩ := hev
                  obtain ⟨rv, q1, q2⟩ := results_sim (fn := fn) g1 g3 h3 hr
                  exact ⟨g2, rv, q1, m', rv, rfl, q2, g3, g4⟩
              | ret =>
                simp only [hc] at hev
                cases hr : Cl.rvs e1 h1' sf.results with
                | none => simp [hr] at hev
                | some rs =>
                  simp [hr] at hev
                  obtain ⟨rfl, rfl⟩ := hev
                  obtain ⟨rv, q1, q2⟩ := results_sim (fn := fn) g1 g3 h3 hr
                  exact ⟨g2, rv, q1, m', rv, rfl, q2, g3, g4⟩
    · intro f vs h r h' hev
      simp only [evCall] at hev
      cases hp : pr f with
      | some g => simp only [hp] at hev; exact (hPr f g hp vs h r h' hev).1
      | none =>
        simp only [hp] at hev
        cases hs : Pg f with
        | none => simp [hs] at hev
        | some sf =>
          simp only [hs, evBody] at hev
          cases hc : evC (evCall Pg pr n) n sf.body (args 0 vs) h with
          | none => simp [hc] at hev
          | some p =>
            obtain ⟨x, e1, h1'⟩ := p
            have hl := evC_len ih2 n hc
            cases x <;> simp only [hc] at hev
            · split at hev
              · simp at hev; rw [← hev.2]; exact hl
              · cases hev
            · cases hev
            · split at hev
              · simp at hev; rw [← hev.2]; exact hl
              · cases hev

end
end Go.Cl
