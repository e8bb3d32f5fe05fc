/-
  One operation, with its guard, of whatever kind: a call by what is known of the callee.
-/
import Derived.Test.YtiegjnklhafloaaDoorCl9
namespace Go.Cl
open Go
set_option linter.unusedSimpArgs false
set_option linter.unusedVariables false

/-- what a call comes to, said of the model -/
def CallSim (P : Program) (G : Gam) (fid : FuncId) (vs : List CV) (h : Heap) (r : CV) (h' : Heap) : Prop :=
  ∀ (m : Mp) (w : World) (rvs : List Value), Sim G m h w → trL G m vs = some rvs →
    Calls P fid rvs.toArray w fun e w' => ∃ m' rv, e = .returned rv ∧ tr G m' r = some rv ∧ Sim G m' h' w' ∧ Evo m h w m' h' w'

def CallOK (P : Program) (G : Gam) (call : CallF) : Prop :=
  ∀ f vs h r h', call f vs h = some (r, h') → ∀ fid, G.F f = some fid → CallSim P G fid vs h r h'

/-- the functions that the clean numbers stand for have bodies -/
def Good (P : Program) (G : Gam) : Prop :=
  ∀ g fid, G.F g = some fid → ∃ fn, P.funcs[fid]? = some fn ∧ fn.body.isNone = false ∧ (fn.name == "runtime.NumGoroutine") = false

def guardM (ops : Array Oper) : Option (Nat × Bool) → Option (Nat × Bool) → Bool
  | none, none => true
  | some (j, x), some (t, y) => x == y && ((ops[j]?).bind (·.dst)) == some t
  | _, _ => false

def operM (P : Program) (G : Gam) (N : Nat) (ops : Array Oper) (o : Oper) (s : SOper) : Bool :=
  opM P G o.op s.op && o.dst == s.dst && (match s.dst with | some d => decide (d < N) | none => true) && guardM ops o.guard s.guard

section
variable {P : Program} {G : Gam} {m : Mp} {N : Nat} {e : Env} {a : Act} {w : World} {h h' : Heap} {v : CV} {call : CallF}

theorem guard_sim {ops : Array Oper} {g : Option (Nat × Bool)} {g' : Option (Nat × Bool)} (hM : guardM ops g g' = true) (he : ER G m N e a) {o : Oper} (ho : o.guard = g) {b : Bool} (hw : wanted e g' = some b) : Region.wanted o (yielded ops a.tmps) = b := by
  unfold Region.wanted
  rw [ho]
  cases g with
  | none =>
    cases g' with
    | none => simp [wanted] at hw; subst hw; rfl
    | some _ => simp [guardM] at hM
  | some p =>
    obtain ⟨j, x⟩ := p
    cases g' with
    | none => simp [guardM] at hM
    | some q =>
      obtain ⟨t, y⟩ := q
      simp [guardM] at hM
      obtain ⟨rfl, hj⟩ := hM
      simp only [wanted] at hw
      have hy : ∀ rv, a.tmps[t]? = some rv → yielded ops a.tmps j = (match rv with | .bool b => some b | _ => none) := by
        intro rv hrv
        unfold yielded
        have : ((ops[j]?).bind (·.dst)).bind (a.tmps[·]?) = some rv := by rw [hj]; simpa using hrv
        rw [this]
        cases rv <;> rfl
      cases hg : e.get t with
      | none => simp [hg] at hw
      | some c =>
        obtain ⟨rv, h1, h2⟩ := he.get t c hg
        cases c <;> simp [hg] at hw
        · rename_i b'
          obtain rfl := tr_bool h1
          show (yielded ops a.tmps j == some x) = b
          rw [hy _ h2, ← hw]; cases b' <;> cases x <;> rfl
        · rename_i l
          cases l <;> simp at hw
          subst hw
          obtain ⟨vs, q1, rfl⟩ := tr_tup h1
          show (yielded ops a.tmps j == some x) = false
          rw [hy _ h2]; rfl

/-- an operation that is run: what holds behind it -/
theorem heavy_wp {o : Oper} (hh : Heavy P G o a m h w v h') {K : Act → World → Prop} {Q : Exit → Act → World → Prop}
    (hK : ∀ m' rv w', tr G m' v = some rv → Sim G m' h' w' → Evo m h w m' h' w' → K (a.put o.dst rv) w') : o.wp P a w K Q := by
  obtain ⟨m', nx, rv, w', g1, g2, g3, g4, g5⟩ := hh
  unfold Oper.wp
  rw [g1]
  rcases g2 with rfl | ⟨rfl, rfl⟩
  · exact hK m' rv w' g3 g4 g5
  · exact hK m' undef w' g3 g4 g5

theorem quiet_heavy {o : Oper} (hq : Quiet P G o a m w v) (s : Sim G m h w) : Heavy P G o a m h w v h := by
  obtain ⟨rv, g1, g2⟩ := hq
  exact ⟨m, _, rv, w, g1, .inl rfl, g2, s, Evo.refl ..⟩

theorem WGrow.evo {w w' : World} (g : WGrow w w') (hs : Sim G m h w) {g' : List Obj} {m' : Mp} (hm : (g' = [] → m' = m) ∧ ∀ ob, g' = [ob] → ∃ L, m' = m.upd h.length L ∧ (ownedO ob = true → w.heap.size ≤ L.blk)) (hl : g'.length ≤ 1) :
    Evo m h w m' (h ++ g') w' := by
  have hnone : m h.length = none := by
    cases hk : m h.length with
    | none => rfl
    | some L' => exact absurd (hs.dom _ _ hk) (by omega)
  have hcase : g' = [] ∨ ∃ ob, g' = [ob] := by
    cases g' with
    | nil => exact .inl rfl
    | cons x l => cases l with
      | nil => exact .inr ⟨x, rfl⟩
      | cons _ _ => simp at hl
  rcases hcase with rfl | ⟨ob, rfl⟩
  · obtain rfl := hm.1 rfl
    refine ⟨Mp.le_refl _, by simp, fun b hb e => ⟨e, by simp⟩, g.os, g.out, g.size, fun r hr _ => g.old r hr, fun b L e o => .inr ⟨b, L, e, by simpa using o, rfl⟩⟩
  · obtain ⟨L, rfl, hO⟩ := hm.2 ob rfl
    refine ⟨Mp.upd_le hnone, by simp, fun b hb e => ⟨?_, List.getElem?_append_left hb⟩, g.os, g.out, g.size, fun r hr _ => g.old r hr, ?_⟩
    · have : b ≠ h.length := by omega
      simp [Mp.upd, this, e]
    · intro b L' e o
      by_cases hb : b = h.length
      · subst hb; rw [Mp.upd_same] at e; cases e
        obtain ⟨x, q1, q2⟩ := o
        simp at q1; subst q1
        exact .inl (hO q2)
      · simp [Mp.upd, hb] at e
        obtain ⟨x, q1, q2⟩ := o
        rw [List.getElem?_append_left (hs.dom b L' e)] at q1
        exact .inr ⟨b, L', e, ⟨x, q1, q2⟩, rfl⟩

theorem makes_any {o : Oper} {sop : SOp} {hp hp' hq : Heap} (hc : cls sop = 2) (hM : opM P G o.op sop = true) (hev : evOp call sop e hp = some (v, hp')) (he : ER G m N e a) (s : Sim G m hq w) :
    ∃ g, hp' = hp ++ g ∧ g.length ≤ 1 ∧ ((∀ ob, g = [ob] → hq[hp.length]? = some ob ∧ m hp.length = none) → Makes P G o a m hq w hp.length g v) := by
  cases sop <;> simp only [cls] at hc <;> (try (exact absurd hc (by decide)))
  · exact m_toBytes hM hev he s
  · exact m_alloc hM hev s
  · exact m_box hM hev he s
  · exact m_buildSl hM hev he s
  · exact m_slSl hM hev he s
  · exact m_mkmap hM hev s
  · exact m_mksl hM hev he s

theorem makes_heavy {o : Oper} {sop : SOp} (hc : cls sop = 2) (hM : opM P G o.op sop = true) (hev : evOp call sop e h = some (v, h')) (he : ER G m N e a) (s : Sim G m h w) : Heavy P G o a m h w v h' := by
  obtain ⟨g, h1, h2, _⟩ := makes_any (hq := h) hc hM hev he s
  obtain ⟨g', h1', h2', h3⟩ := makes_any (hq := h ++ g) hc hM hev he (s.more g)
  have hgg : g' = g := by rw [h1] at h1'; exact (List.append_cancel_left h1').symm
  subst hgg
  have hnone : m h.length = none := by
    cases hk : m h.length with
    | none => rfl
    | some L' => exact absurd (s.dom _ _ hk) (by omega)
  obtain ⟨m', rv, w', q1, q2, q3, q4, q5, q6⟩ := (h3 fun ob hob => ⟨by rw [hob]; simp, hnone⟩).go
  subst h1
  exact ⟨m', _, rv, w', q1, .inl rfl, q2, q3, q4.evo s ⟨q5, q6⟩ h2⟩

theorem call_wp {o : Oper} {K : Act → World → Prop} {Q : Exit → Act → World → Prop} (hG : Good P G) {f : Nat} {fid : FuncId} (hf : G.F f = some fid) {vs : List CV} {rvs : List Value} (hv : trL G m vs = some rvs) (s : Sim G m h w)
    (hc : CallSim P G fid vs h v h') (hrun : (execOp a.eval o).run P w = (callFunc fid rvs.toArray).run P w)
    (hK : ∀ m' rv w', tr G m' v = some rv → Sim G m' h' w' → Evo m h w m' h' w' → K (a.put o.dst rv) w') : o.wp P a w K Q := by
  obtain ⟨fn, h1, h2, h3⟩ := hG f fid hf
  have hr : (callFunc fid rvs.toArray).run P w = .ok (.enter fid rvs.toArray) w := by
    simp only [callFunc, Sem.run_bind, run_program, Result.andThen_ok, h1, h3, h2, Bool.false_eq_true, if_false, Sem.run_pure]
  unfold Oper.wp
  rw [hrun, hr, Oper.upon_enter]
  refine (hc m w rvs s hv).mono ?_
  rintro e w' ⟨m', rv, rfl, g1, g2, g3⟩
  exact hK m' rv w' g1 g2 g3

theorem op_wp {o : Oper} {sop : SOp} {K : Act → World → Prop} {Q : Exit → Act → World → Prop} (hG : Good P G) (hC : CallOK P G call) (hM : opM P G o.op sop = true) (hev : evOp call sop e h = some (v, h')) (he : ER G m N e a) (s : Sim G m h w)
    (hK : ∀ m' rv w', tr G m' v = some rv → Sim G m' h' w' → Evo m h w m' h' w' → K (a.put o.dst rv) w') : o.wp P a w K Q := by
  by_cases h01 : cls sop = 0 ∨ cls sop = 1
  · obtain ⟨rfl, hq⟩ := quiet_sim h01 hM hev he s
    exact heavy_wp (quiet_heavy hq s) hK
  by_cases h2 : cls sop = 2
  · exact heavy_wp (makes_heavy h2 hM hev he s) hK
  have hev0 := hev
  cases sop <;> simp only [cls] at h01 h2 <;> (try (exact absurd (by decide) h01)) <;> (try (exact absurd (by decide) h2))
  · exact heavy_wp (h_store hM hev he s) hK
  · exact heavy_wp (h_append hM hev he s) hK
  · rename_i f args
    simp only [evOp] at hev
    cases hvs : evs e args with
    | none => simp [hvs] at hev
    | some vs =>
      simp [hvs] at hev
      cases hop : o.op <;> simp [opM, hop, isCallS] at hM
      rename_i c
      obtain ⟨callee, cargs, ats⟩ := c
      cases callee <;> simp [callM] at hM
      · rename_i F
        cases F <;> simp at hM
        rename_i fid
        obtain ⟨hf, hA⟩ := hM
        have hv := opds_sim he hA hvs
        refine call_wp hG hf hv s (hC f vs h v h' hev fid hf) ?_ hK
        have : (cargs.map a.eval) = (List.map a.eval cargs.toList).toArray := by rw [← Array.toList_inj]; simp
        simp [execOp, hop, resolve, Act.eval, Deferred.ofValue, invoke, this]
      · rename_i b; cases b <;> simp [builtinM] at hM
  · rename_i F args
    simp only [evOp] at hev
    cases hf : F.ev e with
    | none => simp [hf] at hev
    | some fv =>
      cases hvs : evs e args with
      | none => cases fv <;> simp [hf, hvs] at hev
      | some vs =>
        cases fv <;> simp [hf, hvs] at hev
        rename_i f caps
        cases hop : o.op <;> simp [opM, hop, isCallS] at hM
        rename_i c
        obtain ⟨callee, cargs, ats⟩ := c
        cases callee <;> simp [callM] at hM
        · rename_i FF
          obtain ⟨hf1, hA⟩ := hM
          have hv := opds_sim he hA hvs
          obtain ⟨fid, cs, g1, g2, g3⟩ := tr_fn (opd_sim he hf1 hf)
          refine call_wp hG g1 (trL_append hv g2) s (hC f _ h v h' hev fid g1) ?_ hK
          have : (cargs.map a.eval) ++ cs.toArray = (List.map a.eval cargs.toList ++ cs).toArray := by rw [← Array.toList_inj]; simp
          simp [execOp, hop, resolve, g3, Deferred.ofValue, invoke, this]
        · rename_i b; cases b <;> simp [builtinM] at hM
  · exact heavy_wp (h_mapup hM hev he s) hK
  · exact heavy_wp (h_mapent hM hev he s) hK
  · exact heavy_wp (h_entst hM hev he s) hK
  · exact heavy_wp (h_del hM hev he s) hK
  · exact heavy_wp (h_slTail hM hev he s) hK

/-- an operation in its region, its guard looked at -/
theorem oper_wp {ops : Array Oper} {o : Oper} {so : SOper} {K : Act → World → Prop} {Q : Exit → Act → World → Prop} (hG : Good P G) (hC : CallOK P G call) (hM : operM P G N ops o so = true) {e' : Env} {all : List SOper} (hev : evOper call all so e h = some (e', h')) (he : ER G m N e a) (s : Sim G m h w)
    (hK : ∀ m' a' w', ER G m' N e' a' → a'.defers = a.defers → Sim G m' h' w' → Evo m h w m' h' w' → K a' w') :
    if Region.wanted o (yielded ops a.tmps) then o.wp P a w K Q ∨ (o.asks P a w ∧ LetsOut Q) else K (a.put o.dst undef) w := by
  simp only [operM, Bool.and_eq_true] at hM
  obtain ⟨⟨⟨h1, h2⟩, h3⟩, h4⟩ := hM
  have hd : o.dst = so.dst := by simpa using h2
  have hdN : ∀ k, so.dst = some k → k < N := by
    intro k hk; rw [hk] at h3; simpa using h3
  have hdef : ∀ (d : Option Nat) (rv : Value), (a.put d rv).defers = a.defers := by intro d rv; cases d <;> rfl
  simp only [evOper] at hev
  cases hw : wanted e so.guard with
  | none => simp [hw] at hev
  | some b =>
    rw [guard_sim h4 he rfl hw]
    cases b with
    | false =>
      simp [hw] at hev
      obtain ⟨rfl, rfl⟩ := hev
      simp only [Bool.false_eq_true, if_false]
      rw [hd]
      exact hK m _ w (he.put (v := .undef) (rv := undef) rfl hdN) (hdef _ _) s (Evo.refl ..)
    | true =>
      simp only [hw] at hev
      cases hop : evOp call so.op e h with
      | none => simp [hop] at hev
      | some p =>
        obtain ⟨v, h1'⟩ := p
        simp only [hop] at hev
        split at hev
        · simp at hev
          obtain ⟨rfl, rfl⟩ := hev
          simp only [if_true]
          refine .inl (op_wp hG hC h1 hop he s ?_)
          intro m' rv w' g1 g2 g3
          rw [hd]
          exact hK m' _ w' ((he.mono g3.mono).put g1 hdN) (hdef _ _) g2 g3
        · cases hev

end
end Go.Cl
