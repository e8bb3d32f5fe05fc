/-
  A law's row out of what the clean evaluator says of it.
-/
import Derived.Test.YtiegjnklhafloaaDoorCl16
import Derived.ProofKit
import Derived.ChangeCalls
namespace Go.Cl
open Go Go.ChangeShapes Go.WideShapes Go.RowKit
set_option linter.unusedSimpArgs false
set_option linter.unusedVariables false

def Ty.isSt : Ty → Bool
  | .nil => true
  | .cons _ _ => true
  | _ => false

/-- an argument: a struct's cells as one, everything else the one cell -/
def Arg (h : Heap) (ty : Ty) (v : CV) : Prop :=
  match ty.isSt with
  | true => ∃ c, v = .agg c ∧ c.length = ty.n ∧ Sh h ty c
  | false => Sh h ty [v]

def ArgL (h : Heap) : List Ty → List CV → Prop
  | [], [] => True
  | t :: ts, v :: vs => Arg h t v ∧ ArgL h ts vs
  | _, _ => False

theorem Arg.laid {G : Gam} {m m' : Mp} {h h' : Heap} {w : World} (a : Laid G m h w m' h') {ty : Ty} {v : CV} (k : Arg h ty v) : Arg h' ty v := by
  unfold Arg at *
  cases he : ty.isSt <;> rw [he] at k
  · exact Sh.laid a k
  · obtain ⟨c, k1, k2, k3⟩ := k; exact ⟨c, k1, k2, k3.laid a⟩

def tysM (P : Program) : List Ty → List TypeId → Bool
  | [], [] => true
  | ty :: tys, t :: ts => tyM P ty (.inl t) && tysM P tys ts
  | _, _ => false

section
variable {H : Type} {enc : TypeId × Value → H} {P : Program} {w : World} {G : Gam}

theorem okWide_shape {ty : Ty} {t : TypeId} {v : Value} {base : Nat} (ht : tyM P ty (.inl t) = true) (hv : Value.okWide P w .any base t v) :
    (ty.isSt = true → ∃ cs, v = .agg cs) ∧ (ty.isSt = false → v.cells = #[v]) := by
  have noagg : ∀ (hc : Cell.okWide P w .any base t v), (∀ u, P.underlying t = some u → ∀ l, u ≠ .struct l) → ∀ l, v ≠ .agg l := by
    intro hc _ l e
    subst e
    unfold Cell.okWide at hc
    split at hc <;> (try (rename_i h1 h2; cases h2; done)) <;> (try (rename_i h1; cases h1; done))
    unfold Cell.ok at hc
    split at hc <;> simp_all
  have cells1 : (∀ l, v ≠ .agg l) → v.cells = #[v] := by
    intro h
    cases v <;> first | rfl | exact absurd rfl (h _)
  refine ⟨fun hs => ?_, fun hs => ?_⟩
  · have : ∃ fs, P.underlying t = some (.struct fs) := by
      cases ty <;> simp [Ty.isSt] at hs <;> simp only [tyM, Bool.and_eq_true, flds] at ht <;>
        (cases hu : P.underlying t with
        | none => simp [hu] at ht
        | some u => cases u <;> simp [hu] at ht <;> exact ⟨_, rfl⟩)
    obtain ⟨fs, hfs⟩ := this
    unfold Value.okWide at hv
    rw [hfs] at hv
    obtain ⟨cs, rfl, _⟩ := hv
    exact ⟨cs, rfl⟩
  · have hu : ∃ u, P.underlying t = some u ∧ (∀ l, u ≠ .struct l) ∧ ∀ n e, u ≠ .array n e := by
      cases ty <;> simp [Ty.isSt] at hs <;> simp only [tyM, Bool.and_eq_true] at ht <;>
        (cases hu : P.underlying t with
        | none => simp [hu] at ht
        | some u => cases u <;> simp [hu] at ht <;> exact ⟨_, rfl, by simp, by simp⟩)
    obtain ⟨u, hu, h1, h2⟩ := hu
    refine cells1 (noagg ?_ fun u' hu' l => ?_)
    · unfold Value.okWide at hv
      rw [hu] at hv
      cases u <;> first | exact hv | exact absurd rfl (h1 _) | exact absurd rfl (h2 _ _)
    · rw [hu] at hu'; cases hu'; exact h1 l

theorem arg_of {ty : Ty} {t : TypeId} {v : Value} {base : Nat} {d : DataW H} {p : List MemPlace} {m : Mp} {h : Heap} (ht : tyM P ty (.inl t) = true) (hv : Value.okWide P w .any base t v)
    (hd : DataW.Trod enc P w 0 (fun _ => true) true t v d p) (i : Inv G m h w) : ∃ m' h' c, Laid G m h w m' h' ∧ tr G m' c = some v ∧ Arg h' ty c := by
  obtain ⟨fuel, hd⟩ := hd
  obtain ⟨m', h', ccs, k1, k2, k3, k4⟩ := (reads (H := H) (enc := enc) (P := P) (w := w) (G := G) ty).1 t ht fuel _ _ m h hd i
  obtain ⟨o1, o2⟩ := okWide_shape ht hv
  cases hs : ty.isSt with
  | true =>
    obtain ⟨cs, rfl⟩ := o1 hs
    refine ⟨m', h', .agg ccs, k1, ?_, ?_⟩
    · have : trL G m' ccs = some cs.toList := k2
      simp [tr, this]
    · unfold Arg; rw [hs]; exact ⟨ccs, rfl, k3, k4⟩
  | false =>
    have hc := o2 hs
    rw [hc] at k2
    have hn : ty.n = 1 := by cases ty <;> first | rfl | simp [Ty.isSt] at hs
    rw [hn] at k3
    match ccs, k3 with
    | [c], _ =>
      refine ⟨m', h', c, k1, ?_, ?_⟩
      · obtain ⟨x, xs, q1, q2, q3⟩ := trL_cons k2
        simp [trL] at q2; subst q2; simp at q3; subst q3; exact q1
      · unfold Arg; rw [hs]; exact k4

theorem args_of : ∀ (tys : List Ty) (ts : List TypeId) (vs : List Value) (ds : List (DataW H)) (ps : List MemPlace) (base : Nat) (m : Mp) (h : Heap), tysM P tys ts = true →
    DataW.TrodAll enc P w 0 (fun _ => true) true ts vs ds ps → (∀ (j : Nat) t v, ts[j]? = some t → vs[j]? = some v → Value.okWide P w .any base t v) → Inv G m h w →
    ∃ m' h' cs, Laid G m h w m' h' ∧ trL G m' cs = some vs ∧ ArgL h' tys cs
  | [], [], vs, ds, ps, base, m, h, _, hd, _, i => by
    obtain ⟨rfl, _⟩ := trodAll_nil hd
    exact ⟨m, h, [], Laid.refl i, rfl, trivial⟩
  | ty :: tys, t :: ts, vs, ds, ps, base, m, h, ht, hd, hok, i => by
    simp only [tysM, Bool.and_eq_true] at ht
    obtain ⟨v, vs', d, ds', p, q, rfl, rfl, rfl, h1, h2⟩ := trodAll_cons hd
    obtain ⟨m1, hp1, c, l1, t1, a1⟩ := arg_of ht.1 (hok 0 t v rfl rfl) h1 i
    obtain ⟨m2, hp2, cs, l2, t2, a2⟩ := args_of tys ts vs' ds' q base m1 hp1 ht.2 h2 (fun j t' v' e e' => hok (j + 1) t' v' (by simpa using e) (by simpa using e')) l1.inv
    exact ⟨m2, hp2, c :: cs, l1.trans l2, trL_cons_mk (tr_mono G l2.le _ _ t1) t2, a1.laid l2, a2⟩
  | [], _ :: _, _, _, _, _, _, _, ht, _, _, _ => by simp [tysM] at ht
  | _ :: _, [], _, _, _, _, _, _, ht, _, _, _ => by simp [tysM] at ht

theorem trodAll_stays (hl : laidOutB P = true) {W W' : World} (hb : ∀ k, k < W.heap.size → W'.heap[k]? = W.heap[k]?) : ∀ (ts : List TypeId) (vs : List Value) (ds : List (DataW H)) (ps : List MemPlace),
    (∀ t ∈ ts, P.readableRec t = true ∧ t < P.types.size) → DataW.TrodAll enc P W 0 (fun _ => true) true ts vs ds ps → (∀ p ∈ ps, p.block < W.heap.size) →
    DataW.TrodAll enc P W' 0 (fun b => decide (b < W.heap.size)) true ts vs ds ps
  | [], vs, ds, ps, _, hd, _ => by
    obtain ⟨rfl, rfl, rfl⟩ := trodAll_nil hd
    rfl
  | t :: ts, vs, ds, ps, hr, hd, hlt => by
    obtain ⟨v, vs', d, ds', p, q, rfl, rfl, rfl, h1, h2⟩ := trodAll_cons hd
    obtain ⟨r1, r2⟩ := hr t (by simp)
    refine ⟨p, q, WideElems.Trod_stays hl r1 r2 h1 ?_ (fun x hx => by simpa using hlt x (by simp [hx])), trodAll_stays hl hb ts vs' ds' q (fun t' ht' => hr t' (by simp [ht'])) h2 (fun x hx => hlt x (by simp [hx])), rfl⟩
    intro x hx
    have hk := hlt x (by simp [hx])
    cases x with
    | cell b o => exact World.cell?_of_block (w := W) (hb b hk)
    | map b => exact hb b hk

/-- what a row of a law says, out of the clean evaluator -/
theorem law_lifted {C : Checked} {os : Os} {f : FuncId} {fn : Func} {s : ChangeSpec} {tys : List Ty} {g : Nat} {Pg : Prog} {pr : Prims} {tb : TypeId} {conds : List PathCond}
    (own : ownKnob C.prog.godebug = none) (started : os.Started) (noInit : C.prog.inits.idxOf? f = none) (hfn : C.prog.funcs[f]? = some fn)
    (witness : ∃ (w : World) (tape : Tape) (i : Input), w.os = os ∧ (w.forCall tape i).Shaped C.prog ∧ i.vars = [] ∧ Input.okWide C.prog (w.forCall tape i) .any w.heap.size f i ∧
      s.pre6 enc C.prog fn conds false (w.forCall tape i).memory i.args ∧ (Assume.holds {} C.prog (lone (Frame.enter C.prog f i.args .normal) [] (w.forCall tape i))))
    (hvars : s.vars = []) (hspec : ∀ ds : List (DataW H), ds.length = fn.params.size → s.fn H ds = { results := [.lit (.bool true)], args := ds })
    (hres : fn.resultTypes = #[tb]) (htb : C.prog.underlying tb = some .bool) (hlaid : laidOutB C.prog = true)
    (hpar : fn.params.toList.all (fun t => C.prog.readableRec t && decide (t < C.prog.types.size)) = true) (htys : tysM C.prog tys fn.params.toList = true)
    (hmix : C.prog.follows .mixedOrders = true) (hG : Good C.prog G) (hLk : Linked C.prog G Pg) (hPr : PrimOK C.prog G pr) (hg : G.F g = some f)
    (law : ∀ (h : Heap) (args : List CV), ArgL h tys args → ∃ n h', evCall Pg pr n g args h = some (.bool true, h')) (hK : G.K = [] := by rfl) :
    ReturnsInHanded {} C os f .any (s.pre6 enc C.prog fn conds false) (s.post enc C.prog fn false true false false) := by
  refine returnsInHanded_of_change own started noInit hfn witness ?_
  intro W base args ds gs before hval hW _ _
  have hW0 := hW
  obtain ⟨p, q, hA, hV, rfl, _, _⟩ := hW
  obtain ⟨m, h, cs, l, ht, ha⟩ := args_of tys fn.params.toList args.toList ds p base (fun _ => none) [] htys hA (fun j t v e e' => hval j t v (by simpa using e) (by simpa using e')) (Inv.empty G hK W)
  obtain ⟨n, h', hev⟩ := law h cs ha
  have hc := ((call_all hmix hG hLk hPr n).1 g cs h _ _ hev f hg) m W args.toList l.inv.sim ht
  rw [show args.toList.toArray = args by simp] at hc
  refine hc.mono fun e W' ⟨m', rv, he, hrv, hs', hevo⟩ => ?_
  simp [tr] at hrv
  subst hrv
  refine ⟨.bool true, he, ?_⟩
  have hb : ∀ k, k < W.heap.size → W'.heap[k]? = W.heap[k]? := fun k hk => hevo.frame k hk fun b L _ ho => absurd ho l.inv.owned
  have hgs : gs = [] ∧ q = [] := by
    rw [hvars] at hV
    cases gs with
    | nil => exact ⟨rfl, hV⟩
    | cons _ _ => exact hV.elim
  obtain ⟨rfl, rfl⟩ := hgs
  have hlen : ds.length = fn.params.size := by
    have := (trodAll_length hA).2
    simpa using this
  have hlt : ∀ x ∈ p, x.block < W.heap.size := hA.lt
  refine ⟨ds, [], p ++ [], [], p, [], hW0, ?_, ?_, ?_, ?_, ?_⟩
  · rw [List.append_nil, hspec ds hlen, hres]
    exact trodAll_mk1 (shut_bool htb true)
  · rw [List.append_nil, hspec ds hlen]
    exact trodAll_stays hlaid hb _ _ _ _ (fun t htm => by simpa using List.all_eq_true.1 hpar t htm) hA hlt
  · rw [List.append_nil, hspec ds hlen, hvars]
    rfl
  · refine ⟨hevo.os, hevo.out, fun i hi => ?_⟩
    rw [hb i hi]
    cases hh : W.heap[i]? with
    | none => rfl
    | some o => cases o <;> first | rfl | exact ⟨rfl, rfl, rfl, fun _ _ => rfl⟩ | exact .inr ⟨rfl, rfl⟩
  · intro hc; cases hc

/-- what a row of a law says whose package-level variables are laid -/
theorem law_lifted_laid {C : Checked} {os : Os} {f : FuncId} {fn : Func} {s : ChangeSpec} {tys : List Ty} {g : Nat} {Pg : Prog} {pr : Prims} {tb : TypeId} {conds : List PathCond} {X : World → Array Value → Prop}
    (hX : ∀ (w w' : World) (args : Array Value), w.heap = w'.heap → X w args → X w' args)
    (own : ownKnob C.prog.godebug = none) (started : os.Started) (noInit : C.prog.inits.idxOf? f = none) (hfn : C.prog.funcs[f]? = some fn)
    (witness : ∃ (w : World) (tape : Tape) (i : Input), w.os = os ∧ (w.forCall tape i).Shaped C.prog ∧ i.vars = [] ∧ Input.okWide C.prog (w.forCall tape i) .any w.heap.size f i ∧
      ((s.pre enc C.prog fn conds false (w.forCall tape i).memory i.args ∧ X (w.forCall tape i).memory i.args) ∧ sizedMet enc C.prog fn (OpenSpec.ofChange s) false (w.forCall tape i).memory i.args) ∧ (Assume.holds {} C.prog (lone (Frame.enter C.prog f i.args .normal) [] (w.forCall tape i))))
    (hvars : s.vars = []) (hspec : ∀ ds : List (DataW H), ds.length = fn.params.size → s.fn H ds = { results := [.lit (.bool true)], args := ds })
    (hres : fn.resultTypes = #[tb]) (htb : C.prog.underlying tb = some .bool) (hlaid : laidOutB C.prog = true)
    (hpar : fn.params.toList.all (fun t => C.prog.readableRec t && decide (t < C.prog.types.size)) = true) (htys : tysM C.prog tys fn.params.toList = true)
    (hmix : C.prog.follows .mixedOrders = true) (hG : Good C.prog G) (hLk : Linked C.prog G Pg) (hPr : PrimOK C.prog G pr) (hg : G.F g = some f)
    (hbase : ∀ W args, X W args → W.ShapedOpen C.prog → ∃ m, Inv G m G.K W)
    (law : ∀ (h : Heap) (args : List CV), ArgL h tys args → ∃ n h', evCall Pg pr n g args h = some (.bool true, h')) :
    ReturnsInHanded {} C os f .any (fun w args => (s.pre enc C.prog fn conds false w args ∧ X w args) ∧ sizedMet enc C.prog fn (OpenSpec.ofChange s) false w args) (s.post enc C.prog fn false true false false) := by
  refine returnsInHanded_of_calls own started noInit witness ?_
  intro w tape i _ hsh _ hok hpre hholds
  obtain ⟨_, _, _, fn', hfn', _, _, _, _, hval⟩ := hok
  have e : fn' = fn := Option.some.inj (hfn'.symm.trans hfn)
  subst e
  obtain ⟨⟨⟨ds, gs, before, hw, hc0⟩, hx⟩, hz⟩ := hpre
  have hw' := DataW.Whole.of_heap (w' := w.forCall tape i) (by rfl) hw
  have hxx : X (w.forCall tape i) i.args := hX _ _ _ (by rfl) hx
  clear hx hz hc0 hw witness
  generalize hWW : w.forCall tape i = W at *
  generalize hbb : w.heap.size = base at *
  generalize hAA : i.args = args at *
  suffices hfin : Calls C.prog f args W fun e W' => ∃ v, e = .returned v ∧ s.post enc C.prog fn' false true false false W args v W' by
    refine hfin.mono fun e W' ⟨v, he, hp⟩ => ?_
    subst he
    exact ChangeSpec.post_blind hp
  have hW := hw'
  have hW0 := hW
  obtain ⟨p, q, hA, hV, rfl, _, _⟩ := hW
  obtain ⟨m0, i0⟩ := hbase W args hxx hsh
  obtain ⟨m, h, cs, l, ht, ha⟩ := args_of tys fn'.params.toList args.toList ds p base m0 G.K htys hA (fun j t v e e' => hval j t v (by simpa using e) (by simpa using e')) i0
  obtain ⟨n, h', hev⟩ := law h cs ha
  have hc := ((call_all hmix hG hLk hPr n).1 g cs _ _ _ hev f hg) m W args.toList l.inv.sim ht
  rw [show args.toList.toArray = args by simp] at hc
  refine hc.mono fun e W' ⟨m', rv, he, hrv, hs', hevo⟩ => ?_
  simp [tr] at hrv
  subst hrv
  refine ⟨.bool true, he, ?_⟩
  have hb : ∀ k, k < W.heap.size → W'.heap[k]? = W.heap[k]? := fun k hk => hevo.frame k hk fun b L _ ho => absurd ho l.inv.owned
  have hgs : gs = [] ∧ q = [] := by
    rw [hvars] at hV
    cases gs with
    | nil => exact ⟨rfl, hV⟩
    | cons _ _ => exact hV.elim
  obtain ⟨rfl, rfl⟩ := hgs
  have hlen : ds.length = fn'.params.size := by
    have := (trodAll_length hA).2
    simpa using this
  have hlt : ∀ x ∈ p, x.block < W.heap.size := hA.lt
  refine ⟨ds, [], p ++ [], [], p, [], hW0, ?_, ?_, ?_, ?_, ?_⟩
  · rw [List.append_nil, hspec ds hlen, hres]
    exact trodAll_mk1 (shut_bool htb true)
  · rw [List.append_nil, hspec ds hlen]
    exact trodAll_stays hlaid hb _ _ _ _ (fun t htm => by simpa using List.all_eq_true.1 hpar t htm) hA hlt
  · rw [List.append_nil, hspec ds hlen, hvars]
    rfl
  · refine ⟨hevo.os, hevo.out, fun i hi => ?_⟩
    rw [hb i hi]
    cases hh : W.heap[i]? with
    | none => rfl
    | some o => cases o <;> first | rfl | exact ⟨rfl, rfl, rfl, fun _ _ => rfl⟩ | exact .inr ⟨rfl, rfl⟩
  · intro hc; cases hc
end
end Go.Cl
