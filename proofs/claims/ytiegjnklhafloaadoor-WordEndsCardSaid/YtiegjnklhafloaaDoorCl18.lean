/-
  A call whose arguments and result hold no address: what it does on an empty heap it does on every one, and leaves the heap.
-/
import Derived.Test.YtiegjnklhafloaaDoorCl15
namespace Go.Cl
open Go
set_option linter.unusedSimpArgs false
set_option linter.unusedVariables false

mutual
def CV.flat : CV → Bool
  | .ptr _ _ | .sl _ _ _ _ | .mp _ | .ch _ => false
  | .fn _ l => CV.flatL l
  | .ifc _ v => CV.flat v
  | .agg l => CV.flatL l
  | .tup l => CV.flatL l
  | _ => true
def CV.flatL : List CV → Bool
  | [] => true
  | v :: r => CV.flat v && CV.flatL r
end

mutual
theorem tr_flat (G : Gam) (m m' : Mp) : ∀ (v : CV), v.flat = true → tr G m v = tr G m' v
  | .int _ _, _ | .bool _, _ | .str _, _ | .nilp, _ | .nils, _ | .nilm, _ | .nilc, _ | .nilf, _ | .nili, _ => by simp [tr]
  | .ptr _ _, h | .sl _ _ _ _, h | .mp _, h | .ch _, h => by simp [CV.flat] at h
  | .fn f l, h => by simp only [tr]; rw [trL_flat G m m' l h]
  | .ifc t v, h => by simp only [tr]; rw [tr_flat G m m' v h]
  | .agg l, h => by simp only [tr]; rw [trL_flat G m m' l h]
  | .tup l, h => by simp only [tr]; rw [trL_flat G m m' l h]
theorem trL_flat (G : Gam) (m m' : Mp) : ∀ (l : List CV), CV.flatL l = true → trL G m l = trL G m' l
  | [], _ => rfl
  | v :: r, h => by
    simp only [CV.flatL, Bool.and_eq_true] at h
    simp only [trL]
    rw [tr_flat G m m' v h.1, trL_flat G m m' r h.2]
end

theorem flat_sim {P : Program} {G : Gam} {fid : FuncId} {vs : List CV} {r : CV} {h1 : Heap} (hv : CV.flatL vs = true) (hr : r.flat = true) (hc : CallSim P G fid vs G.K r h1) (h : Heap) : CallSim P G fid vs h r h := by
  intro m w rvs s ht
  have hm0 : ∀ b L, (fun k => if k < G.K.length then m k else none : Mp) b = some L → b < G.K.length ∧ m b = some L := by
    intro b L e
    by_cases hb : b < G.K.length
    · simp [hb] at e; exact ⟨hb, e⟩
    · simp [hb] at e
  rw [trL_flat G m (fun k => if k < G.K.length then m k else none) vs hv] at ht
  have hun : ∀ b, ¬ owned G.K b := by
    rintro b ⟨o, ho, hO⟩
    obtain ⟨_, ⟨g, q, rfl⟩, _⟩ := s.base b o ho
    cases hO
  have s0 : Sim G (fun k => if k < G.K.length then m k else none) G.K w := by
    refine ⟨fun b L e => (hm0 b L e).1, fun b L o e ho => ?_, fun b b' L L' _ _ _ hO _ => absurd hO (hun b), fun k o hk => ?_⟩
    · obtain ⟨a1, ⟨g, q, rfl⟩, _⟩ := s.base b o ho
      exact s.obj b L _ (hm0 b L e).2 a1
    · obtain ⟨_, a2, L, a3⟩ := s.base k o hk
      have hlt : k < G.K.length := by
        rcases Nat.lt_or_ge k G.K.length with g | g
        · exact g
        · simp [List.getElem?_eq_none g] at hk
      exact ⟨hk, a2, L, by simp [hlt, a3]⟩
  refine (hc _ w rvs s0 ht).mono fun e w' ⟨m', rv, he, hrv, hs', hev⟩ => ?_
  have hold : ∀ k, k < w.heap.size → w'.heap[k]? = w.heap[k]? := fun k hk => hev.frame k hk fun b L _ hO => absurd hO (hun b)
  exact ⟨m, rv, he, by rw [tr_flat G m m' r hr]; exact hrv, s.world fun b L e l => hold _ (s.blk_lt e l), ⟨Mp.le_refl _, Nat.le_refl _, fun _ _ e => ⟨e, rfl⟩, hev.os, hev.out, hev.size, fun k hk _ => hold k hk, fun b L e o => .inr ⟨b, L, e, o, rfl⟩⟩⟩

def yes (o : Option (CV × Heap)) : Bool := match o with | some (.bool true, _) => true | _ => false

/-- these calls without arguments are true -/
def addKnown (l : List Nat) (pr : Prims) : Prims := fun f => match l.contains f with
  | true => some (fun vs h => match vs with | [] => some (.bool true, h) | _ => none)
  | false => pr f

def noPr : Prims := fun _ => none
theorem noPr_ok {P : Program} {G : Gam} : PrimOK P G noPr := fun f g h => by cases h

theorem addKnown_ok {P : Program} {G : Gam} {Pg : Prog} {pr : Prims} (hmix : P.follows .mixedOrders = true) (hG : Good P G) (hLk : Linked P G Pg) (hPr : PrimOK P G pr) {l : List Nat}
    (hk : ∀ f ∈ l, ∃ n, yes (evCall Pg pr n f [] G.K) = true) : PrimOK P G (addKnown l pr) := by
  intro f g hf vs h r h' hev
  unfold addKnown at hf
  cases hc : l.contains f with
  | false => rw [hc] at hf; exact hPr f g hf vs h r h' hev
  | true =>
    rw [hc] at hf
    cases hf
    cases vs with
    | cons _ _ => simp at hev
    | nil =>
      simp at hev
      obtain ⟨rfl, rfl⟩ := hev
      refine ⟨Nat.le_refl _, fun fid hfid => ?_⟩
      obtain ⟨n, hy⟩ := hk f (by simpa using hc)
      cases ho : evCall Pg pr n f [] G.K with
      | none => simp [yes, ho] at hy
      | some q =>
        obtain ⟨v, h1⟩ := q
        have hv : v = .bool true := by
          rw [ho] at hy
          cases v <;> (try (cases hy; done))
          rename_i b
          cases b
          · cases hy
          · rfl
        subst hv
        exact flat_sim rfl rfl ((call_all hmix hG hLk hPr n).1 f [] G.K _ _ ho fid hfid) h
end Go.Cl
