/-
  JobAny, on the clean evaluator.
-/
import Derived.Test.YtofpioacialnkaaAJobS
namespace Go.Cl
open Go
set_option linter.unusedSimpArgs false
set_option linter.unusedVariables false
set_option maxHeartbeats 8000000

variable {p : PP}

theorem beginF_flat {x : JobV} : (beginF x).1.flat = x.flat ∧ (beginF x).1.held = x.held := by unfold beginF; split <;> exact ⟨rfl, rfl⟩
theorem tickF_flat {x : JobV} : (tickF x).1.flat = x.flat ∧ (tickF x).1.held = x.held := by
  unfold tickF
  split
  · split <;> exact ⟨rfl, rfl⟩
  · exact ⟨rfl, rfl⟩

theorem jobAny_law (hpg : p.Pg = S.pg) (hpr : p.pr = addKnown [27] noPr) {h : Heap} {ca cb : List CV} {A B : JobV} {P : Nat → Prop} {lock : Int} (ra : jobC.rep h P ca A) (rb : jobC.rep h P cb B) :
    WF p 26 [.agg ca, .agg cb, .int .i64 lock] h fun r _ => r = .bool true := by
  have q : ∀ K, K ≠ 27 → p.pr K = none := by
    intro K hK
    rw [hpr]
    show (match [27].contains K with | true => _ | false => noPr K) = none
    have : [27].contains K = false := by simp [hK]
    rw [this]; rfl
  have pg : ∀ K sf, S.pg K = some sf → p.Pg K = some sf := fun K sf e => by rw [hpg]; exact e
  refine WF_of (pg 26 _ S.pg26) (q 26 (by decide)) ?_
  show W p S.b26 _ _ (retQ [.t 6] _)
  unfold S.b26
  have lca := jobC.len ra
  have lcb := jobC.len rb
  simp only [jobC] at lca lcb
  obtain ⟨H, hH⟩ : ∃ H, H = h ++ [Obj.arr ca .tight, Obj.arr cb .tight] := ⟨_, rfl⟩
  have kH : Keep NoneOf h H := by rw [hH]; exact Keep.app _ _ _
  have g3 : H[h.length]? = some (.arr ca .tight) := by rw [hH]; simp
  have g4 : H[h.length + 1]? = some (.arr cb .tight) := by rw [hH]; simp
  have rA := jobC.on ra kH
  have rB := jobC.on rb kH
  clear ra rb
  simp
  rw [← hH]
  refine WF_known hpr rfl ?_
  have w3 := ldw g3 lca
  have w4 := ldw g4 lcb
  simp [w3]
  refine (jobFew_spec hpg (q 28 (by decide)) (q 59 (by decide)) (q 67 (by decide)) rA).mono ?_
  rintro r h1 ⟨k1, rfl⟩
  cases fa : fewF A with
  | false => simp
  | true =>
  have w4 := ldw (k1.at g4 id) lcb
  simp [w4]
  refine (jobFew_spec hpg (q 28 (by decide)) (q 59 (by decide)) (q 67 (by decide)) (jobC.on rB k1)).mono ?_
  rintro r h2 ⟨k2, rfl⟩
  have K2 := k1.trans k2
  cases fb : fewF B with
  | false => simp
  | true =>
  obtain ⟨fva, hva, ea, sa, ta⟩ := id rA
  obtain ⟨fvb, hvb, eb, sb, tb⟩ := id rB
  have l3 := ld (K2.at g3 id)
  have l4 := ld (K2.at g4 id)
  have na := (sa.on K2).len (by decide)
  have nb := (sb.on K2).len (by decide)
  have ia : ca[1]? = some fva := by subst ea; rfl
  have ib : cb[1]? = some fvb := by subst eb; rfl
  by_cases c1 : 60 < (A.flat.length : Int)
  · simp [l3, ia, na, c1]
  by_cases c2 : 60 < (B.flat.length : Int)
  · simp [l3, ia, na, l4, ib, nb, c1, c2]
  have w3 := ldw (K2.at g3 id) lca
  simp [l3, ia, na, l4, ib, nb, c1, c2, w3]
  have bA : A.flat.length ≤ big ∧ (∀ o ∈ A.flat, o.cases.length ≤ 20) ∧ A.held.length ≤ 20 := by
    simp [fewF, FewP] at fa
    obtain ⟨f1, f2, f3⟩ := fa
    refine ⟨by simp [big]; omega, fun o ho => ?_, by omega⟩
    have := f3 o (by rw [List.take_of_length_le (by omega)]; exact ho)
    omega
  have bB : B.flat.length ≤ big ∧ (∀ o ∈ B.flat, o.cases.length ≤ 20) ∧ B.held.length ≤ 20 := by
    simp [fewF, FewP] at fb
    obtain ⟨f1, f2, f3⟩ := fb
    refine ⟨by simp [big]; omega, fun o ho => ?_, by omega⟩
    have := f3 o (by rw [List.take_of_length_le (by omega)]; exact ho)
    omega
  have cA : ∀ o ∈ A.flat, o.cases.length ≤ big := fun o ho => by have := bA.2.1 o ho; simp [big]; omega
  have cB : ∀ o ∈ B.flat, o.cases.length ≤ big := fun o ho => by have := bB.2.1 o ho; simp [big]; omega
  have hA : A.held.length ≤ big := by simp [big]; omega
  have hB : B.held.length ≤ big := by simp [big]; omega
  clear na nb l3 l4 w3 w4
  refine (jobTo_spec hpg (q 29 (by decide)) (q 60 (by decide)) (q 68 (by decide)) (jobC.on rA K2) bA.1 cA hA).mono ?_
  rintro r h3 ⟨k3, cx, rfl, rx⟩
  have lcx := jobC.len rx
  have fcx := jobC.flat rx
  simp only [jobC] at lcx
  have st := store_new (h := h3) (z := [.bool false, .nils, .int .i64 0, .int .i64 0, .int .i64 0, .int .i64 0, .int .i64 0, .int .i64 0, .bool false, .nils]) (row := cx) (by simpa using lcx) fcx
  have ln := load_new (h := h3) (row := cx) lcx
  simp [lcx, st, ln]
  obtain ⟨H3, hH3⟩ : ∃ H3, H3 = h3 ++ [Obj.arr cx .tight] := ⟨_, rfl⟩
  have k33 : Keep NoneOf h3 H3 := by rw [hH3]; exact Keep.app _ _ _
  have K3 : Keep NoneOf H H3 := (K2.trans k3).trans k33
  have gx : H3[h3.length]? = some (.arr cx .tight) := by rw [hH3]; simp
  have g3 := K3.at g3 id
  have g4 := K3.at g4 id
  have rA := jobC.mono (jobC.lt (jobC.on rA K3)) fun b hb => hb.2
  have rB := jobC.mono (jobC.lt (jobC.on rB K3)) fun b hb => hb.2
  have rx := jobC.mono (jobC.lt (jobC.on rx k33)) fun b hb => hb.2
  have sx : ∀ h', Keep NoneOf H3 h' → loadAt h' h3.length 0 (some 10) = some (.agg cx) := fun h' k => ldw (k.at gx id) lcx
  have s3 : ∀ h', Keep NoneOf H3 h' → loadAt h' h.length 0 (some 10) = some (.agg ca) := fun h' k => ldw (k.at g3 id) lca
  have s4 : ∀ h', Keep NoneOf H3 h' → loadAt h' (h.length + 1) 0 (some 10) = some (.agg cb) := fun h' k => ldw (k.at g4 id) lcb
  rw [← hH3]
  clear hH3 st ln K3 K2 k1 k2 k3 k33 sa ta sb tb ia ib hH kH c1 c2 fa fb w3 w4
  refine (now_spec (pg 30 _ S.pg30) (q 30 (by decide)) rx).mono ?_
  rintro r h4 ⟨k4, co, rfl, ro⟩
  have lco := opC.len ro
  have fco := opC.flat ro
  simp only [opC] at lco
  have st := store_new (h := h4) (z := [.int .i64 0, .int .i64 0, .int .i64 0, .int .i64 0, .nils]) (row := co) (by simpa using lco) fco
  obtain ⟨H4, hH4⟩ : ∃ H4, H4 = h4 ++ [Obj.arr co .tight] := ⟨_, rfl⟩
  have k44 : Keep NoneOf h4 H4 := by rw [hH4]; exact Keep.app _ _ _
  have go : H4[h4.length]? = some (.arr co .tight) := by rw [hH4]; simp
  have K4 : Keep NoneOf H3 H4 := k4.trans k44
  simp [lco, st]
  rw [← hH4]
  have w3 := s3 H4 K4
  simp [w3]
  refine (now_spec (pg 31 _ S.pg31) (q 31 (by decide)) (jobC.on rA K4)).mono ?_
  rintro r h5 ⟨k5, cp, rfl, rp⟩
  have lcp := opC.len rp
  have fcp := opC.flat rp
  simp only [opC] at lcp
  have st5 := store_new (h := h5) (z := [.int .i64 0, .int .i64 0, .int .i64 0, .int .i64 0, .nils]) (row := cp) (by simpa using lcp) fcp
  obtain ⟨H5, hH5⟩ : ∃ H5, H5 = h5 ++ [Obj.arr cp .tight] := ⟨_, rfl⟩
  have k55 : Keep NoneOf h5 H5 := by rw [hH5]; exact Keep.app _ _ _
  have gp : H5[h5.length]? = some (.arr cp .tight) := by rw [hH5]; simp
  have K5 : Keep NoneOf H4 H5 := k5.trans k55
  simp [lcp, st5]
  rw [← hH5]
  have go5 := ldw (K5.at go id) lco
  have gp5 := ldw gp lcp
  simp [go5, gp5]
  refine WO_re (by simp) ?_
  simp
  have bo : (nowF A).1.cases.length ≤ big := by
    unfold nowF
    split
    · rename_i hc
      obtain ⟨i, hi⟩ := Int.eq_ofNat_of_zero_le hc.2.1
      have : i < A.flat.length := by omega
      simp only [List.getD, hi, Int.toNat_natCast]
      rw [List.getElem?_eq_getElem this]
      exact cA _ (List.getElem_mem this)
    · simp [noOp]
  refine (opOf_spec (pg 32 _ S.pg32) (q 32 (by decide)) (opC.on (opC.on ro k44) K5) bo).mono ?_
  rintro r h6 ⟨k6, d6, rfl, r6⟩
  have gp6 := ldw (k6.at gp id) lcp
  refine ⟨fun c => by simp [recheckB, wanted, Env.get, cls, evOp, Opd.ev, withH, CV.eqb, CV.eqb_refl, CV.eqbL_refl, gp6], ?_⟩
  try simp
  refine (refSameOp_spec hpg (q 33 (by decide)) r6 (opC.on (opC.on rp k55) k6) bo).mono ?_
  rintro r h7 ⟨rfl, k7⟩
  have K7 : Keep NoneOf H3 h7 := ((K4.trans K5).trans k6).trans k7
  have x7 := sx h7 K7
  have a7 := s3 h7 K7
  have b7 := s4 h7 K7
  simp [x7, a7, b7]
  refine WO_re (by simp) ?_
  simp
  refine (jobTo_spec hpg (q 29 (by decide)) (q 60 (by decide)) (q 68 (by decide)) (jobC.on rB K7) bB.1 cB hB).mono ?_
  rintro r h8 ⟨k8, d8, rfl, r8⟩
  have K8 := K7.trans k8
  refine ⟨fun c => by simp [recheckB, wanted, Env.get, cls, evOp, Opd.ev, withH, CV.eqb, CV.eqb_refl, CV.eqbL_refl, sx h8 K8, s3 h8 K8, s4 h8 K8], ?_⟩
  refine WO_re (by simp) ?_
  try simp
  refine (jobSame_spec hpg (q 34 (by decide)) (q 61 (by decide)) (q 62 (by decide)) (q 51 (by decide)) (q 66 (by decide)) (jobC.on rx K8) r8 bA.1 cA hA).mono ?_
  rintro r h9 ⟨k9, rfl⟩
  have K9 := K8.trans k9
  refine ⟨fun c => by simp [recheckB, wanted, Env.get, cls, evOp, Opd.ev, withH, CV.eqb, CV.eqb_refl, CV.eqbL_refl, sx h9 K9, s3 h9 K9, s4 h9 K9], ?_⟩
  try simp
  refine (refSameJob_spec hpg (q 35 (by decide)) (q 63 (by decide)) (q 33 (by decide)) (q 64 (by decide)) (jobC.on rA K9) (jobC.on rB K9) bA.1 cA hA).mono ?_
  rintro r h10 ⟨k10, rfl⟩
  have K10 := K9.trans k10
  simp [sx h10 K10]
  refine (begin_spec (.inl ⟨pg 36 _ S.pg36, pg 30 _ S.pg30, q 30 (by decide)⟩) (q 36 (by decide)) (jobC.on rx K10)).mono ?_
  rintro r h11 ⟨k11, dy, rfl, ry⟩
  have ldy := jobC.len ry
  have fdy := jobC.flat ry
  simp only [jobC] at ldy
  have st11 := store_new (h := h11) (z := [.bool false, .nils, .int .i64 0, .int .i64 0, .int .i64 0, .int .i64 0, .int .i64 0, .int .i64 0, .bool false, .nils]) (row := dy) (by simpa using ldy) fdy
  obtain ⟨H11, hH11⟩ : ∃ H11, H11 = h11 ++ [Obj.arr dy .tight] := ⟨_, rfl⟩
  have k11' : Keep NoneOf h11 H11 := by rw [hH11]; exact Keep.app _ _ _
  have gy : H11[h11.length]? = some (.arr dy .tight) := by rw [hH11]; simp
  have K11 : Keep NoneOf H3 H11 := (K10.trans k11).trans k11'
  have ry := jobC.on ry k11'
  simp [ldy, st11]
  rw [← hH11]
  simp [s3 H11 K11]
  refine (begin_spec (.inr ⟨pg 37 _ S.pg37, pg 31 _ S.pg31, q 31 (by decide)⟩) (q 37 (by decide)) (jobC.on rA K11)).mono ?_
  rintro r h12 ⟨k12, dz, rfl, rz⟩
  have ldz := jobC.len rz
  have fdz := jobC.flat rz
  simp only [jobC] at ldz
  have st12 := store_new (h := h12) (z := [.bool false, .nils, .int .i64 0, .int .i64 0, .int .i64 0, .int .i64 0, .int .i64 0, .int .i64 0, .bool false, .nils]) (row := dz) (by simpa using ldz) fdz
  obtain ⟨H12, hH12⟩ : ∃ H12, H12 = h12 ++ [Obj.arr dz .tight] := ⟨_, rfl⟩
  have k12' : Keep NoneOf h12 H12 := by rw [hH12]; exact Keep.app _ _ _
  have gz : H12[h12.length]? = some (.arr dz .tight) := by rw [hH12]; simp
  have K12 : Keep NoneOf H3 H12 := (K11.trans k12).trans k12'
  have gy := k12'.at (k12.at gy id) id
  have ry := jobC.on (jobC.on ry k12) k12'
  have rz := jobC.on rz k12'
  simp [ldz, st12]
  rw [← hH12]
  simp [ldw gy ldy, ldw gz ldz]
  refine WO_re (by simp) ?_
  try simp
  have bF := beginF_flat (x := A)
  refine (jobOf_spec hpg (q 38 (by decide)) (q 53 (by decide)) (q 32 (by decide)) ry (by rw [bF.1]; exact bA.1) (by rw [bF.1]; exact cA)).mono ?_
  rintro r h13 ⟨k13, d13, rfl, r13⟩
  refine ⟨fun c => by simp [recheckB, wanted, Env.get, cls, evOp, Opd.ev, withH, CV.eqb, CV.eqb_refl, CV.eqbL_refl, ldw (k13.at gz id) ldz], ?_⟩
  try simp
  refine (refSameJob_spec hpg (q 35 (by decide)) (q 63 (by decide)) (q 33 (by decide)) (q 64 (by decide)) r13 (jobC.on rz k13) (by rw [bF.1]; exact bA.1) (by rw [bF.1]; exact cA) (by rw [bF.2]; exact hA)).mono ?_
  rintro r h14 ⟨k14, rfl⟩
  have K14 := (K12.trans k13).trans k14
  have gy := k14.at (k13.at gy id) id
  have gz := k14.at (k13.at gz id) id
  clear ry rz r13
  simp [sx h14 K14]
  refine (tick_spec (pg 39 _ S.pg39) (q 39 (by decide)) (jobC.on rx K14)).mono ?_
  rintro r h15 ⟨k15, d15, rfl, r15⟩
  have l15 := jobC.len r15
  have f15 := jobC.flat r15
  simp only [jobC] at l15
  have gy := k15.at gy id
  have gz := k15.at gz id
  have st15 := sto gy (vs := d15) (by rw [l15, ldy]) f15
  have lH3 := K10.len
  have lh11 := k11.len
  obtain ⟨H15, hH15⟩ : ∃ H15, H15 = h15.set h11.length (Obj.arr d15 .tight) := ⟨_, rfl⟩
  have ke15 : Keep (fun b => b = h11.length) h15 H15 := by rw [hH15]; exact Keep.set _ _ rfl
  have K15 : Keep NoneOf H3 H15 := (K14.trans k15).then ke15 fun b hb e => by omega
  have hne : h12.length ≠ h11.length := by
    have := k12.len
    rw [hH11] at this
    simp at this
    omega
  have gy : H15[h11.length]? = some (.arr d15 .tight) := by rw [hH15]; exact get_set_self (lt_of_get gy)
  have gz := ke15.at gz (fun e => hne e)
  have hfr : ∀ b, b < h3.length → b ≠ h11.length := fun b hb e => by have := lt_of_get gx; omega
  simp [l15, st15]
  rw [← hH15]
  simp [s3 H15 K15]
  have r15 := jobC.keep r15 ke15 fun b hb e => by omega
  refine (tick_spec (pg 40 _ S.pg40) (q 40 (by decide)) (jobC.on rA K15)).mono ?_
  rintro r h16 ⟨k16, d16, rfl, r16⟩
  have l16 := jobC.len r16
  have f16 := jobC.flat r16
  simp only [jobC] at l16
  have gy := k16.at gy id
  have gz := k16.at gz id
  have st16 := sto gz (vs := d16) (by rw [l16, ldz]) f16
  obtain ⟨H16, hH16⟩ : ∃ H16, H16 = h16.set h12.length (Obj.arr d16 .tight) := ⟨_, rfl⟩
  have ke16 : Keep (fun b => b = h12.length) h16 H16 := by rw [hH16]; exact Keep.set _ _ rfl
  have lh12 := k12.len
  have lH11 : H11.length = h11.length + 1 := by rw [hH11]; simp
  have K16 : Keep NoneOf H3 H16 := (K15.trans k16).then ke16 fun b hb e => by omega
  have gz : H16[h12.length]? = some (.arr d16 .tight) := by rw [hH16]; exact get_set_self (lt_of_get gz)
  have gy := ke16.at gy (fun e => hne e.symm)
  have r15 := jobC.keep (jobC.on r15 k16) ke16 fun b hb e => by omega
  have r16 := jobC.keep r16 ke16 fun b hb e => by omega
  simp [l16, st16]
  rw [← hH16]
  simp [ldw gy l15, ldw gz l16]
  refine WO_re (by simp) ?_
  try simp
  have tF := tickF_flat (x := A)
  refine (jobOf_spec hpg (q 38 (by decide)) (q 53 (by decide)) (q 32 (by decide)) r15 (by rw [tF.1]; exact bA.1) (by rw [tF.1]; exact cA)).mono ?_
  rintro r h17 ⟨k17, d17, rfl, r17⟩
  refine ⟨fun c => by simp [recheckB, wanted, Env.get, cls, evOp, Opd.ev, withH, CV.eqb, CV.eqb_refl, CV.eqbL_refl, ldw (k17.at gz id) l16], ?_⟩
  try simp
  refine (refSameJob_spec hpg (q 35 (by decide)) (q 63 (by decide)) (q 33 (by decide)) (q 64 (by decide)) r17 (jobC.on r16 k17) (by rw [tF.1]; exact bA.1) (by rw [tF.1]; exact cA) (by rw [tF.2]; exact hA)).mono ?_
  rintro r h18 ⟨k18, rfl⟩
  have K18 := (K16.trans k17).trans k18
  clear gy gz r15 r16 r17
  simp [sx h18 K18, s3 h18 K18]
  refine WO_re_n ?_
  try simp
  refine (step_spec (.inl (pg 41 _ S.pg41)) (q 41 (by decide)) (jobC.on rx K18)).mono ?_
  rintro r h19 ⟨k19, d19, rfl, r19⟩
  have K19 := K18.trans k19
  refine ⟨fun c => by simp [recheckB, wanted, Env.get, cls, evOp, Opd.ev, withH, CV.eqb, CV.eqb_refl, CV.eqbL_refl, s3 h19 K19], ?_⟩
  refine WO_re_n ?_
  try simp
  refine (jobOf_spec hpg (q 38 (by decide)) (q 53 (by decide)) (q 32 (by decide)) r19 bA.1 cA).mono ?_
  rintro r h20 ⟨k20, d20, rfl, r20⟩
  have K20 := K19.trans k20
  refine ⟨fun c => by simp [recheckB, wanted, Env.get, cls, evOp, Opd.ev, withH, CV.eqb, CV.eqb_refl, CV.eqbL_refl, s3 h20 K20], ?_⟩
  try simp
  refine (step_spec (.inr (pg 42 _ S.pg42)) (q 42 (by decide)) (jobC.on rA K20)).mono ?_
  rintro r h21 ⟨k21, d21, rfl, r21⟩
  have K21 := K20.trans k21
  try simp
  refine (refSameJob_spec hpg (q 35 (by decide)) (q 63 (by decide)) (q 33 (by decide)) (q 64 (by decide)) (jobC.on r20 k21) r21 bA.1 cA hA).mono ?_
  rintro r h22 ⟨k22, rfl⟩
  have K22 := K21.trans k22
  clear r19 r20 r21
  simp [sx h22 K22, s3 h22 K22]
  refine WO_re (by simp) ?_
  try simp
  refine (take_spec (.inl (pg 43 _ S.pg43)) (q 43 (by decide)) (pg 55 _ S.pg55) (q 55 (by decide)) (jobC.on rx K22) hA).mono ?_
  rintro r h23 ⟨k23, d23, rfl, r23⟩
  have K23 := K22.trans k23
  refine ⟨fun c => by simp [recheckB, wanted, Env.get, cls, evOp, Opd.ev, withH, CV.eqb, CV.eqb_refl, CV.eqbL_refl, s3 h23 K23], ?_⟩
  refine WO_re (by simp) ?_
  try simp
  refine (jobOf_spec hpg (q 38 (by decide)) (q 53 (by decide)) (q 32 (by decide)) r23 bA.1 cA).mono ?_
  rintro r h24 ⟨k24, d24, rfl, r24⟩
  have K24 := K23.trans k24
  refine ⟨fun c => by simp [recheckB, wanted, Env.get, cls, evOp, Opd.ev, withH, CV.eqb, CV.eqb_refl, CV.eqbL_refl, s3 h24 K24], ?_⟩
  try simp
  refine (take_spec (.inr (pg 44 _ S.pg44)) (q 44 (by decide)) (pg 55 _ S.pg55) (q 55 (by decide)) (jobC.on rA K24) hA).mono ?_
  rintro r h25 ⟨k25, d25, rfl, r25⟩
  have K25 := K24.trans k25
  try simp
  refine (refSameJob_spec hpg (q 35 (by decide)) (q 63 (by decide)) (q 33 (by decide)) (q 64 (by decide)) (jobC.on r24 k25) r25 bA.1 cA (by simp only [takeF, List.length_append, List.length_singleton]; simp [big]; omega)).mono ?_
  rintro r h26 ⟨k26, rfl⟩
  have K26 := K25.trans k26
  clear r23 r24 r25
  simp [sx h26 K26, s3 h26 K26]
  refine WO_re (by simp) ?_
  try simp
  refine (give_spec (.inl (pg 45 _ S.pg45)) (q 45 (by decide)) (jobC.on rx K26) hA).mono ?_
  rintro r h27 ⟨k27, d27, rfl, r27⟩
  have K27 := K26.trans k27
  refine ⟨fun c => by simp [recheckB, wanted, Env.get, cls, evOp, Opd.ev, withH, CV.eqb, CV.eqb_refl, CV.eqbL_refl, s3 h27 K27], ?_⟩
  refine WO_re (by simp) ?_
  try simp
  refine (jobOf_spec hpg (q 38 (by decide)) (q 53 (by decide)) (q 32 (by decide)) r27 bA.1 cA).mono ?_
  rintro r h28 ⟨k28, d28, rfl, r28⟩
  have K28 := K27.trans k28
  refine ⟨fun c => by simp [recheckB, wanted, Env.get, cls, evOp, Opd.ev, withH, CV.eqb, CV.eqb_refl, CV.eqbL_refl, s3 h28 K28], ?_⟩
  try simp
  refine (give_spec (.inr (pg 46 _ S.pg46)) (q 46 (by decide)) (jobC.on rA K28) hA).mono ?_
  rintro r h29 ⟨k29, d29, rfl, r29⟩
  have K29 := K28.trans k29
  try simp
  refine (refSameJob_spec hpg (q 35 (by decide)) (q 63 (by decide)) (q 33 (by decide)) (q 64 (by decide)) (jobC.on r28 k29) r29 bA.1 cA (by have := List.length_filter_le (fun y => decide (y ≠ lock)) A.held; simp only [giveF]; omega)).mono ?_
  rintro r h30 ⟨k30, rfl⟩
  have K30 := K29.trans k30
  clear r27 r28 r29
  simp [sx h30 K30, s3 h30 K30]
  refine WO_re (by simp) ?_
  try simp
  refine (jobOf_spec hpg (q 38 (by decide)) (q 53 (by decide)) (q 32 (by decide)) (jobC.on rx K30) bA.1 cA).mono ?_
  rintro r h31 ⟨k31, d31, rfl, r31⟩
  have K31 := K30.trans k31
  refine ⟨fun c => by simp [recheckB, wanted, Env.get, cls, evOp, Opd.ev, withH, CV.eqb, CV.eqb_refl, CV.eqbL_refl, s3 h31 K31], ?_⟩
  try simp
  refine (refSameJob_spec hpg (q 35 (by decide)) (q 63 (by decide)) (q 33 (by decide)) (q 64 (by decide)) r31 (jobC.on rA K31) bA.1 cA hA).mono ?_
  rintro r h32 ⟨k32, rfl⟩
  simp

end Go.Cl
