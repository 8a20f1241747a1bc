/- CpuSteps: what the two steps answered is the same. CpuSteps: the memory behind a step. The document's New. CpuSteps: its rounds. CpuSteps: the law's walk. -/
import Derived.Test.YtiakonmamkfopaaZTk
import Derived.Test.YtiakonmamkfopaaZCpuTc
import Derived.Deep.RegionHeld3
import Derived.Test.YtiakonmamkfopaaZCpuTd
import Derived.Test.YtiakonmamkfopaaZCpuTb
import Derived.Test.YtiakonmamkfopaaZCpuTe
namespace Go.Proofs.Ytiakonmamkfopaa
open Go.RowKit Go.ChangeShapes
set_option linter.unusedVariables false
set_option maxRecDepth 1000000
noncomputable def cs16 : Code := ((Try.f3.body.bind (regionOf 16)).getD .skip)
/-- what the test finds -/
structure RT (W : World) (N b10 Y b12 b16 b17 : Nat) (s t : St) (l tl : List Fr) (stk va tv uv mv : Value) (is : Bool) (k o x cnt : Int) : Prop where
  nn : stAt W N s stk
  nk : stkAt W stk l
  aa : rsAt W b10 s va
  ak : rstkAt W va l
  tt : stAt W b12 t tv
  tk : stkAt W tv tl
  uu : rsAt W b16 t uv
  uk : rstkAt W uv tl
  ww : blk4 W b17 45 (.bool is) (.int .i64 k) (.int .i64 o) (.int .i64 x)
  yy : memAt W 0 Y mv is k o x cnt
  l8 : l.length ≤ 8
  t8 : tl.length ≤ 8
  cc : cnt = if is then 1 else 0
theorem RT.below {W W' : World} {N b10 Y b12 b16 b17 : Nat} {s t : St} {l tl : List Fr} {stk va tv uv mv : Value} {is : Bool} {k o x cnt : Int} (h : RT W N b10 Y b12 b16 b17 s t l tl stk va tv uv mv is k o x cnt) (hb : Below W.heap.size W W') : RT W' N b10 Y b12 b16 b17 s t l tl stk va tv uv mv is k o x cnt :=
  have ho : Off (fun _ => False) W W' := .of_below hb
  ⟨ho.keeps h.nn id, stkAt.off h.nk ho (fun _ h => h.elim), ho.keeps h.aa id, ho.row h.ak (fun _ h => h.elim), ho.keeps h.tt id, stkAt.off h.tk ho (fun _ h => h.elim), ho.keeps h.uu id, ho.row h.uk (fun _ h => h.elim), ho.keeps h.ww id, ho.keeps h.yy id, h.l8, h.t8, h.cc⟩
theorem eq_sto (a : Bool) (b c d : Int) (w : World) : (Op.equalIn 10000 45 (.agg #[.bool a, .int .i64 b, .int .i64 c, .int .i64 d]) (.agg #[.bool a, .int .i64 b, .int .i64 c, .int .i64 d])).run Try.prog w = .ok true w := by
  go_simp
set_option maxHeartbeats 8000000 in
theorem st16 (W : World) (N b10 Y b12 b16 b17 : Nat) (s t : St) (l tl : List Fr) (stk va tv uv mv : Value) (is : Bool) (k o x cnt out er : Int) (told : Bool) (v0 v1 v2 v3 v4 v5 v6 v9 v21 v22 v23 v24 v25 v26 v27 v28 v29 v30 v31 v32 v33 v34 v35 v36 v37 v38 v39 v40 v41 v42 v43 v44 v45 v46 v47 v48 v49 v50 v51 v52 v53 v54 v55 v56 v57 v58 v59 v60 v61 v62 v63 v64 v65 v66 v67 v68 v69 v70 v71 v72 v73 v74 v75 v76 v77 v78 v79 v80 v81 v82 v83 v84 v85 v86 v87 v88 v89 v90 v91 v92 v93 v94 v95 v96 v97 v98 v99 v100 v101 v102 v103 v104 v105 v106 v107 v108 v109 v110 v111 v112 v113 v114 v115 v116 v117 v118 v119 v120 v121 v122 v123 v124 v125 v126 v127 v128 v129 v130 v131 v132 v133 v134 v135 v136 v137 v138 v139 v140 v141 v142 v143 v144 v145 v146 : Value) (Q : Exit → Act → World → Prop) (R : RT W N b10 Y b12 b16 b17 s t l tl stk va tv uv mv is k o x cnt)
    (hQ : ∀ (u67 u68 u69 u70 u71 u72 u73 u74 u75 u76 u77 u78 u79 u80 u81 u82 u83 u84 u85 u86 u87 u88 u89 u90 u91 u92 u93 u94 u95 u96 u97 u98 u99 u100 u101 u102 u103 u104 u105 u106 u107 u108 u109 u110 u111 u112 u113 u114 u115 u116 u117 : Value) (W' : World), Below W.heap.size W W' → Q .normal ⟨(v0 :: v1 :: v2 :: v3 :: v4 :: v5 :: v6 :: mv :: (.pointer (some ⟨N, 0, none⟩)) :: v9 :: (.pointer (some ⟨b10, 0, none⟩)) :: (.pointer (some ⟨Y, 0, none⟩)) :: (.pointer (some ⟨b12, 0, none⟩)) :: (.int .i64 out) :: (.bool told) :: (.int .i64 er) :: (.pointer (some ⟨b16, 0, none⟩)) :: (.pointer (some ⟨b17, 0, none⟩)) :: (.int .i64 out) :: (.bool told) :: (.int .i64 er) :: v21 :: v22 :: v23 :: v24 :: v25 :: v26 :: v27 :: v28 :: v29 :: v30 :: v31 :: v32 :: v33 :: v34 :: v35 :: v36 :: v37 :: v38 :: v39 :: v40 :: v41 :: v42 :: v43 :: v44 :: v45 :: v46 :: v47 :: v48 :: v49 :: v50 :: v51 :: v52 :: v53 :: v54 :: v55 :: v56 :: v57 :: v58 :: v59 :: v60 :: v61 :: v62 :: v63 :: v64 :: v65 :: v66 :: u67 :: u68 :: u69 :: u70 :: u71 :: u72 :: u73 :: u74 :: u75 :: u76 :: u77 :: u78 :: u79 :: u80 :: u81 :: u82 :: u83 :: u84 :: u85 :: u86 :: u87 :: u88 :: u89 :: u90 :: u91 :: u92 :: u93 :: u94 :: u95 :: u96 :: u97 :: u98 :: u99 :: u100 :: u101 :: u102 :: u103 :: u104 :: u105 :: u106 :: u107 :: u108 :: u109 :: u110 :: u111 :: u112 :: u113 :: u114 :: u115 :: u116 :: u117 :: (.bool false) :: v119 :: v120 :: v121 :: v122 :: v123 :: v124 :: v125 :: v126 :: v127 :: v128 :: v129 :: v130 :: v131 :: v132 :: v133 :: v134 :: v135 :: v136 :: v137 :: v138 :: v139 :: v140 :: v141 :: v142 :: v143 :: v144 :: v145 :: v146 :: []).toArray, []⟩ W') : Code.wp Try.prog cs16 Q ⟨(v0 :: v1 :: v2 :: v3 :: v4 :: v5 :: v6 :: mv :: (.pointer (some ⟨N, 0, none⟩)) :: v9 :: (.pointer (some ⟨b10, 0, none⟩)) :: (.pointer (some ⟨Y, 0, none⟩)) :: (.pointer (some ⟨b12, 0, none⟩)) :: (.int .i64 out) :: (.bool told) :: (.int .i64 er) :: (.pointer (some ⟨b16, 0, none⟩)) :: (.pointer (some ⟨b17, 0, none⟩)) :: (.int .i64 out) :: (.bool told) :: (.int .i64 er) :: v21 :: v22 :: v23 :: v24 :: v25 :: v26 :: v27 :: v28 :: v29 :: v30 :: v31 :: v32 :: v33 :: v34 :: v35 :: v36 :: v37 :: v38 :: v39 :: v40 :: v41 :: v42 :: v43 :: v44 :: v45 :: v46 :: v47 :: v48 :: v49 :: v50 :: v51 :: v52 :: v53 :: v54 :: v55 :: v56 :: v57 :: v58 :: v59 :: v60 :: v61 :: v62 :: v63 :: v64 :: v65 :: v66 :: v67 :: v68 :: v69 :: v70 :: v71 :: v72 :: v73 :: v74 :: v75 :: v76 :: v77 :: v78 :: v79 :: v80 :: v81 :: v82 :: v83 :: v84 :: v85 :: v86 :: v87 :: v88 :: v89 :: v90 :: v91 :: v92 :: v93 :: v94 :: v95 :: v96 :: v97 :: v98 :: v99 :: v100 :: v101 :: v102 :: v103 :: v104 :: v105 :: v106 :: v107 :: v108 :: v109 :: v110 :: v111 :: v112 :: v113 :: v114 :: v115 :: v116 :: v117 :: v118 :: v119 :: v120 :: v121 :: v122 :: v123 :: v124 :: v125 :: v126 :: v127 :: v128 :: v129 :: v130 :: v131 :: v132 :: v133 :: v134 :: v135 :: v136 :: v137 :: v138 :: v139 :: v140 :: v141 :: v142 :: v143 :: v144 :: v145 :: v146 :: []).toArray, []⟩ W := by
  have h1 : ¬ 1 < cnt := by have := R.cc; split at this <;> omega
  have h2 : (cnt == 1) = is := by have := R.cc; cases is <;> simp at this <;> simp [this]
  replace R := Lib.hid R
  conv => arg 2; whnf
  refine wp_region_noPanic ?_
  refine wp_region_held_drew (S := fun w' => Below W.drew.heap.size W.drew w') (by kernel_rfl) (Below.refl _ _) (fun hHeld => ?_)
  have LD : Hid (Below W.heap.size W W.drew) := below_drew (Below.refl _ _)
  replace R : Hid (RT W.drew N b10 Y b12 b16 b17 s t l tl stk va tv uv mv is k o x cnt) := Lib.hid (R.out.below LD.out)
  generalize W.drew = D at R LD hHeld ⊢
  have BC := Lib.hid (Below.refl D.heap.size D)
  have hes := eq_sto is k o x
  have y1 : ∀ w', Below D.heap.size D w' → w'.cell? ⟨Y, 1, none⟩ = some (.bool is) := fun w' h => cell_of_row w' Y 1 _ _ _ (show memAt w' 0 Y mv is k o x cnt from Off.keeps (.of_below (ex := fun _ => False) h) R.out.yy id)
  have y2 : ∀ w', Below D.heap.size D w' → w'.cell? ⟨Y, 2, none⟩ = some (.int .i64 k) := fun w' h => cell_of_row w' Y 2 _ _ _ (show memAt w' 0 Y mv is k o x cnt from Off.keeps (.of_below (ex := fun _ => False) h) R.out.yy id)
  have y3 : ∀ w', Below D.heap.size D w' → w'.cell? ⟨Y, 3, none⟩ = some (.int .i64 o) := fun w' h => cell_of_row w' Y 3 _ _ _ (show memAt w' 0 Y mv is k o x cnt from Off.keeps (.of_below (ex := fun _ => False) h) R.out.yy id)
  have y4 : ∀ w', Below D.heap.size D w' → w'.cell? ⟨Y, 4, none⟩ = some (.int .i64 x) := fun w' h => cell_of_row w' Y 4 _ _ _ (show memAt w' 0 Y mv is k o x cnt from Off.keeps (.of_below (ex := fun _ => False) h) R.out.yy id)
  have y5 : ∀ w', Below D.heap.size D w' → w'.cell? ⟨Y, 5, none⟩ = some (.int .i64 cnt) := fun w' h => cell_of_row w' Y 5 _ _ _ (show memAt w' 0 Y mv is k o x cnt from Off.keeps (.of_below (ex := fun _ => False) h) R.out.yy id)
  have w0 : ∀ w', Below D.heap.size D w' → w'.cell? ⟨b17, 0, none⟩ = some (.bool is) := fun w' h => (show blk4 w' b17 45 (.bool is) (.int .i64 k) (.int .i64 o) (.int .i64 x) from Off.keeps (.of_below (ex := fun _ => False) h) R.out.ww id).cell 0
  have w1 : ∀ w', Below D.heap.size D w' → w'.cell? ⟨b17, 1, none⟩ = some (.int .i64 k) := fun w' h => (show blk4 w' b17 45 (.bool is) (.int .i64 k) (.int .i64 o) (.int .i64 x) from Off.keeps (.of_below (ex := fun _ => False) h) R.out.ww id).cell 1
  have w2 : ∀ w', Below D.heap.size D w' → w'.cell? ⟨b17, 2, none⟩ = some (.int .i64 o) := fun w' h => (show blk4 w' b17 45 (.bool is) (.int .i64 k) (.int .i64 o) (.int .i64 x) from Off.keeps (.of_below (ex := fun _ => False) h) R.out.ww id).cell 2
  have w3 : ∀ w', Below D.heap.size D w' → w'.cell? ⟨b17, 3, none⟩ = some (.int .i64 x) := fun w' h => (show blk4 w' b17 45 (.bool is) (.int .i64 k) (.int .i64 o) (.int .i64 x) from Off.keeps (.of_below (ex := fun _ => False) h) R.out.ww id).cell 3
  try simp only [Act.put, sA, sB, sC]
  refine tkA 0 ?_
  try simp only [Act.put, sA, sB, sC]
  refine tkA 1 ?_
  try simp only [Act.put, sA, sB, sC]
  refine tkA 2 ?_
  try simp only [Act.put, sA, sB, sC]
  refine tkA 3 ?_
  try simp only [Act.put, sA, sB, sC]
  refine tkA 4 ?_
  try simp only [Act.put, sA, sB, sC]
  refine tkA 5 ?_
  try simp only [Act.put, sA, sB, sC]
  refine tkA 6 ?_
  try simp only [Act.put, sA, sB, sC]
  refine tkA 7 ?_
  try simp only [Act.put, sA, sB, sC]
  refine tkA 8 ?_
  try simp only [Act.put, sA, sB, sC]
  refine tkA 9 ?_
  try simp only [Act.put, sA, sB, sC]
  refine tkA 10 ?_
  try simp only [Act.put, sA, sB, sC]
  refine tkA 11 ?_
  try simp only [Act.put, sA, sB, sC]
  refine tkA 12 ?_
  try simp only [Act.put, sA, sB, sC]
  refine tkA 13 ?_
  try simp only [Act.put, sA, sB, sC]
  refine wpAnyH_take (i := 14) (oi := ⟨_, _, _, _, _, _⟩) (v := .agg #[.int .i64 t.seg, .int .i64 t.off, .int .i64 t.ring, .int .i64 t.a, .int .i64 t.p0.seg, .int .i64 t.p0.off, .int .i64 t.p0.ring, .int .i64 t.p1.seg, .int .i64 t.p1.off, .int .i64 t.p1.ring, .int .i64 t.p2.seg, .int .i64 t.p2.off, .int .i64 t.p2.ring, .int .i64 t.p3.seg, .int .i64 t.p3.off, .int .i64 t.p3.ring, tv, .bool t.hal]) rfl (by kernel_rfl) (by kernel_rfl) (by kernel_rfl) (fun _ _ _ h => h) (yieldsIf_load_mid (by rfl) 33 (.tmp 12) rfl (b12) 0 rfl (stC t tv).toList _ (fun w hS => st_range (show stAt w b12 t tv from Off.keeps (.of_below (ex := fun _ => False) hS) R.out.tt id)) A.stateU A.stateR A.stateI) (by assumption) ?_
  try simp only [Act.put, sA, sB, sC]
  refine wpAnyH_take (i := 16) (oi := ⟨_, _, _, _, _, _⟩) (v := .agg #[.int .i64 t.seg, .int .i64 t.off, .int .i64 t.ring, .int .i64 t.a, .int .i64 t.p0.seg, .int .i64 t.p0.off, .int .i64 t.p0.ring, .int .i64 t.p1.seg, .int .i64 t.p1.off, .int .i64 t.p1.ring, .int .i64 t.p2.seg, .int .i64 t.p2.off, .int .i64 t.p2.ring, .int .i64 t.p3.seg, .int .i64 t.p3.off, .int .i64 t.p3.ring, uv, .bool t.hal]) rfl (by kernel_rfl) (by kernel_rfl) (by kernel_rfl) (fun _ _ _ h => h) (yieldsIf_load_mid (by rfl) 39 (.tmp 16) rfl (b16) 0 rfl (stC t uv).toList _ (fun w hS => rs_range (show rsAt w b16 t uv from Off.keeps (.of_below (ex := fun _ => False) hS) R.out.uu id)) A.rstateU A.rstateR A.rstateI) (by assumption) ?_
  try simp only [Act.put, sA, sB, sC]
  refine rdA 15 (fun K hK => ?_)
  go_simp
  refine (c_state D t tl tv R.out.tk (by have := R.out.t8; omega)).mono ?_
  rintro e X1 ⟨z1, rfl, hr1, hb1⟩
  dsimp only
  refine hK.out _ _ ?_ (fun hHeld => ?_)
  · exact below2 BC.out hb1
  clear hK K
  try simp only [Act.put, sA, sB, sC]
  have V1 := Lib.hid hr1
  have U1 : Hid (rstkAt X1 uv tl) := Off.row (ex := fun _ => False) (.of_below hb1) R.out.uk (fun _ h => h.elim)
  replace BC := Lib.hid (below2 BC.out hb1)
  clear hr1 hb1
  refine rdA 17 (fun K hK => ?_)
  go_simp
  refine (c_same X1 t tl z1 uv V1.out U1.out (by have := R.out.t8; omega)).mono ?_
  rintro e X2 ⟨rfl, hb2⟩
  dsimp only
  refine hK.out _ _ ?_ (fun hHeld => ?_)
  · exact below2 BC.out hb2
  clear hK K
  try simp only [Act.put, sA, sB, sC]
  replace BC := Lib.hid (below2 BC.out hb2)
  clear hb2 V1 U1
  refine tkA 18 ?_
  try simp only [Act.put, sA, sB, sC]
  refine tkA 19 ?_
  try simp only [Act.put, sA, sB, sC]
  refine tkA 20 ?_
  try simp only [Act.put, sA, sB, sC]
  refine tkA 21 ?_
  try simp only [Act.put, sA, sB, sC]
  refine tkA 22 ?_
  try simp only [Act.put, sA, sB, sC]
  refine tkA 23 ?_
  try simp only [Act.put, sA, sB, sC]
  refine tkA 24 ?_
  try simp only [Act.put, sA, sB, sC]
  refine tkA 25 ?_
  try simp only [Act.put, sA, sB, sC]
  refine tkA 26 ?_
  try simp only [Act.put, sA, sB, sC]
  refine tkA 27 ?_
  try simp only [Act.put, sA, sB, sC]
  refine tkA 28 ?_
  try simp only [Act.put, sA, sB, sC]
  refine tkA 29 ?_
  try simp only [Act.put, sA, sB, sC]
  refine tkA 30 ?_
  try simp only [Act.put, sA, sB, sC]
  refine tkA 31 ?_
  try simp only [Act.put, sA, sB, sC]
  refine tkA 32 ?_
  try simp only [Act.put, sA, sB, sC]
  refine tkA 33 ?_
  try simp only [Act.put, sA, sB, sC]
  refine tkA 34 ?_
  try simp only [Act.put, sA, sB, sC]
  refine tkA 35 ?_
  try simp only [Act.put, sA, sB, sC]
  refine tkA 36 ?_
  try simp only [Act.put, sA, sB, sC]
  refine tkA 37 ?_
  try simp only [Act.put, sA, sB, sC]
  refine tkA 38 ?_
  try simp only [Act.put, sA, sB, sC]
  refine tkA 39 ?_
  try simp only [Act.put, sA, sB, sC]
  refine tkA 40 ?_
  try simp only [Act.put, sA, sB, sC]
  refine tkA 41 ?_
  try simp only [Act.put, sA, sB, sC]
  refine tkA 42 ?_
  try simp only [Act.put, sA, sB, sC]
  refine tkA 43 ?_
  try simp only [Act.put, sA, sB, sC]
  refine tkA 44 ?_
  try simp only [Act.put, sA, sB, sC]
  refine tkA 45 ?_
  try simp only [Act.put, sA, sB, sC]
  clear y1 y2 y3 y4 y5 w0 w1 w2 w3
  refine wpAnyH_take (i := 46) (oi := ⟨_, _, _, _, _, _⟩) (v := .agg #[.int .i64 s.seg, .int .i64 s.off, .int .i64 s.ring, .int .i64 s.a, .int .i64 s.p0.seg, .int .i64 s.p0.off, .int .i64 s.p0.ring, .int .i64 s.p1.seg, .int .i64 s.p1.off, .int .i64 s.p1.ring, .int .i64 s.p2.seg, .int .i64 s.p2.off, .int .i64 s.p2.ring, .int .i64 s.p3.seg, .int .i64 s.p3.off, .int .i64 s.p3.ring, stk, .bool s.hal]) rfl (by kernel_rfl) (by kernel_rfl) (by kernel_rfl) (fun _ _ _ h => h) (yieldsIf_load_mid (by rfl) 33 (.tmp 8) rfl (N) 0 rfl (stC s stk).toList _ (fun w hS => st_range (show stAt w N s stk from Off.keeps (.of_below (ex := fun _ => False) hS) R.out.nn id)) A.stateU A.stateR A.stateI) (by assumption) ?_
  try simp only [Act.put, sA, sB, sC]
  refine wpAnyH_take (i := 48) (oi := ⟨_, _, _, _, _, _⟩) (v := .agg #[.int .i64 s.seg, .int .i64 s.off, .int .i64 s.ring, .int .i64 s.a, .int .i64 s.p0.seg, .int .i64 s.p0.off, .int .i64 s.p0.ring, .int .i64 s.p1.seg, .int .i64 s.p1.off, .int .i64 s.p1.ring, .int .i64 s.p2.seg, .int .i64 s.p2.off, .int .i64 s.p2.ring, .int .i64 s.p3.seg, .int .i64 s.p3.off, .int .i64 s.p3.ring, va, .bool s.hal]) rfl (by kernel_rfl) (by kernel_rfl) (by kernel_rfl) (fun _ _ _ h => h) (yieldsIf_load_mid (by rfl) 39 (.tmp 10) rfl (b10) 0 rfl (stC s va).toList _ (fun w hS => rs_range (show rsAt w b10 s va from Off.keeps (.of_below (ex := fun _ => False) hS) R.out.aa id)) A.rstateU A.rstateR A.rstateI) (by assumption) ?_
  try simp only [Act.put, sA, sB, sC]
  refine rdA 47 (fun K hK => ?_)
  go_simp
  refine (c_state X2 s l stk (stkAt.off (ex := fun _ => False) R.out.nk (.of_below BC.out) (fun _ h => h.elim)) (by have := R.out.l8; omega)).mono ?_
  rintro e X3 ⟨z3, rfl, hr3, hb3⟩
  dsimp only
  refine hK.out _ _ ?_ (fun hHeld => ?_)
  · exact below2 BC.out hb3
  clear hK K
  try simp only [Act.put, sA, sB, sC]
  have V3 := Lib.hid hr3
  replace BC := Lib.hid (below2 BC.out hb3)
  clear hr3 hb3
  refine rdA 49 (fun K hK => ?_)
  go_simp
  refine (c_same X3 s l z3 va V3.out (Off.row (ex := fun _ => False) (.of_below BC.out) R.out.ak (fun _ h => h.elim)) (by have := R.out.l8; omega)).mono ?_
  rintro e X4 ⟨rfl, hb4⟩
  dsimp only
  refine hK.out _ _ ?_ (fun hHeld => ?_)
  · exact below2 BC.out hb4
  clear hK K
  try simp only [Act.put, sA, sB, sC]
  replace BC := Lib.hid (below2 BC.out hb4)
  clear hb4 V3
  refine tkA 50 ?_
  try simp only [Act.put, sA, sB, sC]
  refine tkA 51 ?_
  try simp only [Act.put, sA, sB, sC]
  refine wpAnyH_done (by kernel_rfl) ?_ _
  refine NoPanic.normal ?_
  exact hQ _ _ _ _ _ _ _ _ _ _ _ _ _ _ _ _ _ _ _ _ _ _ _ _ _ _ _ _ _ _ _ _ _ _ _ _ _ _ _ _ _ _ _ _ _ _ _ _ _ _ _ _ (below2 LD.out BC.out)
end Go.Proofs.Ytiakonmamkfopaa
namespace Go.Proofs.Ytiakonmamkfopaa
open Go.RowKit Go.ChangeShapes
set_option linter.unusedVariables false
set_option maxRecDepth 1000000
noncomputable def cs20 : Code := ((Try.f3.body.bind (partOf 20)).getD .skip)
/-- the memory behind a step -/
structure AftS (w w' : World) (mv : Value) (vs : List Value) (M : List Sg) : Prop where
  sg : Segs w' 0 mv vs M
  bl : Below w.heap.size w w'
theorem rows_one2 {w : World} {v : Value} {vs : List Value} {M : List Sg} (h : Segs w 0 v vs M) : ∀ u ∈ rows M vs, u.oneCell' = true := by
  have key : ∀ (M : List Sg) (vs : List Value), (∀ x ∈ vs, x.oneCell' = true) → ∀ u ∈ rows M vs, u.oneCell' = true := by
    intro M
    induction M with
    | nil => intro vs _ u hu; simp [rows] at hu
    | cons s M ih =>
      intro vs hv u hu
      cases vs with
      | nil => simp [rows] at hu
      | cons x vs =>
        rw [rows, List.mem_append] at hu
        rcases hu with hu | hu
        · simp only [Sg.row, List.mem_cons, List.not_mem_nil, or_false] at hu
          rcases hu with rfl | rfl | rfl | rfl | rfl | rfl | rfl
          · rfl
          · exact hv _ (by simp)
          all_goals rfl
        · exact ih vs (fun y hy => hv y (by simp [hy])) u hu
  refine key M vs (fun x hx => ?_)
  obtain ⟨i, hi⟩ := List.mem_iff_getElem?.1 hx
  have hil : i < M.length := by rw [← h.len]; exact (List.getElem?_eq_some_iff.1 hi).1
  obtain ⟨ad, cap, rfl, _⟩ := row_shape (h.words i M[i] x (List.getElem?_eq_getElem hil) hi)
  rfl
set_option maxHeartbeats 8000000 in
theorem st20_none (w : World) (b17 : Nat) (am : Value) (v0 v1 v2 v3 v4 v5 v6 v8 v9 v10 v11 v12 v13 v14 v15 v16 v18 v19 v20 v21 v22 v23 v24 v25 v26 v27 v28 v29 v30 v31 v32 v33 v34 v35 v36 v37 v38 v39 v40 v41 v42 v43 v44 v45 v46 v47 v48 v49 v50 v51 v52 v53 v54 v55 v56 v57 v58 v59 v60 v61 v62 v63 v64 v65 v66 v67 v68 v69 v70 v71 v72 v73 v74 v75 v76 v77 v78 v79 v80 v81 v82 v83 v84 v85 v86 v87 v88 v89 v90 v91 v92 v93 v94 v95 v96 v97 v98 v99 v100 v101 v102 v103 v104 v105 v106 v107 v108 v109 v110 v111 v112 v113 v114 v115 v116 v117 v118 v119 v120 v121 v122 v123 v124 v125 v126 v127 v128 v129 v130 v131 v132 v133 v134 v135 v136 v137 v138 v139 v140 v141 v142 v143 v144 v145 v146 : Value) (Q : Exit → Act → World → Prop) (hY : w.cell? ⟨b17, 0, none⟩ = some (.bool false))
    (hQ : ∀ (u121 u122 : Value), Q .normal ⟨(v0 :: v1 :: v2 :: v3 :: v4 :: v5 :: v6 :: am :: v8 :: v9 :: v10 :: v11 :: v12 :: v13 :: v14 :: v15 :: v16 :: (.pointer (some ⟨b17, 0, none⟩)) :: v18 :: v19 :: v20 :: v21 :: v22 :: v23 :: v24 :: v25 :: v26 :: v27 :: v28 :: v29 :: v30 :: v31 :: v32 :: v33 :: v34 :: v35 :: v36 :: v37 :: v38 :: v39 :: v40 :: v41 :: v42 :: v43 :: v44 :: v45 :: v46 :: v47 :: v48 :: v49 :: v50 :: v51 :: v52 :: v53 :: v54 :: v55 :: v56 :: v57 :: v58 :: v59 :: v60 :: v61 :: v62 :: v63 :: v64 :: v65 :: v66 :: v67 :: v68 :: v69 :: v70 :: v71 :: v72 :: v73 :: v74 :: v75 :: v76 :: v77 :: v78 :: v79 :: v80 :: v81 :: v82 :: v83 :: v84 :: v85 :: v86 :: v87 :: v88 :: v89 :: v90 :: v91 :: v92 :: v93 :: v94 :: v95 :: v96 :: v97 :: v98 :: v99 :: v100 :: v101 :: v102 :: v103 :: v104 :: v105 :: v106 :: v107 :: v108 :: v109 :: v110 :: v111 :: v112 :: v113 :: v114 :: v115 :: v116 :: v117 :: v118 :: v119 :: v120 :: u121 :: u122 :: v123 :: v124 :: v125 :: v126 :: v127 :: v128 :: v129 :: v130 :: v131 :: v132 :: v133 :: v134 :: v135 :: v136 :: v137 :: v138 :: v139 :: v140 :: v141 :: v142 :: v143 :: v144 :: v145 :: v146 :: []).toArray, []⟩ w) : Code.wp Try.prog cs20 Q ⟨(v0 :: v1 :: v2 :: v3 :: v4 :: v5 :: v6 :: am :: v8 :: v9 :: v10 :: v11 :: v12 :: v13 :: v14 :: v15 :: v16 :: (.pointer (some ⟨b17, 0, none⟩)) :: v18 :: v19 :: v20 :: v21 :: v22 :: v23 :: v24 :: v25 :: v26 :: v27 :: v28 :: v29 :: v30 :: v31 :: v32 :: v33 :: v34 :: v35 :: v36 :: v37 :: v38 :: v39 :: v40 :: v41 :: v42 :: v43 :: v44 :: v45 :: v46 :: v47 :: v48 :: v49 :: v50 :: v51 :: v52 :: v53 :: v54 :: v55 :: v56 :: v57 :: v58 :: v59 :: v60 :: v61 :: v62 :: v63 :: v64 :: v65 :: v66 :: v67 :: v68 :: v69 :: v70 :: v71 :: v72 :: v73 :: v74 :: v75 :: v76 :: v77 :: v78 :: v79 :: v80 :: v81 :: v82 :: v83 :: v84 :: v85 :: v86 :: v87 :: v88 :: v89 :: v90 :: v91 :: v92 :: v93 :: v94 :: v95 :: v96 :: v97 :: v98 :: v99 :: v100 :: v101 :: v102 :: v103 :: v104 :: v105 :: v106 :: v107 :: v108 :: v109 :: v110 :: v111 :: v112 :: v113 :: v114 :: v115 :: v116 :: v117 :: v118 :: v119 :: v120 :: v121 :: v122 :: v123 :: v124 :: v125 :: v126 :: v127 :: v128 :: v129 :: v130 :: v131 :: v132 :: v133 :: v134 :: v135 :: v136 :: v137 :: v138 :: v139 :: v140 :: v141 :: v142 :: v143 :: v144 :: v145 :: v146 :: []).toArray, []⟩ w := by
  conv => arg 2; whnf
  go_wp2_with fail
  exact hQ _ _
set_option maxHeartbeats 8000000 in
theorem st20_some (w : World) (b17 K o cm : Nat) (am : Option Addr) (vs : List Value) (M : List Sg) (g : Sg) (x : Int) (v0 v1 v2 v3 v4 v5 v6 v8 v9 v10 v11 v12 v13 v14 v15 v16 v18 v19 v20 v21 v22 v23 v24 v25 v26 v27 v28 v29 v30 v31 v32 v33 v34 v35 v36 v37 v38 v39 v40 v41 v42 v43 v44 v45 v46 v47 v48 v49 v50 v51 v52 v53 v54 v55 v56 v57 v58 v59 v60 v61 v62 v63 v64 v65 v66 v67 v68 v69 v70 v71 v72 v73 v74 v75 v76 v77 v78 v79 v80 v81 v82 v83 v84 v85 v86 v87 v88 v89 v90 v91 v92 v93 v94 v95 v96 v97 v98 v99 v100 v101 v102 v103 v104 v105 v106 v107 v108 v109 v110 v111 v112 v113 v114 v115 v116 v117 v118 v119 v120 v121 v122 v123 v124 v125 v126 v127 v128 v129 v130 v131 v132 v133 v134 v135 v136 v137 v138 v139 v140 v141 v142 v143 v144 v145 v146 : Value) (Q : Exit → Act → World → Prop)
    (hW : blk4 w b17 45 (.bool true) (.int .i64 (K : Int)) (.int .i64 (o : Int)) (.int .i64 x)) (hM : Segs w 0 (.slice am M.length cm) vs M) (hm5 : M.length ≤ 5) (hmg : ∀ g ∈ M, GoodSg g) (hMK : M[K]? = some g) (ho : o < g.ws.length)
    (hQ : ∀ (u7 u21 u121 u122 u123 u124 u125 u126 u127 u128 u129 u130 u131 u132 u133 u134 u135 u136 u137 u138 u139 u140 u141 u142 u143 u144 u145 : Value) (w' : World) (vs' : List Value), AftS w w' u7 vs' (M.set K { g with ws := g.ws.set o x }) → Q .normal ⟨(v0 :: v1 :: v2 :: v3 :: v4 :: v5 :: v6 :: u7 :: v8 :: v9 :: v10 :: v11 :: v12 :: v13 :: v14 :: v15 :: v16 :: (.pointer (some ⟨b17, 0, none⟩)) :: v18 :: v19 :: v20 :: u21 :: v22 :: v23 :: v24 :: v25 :: v26 :: v27 :: v28 :: v29 :: v30 :: v31 :: v32 :: v33 :: v34 :: v35 :: v36 :: v37 :: v38 :: v39 :: v40 :: v41 :: v42 :: v43 :: v44 :: v45 :: v46 :: v47 :: v48 :: v49 :: v50 :: v51 :: v52 :: v53 :: v54 :: v55 :: v56 :: v57 :: v58 :: v59 :: v60 :: v61 :: v62 :: v63 :: v64 :: v65 :: v66 :: v67 :: v68 :: v69 :: v70 :: v71 :: v72 :: v73 :: v74 :: v75 :: v76 :: v77 :: v78 :: v79 :: v80 :: v81 :: v82 :: v83 :: v84 :: v85 :: v86 :: v87 :: v88 :: v89 :: v90 :: v91 :: v92 :: v93 :: v94 :: v95 :: v96 :: v97 :: v98 :: v99 :: v100 :: v101 :: v102 :: v103 :: v104 :: v105 :: v106 :: v107 :: v108 :: v109 :: v110 :: v111 :: v112 :: v113 :: v114 :: v115 :: v116 :: v117 :: v118 :: v119 :: v120 :: u121 :: u122 :: u123 :: u124 :: u125 :: u126 :: u127 :: u128 :: u129 :: u130 :: u131 :: u132 :: u133 :: u134 :: u135 :: u136 :: u137 :: u138 :: u139 :: u140 :: u141 :: u142 :: u143 :: u144 :: u145 :: v146 :: []).toArray, []⟩ w') : Code.wp Try.prog cs20 Q ⟨(v0 :: v1 :: v2 :: v3 :: v4 :: v5 :: v6 :: (.slice am M.length cm) :: v8 :: v9 :: v10 :: v11 :: v12 :: v13 :: v14 :: v15 :: v16 :: (.pointer (some ⟨b17, 0, none⟩)) :: v18 :: v19 :: v20 :: v21 :: v22 :: v23 :: v24 :: v25 :: v26 :: v27 :: v28 :: v29 :: v30 :: v31 :: v32 :: v33 :: v34 :: v35 :: v36 :: v37 :: v38 :: v39 :: v40 :: v41 :: v42 :: v43 :: v44 :: v45 :: v46 :: v47 :: v48 :: v49 :: v50 :: v51 :: v52 :: v53 :: v54 :: v55 :: v56 :: v57 :: v58 :: v59 :: v60 :: v61 :: v62 :: v63 :: v64 :: v65 :: v66 :: v67 :: v68 :: v69 :: v70 :: v71 :: v72 :: v73 :: v74 :: v75 :: v76 :: v77 :: v78 :: v79 :: v80 :: v81 :: v82 :: v83 :: v84 :: v85 :: v86 :: v87 :: v88 :: v89 :: v90 :: v91 :: v92 :: v93 :: v94 :: v95 :: v96 :: v97 :: v98 :: v99 :: v100 :: v101 :: v102 :: v103 :: v104 :: v105 :: v106 :: v107 :: v108 :: v109 :: v110 :: v111 :: v112 :: v113 :: v114 :: v115 :: v116 :: v117 :: v118 :: v119 :: v120 :: v121 :: v122 :: v123 :: v124 :: v125 :: v126 :: v127 :: v128 :: v129 :: v130 :: v131 :: v132 :: v133 :: v134 :: v135 :: v136 :: v137 :: v138 :: v139 :: v140 :: v141 :: v142 :: v143 :: v144 :: v145 :: v146 :: []).toArray, []⟩ w := by
  have hKl : K < M.length := (List.getElem?_eq_some_iff.1 hMK).1
  have hwl := (hmg g (List.mem_of_getElem? hMK)).ws
  have y0 : w.cell? ⟨b17, 0, none⟩ = some (.bool true) := hW.cell 0
  have Y2 : Hid (w.cell? ⟨b17, 1, none⟩ = some (.int .i64 (K : Int))) := hW.cell 1
  have Y3 : Hid (w.cell? ⟨b17, 2, none⟩ = some (.int .i64 (o : Int))) := hW.cell 2
  have Y4 : Hid (w.cell? ⟨b17, 3, none⟩ = some (.int .i64 x)) := hW.cell 3
  have hYl : Hid (b17 < w.heap.size) := hW.lt
  replace hW := Lib.hid hW
  replace hM := Lib.hid hM
  replace hm5 := Lib.hid hm5
  replace hmg := Lib.hid hmg
  replace hMK := Lib.hid hMK
  conv => arg 2; whnf
  obtain ⟨gm, cm', hq⟩ := row_some hM.out.row (by omega)
  have hq2 : am = some ⟨gm, 0, none⟩ ∧ cm = cm' := by injection hq with a _ c; exact ⟨a, c⟩
  obtain ⟨rfl, rfl⟩ := hq2
  clear hq
  obtain ⟨u, hu⟩ : ∃ u, vs[K]? = some u := ⟨_, List.getElem?_eq_getElem (by have := hM.out.len; omega)⟩
  have hru := hM.out.words K g u hMK.out hu
  obtain ⟨gu, cu2, hq⟩ := row_some hru (by omega)
  subst hq
  have m1 : w.cell? ⟨gm, K * 7 + 1, none⟩ = some (.slice (some ⟨gu, 0, none⟩) g.ws.length cu2) := (row_cell hM.out.row (K * 7 + 1) (by rw [rows_get M vs K 1 g _ hMK.out hu (by omega)]; rfl)).2
  have hgm : gm < w.heap.size := World.block_lt_of_cell? w _ m1
  have B4 : Hid (Below w.heap.size w (w.alloc (.cells #[] 2))) := below_al0 _ _
  have E4 : Hid ((w.alloc (.cells #[] 2)).ownsRow w.heap.size 2 1 (.slice (some ⟨w.heap.size, 0, none⟩) 0 0) 0 []) := empty_row2 w w.heap.size 2 1 (Nat.le_refl _)
  have y2 : (w.alloc (.cells #[] 2)).cell? ⟨b17, 1, none⟩ = some (.int .i64 (K : Int)) := (B4.out.cell (p := ⟨b17, 1, none⟩) hYl.out).trans Y2.out
  have m2 : (w.alloc (.cells #[] 2)).cell? ⟨gm, K * 7 + 1, none⟩ = some (.slice (some ⟨gu, 0, none⟩) g.ws.length cu2) := (B4.out.cell (p := ⟨gm, K * 7 + 1, none⟩) hgm).trans m1
  have R4 : Hid ((w.alloc (.cells #[] 2)).ownsRow 0 2 1 (.slice (some ⟨gu, 0, none⟩) g.ws.length cu2) g.ws.length (g.ws.map (Value.int .i64))) := Off.row (ex := fun _ => False) (.of_below B4.out) hru (fun _ h => h.elim)
  replace hru := Lib.hid hru
  replace hu := Lib.hid hu
  replace hgm := Lib.hid hgm
  replace m1 := Lib.hid m1
  obtain ⟨iI, hiI, hz0, hz1, hz2⟩ := info_parts A.infoI
  obtain ⟨iG, hiG, hg0, hg1, hg2⟩ := info_parts A.infoG
  go_upto_region 22 with (first
    | (at_builtin; refine wpList_append_own _ rfl (.tmp 123) (.tmp 129) 53 rfl w.heap.size 2 iI (.int .i64 0) 1 8 A.underI hiI hz0 hz1 hz2 rfl (by decide) (.slice (some ⟨w.heap.size, 0, none⟩) 0 0) 0 [] rfl E4.out ⟨gu, 0, none⟩ g.ws.length cu2 (g.ws.map (Value.int .i64)) rfl (by simp) (fun j u hj => row_cells R4.out _ rfl j u hj) (by intro x hx; obtain ⟨y, _, rfl⟩ := List.mem_map.1 hx; rfl) (by unfold maxLen; omega) (by omega) B4.out.size ?_; intro gv w5 hown hgrow _; rw [Nat.zero_add, List.nil_append] at hown; have B5 : Hid (Below w.heap.size w w5) := ((Off.of_below (ex := fun _ => False) B4.out).grown hgrow (fun k hk => .inr (own_lo2 E4.out k hk))).to_below; replace hown := Lib.hid hown; clear hgrow))
  obtain ⟨gg, cg, hq⟩ := row_some hown.out (by omega)
  subst hq
  have y3 : w5.cell? ⟨b17, 2, none⟩ = some (.int .i64 (o : Int)) := (B5.out.cell (p := ⟨b17, 2, none⟩) hYl.out).trans Y3.out
  have y4 : w5.cell? ⟨b17, 3, none⟩ = some (.int .i64 x) := (B5.out.cell (p := ⟨b17, 3, none⟩) hYl.out).trans Y4.out
  have hox : (g.ws.map (Value.int .i64))[o]? = some (.int .i64 (g.ws[o]'ho)) := by rw [List.getElem?_map, List.getElem?_eq_getElem ho]; rfl
  have gc : w5.cell? ⟨gg, o, none⟩ = some (.int .i64 (g.ws[o]'ho)) := (row_cell hown.out o hox).2
  obtain ⟨xo, hxo⟩ : ∃ xo, g.ws[o]'ho = xo := ⟨_, rfl⟩
  rw [hxo] at gc
  have gf : ∀ j, w5.frozen? ⟨gg, j, none⟩ = false := fun j => by
    obtain ⟨cs, hc⟩ := row_blk hown.out
    simp [World.frozen?, show w5.heap[gg]? = _ from hc]
  clear y2 m2 hox hxo
  go_upto_region 23 with fail
  obtain ⟨w6, hw6, R6, B6⟩ : ∃ W, w5.setCell ⟨gg, o, none⟩ (.int .i64 x) = W ∧ Hid (W.ownsRow w.heap.size 2 1 (.slice (some ⟨gg, 0, none⟩) g.ws.length cg) g.ws.length ((g.ws.set o x).map (Value.int .i64))) ∧ Hid (Below w.heap.size w W) := by
    refine ⟨_, rfl, ?_, ?_⟩
    · rw [← map_set_int]
      exact row_store hown.out o (by simpa using ho) (.int .i64 x)
    · exact B5.out.setCell (own_lo2 hown.out gg rfl) _
  rw [hw6]
  clear hw6 gc gf y3 y4
  have M6 : Hid (Segs w6 0 (.slice (some ⟨gm, 0, none⟩) M.length cm) vs M) := hM.out.off (ex := fun _ => False) (.of_below B6.out) (fun _ h => h.elim) (fun _ h => h.elim)
  have M7 : Hid (Segs (w6.alloc (.cells #[] 57)) 0 (.slice (some ⟨gm, 0, none⟩) M.length cm) vs M) := M6.out.off (ex := fun _ => False) (.of_below (below_al0 _ _)) (fun _ h => h.elim) (fun _ h => h.elim)
  have B7 : Hid (Below w.heap.size w (w6.alloc (.cells #[] 57))) := below2 B6.out (below_al0 _ _)
  have E7 : Hid ((w6.alloc (.cells #[] 57)).ownsRow w.heap.size 57 7 (.slice (some ⟨w6.heap.size, 0, none⟩) 0 0) 0 []) := empty_row2 w6 w.heap.size 57 7 B6.out.size
  have ML := hm5.out
  go_upto_region 24 with (first
    | (at_builtin; refine wpList_append_own _ rfl (.tmp 137) (.tmp 138) 30 rfl w.heap.size 57 iG (.agg #[.bool false, .slice none 0 0, .int .i64 0, .int .i64 0, .int .i64 0, .int .i64 0, .int .i64 0]) 7 72 A.underG hiG hg0 hg1 hg2 rfl (by decide) (.slice (some ⟨w6.heap.size, 0, none⟩) 0 0) 0 [] rfl E7.out ⟨gm, 0, none⟩ M.length cm (rows M vs) rfl (rows_length M vs M7.out.len) (fun j u hj => row_cells M7.out.row _ rfl j u hj) (rows_one2 M7.out) (by unfold maxLen; omega) (by omega) B7.out.size ?_; intro mv' w8 hown8 hgrow _; rw [Nat.zero_add, List.nil_append] at hown8; have B8 : Hid (Below w.heap.size w w8) := ((Off.of_below (ex := fun _ => False) B7.out).grown hgrow (fun k hk => .inr (own_lo2 E7.out k hk))).to_below; have O8 : Hid (Off (fun k => w6.heap.size = k) (w6.alloc (.cells #[] 57)) w8) := (Off.refl _ _).grown hgrow (fun k hk => .inl (Option.some.inj hk)); replace hown8 := Lib.hid hown8; clear hgrow))
  obtain ⟨g8, c8, hq⟩ := row_some hown8.out (by omega)
  subst hq
  have nt : ∀ (ty : TypeId), ty ≠ 57 → ∀ k, w6.heap.size = k → ∀ cs, (w6.alloc (.cells #[] 57)).heap[k]? ≠ some (.cells cs ty (0, 0)) := by
    rintro ty hty k rfl cs hc
    have h2 := (heap_alloc_new w6 (.cells #[] 57)).symm.trans hc
    simp only [Option.some.injEq, Obj.cells.injEq] at h2
    exact hty h2.2.1.symm
  have M8 : Hid (Segs w8 0 (.slice (some ⟨gm, 0, none⟩) M.length cm) vs M) := ⟨hM.out.len, Off.row (ex := fun _ => False) (.of_below B8.out) hM.out.row (fun _ h => h.elim), fun i t u ht hu => Off.row (ex := fun _ => False) (.of_below B8.out) (hM.out.words i t u ht hu) (fun _ h => h.elim)⟩
  have G8 : Hid (w8.ownsRow 0 2 1 (.slice (some ⟨gg, 0, none⟩) g.ws.length cg) (g.ws.set o x).length ((g.ws.set o x).map (Value.int .i64))) := by
    rw [List.length_set]
    exact row_base (Off.row O8.out (Off.row (ex := fun _ => False) (.of_below (below_al0 _ _)) R6.out (fun _ h => h.elim)) (nt _ (by decide))) (Nat.zero_le _)
  have hrl : (rows M vs)[K * 7 + 1]? = some (.slice (some ⟨gu, 0, none⟩) g.ws.length cu2) := by rw [rows_get M vs K 1 g _ hMK.out hu.out (by omega)]; rfl
  have y2 : w8.cell? ⟨b17, 1, none⟩ = some (.int .i64 (K : Int)) := (B8.out.cell (p := ⟨b17, 1, none⟩) hYl.out).trans Y2.out
  have gc : w8.cell? ⟨g8, K * 7 + 1, none⟩ = some (.slice (some ⟨gu, 0, none⟩) g.ws.length cu2) := (row_cell hown8.out _ hrl).2
  have gf : ∀ j, w8.frozen? ⟨g8, j, none⟩ = false := fun j => by
    obtain ⟨cs, hc⟩ := row_blk hown8.out
    simp [World.frozen?, hc]
  clear nt
  have FIN : Hid (AftS w (w8.setCell ⟨g8, K * 7 + 1, none⟩ (.slice (some ⟨gg, 0, none⟩) g.ws.length cg)) (.slice (some ⟨g8, 0, none⟩) M.length c8) (vs.set K (.slice (some ⟨gg, 0, none⟩) g.ws.length cg)) (M.set K { g with ws := g.ws.set o x })) :=
    ⟨M8.out.change hMK.out (by simp) rfl (row_base hown8.out (Nat.zero_le _)) G8.out, B8.out.setCell (own_lo2 hown8.out g8 rfl) _⟩
  go_wp2_with fail
  exact hQ _ _ _ _ _ _ _ _ _ _ _ _ _ _ _ _ _ _ _ _ _ _ _ _ _ _ _ _ _ FIN.out
end Go.Proofs.Ytiakonmamkfopaa
namespace Go.Proofs.Ytiakonmamkfopaa
open Go.RowKit Go.ChangeShapes
set_option linter.unusedVariables false
set_option maxRecDepth 100000
theorem rst3 {w : World} {R : Nat} {s : St} {stk : Value} (h : rsAt w R s stk) (o : Nat) (a b c : Value) : (((w.setCell ⟨R, o, none⟩ a).setCell ⟨R, o + 1, none⟩ b).setCell ⟨R, o + 2, none⟩ c).heap[R]? = some (.cells ((((stC s stk).setIfInBounds o a).setIfInBounds (o + 1) b).setIfInBounds (o + 2) c) 39 (0, 0)) := by
  simp [World.setCell, Array.getElem?_modify, show w.heap[R]? = _ from h]
theorem rnew_start (w : World) : ∃ W, (w.alloc (.cells (stC St.zero (.slice none 0 0)) 39)).alloc (.cells (stC St.zero (.slice none 0 0)) 39) = W ∧ rsAt W w.heap.size St.zero (.slice none 0 0) ∧ rsAt W (w.heap.size + 1) St.zero (.slice none 0 0) ∧ Below w.heap.size w W := by
  refine ⟨_, rfl, ?_, ?_, below_al (below_al0 _ _) _⟩
  · exact Off.keeps (ex := fun _ => False) ((Off.refl _ _).alloc _) (heap_alloc_new w (.cells (stC St.zero (.slice none 0 0)) 39)) id
  · have h0 := heap_alloc_new (w.alloc (.cells (stC St.zero (.slice none 0 0)) 39)) (.cells (stC St.zero (.slice none 0 0)) 39)
    rw [World.size_alloc] at h0
    exact h0
theorem rnew_results {W : World} {N : Nat} {s : St} {stk : Value} (h : rsAt W N s stk) (tmps : Array Value) (h4 : tmps[0]? = some (.pointer (some ⟨N, 0, none⟩))) :
    (results Try.f20 tmps).run Try.prog W = .ok (.agg (stC s stk)) W := by
  have l0 := rrange_loadVar (rs_range h)
  simp [results, Try.results20, h4, l0, asAddr]
set_option maxHeartbeats 1000000 in
theorem c_rNew (w : World) : Calls Try.prog 20 #[] w fun x w' => x = .returned (.agg (stC St.new (.slice none 0 0))) ∧ Below w.heap.size w w' := by
  obtain ⟨W1, hW1, S0, S1, HB⟩ := rnew_start w
  have hW1 := Lib.hid hW1
  have S0 := Lib.hid S0
  have S1 := Lib.hid S1
  have HB := Lib.hid HB
  go_enter Try.func20, Try.ntmps20
  go_wp2_with (first | (refine wpList_store_rs (s' := { St.zero with ring := 4 }) (stk' := .slice none 0 0) rfl (.tmp 1) (.tmp 3) rfl rfl rfl (show rsAt _ (w.heap.size + 1) _ _ from hW1.out ▸ S1.out) rfl ?_; intro W2 S2 F2; have F2 := Lib.hid F2; have S2 := Lib.hid S2))
  have T2 : Hid (rsAt W2 w.heap.size St.zero (.slice none 0 0)) := F2.out.keeps (show _ from hW1.out ▸ S0.out) (by omega)
  have H2 : Hid (Below w.heap.size w W2) := Off.below (show Below w.heap.size w _ from hW1.out ▸ HB.out) F2.out (show _ from hW1.out ▸ HB.out.size) (fun k hk => by omega)
  clear S0 S1 HB hW1 F2
  refine wp_loop_rounds 5 ?_
  have c0 : W2.cell? ⟨w.heap.size + 1, 4, none⟩ = some (.int .i64 0) := S2.out.cell 4
  have c1 : W2.cell? ⟨w.heap.size + 1, 5, none⟩ = some (.int .i64 0) := S2.out.cell 5
  have c2 : W2.cell? ⟨w.heap.size + 1, 6, none⟩ = some (.int .i64 0) := S2.out.cell 6
  have cf : ∀ j, W2.frozen? ⟨w.heap.size + 1, j, none⟩ = false := fun j => S2.out.free j
  rw [rounds_succ]
  go_wp2_with fail
  clear c0 c1 c2 cf
  obtain ⟨W3, hV, S3, F⟩ : ∃ V, (((W2.setCell ⟨w.heap.size + 1, 4, none⟩ (.int .i64 0)).setCell ⟨w.heap.size + 1, 5, none⟩ (.int .i64 0)).setCell ⟨w.heap.size + 1, 6, none⟩ (.int .i64 4)) = V ∧ Hid (rsAt V (w.heap.size + 1) { St.zero with ring := 4, p0 := ⟨0, 0, 4⟩ } (.slice none 0 0)) ∧ Hid (Off (· = w.heap.size + 1) W2 V) := ⟨_, rfl, rst3 S2.out 4 _ _ _, off3P _ _ _ _ _ _ _ _⟩
  rw [hV]
  have T3 : Hid (rsAt W3 w.heap.size St.zero (.slice none 0 0)) := F.out.keeps T2.out (by omega)
  have H3 : Hid (Below w.heap.size w W3) := Off.below H2.out F.out H2.out.size (fun k hk => by omega)
  clear hV F
  have c0 : W3.cell? ⟨w.heap.size + 1, 7, none⟩ = some (.int .i64 0) := S3.out.cell 7
  have c1 : W3.cell? ⟨w.heap.size + 1, 8, none⟩ = some (.int .i64 0) := S3.out.cell 8
  have c2 : W3.cell? ⟨w.heap.size + 1, 9, none⟩ = some (.int .i64 0) := S3.out.cell 9
  have cf : ∀ j, W3.frozen? ⟨w.heap.size + 1, j, none⟩ = false := fun j => S3.out.free j
  rw [rounds_succ]
  go_wp2_with fail
  clear c0 c1 c2 cf
  obtain ⟨W4, hV, S4, F⟩ : ∃ V, (((W3.setCell ⟨w.heap.size + 1, 7, none⟩ (.int .i64 1)).setCell ⟨w.heap.size + 1, 8, none⟩ (.int .i64 0)).setCell ⟨w.heap.size + 1, 9, none⟩ (.int .i64 4)) = V ∧ Hid (rsAt V (w.heap.size + 1) { St.zero with ring := 4, p0 := ⟨0, 0, 4⟩, p1 := ⟨1, 0, 4⟩ } (.slice none 0 0)) ∧ Hid (Off (· = w.heap.size + 1) W3 V) := ⟨_, rfl, rst3 S3.out 7 _ _ _, off3P _ _ _ _ _ _ _ _⟩
  rw [hV]
  have T4 : Hid (rsAt W4 w.heap.size St.zero (.slice none 0 0)) := F.out.keeps T3.out (by omega)
  have H4 : Hid (Below w.heap.size w W4) := Off.below H3.out F.out H3.out.size (fun k hk => by omega)
  clear hV F
  have c0 : W4.cell? ⟨w.heap.size + 1, 10, none⟩ = some (.int .i64 0) := S4.out.cell 10
  have c1 : W4.cell? ⟨w.heap.size + 1, 11, none⟩ = some (.int .i64 0) := S4.out.cell 11
  have c2 : W4.cell? ⟨w.heap.size + 1, 12, none⟩ = some (.int .i64 0) := S4.out.cell 12
  have cf : ∀ j, W4.frozen? ⟨w.heap.size + 1, j, none⟩ = false := fun j => S4.out.free j
  rw [rounds_succ]
  go_wp2_with fail
  clear c0 c1 c2 cf
  obtain ⟨W5, hV, S5, F⟩ : ∃ V, (((W4.setCell ⟨w.heap.size + 1, 10, none⟩ (.int .i64 2)).setCell ⟨w.heap.size + 1, 11, none⟩ (.int .i64 0)).setCell ⟨w.heap.size + 1, 12, none⟩ (.int .i64 4)) = V ∧ Hid (rsAt V (w.heap.size + 1) { St.zero with ring := 4, p0 := ⟨0, 0, 4⟩, p1 := ⟨1, 0, 4⟩, p2 := ⟨2, 0, 4⟩ } (.slice none 0 0)) ∧ Hid (Off (· = w.heap.size + 1) W4 V) := ⟨_, rfl, rst3 S4.out 10 _ _ _, off3P _ _ _ _ _ _ _ _⟩
  rw [hV]
  have T5 : Hid (rsAt W5 w.heap.size St.zero (.slice none 0 0)) := F.out.keeps T4.out (by omega)
  have H5 : Hid (Below w.heap.size w W5) := Off.below H4.out F.out H4.out.size (fun k hk => by omega)
  clear hV F
  have c0 : W5.cell? ⟨w.heap.size + 1, 13, none⟩ = some (.int .i64 0) := S5.out.cell 13
  have c1 : W5.cell? ⟨w.heap.size + 1, 14, none⟩ = some (.int .i64 0) := S5.out.cell 14
  have c2 : W5.cell? ⟨w.heap.size + 1, 15, none⟩ = some (.int .i64 0) := S5.out.cell 15
  have cf : ∀ j, W5.frozen? ⟨w.heap.size + 1, j, none⟩ = false := fun j => S5.out.free j
  rw [rounds_succ]
  go_wp2_with fail
  clear c0 c1 c2 cf
  obtain ⟨W6, hV, S6, F⟩ : ∃ V, (((W5.setCell ⟨w.heap.size + 1, 13, none⟩ (.int .i64 3)).setCell ⟨w.heap.size + 1, 14, none⟩ (.int .i64 0)).setCell ⟨w.heap.size + 1, 15, none⟩ (.int .i64 4)) = V ∧ Hid (rsAt V (w.heap.size + 1) { St.zero with ring := 4, p0 := ⟨0, 0, 4⟩, p1 := ⟨1, 0, 4⟩, p2 := ⟨2, 0, 4⟩, p3 := ⟨3, 0, 4⟩ } (.slice none 0 0)) ∧ Hid (Off (· = w.heap.size + 1) W5 V) := ⟨_, rfl, rst3 S5.out 13 _ _ _, off3P _ _ _ _ _ _ _ _⟩
  rw [hV]
  have T6 : Hid (rsAt W6 w.heap.size St.zero (.slice none 0 0)) := F.out.keeps T5.out (by omega)
  have H6 : Hid (Below w.heap.size w W6) := Off.below H5.out F.out H5.out.size (fun k hk => by omega)
  clear hV F
  rw [rounds_succ]
  go_wp2_with (first | (refine wpList_load_rs rfl (.tmp 1) rfl rfl (rs_range S6.out) ?_) | (refine wpList_store_rs rfl (.tmp 0) (.tmp 13) rfl rfl rfl T6.out rfl ?_; intro W7 S7 F7; have F7 := Lib.hid F7; have S7 := Lib.hid S7))
  exact bodyPost_ret (rnew_results S7.out _ rfl) rfl ⟨rfl, Off.below H6.out F7.out H6.out.size (fun k hk => by omega)⟩
end Go.Proofs.Ytiakonmamkfopaa
namespace Go.Proofs.Ytiakonmamkfopaa
open Go.RowKit Go.ChangeShapes
set_option linter.unusedVariables false
set_option maxRecDepth 1000000
noncomputable def cs9 : Code := (((Try.f3.body.bind (partOf 9)).bind (restOf 9)).getD .skip)
/-- what a round finds -/
structure RSr (w wr : World) (N : Nat) (s : St) (stk : Value) (l : List Fr) (mv : Value) (vs : List Value) (M : List Sg) : Prop where
  st : stAt wr N s stk
  rw : stkAt wr stk l
  l8 : l.length ≤ 8
  sg : Segs wr 0 mv vs M
  m5 : M.length ≤ 5
  mg : ∀ g ∈ M, GoodSg g
  mw : ∀ g ∈ M, ∀ x ∈ g.ws, WfI x
  wa : WfI s.a
  bl : Below w.heap.size w wr
  lo : w.heap.size ≤ N
theorem RSr.below {w wr w' : World} {N : Nat} {s : St} {stk : Value} {l : List Fr} {mv : Value} {vs : List Value} {M : List Sg} (h : RSr w wr N s stk l mv vs M) (hb : Below wr.heap.size wr w') : RSr w w' N s stk l mv vs M :=
  ⟨Off.keeps (.of_below (ex := fun _ => False) hb) h.st id, stkAt.off (ex := fun _ => False) h.rw (.of_below hb) (fun _ h => h.elim), h.l8, h.sg.off (ex := fun _ => False) (.of_below hb) (fun _ h => h.elim) (fun _ h => h.elim), h.m5, h.mg, h.mw, h.wa, below2 h.bl hb, h.lo⟩
theorem RSr.offm {w wr w' : World} {N Y : Nat} {s : St} {stk : Value} {l : List Fr} {mv v0 : Value} {vs : List Value} {M : List Sg} {is : Bool} {sg of_ x n : Int} (h : RSr w wr N s stk l mv vs M) (ho : Off (· = Y) wr w') (hy : memAt wr 0 Y v0 is sg of_ x n) (hN : N < Y) (hw : w.heap.size ≤ Y) : RSr w w' N s stk l mv vs M :=
  ⟨Off.keeps ho h.st (by omega), stkAt.off h.rw ho (mem_not hy _ (by decide)), h.l8, h.sg.off ho (mem_not hy _ (by decide)) (mem_not hy _ (by decide)), h.m5, h.mg, h.mw, h.wa, Off.below h.bl ho h.bl.size (fun k hk => by omega), h.lo⟩
theorem RSr.mem {w wr : World} {N Y : Nat} {s : St} {stk : Value} {l : List Fr} {mv : Value} {vs : List Value} {M : List Sg} (h : RSr w wr N s stk l mv vs M) (hm : memAt wr 0 Y mv false 0 0 0 0) : MemOk wr 0 Y M := Segs.mem h.sg hm h.m5 h.mg
theorem RSr.next {w W9 w10 w11 : World} {N : Nat} {s s' : St} {stk tv : Value} {l l' : List Fr} {mv mv' : Value} {vs vs' : List Value} {M M' : List Sg} (R : RSr w W9 N s stk l mv vs M) (hT : stkAt W9 tv l') (hb : Below W9.heap.size W9 w10) (hs : Segs w10 0 mv' vs' M') (m5 : M'.length ≤ 5) (mg : ∀ g ∈ M', GoodSg g) (mw : ∀ g ∈ M', ∀ x ∈ g.ws, WfI x) (ho : Off (· = N) w10 w11) (hS : stAt w11 N s' tv) (l8 : l'.length ≤ 8) (wa : WfI s'.a) : RSr w w11 N s' tv l' mv' vs' M' :=
  have hN : stAt w10 N s stk := Off.keeps (.of_below (ex := fun _ => False) hb) R.st id
  have hB := below2 R.bl hb
  have hlo := R.lo
  ⟨hS, stkAt.off (stkAt.off (ex := fun _ => False) hT (.of_below hb) (fun _ h => h.elim)) ho (st_not6 hN _ (by decide)), l8, hs.off ho (st_not6 hN _ (by decide)) (st_not6 hN _ (by decide)), m5, mg, mw, wa, Off.below hB ho hB.size (fun k hk => by omega), R.lo⟩
theorem mem_then {w : World} {Y : Nat} {mv : Value} {st : Option (Int × Int × Int)} (h : memThen w 0 Y mv false 0 0 0 0 st) : memAt w 0 Y mv (stoB st) (stoK st) (stoO st) (stoW st) (if stoB st then 1 else 0) := by
  cases st with
  | none => exact h
  | some y =>
    obtain ⟨y1, y2, y3⟩ := y
    have h2 : memAt w 0 Y mv true y1 y2 y3 (wrap64 (0 + 1)) := h
    rw [show wrap64 (0 + 1) = 1 from by decide +kernel] at h2
    exact h2
theorem sto_at {M : List Sg} {s : St} {l : List Fr} {r : Res} {k o y : Int} (h : stR M s l = .ok r) (hs : r.st = some (k, o, y)) : ∃ (K O : Nat) (g : Sg), k = K ∧ o = O ∧ M[K]? = some g ∧ O < g.ws.length := by
  cases hh : s.hal with
  | true =>
    unfold stR at h
    rw [hh] at h
    cases h
    cases hs
  | false =>
    obtain ⟨_, _, _, _, _, _, _, _, _, RF⟩ := stR_rf h hh
    obtain ⟨_, _, _, g, hg, _, _, h0, h1⟩ := RF.sto k o y hs
    obtain ⟨K, hK, hMK, _⟩ := seg_nat hg
    obtain ⟨O, rfl⟩ := Int.eq_ofNat_of_zero_le h0
    exact ⟨K, O, g, hK, rfl, hMK, by omega⟩
theorem stk_nilS (w : World) : stkAt w (.slice none 0 0) [] := ⟨rfl, .inl ⟨rfl, rfl⟩⟩
theorem rstk_nilS (w : World) : rstkAt w (.slice none 0 0) [] := ⟨rfl, .inl ⟨rfl, rfl⟩⟩
set_option maxHeartbeats 8000000 in
theorem law_loop (w w0 : World) (N nn : Nat) (n : Int) (s0 : St) (stk0 : Value) (l0 : List Fr) (mv : Value) (vs0 : List Value) (M0 : List Sg) (v0 v1 v3 v4 v5 v6 v10 v11 v12 v13 v14 v15 v16 v17 v18 v19 v20 v21 v22 v23 v24 v25 v26 v27 v28 v29 v30 v31 v32 v33 v34 v35 v36 v37 v38 v39 v40 v41 v42 v43 v44 v45 v46 v47 v48 v49 v50 v51 v52 v53 v54 v55 v56 v57 v58 v59 v60 v61 v62 v63 v64 v65 v66 v67 v68 v69 v70 v71 v72 v73 v74 v75 v76 v77 v78 v79 v80 v81 v82 v83 v84 v85 v86 v87 v88 v89 v90 v91 v92 v93 v94 v95 v96 v97 v98 v99 v100 v101 v102 v103 v104 v105 v106 v107 v108 v109 v110 v111 v112 v113 v114 v115 v116 v117 v118 v119 v120 v121 v122 v123 v124 v125 v126 v127 v128 v129 v130 v131 v132 v133 v134 v135 v136 v137 v138 v139 v140 v141 v142 v143 v144 v145 v146 : Value) (Q : Exit → Act → World → Prop) (H0 : RSr w w0 N s0 stk0 l0 mv vs0 M0) (hnn : n % 40 = (nn : Int))
    (hQ1 : ∀ (u6 u7 u9 u10 u11 u12 u13 u14 u15 u16 u17 u18 u19 u20 u21 u37 u38 u39 u40 u41 u42 u43 u44 u45 u46 u47 u48 u49 u50 u51 u52 u53 u54 u55 u56 u57 u58 u59 u60 u61 u62 u63 u64 u65 u66 u67 u68 u69 u70 u71 u72 u73 u74 u75 u76 u77 u78 u79 u80 u81 u82 u83 u84 u85 u86 u87 u88 u89 u90 u91 u92 u93 u94 u95 u96 u97 u98 u99 u100 u101 u102 u103 u104 u105 u106 u107 u108 u109 u110 u111 u112 u113 u114 u115 u116 u117 u118 u119 u120 u121 u122 u123 u124 u125 u126 u127 u128 u129 u130 u131 u132 u133 u134 u135 u136 u137 u138 u139 u140 u141 u142 u143 u144 u145 u146 : Value) (W' : World), Below w.heap.size w W' → Q .normal ⟨(v0 :: v1 :: (.int .i64 n) :: v3 :: v4 :: v5 :: u6 :: u7 :: (.pointer (some ⟨N, 0, none⟩)) :: u9 :: u10 :: u11 :: u12 :: u13 :: u14 :: u15 :: u16 :: u17 :: u18 :: u19 :: u20 :: u21 :: v22 :: v23 :: v24 :: v25 :: v26 :: v27 :: v28 :: v29 :: v30 :: v31 :: v32 :: v33 :: v34 :: v35 :: v36 :: u37 :: u38 :: u39 :: u40 :: u41 :: u42 :: u43 :: u44 :: u45 :: u46 :: u47 :: u48 :: u49 :: u50 :: u51 :: u52 :: u53 :: u54 :: u55 :: u56 :: u57 :: u58 :: u59 :: u60 :: u61 :: u62 :: u63 :: u64 :: u65 :: u66 :: u67 :: u68 :: u69 :: u70 :: u71 :: u72 :: u73 :: u74 :: u75 :: u76 :: u77 :: u78 :: u79 :: u80 :: u81 :: u82 :: u83 :: u84 :: u85 :: u86 :: u87 :: u88 :: u89 :: u90 :: u91 :: u92 :: u93 :: u94 :: u95 :: u96 :: u97 :: u98 :: u99 :: u100 :: u101 :: u102 :: u103 :: u104 :: u105 :: u106 :: u107 :: u108 :: u109 :: u110 :: u111 :: u112 :: u113 :: u114 :: u115 :: u116 :: u117 :: u118 :: u119 :: u120 :: u121 :: u122 :: u123 :: u124 :: u125 :: u126 :: u127 :: u128 :: u129 :: u130 :: u131 :: u132 :: u133 :: u134 :: u135 :: u136 :: u137 :: u138 :: u139 :: u140 :: u141 :: u142 :: u143 :: u144 :: u145 :: u146 :: []).toArray, []⟩ W') (hQ2 : ∀ (u7 u9 u10 u11 u12 u13 u14 u15 u16 u17 u18 u19 u20 u21 u37 u38 u39 u40 u41 u42 u43 u44 u45 u46 u47 u48 u49 u50 u51 u52 u53 u54 u55 u56 u57 u58 u59 u60 u61 u62 u63 u64 u65 u66 u67 u68 u69 u70 u71 u72 u73 u74 u75 u76 u77 u78 u79 u80 u81 u82 u83 u84 u85 u86 u87 u88 u89 u90 u91 u92 u93 u94 u95 u96 u97 u98 u99 u100 u101 u102 u103 u104 u105 u106 u107 u108 u109 u110 u111 u112 u113 u114 u115 u116 u117 u118 u119 u120 u121 u122 u123 u124 u125 u126 u127 u128 u129 u130 u131 u132 u133 u134 u135 u136 u137 u138 u139 u140 u141 u142 u143 u144 u145 u146 : Value) (W' : World), Below w.heap.size w W' → Q .ret ⟨(v0 :: v1 :: (.int .i64 n) :: v3 :: v4 :: v5 :: (.bool true) :: u7 :: (.pointer (some ⟨N, 0, none⟩)) :: u9 :: u10 :: u11 :: u12 :: u13 :: u14 :: u15 :: u16 :: u17 :: u18 :: u19 :: u20 :: u21 :: v22 :: v23 :: v24 :: v25 :: v26 :: v27 :: v28 :: v29 :: v30 :: v31 :: v32 :: v33 :: v34 :: v35 :: v36 :: u37 :: u38 :: u39 :: u40 :: u41 :: u42 :: u43 :: u44 :: u45 :: u46 :: u47 :: u48 :: u49 :: u50 :: u51 :: u52 :: u53 :: u54 :: u55 :: u56 :: u57 :: u58 :: u59 :: u60 :: u61 :: u62 :: u63 :: u64 :: u65 :: u66 :: u67 :: u68 :: u69 :: u70 :: u71 :: u72 :: u73 :: u74 :: u75 :: u76 :: u77 :: u78 :: u79 :: u80 :: u81 :: u82 :: u83 :: u84 :: u85 :: u86 :: u87 :: u88 :: u89 :: u90 :: u91 :: u92 :: u93 :: u94 :: u95 :: u96 :: u97 :: u98 :: u99 :: u100 :: u101 :: u102 :: u103 :: u104 :: u105 :: u106 :: u107 :: u108 :: u109 :: u110 :: u111 :: u112 :: u113 :: u114 :: u115 :: u116 :: u117 :: u118 :: u119 :: u120 :: u121 :: u122 :: u123 :: u124 :: u125 :: u126 :: u127 :: u128 :: u129 :: u130 :: u131 :: u132 :: u133 :: u134 :: u135 :: u136 :: u137 :: u138 :: u139 :: u140 :: u141 :: u142 :: u143 :: u144 :: u145 :: u146 :: []).toArray, []⟩ W') : Code.wp Try.prog cs9 Q ⟨(v0 :: v1 :: (.int .i64 n) :: v3 :: v4 :: v5 :: v6 :: mv :: (.pointer (some ⟨N, 0, none⟩)) :: (.int .i64 0) :: v10 :: v11 :: v12 :: v13 :: v14 :: v15 :: v16 :: v17 :: v18 :: v19 :: v20 :: v21 :: v22 :: v23 :: v24 :: v25 :: v26 :: v27 :: v28 :: v29 :: v30 :: v31 :: v32 :: v33 :: v34 :: v35 :: v36 :: v37 :: v38 :: v39 :: v40 :: v41 :: v42 :: v43 :: v44 :: v45 :: v46 :: v47 :: v48 :: v49 :: v50 :: v51 :: v52 :: v53 :: v54 :: v55 :: v56 :: v57 :: v58 :: v59 :: v60 :: v61 :: v62 :: v63 :: v64 :: v65 :: v66 :: v67 :: v68 :: v69 :: v70 :: v71 :: v72 :: v73 :: v74 :: v75 :: v76 :: v77 :: v78 :: v79 :: v80 :: v81 :: v82 :: v83 :: v84 :: v85 :: v86 :: v87 :: v88 :: v89 :: v90 :: v91 :: v92 :: v93 :: v94 :: v95 :: v96 :: v97 :: v98 :: v99 :: v100 :: v101 :: v102 :: v103 :: v104 :: v105 :: v106 :: v107 :: v108 :: v109 :: v110 :: v111 :: v112 :: v113 :: v114 :: v115 :: v116 :: v117 :: v118 :: v119 :: v120 :: v121 :: v122 :: v123 :: v124 :: v125 :: v126 :: v127 :: v128 :: v129 :: v130 :: v131 :: v132 :: v133 :: v134 :: v135 :: v136 :: v137 :: v138 :: v139 :: v140 :: v141 :: v142 :: v143 :: v144 :: v145 :: v146 :: []).toArray, []⟩ w0 := by
  have hn40 : nn < 40 := by omega
  have hw1 : IntKind.i64.wrap (1 + (nn : Int)) = 1 + (nn : Int) := by rw [IntKind.wrap_i64]; omega
  replace hnn := Lib.hid hnn
  replace H0 := Lib.hid H0
  conv => arg 2; whnf
  go_wp2_with fail
  go_loopw [7, 9] (fun mv kv wr => ∃ (k : Nat) (s : St) (stk : Value) (l : List Fr) (vs : List Value) (M : List Sg), kv = .int .i64 k ∧ k ≤ 1 + nn ∧ Hid (RSr w wr N s stk l mv vs M)) (fun _ kv _ => 50 - (intOf kv).toNat)
  case atStart => exact ⟨0, s0, stk0, l0, vs0, M0, rfl, by omega, H0⟩
  case round =>
    clear H0
    obtain ⟨k, s, stk, l, vs, M, rfl, hkn, HR⟩ := hrel
    have hmv : ∃ am cm, u7 = .slice am M.length cm := by obtain ⟨am, cm, hq, _, _⟩ := row_shape HR.out.sg.row; exact ⟨am, cm, hq⟩
    obtain ⟨am, cm, rfl⟩ := hmv
    have hsk : ∃ ak ck, stk = .slice ak l.length ck := by obtain ⟨ak, ck, hq, _, _⟩ := row_shape HR.out.rw; exact ⟨ak, ck, hq⟩
    obtain ⟨ak, ck, hsk⟩ := hsk
    replace hsk := Lib.hid hsk
    by_cases hk : k < 1 + nn
    · have hk' : (k : Int) < 1 + (nn : Int) := by omega
      go_upto_region 13 with (first | (go_at_call 21; refine (within16 _ _ (by decide) (by decide) _).mono ?_; rintro e w2 ⟨rfl, hw2⟩; subst hw2; rw [hnn.out]) | ((with_reducible refine wpList_load_st (op := ⟨some 44, .load 33 (.tmp 8), _, _, _, _⟩) (N := N) (s := s) (stk := stk) ?_ (.tmp 8) ?_ ?_ ?_ ?_); exact rfl; exact rfl; exact rfl; exact st_range HR.out.st) | (go_at_call 19; refine (c_state wr s l stk HR.out.rw (by have := HR.out.l8; omega)).mono ?_; rintro e w1 ⟨va, rfl, hra, hb1⟩; obtain ⟨aa, ca, hqa, _, _⟩ := row_shape hra; subst hqa; dsimp only; replace hra := Lib.hid hra; replace hb1 := Lib.hid hb1) | ((with_reducible refine wpList_store_rs (op := ⟨none, .store 39 (.tmp 10) (.tmp 45), _, _, _, _⟩) (N := w1.heap.size) (s := St.zero) (stk := (.slice none 0 0)) (s' := s) (stk' := (.slice aa l.length ca)) ?_ (.tmp 10) (.tmp 45) ?_ ?_ ?_ ?_ ?_ ?_); exact rfl; exact rfl; exact rfl; exact rfl; exact (show rsAt _ w1.heap.size St.zero (.slice none 0 0) from heap_alloc_new w1 (.cells #[.int .i64 0, .int .i64 0, .int .i64 0, .int .i64 0, .int .i64 0, .int .i64 0, .int .i64 0, .int .i64 0, .int .i64 0, .int .i64 0, .int .i64 0, .int .i64 0, .int .i64 0, .int .i64 0, .int .i64 0, .int .i64 0, .slice none 0 0, .bool false] 39)); exact rfl; intro w2 S2 F2; replace S2 := Lib.hid S2; replace F2 := Lib.hid F2))
      have B2 : Hid (Below wr.heap.size wr w2) := Off.below (below2 hb1.out (below_al0 w1 (.cells #[.int .i64 0, .int .i64 0, .int .i64 0, .int .i64 0, .int .i64 0, .int .i64 0, .int .i64 0, .int .i64 0, .int .i64 0, .int .i64 0, .int .i64 0, .int .i64 0, .int .i64 0, .int .i64 0, .int .i64 0, .int .i64 0, .slice none 0 0, .bool false] 39))) F2.out (below2 hb1.out (below_al0 w1 (.cells #[.int .i64 0, .int .i64 0, .int .i64 0, .int .i64 0, .int .i64 0, .int .i64 0, .int .i64 0, .int .i64 0, .int .i64 0, .int .i64 0, .int .i64 0, .int .i64 0, .int .i64 0, .int .i64 0, .int .i64 0, .int .i64 0, .slice none 0 0, .bool false] 39))).size (fun k hk => by have := hb1.out.size; omega)
      have R2 := Lib.hid (HR.out.below B2.out)
      have Q2 : Hid (rstkAt w2 (.slice aa l.length ca) l) := Off.row F2.out (Off.row (ex := fun _ => False) (.of_below (below_al0 w1 (.cells #[.int .i64 0, .int .i64 0, .int .i64 0, .int .i64 0, .int .i64 0, .int .i64 0, .int .i64 0, .int .i64 0, .int .i64 0, .int .i64 0, .int .i64 0, .int .i64 0, .int .i64 0, .int .i64 0, .int .i64 0, .int .i64 0, .slice none 0 0, .bool false] 39))) hra.out (fun _ h => h.elim)) (rs_not (show rsAt _ w1.heap.size St.zero (.slice none 0 0) from heap_alloc_new w1 (.cells #[.int .i64 0, .int .i64 0, .int .i64 0, .int .i64 0, .int .i64 0, .int .i64 0, .int .i64 0, .int .i64 0, .int .i64 0, .int .i64 0, .int .i64 0, .int .i64 0, .int .i64 0, .int .i64 0, .int .i64 0, .int .i64 0, .slice none 0 0, .bool false] 39)) _ (by decide))
      have h1w : Hid (w.heap.size ≤ w1.heap.size) := Nat.le_trans HR.out.bl.size hb1.out.size
      obtain ⟨b10, hb10⟩ : ∃ b, w1.heap.size = b := ⟨_, rfl⟩
      rw [hb10] at S2 h1w ⊢
      clear hb10 HR hb1 hra F2 B2
      have h10' : b10 < w2.heap.size := S2.out.lt
      go_upto_region 14 with fail
      obtain ⟨Y, hY⟩ : ∃ b, w2.heap.size = b := ⟨_, rfl⟩
      obtain ⟨W3, hW3, Y3, B3⟩ : ∃ W, w2.alloc (.cells #[.slice am M.length cm, .bool false, .int .i64 0, .int .i64 0, .int .i64 0, .int .i64 0] 47) = W ∧ Hid (memAt W 0 Y (.slice am M.length cm) false 0 0 0 0) ∧ Hid (Below w2.heap.size w2 W) := ⟨_, rfl, hY ▸ heap_alloc_new _ _, below_al0 _ _⟩
      have hNY : Hid (N < Y) := Lib.hid (hY ▸ R2.out.st.lt)
      have hwY : Hid (w.heap.size ≤ Y) := Lib.hid (hY ▸ R2.out.bl.size)
      have h10 : Hid (b10 < Y) := Lib.hid (hY ▸ h10')
      rw [hW3, hY]
      have R3 := Lib.hid (R2.out.below B3.out)
      have A3 : Hid (rsAt W3 b10 s (.slice aa l.length ca)) := Off.keeps (ex := fun _ => False) (.of_below B3.out) S2.out id
      have Q3 : Hid (rstkAt W3 (.slice aa l.length ca) l) := Off.row (ex := fun _ => False) (.of_below B3.out) Q2.out (fun _ h => h.elim)
      clear hW3 hY R2 S2 Q2 B3 h10'
      cases hst : stR M s l with
      | error er =>
        obtain ⟨h31, h37⟩ := stR_err hst
        have hne : ¬ er = 0 := by omega
        have hne' : (er != 0) = true := by simpa using hne
        clear h31 h37 hne
        replace hst := Lib.hid hst
        go_upto_region 15 with (first | ((with_reducible refine wpList_load_st (op := ⟨some 50, .load 33 (.tmp 8), _, _, _, _⟩) (N := N) (s := s) (stk := stk) ?_ (.tmp 8) ?_ ?_ ?_ ?_); exact rfl; exact rfl; exact rfl; exact st_range R3.out.st) | (go_at_call 22; refine (c_Step_er W3 0 Y s stk M l (R3.out.mem Y3.out) R3.out.rw (by have := R3.out.l8; omega) er hst.out).mono ?_; rintro e w4 ⟨rfl, hb4⟩; unfold stV; dsimp only; replace hb4 := Lib.hid hb4) | ((with_reducible refine wpList_store_st (op := ⟨none, .store 33 (.tmp 12) (.tmp 54), _, _, _, _⟩) (N := w4.heap.size) (s := St.zero) (stk := (.slice none 0 0)) (s' := St.zero) (stk' := (.slice none 0 0)) ?_ (.tmp 12) (.tmp 54) ?_ ?_ ?_ ?_ ?_ ?_); exact rfl; exact rfl; exact rfl; exact rfl; exact (show stAt _ w4.heap.size St.zero (.slice none 0 0) from heap_alloc_new w4 (.cells #[.int .i64 0, .int .i64 0, .int .i64 0, .int .i64 0, .int .i64 0, .int .i64 0, .int .i64 0, .int .i64 0, .int .i64 0, .int .i64 0, .int .i64 0, .int .i64 0, .int .i64 0, .int .i64 0, .int .i64 0, .int .i64 0, .slice none 0 0, .bool false] 33)); exact rfl; intro w5 S5 F5; replace S5 := Lib.hid S5; replace F5 := Lib.hid F5))
        have B4 : Hid (Below W3.heap.size W3 (w4.alloc (.cells #[.int .i64 0, .int .i64 0, .int .i64 0, .int .i64 0, .int .i64 0, .int .i64 0, .int .i64 0, .int .i64 0, .int .i64 0, .int .i64 0, .int .i64 0, .int .i64 0, .int .i64 0, .int .i64 0, .int .i64 0, .int .i64 0, .slice none 0 0, .bool false] 33))) := below2 hb4.out (below_al0 _ _)
        have B5 : Hid (Below W3.heap.size W3 w5) := Off.below B4.out F5.out B4.out.size (fun k hk => by have := hb4.out.size; omega)
        have R5 := Lib.hid (R3.out.below B5.out)
        have Y5 : Hid (memAt w5 0 Y (.slice am M.length cm) false 0 0 0 0) := Off.keeps (ex := fun _ => False) (.of_below B5.out) Y3.out id
        have A5 : Hid (rsAt w5 b10 s (.slice aa l.length ca)) := Off.keeps (ex := fun _ => False) (.of_below B5.out) A3.out id
        have Q5 : Hid (rstkAt w5 (.slice aa l.length ca) l) := Off.row (ex := fun _ => False) (.of_below B5.out) Q3.out (fun _ h => h.elim)
        have T5 : Hid (stkAt w5 (.slice none 0 0) []) := Lib.hid (stk_nilS w5)
        have ht8 : Hid (([] : List Fr).length ≤ 8) := Lib.hid (by decide)
        clear hb4 B4 B5 F5 R3 A3 Q3 Y3
        obtain ⟨b12, hb12⟩ : ∃ b, w4.heap.size = b := ⟨_, rfl⟩
        rw [hb12] at S5 ⊢
        clear hb12
        go_upto_region 16 with (first | ((with_reducible refine wpList_load_rs (op := ⟨some 59, .load 39 (.tmp 10), _, _, _, _⟩) (N := b10) (s := s) (stk := (.slice aa l.length ca)) ?_ (.tmp 10) ?_ ?_ ?_ ?_); exact rfl; exact rfl; exact rfl; exact rs_range A5.out) | (go_at_call 23; refine (c_rStep w5 s aa l.length ca (.slice am M.length cm) vs M l R5.out.sg R5.out.m5 R5.out.mg Q5.out R5.out.l8 R5.out.wa).mono ?_; rintro e w6 h6; have h6' := h6; unfold RSt at h6'; rw [hst.out] at h6'; obtain ⟨rfl, hb6⟩ := h6'; clear h6; unfold stoV; dsimp only [stoB, stoK, stoO, stoW, Option.isSome, Option.getD]; replace hb6 := Lib.hid hb6) | ((with_reducible refine wpList_store_rs (op := ⟨none, .store 39 (.tmp 16) (.tmp 62), _, _, _, _⟩) (N := w6.heap.size) (s := St.zero) (stk := (.slice none 0 0)) (s' := St.zero) (stk' := (.slice none 0 0)) ?_ (.tmp 16) (.tmp 62) ?_ ?_ ?_ ?_ ?_ ?_); exact rfl; exact rfl; exact rfl; exact rfl; exact (show rsAt ((w6.alloc (.cells #[.int .i64 0, .int .i64 0, .int .i64 0, .int .i64 0, .int .i64 0, .int .i64 0, .int .i64 0, .int .i64 0, .int .i64 0, .int .i64 0, .int .i64 0, .int .i64 0, .int .i64 0, .int .i64 0, .int .i64 0, .int .i64 0, .slice none 0 0, .bool false] 39)).alloc (.cells #[.bool false, .int .i64 0, .int .i64 0, .int .i64 0] 45)) w6.heap.size St.zero (.slice none 0 0) from al_keep (al_new _ rfl)); exact rfl; intro w7 S7 F7; have W7 : Hid (blk4 w7 (w6.heap.size + 1) 45 (.bool false) (.int .i64 0) (.int .i64 0) (.int .i64 0)) := Off.keeps F7 (show blk4 ((w6.alloc (.cells #[.int .i64 0, .int .i64 0, .int .i64 0, .int .i64 0, .int .i64 0, .int .i64 0, .int .i64 0, .int .i64 0, .int .i64 0, .int .i64 0, .int .i64 0, .int .i64 0, .int .i64 0, .int .i64 0, .int .i64 0, .int .i64 0, .slice none 0 0, .bool false] 39)).alloc (.cells #[.bool false, .int .i64 0, .int .i64 0, .int .i64 0] 45)) (w6.heap.size + 1) 45 (.bool false) (.int .i64 0) (.int .i64 0) (.int .i64 0) from al_new _ (by simp)) (by omega); have y0 : w7.cell? ⟨w6.heap.size + 1, 0, none⟩ = some (.bool false) := W7.out.cell 0; have y1 : w7.cell? ⟨w6.heap.size + 1, 1, none⟩ = some (.int .i64 0) := W7.out.cell 1; have y2 : w7.cell? ⟨w6.heap.size + 1, 2, none⟩ = some (.int .i64 0) := W7.out.cell 2; have y3 : w7.cell? ⟨w6.heap.size + 1, 3, none⟩ = some (.int .i64 0) := W7.out.cell 3; have yf : ∀ j, w7.frozen? ⟨w6.heap.size + 1, j, none⟩ = false := fun j => W7.out.free j; replace S7 := Lib.hid S7; replace F7 := Lib.hid F7))
        have BA : Below w5.heap.size w5 ((w6.alloc (.cells #[.int .i64 0, .int .i64 0, .int .i64 0, .int .i64 0, .int .i64 0, .int .i64 0, .int .i64 0, .int .i64 0, .int .i64 0, .int .i64 0, .int .i64 0, .int .i64 0, .int .i64 0, .int .i64 0, .int .i64 0, .int .i64 0, .slice none 0 0, .bool false] 39)).alloc (.cells #[.bool false, .int .i64 0, .int .i64 0, .int .i64 0] 45)) := below2 hb6.out (below_al (below_al0 _ _) _)
        have B7 : Below w5.heap.size w5 w7 := Off.below BA F7.out BA.size (fun k hk => by have := hb6.out.size; omega)
        obtain ⟨W8, hW8, X8, B8, U8⟩ : ∃ W, (((w7.setCell ⟨w6.heap.size + 1, 0, none⟩ (.bool false)).setCell ⟨w6.heap.size + 1, 1, none⟩ (.int .i64 0)).setCell ⟨w6.heap.size + 1, 2, none⟩ (.int .i64 0)).setCell ⟨w6.heap.size + 1, 3, none⟩ (.int .i64 0) = W ∧ Hid (blk4 W (w6.heap.size + 1) 45 (.bool false) (.int .i64 0) (.int .i64 0) (.int .i64 0)) ∧ Hid (Below w5.heap.size w5 W) ∧ Hid (rsAt W w6.heap.size St.zero (.slice none 0 0)) := by
          have o5 := (((off1 w7 (w6.heap.size + 1) 0 (.bool false)).trans (off1 _ (w6.heap.size + 1) 1 (.int .i64 0))).trans (off1 _ (w6.heap.size + 1) 2 (.int .i64 0))).trans (off1 _ (w6.heap.size + 1) 3 (.int .i64 0))
          exact ⟨_, rfl, set4 W7.out _ _ _ _, Off.below B7 o5 B7.size (fun k hk => by have := hb6.out.size; omega), o5.keeps S7.out (by omega)⟩
        rw [hW8]
        have KU : Hid (rstkAt W8 (.slice none 0 0) []) := Lib.hid (rstk_nilS W8)
        clear hW8 y0 y1 y2 y3 yf S7 F7 W7 B7 BA hb6
        obtain ⟨b16, hb16⟩ : ∃ b, w6.heap.size = b := ⟨_, rfl⟩
        rw [hb16] at X8 U8 ⊢
        clear hb16
        have R8 := Lib.hid (R5.out.below B8.out)
        have RR8 : RT W8 N b10 Y b12 b16 (b16 + 1) s St.zero l [] stk (.slice aa l.length ca) (.slice none 0 0) (.slice none 0 0) (.slice am M.length cm) false 0 0 0 0 := ⟨R8.out.st, R8.out.rw, Off.keeps (ex := fun _ => False) (.of_below B8.out) A5.out id, Off.row (ex := fun _ => False) (.of_below B8.out) Q5.out (fun _ h => h.elim), Off.keeps (ex := fun _ => False) (.of_below B8.out) S5.out id, stkAt.off (ex := fun _ => False) T5.out (.of_below B8.out) (fun _ h => h.elim), U8.out, KU.out, X8.out, Off.keeps (ex := fun _ => False) (.of_below B8.out) Y5.out id, R8.out.l8, ht8.out, by rfl⟩
        refine st16 W8 N b10 Y b12 b16 (b16 + 1) s St.zero l [] stk (.slice aa l.length ca) (.slice none 0 0) (.slice none 0 0) (.slice am M.length cm) false 0 0 0 0 0 er false _ _ _ _ _ _ _ _ _ _ _ _ _ _ _ _ _ _ _ _ _ _ _ _ _ _ _ _ _ _ _ _ _ _ _ _ _ _ _ _ _ _ _ _ _ _ _ _ _ _ _ _ _ _ _ _ _ _ _ _ _ _ _ _ _ _ _ _ _ _ _ _ _ _ _ _ _ _ _ _ _ _ _ _ _ _ _ _ _ _ _ _ _ _ _ _ _ _ _ _ _ _ _ _ _ _ _ _ _ _ _ _ _ _ _ _ _ _ _ _ _ _ _ _ _ _ _ _ _ _ _ _ _ _ _ RR8 ?_
        iterate 51 intro _
        intro W9 B9
        replace B9 := Lib.hid B9
        have R9 := Lib.hid (R8.out.below B9.out)
        have S9 : Hid (stAt W9 b12 St.zero (.slice none 0 0)) := Off.keeps (ex := fun _ => False) (.of_below B9.out) RR8.tt id
        have X9 : Hid (blk4 W9 (b16 + 1) 45 (.bool false) (.int .i64 0) (.int .i64 0) (.int .i64 0)) := Off.keeps (ex := fun _ => False) (.of_below B9.out) RR8.ww id
        have T9 : Hid (stkAt W9 (.slice none 0 0) []) := stkAt.off (ex := fun _ => False) RR8.tk (.of_below B9.out) (fun _ h => h.elim)
        clear RR8 R8 B9 X8 U8 KU R5 Y5 A5 Q5 S5 T5 B8
        go_wp2_with fail
        exact R9.out.bl
      | ok r =>
        replace hst := Lib.hid hst
        go_upto_region 15 with (first | ((with_reducible refine wpList_load_st (op := ⟨some 50, .load 33 (.tmp 8), _, _, _, _⟩) (N := N) (s := s) (stk := stk) ?_ (.tmp 8) ?_ ?_ ?_ ?_); exact rfl; exact rfl; exact rfl; exact st_range R3.out.st) | (go_at_call 22; refine (c_Step_ok W3 0 Y s stk M l (R3.out.mem Y3.out) R3.out.rw (by have := R3.out.l8; omega) (.slice am M.length cm) false 0 0 0 0 Y3.out r hst.out).mono ?_; rintro e w4 ⟨stk4, rfl, hs4, hmt4, ho4⟩; obtain ⟨ad4, cp4, hq4, _, _⟩ := row_shape hs4; subst hq4; unfold stV; dsimp only; replace hs4 := Lib.hid hs4; replace hmt4 := Lib.hid (mem_then hmt4); replace ho4 := Lib.hid ho4) | ((with_reducible refine wpList_store_st (op := ⟨none, .store 33 (.tmp 12) (.tmp 54), _, _, _, _⟩) (N := w4.heap.size) (s := St.zero) (stk := (.slice none 0 0)) (s' := r.s) (stk' := (.slice ad4 r.l.length cp4)) ?_ (.tmp 12) (.tmp 54) ?_ ?_ ?_ ?_ ?_ ?_); exact rfl; exact rfl; exact rfl; exact rfl; exact (show stAt _ w4.heap.size St.zero (.slice none 0 0) from heap_alloc_new w4 (.cells #[.int .i64 0, .int .i64 0, .int .i64 0, .int .i64 0, .int .i64 0, .int .i64 0, .int .i64 0, .int .i64 0, .int .i64 0, .int .i64 0, .int .i64 0, .int .i64 0, .int .i64 0, .int .i64 0, .int .i64 0, .int .i64 0, .slice none 0 0, .bool false] 33)); exact rfl; intro w5 S5 F5; replace S5 := Lib.hid S5; replace F5 := Lib.hid F5))
        have B5 : Hid (Below w4.heap.size w4 w5) := Off.below (below_al0 w4 (.cells #[.int .i64 0, .int .i64 0, .int .i64 0, .int .i64 0, .int .i64 0, .int .i64 0, .int .i64 0, .int .i64 0, .int .i64 0, .int .i64 0, .int .i64 0, .int .i64 0, .int .i64 0, .int .i64 0, .int .i64 0, .int .i64 0, .slice none 0 0, .bool false] 33)) F5.out (by simp) (fun k hk => by omega)
        have R5 := Lib.hid ((R3.out.offm ho4.out Y3.out hNY.out hwY.out).below B5.out)
        have Y5 : Hid (memAt w5 0 Y (.slice am M.length cm) (stoB r.st) (stoK r.st) (stoO r.st) (stoW r.st) (if stoB r.st then 1 else 0)) := Off.keeps (ex := fun _ => False) (.of_below B5.out) hmt4.out id
        have A5 : Hid (rsAt w5 b10 s (.slice aa l.length ca)) := Off.keeps (ex := fun _ => False) (.of_below B5.out) (Off.keeps ho4.out A3.out (by have := h10.out; omega)) id
        have Q5 : Hid (rstkAt w5 (.slice aa l.length ca) l) := Off.row (ex := fun _ => False) (.of_below B5.out) (Off.row ho4.out Q3.out (mem_not Y3.out _ (by decide))) (fun _ h => h.elim)
        have T5 : Hid (stkAt w5 (.slice ad4 r.l.length cp4) r.l) := stkAt.off (ex := fun _ => False) hs4.out (.of_below B5.out) (fun _ h => h.elim)
        have ht8 : Hid (r.l.length ≤ 8) := stR_len hst.out R3.out.l8
        clear hs4 hmt4 ho4 B5 F5 R3 A3 Q3 Y3
        obtain ⟨b12, hb12⟩ : ∃ b, w4.heap.size = b := ⟨_, rfl⟩
        rw [hb12] at S5 ⊢
        clear hb12
        go_upto_region 16 with (first | ((with_reducible refine wpList_load_rs (op := ⟨some 59, .load 39 (.tmp 10), _, _, _, _⟩) (N := b10) (s := s) (stk := (.slice aa l.length ca)) ?_ (.tmp 10) ?_ ?_ ?_ ?_); exact rfl; exact rfl; exact rfl; exact rs_range A5.out) | (go_at_call 23; refine (c_rStep w5 s aa l.length ca (.slice am M.length cm) vs M l R5.out.sg R5.out.m5 R5.out.mg Q5.out R5.out.l8 R5.out.wa).mono ?_; rintro e w6 h6; have h6' := h6; unfold RSt at h6'; rw [hst.out] at h6'; obtain ⟨v6, rfl, ⟨ad6, n6, cp6, rfl⟩, hk6, hb6⟩ := h6'; clear h6; unfold stoV; dsimp only; replace hb6 := Lib.hid hb6; replace hk6 := Lib.hid hk6) | ((with_reducible refine wpList_store_rs (op := ⟨none, .store 39 (.tmp 16) (.tmp 62), _, _, _, _⟩) (N := w6.heap.size) (s := St.zero) (stk := (.slice none 0 0)) (s' := r.s) (stk' := (.slice ad6 n6 cp6)) ?_ (.tmp 16) (.tmp 62) ?_ ?_ ?_ ?_ ?_ ?_); exact rfl; exact rfl; exact rfl; exact rfl; exact (show rsAt ((w6.alloc (.cells #[.int .i64 0, .int .i64 0, .int .i64 0, .int .i64 0, .int .i64 0, .int .i64 0, .int .i64 0, .int .i64 0, .int .i64 0, .int .i64 0, .int .i64 0, .int .i64 0, .int .i64 0, .int .i64 0, .int .i64 0, .int .i64 0, .slice none 0 0, .bool false] 39)).alloc (.cells #[.bool false, .int .i64 0, .int .i64 0, .int .i64 0] 45)) w6.heap.size St.zero (.slice none 0 0) from al_keep (al_new _ rfl)); exact rfl; intro w7 S7 F7; have W7 : Hid (blk4 w7 (w6.heap.size + 1) 45 (.bool false) (.int .i64 0) (.int .i64 0) (.int .i64 0)) := Off.keeps F7 (show blk4 ((w6.alloc (.cells #[.int .i64 0, .int .i64 0, .int .i64 0, .int .i64 0, .int .i64 0, .int .i64 0, .int .i64 0, .int .i64 0, .int .i64 0, .int .i64 0, .int .i64 0, .int .i64 0, .int .i64 0, .int .i64 0, .int .i64 0, .int .i64 0, .slice none 0 0, .bool false] 39)).alloc (.cells #[.bool false, .int .i64 0, .int .i64 0, .int .i64 0] 45)) (w6.heap.size + 1) 45 (.bool false) (.int .i64 0) (.int .i64 0) (.int .i64 0) from al_new _ (by simp)) (by omega); have y0 : w7.cell? ⟨w6.heap.size + 1, 0, none⟩ = some (.bool false) := W7.out.cell 0; have y1 : w7.cell? ⟨w6.heap.size + 1, 1, none⟩ = some (.int .i64 0) := W7.out.cell 1; have y2 : w7.cell? ⟨w6.heap.size + 1, 2, none⟩ = some (.int .i64 0) := W7.out.cell 2; have y3 : w7.cell? ⟨w6.heap.size + 1, 3, none⟩ = some (.int .i64 0) := W7.out.cell 3; have yf : ∀ j, w7.frozen? ⟨w6.heap.size + 1, j, none⟩ = false := fun j => W7.out.free j; replace S7 := Lib.hid S7; replace F7 := Lib.hid F7))
        have BA : Below w5.heap.size w5 ((w6.alloc (.cells #[.int .i64 0, .int .i64 0, .int .i64 0, .int .i64 0, .int .i64 0, .int .i64 0, .int .i64 0, .int .i64 0, .int .i64 0, .int .i64 0, .int .i64 0, .int .i64 0, .int .i64 0, .int .i64 0, .int .i64 0, .int .i64 0, .slice none 0 0, .bool false] 39)).alloc (.cells #[.bool false, .int .i64 0, .int .i64 0, .int .i64 0] 45)) := below2 hb6.out (below_al (below_al0 _ _) _)
        have B7 : Below w5.heap.size w5 w7 := Off.below BA F7.out BA.size (fun k hk => by have := hb6.out.size; omega)
        obtain ⟨W8, hW8, X8, B8, U8⟩ : ∃ W, (((w7.setCell ⟨w6.heap.size + 1, 0, none⟩ (.bool (stoB r.st))).setCell ⟨w6.heap.size + 1, 1, none⟩ (.int .i64 (stoK r.st))).setCell ⟨w6.heap.size + 1, 2, none⟩ (.int .i64 (stoO r.st))).setCell ⟨w6.heap.size + 1, 3, none⟩ (.int .i64 (stoW r.st)) = W ∧ Hid (blk4 W (w6.heap.size + 1) 45 (.bool (stoB r.st)) (.int .i64 (stoK r.st)) (.int .i64 (stoO r.st)) (.int .i64 (stoW r.st))) ∧ Hid (Below w5.heap.size w5 W) ∧ Hid (rsAt W w6.heap.size r.s (.slice ad6 n6 cp6)) := by
          have o5 := (((off1 w7 (w6.heap.size + 1) 0 (.bool (stoB r.st))).trans (off1 _ (w6.heap.size + 1) 1 (.int .i64 (stoK r.st)))).trans (off1 _ (w6.heap.size + 1) 2 (.int .i64 (stoO r.st)))).trans (off1 _ (w6.heap.size + 1) 3 (.int .i64 (stoW r.st)))
          exact ⟨_, rfl, set4 W7.out _ _ _ _, Off.below B7 o5 B7.size (fun k hk => by have := hb6.out.size; omega), o5.keeps S7.out (by omega)⟩
        rw [hW8]
        have KU : Hid (rstkAt W8 (.slice ad6 n6 cp6) r.l) := by
          have k2 : rstkAt ((w6.alloc (.cells #[.int .i64 0, .int .i64 0, .int .i64 0, .int .i64 0, .int .i64 0, .int .i64 0, .int .i64 0, .int .i64 0, .int .i64 0, .int .i64 0, .int .i64 0, .int .i64 0, .int .i64 0, .int .i64 0, .int .i64 0, .int .i64 0, .slice none 0 0, .bool false] 39)).alloc (.cells #[.bool false, .int .i64 0, .int .i64 0, .int .i64 0] 45)) (.slice ad6 n6 cp6) r.l := Off.row (ex := fun _ => False) (.of_below (below_al (below_al0 _ _) _)) hk6.out (fun _ h => h.elim)
          have k3 : rstkAt w7 (.slice ad6 n6 cp6) r.l := Off.row F7.out k2 (rs_not (show rsAt ((w6.alloc (.cells #[.int .i64 0, .int .i64 0, .int .i64 0, .int .i64 0, .int .i64 0, .int .i64 0, .int .i64 0, .int .i64 0, .int .i64 0, .int .i64 0, .int .i64 0, .int .i64 0, .int .i64 0, .int .i64 0, .int .i64 0, .int .i64 0, .slice none 0 0, .bool false] 39)).alloc (.cells #[.bool false, .int .i64 0, .int .i64 0, .int .i64 0] 45)) w6.heap.size St.zero (.slice none 0 0) from al_keep (al_new _ rfl)) _ (by decide))
          rw [← hW8]
          refine Off.row ((((off1 w7 (w6.heap.size + 1) 0 _).trans (off1 _ (w6.heap.size + 1) 1 _)).trans (off1 _ (w6.heap.size + 1) 2 _)).trans (off1 _ (w6.heap.size + 1) 3 _)) k3 (fun k hk cs hc => ?_)
          subst hk
          have h3 := (show w7.heap[_]? = _ from W7.out).symm.trans hc
          simp only [Option.some.injEq, Obj.cells.injEq] at h3
          exact absurd h3.2.1 (by decide)
        clear hW8 y0 y1 y2 y3 yf S7 F7 W7 B7 BA hk6 hb6
        obtain ⟨b16, hb16⟩ : ∃ b, w6.heap.size = b := ⟨_, rfl⟩
        rw [hb16] at X8 U8 ⊢
        clear hb16
        have R8 := Lib.hid (R5.out.below B8.out)
        have RR8 : RT W8 N b10 Y b12 b16 (b16 + 1) s r.s l r.l stk (.slice aa l.length ca) (.slice ad4 r.l.length cp4) (.slice ad6 n6 cp6) (.slice am M.length cm) (stoB r.st) (stoK r.st) (stoO r.st) (stoW r.st) (if stoB r.st then 1 else 0) := ⟨R8.out.st, R8.out.rw, Off.keeps (ex := fun _ => False) (.of_below B8.out) A5.out id, Off.row (ex := fun _ => False) (.of_below B8.out) Q5.out (fun _ h => h.elim), Off.keeps (ex := fun _ => False) (.of_below B8.out) S5.out id, stkAt.off (ex := fun _ => False) T5.out (.of_below B8.out) (fun _ h => h.elim), U8.out, KU.out, X8.out, Off.keeps (ex := fun _ => False) (.of_below B8.out) Y5.out id, R8.out.l8, ht8.out, by rfl⟩
        refine st16 W8 N b10 Y b12 b16 (b16 + 1) s r.s l r.l stk (.slice aa l.length ca) (.slice ad4 r.l.length cp4) (.slice ad6 n6 cp6) (.slice am M.length cm) (stoB r.st) (stoK r.st) (stoO r.st) (stoW r.st) (if stoB r.st then 1 else 0) r.out 0 r.told _ _ _ _ _ _ _ _ _ _ _ _ _ _ _ _ _ _ _ _ _ _ _ _ _ _ _ _ _ _ _ _ _ _ _ _ _ _ _ _ _ _ _ _ _ _ _ _ _ _ _ _ _ _ _ _ _ _ _ _ _ _ _ _ _ _ _ _ _ _ _ _ _ _ _ _ _ _ _ _ _ _ _ _ _ _ _ _ _ _ _ _ _ _ _ _ _ _ _ _ _ _ _ _ _ _ _ _ _ _ _ _ _ _ _ _ _ _ _ _ _ _ _ _ _ _ _ _ _ _ _ _ _ _ _ RR8 ?_
        iterate 51 intro _
        intro W9 B9
        replace B9 := Lib.hid B9
        have R9 := Lib.hid (R8.out.below B9.out)
        have S9 : Hid (stAt W9 b12 r.s (.slice ad4 r.l.length cp4)) := Off.keeps (ex := fun _ => False) (.of_below B9.out) RR8.tt id
        have X9 : Hid (blk4 W9 (b16 + 1) 45 (.bool (stoB r.st)) (.int .i64 (stoK r.st)) (.int .i64 (stoO r.st)) (.int .i64 (stoW r.st))) := Off.keeps (ex := fun _ => False) (.of_below B9.out) RR8.ww id
        have T9 : Hid (stkAt W9 (.slice ad4 r.l.length cp4) r.l) := stkAt.off (ex := fun _ => False) RR8.tk (.of_below B9.out) (fun _ h => h.elim)
        clear RR8 R8 B9 X8 U8 KU R5 Y5 A5 Q5 S5 T5 B8
        go_upto_region 18 with fail
        iterate 15 go_step
        have hwf := stR_wf hst.out R9.out.wa R9.out.mw
        have hwa := Lib.hid hwf.1
        have hwy := Lib.hid hwf.2
        clear hwf
        cases hrs : r.st with
        | none =>
          have x0 : W9.cell? ⟨b16 + 1, 0, none⟩ = some (.bool false) := by
            have h := X9.out.cell 0
            rw [hrs] at h
            exact h
          refine st20_none W9 (b16 + 1) (.slice am M.length cm) _ _ _ _ _ _ _ _ _ _ _ _ _ _ _ _ _ _ _ _ _ _ _ _ _ _ _ _ _ _ _ _ _ _ _ _ _ _ _ _ _ _ _ _ _ _ _ _ _ _ _ _ _ _ _ _ _ _ _ _ _ _ _ _ _ _ _ _ _ _ _ _ _ _ _ _ _ _ _ _ _ _ _ _ _ _ _ _ _ _ _ _ _ _ _ _ _ _ _ _ _ _ _ _ _ _ _ _ _ _ _ _ _ _ _ _ _ _ _ _ _ _ _ _ _ _ _ _ _ _ _ _ _ _ _ _ _ _ _ _ _ _ _ _ _ _ x0 ?_
          intro u121 u122
          clear x0 hrs X9
          go_wp2_with (first | ((with_reducible refine wpList_load_st (op := ⟨some 146, .load 33 (.tmp 12), _, _, _, _⟩) (N := b12) (s := r.s) (stk := (.slice ad4 r.l.length cp4)) ?_ (.tmp 12) ?_ ?_ ?_ ?_); exact rfl; exact rfl; exact rfl; exact st_range S9.out) | ((with_reducible refine wpList_store_st (op := ⟨none, .store 33 (.tmp 8) (.tmp 146), _, _, _, _⟩) (N := N) (s := s) (stk := stk) (s' := r.s) (stk' := (.slice ad4 r.l.length cp4)) ?_ (.tmp 8) (.tmp 146) ?_ ?_ ?_ ?_ ?_ ?_); exact rfl; exact rfl; exact rfl; exact rfl; exact R9.out.st; exact rfl; intro w11 S11 F11; have R11 : Hid (RSr w w11 N r.s (.slice ad4 r.l.length cp4) r.l (.slice am M.length cm) vs M) := RSr.next R9.out T9.out (Below.refl _ _) R9.out.sg R9.out.m5 R9.out.mg R9.out.mw F11 S11 ht8.out hwa.out; clear S11 F11))
          go_roundw
          case rel => exact ⟨k + 1, r.s, _, r.l, vs, M, by go_num, by omega, R11⟩
          case measure => simp [intOf]; omega
        | some kox =>
          obtain ⟨k0, o0, y0⟩ := kox
          obtain ⟨K, O, g, rfl, rfl, hMK, hO⟩ := sto_at hst.out hrs
          have X10 : blk4 W9 (b16 + 1) 45 (.bool true) (.int .i64 (K : Int)) (.int .i64 (O : Int)) (.int .i64 y0) := by
            have h := X9.out
            rw [hrs] at h
            exact h
          have hy := hwy.out _ _ _ hrs
          refine st20_some W9 (b16 + 1) K O cm am vs M g y0 _ _ _ _ _ _ _ _ _ _ _ _ _ _ _ _ _ _ _ _ _ _ _ _ _ _ _ _ _ _ _ _ _ _ _ _ _ _ _ _ _ _ _ _ _ _ _ _ _ _ _ _ _ _ _ _ _ _ _ _ _ _ _ _ _ _ _ _ _ _ _ _ _ _ _ _ _ _ _ _ _ _ _ _ _ _ _ _ _ _ _ _ _ _ _ _ _ _ _ _ _ _ _ _ _ _ _ _ _ _ _ _ _ _ _ _ _ _ _ _ _ _ _ _ _ _ _ _ _ _ _ _ _ _ _ _ _ _ _ _ _ _ _ _ _ _ X10 R9.out.sg R9.out.m5 R9.out.mg hMK hO ?_
          intro z7
          iterate 26 intro _
          intro w10 vs' hA
          have S10 : Hid (stAt w10 b12 r.s (.slice ad4 r.l.length cp4)) := Off.keeps (ex := fun _ => False) (.of_below hA.bl) S9.out id
          have N10 : Hid (stAt w10 N s stk) := Off.keeps (ex := fun _ => False) (.of_below hA.bl) R9.out.st id
          replace hA := Lib.hid hA
          replace hMK := Lib.hid hMK
          replace hO := Lib.hid hO
          replace hy := Lib.hid hy
          clear X10 X9 hrs S9
          go_wp2_with (first | ((with_reducible refine wpList_load_st (op := ⟨some 146, .load 33 (.tmp 12), _, _, _, _⟩) (N := b12) (s := r.s) (stk := (.slice ad4 r.l.length cp4)) ?_ (.tmp 12) ?_ ?_ ?_ ?_); exact rfl; exact rfl; exact rfl; exact st_range S10.out) | ((with_reducible refine wpList_store_st (op := ⟨none, .store 33 (.tmp 8) (.tmp 146), _, _, _, _⟩) (N := N) (s := s) (stk := stk) (s' := r.s) (stk' := (.slice ad4 r.l.length cp4)) ?_ (.tmp 8) (.tmp 146) ?_ ?_ ?_ ?_ ?_ ?_); exact rfl; exact rfl; exact rfl; exact rfl; exact N10.out; exact rfl; intro w11 S11 F11; have R11 : Hid (RSr w w11 N r.s (.slice ad4 r.l.length cp4) r.l z7 vs' (M.set K { g with ws := g.ws.set O y0 })) := RSr.next R9.out T9.out hA.out.bl hA.out.sg (by rw [List.length_set]; exact R9.out.m5) (good_set R9.out.mg hMK.out (by simp)) (set_wf R9.out.mw hMK.out hy.out) F11 S11 ht8.out hwa.out; clear S11 F11))
          go_roundw
          case rel => exact ⟨k + 1, r.s, _, r.l, vs', _, by go_num, by omega, R11⟩
          case measure => simp [intOf]; omega
    · have hk' : ¬ (k : Int) < 1 + (nn : Int) := by omega
      go_wp2_with (first | (go_at_call 21; refine (within16 _ _ (by decide) (by decide) _).mono ?_; rintro e w2 ⟨rfl, hw2⟩; subst hw2; rw [hnn.out]))
      exact hQ1 _ _ _ _ _ _ _ _ _ _ _ _ _ _ _ _ _ _ _ _ _ _ _ _ _ _ _ _ _ _ _ _ _ _ _ _ _ _ _ _ _ _ _ _ _ _ _ _ _ _ _ _ _ _ _ _ _ _ _ _ _ _ _ _ _ _ _ _ _ _ _ _ _ _ _ _ _ _ _ _ _ _ _ _ _ _ _ _ _ _ _ _ _ _ _ _ _ _ _ _ _ _ _ _ _ _ _ _ _ _ _ _ _ _ _ _ _ _ _ _ _ _ _ _ _ _ HR.out.bl
end Go.Proofs.Ytiakonmamkfopaa
namespace Go.Proofs.Ytiakonmamkfopaa
open Go.RowKit Go.ChangeShapes
set_option linter.unusedVariables false
set_option maxRecDepth 1000000
set_option maxHeartbeats 8000000 in
theorem law_CpuSteps (w : World) (v : Value) (hv : PcAt w v) (x : St) (u : Value) (hu : FrIn w u) (hxa : WfI x.a) (n : Int) : Calls Try.prog 3 #[v, .agg (begC x u), .int .i64 n] w fun e w' => e = .returned (.bool true) ∧ Below w.heap.size w w' := by
  obtain ⟨W0, hW0, B0, HB⟩ : ∃ W, w.alloc (.cells (begC x u) 28) = W ∧ Hid (begAt W w.heap.size x u) ∧ Hid (Below w.heap.size w W) := ⟨_, rfl, heap_alloc_new _ _, below_al0 _ _⟩
  obtain ⟨nn, hnn⟩ : ∃ m : Nat, n % 40 = (m : Int) := ⟨(n % 40).toNat, by omega⟩
  replace hnn := Lib.hid hnn
  replace hv := Lib.hid hv
  replace hxa := Lib.hid hxa
  replace hu := Lib.hid hu
  replace hW0 := Lib.hid hW0
  have hone : Hid (u.oneCell' = true) := by obtain ⟨ad, n, cap, hq, _⟩ := hu.out; subst hq; rfl
  go_enter Try.func3, Try.ntmps3
  go_wp2_with fail
  rw [show w.alloc (.cells (begC x u) 28) = W0 from hW0.out]
  refine (c_known _).mono ?_
  rintro e w1 ⟨rfl, hb1⟩
  dsimp only
  have B1 : Hid (begAt w1 w.heap.size x u) := Off.keeps (.of_below (ex := fun _ => False) hb1) B0.out id
  have L1 := Lib.hid (below2 HB.out hb1)
  clear hW0 B0 HB hb1
  go_wp2_with fail
  refine (c_memory2 w1 v (hv.out.below L1.out)).mono ?_
  rintro e w5 ⟨v', vs, M, rfl, hsg, hM5, hMg, hMw, hb5⟩
  dsimp only
  obtain ⟨am, cm, hq, _, _⟩ := row_shape hsg.row
  subst hq
  have B5 : Hid (begAt w5 w.heap.size x u) := Off.keeps (.of_below (ex := fun _ => False) hb5) B1.out id
  have L5 := Lib.hid (below2 L1.out hb5)
  replace hsg := Lib.hid hsg.base
  replace hMg := Lib.hid hMg
  replace hM5 := Lib.hid hM5
  replace hMw := Lib.hid hMw
  clear hb5 L1 B1
  go_wp2_with (first | ((with_reducible refine wpList_load_bg (op := ⟨some 26, .load 28 (.tmp 4), _, _, _, _⟩) (N := w.heap.size) (x := x) (u := u) ?_ (.tmp 4) ?_ ?_ ?_ ?_); exact rfl; exact rfl; exact rfl; exact bg_range B5.out))
  refine (c_begin2 w5 x u (hu.out.below L5.out)).mono ?_
  rintro e w2 ⟨s, stk, l, rfl, hs, hl8, hg, hfr, hsa, hb2⟩
  have hwa : Hid (WfI s.a) := Lib.hid (by rw [hsa]; exact hxa.out)
  clear hsa
  dsimp only
  obtain ⟨ad, cp, hq, _, _⟩ := row_shape hs
  subst hq
  replace hs := Lib.hid hs
  have L2 := Lib.hid (below2 L5.out hb2)
  have G2 : Hid (Segs w2 0 (.slice am M.length cm) vs M) := hsg.out.off (ex := fun _ => False) (.of_below hb2) (fun _ h => h.elim) (fun _ h => h.elim)
  replace hl8 := Lib.hid hl8
  clear hb2 L5 B5 hg hfr hsg
  go_upto_region 5 with (first | ((with_reducible refine wpList_store_st (op := ⟨none, .store 33 (.tmp 8) (.tmp 27), _, _, _, _⟩) (N := w2.heap.size) (s := St.zero) (stk := (.slice none 0 0)) (s' := s) (stk' := (.slice ad l.length cp)) ?_ (.tmp 8) (.tmp 27) ?_ ?_ ?_ ?_ ?_ ?_); exact rfl; exact rfl; exact rfl; exact rfl; exact (show stAt _ w2.heap.size St.zero (.slice none 0 0) from heap_alloc_new w2 (.cells (stC St.zero (.slice none 0 0)) 33)); exact rfl; intro w3 S3 F3; replace F3 := Lib.hid F3; replace S3 := Lib.hid S3))
  have B3 : Below w2.heap.size w2 w3 := Off.below (below_al0 w2 (.cells (stC St.zero (.slice none 0 0)) 33)) F3.out (by simp) (fun k hk => by omega)
  have H0 : Hid (RSr w w3 w2.heap.size s (.slice ad l.length cp) l (.slice am M.length cm) vs M) := ⟨S3.out, stkAt.off (ex := fun _ => False) hs.out (.of_below B3) (fun _ h => h.elim), hl8.out, G2.out.off (ex := fun _ => False) (.of_below B3) (fun _ h => h.elim) (fun _ h => h.elim), hM5.out, hMg.out, hMw.out, hwa.out, below2 L2.out B3, L2.out.size⟩
  clear B3 F3 S3 hs G2 hl8 L2 hM5 hMg hMw hwa
  generalize w2.heap.size = N at H0 ⊢
  have key : ∀ (W' : World), Below w.heap.size w W' → Hid (Below w.heap.size w W') := fun _ h => h
  by_cases h3 : n.tmod 3 = 0
  · have h3' : (n.tmod 3 == 0) = true := by rw [h3]; rfl
    clear h3
    go_upto_region 7 with (first | (go_at_call 17; refine (c_New w3).mono ?_; rintro e w4 ⟨rfl, hb4⟩; unfold stV; dsimp only; have R4 := Lib.hid (H0.out.below hb4); clear hb4) | ((with_reducible refine wpList_store_st (op := ⟨none, .store 33 (.tmp 8) (.tmp 31), _, _, _, _⟩) (N := N) (s := s) (stk := (.slice ad l.length cp)) (s' := St.new) (stk' := (.slice none 0 0)) ?_ (.tmp 8) (.tmp 31) ?_ ?_ ?_ ?_ ?_ ?_); exact rfl; exact rfl; exact rfl; exact rfl; exact R4.out.st; exact rfl; intro w6 S6 F6; have R6 : Hid (RSr w w6 N St.new (.slice none 0 0) [] (.slice am M.length cm) vs M) := RSr.next R4.out (stk_nilS w4) (Below.refl _ _) R4.out.sg R4.out.m5 R4.out.mg R4.out.mw F6 S6 (by decide) (wfI_of (by decide) (by decide)); clear S6 F6 R4))
    go_upto_block 0 with (first | ((with_reducible refine wpList_load_st (op := ⟨some 32, .load 33 (.tmp 8), _, _, _, _⟩) (N := N) (s := St.new) (stk := (.slice none 0 0)) ?_ (.tmp 8) ?_ ?_ ?_ ?_); exact rfl; exact rfl; exact rfl; exact st_range R6.out.st) | (go_at_call 19; refine (c_state w6 St.new [] (.slice none 0 0) R6.out.rw (by decide)).mono ?_; rintro e w7 ⟨v7, rfl, hr7, hb7⟩; dsimp only; have R7 := Lib.hid (R6.out.below hb7); replace hr7 := Lib.hid hr7; clear hb7) | (go_at_call 20; refine (c_rNew w7).mono ?_; rintro e w8 ⟨rfl, hb8⟩; dsimp only; have R8 := Lib.hid (R7.out.below hb8); have hr8 : Hid (rstkAt w8 v7 []) := Off.row (ex := fun _ => False) (.of_below hb8) hr7.out (fun _ h => h.elim); clear hb8) | (go_at_call 18; refine (c_same w8 St.new [] v7 (.slice none 0 0) hr8.out (rstk_nilS w8) (by decide)).mono ?_; rintro e w9 ⟨rfl, hb9⟩; dsimp only; have R9 := Lib.hid (R8.out.below hb9); clear hb9))
    refine law_loop w w9 N nn n St.new (.slice none 0 0) [] (.slice am M.length cm) vs M _ _ _ _ _ _ _ _ _ _ _ _ _ _ _ _ _ _ _ _ _ _ _ _ _ _ _ _ _ _ _ _ _ _ _ _ _ _ _ _ _ _ _ _ _ _ _ _ _ _ _ _ _ _ _ _ _ _ _ _ _ _ _ _ _ _ _ _ _ _ _ _ _ _ _ _ _ _ _ _ _ _ _ _ _ _ _ _ _ _ _ _ _ _ _ _ _ _ _ _ _ _ _ _ _ _ _ _ _ _ _ _ _ _ _ _ _ _ _ _ _ _ _ _ _ _ _ _ _ _ _ _ _ _ _ _ _ _ _ _ _ _ _ _ R9.out hnn.out ?_ ?_
    all_goals
      intros
      rename_i hb
      replace hb := Lib.hid hb
      go_wp2_with fail
      go_ret
      exact ⟨rfl, hb.out⟩
  · have h3' : (n.tmod 3 == 0) = false := by simpa using h3
    clear h3
    go_upto_block 0 with fail
    refine law_loop w w3 N nn n s (.slice ad l.length cp) l (.slice am M.length cm) vs M _ _ _ _ _ _ _ _ _ _ _ _ _ _ _ _ _ _ _ _ _ _ _ _ _ _ _ _ _ _ _ _ _ _ _ _ _ _ _ _ _ _ _ _ _ _ _ _ _ _ _ _ _ _ _ _ _ _ _ _ _ _ _ _ _ _ _ _ _ _ _ _ _ _ _ _ _ _ _ _ _ _ _ _ _ _ _ _ _ _ _ _ _ _ _ _ _ _ _ _ _ _ _ _ _ _ _ _ _ _ _ _ _ _ _ _ _ _ _ _ _ _ _ _ _ _ _ _ _ _ _ _ _ _ _ _ _ _ _ _ _ _ _ _ H0.out hnn.out ?_ ?_
    all_goals
      intros
      rename_i hb
      replace hb := Lib.hid hb
      go_wp2_with fail
      go_ret
      exact ⟨rfl, hb.out⟩
end Go.Proofs.Ytiakonmamkfopaa
