import Derived.Test.YtcfbigmjjpknfaaGreatDoorW25
import Derived.Test.YtcfbigmjjpknfaaGreatDoorW10
import Derived.Test.YtcfbigmjjpknfaaGreatDoorW03
import Derived.Test.YtcfbigmjjpknfaaGreatDoorW17
import Derived.Test.YtcfbigmjjpknfaaGreatDoorW00
namespace Go.Sx
open Go Go.RowKit Go.Pl
section
variable {P : Program} {N : Nat} {l : Env} {w : World} {ty T T' : TypeId} {x y : Operand}
theorem bnC {op : BinOp} {a b : Value} (r : Value) (hx : ev l x = some a) (hy : ev l y = some b) (hop : ∀ w, (binOp op T a b).run P w = .ok r w) (h1 : ∀ w x y, (eqGuard op T x y a b).run P w = .ok () w) : Yl P N (.binOp op T x y T') ty l w r := Zn hx hy hop h1
variable {u z : Int} {ats : Array TypeId}
theorem minI (hx : ev l x = some (.int .i64 u)) (hy : ev l y = some (.int .i64 z)) : Yl P N (.call ⟨.builtin .min, #[x, y], ats⟩) ty l w (.int .i64 (min u z)) := fun a ha w' _ o ho _ => by
 have e : (if z < u then z else u) = min u z := by rw [Int.min_def]; split <;> split <;> omega
 have e2 : (if u ≤ z then u else z) = min u z := by rw [Int.min_def]
 simp [execOp, ho, ha.eval hx, ha.eval hy, resolve, invoke, builtin, Builtin.min_, Builtin.min2, e]
end
end Go.Sx
namespace Go.Proofs.YtcfbigmjjpknfaaGreatDoor
open Go Go.Sx Go.Pl Go.RowKit Go.Fd Go.Alg
theorem mul64_1_4 (w : World) : Calls Tryz.prog 242 #[.int .u64 1, .int .u64 4] w (RetX w fun r _ => r = .tuple #[.int .u64 0, .int .u64 4]) := by
 refine QD Tryz.func242 rfl rfl (Qc (Qb [0,1] rfl (Qk rfl rfl (Qk rfl rfl (Qd (Qa (Qc (Qb [0,1,2] rfl (mvV rfl rfl (Vw rfl (bnC (.int .u64 1) rfl rfl (fun w => rfl) (fun _ _ _ => Qr)) (Qk rfl rfl ?_)))))))))))
 refine Qd (Qa (Qc (Qb [0,1,2] rfl (mvV rfl rfl (Vw rfl (bnC (.int .u64 0) rfl rfl (fun w => rfl) (fun _ _ _ => Qr)) (Qk rfl rfl (Qd (Qa (Qc (Qb [0,1,2] rfl (mvV rfl rfl (Vw rfl (bnC (.int .u64 4) rfl rfl (fun w => rfl) (fun _ _ _ => Qr)) (Qk rfl rfl ?_)))))))))))))
 refine Qd (Qa (Qc (Qb [0,1,2] rfl (mvV rfl rfl (Vw rfl (bnC (.int .u64 0) rfl rfl (fun w => rfl) (fun _ _ _ => Qr)) (Qk rfl rfl (Qd (Qa (Qc (Qb [0,1,2,3] rfl (mvV rfl rfl (mvV rfl rfl (Vw rfl (bnC (.int .u64 4) rfl rfl (fun w => rfl) (fun _ _ _ => Qr)) ?_)))))))))))))
 refine Qk rfl rfl (Qd (Qa (Qc (Qb [0,1,2,3,4,5,6] rfl (mvV rfl rfl (mvV rfl rfl (Vw rfl (bnC (.int .u64 0) rfl rfl (fun w => rfl) (fun _ _ _ => Qr)) (mvV rfl rfl (Vw rfl (bnC (.int .u64 0) rfl rfl (fun w => rfl) (fun _ _ _ => Qr)) (Vw rfl (bnC (.int .u64 0) rfl rfl (fun w => rfl) (fun _ _ _ => Qr)) (Qk rfl rfl ?_)))))))))))
 refine Qd (Qa (Qc (Qb [0,1,2] rfl (mvV rfl rfl (Vw rfl (bnC (.int .u64 0) rfl rfl (fun w => rfl) (fun _ _ _ => Qr)) (Qk rfl rfl (Qd (Qa (Qc (Qb [0,1,2] rfl (mvV rfl rfl (Vw rfl (bnC (.int .u64 0) rfl rfl (fun w => rfl) (fun _ _ _ => Qr)) (Qk rfl rfl ?_)))))))))))))
 refine Qd (Qa (Qc (Qb [0,1,2,3,4,5] rfl (mvV rfl rfl (mvV rfl rfl (mvV rfl rfl (Vw rfl (bnC (.int .u64 0) rfl rfl (fun w => rfl) (fun _ _ _ => Qr)) (Vw rfl (bnC (.int .u64 0) rfl rfl (fun w => rfl) (fun _ _ _ => Qr)) (Qk rfl rfl (Qd (Qa (Qc (Qb [0,1,2,3,4,5,6,7,8] rfl ?_)))))))))))))
 refine mvV rfl rfl (mvV rfl rfl (Vw rfl (bnC (.int .u64 0) rfl rfl (fun w => rfl) (fun _ _ _ => Qr)) (mvV rfl rfl (Vw rfl (bnC (.int .u64 0) rfl rfl (fun w => rfl) (fun _ _ _ => Qr)) (mvV rfl rfl (Vw rfl (bnC (.int .u64 0) rfl rfl (fun w => rfl) (fun _ _ _ => Qr)) (Vw rfl (bnC (.int .u64 0) rfl rfl (fun w => rfl) (fun _ _ _ => Qr)) (Qk rfl rfl (Qd (Qa (Qc ?_)))))))))))
 refine Qb [0,1,2,3] rfl (mvV rfl rfl (mvV rfl rfl (Vw rfl (bnC (.int .u64 4) rfl rfl (fun w => rfl) (fun _ _ _ => Qr)) (Qk rfl rfl (Qd (Qa (Qq (QH rfl rfl rfl ?_))))))))
 exact ⟨Ext.refl _, rfl⟩
theorem mul64_1_3 (w : World) : Calls Tryz.prog 242 #[.int .u64 1, .int .u64 3] w (RetX w fun r _ => r = .tuple #[.int .u64 0, .int .u64 3]) := by
 refine QD Tryz.func242 rfl rfl (Qc (Qb [0,1] rfl (Qk rfl rfl (Qk rfl rfl (Qd (Qa (Qc (Qb [0,1,2] rfl (mvV rfl rfl (Vw rfl (bnC (.int .u64 1) rfl rfl (fun w => rfl) (fun _ _ _ => Qr)) (Qk rfl rfl ?_)))))))))))
 refine Qd (Qa (Qc (Qb [0,1,2] rfl (mvV rfl rfl (Vw rfl (bnC (.int .u64 0) rfl rfl (fun w => rfl) (fun _ _ _ => Qr)) (Qk rfl rfl (Qd (Qa (Qc (Qb [0,1,2] rfl (mvV rfl rfl (Vw rfl (bnC (.int .u64 3) rfl rfl (fun w => rfl) (fun _ _ _ => Qr)) (Qk rfl rfl ?_)))))))))))))
 refine Qd (Qa (Qc (Qb [0,1,2] rfl (mvV rfl rfl (Vw rfl (bnC (.int .u64 0) rfl rfl (fun w => rfl) (fun _ _ _ => Qr)) (Qk rfl rfl (Qd (Qa (Qc (Qb [0,1,2,3] rfl (mvV rfl rfl (mvV rfl rfl (Vw rfl (bnC (.int .u64 3) rfl rfl (fun w => rfl) (fun _ _ _ => Qr)) ?_)))))))))))))
 refine Qk rfl rfl (Qd (Qa (Qc (Qb [0,1,2,3,4,5,6] rfl (mvV rfl rfl (mvV rfl rfl (Vw rfl (bnC (.int .u64 0) rfl rfl (fun w => rfl) (fun _ _ _ => Qr)) (mvV rfl rfl (Vw rfl (bnC (.int .u64 0) rfl rfl (fun w => rfl) (fun _ _ _ => Qr)) (Vw rfl (bnC (.int .u64 0) rfl rfl (fun w => rfl) (fun _ _ _ => Qr)) (Qk rfl rfl ?_)))))))))))
 refine Qd (Qa (Qc (Qb [0,1,2] rfl (mvV rfl rfl (Vw rfl (bnC (.int .u64 0) rfl rfl (fun w => rfl) (fun _ _ _ => Qr)) (Qk rfl rfl (Qd (Qa (Qc (Qb [0,1,2] rfl (mvV rfl rfl (Vw rfl (bnC (.int .u64 0) rfl rfl (fun w => rfl) (fun _ _ _ => Qr)) (Qk rfl rfl ?_)))))))))))))
 refine Qd (Qa (Qc (Qb [0,1,2,3,4,5] rfl (mvV rfl rfl (mvV rfl rfl (mvV rfl rfl (Vw rfl (bnC (.int .u64 0) rfl rfl (fun w => rfl) (fun _ _ _ => Qr)) (Vw rfl (bnC (.int .u64 0) rfl rfl (fun w => rfl) (fun _ _ _ => Qr)) (Qk rfl rfl (Qd (Qa (Qc (Qb [0,1,2,3,4,5,6,7,8] rfl ?_)))))))))))))
 refine mvV rfl rfl (mvV rfl rfl (Vw rfl (bnC (.int .u64 0) rfl rfl (fun w => rfl) (fun _ _ _ => Qr)) (mvV rfl rfl (Vw rfl (bnC (.int .u64 0) rfl rfl (fun w => rfl) (fun _ _ _ => Qr)) (mvV rfl rfl (Vw rfl (bnC (.int .u64 0) rfl rfl (fun w => rfl) (fun _ _ _ => Qr)) (Vw rfl (bnC (.int .u64 0) rfl rfl (fun w => rfl) (fun _ _ _ => Qr)) (Qk rfl rfl (Qd (Qa (Qc ?_)))))))))))
 refine Qb [0,1,2,3] rfl (mvV rfl rfl (mvV rfl rfl (Vw rfl (bnC (.int .u64 3) rfl rfl (fun w => rfl) (fun _ _ _ => Qr)) (Qk rfl rfl (Qd (Qa (Qq (QH rfl rfl rfl ?_))))))))
 exact ⟨Ext.refl _, rfl⟩
theorem mul64_3_4 (w : World) : Calls Tryz.prog 242 #[.int .u64 3, .int .u64 4] w (RetX w fun r _ => r = .tuple #[.int .u64 0, .int .u64 12]) := by
 refine QD Tryz.func242 rfl rfl (Qc (Qb [0,1] rfl (Qk rfl rfl (Qk rfl rfl (Qd (Qa (Qc (Qb [0,1,2] rfl (mvV rfl rfl (Vw rfl (bnC (.int .u64 3) rfl rfl (fun w => rfl) (fun _ _ _ => Qr)) (Qk rfl rfl ?_)))))))))))
 refine Qd (Qa (Qc (Qb [0,1,2] rfl (mvV rfl rfl (Vw rfl (bnC (.int .u64 0) rfl rfl (fun w => rfl) (fun _ _ _ => Qr)) (Qk rfl rfl (Qd (Qa (Qc (Qb [0,1,2] rfl (mvV rfl rfl (Vw rfl (bnC (.int .u64 4) rfl rfl (fun w => rfl) (fun _ _ _ => Qr)) (Qk rfl rfl ?_)))))))))))))
 refine Qd (Qa (Qc (Qb [0,1,2] rfl (mvV rfl rfl (Vw rfl (bnC (.int .u64 0) rfl rfl (fun w => rfl) (fun _ _ _ => Qr)) (Qk rfl rfl (Qd (Qa (Qc (Qb [0,1,2,3] rfl (mvV rfl rfl (mvV rfl rfl (Vw rfl (bnC (.int .u64 12) rfl rfl (fun w => rfl) (fun _ _ _ => Qr)) ?_)))))))))))))
 refine Qk rfl rfl (Qd (Qa (Qc (Qb [0,1,2,3,4,5,6] rfl (mvV rfl rfl (mvV rfl rfl (Vw rfl (bnC (.int .u64 0) rfl rfl (fun w => rfl) (fun _ _ _ => Qr)) (mvV rfl rfl (Vw rfl (bnC (.int .u64 0) rfl rfl (fun w => rfl) (fun _ _ _ => Qr)) (Vw rfl (bnC (.int .u64 0) rfl rfl (fun w => rfl) (fun _ _ _ => Qr)) (Qk rfl rfl ?_)))))))))))
 refine Qd (Qa (Qc (Qb [0,1,2] rfl (mvV rfl rfl (Vw rfl (bnC (.int .u64 0) rfl rfl (fun w => rfl) (fun _ _ _ => Qr)) (Qk rfl rfl (Qd (Qa (Qc (Qb [0,1,2] rfl (mvV rfl rfl (Vw rfl (bnC (.int .u64 0) rfl rfl (fun w => rfl) (fun _ _ _ => Qr)) (Qk rfl rfl ?_)))))))))))))
 refine Qd (Qa (Qc (Qb [0,1,2,3,4,5] rfl (mvV rfl rfl (mvV rfl rfl (mvV rfl rfl (Vw rfl (bnC (.int .u64 0) rfl rfl (fun w => rfl) (fun _ _ _ => Qr)) (Vw rfl (bnC (.int .u64 0) rfl rfl (fun w => rfl) (fun _ _ _ => Qr)) (Qk rfl rfl (Qd (Qa (Qc (Qb [0,1,2,3,4,5,6,7,8] rfl ?_)))))))))))))
 refine mvV rfl rfl (mvV rfl rfl (Vw rfl (bnC (.int .u64 0) rfl rfl (fun w => rfl) (fun _ _ _ => Qr)) (mvV rfl rfl (Vw rfl (bnC (.int .u64 0) rfl rfl (fun w => rfl) (fun _ _ _ => Qr)) (mvV rfl rfl (Vw rfl (bnC (.int .u64 0) rfl rfl (fun w => rfl) (fun _ _ _ => Qr)) (Vw rfl (bnC (.int .u64 0) rfl rfl (fun w => rfl) (fun _ _ _ => Qr)) (Qk rfl rfl (Qd (Qa (Qc ?_)))))))))))
 refine Qb [0,1,2,3] rfl (mvV rfl rfl (mvV rfl rfl (Vw rfl (bnC (.int .u64 12) rfl rfl (fun w => rfl) (fun _ _ _ => Qr)) (Qk rfl rfl (Qd (Qa (Qq (QH rfl rfl rfl ?_))))))))
 exact ⟨Ext.refl _, rfl⟩
theorem div64_4_1 (w : World) : Calls Tryz.prog 243 #[.int .u64 0, .int .u64 4, .int .u64 1] w (RetX w fun r _ => r = .tuple #[.int .u64 4, .int .u64 0]) := by
 refine QS Tryz.func243 rfl rfl (Qc (Qb [0,1] rfl (Qk rfl rfl (Qk rfl rfl (Qd (Qa (Qc (Qc (Qb [0,1] rfl (mvV rfl rfl (Vw rfl (bnC (.bool false) rfl rfl (fun w => rfl) (fun _ _ _ => Qr)) (Qd (Qa ?_)))))))))))))
 refine Qn rfl (rfl) (Qe (Qa (Qc (Qc (Qb [0,1,2] rfl (mvV rfl rfl (mvV rfl rfl (Vw rfl (bnC (.bool false) rfl rfl (fun w => rfl) (fun _ _ _ => Qr)) (Qd (Qa (Qn rfl (rfl) (Qe (Qa (Qc (Qc (Qb [0,1] rfl ?_))))))))))))))))
 refine mvV rfl rfl (Vw rfl (bnC (.bool true) rfl rfl (fun w => rfl) (fun _ _ _ => Qr)) (Qd (Qa (QC rfl (rfl) (Qc (Qx QK [0,1,2,3,4,5,6,7] (by kernel_rfl) ?_))))))
 intro w1 hd _
 refine mvV rfl rfl (mvV rfl rfl (Vw rfl (bnC (.int .u64 4) rfl rfl (fun w => rfl) (fun _ _ _ => Qr)) (mvV rfl rfl (mvV rfl rfl (Vw rfl (bnC (.int .u64 0) rfl rfl (fun w => rfl) (fun _ _ _ => Qr)) (Qk rfl rfl (Qk rfl rfl (Qd (Qa (Qq (Qp (QH rfl rfl rfl ?_))))))))))))
 exact ⟨hd, rfl⟩
theorem div64_3_1 (w : World) : Calls Tryz.prog 243 #[.int .u64 0, .int .u64 3, .int .u64 1] w (RetX w fun r _ => r = .tuple #[.int .u64 3, .int .u64 0]) := by
 refine QS Tryz.func243 rfl rfl (Qc (Qb [0,1] rfl (Qk rfl rfl (Qk rfl rfl (Qd (Qa (Qc (Qc (Qb [0,1] rfl (mvV rfl rfl (Vw rfl (bnC (.bool false) rfl rfl (fun w => rfl) (fun _ _ _ => Qr)) (Qd (Qa ?_)))))))))))))
 refine Qn rfl (rfl) (Qe (Qa (Qc (Qc (Qb [0,1,2] rfl (mvV rfl rfl (mvV rfl rfl (Vw rfl (bnC (.bool false) rfl rfl (fun w => rfl) (fun _ _ _ => Qr)) (Qd (Qa (Qn rfl (rfl) (Qe (Qa (Qc (Qc (Qb [0,1] rfl ?_))))))))))))))))
 refine mvV rfl rfl (Vw rfl (bnC (.bool true) rfl rfl (fun w => rfl) (fun _ _ _ => Qr)) (Qd (Qa (QC rfl (rfl) (Qc (Qx QK [0,1,2,3,4,5,6,7] (by kernel_rfl) ?_))))))
 intro w1 hd _
 refine mvV rfl rfl (mvV rfl rfl (Vw rfl (bnC (.int .u64 3) rfl rfl (fun w => rfl) (fun _ _ _ => Qr)) (mvV rfl rfl (mvV rfl rfl (Vw rfl (bnC (.int .u64 0) rfl rfl (fun w => rfl) (fun _ _ _ => Qr)) (Qk rfl rfl (Qk rfl rfl (Qd (Qa (Qq (Qp (QH rfl rfl rfl ?_))))))))))))
 exact ⟨hd, rfl⟩
theorem Qdr (w : World) : Calls Tryz.prog 243 #[.int .u64 0, .int .u64 12, .int .u64 2] w (RetX w fun r _ => r = .tuple #[.int .u64 6, .int .u64 0]) := by
 refine QS Tryz.func243 rfl rfl (Qc (Qb [0,1] rfl (Qk rfl rfl (Qk rfl rfl (Qd (Qa (Qc (Qc (Qb [0,1] rfl (mvV rfl rfl (Vw rfl (bnC (.bool false) rfl rfl (fun w => rfl) (fun _ _ _ => Qr)) (Qd (Qa ?_)))))))))))))
 refine Qn rfl (rfl) (Qe (Qa (Qc (Qc (Qb [0,1,2] rfl (mvV rfl rfl (mvV rfl rfl (Vw rfl (bnC (.bool false) rfl rfl (fun w => rfl) (fun _ _ _ => Qr)) (Qd (Qa (Qn rfl (rfl) (Qe (Qa (Qc (Qc (Qb [0,1] rfl ?_))))))))))))))))
 refine mvV rfl rfl (Vw rfl (bnC (.bool true) rfl rfl (fun w => rfl) (fun _ _ _ => Qr)) (Qd (Qa (QC rfl (rfl) (Qc (Qx QK [0,1,2,3,4,5,6,7] (by kernel_rfl) ?_))))))
 intro w1 hd _
 refine mvV rfl rfl (mvV rfl rfl (Vw rfl (bnC (.int .u64 6) rfl rfl (fun w => rfl) (fun _ _ _ => Qr)) (mvV rfl rfl (mvV rfl rfl (Vw rfl (bnC (.int .u64 0) rfl rfl (fun w => rfl) (fun _ _ _ => Qr)) (Qk rfl rfl (Qk rfl rfl (Qd (Qa (Qq (Qp (QH rfl rfl rfl ?_))))))))))))
 exact ⟨hd, rfl⟩
set_option maxRecDepth 10000 in
theorem Qdu (w : World) : Calls Tryz.prog 134 #[.int .i64 4, .int .i64 1, .int .i64 65536] w (RetX w fun r _ => r = .tuple #[.int .i64 4, .int .i64 0]) := by
 refine QS Tryz.func134 rfl rfl (Qc (Qb [0,1] rfl (Qk rfl rfl (Qk rfl rfl (Qd (Qa (Qc (Qc (Qb [0,1,2,3,4,5,6,7,8,9] rfl (mvV rfl rfl (Qy rfl rfl rfl (mvV rfl rfl ?_))))))))))))
 refine OR (π1 := [3,4,5]) (π2 := [6,7,8,9]) (tc := 16) (tp := 19) rfl rfl rfl (by
   intro _
   refine SK rfl rfl rfl rfl rfl (SK rfl rfl rfl rfl rfl (pkV rfl rfl rfl ?_))
   exact Zx rfl) (by
   intro hg
   simp at hg
   refine Vg rfl rfl rfl (mv rfl) (Vg rfl rfl rfl (Qan rfl rfl) (pkV rfl rfl rfl ?_))
   exact Zx rfl) ?_
 refine mvV rfl rfl ?_
 refine OR (π1 := [7,8,9]) (π2 := []) (tc := 20) (tp := 23) rfl rfl rfl (by
   intro _
   refine SK rfl rfl rfl rfl rfl (SK rfl rfl rfl rfl rfl (pkV rfl rfl rfl ?_))
   exact Zx rfl) (by
   intro hg
   simp at hg
   refine Vg rfl rfl rfl (mv rfl) (Vg rfl rfl rfl (Qan rfl rfl) (pkV rfl rfl rfl ?_))
   exact Zx rfl) ?_
 refine Qd (Qa (Qn rfl (by decide) (Qe (Qa (Qc (Qc (Qb [0,1,2] rfl (mvV rfl rfl (mvV rfl rfl (ZA rfl rfl rfl (Qd (Qa (Qn rfl (by decide) (Qe (Qa (Qc (Qc ?_)))))))))))))))))
 refine Qb [0,1] rfl (mvV rfl rfl (QU rfl rfl rfl (Qd (Qa (Qn rfl (by decide) (Qe (Qa (Qc (Qb [0,1,2,3,4,5] rfl (mvV rfl rfl (mvV rfl rfl (mvV rfl rfl ?_))))))))))))
 refine Zd rfl rfl rfl (Vw rfl (minI rfl rfl) (Qk rfl rfl (Qd (Qa (Qc (Qb [0] rfl (Qk rfl rfl (Qd (Qa (Qc (Qc (Qb [0] rfl (Qk rfl rfl (Qd (Qa (Qf ?_))))))))))))))))
 refine Qv (fun s : Nat => [(0, .int .i64 4), (1, .int .i64 1), (2, .int .i64 65536), (8, .int .i64 ([1, 4].getD (s - 1) 0 : Int)), (9, .int .i64 s)]) (fun s w' => 1 ≤ s ∧ s ≤ 2 ∧ Ext w w') (fun s => 2 - s) 1 ⟨rfl, rfl, rfl, rfl, rfl, trivial⟩ ⟨by omega, by omega, Ext.refl _⟩ ?_
 rintro s w1 ⟨s1, s2, hE⟩
 rcases (show s = 1 ∨ s = 2 by omega) with rfl | rfl
 ·skip
  try dsimp only
  refine Qc (Qc (Qb [0,1,2] rfl (mvV rfl rfl (mvV rfl rfl (Vw rfl (Qbz rfl rfl) (Qd (Qa (QC rfl (by decide) (Qe (Qa (Qc (Qf (Qc (Qb [0,1,2,3,4,5,6,7,8,9,10,11,12,13] rfl (mvV rfl rfl ?_)))))))))))))))
  refine Vw rfl (cvK (q := .u64) rfl (by kernel_rfl) (by kernel_rfl)) (mvV rfl rfl (mvV rfl rfl (Zd rfl rfl rfl (mvV rfl rfl (Qw rfl rfl rfl (Vw rfl (cvK (q := .u64) rfl (by kernel_rfl) (by kernel_rfl)) (C rfl wu rfl rfl Tryz.call242 (mul64_1_4 _) ?_)))))))
  rintro _ w2 hE2 rfl
  refine mvV rfl rfl (QI rfl rfl rfl (QI rfl rfl rfl (Qk rfl rfl (Qk rfl rfl (Qd (Qa (Qc (Qc (Qb [0,1,2,3] rfl (mvV rfl rfl (mvV rfl rfl (Vw rfl (cvK (q := .u64) rfl (by kernel_rfl) (by kernel_rfl)) ?_))))))))))))
  refine Vw rfl (bnC (.bool false) rfl rfl (fun w => rfl) (fun _ _ _ => Qr)) (Qd (Qa (Qn rfl (rfl) (Qe (Qa (Qc (Qb [0,1,2,3,4,5,6,7,8,9] rfl (mvV rfl rfl (mvV rfl rfl (mvV rfl rfl (Vw rfl (cvK (q := .u64) rfl (by kernel_rfl) (by kernel_rfl)) (C rfl wu rfl rfl Tryz.call243 (div64_4_1 _) ?_))))))))))))
  rintro _ w3 hE3 rfl
  refine mvV rfl rfl (QI rfl rfl rfl (QI rfl rfl rfl (Qk rfl rfl (Qk rfl rfl (Qd (Qa (Qc (Qc (Qb [0,1,2,3] rfl (mvV rfl rfl (mvV rfl rfl (Vw rfl (cvK (q := .u64) rfl (by kernel_rfl) (by kernel_rfl)) ?_))))))))))))
  refine Vw rfl (bnC (.bool false) rfl rfl (fun w => rfl) (fun _ _ _ => Qr)) (Qd (Qa (Qn rfl (rfl) (Qe (Qa (Qb [0,1,2] rfl (mvV rfl rfl (Vw rfl (cvK (q := .i64) rfl (by kernel_rfl) (by kernel_rfl)) (Qk rfl rfl (Qd (Qg (Qa (Qb [0,1,2] rfl ?_)))))))))))))
  refine mvV rfl rfl (Qw rfl rfl rfl (Qk rfl rfl (Qd ?_)))
  exact Qi 2 ⟨rfl, rfl, rfl, rfl, rfl, trivial⟩ ⟨by omega, by omega, (hE.trans hE2).trans hE3⟩ (by omega)
 ·skip
  try dsimp only
  refine Qc (Qc (Qb [0,1,2] rfl (mvV rfl rfl (mvV rfl rfl (Vw rfl (Qbz rfl rfl) (Qd (Qa (Qn rfl (by decide) (Qt (Ql (Qm (Qh (Qa (Qc (Qb [0,1,2] rfl (mvV rfl rfl ?_))))))))))))))))
  refine Qk rfl rfl (Qk rfl rfl (Qd (Qa (Qq (QH rfl rfl rfl ?_)))))
  exact ⟨hE, rfl⟩
set_option maxRecDepth 10000 in
theorem Qdt (w : World) : Calls Tryz.prog 134 #[.int .i64 4, .int .i64 2, .int .i64 65536] w (RetX w fun r _ => r = .tuple #[.int .i64 6, .int .i64 0]) := by
 refine QS Tryz.func134 rfl rfl (Qc (Qb [0,1] rfl (Qk rfl rfl (Qk rfl rfl (Qd (Qa (Qc (Qc (Qb [0,1,2,3,4,5,6,7,8,9] rfl (mvV rfl rfl (Qy rfl rfl rfl (mvV rfl rfl ?_))))))))))))
 refine OR (π1 := [3,4,5]) (π2 := [6,7,8,9]) (tc := 16) (tp := 19) rfl rfl rfl (by
   intro _
   refine SK rfl rfl rfl rfl rfl (SK rfl rfl rfl rfl rfl (pkV rfl rfl rfl ?_))
   exact Zx rfl) (by
   intro hg
   simp at hg
   refine Vg rfl rfl rfl (mv rfl) (Vg rfl rfl rfl (Qan rfl rfl) (pkV rfl rfl rfl ?_))
   exact Zx rfl) ?_
 refine mvV rfl rfl ?_
 refine OR (π1 := [7,8,9]) (π2 := []) (tc := 20) (tp := 23) rfl rfl rfl (by
   intro _
   refine SK rfl rfl rfl rfl rfl (SK rfl rfl rfl rfl rfl (pkV rfl rfl rfl ?_))
   exact Zx rfl) (by
   intro hg
   simp at hg
   refine Vg rfl rfl rfl (mv rfl) (Vg rfl rfl rfl (Qan rfl rfl) (pkV rfl rfl rfl ?_))
   exact Zx rfl) ?_
 refine Qd (Qa (Qn rfl (by decide) (Qe (Qa (Qc (Qc (Qb [0,1,2] rfl (mvV rfl rfl (mvV rfl rfl (ZA rfl rfl rfl (Qd (Qa (Qn rfl (by decide) (Qe (Qa (Qc (Qc ?_)))))))))))))))))
 refine Qb [0,1] rfl (mvV rfl rfl (QU rfl rfl rfl (Qd (Qa (Qn rfl (by decide) (Qe (Qa (Qc (Qb [0,1,2,3,4,5] rfl (mvV rfl rfl (mvV rfl rfl (mvV rfl rfl ?_))))))))))))
 refine Zd rfl rfl rfl (Vw rfl (minI rfl rfl) (Qk rfl rfl (Qd (Qa (Qc (Qb [0] rfl (Qk rfl rfl (Qd (Qa (Qc (Qc (Qb [0] rfl (Qk rfl rfl (Qd (Qa (Qf ?_))))))))))))))))
 refine Qv (fun s : Nat => [(0, .int .i64 4), (1, .int .i64 2), (2, .int .i64 65536), (8, .int .i64 ([1, 3, 6].getD (s - 1) 0 : Int)), (9, .int .i64 s)]) (fun s w' => 1 ≤ s ∧ s ≤ 3 ∧ Ext w w') (fun s => 3 - s) 1 ⟨rfl, rfl, rfl, rfl, rfl, trivial⟩ ⟨by omega, by omega, Ext.refl _⟩ ?_
 rintro s w1 ⟨s1, s2, hE⟩
 rcases (show s = 1 ∨ s = 2 ∨ s = 3 by omega) with rfl | rfl | rfl
 ·skip
  try dsimp only
  refine Qc (Qc (Qb [0,1,2] rfl (mvV rfl rfl (mvV rfl rfl (Vw rfl (Qbz rfl rfl) (Qd (Qa (QC rfl (by decide) (Qe (Qa (Qc (Qf (Qc (Qb [0,1,2,3,4,5,6,7,8,9,10,11,12,13] rfl (mvV rfl rfl ?_)))))))))))))))
  refine Vw rfl (cvK (q := .u64) rfl (by kernel_rfl) (by kernel_rfl)) (mvV rfl rfl (mvV rfl rfl (Zd rfl rfl rfl (mvV rfl rfl (Qw rfl rfl rfl (Vw rfl (cvK (q := .u64) rfl (by kernel_rfl) (by kernel_rfl)) (C rfl wu rfl rfl Tryz.call242 (mul64_1_3 _) ?_)))))))
  rintro _ w2 hE2 rfl
  refine mvV rfl rfl (QI rfl rfl rfl (QI rfl rfl rfl (Qk rfl rfl (Qk rfl rfl (Qd (Qa (Qc (Qc (Qb [0,1,2,3] rfl (mvV rfl rfl (mvV rfl rfl (Vw rfl (cvK (q := .u64) rfl (by kernel_rfl) (by kernel_rfl)) ?_))))))))))))
  refine Vw rfl (bnC (.bool false) rfl rfl (fun w => rfl) (fun _ _ _ => Qr)) (Qd (Qa (Qn rfl (rfl) (Qe (Qa (Qc (Qb [0,1,2,3,4,5,6,7,8,9] rfl (mvV rfl rfl (mvV rfl rfl (mvV rfl rfl (Vw rfl (cvK (q := .u64) rfl (by kernel_rfl) (by kernel_rfl)) (C rfl wu rfl rfl Tryz.call243 (div64_3_1 _) ?_))))))))))))
  rintro _ w3 hE3 rfl
  refine mvV rfl rfl (QI rfl rfl rfl (QI rfl rfl rfl (Qk rfl rfl (Qk rfl rfl (Qd (Qa (Qc (Qc (Qb [0,1,2,3] rfl (mvV rfl rfl (mvV rfl rfl (Vw rfl (cvK (q := .u64) rfl (by kernel_rfl) (by kernel_rfl)) ?_))))))))))))
  refine Vw rfl (bnC (.bool false) rfl rfl (fun w => rfl) (fun _ _ _ => Qr)) (Qd (Qa (Qn rfl (rfl) (Qe (Qa (Qb [0,1,2] rfl (mvV rfl rfl (Vw rfl (cvK (q := .i64) rfl (by kernel_rfl) (by kernel_rfl)) (Qk rfl rfl (Qd (Qg (Qa (Qb [0,1,2] rfl ?_)))))))))))))
  refine mvV rfl rfl (Qw rfl rfl rfl (Qk rfl rfl (Qd ?_)))
  exact Qi 2 ⟨rfl, rfl, rfl, rfl, rfl, trivial⟩ ⟨by omega, by omega, (hE.trans hE2).trans hE3⟩ (by omega)
 ·skip
  try dsimp only
  refine Qc (Qc (Qb [0,1,2] rfl (mvV rfl rfl (mvV rfl rfl (Vw rfl (Qbz rfl rfl) (Qd (Qa (QC rfl (by decide) (Qe (Qa (Qc (Qf (Qc (Qb [0,1,2,3,4,5,6,7,8,9,10,11,12,13] rfl (mvV rfl rfl ?_)))))))))))))))
  refine Vw rfl (cvK (q := .u64) rfl (by kernel_rfl) (by kernel_rfl)) (mvV rfl rfl (mvV rfl rfl (Zd rfl rfl rfl (mvV rfl rfl (Qw rfl rfl rfl (Vw rfl (cvK (q := .u64) rfl (by kernel_rfl) (by kernel_rfl)) (C rfl wu rfl rfl Tryz.call242 (mul64_3_4 _) ?_)))))))
  rintro _ w2 hE2 rfl
  refine mvV rfl rfl (QI rfl rfl rfl (QI rfl rfl rfl (Qk rfl rfl (Qk rfl rfl (Qd (Qa (Qc (Qc (Qb [0,1,2,3] rfl (mvV rfl rfl (mvV rfl rfl (Vw rfl (cvK (q := .u64) rfl (by kernel_rfl) (by kernel_rfl)) ?_))))))))))))
  refine Vw rfl (bnC (.bool false) rfl rfl (fun w => rfl) (fun _ _ _ => Qr)) (Qd (Qa (Qn rfl (rfl) (Qe (Qa (Qc (Qb [0,1,2,3,4,5,6,7,8,9] rfl (mvV rfl rfl (mvV rfl rfl (mvV rfl rfl (Vw rfl (cvK (q := .u64) rfl (by kernel_rfl) (by kernel_rfl)) (C rfl wu rfl rfl Tryz.call243 (Qdr _) ?_))))))))))))
  rintro _ w3 hE3 rfl
  refine mvV rfl rfl (QI rfl rfl rfl (QI rfl rfl rfl (Qk rfl rfl (Qk rfl rfl (Qd (Qa (Qc (Qc (Qb [0,1,2,3] rfl (mvV rfl rfl (mvV rfl rfl (Vw rfl (cvK (q := .u64) rfl (by kernel_rfl) (by kernel_rfl)) ?_))))))))))))
  refine Vw rfl (bnC (.bool false) rfl rfl (fun w => rfl) (fun _ _ _ => Qr)) (Qd (Qa (Qn rfl (rfl) (Qe (Qa (Qb [0,1,2] rfl (mvV rfl rfl (Vw rfl (cvK (q := .i64) rfl (by kernel_rfl) (by kernel_rfl)) (Qk rfl rfl (Qd (Qg (Qa (Qb [0,1,2] rfl ?_)))))))))))))
  refine mvV rfl rfl (Qw rfl rfl rfl (Qk rfl rfl (Qd ?_)))
  exact Qi 3 ⟨rfl, rfl, rfl, rfl, rfl, trivial⟩ ⟨by omega, by omega, (hE.trans hE2).trans hE3⟩ (by omega)
 ·skip
  try dsimp only
  refine Qc (Qc (Qb [0,1,2] rfl (mvV rfl rfl (mvV rfl rfl (Vw rfl (Qbz rfl rfl) (Qd (Qa (Qn rfl (by decide) (Qt (Ql (Qm (Qh (Qa (Qc (Qb [0,1,2] rfl (mvV rfl rfl ?_))))))))))))))))
  refine Qk rfl rfl (Qk rfl rfl (Qd (Qa (Qq (QH rfl rfl rfl ?_)))))
  exact ⟨hE, rfl⟩
end Go.Proofs.YtcfbigmjjpknfaaGreatDoor
namespace Go.Proofs.YtcfbigmjjpknfaaGreatDoor
open Go Go.Sx Go.Pl Go.RowKit Go.Fd Go.Alg
theorem nmExpOne (k : Int) (w : World) (hk : 0 ≤ k) : Calls Tryz.prog 135 #[.int .i64 1, .int .i64 k, .int .i64 65536] w (RetX w fun r _ => r = .tuple #[.int .i64 1, .int .i64 0]) := by
 refine QS Tryz.func135 rfl rfl (Qc (Qb [0,1] rfl (Qk rfl rfl (Qk rfl rfl (Qd (Qa (Qc (Qc (Qb [0,1,2,3,4,5,6,7,8,9] rfl (mvV rfl rfl (Qy rfl rfl rfl (mvV rfl rfl ?_))))))))))))
 refine OR (π1 := [3,4,5]) (π2 := [6,7,8,9]) (tc := 11) (tp := 14) rfl rfl rfl (by
   intro _
   refine SK rfl rfl rfl rfl rfl (SK rfl rfl rfl rfl rfl (pkV rfl rfl rfl ?_))
   exact Zx rfl) (by
   intro hg
   simp at hg
   refine Vg rfl rfl rfl (mv rfl) (Vg rfl rfl rfl (Qan rfl rfl) (pkV rfl rfl rfl ?_))
   exact Zx rfl) ?_
 refine mvV rfl rfl ?_
 refine OR (π1 := [7,8,9]) (π2 := []) (tc := 15) (tp := 18) rfl rfl rfl (by
   intro _
   refine SK rfl rfl rfl rfl rfl (SK rfl rfl rfl rfl rfl (pkV rfl rfl rfl ?_))
   exact Zx rfl) (by
   intro hg
   simp at hg
   refine Vg rfl rfl rfl (mv rfl) (Vg rfl rfl rfl (Qan rfl rfl) (pkV rfl rfl rfl ?_))
   exact Zx rfl) ?_
 refine Qd (Qa (Qn rfl (by simp; omega) (Qe (Qa (Qc (Qc (Qb [0,1,2,3,4,5] rfl (mvV rfl rfl (QU rfl rfl rfl (mvV rfl rfl (KB 21 false rfl (rfl) (SK rfl rfl rfl rfl rfl (SK rfl rfl rfl rfl rfl ?_)))))))))))))
 refine pkV rfl rfl rfl (Qd (Qa (Qn rfl (rfl) (Qe (Qa (Qc (Qc (Qb [0,1] rfl (mvV rfl rfl (QU rfl rfl rfl (Qd (Qa (Qn rfl (by decide) (Qe (Qa (Qc ?_))))))))))))))))
 refine Qb [0] rfl (Qk rfl rfl (Qd (Qa (Qc (Qf ?_)))))
 refine Qv (fun _ : Unit => [(0, .int .i64 1), (1, .int .i64 k), (8, .int .i64 1)]) (fun _ w' => w' = w) (fun _ => 0) () ⟨rfl, rfl, rfl, trivial⟩ rfl ?_
 rintro _ w1 rfl
 try dsimp only
 refine Qc (Qc (Qb [0,1,2,3,4,5] rfl (mvV rfl rfl (ZA rfl rfl rfl (mvV rfl rfl ?_)))))
 refine AND (π1 := [3,4,5]) (π2 := []) (tc := 29) (tp := 32) rfl rfl rfl (by
   intro hg
   simp at hg
   refine Vg rfl rfl rfl (mv rfl) (Vg rfl rfl rfl (Ju rfl rfl) (pkV rfl rfl rfl ?_))
   exact Zx rfl) (by
   intro _
   refine SK rfl rfl rfl rfl rfl (SK rfl rfl rfl rfl rfl (pkV rfl rfl rfl ?_))
   exact Zx rfl) ?_
 refine Qd (Qa (Qn rfl (by simp) (Qt (Ql (Qm (Qh (Qa (Qc (Qb [0,1,2] rfl (mvV rfl rfl (Qk rfl rfl (Qk rfl rfl (Qd (Qa (Qq (QH rfl rfl rfl ?_))))))))))))))))
 exact ⟨Ext.refl _, rfl⟩
theorem nmNeg (x : Int) (w : World) : Calls Tryz.prog 244 #[.int .i64 x] w (RetX w fun r _ => r = .bool (decide (x < 0))) := by
 refine QL Tryz.func244 rfl rfl (Qc (Qb [0] rfl (Qk rfl rfl (Qd (Qa (Qc (Qb [0,1,2] rfl (mvV rfl rfl (Qy rfl rfl rfl (Qk rfl rfl (Qd (Qa (Qq ?_)))))))))))))
 refine Qj rfl rfl ?_
 exact ⟨Ext.refl _, rfl⟩
theorem QaJ (F : FuncId) (pred : Int → Bool) (hcall : ∀ args w, (callFunc F args).run Tryz.prog w = .ok (.enter F args) w) (v : Value) (zs : List Int) (w : World) (hu : Ints w v zs) (hF : ∀ x w', Calls Tryz.prog F #[.int .i64 x] w' (RetX w' fun r _ => r = .bool (pred x))) :
  Calls Tryz.prog 23 #[v, .func (.func F) #[] #[]] w (RetX w fun r _ => r = .bool (zs.any pred)) := by
 refine QD Tryz.func23 rfl rfl (Qc (Qb [0] rfl (Qk rfl rfl (Qd (Qa (Qc (Qb [0,1,2,3,4] rfl (mvV rfl rfl (mvV rfl rfl (C rfl wu rfl rfl Tryz.call58 (XE F pred hcall v zs _ hu hF) ?_))))))))))
 rintro _ w2 hE2 rfl
 refine Vw rfl (Xb rfl rfl) (Qk rfl rfl (Qd (Qa (Qq (Qj rfl rfl ?_)))))
 refine ⟨hE2, ?_⟩
 have e : decide (0 ≤ ixI (zs.findIdx? pred)) = zs.any pred := by
  cases h : zs.findIdx? pred with
  | none =>
   have h1 := List.findIdx?_eq_none_iff.1 h
   have h2 : zs.any pred = false := by
    rw [List.any_eq_false]
    intro x hx
    rw [h1 x hx]
    simp
   rw [h2]
   rfl
  | some k =>
   obtain ⟨h1, h2, _⟩ := List.findIdx?_eq_some_iff_getElem.1 h
   have h3 : zs.any pred = true := List.any_eq_true.2 ⟨_, List.getElem_mem h1, h2⟩
   rw [h3]
   exact decide_eq_true (Int.natCast_nonneg k)
 rw [← e]
def pp (zs : List Int) (i : Nat) : Int := (zs.take i).foldl (· * ·) 1
theorem pp_succ {zs : List Int} {i : Nat} (h : i < zs.length) : pp zs (i + 1) = pp zs i * gi zs i := by
 rw [pp, Ml.take_step' h, List.foldl_append]
 rfl
set_option maxRecDepth 10000 in
theorem nmProduct (most : Int) (lv : Value) (zs : List Int) (w : World) (hl : Ints w lv zs) (hm : 0 ≤ most) (hm2 : most ≤ 65536) (hp : ∀ i : Nat, i < zs.length → 1 ≤ gi zs i) (hpp : ∀ i : Nat, i ≤ zs.length → 1 ≤ pp zs i ∧ pp zs i ≤ most) :
  Calls Tryz.prog 137 #[.int .i64 most, lv] w (RetX w fun r _ => r = .tuple #[.int .i64 (pp zs zs.length), .int .i64 0]) := by
 have hle := hl.le
 have hany : zs.any (fun x => decide (x < 0)) = false := by
  rw [List.any_eq_false]
  intro x hx
  obtain ⟨j, hj, rfl⟩ := List.getElem_of_mem hx
  have := hp j hj
  have e : gi zs j = zs[j] := by simp [gi, List.getD_eq_getElem?_getD, hj]
  simp
  omega
 have hno : (0 : Int) ∉ zs := fun hx => by
  obtain ⟨j, hj, e0⟩ := List.getElem_of_mem hx
  have := hp j hj
  have e : gi zs j = zs[j] := by simp [gi, List.getD_eq_getElem?_getD, hj]
  omega
 refine QD Tryz.func137 rfl rfl (Qc (Qb [0,1] rfl (Qk rfl rfl (Qk rfl rfl (Qd (Qa (Qc (Qc (Qb [0,1,2,3,4,5] rfl (mvV rfl rfl (Qy rfl rfl rfl (mvV rfl rfl ?_))))))))))))
 refine KB 11 false rfl (decide_eq_false (by omega)) (Vg rfl rfl rfl (mv rfl) (C rfl (wg rfl rfl) rfl rfl Tryz.call23 (QaJ 244 (fun x => decide (x < 0)) Tryz.call244 lv zs _ hl (fun x w' => nmNeg x w')) ?_))
 rintro _ w2 hE2 rfl
 refine pkV rfl rfl rfl (Qd (Qa ?_))
 rw [hany]
 refine Qn rfl (rfl) (Qe (Qa (Qc (Qc ?_))))
 replace hl := hl.ext hE2
 refine Qb [0,1] rfl (mvV rfl rfl (C rfl wu rfl rfl Tryz.call30 (ZX lv zs 0 _ hl) ?_))
 rintro _ w3 hE3 rfl
 refine Qd (Qa (Qn rfl (by simp [hno]) (Qe (Qa (Qc ?_)))))
 replace hl := hl.ext hE3
 have hE := hE2.trans hE3
 refine Qb [0] rfl (Qk rfl rfl (Qd (Qa (Qc (Qc (Qb [0,1,2] rfl (mvV rfl rfl (Vw rfl (Zh rfl QA hl) (mvV rfl rfl (Qd (Qa (Qf ?_))))))))))))
 refine Qv (fun i : Nat => [(0, .int .i64 most), (6, .int .i64 (pp zs i)), (17, lv), (18, .int .i64 zs.length), (19, .int .i64 i)]) (fun i w' => i ≤ zs.length ∧ w' = w3) (fun i => zs.length - i) 0 ⟨rfl, rfl, rfl, rfl, rfl, trivial⟩ ⟨by omega, rfl⟩ ?_
 rintro i w4 ⟨i1, rfl⟩
 have hb := hpp i i1
 try dsimp only
 refine Qc (Qb [0] rfl (Qy rfl rfl rfl (Qd (Qa (Qc (Qo rfl ?_ ?_))))))
 ·intro hc
  simp at hc
  have hx := hp i hc
  have hb2 := hpp (i + 1) hc
  rw [pp_succ hc] at hb2
  refine Qe (Qa (Qc (Qf (Qc (Qb [0,1,2] rfl (Vw rfl (QO rfl rfl QA hl (by omega) (by omega)) (Vw rfl (ldI rfl na3 hl (Ext.refl _) (by omega) (by omega)) (Qk rfl rfl (Qd (Qa (Qc (Qc (Qb [0,1,2,3,4] rfl (mvV rfl rfl (mvV rfl rfl (mvV rfl rfl ?_))))))))))))))))
  refine Vw rfl (quoI rfl rfl (by omega) (by omega)) (ZA rfl rfl rfl (Qd (Qa ?_)))
  have hq : pp zs i ≤ most / gi zs i := by
   rw [Int.le_ediv_iff_mul_le (by omega)]
   exact hb2.2
  refine Qn rfl (by simp; omega) (Qe (Qa (Qb [0,1,2,3] rfl (mvV rfl rfl (mvV rfl rfl (Vw rfl (Kx rfl rfl (by omega)) (Qk rfl rfl (Qd (Qg (Qa (Qb [0,1] rfl (Qw rfl rfl rfl ?_))))))))))))
  refine mvV rfl rfl (Qd (Qi (i + 1) ⟨rfl, ?_, rfl, rfl, rfl, trivial⟩ ⟨by omega, rfl⟩ (by omega)))
  rw [pp_succ hc]
  rfl
 ·intro hc
  simp at hc
  obtain rfl : i = zs.length := by omega
  refine Qt (Ql (Qm (Qh (Qa (Qc (Qc (Qb [0,1,2] rfl (mvV rfl rfl (mvV rfl rfl (ZA rfl rfl rfl (Qd (Qa (Qn rfl (by simp; omega) (Qe (Qa (Qc (Qb [0,1,2] rfl (mvV rfl rfl ?_))))))))))))))))))
  refine Qk rfl rfl (Qk rfl rfl (Qd (Qa (Qq (QH rfl rfl rfl ?_)))))
  exact ⟨hE, rfl⟩
def flS (k : Int) (rs : List Int) (wt : Int) (i : Nat) : Int := (rs.take i).foldl (fun s r => s + max 0 (wt + 1 - (k - r))) 0
theorem flS_succ {k wt : Int} {rs : List Int} {i : Nat} (h : i < rs.length) : flS k rs wt (i + 1) = flS k rs wt i + max 0 (wt + 1 - (k - gi rs i)) := by
 rw [flS, Ml.take_step' h, List.foldl_append]
 rfl
set_option maxRecDepth 10000 in
theorem isFloor (k : Int) (rv : Value) (rs : List Int) (wt : Int) (w : World) (hr : Ints w rv rs) (hk0 : 0 ≤ k) (hk1 : k ≤ 64) (hw0 : 0 ≤ wt) (hw1 : wt ≤ k) (hl : rs.length ≤ 64) (hrr : ∀ i : Nat, i < rs.length → 0 ≤ gi rs i ∧ gi rs i ≤ k) :
  Calls Tryz.prog 94 #[.int .i64 k, rv, .int .i64 wt] w (RetX w fun r _ => r = .tuple #[.int .i64 (flS k rs wt rs.length), .int .i64 0]) := by
 refine QS Tryz.func94 rfl rfl (Qc (Qb [0,1] rfl (Qk rfl rfl (Qk rfl rfl (Qd (Qa (Qc (Qc (Qb [0,1,2,3,4,5,6,7,8,9,10,11,12,13,14,15,16,17,18,19] rfl (mvV rfl rfl (Qy rfl rfl rfl (mvV rfl rfl ?_))))))))))))
 refine OR (π1 := [3,4,5]) (π2 := [6,7,8,9,10,11,12,13,14,15,16,17,18,19]) (tc := 13) (tp := 16) rfl rfl rfl (by
   intro _
   refine SK rfl rfl rfl rfl rfl (SK rfl rfl rfl rfl rfl (pkV rfl rfl rfl ?_))
   exact Zx rfl) (by
   intro hg
   simp at hg
   refine Vg rfl rfl rfl (mv rfl) (Vg rfl rfl rfl (Ju rfl rfl) (pkV rfl rfl rfl ?_))
   exact Zx rfl) ?_
 refine mvV rfl rfl ?_
 refine OR (π1 := [7,8,9]) (π2 := [10,11,12,13,14,15,16,17,18,19]) (tc := 17) (tp := 20) rfl rfl rfl (by
   intro _
   refine SK rfl rfl rfl rfl rfl (SK rfl rfl rfl rfl rfl (pkV rfl rfl rfl ?_))
   exact Zx rfl) (by
   intro hg
   simp at hg
   refine Vg rfl rfl rfl (mv rfl) (Vg rfl rfl rfl (Qan rfl rfl) (pkV rfl rfl rfl ?_))
   exact Zx rfl) ?_
 refine mvV rfl rfl ?_
 refine OR (π1 := [11,12,13,14]) (π2 := [15,16,17,18,19]) (tc := 21) (tp := 25) rfl rfl rfl (by
   intro _
   refine SK rfl rfl rfl rfl rfl (SK rfl rfl rfl rfl rfl (SK rfl rfl rfl rfl rfl (pkV rfl rfl rfl ?_)))
   exact Zx rfl) (by
   intro hg
   simp at hg
   refine Vg rfl rfl rfl (mv rfl) (Vg rfl rfl rfl (mv rfl) (Vg rfl rfl rfl (Ju rfl rfl) (pkV rfl rfl rfl ?_)))
   exact Zx rfl) ?_
 refine mvV rfl rfl ?_
 refine OR (π1 := [16,17,18,19]) (π2 := []) (tc := 26) (tp := 30) rfl rfl rfl (by
   intro _
   refine SK rfl rfl rfl rfl rfl (SK rfl rfl rfl rfl rfl (SK rfl rfl rfl rfl rfl (pkV rfl rfl rfl ?_)))
   exact Zx rfl) (by
   intro hg
   simp at hg
   refine Vg rfl rfl rfl (mv rfl) (Vg rfl rfl rfl (Zh rfl QA hr) (Vg rfl rfl rfl (Ju rfl rfl) (pkV rfl rfl rfl ?_)))
   exact Zx rfl) ?_
 refine Qd (Qa (Qn rfl (by simp; omega) (Qe (Qa (Qc (Qb [0] rfl (Qk rfl rfl (Qd (Qa (Qc (Qc (Qb [0,1,2] rfl (mvV rfl rfl (Vw rfl (Zh rfl QA hr) (mvV rfl rfl ?_)))))))))))))))
 refine Qd (Qa (Qf ?_))
 refine Qv (fun i : Nat => [(0, .int .i64 k), (2, .int .i64 wt), (8, .int .i64 (flS k rs wt i)), (31, rv), (32, .int .i64 rs.length), (33, .int .i64 i)]) (fun i w' => i ≤ rs.length ∧ w' = w ∧ 0 ≤ flS k rs wt i ∧ flS k rs wt i ≤ 65 * i) (fun i => rs.length - i) 0 ⟨rfl, rfl, rfl, rfl, rfl, rfl, trivial⟩ ⟨by omega, rfl, Int.le_refl 0, Int.le_refl 0⟩ ?_
 rintro i w4 ⟨i1, rfl, f0, f1⟩
 try dsimp only
 refine Qc (Qb [0] rfl (Qy rfl rfl rfl (Qd (Qa (Qc (Qo rfl ?_ ?_))))))
 ·intro hc
  simp at hc
  have hx := hrr i hc
  have hs := flS_succ (k := k) (wt := wt) hc
  refine Qe (Qa (Qc (Qf (Qc (Qb [0,1,2] rfl (Vw rfl (QO rfl rfl QA hr (by omega) (by omega)) (Vw rfl (ldI rfl na3 hr (Ext.refl _) (by omega) (by omega)) (Qk rfl rfl (Qd (Qa (Qc (Qc (Qb [0,1,2,3,4,5,6] rfl (mvV rfl rfl (Qy rfl rfl rfl (mvV rfl rfl ?_))))))))))))))))
  refine OR (π1 := [3,4,5,6]) (π2 := []) (tc := 39) (tp := 43) rfl rfl rfl (by
    intro _
    refine SK rfl rfl rfl rfl rfl (SK rfl rfl rfl rfl rfl (SK rfl rfl rfl rfl rfl (pkV rfl rfl rfl ?_)))
    exact Zx rfl) (by
    intro hg
    simp at hg
    refine Vg rfl rfl rfl (mv rfl) (Vg rfl rfl rfl (mv rfl) (Vg rfl rfl rfl (Ju rfl rfl) (pkV rfl rfl rfl ?_)))
    exact Zx rfl) ?_
  refine Qd (Qa (Qn rfl (by simp; omega) (Qe (Qa (Qb [0,1,2,3,4,5,6,7,8,9] rfl (mvV rfl rfl (mvV rfl rfl (Qw rfl rfl rfl (mvV rfl rfl (mvV rfl rfl (Zd rfl rfl rfl ?_)))))))))))
  refine Zd rfl rfl rfl (Vw rfl (maxI rfl rfl) (Qw rfl rfl rfl (Qk rfl rfl (Qd (Qg (Qa (Qb [0,1] rfl (Qw rfl rfl rfl (mvV rfl rfl (Qd (Qi (i + 1) ⟨rfl, rfl, ?_, rfl, rfl, rfl, trivial⟩ ⟨by omega, rfl, by omega, by omega⟩ (by omega))))))))))))
  rw [hs]
  rfl
 ·intro hc
  simp at hc
  obtain rfl : i = rs.length := by omega
  refine Qt (Ql (Qm (Qh (Qa (Qc (Qb [0,1,2] rfl (mvV rfl rfl (Qk rfl rfl (Qk rfl rfl (Qd (Qa (Qq (QH rfl rfl rfl ?_)))))))))))))
  exact ⟨Ext.refl _, rfl⟩
end Go.Proofs.YtcfbigmjjpknfaaGreatDoor
