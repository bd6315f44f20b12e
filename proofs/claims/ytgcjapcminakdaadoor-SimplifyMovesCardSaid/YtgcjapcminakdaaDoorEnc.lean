/- Structs in which fractions lie: as Lean structures over Rat, with their encodings and what loads, literals and comparisons give. Written by a program (gen_enc.py). Conditions: none. -/
import Derived.Test.YtgcjapcminakdaaDoorRat
set_option linter.unusedVariables false
set_option linter.unusedSimpArgs false
set_option maxRecDepth 100000
namespace Go.Vt
open Go.RowKit Go.Proofs
structure R_api_Real where
  P : Rat
  R : Rat
  Neg : Bool
  deriving DecidableEq
def q_api_Real (x : R_api_Real) : api_Real := ⟨Q x.P, Q x.R, x.Neg⟩
def zR_api_Real : R_api_Real := ⟨0, 0, false⟩
theorem z_q_api_Real : z_api_Real = q_api_Real zR_api_Real := by kernel_rfl
theorem q_api_Real_inj {x y : R_api_Real} : q_api_Real x = q_api_Real y ↔ x = y := by
  cases x; cases y; simp only [q_api_Real, api_Real.mk.injEq, R_api_Real.mk.injEq, Q_inj, I_inj]
instance (priority := high) rz_30 : ZeroC Tryd.prog 30 (.agg (e_api_Real (q_api_Real zR_api_Real))) (e_api_Real (q_api_Real zR_api_Real)) := ⟨by kernel_rfl, rfl⟩
instance (priority := high) rl_30_30_0 (x : R_api_Real) : LdC Tryd.prog 30 (e_api_Real (q_api_Real x)) 0 (.agg (e_api_Real (q_api_Real x))) := ⟨ldv_agg 9 (by kernel_rfl) (by kernel_rfl) (by kernel_rfl)⟩
instance (priority := high) rl_30_28_0 (x : R_api_Real) : LdC Tryd.prog 28 (e_api_Real (q_api_Real x)) 0 (vQ x.P) := ⟨ldv_agg 4 (by kernel_rfl) (by kernel_rfl) (by kernel_rfl)⟩
instance (priority := high) rl_30_26_0 (x : R_api_Real) : LdC Tryd.prog 26 (e_api_Real (q_api_Real x)) 0 (vI x.P.num) := ⟨ldv_agg 2 (by kernel_rfl) (by kernel_rfl) (by kernel_rfl)⟩
instance (priority := high) rl_30_26_2 (x : R_api_Real) : LdC Tryd.prog 26 (e_api_Real (q_api_Real x)) 2 (vI ((dn x.P))) := ⟨ldv_agg 2 (by kernel_rfl) (by kernel_rfl) (by kernel_rfl)⟩
instance (priority := high) rl_30_28_4 (x : R_api_Real) : LdC Tryd.prog 28 (e_api_Real (q_api_Real x)) 4 (vQ x.R) := ⟨ldv_agg 4 (by kernel_rfl) (by kernel_rfl) (by kernel_rfl)⟩
instance (priority := high) rl_30_26_4 (x : R_api_Real) : LdC Tryd.prog 26 (e_api_Real (q_api_Real x)) 4 (vI x.R.num) := ⟨ldv_agg 2 (by kernel_rfl) (by kernel_rfl) (by kernel_rfl)⟩
instance (priority := high) rl_30_26_6 (x : R_api_Real) : LdC Tryd.prog 26 (e_api_Real (q_api_Real x)) 6 (vI ((dn x.R))) := ⟨ldv_agg 2 (by kernel_rfl) (by kernel_rfl) (by kernel_rfl)⟩
instance (priority := high) rl_30_4_8 (x : R_api_Real) : LdC Tryd.prog 4 (e_api_Real (q_api_Real x)) 8 (.bool x.Neg) := ⟨ldv_one (by kernel_rfl) (by kernel_rfl)⟩
instance (priority := high) rb_30_0 (x0 : Rat) : BdC Tryd.prog 30 [(0, vQ x0)] (.agg (e_api_Real (q_api_Real ⟨x0, 0, false⟩))) := ⟨fun w => by kernel_rfl⟩
instance (priority := high) reql_30 (x y : R_api_Real) : BinC Tryd.prog .eql 30 (.agg (e_api_Real (q_api_Real x))) (.agg (e_api_Real (q_api_Real y))) (.bool (decide (x = y))) := by
  have h : decide (q_api_Real x = q_api_Real y) = decide (x = y) := by rw [decide_eq_decide]; exact q_api_Real_inj
  exact h ▸ (inferInstance : BinC Tryd.prog .eql 30 (.agg (e_api_Real (q_api_Real x))) (.agg (e_api_Real (q_api_Real y))) (.bool (decide (q_api_Real x = q_api_Real y))))
instance (priority := high) rneq_30 (x y : R_api_Real) : BinC Tryd.prog .neq 30 (.agg (e_api_Real (q_api_Real x))) (.agg (e_api_Real (q_api_Real y))) (.bool (!decide (x = y))) := by
  have h : decide (q_api_Real x = q_api_Real y) = decide (x = y) := by rw [decide_eq_decide]; exact q_api_Real_inj
  exact h ▸ (inferInstance : BinC Tryd.prog .neq 30 (.agg (e_api_Real (q_api_Real x))) (.agg (e_api_Real (q_api_Real y))) (.bool (!decide (q_api_Real x = q_api_Real y))))
structure R_api_Interval where
  From : R_api_Real
  To : R_api_Real
  OpenFrom : Bool
  OpenTo : Bool
  deriving DecidableEq
def q_api_Interval (x : R_api_Interval) : api_Interval := ⟨q_api_Real x.From, q_api_Real x.To, x.OpenFrom, x.OpenTo⟩
def zR_api_Interval : R_api_Interval := ⟨zR_api_Real, zR_api_Real, false, false⟩
theorem z_q_api_Interval : z_api_Interval = q_api_Interval zR_api_Interval := by kernel_rfl
theorem q_api_Interval_inj {x y : R_api_Interval} : q_api_Interval x = q_api_Interval y ↔ x = y := by
  cases x; cases y; simp only [q_api_Interval, api_Interval.mk.injEq, R_api_Interval.mk.injEq, Q_inj, I_inj, q_api_Real_inj, q_api_Real_inj]
instance (priority := high) rz_32 : ZeroC Tryd.prog 32 (.agg (e_api_Interval (q_api_Interval zR_api_Interval))) (e_api_Interval (q_api_Interval zR_api_Interval)) := ⟨by kernel_rfl, rfl⟩
instance (priority := high) rl_32_32_0 (x : R_api_Interval) : LdC Tryd.prog 32 (e_api_Interval (q_api_Interval x)) 0 (.agg (e_api_Interval (q_api_Interval x))) := ⟨ldv_agg 20 (by kernel_rfl) (by kernel_rfl) (by kernel_rfl)⟩
instance (priority := high) rl_32_30_0 (x : R_api_Interval) : LdC Tryd.prog 30 (e_api_Interval (q_api_Interval x)) 0 (.agg (e_api_Real (q_api_Real x.From))) := ⟨ldv_agg 9 (by kernel_rfl) (by kernel_rfl) (by kernel_rfl)⟩
instance (priority := high) rl_32_28_0 (x : R_api_Interval) : LdC Tryd.prog 28 (e_api_Interval (q_api_Interval x)) 0 (vQ x.From.P) := ⟨ldv_agg 4 (by kernel_rfl) (by kernel_rfl) (by kernel_rfl)⟩
instance (priority := high) rl_32_26_0 (x : R_api_Interval) : LdC Tryd.prog 26 (e_api_Interval (q_api_Interval x)) 0 (vI x.From.P.num) := ⟨ldv_agg 2 (by kernel_rfl) (by kernel_rfl) (by kernel_rfl)⟩
instance (priority := high) rl_32_26_2 (x : R_api_Interval) : LdC Tryd.prog 26 (e_api_Interval (q_api_Interval x)) 2 (vI ((dn x.From.P))) := ⟨ldv_agg 2 (by kernel_rfl) (by kernel_rfl) (by kernel_rfl)⟩
instance (priority := high) rl_32_28_4 (x : R_api_Interval) : LdC Tryd.prog 28 (e_api_Interval (q_api_Interval x)) 4 (vQ x.From.R) := ⟨ldv_agg 4 (by kernel_rfl) (by kernel_rfl) (by kernel_rfl)⟩
instance (priority := high) rl_32_26_4 (x : R_api_Interval) : LdC Tryd.prog 26 (e_api_Interval (q_api_Interval x)) 4 (vI x.From.R.num) := ⟨ldv_agg 2 (by kernel_rfl) (by kernel_rfl) (by kernel_rfl)⟩
instance (priority := high) rl_32_26_6 (x : R_api_Interval) : LdC Tryd.prog 26 (e_api_Interval (q_api_Interval x)) 6 (vI ((dn x.From.R))) := ⟨ldv_agg 2 (by kernel_rfl) (by kernel_rfl) (by kernel_rfl)⟩
instance (priority := high) rl_32_4_8 (x : R_api_Interval) : LdC Tryd.prog 4 (e_api_Interval (q_api_Interval x)) 8 (.bool x.From.Neg) := ⟨ldv_one (by kernel_rfl) (by kernel_rfl)⟩
instance (priority := high) rl_32_30_9 (x : R_api_Interval) : LdC Tryd.prog 30 (e_api_Interval (q_api_Interval x)) 9 (.agg (e_api_Real (q_api_Real x.To))) := ⟨ldv_agg 9 (by kernel_rfl) (by kernel_rfl) (by kernel_rfl)⟩
instance (priority := high) rl_32_28_9 (x : R_api_Interval) : LdC Tryd.prog 28 (e_api_Interval (q_api_Interval x)) 9 (vQ x.To.P) := ⟨ldv_agg 4 (by kernel_rfl) (by kernel_rfl) (by kernel_rfl)⟩
instance (priority := high) rl_32_26_9 (x : R_api_Interval) : LdC Tryd.prog 26 (e_api_Interval (q_api_Interval x)) 9 (vI x.To.P.num) := ⟨ldv_agg 2 (by kernel_rfl) (by kernel_rfl) (by kernel_rfl)⟩
instance (priority := high) rl_32_26_11 (x : R_api_Interval) : LdC Tryd.prog 26 (e_api_Interval (q_api_Interval x)) 11 (vI ((dn x.To.P))) := ⟨ldv_agg 2 (by kernel_rfl) (by kernel_rfl) (by kernel_rfl)⟩
instance (priority := high) rl_32_28_13 (x : R_api_Interval) : LdC Tryd.prog 28 (e_api_Interval (q_api_Interval x)) 13 (vQ x.To.R) := ⟨ldv_agg 4 (by kernel_rfl) (by kernel_rfl) (by kernel_rfl)⟩
instance (priority := high) rl_32_26_13 (x : R_api_Interval) : LdC Tryd.prog 26 (e_api_Interval (q_api_Interval x)) 13 (vI x.To.R.num) := ⟨ldv_agg 2 (by kernel_rfl) (by kernel_rfl) (by kernel_rfl)⟩
instance (priority := high) rl_32_26_15 (x : R_api_Interval) : LdC Tryd.prog 26 (e_api_Interval (q_api_Interval x)) 15 (vI ((dn x.To.R))) := ⟨ldv_agg 2 (by kernel_rfl) (by kernel_rfl) (by kernel_rfl)⟩
instance (priority := high) rl_32_4_17 (x : R_api_Interval) : LdC Tryd.prog 4 (e_api_Interval (q_api_Interval x)) 17 (.bool x.To.Neg) := ⟨ldv_one (by kernel_rfl) (by kernel_rfl)⟩
instance (priority := high) rl_32_4_18 (x : R_api_Interval) : LdC Tryd.prog 4 (e_api_Interval (q_api_Interval x)) 18 (.bool x.OpenFrom) := ⟨ldv_one (by kernel_rfl) (by kernel_rfl)⟩
instance (priority := high) rl_32_4_19 (x : R_api_Interval) : LdC Tryd.prog 4 (e_api_Interval (q_api_Interval x)) 19 (.bool x.OpenTo) := ⟨ldv_one (by kernel_rfl) (by kernel_rfl)⟩
instance (priority := high) rb_32_0_1 (x0 : R_api_Real) (x1 : R_api_Real) : BdC Tryd.prog 32 [(0, .agg (e_api_Real (q_api_Real x0))), (1, .agg (e_api_Real (q_api_Real x1)))] (.agg (e_api_Interval (q_api_Interval ⟨x0, x1, false, false⟩))) := ⟨fun w => by kernel_rfl⟩
instance (priority := high) rb_32_1 (x1 : R_api_Real) : BdC Tryd.prog 32 [(1, .agg (e_api_Real (q_api_Real x1)))] (.agg (e_api_Interval (q_api_Interval ⟨zR_api_Real, x1, false, false⟩))) := ⟨fun w => by kernel_rfl⟩
instance (priority := high) reql_32 (x y : R_api_Interval) : BinC Tryd.prog .eql 32 (.agg (e_api_Interval (q_api_Interval x))) (.agg (e_api_Interval (q_api_Interval y))) (.bool (decide (x = y))) := by
  have h : decide (q_api_Interval x = q_api_Interval y) = decide (x = y) := by rw [decide_eq_decide]; exact q_api_Interval_inj
  exact h ▸ (inferInstance : BinC Tryd.prog .eql 32 (.agg (e_api_Interval (q_api_Interval x))) (.agg (e_api_Interval (q_api_Interval y))) (.bool (decide (q_api_Interval x = q_api_Interval y))))
instance (priority := high) rneq_32 (x y : R_api_Interval) : BinC Tryd.prog .neq 32 (.agg (e_api_Interval (q_api_Interval x))) (.agg (e_api_Interval (q_api_Interval y))) (.bool (!decide (x = y))) := by
  have h : decide (q_api_Interval x = q_api_Interval y) = decide (x = y) := by rw [decide_eq_decide]; exact q_api_Interval_inj
  exact h ▸ (inferInstance : BinC Tryd.prog .neq 32 (.agg (e_api_Interval (q_api_Interval x))) (.agg (e_api_Interval (q_api_Interval y))) (.bool (!decide (q_api_Interval x = q_api_Interval y))))
structure R_simplify_Run where
  In : R_api_Interval
  Points : Sl
def q_simplify_Run (x : R_simplify_Run) : simplify_Run := ⟨q_api_Interval x.In, x.Points⟩
def zR_simplify_Run : R_simplify_Run := ⟨zR_api_Interval, ⟨none, 0, 0⟩⟩
theorem z_q_simplify_Run : z_simplify_Run = q_simplify_Run zR_simplify_Run := by kernel_rfl
instance (priority := high) rz_35 : ZeroC Tryd.prog 35 (.agg (e_simplify_Run (q_simplify_Run zR_simplify_Run))) (e_simplify_Run (q_simplify_Run zR_simplify_Run)) := ⟨by kernel_rfl, rfl⟩
instance (priority := 20000) rc_35_32_0 (x0 : R_api_Interval) (x1 : Option Addr) (x1l x1c : Nat) : LdC Tryd.prog 32 (e_simplify_Run (q_simplify_Run ⟨x0, ⟨x1, x1l, x1c⟩⟩)) 0 (.agg (e_api_Interval (q_api_Interval x0))) := ⟨ldv_agg 20 (by kernel_rfl) (by kernel_rfl) (by kernel_rfl)⟩
instance (priority := 20000) rc_35_30_0 (x0 : R_api_Interval) (x1 : Option Addr) (x1l x1c : Nat) : LdC Tryd.prog 30 (e_simplify_Run (q_simplify_Run ⟨x0, ⟨x1, x1l, x1c⟩⟩)) 0 (.agg (e_api_Real (q_api_Real x0.From))) := ⟨ldv_agg 9 (by kernel_rfl) (by kernel_rfl) (by kernel_rfl)⟩
instance (priority := 20000) rc_35_28_0 (x0 : R_api_Interval) (x1 : Option Addr) (x1l x1c : Nat) : LdC Tryd.prog 28 (e_simplify_Run (q_simplify_Run ⟨x0, ⟨x1, x1l, x1c⟩⟩)) 0 (vQ x0.From.P) := ⟨ldv_agg 4 (by kernel_rfl) (by kernel_rfl) (by kernel_rfl)⟩
instance (priority := 20000) rc_35_28_4 (x0 : R_api_Interval) (x1 : Option Addr) (x1l x1c : Nat) : LdC Tryd.prog 28 (e_simplify_Run (q_simplify_Run ⟨x0, ⟨x1, x1l, x1c⟩⟩)) 4 (vQ x0.From.R) := ⟨ldv_agg 4 (by kernel_rfl) (by kernel_rfl) (by kernel_rfl)⟩
instance (priority := 20000) rc_35_4_8 (x0 : R_api_Interval) (x1 : Option Addr) (x1l x1c : Nat) : LdC Tryd.prog 4 (e_simplify_Run (q_simplify_Run ⟨x0, ⟨x1, x1l, x1c⟩⟩)) 8 (.bool x0.From.Neg) := ⟨ldv_one (by kernel_rfl) (by kernel_rfl)⟩
instance (priority := 20000) rc_35_30_9 (x0 : R_api_Interval) (x1 : Option Addr) (x1l x1c : Nat) : LdC Tryd.prog 30 (e_simplify_Run (q_simplify_Run ⟨x0, ⟨x1, x1l, x1c⟩⟩)) 9 (.agg (e_api_Real (q_api_Real x0.To))) := ⟨ldv_agg 9 (by kernel_rfl) (by kernel_rfl) (by kernel_rfl)⟩
instance (priority := 20000) rc_35_28_9 (x0 : R_api_Interval) (x1 : Option Addr) (x1l x1c : Nat) : LdC Tryd.prog 28 (e_simplify_Run (q_simplify_Run ⟨x0, ⟨x1, x1l, x1c⟩⟩)) 9 (vQ x0.To.P) := ⟨ldv_agg 4 (by kernel_rfl) (by kernel_rfl) (by kernel_rfl)⟩
instance (priority := 20000) rc_35_28_13 (x0 : R_api_Interval) (x1 : Option Addr) (x1l x1c : Nat) : LdC Tryd.prog 28 (e_simplify_Run (q_simplify_Run ⟨x0, ⟨x1, x1l, x1c⟩⟩)) 13 (vQ x0.To.R) := ⟨ldv_agg 4 (by kernel_rfl) (by kernel_rfl) (by kernel_rfl)⟩
instance (priority := 20000) rc_35_4_17 (x0 : R_api_Interval) (x1 : Option Addr) (x1l x1c : Nat) : LdC Tryd.prog 4 (e_simplify_Run (q_simplify_Run ⟨x0, ⟨x1, x1l, x1c⟩⟩)) 17 (.bool x0.To.Neg) := ⟨ldv_one (by kernel_rfl) (by kernel_rfl)⟩
instance (priority := 20000) rc_35_4_18 (x0 : R_api_Interval) (x1 : Option Addr) (x1l x1c : Nat) : LdC Tryd.prog 4 (e_simplify_Run (q_simplify_Run ⟨x0, ⟨x1, x1l, x1c⟩⟩)) 18 (.bool x0.OpenFrom) := ⟨ldv_one (by kernel_rfl) (by kernel_rfl)⟩
instance (priority := 20000) rc_35_4_19 (x0 : R_api_Interval) (x1 : Option Addr) (x1l x1c : Nat) : LdC Tryd.prog 4 (e_simplify_Run (q_simplify_Run ⟨x0, ⟨x1, x1l, x1c⟩⟩)) 19 (.bool x0.OpenTo) := ⟨ldv_one (by kernel_rfl) (by kernel_rfl)⟩
instance (priority := 20000) rc_35_33_20 (x0 : R_api_Interval) (x1 : Option Addr) (x1l x1c : Nat) : LdC Tryd.prog 33 (e_simplify_Run (q_simplify_Run ⟨x0, ⟨x1, x1l, x1c⟩⟩)) 20 (.slice x1 x1l x1c) := ⟨ldv_one (by kernel_rfl) (by kernel_rfl)⟩
instance (priority := high) rl_35_35_0 (x : R_simplify_Run) : LdC Tryd.prog 35 (e_simplify_Run (q_simplify_Run x)) 0 (.agg (e_simplify_Run (q_simplify_Run x))) := ⟨ldv_agg 21 (by kernel_rfl) (by kernel_rfl) (by kernel_rfl)⟩
instance (priority := high) rl_35_32_0 (x : R_simplify_Run) : LdC Tryd.prog 32 (e_simplify_Run (q_simplify_Run x)) 0 (.agg (e_api_Interval (q_api_Interval x.In))) := ⟨ldv_agg 20 (by kernel_rfl) (by kernel_rfl) (by kernel_rfl)⟩
instance (priority := high) rl_35_30_0 (x : R_simplify_Run) : LdC Tryd.prog 30 (e_simplify_Run (q_simplify_Run x)) 0 (.agg (e_api_Real (q_api_Real x.In.From))) := ⟨ldv_agg 9 (by kernel_rfl) (by kernel_rfl) (by kernel_rfl)⟩
instance (priority := high) rl_35_28_0 (x : R_simplify_Run) : LdC Tryd.prog 28 (e_simplify_Run (q_simplify_Run x)) 0 (vQ x.In.From.P) := ⟨ldv_agg 4 (by kernel_rfl) (by kernel_rfl) (by kernel_rfl)⟩
instance (priority := high) rl_35_26_0 (x : R_simplify_Run) : LdC Tryd.prog 26 (e_simplify_Run (q_simplify_Run x)) 0 (vI x.In.From.P.num) := ⟨ldv_agg 2 (by kernel_rfl) (by kernel_rfl) (by kernel_rfl)⟩
instance (priority := high) rl_35_26_2 (x : R_simplify_Run) : LdC Tryd.prog 26 (e_simplify_Run (q_simplify_Run x)) 2 (vI ((dn x.In.From.P))) := ⟨ldv_agg 2 (by kernel_rfl) (by kernel_rfl) (by kernel_rfl)⟩
instance (priority := high) rl_35_28_4 (x : R_simplify_Run) : LdC Tryd.prog 28 (e_simplify_Run (q_simplify_Run x)) 4 (vQ x.In.From.R) := ⟨ldv_agg 4 (by kernel_rfl) (by kernel_rfl) (by kernel_rfl)⟩
instance (priority := high) rl_35_26_4 (x : R_simplify_Run) : LdC Tryd.prog 26 (e_simplify_Run (q_simplify_Run x)) 4 (vI x.In.From.R.num) := ⟨ldv_agg 2 (by kernel_rfl) (by kernel_rfl) (by kernel_rfl)⟩
instance (priority := high) rl_35_26_6 (x : R_simplify_Run) : LdC Tryd.prog 26 (e_simplify_Run (q_simplify_Run x)) 6 (vI ((dn x.In.From.R))) := ⟨ldv_agg 2 (by kernel_rfl) (by kernel_rfl) (by kernel_rfl)⟩
instance (priority := high) rl_35_4_8 (x : R_simplify_Run) : LdC Tryd.prog 4 (e_simplify_Run (q_simplify_Run x)) 8 (.bool x.In.From.Neg) := ⟨ldv_one (by kernel_rfl) (by kernel_rfl)⟩
instance (priority := high) rl_35_30_9 (x : R_simplify_Run) : LdC Tryd.prog 30 (e_simplify_Run (q_simplify_Run x)) 9 (.agg (e_api_Real (q_api_Real x.In.To))) := ⟨ldv_agg 9 (by kernel_rfl) (by kernel_rfl) (by kernel_rfl)⟩
instance (priority := high) rl_35_28_9 (x : R_simplify_Run) : LdC Tryd.prog 28 (e_simplify_Run (q_simplify_Run x)) 9 (vQ x.In.To.P) := ⟨ldv_agg 4 (by kernel_rfl) (by kernel_rfl) (by kernel_rfl)⟩
instance (priority := high) rl_35_26_9 (x : R_simplify_Run) : LdC Tryd.prog 26 (e_simplify_Run (q_simplify_Run x)) 9 (vI x.In.To.P.num) := ⟨ldv_agg 2 (by kernel_rfl) (by kernel_rfl) (by kernel_rfl)⟩
instance (priority := high) rl_35_26_11 (x : R_simplify_Run) : LdC Tryd.prog 26 (e_simplify_Run (q_simplify_Run x)) 11 (vI ((dn x.In.To.P))) := ⟨ldv_agg 2 (by kernel_rfl) (by kernel_rfl) (by kernel_rfl)⟩
instance (priority := high) rl_35_28_13 (x : R_simplify_Run) : LdC Tryd.prog 28 (e_simplify_Run (q_simplify_Run x)) 13 (vQ x.In.To.R) := ⟨ldv_agg 4 (by kernel_rfl) (by kernel_rfl) (by kernel_rfl)⟩
instance (priority := high) rl_35_26_13 (x : R_simplify_Run) : LdC Tryd.prog 26 (e_simplify_Run (q_simplify_Run x)) 13 (vI x.In.To.R.num) := ⟨ldv_agg 2 (by kernel_rfl) (by kernel_rfl) (by kernel_rfl)⟩
instance (priority := high) rl_35_26_15 (x : R_simplify_Run) : LdC Tryd.prog 26 (e_simplify_Run (q_simplify_Run x)) 15 (vI ((dn x.In.To.R))) := ⟨ldv_agg 2 (by kernel_rfl) (by kernel_rfl) (by kernel_rfl)⟩
instance (priority := high) rl_35_4_17 (x : R_simplify_Run) : LdC Tryd.prog 4 (e_simplify_Run (q_simplify_Run x)) 17 (.bool x.In.To.Neg) := ⟨ldv_one (by kernel_rfl) (by kernel_rfl)⟩
instance (priority := high) rl_35_4_18 (x : R_simplify_Run) : LdC Tryd.prog 4 (e_simplify_Run (q_simplify_Run x)) 18 (.bool x.In.OpenFrom) := ⟨ldv_one (by kernel_rfl) (by kernel_rfl)⟩
instance (priority := high) rl_35_4_19 (x : R_simplify_Run) : LdC Tryd.prog 4 (e_simplify_Run (q_simplify_Run x)) 19 (.bool x.In.OpenTo) := ⟨ldv_one (by kernel_rfl) (by kernel_rfl)⟩
instance (priority := high) rl_35_33_20 (x : R_simplify_Run) : LdC Tryd.prog 33 (e_simplify_Run (q_simplify_Run x)) 20 (.slice x.Points.a x.Points.len x.Points.cap) := ⟨ldv_one (by kernel_rfl) (by kernel_rfl)⟩
instance (priority := high) rb_35_  : BdC Tryd.prog 35 [] (.agg (e_simplify_Run (q_simplify_Run ⟨zR_api_Interval, ⟨none, 0, 0⟩⟩))) := ⟨fun w => by kernel_rfl⟩
instance (priority := high) rb_35_0 (x0 : R_api_Interval) : BdC Tryd.prog 35 [(0, .agg (e_api_Interval (q_api_Interval x0)))] (.agg (e_simplify_Run (q_simplify_Run ⟨x0, ⟨none, 0, 0⟩⟩))) := ⟨fun w => by kernel_rfl⟩
instance (priority := high) rb_35_0_1 (x0 : R_api_Interval) (x1 : Option Addr) (x1l x1c : Nat) : BdC Tryd.prog 35 [(0, .agg (e_api_Interval (q_api_Interval x0))), (1, .slice x1 x1l x1c)] (.agg (e_simplify_Run (q_simplify_Run ⟨x0, ⟨x1, x1l, x1c⟩⟩))) := ⟨fun w => by kernel_rfl⟩
structure R_api_Point where
  X : Rat
  Y : Rat
  deriving DecidableEq
def q_api_Point (x : R_api_Point) : api_Point := ⟨Q x.X, Q x.Y⟩
def zR_api_Point : R_api_Point := ⟨0, 0⟩
theorem z_q_api_Point : z_api_Point = q_api_Point zR_api_Point := by kernel_rfl
theorem q_api_Point_inj {x y : R_api_Point} : q_api_Point x = q_api_Point y ↔ x = y := by
  cases x; cases y; simp only [q_api_Point, api_Point.mk.injEq, R_api_Point.mk.injEq, Q_inj, I_inj]
instance (priority := high) rz_50 : ZeroC Tryd.prog 50 (.agg (e_api_Point (q_api_Point zR_api_Point))) (e_api_Point (q_api_Point zR_api_Point)) := ⟨by kernel_rfl, rfl⟩
instance (priority := high) rl_50_50_0 (x : R_api_Point) : LdC Tryd.prog 50 (e_api_Point (q_api_Point x)) 0 (.agg (e_api_Point (q_api_Point x))) := ⟨ldv_agg 8 (by kernel_rfl) (by kernel_rfl) (by kernel_rfl)⟩
instance (priority := high) rl_50_28_0 (x : R_api_Point) : LdC Tryd.prog 28 (e_api_Point (q_api_Point x)) 0 (vQ x.X) := ⟨ldv_agg 4 (by kernel_rfl) (by kernel_rfl) (by kernel_rfl)⟩
instance (priority := high) rl_50_26_0 (x : R_api_Point) : LdC Tryd.prog 26 (e_api_Point (q_api_Point x)) 0 (vI x.X.num) := ⟨ldv_agg 2 (by kernel_rfl) (by kernel_rfl) (by kernel_rfl)⟩
instance (priority := high) rl_50_26_2 (x : R_api_Point) : LdC Tryd.prog 26 (e_api_Point (q_api_Point x)) 2 (vI ((dn x.X))) := ⟨ldv_agg 2 (by kernel_rfl) (by kernel_rfl) (by kernel_rfl)⟩
instance (priority := high) rl_50_28_4 (x : R_api_Point) : LdC Tryd.prog 28 (e_api_Point (q_api_Point x)) 4 (vQ x.Y) := ⟨ldv_agg 4 (by kernel_rfl) (by kernel_rfl) (by kernel_rfl)⟩
instance (priority := high) rl_50_26_4 (x : R_api_Point) : LdC Tryd.prog 26 (e_api_Point (q_api_Point x)) 4 (vI x.Y.num) := ⟨ldv_agg 2 (by kernel_rfl) (by kernel_rfl) (by kernel_rfl)⟩
instance (priority := high) rl_50_26_6 (x : R_api_Point) : LdC Tryd.prog 26 (e_api_Point (q_api_Point x)) 6 (vI ((dn x.Y))) := ⟨ldv_agg 2 (by kernel_rfl) (by kernel_rfl) (by kernel_rfl)⟩
instance (priority := high) rb_50_0_1 (x0 : Rat) (x1 : Rat) : BdC Tryd.prog 50 [(0, vQ x0), (1, vQ x1)] (.agg (e_api_Point (q_api_Point ⟨x0, x1⟩))) := ⟨fun w => by kernel_rfl⟩
instance (priority := high) reql_50 (x y : R_api_Point) : BinC Tryd.prog .eql 50 (.agg (e_api_Point (q_api_Point x))) (.agg (e_api_Point (q_api_Point y))) (.bool (decide (x = y))) := by
  have h : decide (q_api_Point x = q_api_Point y) = decide (x = y) := by rw [decide_eq_decide]; exact q_api_Point_inj
  exact h ▸ (inferInstance : BinC Tryd.prog .eql 50 (.agg (e_api_Point (q_api_Point x))) (.agg (e_api_Point (q_api_Point y))) (.bool (decide (q_api_Point x = q_api_Point y))))
instance (priority := high) rneq_50 (x y : R_api_Point) : BinC Tryd.prog .neq 50 (.agg (e_api_Point (q_api_Point x))) (.agg (e_api_Point (q_api_Point y))) (.bool (!decide (x = y))) := by
  have h : decide (q_api_Point x = q_api_Point y) = decide (x = y) := by rw [decide_eq_decide]; exact q_api_Point_inj
  exact h ▸ (inferInstance : BinC Tryd.prog .neq 50 (.agg (e_api_Point (q_api_Point x))) (.agg (e_api_Point (q_api_Point y))) (.bool (!decide (q_api_Point x = q_api_Point y))))
structure R_movingpoint_Sample where
  T : Rat
  P : R_api_Point
  deriving DecidableEq
def q_movingpoint_Sample (x : R_movingpoint_Sample) : movingpoint_Sample := ⟨Q x.T, q_api_Point x.P⟩
def zR_movingpoint_Sample : R_movingpoint_Sample := ⟨0, zR_api_Point⟩
theorem z_q_movingpoint_Sample : z_movingpoint_Sample = q_movingpoint_Sample zR_movingpoint_Sample := by kernel_rfl
theorem q_movingpoint_Sample_inj {x y : R_movingpoint_Sample} : q_movingpoint_Sample x = q_movingpoint_Sample y ↔ x = y := by
  cases x; cases y; simp only [q_movingpoint_Sample, movingpoint_Sample.mk.injEq, R_movingpoint_Sample.mk.injEq, Q_inj, I_inj, q_api_Point_inj]
instance (priority := high) rz_52 : ZeroC Tryd.prog 52 (.agg (e_movingpoint_Sample (q_movingpoint_Sample zR_movingpoint_Sample))) (e_movingpoint_Sample (q_movingpoint_Sample zR_movingpoint_Sample)) := ⟨by kernel_rfl, rfl⟩
instance (priority := high) rl_52_52_0 (x : R_movingpoint_Sample) : LdC Tryd.prog 52 (e_movingpoint_Sample (q_movingpoint_Sample x)) 0 (.agg (e_movingpoint_Sample (q_movingpoint_Sample x))) := ⟨ldv_agg 12 (by kernel_rfl) (by kernel_rfl) (by kernel_rfl)⟩
instance (priority := high) rl_52_28_0 (x : R_movingpoint_Sample) : LdC Tryd.prog 28 (e_movingpoint_Sample (q_movingpoint_Sample x)) 0 (vQ x.T) := ⟨ldv_agg 4 (by kernel_rfl) (by kernel_rfl) (by kernel_rfl)⟩
instance (priority := high) rl_52_26_0 (x : R_movingpoint_Sample) : LdC Tryd.prog 26 (e_movingpoint_Sample (q_movingpoint_Sample x)) 0 (vI x.T.num) := ⟨ldv_agg 2 (by kernel_rfl) (by kernel_rfl) (by kernel_rfl)⟩
instance (priority := high) rl_52_26_2 (x : R_movingpoint_Sample) : LdC Tryd.prog 26 (e_movingpoint_Sample (q_movingpoint_Sample x)) 2 (vI ((dn x.T))) := ⟨ldv_agg 2 (by kernel_rfl) (by kernel_rfl) (by kernel_rfl)⟩
instance (priority := high) rl_52_50_4 (x : R_movingpoint_Sample) : LdC Tryd.prog 50 (e_movingpoint_Sample (q_movingpoint_Sample x)) 4 (.agg (e_api_Point (q_api_Point x.P))) := ⟨ldv_agg 8 (by kernel_rfl) (by kernel_rfl) (by kernel_rfl)⟩
instance (priority := high) rl_52_28_4 (x : R_movingpoint_Sample) : LdC Tryd.prog 28 (e_movingpoint_Sample (q_movingpoint_Sample x)) 4 (vQ x.P.X) := ⟨ldv_agg 4 (by kernel_rfl) (by kernel_rfl) (by kernel_rfl)⟩
instance (priority := high) rl_52_26_4 (x : R_movingpoint_Sample) : LdC Tryd.prog 26 (e_movingpoint_Sample (q_movingpoint_Sample x)) 4 (vI x.P.X.num) := ⟨ldv_agg 2 (by kernel_rfl) (by kernel_rfl) (by kernel_rfl)⟩
instance (priority := high) rl_52_26_6 (x : R_movingpoint_Sample) : LdC Tryd.prog 26 (e_movingpoint_Sample (q_movingpoint_Sample x)) 6 (vI ((dn x.P.X))) := ⟨ldv_agg 2 (by kernel_rfl) (by kernel_rfl) (by kernel_rfl)⟩
instance (priority := high) rl_52_28_8 (x : R_movingpoint_Sample) : LdC Tryd.prog 28 (e_movingpoint_Sample (q_movingpoint_Sample x)) 8 (vQ x.P.Y) := ⟨ldv_agg 4 (by kernel_rfl) (by kernel_rfl) (by kernel_rfl)⟩
instance (priority := high) rl_52_26_8 (x : R_movingpoint_Sample) : LdC Tryd.prog 26 (e_movingpoint_Sample (q_movingpoint_Sample x)) 8 (vI x.P.Y.num) := ⟨ldv_agg 2 (by kernel_rfl) (by kernel_rfl) (by kernel_rfl)⟩
instance (priority := high) rl_52_26_10 (x : R_movingpoint_Sample) : LdC Tryd.prog 26 (e_movingpoint_Sample (q_movingpoint_Sample x)) 10 (vI ((dn x.P.Y))) := ⟨ldv_agg 2 (by kernel_rfl) (by kernel_rfl) (by kernel_rfl)⟩
instance (priority := high) rf_52_1 (x : R_movingpoint_Sample) : FdC Tryd.prog 52 (.agg (e_movingpoint_Sample (q_movingpoint_Sample x))) 1 (.agg (e_api_Point (q_api_Point x.P))) := ⟨fun w => by kernel_rfl⟩
instance (priority := high) rb_52_0_1 (x0 : Rat) (x1 : R_api_Point) : BdC Tryd.prog 52 [(0, vQ x0), (1, .agg (e_api_Point (q_api_Point x1)))] (.agg (e_movingpoint_Sample (q_movingpoint_Sample ⟨x0, x1⟩))) := ⟨fun w => by kernel_rfl⟩
instance (priority := high) reql_52 (x y : R_movingpoint_Sample) : BinC Tryd.prog .eql 52 (.agg (e_movingpoint_Sample (q_movingpoint_Sample x))) (.agg (e_movingpoint_Sample (q_movingpoint_Sample y))) (.bool (decide (x = y))) := by
  have h : decide (q_movingpoint_Sample x = q_movingpoint_Sample y) = decide (x = y) := by rw [decide_eq_decide]; exact q_movingpoint_Sample_inj
  exact h ▸ (inferInstance : BinC Tryd.prog .eql 52 (.agg (e_movingpoint_Sample (q_movingpoint_Sample x))) (.agg (e_movingpoint_Sample (q_movingpoint_Sample y))) (.bool (decide (q_movingpoint_Sample x = q_movingpoint_Sample y))))
instance (priority := high) rneq_52 (x y : R_movingpoint_Sample) : BinC Tryd.prog .neq 52 (.agg (e_movingpoint_Sample (q_movingpoint_Sample x))) (.agg (e_movingpoint_Sample (q_movingpoint_Sample y))) (.bool (!decide (x = y))) := by
  have h : decide (q_movingpoint_Sample x = q_movingpoint_Sample y) = decide (x = y) := by rw [decide_eq_decide]; exact q_movingpoint_Sample_inj
  exact h ▸ (inferInstance : BinC Tryd.prog .neq 52 (.agg (e_movingpoint_Sample (q_movingpoint_Sample x))) (.agg (e_movingpoint_Sample (q_movingpoint_Sample y))) (.bool (!decide (q_movingpoint_Sample x = q_movingpoint_Sample y))))
structure R_api_Line where
  X0 : Rat
  X1 : Rat
  Y0 : Rat
  Y1 : Rat
  deriving DecidableEq
def q_api_Line (x : R_api_Line) : api_Line := ⟨Q x.X0, Q x.X1, Q x.Y0, Q x.Y1⟩
def zR_api_Line : R_api_Line := ⟨0, 0, 0, 0⟩
theorem z_q_api_Line : z_api_Line = q_api_Line zR_api_Line := by kernel_rfl
theorem q_api_Line_inj {x y : R_api_Line} : q_api_Line x = q_api_Line y ↔ x = y := by
  cases x; cases y; simp only [q_api_Line, api_Line.mk.injEq, R_api_Line.mk.injEq, Q_inj, I_inj]
instance (priority := high) rz_97 : ZeroC Tryd.prog 97 (.agg (e_api_Line (q_api_Line zR_api_Line))) (e_api_Line (q_api_Line zR_api_Line)) := ⟨by kernel_rfl, rfl⟩
instance (priority := high) rl_97_97_0 (x : R_api_Line) : LdC Tryd.prog 97 (e_api_Line (q_api_Line x)) 0 (.agg (e_api_Line (q_api_Line x))) := ⟨ldv_agg 16 (by kernel_rfl) (by kernel_rfl) (by kernel_rfl)⟩
instance (priority := high) rl_97_28_0 (x : R_api_Line) : LdC Tryd.prog 28 (e_api_Line (q_api_Line x)) 0 (vQ x.X0) := ⟨ldv_agg 4 (by kernel_rfl) (by kernel_rfl) (by kernel_rfl)⟩
instance (priority := high) rl_97_26_0 (x : R_api_Line) : LdC Tryd.prog 26 (e_api_Line (q_api_Line x)) 0 (vI x.X0.num) := ⟨ldv_agg 2 (by kernel_rfl) (by kernel_rfl) (by kernel_rfl)⟩
instance (priority := high) rl_97_26_2 (x : R_api_Line) : LdC Tryd.prog 26 (e_api_Line (q_api_Line x)) 2 (vI ((dn x.X0))) := ⟨ldv_agg 2 (by kernel_rfl) (by kernel_rfl) (by kernel_rfl)⟩
instance (priority := high) rl_97_28_4 (x : R_api_Line) : LdC Tryd.prog 28 (e_api_Line (q_api_Line x)) 4 (vQ x.X1) := ⟨ldv_agg 4 (by kernel_rfl) (by kernel_rfl) (by kernel_rfl)⟩
instance (priority := high) rl_97_26_4 (x : R_api_Line) : LdC Tryd.prog 26 (e_api_Line (q_api_Line x)) 4 (vI x.X1.num) := ⟨ldv_agg 2 (by kernel_rfl) (by kernel_rfl) (by kernel_rfl)⟩
instance (priority := high) rl_97_26_6 (x : R_api_Line) : LdC Tryd.prog 26 (e_api_Line (q_api_Line x)) 6 (vI ((dn x.X1))) := ⟨ldv_agg 2 (by kernel_rfl) (by kernel_rfl) (by kernel_rfl)⟩
instance (priority := high) rl_97_28_8 (x : R_api_Line) : LdC Tryd.prog 28 (e_api_Line (q_api_Line x)) 8 (vQ x.Y0) := ⟨ldv_agg 4 (by kernel_rfl) (by kernel_rfl) (by kernel_rfl)⟩
instance (priority := high) rl_97_26_8 (x : R_api_Line) : LdC Tryd.prog 26 (e_api_Line (q_api_Line x)) 8 (vI x.Y0.num) := ⟨ldv_agg 2 (by kernel_rfl) (by kernel_rfl) (by kernel_rfl)⟩
instance (priority := high) rl_97_26_10 (x : R_api_Line) : LdC Tryd.prog 26 (e_api_Line (q_api_Line x)) 10 (vI ((dn x.Y0))) := ⟨ldv_agg 2 (by kernel_rfl) (by kernel_rfl) (by kernel_rfl)⟩
instance (priority := high) rl_97_28_12 (x : R_api_Line) : LdC Tryd.prog 28 (e_api_Line (q_api_Line x)) 12 (vQ x.Y1) := ⟨ldv_agg 4 (by kernel_rfl) (by kernel_rfl) (by kernel_rfl)⟩
instance (priority := high) rl_97_26_12 (x : R_api_Line) : LdC Tryd.prog 26 (e_api_Line (q_api_Line x)) 12 (vI x.Y1.num) := ⟨ldv_agg 2 (by kernel_rfl) (by kernel_rfl) (by kernel_rfl)⟩
instance (priority := high) rl_97_26_14 (x : R_api_Line) : LdC Tryd.prog 26 (e_api_Line (q_api_Line x)) 14 (vI ((dn x.Y1))) := ⟨ldv_agg 2 (by kernel_rfl) (by kernel_rfl) (by kernel_rfl)⟩
instance (priority := high) rb_97_0_1_2_3 (x0 : Rat) (x1 : Rat) (x2 : Rat) (x3 : Rat) : BdC Tryd.prog 97 [(0, vQ x0), (1, vQ x1), (2, vQ x2), (3, vQ x3)] (.agg (e_api_Line (q_api_Line ⟨x0, x1, x2, x3⟩))) := ⟨fun w => by kernel_rfl⟩
structure R_api_Quad where
  C0 : Rat
  C1 : Rat
  C2 : Rat
  deriving DecidableEq
def q_api_Quad (x : R_api_Quad) : api_Quad := ⟨Q x.C0, Q x.C1, Q x.C2⟩
def zR_api_Quad : R_api_Quad := ⟨0, 0, 0⟩
theorem z_q_api_Quad : z_api_Quad = q_api_Quad zR_api_Quad := by kernel_rfl
theorem q_api_Quad_inj {x y : R_api_Quad} : q_api_Quad x = q_api_Quad y ↔ x = y := by
  cases x; cases y; simp only [q_api_Quad, api_Quad.mk.injEq, R_api_Quad.mk.injEq, Q_inj, I_inj]
instance (priority := high) rz_122 : ZeroC Tryd.prog 122 (.agg (e_api_Quad (q_api_Quad zR_api_Quad))) (e_api_Quad (q_api_Quad zR_api_Quad)) := ⟨by kernel_rfl, rfl⟩
instance (priority := high) rl_122_122_0 (x : R_api_Quad) : LdC Tryd.prog 122 (e_api_Quad (q_api_Quad x)) 0 (.agg (e_api_Quad (q_api_Quad x))) := ⟨ldv_agg 12 (by kernel_rfl) (by kernel_rfl) (by kernel_rfl)⟩
instance (priority := high) rl_122_28_0 (x : R_api_Quad) : LdC Tryd.prog 28 (e_api_Quad (q_api_Quad x)) 0 (vQ x.C0) := ⟨ldv_agg 4 (by kernel_rfl) (by kernel_rfl) (by kernel_rfl)⟩
instance (priority := high) rl_122_26_0 (x : R_api_Quad) : LdC Tryd.prog 26 (e_api_Quad (q_api_Quad x)) 0 (vI x.C0.num) := ⟨ldv_agg 2 (by kernel_rfl) (by kernel_rfl) (by kernel_rfl)⟩
instance (priority := high) rl_122_26_2 (x : R_api_Quad) : LdC Tryd.prog 26 (e_api_Quad (q_api_Quad x)) 2 (vI ((dn x.C0))) := ⟨ldv_agg 2 (by kernel_rfl) (by kernel_rfl) (by kernel_rfl)⟩
instance (priority := high) rl_122_28_4 (x : R_api_Quad) : LdC Tryd.prog 28 (e_api_Quad (q_api_Quad x)) 4 (vQ x.C1) := ⟨ldv_agg 4 (by kernel_rfl) (by kernel_rfl) (by kernel_rfl)⟩
instance (priority := high) rl_122_26_4 (x : R_api_Quad) : LdC Tryd.prog 26 (e_api_Quad (q_api_Quad x)) 4 (vI x.C1.num) := ⟨ldv_agg 2 (by kernel_rfl) (by kernel_rfl) (by kernel_rfl)⟩
instance (priority := high) rl_122_26_6 (x : R_api_Quad) : LdC Tryd.prog 26 (e_api_Quad (q_api_Quad x)) 6 (vI ((dn x.C1))) := ⟨ldv_agg 2 (by kernel_rfl) (by kernel_rfl) (by kernel_rfl)⟩
instance (priority := high) rl_122_28_8 (x : R_api_Quad) : LdC Tryd.prog 28 (e_api_Quad (q_api_Quad x)) 8 (vQ x.C2) := ⟨ldv_agg 4 (by kernel_rfl) (by kernel_rfl) (by kernel_rfl)⟩
instance (priority := high) rl_122_26_8 (x : R_api_Quad) : LdC Tryd.prog 26 (e_api_Quad (q_api_Quad x)) 8 (vI x.C2.num) := ⟨ldv_agg 2 (by kernel_rfl) (by kernel_rfl) (by kernel_rfl)⟩
instance (priority := high) rl_122_26_10 (x : R_api_Quad) : LdC Tryd.prog 26 (e_api_Quad (q_api_Quad x)) 10 (vI ((dn x.C2))) := ⟨ldv_agg 2 (by kernel_rfl) (by kernel_rfl) (by kernel_rfl)⟩
instance (priority := high) rb_122_  : BdC Tryd.prog 122 [] (.agg (e_api_Quad (q_api_Quad ⟨0, 0, 0⟩))) := ⟨fun w => by kernel_rfl⟩
instance (priority := high) rb_122_0_1 (x0 : Rat) (x1 : Rat) : BdC Tryd.prog 122 [(0, vQ x0), (1, vQ x1)] (.agg (e_api_Quad (q_api_Quad ⟨x0, x1, 0⟩))) := ⟨fun w => by kernel_rfl⟩
structure R_api_Segment where
  A : R_api_Point
  B : R_api_Point
  deriving DecidableEq
def q_api_Segment (x : R_api_Segment) : api_Segment := ⟨q_api_Point x.A, q_api_Point x.B⟩
def zR_api_Segment : R_api_Segment := ⟨zR_api_Point, zR_api_Point⟩
theorem z_q_api_Segment : z_api_Segment = q_api_Segment zR_api_Segment := by kernel_rfl
theorem q_api_Segment_inj {x y : R_api_Segment} : q_api_Segment x = q_api_Segment y ↔ x = y := by
  cases x; cases y; simp only [q_api_Segment, api_Segment.mk.injEq, R_api_Segment.mk.injEq, Q_inj, I_inj, q_api_Point_inj, q_api_Point_inj]
instance (priority := high) rl_132_50_0 (x : R_api_Segment) : LdC Tryd.prog 50 (e_api_Segment (q_api_Segment x)) 0 (.agg (e_api_Point (q_api_Point x.A))) := ⟨ldv_agg 8 (by kernel_rfl) (by kernel_rfl) (by kernel_rfl)⟩
instance (priority := high) rl_132_28_0 (x : R_api_Segment) : LdC Tryd.prog 28 (e_api_Segment (q_api_Segment x)) 0 (vQ x.A.X) := ⟨ldv_agg 4 (by kernel_rfl) (by kernel_rfl) (by kernel_rfl)⟩
instance (priority := high) rl_132_26_0 (x : R_api_Segment) : LdC Tryd.prog 26 (e_api_Segment (q_api_Segment x)) 0 (vI x.A.X.num) := ⟨ldv_agg 2 (by kernel_rfl) (by kernel_rfl) (by kernel_rfl)⟩
instance (priority := high) rl_132_26_2 (x : R_api_Segment) : LdC Tryd.prog 26 (e_api_Segment (q_api_Segment x)) 2 (vI ((dn x.A.X))) := ⟨ldv_agg 2 (by kernel_rfl) (by kernel_rfl) (by kernel_rfl)⟩
instance (priority := high) rl_132_28_4 (x : R_api_Segment) : LdC Tryd.prog 28 (e_api_Segment (q_api_Segment x)) 4 (vQ x.A.Y) := ⟨ldv_agg 4 (by kernel_rfl) (by kernel_rfl) (by kernel_rfl)⟩
instance (priority := high) rl_132_26_4 (x : R_api_Segment) : LdC Tryd.prog 26 (e_api_Segment (q_api_Segment x)) 4 (vI x.A.Y.num) := ⟨ldv_agg 2 (by kernel_rfl) (by kernel_rfl) (by kernel_rfl)⟩
instance (priority := high) rl_132_26_6 (x : R_api_Segment) : LdC Tryd.prog 26 (e_api_Segment (q_api_Segment x)) 6 (vI ((dn x.A.Y))) := ⟨ldv_agg 2 (by kernel_rfl) (by kernel_rfl) (by kernel_rfl)⟩
instance (priority := high) rl_132_50_8 (x : R_api_Segment) : LdC Tryd.prog 50 (e_api_Segment (q_api_Segment x)) 8 (.agg (e_api_Point (q_api_Point x.B))) := ⟨ldv_agg 8 (by kernel_rfl) (by kernel_rfl) (by kernel_rfl)⟩
instance (priority := high) rl_132_28_8 (x : R_api_Segment) : LdC Tryd.prog 28 (e_api_Segment (q_api_Segment x)) 8 (vQ x.B.X) := ⟨ldv_agg 4 (by kernel_rfl) (by kernel_rfl) (by kernel_rfl)⟩
instance (priority := high) rl_132_26_8 (x : R_api_Segment) : LdC Tryd.prog 26 (e_api_Segment (q_api_Segment x)) 8 (vI x.B.X.num) := ⟨ldv_agg 2 (by kernel_rfl) (by kernel_rfl) (by kernel_rfl)⟩
instance (priority := high) rl_132_26_10 (x : R_api_Segment) : LdC Tryd.prog 26 (e_api_Segment (q_api_Segment x)) 10 (vI ((dn x.B.X))) := ⟨ldv_agg 2 (by kernel_rfl) (by kernel_rfl) (by kernel_rfl)⟩
instance (priority := high) rl_132_28_12 (x : R_api_Segment) : LdC Tryd.prog 28 (e_api_Segment (q_api_Segment x)) 12 (vQ x.B.Y) := ⟨ldv_agg 4 (by kernel_rfl) (by kernel_rfl) (by kernel_rfl)⟩
instance (priority := high) rl_132_26_12 (x : R_api_Segment) : LdC Tryd.prog 26 (e_api_Segment (q_api_Segment x)) 12 (vI x.B.Y.num) := ⟨ldv_agg 2 (by kernel_rfl) (by kernel_rfl) (by kernel_rfl)⟩
instance (priority := high) rl_132_26_14 (x : R_api_Segment) : LdC Tryd.prog 26 (e_api_Segment (q_api_Segment x)) 14 (vI ((dn x.B.Y))) := ⟨ldv_agg 2 (by kernel_rfl) (by kernel_rfl) (by kernel_rfl)⟩
instance (priority := high) rb_132_0_1 (x0 : R_api_Point) (x1 : R_api_Point) : BdC Tryd.prog 132 [(0, .agg (e_api_Point (q_api_Point x0))), (1, .agg (e_api_Point (q_api_Point x1)))] (.agg (e_api_Segment (q_api_Segment ⟨x0, x1⟩))) := ⟨fun w => by kernel_rfl⟩
instance (priority := high) rneq_26 (a b : Int) : BinC Tryd.prog .neq 26 (vI a) (vI b) (.bool (!decide (a = b))) := by
  have h : decide (I a = I b) = decide (a = b) := by rw [decide_eq_decide]; exact I_inj
  exact h ▸ (inferInstance : BinC Tryd.prog .neq 26 (vI a) (vI b) (.bool (!decide (I a = I b))))
instance (priority := high) rneq_28 (a b : Rat) : BinC Tryd.prog .neq 28 (vQ a) (vQ b) (.bool (!decide (a = b))) := by
  have h : decide (Q a = Q b) = decide (a = b) := by rw [decide_eq_decide]; exact Q_inj
  exact h ▸ (inferInstance : BinC Tryd.prog .neq 28 (vQ a) (vQ b) (.bool (!decide (Q a = Q b))))
end Go.Vt
