/- Slices that came in, wherever they lie, under the program logic. Conditions: those that each rule names. -/
import Derived.Test.YtgcjapcminakdaaDoorLogicL
set_option linter.unusedSimpArgs false
set_option linter.unusedVariables false
set_option linter.unusedSectionVars false
namespace Go.Vt
open Go.RowKit

/-- At place 'o' of block 'b' lies a row. -/
class RowC (w0 : World) (L : List Blk) (b o : Nat) (α : outParam Type) (enc : outParam (α → Array Value)) (xs : outParam (List α)) : Prop where
  out : ∀ w, Own w0 L w → ∃ cs T fz, w.heap[b]? = some (.cells cs T fz) ∧ ∀ (i f k : Nat) (u : Value) (hi : i < xs.length), (∀ x, (enc x).size = k) → (enc xs[i])[f]? = some u → cs[o + i * k + f]? = some u ∧ o + xs.length * k ≤ cs.size
/-- A slice that came in. -/
structure ArgS {α : Type} (w0 : World) (v : Value) (enc : α → Array Value) (xs : List α) : Prop where
  out : (v = .slice none 0 0 ∧ xs = []) ∨ ∃ (a : Addr) (c : Nat), v = .slice (some a) xs.length c ∧ xs.length ≤ c ∧ ∀ (i f k : Nat) (u : Value) (hi : i < xs.length), (∀ x, (enc x).size = k) → (enc xs[i])[f]? = some u → w0.cell? (a.add (i * k + f)) = some u
class ArgC (w0 : World) (v : Value) (α : outParam Type) (enc : outParam (α → Array Value)) (xs : outParam (List α)) : Prop where
  out : ArgS w0 v enc xs
theorem cell_some {w : World} {a : Addr} {v : Value} (h : w.cell? a = some v) : a = ⟨a.block, a.off, none⟩ ∧ ∃ cs T fz, w.heap[a.block]? = some (.cells cs T fz) ∧ cs[a.off]? = some v := by
  unfold World.cell? at h
  split at h
  · rename_i c T fz hb
    split at h
    · cases h
    · rename_i hs
      obtain ⟨b, o, s⟩ := a
      cases s with
      | none => exact ⟨rfl, c, T, fz, hb, h⟩
      | some s => exact absurd rfl hs
  · cases h
/-- A slice that is not empty: its block. -/
theorem ArgS.blk {α : Type} {w0 : World} {v : Value} {enc : α → Array Value} {xs : List α} {k : Nat} [he : EncC enc (k + 1)] (h : ArgS w0 v enc xs) (hne : xs ≠ []) (L : List Blk) : ∃ b o c, v = .slice (some ⟨b, o, none⟩) xs.length c ∧ xs.length ≤ c ∧ RowC w0 L b o α enc xs := by
  rcases h.out with ⟨_, h0⟩ | ⟨a, c, hv, hc, hcell⟩
  · exact absurd h0 hne
  have hlen : 0 < xs.length := List.length_pos_iff.2 hne
  have hfirst : ∃ u, (enc xs[0])[0]? = some u := by
    have := he.size xs[0]
    exact ⟨(enc xs[0])[0]'(by omega), by simp⟩
  obtain ⟨u, hu⟩ := hfirst
  have h0 := hcell 0 0 (k + 1) u hlen he.size hu
  rw [Nat.zero_mul, Nat.add_zero] at h0
  have ha : a.add 0 = a := by simp [Addr.add]
  rw [ha] at h0
  obtain ⟨hae, cs, T, fz, hb, _⟩ := cell_some h0
  obtain ⟨b, o, s⟩ := a
  simp only [Addr.mk.injEq, true_and] at hae
  subst hae
  refine ⟨b, o, c, hv, hc, ⟨fun w hw => ⟨cs, T, fz, by rw [hw.ext.block b (lt_of_block hb)]; exact hb, fun i f k' u hi hk hu => ?_⟩⟩⟩
  have h1 := hcell i f k' u hi hk hu
  rw [addr_add, cell_block hb] at h1
  refine ⟨by rw [Nat.add_assoc]; exact h1, ?_⟩
  have hkk : k' = k + 1 := by rw [← hk xs[0], he.size xs[0]]
  subst hkk
  have hl : xs.length - 1 < xs.length := by omega
  obtain ⟨u2, hu2⟩ : ∃ u, (enc xs[xs.length - 1])[k]? = some u := ⟨(enc xs[xs.length - 1])[k]'(by rw [he.size]; omega), by simp⟩
  have h2 := hcell (xs.length - 1) k (k + 1) u2 hl he.size hu2
  rw [addr_add, cell_block hb] at h2
  have h3 : o + ((xs.length - 1) * (k + 1) + k) < cs.size := by
    rcases Nat.lt_or_ge (o + ((xs.length - 1) * (k + 1) + k)) cs.size with h | h
    · exact h
    · rw [Array.getElem?_eq_none h] at h2; cases h2
  have h4 : xs.length * (k + 1) = (xs.length - 1) * (k + 1) + (k + 1) := by
    rw [← Nat.succ_mul]
    congr 1
    omega
  omega

section
variable {P : Program} {w0 : World} {n : Nat} {ops : Array Oper} {L : List Blk} {E : Env} {v : Value} {x : Operand} {T : TypeId}
variable {α : Type} [Inhabited α] {enc : α → Array Value} {k b o f : Nat} {xs : List α} {i : Int}
theorem yl_rowG [he : EncC enc k] [h : RowC w0 L b o α enc xs] {d : Option Tmp} {ty : TypeId} {pos : String} {aft : Array Edge} {gd : Option (Nat × Bool)} (hk : 0 < k) (hx : Env.ev E x = some (.pointer (some ⟨b, o + i.toNat * k + f, none⟩))) (hi : i.toNat < xs.length) (hv : LdV P T (enc (gi xs i)) f v) : Yl P w0 n L E ⟨d, .load T x, ty, pos, aft, gd⟩ v :=
  yl_run (fun _ => loadVar T ⟨b, o + i.toNat * k + f, none⟩) (fun a ha => by
    simp only [execOp, ha.ev hx, Instr.loadAt, Instr.sureAddr]
    rfl) (fun a w _ hw => by
      obtain ⟨cs, T0, fz, hb, hc⟩ := h.out w hw
      rw [gi_eq hi] at hv
      refine run_loadVar hb ?_
      have hsz := he.size xs[i.toNat]
      have hle := Nat.mul_le_mul_right k (show i.toNat + 1 ≤ xs.length from hi)
      rw [Nat.add_mul, Nat.one_mul] at hle
      rcases hv with ⟨m, ha, hs, rfl⟩ | ⟨ho, hv⟩
      · have hbig := (hc i.toNat 0 k _ hi he.size (show (enc xs[i.toNat])[0]? = some ((enc xs[i.toNat])[0]'(by omega)) by simp)).2
        refine .inl ⟨m, ha, by omega, ?_⟩
        congr 1
        apply Array.ext_getElem?
        intro j
        rw [Array.getElem?_extract, Array.getElem?_extract]
        by_cases hj : j < m
        · rw [if_pos (by omega), if_pos (by omega)]
          have hfj : f + j < (enc xs[i.toNat]).size := by omega
          have := (hc i.toNat (f + j) k _ hi he.size (show (enc xs[i.toNat])[f + j]? = some ((enc xs[i.toNat])[f + j]'hfj) by simp)).1
          rw [show o + i.toNat * k + f + j = o + i.toNat * k + (f + j) by omega, this]
          simp
        · rw [if_neg (by omega), if_neg (by omega)]
      · exact .inr ⟨ho, (hc i.toNat f k v hi he.size hv).1⟩)
instance (priority := low) ys_rowG0 [IsC (evl E x) (.pointer (some ⟨b, o + i.toNat * k, none⟩))] [h : RowC w0 L b o α enc xs] [he : EncC enc k] [hv : LdC P T (enc (gi xs i)) 0 v] : YsC P w0 n L E (.load T x) v (0 < k ∧ i.toNat < xs.length) := ⟨fun hi _ _ _ _ _ => yl_rowG (f := 0) (k := k) hi.1 (by rw [Nat.add_zero]; exact isE) hi.2 hv.out⟩
instance (priority := low) ys_rowGF [IsC (evl E x) (.pointer (some ⟨b, o + i.toNat * k + f, none⟩))] [h : RowC w0 L b o α enc xs] [he : EncC enc k] [hv : LdC P T (enc (gi xs i)) f v] : YsC P w0 n L E (.load T x) v (0 < k ∧ i.toNat < xs.length) := ⟨fun hi _ _ _ _ _ => yl_rowG hi.1 isE hi.2 hv.out⟩
instance (priority := low) ys_remk {kd : IntKind} {T' : TypeId} {y : Operand} {a c : Int} [hx : IsC (evl E x) (.int kd a)] [hy : IsC (evl E y) (.int kd c)] : YsC P w0 n L E (.binOp .rem T x y T') (.int kd (a % c)) (0 ≤ a ∧ 1 ≤ c) := ⟨fun h _ _ _ _ _ => yl_arith isE isE fun w => by rw [run_rem _ _ (by omega), IntWalk.rem_in _ _ h.1]⟩
end
end Go.Vt
