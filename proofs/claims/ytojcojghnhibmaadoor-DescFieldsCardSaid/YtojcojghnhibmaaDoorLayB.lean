/- Walks of package layout's inner functions: long, from. -/
import Derived.Test.YtojcojghnhibmaaDoorLayA
namespace Go.Proofs.YtojcojghnhibmaaDoor
open Go.RowKit

/-- Plain: the table of sizes. -/
def szN : Nat → Int
  | 0 => 8
  | 1 => 8
  | 2 => 8
  | 3 => 1
  | 4 => 104
  | 5 => 0
  | 6 => 32
  | _ => 0

/-- The table lies in memory. -/
def Szs (w : World) : Prop := ∀ i : Nat, i < 7 → w.cell? ⟨0, i, none⟩ = some (.int .i64 (szN i))

def Lok (t c b : Int) : Prop := 1 ≤ t ∧ t ≤ 8 ∧ 1 ≤ c ∧ c ≤ 2048 ∧ 0 ≤ b ∧ b ≤ 64

def upN (n : Int) : Int := (n + 7) / 8 * 8
def longN (t c b : Int) (p : Nat) : Int := if p = 5 then (if 0 < b then 8 else 0) else upN (manyN t c b p * szN p)

theorem many_bd {t c b : Int} (hk : Lok t c b) (p : Nat) : 0 ≤ manyN t c b p * szN p ∧ manyN t c b p * szN p ≤ 3000 := by
  obtain ⟨h1, h2, h3, h4, h5, h6⟩ := hk
  match p with
  | 0 => simp [manyN, szN]
  | 1 => simp only [manyN, szN]; omega
  | 2 => simp only [manyN, szN]; omega
  | 3 => simp only [manyN, szN]; omega
  | 4 => simp only [manyN, szN]; omega
  | 5 => simp only [manyN, szN]; omega
  | 6 => simp only [manyN, szN]; omega
  | _ + 7 => simp [manyN, szN]

theorem sz_zero {p : Nat} (hp : p < 7) (h : szN p = 0) : p = 5 := by
  match p, hp with
  | 0, _ => simp [szN] at h
  | 1, _ => simp [szN] at h
  | 2, _ => simp [szN] at h
  | 3, _ => simp [szN] at h
  | 4, _ => simp [szN] at h
  | 5, _ => rfl
  | 6, _ => simp [szN] at h

theorem long_else (t c b : Int) {p : Nat} (h : ¬ szN p = 0) : longN t c b p = (manyN t c b p * szN p + 7) / 8 * 8 := by
  have : p ≠ 5 := by rintro rfl; simp [szN] at h
  simp [longN, this, upN]

set_option maxHeartbeats 400000 in
theorem long_any (t c b : Int) (p : Nat) (hp : p < 7) (w : World) (hk : Lok t c b) (hs : Szs w) :
    Calls Tryd.prog 51 #[.agg #[.int .i64 t, .int .i64 c, .int .i64 b], .int .i64 p] w fun e w' => e = .returned (.int .i64 (longN t c b p)) ∧ ∃ r, w' = ext w r := by
  have hc := hs p hp
  have h0 := World.block_lt_of_cell? w _ hc
  simp only [] at h0
  have hp' : (p : Int) < 7 := by omega
  have hb := many_bd hk p
  obtain ⟨hb1, hb2⟩ := hb
  clear hs
  go_enter Tryd.func51, Tryd.ntmps51
  go_wp2
  refine region_ext (by kernel_rfl) (by kernel_rfl) ?_
  repeat (go_big_quiet_step ((go_at_call 50; exact quiet_ext (many_any t c b p hp _))))
  refine wpQuiet_nil ?_
  rintro _ ⟨r, rfl⟩
  go_wp2_with (go_at_call 50; refine (many_any t c b p hp _).mono ?_; rintro e w' ⟨rfl, r', rfl⟩)
  · obtain rfl := sz_zero hp (by assumption)
    have h1 : 0 < manyN t c b 5 := by assumption
    go_ret
    exact ⟨ret_int (by simp only [manyN] at h1; simp [longN, h1]), by (show Ext _ _; repeat (first | with_reducible (refine Hid.out ?_; assumption) | with_reducible exact Ext.refl _ | with_reducible refine Ext.ext ?_ _ | with_reducible refine Ext.alloc ?_ _ | refine Ext.drew ?_ | refine Ext.drewN ?_ _ | exact Ext.refl _))⟩
  · obtain rfl := sz_zero hp (by assumption)
    have h1 : manyN t c b 5 ≤ 0 := by assumption
    go_ret
    exact ⟨ret_int (by simp only [manyN] at h1; simp [longN, show ¬ 0 < b by omega]), by (show Ext _ _; repeat (first | with_reducible (refine Hid.out ?_; assumption) | with_reducible exact Ext.refl _ | with_reducible refine Ext.ext ?_ _ | with_reducible refine Ext.alloc ?_ _ | refine Ext.drew ?_ | refine Ext.drewN ?_ _ | exact Ext.refl _))⟩
  · go_ret
    exact ⟨ret_int (by rw [long_else t c b (by assumption)]; omega), by (show Ext _ _; repeat (first | with_reducible (refine Hid.out ?_; assumption) | with_reducible exact Ext.refl _ | with_reducible refine Ext.ext ?_ _ | with_reducible refine Ext.alloc ?_ _ | refine Ext.drew ?_ | refine Ext.drewN ?_ _ | exact Ext.refl _))⟩

end Go.Proofs.YtojcojghnhibmaaDoor
