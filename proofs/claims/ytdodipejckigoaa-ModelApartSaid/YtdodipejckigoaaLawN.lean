/- The walk of the example: awake. -/
import Derived.Test.YtdodipejckigoaaLawM
namespace Go.Proofs.Ytdodipejckigoaa
open Go.RowKit

def awkW : List Wd := [(5, 0, 0), (6, 0, 0), (7, 0, 0)]
def awkE : List En := [⟨0, 5, 0, 0, 1, true⟩, ⟨2, 7, 0, 0, 7, false⟩]
def awkR : List Wd := [(1, 1, 0), (6, 0, 0), (7, 0, 0)]
theorem awk_new : newL awkW = awkW := by decide
theorem awk_swap : swapN awkW awkE = (awkR, true, 0) := by decide
theorem awk_again : swapN awkR awkE = (awkR, false, 0) := by decide
theorem awk_is : eqB awkR awkR = true := by decide
theorem awk_ok : ∀ e ∈ awkE, EnOk e := by
  intro e he
  simp only [awkE, List.mem_cons, List.not_mem_nil, or_false] at he
  rcases he with rfl | rfl <;> constructor <;> decide

/-- A literal slice of words, of entries. -/
theorem lit_words {w : World} {cs : Array Value} {l : List Wd} (n : Nat) (hn : n = l.length) (hm : n ≤ 1000) (hc : cs.toList = l.flatMap wdE) (hs : cs.size = n * 3) {k : Nat} (hk : k = w.heap.size) : Wsl (w.alloc (.cells cs 43)) (.slice (some ⟨k, 0, none⟩) n n) l := by
  subst hk
  exact Sl.of_own wdE_len (Own.made cs l n hn (Nat.le_refl _) (by unfold maxLen; omega) hc hs)
theorem lit_entries {w : World} {cs : Array Value} {l : List En} (n : Nat) (hn : n = l.length) (hm : n ≤ 1000) (hc : cs.toList = l.flatMap enE) (hs : cs.size = n * 6) {k : Nat} (hk : k = w.heap.size) : Es (w.alloc (.cells cs 50)) (.slice (some ⟨k, 0, none⟩) n n) l := by
  subst hk
  exact Sl.of_own (e := 50) enE_len (Own.made cs l n hn (Nat.le_refl _) (by unfold maxLen; omega) hc hs)

set_option maxHeartbeats 2000000 in
theorem awake_any (w : World) :
    Calls Try.prog 9 #[] w fun y w' => y = .returned (.bool true) ∧ ∃ r, w' = ext w r := by
  go_enter Try.func9, Try.ntmps9
  go_wp2_with fail
  go_call (new_any awkW _ _ (by decide) (lit_words 3 rfl (by omega) rfl rfl rfl)) as y w' ⟨v1, rfl, ⟨r1, rfl⟩, hv1⟩
  rw [awk_new] at hv1
  obtain ⟨a1, c1, hsh⟩ := Own.shape hv1
  subst hsh
  have HM := hid (Sl.of_own wdE_len hv1)
  clear hv1
  have HE := hid (show Ext w (ext (w.alloc (.cells #[.int .i64 5, .int .u32 0, .int .u32 0, .int .i64 6, .int .u32 0, .int .u32 0, .int .i64 7, .int .u32 0, .int .u32 0] 43)) r1) by (show Ext _ _; repeat (first | with_reducible exact Ext.refl _ | with_reducible refine Ext.ext ?_ _ | with_reducible refine Ext.alloc ?_ _ | refine Ext.drew ?_ | refine Ext.drewN ?_ _ | exact Ext.refl _)))
  generalize ext (w.alloc (.cells #[.int .i64 5, .int .u32 0, .int .u32 0, .int .i64 6, .int .u32 0, .int .u32 0, .int .i64 7, .int .u32 0, .int .u32 0] 43)) r1 = W at *
  go_wp2_with fail
  have HS := hid (show Es ((W.alloc (.cells #[.slice a1 awkW.length c1] 27)).alloc (.cells #[.int .i64 0, .int .i64 5, .int .u32 0, .int .u32 0, .int .i64 1, .bool true, .int .i64 2, .int .i64 7, .int .u32 0, .int .u32 0, .int .i64 7, .bool false] 50)) (.slice (some ⟨W.heap.size + 1, 0, none⟩) 2 2) awkE from lit_entries 2 rfl (by omega) rfl rfl (by simp))
  go_call (swap_any awkW awkE _ _ _ (by decide) awk_ok (HM.out.of wdE_len (by (show Ext _ _; repeat (first | with_reducible exact Ext.refl _ | with_reducible refine Ext.ext ?_ _ | with_reducible refine Ext.alloc ?_ _ | refine Ext.drew ?_ | refine Ext.drewN ?_ _ | exact Ext.refl _)))) HS.out) as y w' ⟨v2, rfl, ⟨r2, rfl⟩, hv2⟩
  rw [awk_swap] at hv2 ⊢
  have HM2 := hid hv2
  obtain ⟨a2, c2, rfl, _, _⟩ := hv2
  go_wp2_with fail
  go_call (swap_any awkR awkE _ _ _ (by decide) awk_ok (HM2.out.of wdE_len (by (show Ext _ _; repeat (first | with_reducible exact Ext.refl _ | with_reducible refine Ext.ext ?_ _ | with_reducible refine Ext.alloc ?_ _ | refine Ext.drew ?_ | refine Ext.drewN ?_ _ | exact Ext.refl _)))) (HS.out.of enE_len (by (show Ext _ _; repeat (first | with_reducible exact Ext.refl _ | with_reducible refine Ext.ext ?_ _ | with_reducible refine Ext.alloc ?_ _ | refine Ext.drew ?_ | refine Ext.drewN ?_ _ | exact Ext.refl _))))) as y w' ⟨v3, rfl, ⟨r3, rfl⟩, hv3⟩
  rw [awk_again] at hv3 ⊢
  obtain ⟨a3, c3, rfl, _, _⟩ := hv3
  go_wp2_with fail
  go_call (is_any awkR awkR _ _ _ (by decide) (HM2.out.of wdE_len (by (show Ext _ _; repeat (first | with_reducible exact Ext.refl _ | with_reducible refine Ext.ext ?_ _ | with_reducible refine Ext.alloc ?_ _ | refine Ext.drew ?_ | refine Ext.drewN ?_ _ | exact Ext.refl _)))) (lit_words 3 rfl (by omega) rfl rfl (by simp [go_sem]))) as y w' ⟨rfl, r4, rfl⟩
  rw [awk_is]
  go_wp2_with fail
  go_ret
  exact ⟨rfl, HE.out.trans (by (show Ext _ _; repeat (first | with_reducible exact Ext.refl _ | with_reducible refine Ext.ext ?_ _ | with_reducible refine Ext.alloc ?_ _ | refine Ext.drew ?_ | refine Ext.drewN ?_ _ | exact Ext.refl _)))⟩

end Go.Proofs.Ytdodipejckigoaa
