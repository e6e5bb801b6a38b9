/- The contract of package desc's Read: every way. -/
import Derived.Test.YtojcojghnhibmaaDoorDescK
namespace Go.Proofs.YtojcojghnhibmaaDoor
open Go.RowKit

theorem read_any (t c b who : Int) (hw1 : -9223372036854775808 ≤ who) (hw2 : who ≤ 9223372036854775807) (l : List Wd) (v : Value) (hok : ∀ a ∈ l, WdOk a) (w : World) (hs : Szs w) (hv : Sl w 3 wdE v l) :
    Calls Tryd.prog 14 #[.agg #[.int .i64 t, .int .i64 c, .int .i64 b], v, .int .i64 who] w fun y w' => ReadPost w t c b l who y w' := by
  by_cases hbad : (checkN t c b ≠ 0 ∨ (l.length : Int) < sizeN t c b) ∨ (placeN t c b who).2 = 0
  · refine (read_early t c b who hw1 hw2 l v w hs hv hbad).mono ?_
    rintro y w' ⟨rfl, h, hr⟩
    exact ⟨hr, by rw [h]⟩
  · have h1 : checkN t c b = 0 := by
      by_cases h : checkN t c b = 0
      · exact h
      · exact absurd (.inl (.inl h)) hbad
    have h2 : ¬ (l.length : Int) < sizeN t c b := fun h => hbad (.inl (.inr h))
    have h3 : (placeN t c b who).2 ≠ 0 := fun h => hbad (.inr h)
    have hroom := place_room h3
    have hp1 := place_bd t c b who
    obtain ⟨⟨s1, s2, s3⟩, hsx⟩ : ∃ s, l[(placeN t c b who).1.toNat]? = some s := ⟨_, List.getElem?_eq_getElem (by omega)⟩
    obtain ⟨⟨n1, n2, n3⟩, hnx⟩ : ∃ s, l[(placeN t c b who).1.toNat + 1]? = some s := ⟨_, List.getElem?_eq_getElem (by omega)⟩
    by_cases hhd : headB (s1, s2, s3) (n1, n2, n3) (placeN t c b who).2 = true
    · exact read_good t c b who hw1 hw2 l v w hs hv hok h1 h2 h3 s1 s2 s3 n1 n2 n3 hsx hnx hhd
    · exact read_bad t c b who hw1 hw2 l v w hs hv hok h1 h2 h3 s1 s2 s3 n1 n2 n3 hsx hnx hhd

end Go.Proofs.YtojcojghnhibmaaDoor
