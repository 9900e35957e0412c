/- Chapter 6: PeriodFollows, whatever the calendar and the year. -/
import Derived.Test.YtalpdodajcdibaaDoorPLaw5
namespace Go.Proofs.YtalpdodajcdibaaDoor
open Go.RowKit

theorem follows_walk (c : Wb.Cal) (y : Int) (w : World) (hw : LenC w) (hp : LenP w) (ht : Tab10 w) :
    Calls Tryd.prog 8 #[CalV c, .int .i64 y] w fun e w' => e = .returned (.bool true) ∧ Wb.Ext w w' := by
  by_cases hc : Wb.calErr c = 0
  · by_cases hy : y < 1900 ∨ 2199 < y
    · exact follows_no c y 2 (year_range c y hc hy) (by decide) w hw hp ht
    · exact follows_ok c y hc (by omega) (by omega) w hw hp ht
  · exact follows_no c y _ (year_no c y hc) (by simpa using hc) w hw hp ht

end Go.Proofs.YtalpdodajcdibaaDoor
