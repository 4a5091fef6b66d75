/-
  DERIVED. GIVEN WITH THE SEED: THE CARDS: each row of YtgiclhkoajbgpaaDoorRows.lean that lists a variable, with what it lists TIED to the program's text (the seventh form; the later family's looks); each row that meets fmt, with fmt's text TOLD by the authors' own Lean function (tested against real Go, not proved from fmt's source: count such statements apart). THE CARD IS WHAT COUNTS. Prove the row's statement (the work); the ties are given (YtgiclhkoajbgpaaDoorTie.lean); close each card by the builder's one call (the guide's Derived/Test/ToyasCard.lean, 'card_holds'). Laid BY PROGRAM, IN A SANDBOX (cutbox-door.mjs). By AI agents, Wed Nov 11 2026. No macro, syntax, notation, axiom, sorry.
-/
import Derived.Test.YtgiclhkoajbgpaaDoorRows
import GoSem.ClaimSeven
namespace Go.Proofs.YtgiclhkoajbgpaaDoor
namespace Rows

/-- THE TIED CARD OF 'bywashlaw09.CalendarDates'. -/
def calendarDatesCard : Claim7 := { stood := { row := calendarDatesRow, standIns := [], harness := (true, "a6f49b968160ea60ed86f24bf2d81c6b1ccde68d33aaa2ef3ac7170ae2d8b29c"), looks := true }, kinds := [], alts := [], laidByText := true, laidKinds := [.data, .data, .data, .data], laidTests := true, laidLooks := .later }
def CalendarDatesCardSaid : Prop := Claim7.holds Tryd.pinned (.plain (OpenSpec.ofChange calendarDatesSpec)) calendarDatesCard

/-- THE TIED CARD OF 'bywashlaw09.CalendarMinutes'. -/
def calendarMinutesCard : Claim7 := { stood := { row := calendarMinutesRow, standIns := [], harness := (true, "a6f49b968160ea60ed86f24bf2d81c6b1ccde68d33aaa2ef3ac7170ae2d8b29c"), looks := true }, kinds := [], alts := [], laidByText := true, laidKinds := [.data, .data, .data, .data], laidTests := true, laidLooks := .later }
def CalendarMinutesCardSaid : Prop := Claim7.holds Tryd.pinned (.plain (OpenSpec.ofChange calendarMinutesSpec)) calendarMinutesCard

/-- THE TIED CARD OF 'bywashlaw09.CalendarMonths'. -/
def calendarMonthsCard : Claim7 := { stood := { row := calendarMonthsRow, standIns := [], harness := (true, "a6f49b968160ea60ed86f24bf2d81c6b1ccde68d33aaa2ef3ac7170ae2d8b29c"), looks := true }, kinds := [], alts := [], laidByText := true, laidKinds := [.data, .data, .data, .data], laidTests := true, laidLooks := .later }
def CalendarMonthsCardSaid : Prop := Claim7.holds Tryd.pinned (.plain (OpenSpec.ofChange calendarMonthsSpec)) calendarMonthsCard

/-- THE TIED CARD OF 'bywashlaw10.CronParses'. -/
def cronParsesCard : Claim7 := { stood := { row := cronParsesRow, standIns := [], harness := (true, "a6f49b968160ea60ed86f24bf2d81c6b1ccde68d33aaa2ef3ac7170ae2d8b29c"), looks := true }, kinds := [], alts := [], laidByText := true, laidKinds := [.data, .data, .data, .pinned], laidTests := true, laidLooks := .later }
def CronParsesCardSaid : Prop := Claim7.holds Tryd.pinned (.plain (OpenSpec.ofChange cronParsesSpec)) cronParsesCard

/-- THE TIED CARD OF 'bywashlaw10.CronMatches'. -/
def cronMatchesCard : Claim7 := { stood := { row := cronMatchesRow, standIns := [], harness := (true, "a6f49b968160ea60ed86f24bf2d81c6b1ccde68d33aaa2ef3ac7170ae2d8b29c"), looks := true }, kinds := [], alts := [], laidByText := true, laidKinds := [.data, .data, .data, .pinned], laidTests := true, laidLooks := .later }
def CronMatchesCardSaid : Prop := Claim7.holds Tryd.pinned (.plain (OpenSpec.ofChange cronMatchesSpec)) cronMatchesCard

/-- THE TIED CARD OF 'bywashlaw10.CronNext'. -/
def cronNextCard : Claim7 := { stood := { row := cronNextRow, standIns := [], harness := (true, "a6f49b968160ea60ed86f24bf2d81c6b1ccde68d33aaa2ef3ac7170ae2d8b29c"), looks := true }, kinds := [], alts := [], laidByText := true, laidKinds := [.data, .data, .data, .pinned], laidTests := true, laidLooks := .later }
def CronNextCardSaid : Prop := Claim7.holds Tryd.pinned (.plain (OpenSpec.ofChange cronNextSpec)) cronNextCard

/-- THE TIED CARD OF 'bywashlaw10.CronBetween'. -/
def cronBetweenCard : Claim7 := { stood := { row := cronBetweenRow, standIns := [], harness := (true, "a6f49b968160ea60ed86f24bf2d81c6b1ccde68d33aaa2ef3ac7170ae2d8b29c"), looks := true }, kinds := [], alts := [], laidByText := true, laidKinds := [.data, .data, .data, .pinned], laidTests := true, laidLooks := .later }
def CronBetweenCardSaid : Prop := Claim7.holds Tryd.pinned (.plain (OpenSpec.ofChange cronBetweenSpec)) cronBetweenCard

/-- THE TIED CARD OF 'bywashlaw10.CronParts'. -/
def cronPartsCard : Claim7 := { stood := { row := cronPartsRow, standIns := [], harness := (true, "a6f49b968160ea60ed86f24bf2d81c6b1ccde68d33aaa2ef3ac7170ae2d8b29c"), looks := true }, kinds := [], alts := [], laidByText := true, laidKinds := [.data, .data, .data, .pinned], laidTests := true, laidLooks := .later }
def CronPartsCardSaid : Prop := Claim7.holds Tryd.pinned (.plain (OpenSpec.ofChange cronPartsSpec)) cronPartsCard

/-- THE TIED CARD OF 'bywashlaw09.CalendarParses'. -/
def calendarParsesCard : Claim7 := { stood := { row := calendarParsesRow, standIns := [], harness := (true, "a6f49b968160ea60ed86f24bf2d81c6b1ccde68d33aaa2ef3ac7170ae2d8b29c"), looks := true }, kinds := [], alts := [], laidByText := true, laidKinds := [.data, .data, .data, .sentinel, .sentinel, .data], laidTests := true, laidLooks := .later }
def CalendarParsesCardSaid : Prop := Claim7.holds Tryd.pinned (.plain (OpenSpec.ofChange calendarParsesSpec)) calendarParsesCard

/-- THE TIED CARD OF 'bywashlaw10.CronShows'. -/
def cronShowsCard : Claim7 := { stood := { row := cronShowsRow, standIns := [], harness := (true, "a6f49b968160ea60ed86f24bf2d81c6b1ccde68d33aaa2ef3ac7170ae2d8b29c"), looks := true }, kinds := [], alts := [], laidByText := true, laidKinds := [.data, .data, .data, .data, .data, .data, .pinned], laidTests := true, laidLooks := .later }
def CronShowsCardSaid : Prop := Claim7.holds Tryd.pinned (.plain (OpenSpec.ofChange cronShowsSpec)) cronShowsCard

/-- THE SECOND FORM's CARD OF 'bywashlaw09.CalendarDates'. -/
def calendarDatesUptoCard : Claim7 := { stood := { row := calendarDatesUptoRow, standIns := [], harness := (true, "a6f49b968160ea60ed86f24bf2d81c6b1ccde68d33aaa2ef3ac7170ae2d8b29c"), looks := true }, kinds := [], alts := [], laidByText := true, laidKinds := [.data, .data, .data, .data], laidTests := true, laidLooks := .later }
def CalendarDatesUptoCardSaid : Prop := Claim7.holds Tryd.pinned (.plain (OpenSpec.upto calendarDatesSpec)) calendarDatesUptoCard

/-- THE SECOND FORM's CARD OF 'bywashlaw09.CalendarMinutes'. -/
def calendarMinutesUptoCard : Claim7 := { stood := { row := calendarMinutesUptoRow, standIns := [], harness := (true, "a6f49b968160ea60ed86f24bf2d81c6b1ccde68d33aaa2ef3ac7170ae2d8b29c"), looks := true }, kinds := [], alts := [], laidByText := true, laidKinds := [.data, .data, .data, .data], laidTests := true, laidLooks := .later }
def CalendarMinutesUptoCardSaid : Prop := Claim7.holds Tryd.pinned (.plain (OpenSpec.upto calendarMinutesSpec)) calendarMinutesUptoCard

/-- THE SECOND FORM's CARD OF 'bywashlaw09.CalendarMonths'. -/
def calendarMonthsUptoCard : Claim7 := { stood := { row := calendarMonthsUptoRow, standIns := [], harness := (true, "a6f49b968160ea60ed86f24bf2d81c6b1ccde68d33aaa2ef3ac7170ae2d8b29c"), looks := true }, kinds := [], alts := [], laidByText := true, laidKinds := [.data, .data, .data, .data], laidTests := true, laidLooks := .later }
def CalendarMonthsUptoCardSaid : Prop := Claim7.holds Tryd.pinned (.plain (OpenSpec.upto calendarMonthsSpec)) calendarMonthsUptoCard

/-- THE SECOND FORM's CARD OF 'bywashlaw10.CronParses'. -/
def cronParsesUptoCard : Claim7 := { stood := { row := cronParsesUptoRow, standIns := [], harness := (true, "a6f49b968160ea60ed86f24bf2d81c6b1ccde68d33aaa2ef3ac7170ae2d8b29c"), looks := true }, kinds := [], alts := [], laidByText := true, laidKinds := [.data, .data, .data, .pinned], laidTests := true, laidLooks := .later }
def CronParsesUptoCardSaid : Prop := Claim7.holds Tryd.pinned (.plain (OpenSpec.upto cronParsesSpec)) cronParsesUptoCard

/-- THE SECOND FORM's CARD OF 'bywashlaw10.CronMatches'. -/
def cronMatchesUptoCard : Claim7 := { stood := { row := cronMatchesUptoRow, standIns := [], harness := (true, "a6f49b968160ea60ed86f24bf2d81c6b1ccde68d33aaa2ef3ac7170ae2d8b29c"), looks := true }, kinds := [], alts := [], laidByText := true, laidKinds := [.data, .data, .data, .pinned], laidTests := true, laidLooks := .later }
def CronMatchesUptoCardSaid : Prop := Claim7.holds Tryd.pinned (.plain (OpenSpec.upto cronMatchesSpec)) cronMatchesUptoCard

/-- THE SECOND FORM's CARD OF 'bywashlaw10.CronNext'. -/
def cronNextUptoCard : Claim7 := { stood := { row := cronNextUptoRow, standIns := [], harness := (true, "a6f49b968160ea60ed86f24bf2d81c6b1ccde68d33aaa2ef3ac7170ae2d8b29c"), looks := true }, kinds := [], alts := [], laidByText := true, laidKinds := [.data, .data, .data, .pinned], laidTests := true, laidLooks := .later }
def CronNextUptoCardSaid : Prop := Claim7.holds Tryd.pinned (.plain (OpenSpec.upto cronNextSpec)) cronNextUptoCard

/-- THE SECOND FORM's CARD OF 'bywashlaw10.CronBetween'. -/
def cronBetweenUptoCard : Claim7 := { stood := { row := cronBetweenUptoRow, standIns := [], harness := (true, "a6f49b968160ea60ed86f24bf2d81c6b1ccde68d33aaa2ef3ac7170ae2d8b29c"), looks := true }, kinds := [], alts := [], laidByText := true, laidKinds := [.data, .data, .data, .pinned], laidTests := true, laidLooks := .later }
def CronBetweenUptoCardSaid : Prop := Claim7.holds Tryd.pinned (.plain (OpenSpec.upto cronBetweenSpec)) cronBetweenUptoCard

/-- THE SECOND FORM's CARD OF 'bywashlaw10.CronParts'. -/
def cronPartsUptoCard : Claim7 := { stood := { row := cronPartsUptoRow, standIns := [], harness := (true, "a6f49b968160ea60ed86f24bf2d81c6b1ccde68d33aaa2ef3ac7170ae2d8b29c"), looks := true }, kinds := [], alts := [], laidByText := true, laidKinds := [.data, .data, .data, .pinned], laidTests := true, laidLooks := .later }
def CronPartsUptoCardSaid : Prop := Claim7.holds Tryd.pinned (.plain (OpenSpec.upto cronPartsSpec)) cronPartsUptoCard

/-- THE SECOND FORM's CARD OF 'bywashlaw09.CalendarParses'. -/
def calendarParsesUptoCard : Claim7 := { stood := { row := calendarParsesUptoRow, standIns := [], harness := (true, "a6f49b968160ea60ed86f24bf2d81c6b1ccde68d33aaa2ef3ac7170ae2d8b29c"), looks := true }, kinds := [], alts := [], laidByText := true, laidKinds := [.data, .data, .data, .sentinel, .sentinel, .data], laidTests := true, laidLooks := .later }
def CalendarParsesUptoCardSaid : Prop := Claim7.holds Tryd.pinned (.plain (OpenSpec.upto calendarParsesSpec)) calendarParsesUptoCard

/-- THE SECOND FORM's CARD OF 'bywashlaw10.CronShows'. -/
def cronShowsUptoCard : Claim7 := { stood := { row := cronShowsUptoRow, standIns := [], harness := (true, "a6f49b968160ea60ed86f24bf2d81c6b1ccde68d33aaa2ef3ac7170ae2d8b29c"), looks := true }, kinds := [], alts := [], laidByText := true, laidKinds := [.data, .data, .data, .data, .data, .data, .pinned], laidTests := true, laidLooks := .later }
def CronShowsUptoCardSaid : Prop := Claim7.holds Tryd.pinned (.plain (OpenSpec.upto cronShowsSpec)) cronShowsUptoCard
end Rows
end Go.Proofs.YtgiclhkoajbgpaaDoor
