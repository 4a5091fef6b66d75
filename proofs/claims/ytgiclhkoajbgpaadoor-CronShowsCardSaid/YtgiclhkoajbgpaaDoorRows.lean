/-
  NARROWER THAN 'FOR EVERY INPUT', by the rows' own cells (each row's printed sentence says how): CalendarDates: laid · CalendarMinutes: laid · CalendarMonths: laid · CronParses: laid · CronMatches: laid · CronNext: laid · CronBetween: laid · CronParts: laid · CalendarParses: laid · CronShows: laid.
  DERIVED. THE GIVEN ROWS OF THIS SEAT. 10 by the template 'for every input the law returns true; each argument reads behind the call as it read before'; 0 by the template 'total and deterministic' (their statements: YtgiclhkoajbgpaaDoorTotals.lean).
  GIVEN WITH THE SEED: the statements are not yours to turn. If you find one false, say at which input.
  Laid BY PROGRAM, IN A SANDBOX (cutbox-rows.mjs): the forced cells as the released guide's own fill.sh prints them over the translation 8c6d1237be911576… (all of the seat's roots in one cut). By AI agents, Wed Nov 11 2026. No macro, syntax, notation, axiom, sorry.
-/
import Derived.Test.YtgiclhkoajbgpaaDoorChecked
import GoSem.PinnedTables
import GoSem.Claim
import GoSem.ClaimJoined
import GoSem.ClaimMapViews
import Derived.JoinedTies
import Derived.KernelRfl
namespace Go.Proofs.YtgiclhkoajbgpaaDoor
/- THE CELL 'sum', in the pinned program and in every row, IS THE sha256 OF THE DUMP (.gsa) THAT YtgiclhkoajbgpaaDoorProg.lean LOADS. Nothing in Lean hashes anything: it is a label: what it is worth is what the hold of that sum in a sandbox is worth. -/
noncomputable def Tryd.pinned : Pinned := { name := "ytgiclhkoajbgpaadoor", sum := "8c6d1237be911576e250c31126ccf655a91e25d49f51952833440daff2b7ee6f", checked := Tryd.checked }
namespace Rows
def none {H : Type} : Left H := { results := [], args := [] }

/- WHAT THE LISTED PACKAGE-LEVEL VARIABLES READ AS WHEN THE CALL BEGINS. Each datum BY PROGRAM (the guide's laid-datum.mjs) off the statement by which the dump's own 'gosem.cut.vars' lays the variable. In a bare row this is a premise. The card (YtgiclhkoajbgpaaDoorCards.lean) ties it to the program's text. -/
def laid_math_bits_deBruijn32tab {H : Type} : DataW H := .agg [.lit (.int .u8 0), .lit (.int .u8 1), .lit (.int .u8 28), .lit (.int .u8 2), .lit (.int .u8 29), .lit (.int .u8 14), .lit (.int .u8 24), .lit (.int .u8 3), .lit (.int .u8 30), .lit (.int .u8 22), .lit (.int .u8 20), .lit (.int .u8 15), .lit (.int .u8 25), .lit (.int .u8 17), .lit (.int .u8 4), .lit (.int .u8 8), .lit (.int .u8 31), .lit (.int .u8 27), .lit (.int .u8 13), .lit (.int .u8 23), .lit (.int .u8 21), .lit (.int .u8 19), .lit (.int .u8 16), .lit (.int .u8 7), .lit (.int .u8 26), .lit (.int .u8 12), .lit (.int .u8 18), .lit (.int .u8 6), .lit (.int .u8 11), .lit (.int .u8 5), .lit (.int .u8 10), .lit (.int .u8 9)]
def laid_math_bits_deBruijn64tab {H : Type} : DataW H := .agg [.lit (.int .u8 0), .lit (.int .u8 1), .lit (.int .u8 56), .lit (.int .u8 2), .lit (.int .u8 57), .lit (.int .u8 49), .lit (.int .u8 28), .lit (.int .u8 3), .lit (.int .u8 61), .lit (.int .u8 58), .lit (.int .u8 42), .lit (.int .u8 50), .lit (.int .u8 38), .lit (.int .u8 29), .lit (.int .u8 17), .lit (.int .u8 4), .lit (.int .u8 62), .lit (.int .u8 47), .lit (.int .u8 59), .lit (.int .u8 36), .lit (.int .u8 45), .lit (.int .u8 43), .lit (.int .u8 51), .lit (.int .u8 22), .lit (.int .u8 53), .lit (.int .u8 39), .lit (.int .u8 33), .lit (.int .u8 30), .lit (.int .u8 24), .lit (.int .u8 18), .lit (.int .u8 12), .lit (.int .u8 5), .lit (.int .u8 63), .lit (.int .u8 55), .lit (.int .u8 48), .lit (.int .u8 27), .lit (.int .u8 60), .lit (.int .u8 41), .lit (.int .u8 37), .lit (.int .u8 16), .lit (.int .u8 46), .lit (.int .u8 35), .lit (.int .u8 44), .lit (.int .u8 21), .lit (.int .u8 52), .lit (.int .u8 32), .lit (.int .u8 23), .lit (.int .u8 11), .lit (.int .u8 54), .lit (.int .u8 26), .lit (.int .u8 40), .lit (.int .u8 15), .lit (.int .u8 34), .lit (.int .u8 20), .lit (.int .u8 31), .lit (.int .u8 10), .lit (.int .u8 25), .lit (.int .u8 14), .lit (.int .u8 19), .lit (.int .u8 9), .lit (.int .u8 13), .lit (.int .u8 8), .lit (.int .u8 7), .lit (.int .u8 6)]
def laid_internal_strconv_uint64pow10 {H : Type} : DataW H := .agg [.lit (.int .u64 1), .lit (.int .u64 10), .lit (.int .u64 100), .lit (.int .u64 1000), .lit (.int .u64 10000), .lit (.int .u64 100000), .lit (.int .u64 1000000), .lit (.int .u64 10000000), .lit (.int .u64 100000000), .lit (.int .u64 1000000000), .lit (.int .u64 10000000000), .lit (.int .u64 100000000000), .lit (.int .u64 1000000000000), .lit (.int .u64 10000000000000), .lit (.int .u64 100000000000000), .lit (.int .u64 1000000000000000), .lit (.int .u64 10000000000000000), .lit (.int .u64 100000000000000000), .lit (.int .u64 1000000000000000000), .lit (.int .u64 10000000000000000000)]
def laid_bywash_calendar_lengths {H : Type} : DataW H := .agg [.lit (.int .i64 0), .lit (.int .i64 31), .lit (.int .i64 28), .lit (.int .i64 31), .lit (.int .i64 30), .lit (.int .i64 31), .lit (.int .i64 30), .lit (.int .i64 31), .lit (.int .i64 31), .lit (.int .i64 30), .lit (.int .i64 31), .lit (.int .i64 30), .lit (.int .i64 31)]
def laid_unicode_utf8_acceptRanges {H : Type} : DataW H := .agg [.agg [.lit (.int .u8 128), .lit (.int .u8 191)], .agg [.lit (.int .u8 160), .lit (.int .u8 191)], .agg [.lit (.int .u8 128), .lit (.int .u8 159)], .agg [.lit (.int .u8 144), .lit (.int .u8 191)], .agg [.lit (.int .u8 128), .lit (.int .u8 143)], .agg [.lit (.int .u8 0), .lit (.int .u8 0)], .agg [.lit (.int .u8 0), .lit (.int .u8 0)], .agg [.lit (.int .u8 0), .lit (.int .u8 0)], .agg [.lit (.int .u8 0), .lit (.int .u8 0)], .agg [.lit (.int .u8 0), .lit (.int .u8 0)], .agg [.lit (.int .u8 0), .lit (.int .u8 0)], .agg [.lit (.int .u8 0), .lit (.int .u8 0)], .agg [.lit (.int .u8 0), .lit (.int .u8 0)], .agg [.lit (.int .u8 0), .lit (.int .u8 0)], .agg [.lit (.int .u8 0), .lit (.int .u8 0)], .agg [.lit (.int .u8 0), .lit (.int .u8 0)]]
def laid_bywash_cron_bounds {H : Type} : DataW H := .agg [.agg [.lit (.int .i64 0), .lit (.int .i64 59)], .agg [.lit (.int .i64 0), .lit (.int .i64 23)], .agg [.lit (.int .i64 1), .lit (.int .i64 31)], .agg [.lit (.int .i64 1), .lit (.int .i64 12)], .agg [.lit (.int .i64 0), .lit (.int .i64 6)]]
/-- One of Go's own tables, pinned by name: the form's constant. -/
def laid_unicode_utf8_first : DataW Unit := Go.Pinned.utf8First
def laid_strconv_ErrRange {H : Type} : DataW H := .iface "*errors.errorString" (.ptr (.agg [.lit (.string [118, 97, 108, 117, 101, 32, 111, 117, 116, 32, 111, 102, 32, 114, 97, 110, 103, 101])]))
def laid_strconv_ErrSyntax {H : Type} : DataW H := .iface "*errors.errorString" (.ptr (.agg [.lit (.string [105, 110, 118, 97, 108, 105, 100, 32, 115, 121, 110, 116, 97, 120])]))

/-- 'bywashlaw09.CalendarDates': WHATEVER THE INPUT: true; the input reads as it did. -/
def calendarDatesSpec : ChangeSpec := { name := "calendarDates", fn := fun _ => fun
  | [d] => { results := [.lit (.bool true)], args := [d] }
  | _ => none }
def calendarDatesRow : OpenClaim := { program := "ytgiclhkoajbgpaadoor", sum := "8c6d1237be911576e250c31126ccf655a91e25d49f51952833440daff2b7ee6f", func := "bywash/bywashlaw09.CalendarDates", spec := "calendarDates", named := ["bywash/calendar.lengths", "internal/strconv.uint64pow10", "math/bits.deBruijn32tab", "math/bits.deBruijn64tab"], apart := false, laid := [("math/bits.deBruijn32tab", laid_math_bits_deBruijn32tab), ("math/bits.deBruijn64tab", laid_math_bits_deBruijn64tab), ("internal/strconv.uint64pow10", laid_internal_strconv_uint64pow10), ("bywash/calendar.lengths", laid_bywash_calendar_lengths)] }
def CalendarDatesSaid : Prop := calendarDatesRow.holds Tryd.pinned (OpenSpec.ofChange calendarDatesSpec)

/-- ITS FALSE NEIGHBOUR: 'it returns false'. Refute it at one input. -/
def calendarDatesWrong : ChangeSpec := { name := "calendarDates", fn := fun _ => fun
  | [d] => { results := [.lit (.bool false)], args := [d] }
  | _ => none }
def CalendarDatesWrongFalsely : Prop := calendarDatesRow.holds Tryd.pinned (OpenSpec.ofChange calendarDatesWrong)

/-- 'bywashlaw09.CalendarMinutes': WHATEVER THE INPUT: true; the input reads as it did. -/
def calendarMinutesSpec : ChangeSpec := { name := "calendarMinutes", fn := fun _ => fun
  | [d] => { results := [.lit (.bool true)], args := [d] }
  | _ => none }
def calendarMinutesRow : OpenClaim := { program := "ytgiclhkoajbgpaadoor", sum := "8c6d1237be911576e250c31126ccf655a91e25d49f51952833440daff2b7ee6f", func := "bywash/bywashlaw09.CalendarMinutes", spec := "calendarMinutes", named := ["bywash/calendar.lengths", "internal/strconv.uint64pow10", "math/bits.deBruijn32tab", "math/bits.deBruijn64tab"], apart := false, laid := [("math/bits.deBruijn32tab", laid_math_bits_deBruijn32tab), ("math/bits.deBruijn64tab", laid_math_bits_deBruijn64tab), ("internal/strconv.uint64pow10", laid_internal_strconv_uint64pow10), ("bywash/calendar.lengths", laid_bywash_calendar_lengths)] }
def CalendarMinutesSaid : Prop := calendarMinutesRow.holds Tryd.pinned (OpenSpec.ofChange calendarMinutesSpec)

/-- ITS FALSE NEIGHBOUR: 'it returns false'. Refute it at one input. -/
def calendarMinutesWrong : ChangeSpec := { name := "calendarMinutes", fn := fun _ => fun
  | [d] => { results := [.lit (.bool false)], args := [d] }
  | _ => none }
def CalendarMinutesWrongFalsely : Prop := calendarMinutesRow.holds Tryd.pinned (OpenSpec.ofChange calendarMinutesWrong)

/-- 'bywashlaw09.CalendarMonths': WHATEVER THE INPUT: true; the input reads as it did. -/
def calendarMonthsSpec : ChangeSpec := { name := "calendarMonths", fn := fun _ => fun
  | [d] => { results := [.lit (.bool true)], args := [d] }
  | _ => none }
def calendarMonthsRow : OpenClaim := { program := "ytgiclhkoajbgpaadoor", sum := "8c6d1237be911576e250c31126ccf655a91e25d49f51952833440daff2b7ee6f", func := "bywash/bywashlaw09.CalendarMonths", spec := "calendarMonths", named := ["bywash/calendar.lengths", "internal/strconv.uint64pow10", "math/bits.deBruijn32tab", "math/bits.deBruijn64tab"], apart := false, laid := [("math/bits.deBruijn32tab", laid_math_bits_deBruijn32tab), ("math/bits.deBruijn64tab", laid_math_bits_deBruijn64tab), ("internal/strconv.uint64pow10", laid_internal_strconv_uint64pow10), ("bywash/calendar.lengths", laid_bywash_calendar_lengths)] }
def CalendarMonthsSaid : Prop := calendarMonthsRow.holds Tryd.pinned (OpenSpec.ofChange calendarMonthsSpec)

/-- ITS FALSE NEIGHBOUR: 'it returns false'. Refute it at one input. -/
def calendarMonthsWrong : ChangeSpec := { name := "calendarMonths", fn := fun _ => fun
  | [d] => { results := [.lit (.bool false)], args := [d] }
  | _ => none }
def CalendarMonthsWrongFalsely : Prop := calendarMonthsRow.holds Tryd.pinned (OpenSpec.ofChange calendarMonthsWrong)

/-- 'bywashlaw10.CronParses': WHATEVER THE INPUT: true; the input reads as it did. -/
def cronParsesSpec : ChangeSpec := { name := "cronParses", fn := fun _ => fun
  | [d] => { results := [.lit (.bool true)], args := [d] }
  | _ => none }
def cronParsesRow : OpenClaim := { program := "ytgiclhkoajbgpaadoor", sum := "8c6d1237be911576e250c31126ccf655a91e25d49f51952833440daff2b7ee6f", func := "bywash/bywashlaw10.CronParses", spec := "cronParses", inPlace := ["internal/bytealg.IndexByteString", "internal/bytealg.IndexString"], unfollowed := true, recurses := true, named := ["unicode/utf8.first", "unicode/utf8.acceptRanges", "internal/bytealg.MaxLen", "bywash/cron.bounds", "bywash/calendar.lengths"], apart := false, laid := [("unicode/utf8.acceptRanges", laid_unicode_utf8_acceptRanges), ("bywash/calendar.lengths", laid_bywash_calendar_lengths), ("bywash/cron.bounds", laid_bywash_cron_bounds), ("unicode/utf8.first", laid_unicode_utf8_first)] }
def CronParsesSaid : Prop := cronParsesRow.holds Tryd.pinned (OpenSpec.ofChange cronParsesSpec)

/-- ITS FALSE NEIGHBOUR: 'it returns false'. Refute it at one input. -/
def cronParsesWrong : ChangeSpec := { name := "cronParses", fn := fun _ => fun
  | [d] => { results := [.lit (.bool false)], args := [d] }
  | _ => none }
def CronParsesWrongFalsely : Prop := cronParsesRow.holds Tryd.pinned (OpenSpec.ofChange cronParsesWrong)

/-- 'bywashlaw10.CronMatches': WHATEVER THE INPUT: true; the input reads as it did. -/
def cronMatchesSpec : ChangeSpec := { name := "cronMatches", fn := fun _ => fun
  | [d1, d2] => { results := [.lit (.bool true)], args := [d1, d2] }
  | _ => none }
def cronMatchesRow : OpenClaim := { program := "ytgiclhkoajbgpaadoor", sum := "8c6d1237be911576e250c31126ccf655a91e25d49f51952833440daff2b7ee6f", func := "bywash/bywashlaw10.CronMatches", spec := "cronMatches", inPlace := ["internal/bytealg.IndexByteString", "internal/bytealg.IndexString"], unfollowed := true, recurses := true, named := ["bywash/calendar.lengths", "bywash/cron.bounds", "unicode/utf8.first", "unicode/utf8.acceptRanges", "internal/bytealg.MaxLen"], apart := false, laid := [("unicode/utf8.acceptRanges", laid_unicode_utf8_acceptRanges), ("bywash/calendar.lengths", laid_bywash_calendar_lengths), ("bywash/cron.bounds", laid_bywash_cron_bounds), ("unicode/utf8.first", laid_unicode_utf8_first)] }
def CronMatchesSaid : Prop := cronMatchesRow.holds Tryd.pinned (OpenSpec.ofChange cronMatchesSpec)

/-- ITS FALSE NEIGHBOUR: 'it returns false'. Refute it at one input. -/
def cronMatchesWrong : ChangeSpec := { name := "cronMatches", fn := fun _ => fun
  | [d1, d2] => { results := [.lit (.bool false)], args := [d1, d2] }
  | _ => none }
def CronMatchesWrongFalsely : Prop := cronMatchesRow.holds Tryd.pinned (OpenSpec.ofChange cronMatchesWrong)

/-- 'bywashlaw10.CronNext': WHATEVER THE INPUT: true; the input reads as it did. -/
def cronNextSpec : ChangeSpec := { name := "cronNext", fn := fun _ => fun
  | [d1, d2] => { results := [.lit (.bool true)], args := [d1, d2] }
  | _ => none }
def cronNextRow : OpenClaim := { program := "ytgiclhkoajbgpaadoor", sum := "8c6d1237be911576e250c31126ccf655a91e25d49f51952833440daff2b7ee6f", func := "bywash/bywashlaw10.CronNext", spec := "cronNext", inPlace := ["internal/bytealg.IndexByteString", "internal/bytealg.IndexString"], unfollowed := true, recurses := true, named := ["bywash/cron.bounds", "bywash/calendar.lengths", "unicode/utf8.first", "unicode/utf8.acceptRanges", "internal/bytealg.MaxLen"], apart := false, laid := [("unicode/utf8.acceptRanges", laid_unicode_utf8_acceptRanges), ("bywash/calendar.lengths", laid_bywash_calendar_lengths), ("bywash/cron.bounds", laid_bywash_cron_bounds), ("unicode/utf8.first", laid_unicode_utf8_first)] }
def CronNextSaid : Prop := cronNextRow.holds Tryd.pinned (OpenSpec.ofChange cronNextSpec)

/-- ITS FALSE NEIGHBOUR: 'it returns false'. Refute it at one input. -/
def cronNextWrong : ChangeSpec := { name := "cronNext", fn := fun _ => fun
  | [d1, d2] => { results := [.lit (.bool false)], args := [d1, d2] }
  | _ => none }
def CronNextWrongFalsely : Prop := cronNextRow.holds Tryd.pinned (OpenSpec.ofChange cronNextWrong)

/-- 'bywashlaw10.CronBetween': WHATEVER THE INPUT: true; the input reads as it did. -/
def cronBetweenSpec : ChangeSpec := { name := "cronBetween", fn := fun _ => fun
  | [d1, d2, d3] => { results := [.lit (.bool true)], args := [d1, d2, d3] }
  | _ => none }
def cronBetweenRow : OpenClaim := { program := "ytgiclhkoajbgpaadoor", sum := "8c6d1237be911576e250c31126ccf655a91e25d49f51952833440daff2b7ee6f", func := "bywash/bywashlaw10.CronBetween", spec := "cronBetween", inPlace := ["internal/bytealg.IndexByteString", "internal/bytealg.IndexString"], unfollowed := true, recurses := true, named := ["bywash/cron.bounds", "bywash/calendar.lengths", "unicode/utf8.first", "unicode/utf8.acceptRanges", "internal/bytealg.MaxLen"], apart := false, laid := [("unicode/utf8.acceptRanges", laid_unicode_utf8_acceptRanges), ("bywash/calendar.lengths", laid_bywash_calendar_lengths), ("bywash/cron.bounds", laid_bywash_cron_bounds), ("unicode/utf8.first", laid_unicode_utf8_first)] }
def CronBetweenSaid : Prop := cronBetweenRow.holds Tryd.pinned (OpenSpec.ofChange cronBetweenSpec)

/-- ITS FALSE NEIGHBOUR: 'it returns false'. Refute it at one input. -/
def cronBetweenWrong : ChangeSpec := { name := "cronBetween", fn := fun _ => fun
  | [d1, d2, d3] => { results := [.lit (.bool false)], args := [d1, d2, d3] }
  | _ => none }
def CronBetweenWrongFalsely : Prop := cronBetweenRow.holds Tryd.pinned (OpenSpec.ofChange cronBetweenWrong)

/-- 'bywashlaw10.CronParts': WHATEVER THE INPUT: true; the input reads as it did. -/
def cronPartsSpec : ChangeSpec := { name := "cronParts", fn := fun _ => fun
  | [d1, d2] => { results := [.lit (.bool true)], args := [d1, d2] }
  | _ => none }
def cronPartsRow : OpenClaim := { program := "ytgiclhkoajbgpaadoor", sum := "8c6d1237be911576e250c31126ccf655a91e25d49f51952833440daff2b7ee6f", func := "bywash/bywashlaw10.CronParts", spec := "cronParts", inPlace := ["internal/bytealg.IndexByteString", "internal/bytealg.IndexString"], unfollowed := true, recurses := true, named := ["bywash/cron.bounds", "bywash/calendar.lengths", "unicode/utf8.first", "unicode/utf8.acceptRanges", "internal/bytealg.MaxLen"], apart := false, laid := [("unicode/utf8.acceptRanges", laid_unicode_utf8_acceptRanges), ("bywash/calendar.lengths", laid_bywash_calendar_lengths), ("bywash/cron.bounds", laid_bywash_cron_bounds), ("unicode/utf8.first", laid_unicode_utf8_first)] }
def CronPartsSaid : Prop := cronPartsRow.holds Tryd.pinned (OpenSpec.ofChange cronPartsSpec)

/-- ITS FALSE NEIGHBOUR: 'it returns false'. Refute it at one input. -/
def cronPartsWrong : ChangeSpec := { name := "cronParts", fn := fun _ => fun
  | [d1, d2] => { results := [.lit (.bool false)], args := [d1, d2] }
  | _ => none }
def CronPartsWrongFalsely : Prop := cronPartsRow.holds Tryd.pinned (OpenSpec.ofChange cronPartsWrong)

/-- 'bywashlaw09.CalendarParses': WHATEVER THE INPUT: true; the input reads as it did. -/
def calendarParsesSpec : ChangeSpec := { name := "calendarParses", fn := fun _ => fun
  | [d] => { results := [.lit (.bool true)], args := [d] }
  | _ => none }
def calendarParsesRow : OpenClaim := { program := "ytgiclhkoajbgpaadoor", sum := "8c6d1237be911576e250c31126ccf655a91e25d49f51952833440daff2b7ee6f", func := "bywash/bywashlaw09.CalendarParses", spec := "calendarParses", named := ["bywash/calendar.lengths", "internal/strconv.uint64pow10", "math/bits.deBruijn32tab", "math/bits.deBruijn64tab", "strconv.ErrSyntax", "strconv.ErrRange"], apart := false, laid := [("math/bits.deBruijn32tab", laid_math_bits_deBruijn32tab), ("math/bits.deBruijn64tab", laid_math_bits_deBruijn64tab), ("internal/strconv.uint64pow10", laid_internal_strconv_uint64pow10), ("strconv.ErrRange", laid_strconv_ErrRange), ("strconv.ErrSyntax", laid_strconv_ErrSyntax), ("bywash/calendar.lengths", laid_bywash_calendar_lengths)] }
def CalendarParsesSaid : Prop := calendarParsesRow.holds Tryd.pinned (OpenSpec.ofChange calendarParsesSpec)

/-- ITS FALSE NEIGHBOUR: 'it returns false'. Refute it at one input. -/
def calendarParsesWrong : ChangeSpec := { name := "calendarParses", fn := fun _ => fun
  | [d] => { results := [.lit (.bool false)], args := [d] }
  | _ => none }
def CalendarParsesWrongFalsely : Prop := calendarParsesRow.holds Tryd.pinned (OpenSpec.ofChange calendarParsesWrong)

/-- 'bywashlaw10.CronShows': WHATEVER THE INPUT: true; the input reads as it did. -/
def cronShowsSpec : ChangeSpec := { name := "cronShows", fn := fun _ => fun
  | [d] => { results := [.lit (.bool true)], args := [d] }
  | _ => none }
def cronShowsRow : OpenClaim := { program := "ytgiclhkoajbgpaadoor", sum := "8c6d1237be911576e250c31126ccf655a91e25d49f51952833440daff2b7ee6f", func := "bywash/bywashlaw10.CronShows", spec := "cronShows", inPlace := ["internal/abi.NoEscape", "internal/bytealg.MakeNoZero", "internal/bytealg.IndexByteString", "internal/bytealg.IndexString"], unfollowed := true, recurses := true, named := ["bywash/cron.bounds", "math/bits.deBruijn64tab", "internal/strconv.uint64pow10", "math/bits.deBruijn32tab", "unicode/utf8.first", "unicode/utf8.acceptRanges", "internal/bytealg.MaxLen", "bywash/calendar.lengths"], apart := false, laid := [("math/bits.deBruijn32tab", laid_math_bits_deBruijn32tab), ("math/bits.deBruijn64tab", laid_math_bits_deBruijn64tab), ("internal/strconv.uint64pow10", laid_internal_strconv_uint64pow10), ("unicode/utf8.acceptRanges", laid_unicode_utf8_acceptRanges), ("bywash/calendar.lengths", laid_bywash_calendar_lengths), ("bywash/cron.bounds", laid_bywash_cron_bounds), ("unicode/utf8.first", laid_unicode_utf8_first)] }
def CronShowsSaid : Prop := cronShowsRow.holds Tryd.pinned (OpenSpec.ofChange cronShowsSpec)

/-- ITS FALSE NEIGHBOUR: 'it returns false'. Refute it at one input. -/
def cronShowsWrong : ChangeSpec := { name := "cronShows", fn := fun _ => fun
  | [d] => { results := [.lit (.bool false)], args := [d] }
  | _ => none }
def CronShowsWrongFalsely : Prop := cronShowsRow.holds Tryd.pinned (OpenSpec.ofChange cronShowsWrong)

/- THE SECOND FORM. 'bulk': how many values and letters a reading holds, each counted each time it is reached (what is shared counts as often as it is met; a slice's spare places count too). A statement '..UptoSaid' is the law's where the arguments, and the package variables that the reading takes, are together of bulk at most 1048576: NARROWER than '..Said'. Prove '..Said' where nothing that the law and all that it calls make is longer than what came in: it says more and counts as full. Else prove '..UptoSaid'. A law counts once. -/
mutual
def uptoBulk {H : Type} : DataW H → Nat
  | .lit (.string bytes) => bytes.length + 1
  | .lit _ => 1
  | .nil => 1
  | .ptr d => uptoBulk d + 1
  | .slice elems spare => uptoBulkAll elems + uptoBulkAll spare + 1
  | .agg parts => uptoBulkAll parts + 1
  | .iface _ d => uptoBulk d + 1
  | .map entries => uptoBulkEntries entries + 1
  | .held _ => 1
def uptoBulkAll {H : Type} : List (DataW H) → Nat
  | [] => 0
  | d :: r => uptoBulk d + uptoBulkAll r
def uptoBulkEntries {H : Type} : List (Lit × DataW H) → Nat
  | [] => 0
  | x :: r => uptoBulkEntry x + uptoBulkEntries r
def uptoBulkEntry {H : Type} : Lit × DataW H → Nat
  | (.string bytes, d) => bytes.length + uptoBulk d + 1
  | (_, d) => uptoBulk d + 1
 end
def uptoSmall : (H : Type) → List (DataW H) → Bool := fun _ ds => decide (uptoBulkAll ds ≤ 1048576)
def OpenSpec.upto (s : _root_.Go.ChangeSpec) : _root_.Go.OpenSpec := { _root_.Go.OpenSpec.ofChange s with cond := some uptoSmall }

/-- 'bywashlaw09.CalendarDates', WHERE WHAT IT READS IS OF BULK AT MOST 1048576: true; the input reads as it did. -/
def calendarDatesUptoRow : OpenClaim := { program := "ytgiclhkoajbgpaadoor", sum := "8c6d1237be911576e250c31126ccf655a91e25d49f51952833440daff2b7ee6f", func := "bywash/bywashlaw09.CalendarDates", spec := "calendarDates", named := ["bywash/calendar.lengths", "internal/strconv.uint64pow10", "math/bits.deBruijn32tab", "math/bits.deBruijn64tab"], apart := false, laid := [("math/bits.deBruijn32tab", laid_math_bits_deBruijn32tab), ("math/bits.deBruijn64tab", laid_math_bits_deBruijn64tab), ("internal/strconv.uint64pow10", laid_internal_strconv_uint64pow10), ("bywash/calendar.lengths", laid_bywash_calendar_lengths)], narrowed := true }
def CalendarDatesUptoSaid : Prop := calendarDatesUptoRow.holds Tryd.pinned (OpenSpec.upto calendarDatesSpec)

/-- 'bywashlaw09.CalendarMinutes', WHERE WHAT IT READS IS OF BULK AT MOST 1048576: true; the input reads as it did. -/
def calendarMinutesUptoRow : OpenClaim := { program := "ytgiclhkoajbgpaadoor", sum := "8c6d1237be911576e250c31126ccf655a91e25d49f51952833440daff2b7ee6f", func := "bywash/bywashlaw09.CalendarMinutes", spec := "calendarMinutes", named := ["bywash/calendar.lengths", "internal/strconv.uint64pow10", "math/bits.deBruijn32tab", "math/bits.deBruijn64tab"], apart := false, laid := [("math/bits.deBruijn32tab", laid_math_bits_deBruijn32tab), ("math/bits.deBruijn64tab", laid_math_bits_deBruijn64tab), ("internal/strconv.uint64pow10", laid_internal_strconv_uint64pow10), ("bywash/calendar.lengths", laid_bywash_calendar_lengths)], narrowed := true }
def CalendarMinutesUptoSaid : Prop := calendarMinutesUptoRow.holds Tryd.pinned (OpenSpec.upto calendarMinutesSpec)

/-- 'bywashlaw09.CalendarMonths', WHERE WHAT IT READS IS OF BULK AT MOST 1048576: true; the input reads as it did. -/
def calendarMonthsUptoRow : OpenClaim := { program := "ytgiclhkoajbgpaadoor", sum := "8c6d1237be911576e250c31126ccf655a91e25d49f51952833440daff2b7ee6f", func := "bywash/bywashlaw09.CalendarMonths", spec := "calendarMonths", named := ["bywash/calendar.lengths", "internal/strconv.uint64pow10", "math/bits.deBruijn32tab", "math/bits.deBruijn64tab"], apart := false, laid := [("math/bits.deBruijn32tab", laid_math_bits_deBruijn32tab), ("math/bits.deBruijn64tab", laid_math_bits_deBruijn64tab), ("internal/strconv.uint64pow10", laid_internal_strconv_uint64pow10), ("bywash/calendar.lengths", laid_bywash_calendar_lengths)], narrowed := true }
def CalendarMonthsUptoSaid : Prop := calendarMonthsUptoRow.holds Tryd.pinned (OpenSpec.upto calendarMonthsSpec)

/-- 'bywashlaw10.CronParses', WHERE WHAT IT READS IS OF BULK AT MOST 1048576: true; the input reads as it did. -/
def cronParsesUptoRow : OpenClaim := { program := "ytgiclhkoajbgpaadoor", sum := "8c6d1237be911576e250c31126ccf655a91e25d49f51952833440daff2b7ee6f", func := "bywash/bywashlaw10.CronParses", spec := "cronParses", inPlace := ["internal/bytealg.IndexByteString", "internal/bytealg.IndexString"], unfollowed := true, recurses := true, named := ["unicode/utf8.first", "unicode/utf8.acceptRanges", "internal/bytealg.MaxLen", "bywash/cron.bounds", "bywash/calendar.lengths"], apart := false, laid := [("unicode/utf8.acceptRanges", laid_unicode_utf8_acceptRanges), ("bywash/calendar.lengths", laid_bywash_calendar_lengths), ("bywash/cron.bounds", laid_bywash_cron_bounds), ("unicode/utf8.first", laid_unicode_utf8_first)], narrowed := true }
def CronParsesUptoSaid : Prop := cronParsesUptoRow.holds Tryd.pinned (OpenSpec.upto cronParsesSpec)

/-- 'bywashlaw10.CronMatches', WHERE WHAT IT READS IS OF BULK AT MOST 1048576: true; the input reads as it did. -/
def cronMatchesUptoRow : OpenClaim := { program := "ytgiclhkoajbgpaadoor", sum := "8c6d1237be911576e250c31126ccf655a91e25d49f51952833440daff2b7ee6f", func := "bywash/bywashlaw10.CronMatches", spec := "cronMatches", inPlace := ["internal/bytealg.IndexByteString", "internal/bytealg.IndexString"], unfollowed := true, recurses := true, named := ["bywash/calendar.lengths", "bywash/cron.bounds", "unicode/utf8.first", "unicode/utf8.acceptRanges", "internal/bytealg.MaxLen"], apart := false, laid := [("unicode/utf8.acceptRanges", laid_unicode_utf8_acceptRanges), ("bywash/calendar.lengths", laid_bywash_calendar_lengths), ("bywash/cron.bounds", laid_bywash_cron_bounds), ("unicode/utf8.first", laid_unicode_utf8_first)], narrowed := true }
def CronMatchesUptoSaid : Prop := cronMatchesUptoRow.holds Tryd.pinned (OpenSpec.upto cronMatchesSpec)

/-- 'bywashlaw10.CronNext', WHERE WHAT IT READS IS OF BULK AT MOST 1048576: true; the input reads as it did. -/
def cronNextUptoRow : OpenClaim := { program := "ytgiclhkoajbgpaadoor", sum := "8c6d1237be911576e250c31126ccf655a91e25d49f51952833440daff2b7ee6f", func := "bywash/bywashlaw10.CronNext", spec := "cronNext", inPlace := ["internal/bytealg.IndexByteString", "internal/bytealg.IndexString"], unfollowed := true, recurses := true, named := ["bywash/cron.bounds", "bywash/calendar.lengths", "unicode/utf8.first", "unicode/utf8.acceptRanges", "internal/bytealg.MaxLen"], apart := false, laid := [("unicode/utf8.acceptRanges", laid_unicode_utf8_acceptRanges), ("bywash/calendar.lengths", laid_bywash_calendar_lengths), ("bywash/cron.bounds", laid_bywash_cron_bounds), ("unicode/utf8.first", laid_unicode_utf8_first)], narrowed := true }
def CronNextUptoSaid : Prop := cronNextUptoRow.holds Tryd.pinned (OpenSpec.upto cronNextSpec)

/-- 'bywashlaw10.CronBetween', WHERE WHAT IT READS IS OF BULK AT MOST 1048576: true; the input reads as it did. -/
def cronBetweenUptoRow : OpenClaim := { program := "ytgiclhkoajbgpaadoor", sum := "8c6d1237be911576e250c31126ccf655a91e25d49f51952833440daff2b7ee6f", func := "bywash/bywashlaw10.CronBetween", spec := "cronBetween", inPlace := ["internal/bytealg.IndexByteString", "internal/bytealg.IndexString"], unfollowed := true, recurses := true, named := ["bywash/cron.bounds", "bywash/calendar.lengths", "unicode/utf8.first", "unicode/utf8.acceptRanges", "internal/bytealg.MaxLen"], apart := false, laid := [("unicode/utf8.acceptRanges", laid_unicode_utf8_acceptRanges), ("bywash/calendar.lengths", laid_bywash_calendar_lengths), ("bywash/cron.bounds", laid_bywash_cron_bounds), ("unicode/utf8.first", laid_unicode_utf8_first)], narrowed := true }
def CronBetweenUptoSaid : Prop := cronBetweenUptoRow.holds Tryd.pinned (OpenSpec.upto cronBetweenSpec)

/-- 'bywashlaw10.CronParts', WHERE WHAT IT READS IS OF BULK AT MOST 1048576: true; the input reads as it did. -/
def cronPartsUptoRow : OpenClaim := { program := "ytgiclhkoajbgpaadoor", sum := "8c6d1237be911576e250c31126ccf655a91e25d49f51952833440daff2b7ee6f", func := "bywash/bywashlaw10.CronParts", spec := "cronParts", inPlace := ["internal/bytealg.IndexByteString", "internal/bytealg.IndexString"], unfollowed := true, recurses := true, named := ["bywash/cron.bounds", "bywash/calendar.lengths", "unicode/utf8.first", "unicode/utf8.acceptRanges", "internal/bytealg.MaxLen"], apart := false, laid := [("unicode/utf8.acceptRanges", laid_unicode_utf8_acceptRanges), ("bywash/calendar.lengths", laid_bywash_calendar_lengths), ("bywash/cron.bounds", laid_bywash_cron_bounds), ("unicode/utf8.first", laid_unicode_utf8_first)], narrowed := true }
def CronPartsUptoSaid : Prop := cronPartsUptoRow.holds Tryd.pinned (OpenSpec.upto cronPartsSpec)

/-- 'bywashlaw09.CalendarParses', WHERE WHAT IT READS IS OF BULK AT MOST 1048576: true; the input reads as it did. -/
def calendarParsesUptoRow : OpenClaim := { program := "ytgiclhkoajbgpaadoor", sum := "8c6d1237be911576e250c31126ccf655a91e25d49f51952833440daff2b7ee6f", func := "bywash/bywashlaw09.CalendarParses", spec := "calendarParses", named := ["bywash/calendar.lengths", "internal/strconv.uint64pow10", "math/bits.deBruijn32tab", "math/bits.deBruijn64tab", "strconv.ErrSyntax", "strconv.ErrRange"], apart := false, laid := [("math/bits.deBruijn32tab", laid_math_bits_deBruijn32tab), ("math/bits.deBruijn64tab", laid_math_bits_deBruijn64tab), ("internal/strconv.uint64pow10", laid_internal_strconv_uint64pow10), ("strconv.ErrRange", laid_strconv_ErrRange), ("strconv.ErrSyntax", laid_strconv_ErrSyntax), ("bywash/calendar.lengths", laid_bywash_calendar_lengths)], narrowed := true }
def CalendarParsesUptoSaid : Prop := calendarParsesUptoRow.holds Tryd.pinned (OpenSpec.upto calendarParsesSpec)

/-- 'bywashlaw10.CronShows', WHERE WHAT IT READS IS OF BULK AT MOST 1048576: true; the input reads as it did. -/
def cronShowsUptoRow : OpenClaim := { program := "ytgiclhkoajbgpaadoor", sum := "8c6d1237be911576e250c31126ccf655a91e25d49f51952833440daff2b7ee6f", func := "bywash/bywashlaw10.CronShows", spec := "cronShows", inPlace := ["internal/abi.NoEscape", "internal/bytealg.MakeNoZero", "internal/bytealg.IndexByteString", "internal/bytealg.IndexString"], unfollowed := true, recurses := true, named := ["bywash/cron.bounds", "math/bits.deBruijn64tab", "internal/strconv.uint64pow10", "math/bits.deBruijn32tab", "unicode/utf8.first", "unicode/utf8.acceptRanges", "internal/bytealg.MaxLen", "bywash/calendar.lengths"], apart := false, laid := [("math/bits.deBruijn32tab", laid_math_bits_deBruijn32tab), ("math/bits.deBruijn64tab", laid_math_bits_deBruijn64tab), ("internal/strconv.uint64pow10", laid_internal_strconv_uint64pow10), ("unicode/utf8.acceptRanges", laid_unicode_utf8_acceptRanges), ("bywash/calendar.lengths", laid_bywash_calendar_lengths), ("bywash/cron.bounds", laid_bywash_cron_bounds), ("unicode/utf8.first", laid_unicode_utf8_first)], narrowed := true }
def CronShowsUptoSaid : Prop := cronShowsUptoRow.holds Tryd.pinned (OpenSpec.upto cronShowsSpec)

end Rows
end Go.Proofs.YtgiclhkoajbgpaaDoor
