/-
  DERIVED. GIVEN WITH THE SEED: THE CARDS: each row of YtkdnpaohlepjbaaGreatDoorRows.lean that lists a variable, with what it lists TIED to the program's text (the seventh form; the later family's looks); each row that meets fmt, with fmt's text TOLD by the authors' own Lean function (tested against real Go, not proved from fmt's source: count such statements apart). THE CARD IS WHAT COUNTS. Prove the row's statement (the work); the ties are given (YtkdnpaohlepjbaaGreatDoorTie.lean); close each card by the builder's one call (the guide's Derived/Test/ToyasCard.lean, 'card_holds'). Laid BY PROGRAM, IN A SANDBOX (cutbox-door.mjs). By AI agents, Wed Nov 11 2026. No macro, syntax, notation, axiom, sorry.
-/
import Derived.Test.YtkdnpaohlepjbaaGreatDoorRows
import GoSem.ClaimSeven
namespace Go.Proofs.YtkdnpaohlepjbaaGreatDoor
namespace Rows

/-- THE TIED CARD OF 'ecmacorelaw2.RegexMade'. -/
def regexMadeCard : Claim7 := { stood := { row := regexMadeRow, standIns := [], harness := (true, "e5b8ac64ecf7aaa9f7c73935a8dc16d00dbab37d31e200e9d50fe06038f1c65a"), looks := true }, kinds := [], alts := [], laidByText := true, laidKinds := [.data, .handle, .listed, .data, .pinned, .pinned, .pinned, .pinned], laidTests := true, laidLooks := .later }
def RegexMadeCardSaid : Prop := Claim7.holds Tryz.pinned (.plain (OpenSpec.ofChange regexMadeSpec)) regexMadeCard

/-- THE TIED CARD OF 'ecmacorelaw2.RegexPlain'. -/
def regexPlainCard : Claim7 := { stood := { row := regexPlainRow, standIns := [], harness := (true, "e5b8ac64ecf7aaa9f7c73935a8dc16d00dbab37d31e200e9d50fe06038f1c65a"), looks := true }, kinds := [], alts := [], laidByText := true, laidKinds := [.data, .handle, .listed, .data, .pinned, .pinned, .pinned, .pinned], laidTests := true, laidLooks := .later }
def RegexPlainCardSaid : Prop := Claim7.holds Tryz.pinned (.plain (OpenSpec.ofChange regexPlainSpec)) regexPlainCard

/-- THE TIED CARD OF 'ecmacorelaw2.RegexLess'. -/
def regexLessCard : Claim7 := { stood := { row := regexLessRow, standIns := [], harness := (true, "e5b8ac64ecf7aaa9f7c73935a8dc16d00dbab37d31e200e9d50fe06038f1c65a"), looks := true }, kinds := [], alts := [], laidByText := true, laidKinds := [.data, .handle, .listed, .data, .pinned, .pinned, .pinned, .pinned], laidTests := true, laidLooks := .later }
def RegexLessCardSaid : Prop := Claim7.holds Tryz.pinned (.plain (OpenSpec.ofChange regexLessSpec)) regexLessCard

/-- THE TIED CARD OF 'ecmacorelaw2.RegexEither'. -/
def regexEitherCard : Claim7 := { stood := { row := regexEitherRow, standIns := [], harness := (true, "e5b8ac64ecf7aaa9f7c73935a8dc16d00dbab37d31e200e9d50fe06038f1c65a"), looks := true }, kinds := [], alts := [], laidByText := true, laidKinds := [.data, .handle, .listed, .data, .pinned, .pinned, .pinned, .pinned], laidTests := true, laidLooks := .later }
def RegexEitherCardSaid : Prop := Claim7.holds Tryz.pinned (.plain (OpenSpec.ofChange regexEitherSpec)) regexEitherCard

/-- THE TIED CARD OF 'ecmacorelaw2.RegexFound'. -/
def regexFoundCard : Claim7 := { stood := { row := regexFoundRow, standIns := [], harness := (true, "e5b8ac64ecf7aaa9f7c73935a8dc16d00dbab37d31e200e9d50fe06038f1c65a"), looks := true }, kinds := [], alts := [], laidByText := true, laidKinds := [.data, .handle, .listed, .data, .pinned, .pinned, .pinned, .pinned], laidTests := true, laidLooks := .later }
def RegexFoundCardSaid : Prop := Claim7.holds Tryz.pinned (.plain (OpenSpec.ofChange regexFoundSpec)) regexFoundCard

/-- THE SECOND FORM's CARD OF 'ecmacorelaw2.RegexMade'. -/
def regexMadeUptoCard : Claim7 := { stood := { row := regexMadeUptoRow, standIns := [], harness := (true, "e5b8ac64ecf7aaa9f7c73935a8dc16d00dbab37d31e200e9d50fe06038f1c65a"), looks := true }, kinds := [], alts := [], laidByText := true, laidKinds := [.data, .handle, .listed, .data, .pinned, .pinned, .pinned, .pinned], laidTests := true, laidLooks := .later }
def RegexMadeUptoCardSaid : Prop := Claim7.holds Tryz.pinned (.plain (OpenSpec.upto regexMadeSpec)) regexMadeUptoCard

/-- THE SECOND FORM's CARD OF 'ecmacorelaw2.RegexPlain'. -/
def regexPlainUptoCard : Claim7 := { stood := { row := regexPlainUptoRow, standIns := [], harness := (true, "e5b8ac64ecf7aaa9f7c73935a8dc16d00dbab37d31e200e9d50fe06038f1c65a"), looks := true }, kinds := [], alts := [], laidByText := true, laidKinds := [.data, .handle, .listed, .data, .pinned, .pinned, .pinned, .pinned], laidTests := true, laidLooks := .later }
def RegexPlainUptoCardSaid : Prop := Claim7.holds Tryz.pinned (.plain (OpenSpec.upto regexPlainSpec)) regexPlainUptoCard

/-- THE SECOND FORM's CARD OF 'ecmacorelaw2.RegexLess'. -/
def regexLessUptoCard : Claim7 := { stood := { row := regexLessUptoRow, standIns := [], harness := (true, "e5b8ac64ecf7aaa9f7c73935a8dc16d00dbab37d31e200e9d50fe06038f1c65a"), looks := true }, kinds := [], alts := [], laidByText := true, laidKinds := [.data, .handle, .listed, .data, .pinned, .pinned, .pinned, .pinned], laidTests := true, laidLooks := .later }
def RegexLessUptoCardSaid : Prop := Claim7.holds Tryz.pinned (.plain (OpenSpec.upto regexLessSpec)) regexLessUptoCard

/-- THE SECOND FORM's CARD OF 'ecmacorelaw2.RegexEither'. -/
def regexEitherUptoCard : Claim7 := { stood := { row := regexEitherUptoRow, standIns := [], harness := (true, "e5b8ac64ecf7aaa9f7c73935a8dc16d00dbab37d31e200e9d50fe06038f1c65a"), looks := true }, kinds := [], alts := [], laidByText := true, laidKinds := [.data, .handle, .listed, .data, .pinned, .pinned, .pinned, .pinned], laidTests := true, laidLooks := .later }
def RegexEitherUptoCardSaid : Prop := Claim7.holds Tryz.pinned (.plain (OpenSpec.upto regexEitherSpec)) regexEitherUptoCard

/-- THE SECOND FORM's CARD OF 'ecmacorelaw2.RegexFound'. -/
def regexFoundUptoCard : Claim7 := { stood := { row := regexFoundUptoRow, standIns := [], harness := (true, "e5b8ac64ecf7aaa9f7c73935a8dc16d00dbab37d31e200e9d50fe06038f1c65a"), looks := true }, kinds := [], alts := [], laidByText := true, laidKinds := [.data, .handle, .listed, .data, .pinned, .pinned, .pinned, .pinned], laidTests := true, laidLooks := .later }
def RegexFoundUptoCardSaid : Prop := Claim7.holds Tryz.pinned (.plain (OpenSpec.upto regexFoundSpec)) regexFoundUptoCard
end Rows
end Go.Proofs.YtkdnpaohlepjbaaGreatDoor
