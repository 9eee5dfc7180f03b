/-
  DERIVED. GIVEN WITH THE SEED: THE CARDS: each row of YthpkejlmelednaaDoorRows.lean that lists a variable, with what it lists TIED to the program's text (the seventh form; the later family's looks); each row that meets fmt, with fmt's text TOLD by the authors' own Lean function (tested against real Go, not proved from fmt's source: count such statements apart). THE CARD IS WHAT COUNTS. Prove the row's statement (the work); the ties are given (YthpkejlmelednaaDoorTie.lean); close each card by the builder's one call (the guide's Derived/Test/ToyasCard.lean, 'card_holds'). Laid BY PROGRAM, IN A SANDBOX (cutbox-door.mjs). By AI agents, Wed Nov 11 2026. No macro, syntax, notation, axiom, sorry.
-/
import Derived.Test.YthpkejlmelednaaDoorRows
import GoSem.ClaimSeven
namespace Go.Proofs.YthpkejlmelednaaDoor
namespace Rows

/-- THE TIED CARD OF 'remontoirelaw05.ClockBases'. -/
def clockBasesCard : Claim7 := { stood := { row := clockBasesRow, standIns := [], harness := (true, "98f700ca4a6c1194a85dd008bb35cde3c8192806460ef526cfa8d49dc1ef161b"), looks := false }, kinds := [], alts := [], laidByText := true, laidKinds := [.data, .data], laidTests := true, laidLooks := .later }
def ClockBasesCardSaid : Prop := Claim7.holds Tryd.pinned (.plain (OpenSpec.ofChange clockBasesSpec)) clockBasesCard

/-- THE TIED CARD OF 'remontoirelaw05.ClockConstant'. -/
def clockConstantCard : Claim7 := { stood := { row := clockConstantRow, standIns := [], harness := (true, "98f700ca4a6c1194a85dd008bb35cde3c8192806460ef526cfa8d49dc1ef161b"), looks := false }, kinds := [], alts := [], laidByText := true, laidKinds := [.data, .data], laidTests := true, laidLooks := .later }
def ClockConstantCardSaid : Prop := Claim7.holds Tryd.pinned (.plain (OpenSpec.ofChange clockConstantSpec)) clockConstantCard

/-- THE TIED CARD OF 'remontoirelaw18.SelExact'. -/
def selExactCard : Claim7 := { stood := { row := selExactRow, standIns := [], harness := (true, "98f700ca4a6c1194a85dd008bb35cde3c8192806460ef526cfa8d49dc1ef161b"), looks := false }, kinds := [], alts := [], laidByText := true, laidKinds := [.data, .data], laidTests := true, laidLooks := .later }
def SelExactCardSaid : Prop := Claim7.holds Tryd.pinned (.plain (OpenSpec.ofChange selExactSpec)) selExactCard

/-- THE TIED CARD OF 'remontoirelaw18.SelSome'. -/
def selSomeCard : Claim7 := { stood := { row := selSomeRow, standIns := [], harness := (true, "98f700ca4a6c1194a85dd008bb35cde3c8192806460ef526cfa8d49dc1ef161b"), looks := false }, kinds := [], alts := [], laidByText := true, laidKinds := [.data, .data], laidTests := true, laidLooks := .later }
def SelSomeCardSaid : Prop := Claim7.holds Tryd.pinned (.plain (OpenSpec.ofChange selSomeSpec)) selSomeCard

/-- THE TIED CARD OF 'remontoirelaw04.CodeBegins'. -/
def codeBeginsCard : Claim7 := { stood := { row := codeBeginsRow, standIns := [], harness := (true, "98f700ca4a6c1194a85dd008bb35cde3c8192806460ef526cfa8d49dc1ef161b"), looks := false }, kinds := [], alts := [], laidByText := true, laidKinds := [.data, .data], laidTests := true, laidLooks := .later }
def CodeBeginsCardSaid : Prop := Claim7.holds Tryd.pinned (.plain (OpenSpec.ofChange codeBeginsSpec)) codeBeginsCard

/-- THE TIED CARD OF 'remontoirelaw04.CodeOnce'. -/
def codeOnceCard : Claim7 := { stood := { row := codeOnceRow, standIns := [], harness := (true, "98f700ca4a6c1194a85dd008bb35cde3c8192806460ef526cfa8d49dc1ef161b"), looks := false }, kinds := [], alts := [], laidByText := true, laidKinds := [.data, .data], laidTests := true, laidLooks := .later }
def CodeOnceCardSaid : Prop := Claim7.holds Tryd.pinned (.plain (OpenSpec.ofChange codeOnceSpec)) codeOnceCard

/-- THE TIED CARD OF 'remontoirelaw04.CodeReads'. -/
def codeReadsCard : Claim7 := { stood := { row := codeReadsRow, standIns := [], harness := (true, "98f700ca4a6c1194a85dd008bb35cde3c8192806460ef526cfa8d49dc1ef161b"), looks := false }, kinds := [], alts := [], laidByText := true, laidKinds := [.data, .data], laidTests := true, laidLooks := .later }
def CodeReadsCardSaid : Prop := Claim7.holds Tryd.pinned (.plain (OpenSpec.ofChange codeReadsSpec)) codeReadsCard

/-- THE TIED CARD OF 'remontoirelaw04.CodeWords'. -/
def codeWordsCard : Claim7 := { stood := { row := codeWordsRow, standIns := [], harness := (true, "98f700ca4a6c1194a85dd008bb35cde3c8192806460ef526cfa8d49dc1ef161b"), looks := false }, kinds := [], alts := [], laidByText := true, laidKinds := [.data, .data], laidTests := true, laidLooks := .later }
def CodeWordsCardSaid : Prop := Claim7.holds Tryd.pinned (.plain (OpenSpec.ofChange codeWordsSpec)) codeWordsCard

/-- THE TIED CARD OF 'remontoirelaw18.SelForms'. -/
def selFormsCard : Claim7 := { stood := { row := selFormsRow, standIns := [], harness := (true, "98f700ca4a6c1194a85dd008bb35cde3c8192806460ef526cfa8d49dc1ef161b"), looks := false }, kinds := [], alts := [], laidByText := true, laidKinds := [.data, .data, .data], laidTests := true, laidLooks := .later }
def SelFormsCardSaid : Prop := Claim7.holds Tryd.pinned (.plain (OpenSpec.ofChange selFormsSpec)) selFormsCard

/-- THE TIED CARD OF 'remontoirelaw04.CodeBytes'. -/
def codeBytesCard : Claim7 := { stood := { row := codeBytesRow, standIns := [], harness := (true, "98f700ca4a6c1194a85dd008bb35cde3c8192806460ef526cfa8d49dc1ef161b"), looks := false }, kinds := [], alts := [], laidByText := true, laidKinds := [.data, .data], laidTests := true, laidLooks := .later }
def CodeBytesCardSaid : Prop := Claim7.holds Tryd.pinned (.plain (OpenSpec.ofChange codeBytesSpec)) codeBytesCard

/-- THE SECOND FORM's CARD OF 'remontoirelaw05.ClockBases'. -/
def clockBasesUptoCard : Claim7 := { stood := { row := clockBasesUptoRow, standIns := [], harness := (true, "98f700ca4a6c1194a85dd008bb35cde3c8192806460ef526cfa8d49dc1ef161b"), looks := false }, kinds := [], alts := [], laidByText := true, laidKinds := [.data, .data], laidTests := true, laidLooks := .later }
def ClockBasesUptoCardSaid : Prop := Claim7.holds Tryd.pinned (.plain (OpenSpec.upto clockBasesSpec)) clockBasesUptoCard

/-- THE SECOND FORM's CARD OF 'remontoirelaw05.ClockConstant'. -/
def clockConstantUptoCard : Claim7 := { stood := { row := clockConstantUptoRow, standIns := [], harness := (true, "98f700ca4a6c1194a85dd008bb35cde3c8192806460ef526cfa8d49dc1ef161b"), looks := false }, kinds := [], alts := [], laidByText := true, laidKinds := [.data, .data], laidTests := true, laidLooks := .later }
def ClockConstantUptoCardSaid : Prop := Claim7.holds Tryd.pinned (.plain (OpenSpec.upto clockConstantSpec)) clockConstantUptoCard

/-- THE SECOND FORM's CARD OF 'remontoirelaw18.SelExact'. -/
def selExactUptoCard : Claim7 := { stood := { row := selExactUptoRow, standIns := [], harness := (true, "98f700ca4a6c1194a85dd008bb35cde3c8192806460ef526cfa8d49dc1ef161b"), looks := false }, kinds := [], alts := [], laidByText := true, laidKinds := [.data, .data], laidTests := true, laidLooks := .later }
def SelExactUptoCardSaid : Prop := Claim7.holds Tryd.pinned (.plain (OpenSpec.upto selExactSpec)) selExactUptoCard

/-- THE SECOND FORM's CARD OF 'remontoirelaw18.SelSome'. -/
def selSomeUptoCard : Claim7 := { stood := { row := selSomeUptoRow, standIns := [], harness := (true, "98f700ca4a6c1194a85dd008bb35cde3c8192806460ef526cfa8d49dc1ef161b"), looks := false }, kinds := [], alts := [], laidByText := true, laidKinds := [.data, .data], laidTests := true, laidLooks := .later }
def SelSomeUptoCardSaid : Prop := Claim7.holds Tryd.pinned (.plain (OpenSpec.upto selSomeSpec)) selSomeUptoCard

/-- THE SECOND FORM's CARD OF 'remontoirelaw04.CodeBegins'. -/
def codeBeginsUptoCard : Claim7 := { stood := { row := codeBeginsUptoRow, standIns := [], harness := (true, "98f700ca4a6c1194a85dd008bb35cde3c8192806460ef526cfa8d49dc1ef161b"), looks := false }, kinds := [], alts := [], laidByText := true, laidKinds := [.data, .data], laidTests := true, laidLooks := .later }
def CodeBeginsUptoCardSaid : Prop := Claim7.holds Tryd.pinned (.plain (OpenSpec.upto codeBeginsSpec)) codeBeginsUptoCard

/-- THE SECOND FORM's CARD OF 'remontoirelaw04.CodeOnce'. -/
def codeOnceUptoCard : Claim7 := { stood := { row := codeOnceUptoRow, standIns := [], harness := (true, "98f700ca4a6c1194a85dd008bb35cde3c8192806460ef526cfa8d49dc1ef161b"), looks := false }, kinds := [], alts := [], laidByText := true, laidKinds := [.data, .data], laidTests := true, laidLooks := .later }
def CodeOnceUptoCardSaid : Prop := Claim7.holds Tryd.pinned (.plain (OpenSpec.upto codeOnceSpec)) codeOnceUptoCard

/-- THE SECOND FORM's CARD OF 'remontoirelaw04.CodeReads'. -/
def codeReadsUptoCard : Claim7 := { stood := { row := codeReadsUptoRow, standIns := [], harness := (true, "98f700ca4a6c1194a85dd008bb35cde3c8192806460ef526cfa8d49dc1ef161b"), looks := false }, kinds := [], alts := [], laidByText := true, laidKinds := [.data, .data], laidTests := true, laidLooks := .later }
def CodeReadsUptoCardSaid : Prop := Claim7.holds Tryd.pinned (.plain (OpenSpec.upto codeReadsSpec)) codeReadsUptoCard

/-- THE SECOND FORM's CARD OF 'remontoirelaw04.CodeWords'. -/
def codeWordsUptoCard : Claim7 := { stood := { row := codeWordsUptoRow, standIns := [], harness := (true, "98f700ca4a6c1194a85dd008bb35cde3c8192806460ef526cfa8d49dc1ef161b"), looks := false }, kinds := [], alts := [], laidByText := true, laidKinds := [.data, .data], laidTests := true, laidLooks := .later }
def CodeWordsUptoCardSaid : Prop := Claim7.holds Tryd.pinned (.plain (OpenSpec.upto codeWordsSpec)) codeWordsUptoCard

/-- THE SECOND FORM's CARD OF 'remontoirelaw18.SelForms'. -/
def selFormsUptoCard : Claim7 := { stood := { row := selFormsUptoRow, standIns := [], harness := (true, "98f700ca4a6c1194a85dd008bb35cde3c8192806460ef526cfa8d49dc1ef161b"), looks := false }, kinds := [], alts := [], laidByText := true, laidKinds := [.data, .data, .data], laidTests := true, laidLooks := .later }
def SelFormsUptoCardSaid : Prop := Claim7.holds Tryd.pinned (.plain (OpenSpec.upto selFormsSpec)) selFormsUptoCard

/-- THE SECOND FORM's CARD OF 'remontoirelaw04.CodeBytes'. -/
def codeBytesUptoCard : Claim7 := { stood := { row := codeBytesUptoRow, standIns := [], harness := (true, "98f700ca4a6c1194a85dd008bb35cde3c8192806460ef526cfa8d49dc1ef161b"), looks := false }, kinds := [], alts := [], laidByText := true, laidKinds := [.data, .data], laidTests := true, laidLooks := .later }
def CodeBytesUptoCardSaid : Prop := Claim7.holds Tryd.pinned (.plain (OpenSpec.upto codeBytesSpec)) codeBytesUptoCard
end Rows
end Go.Proofs.YthpkejlmelednaaDoor
