/-
  The reference's Notes, Pairs, Valid (scores).
-/
import Derived.Test.YtmglcamgpgkblaaQGo
import Derived.Test.YtmglcamgpgkblaaQGo2
import Derived.Test.YtmglcamgpgkblaaQB5
set_option linter.unusedSimpArgs false
set_option linter.unusedVariables false
namespace Go.Proofs.Ytmglcamgpgkblaa
open Go.Ab
@[go_sem, reducible] def enRN (i : Nat) : List AV := [.top, .optr 0 0 0, .imm (.bool false), .imm (.int .i64 i)] ++ List.replicate 119 .top
@[go_sem, reducible] def enRK (i k : Nat) : List AV := [.top, .optr 0 0 0, .imm (.bool false), .imm (.int .i64 i), .optr 1 0 0, .imm (.int .i64 k)] ++ List.replicate 117 .top
@[go_sem, reducible] def enRM (i : Nat) : List AV := [.top, .optr 0 0 0, .imm (.bool false), .top, .top, .top, .imm (.int .i64 i)] ++ List.replicate 116 .top
@[go_sem, reducible] def enRP (i : Nat) : List AV := [.top, .optr 0 0 0, .imm (.bool false), .imm (.int .i64 i)] ++ List.replicate 117 .top
end Go.Proofs.Ytmglcamgpgkblaa
