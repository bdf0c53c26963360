/- Laid together: T, M06, M08, B08, J11, J14, L08, O08, Q08, J15, J13, R09. Each part is plain law, a rule, or a walk of the functions that its names tell. -/
import Derived.Test.YtfhfecepcnapfaaX1
import Derived.Test.YtfhfecepcnapfaaProg
set_option linter.unusedVariables false
set_option linter.unusedSimpArgs false
namespace Go.Proofs.Ytfhfecepcnapfaa.K
open Go Go.RowKit Go.Proofs
instance : UndI Try.prog 1 := ⟨⟨_, Try.underlying1⟩⟩
instance : TyI Try.prog 1 1 false := ⟨by kernel_rfl⟩
instance : ZeroI Try.prog 1 #[.nilFunc] := ⟨by kernel_rfl⟩
instance : ConcI Try.prog 1 := ⟨by kernel_rfl⟩
instance : UndI Try.prog 2 := ⟨⟨_, Try.underlying2⟩⟩
instance : TyI Try.prog 2 1 false := ⟨by kernel_rfl⟩
instance : ZeroI Try.prog 2 #[.int .i64 0] := ⟨by kernel_rfl⟩
instance : IntI Try.prog 2 .i64 := ⟨Try.underlying2⟩
instance : ConcI Try.prog 2 := ⟨by kernel_rfl⟩
instance : UndI Try.prog 3 := ⟨⟨_, Try.underlying3⟩⟩
instance : TyI Try.prog 3 1 false := ⟨by kernel_rfl⟩
instance : ZeroI Try.prog 3 #[.int .i64 0] := ⟨by kernel_rfl⟩
instance : IntI Try.prog 3 .i64 := ⟨Try.underlying3⟩
instance : ConcI Try.prog 3 := ⟨by kernel_rfl⟩
instance : UndI Try.prog 4 := ⟨⟨_, Try.underlying4⟩⟩
instance : TyI Try.prog 4 1 false := ⟨by kernel_rfl⟩
instance : ZeroI Try.prog 4 #[.bool false] := ⟨by kernel_rfl⟩
instance : BoolI Try.prog 4 := ⟨Try.underlying4⟩
instance : ConcI Try.prog 4 := ⟨by kernel_rfl⟩
instance : UndI Try.prog 5 := ⟨⟨_, Try.underlying5⟩⟩
instance : TyI Try.prog 5 1 false := ⟨by kernel_rfl⟩
instance : ZeroI Try.prog 5 #[.int .u8 0] := ⟨by kernel_rfl⟩
instance : IntI Try.prog 5 .u8 := ⟨Try.underlying5⟩
instance : ConcI Try.prog 5 := ⟨by kernel_rfl⟩
instance : UndI Try.prog 9 := ⟨⟨_, Try.underlying9⟩⟩
instance : TyI Try.prog 9 1 false := ⟨by kernel_rfl⟩
instance : ZeroI Try.prog 9 #[.string ⟨#[]⟩] := ⟨by kernel_rfl⟩
instance : StrI Try.prog 9 := ⟨Try.underlying9⟩
instance : ConcI Try.prog 9 := ⟨by kernel_rfl⟩
instance : UndI Try.prog 12 := ⟨⟨_, Try.underlying12⟩⟩
instance : TyI Try.prog 12 1 false := ⟨by kernel_rfl⟩
instance : ZeroI Try.prog 12 #[.int .u64 0] := ⟨by kernel_rfl⟩
instance : IntI Try.prog 12 .u64 := ⟨Try.underlying12⟩
instance : ConcI Try.prog 12 := ⟨by kernel_rfl⟩
instance : UndI Try.prog 20 := ⟨⟨_, Try.underlying20⟩⟩
instance : TyI Try.prog 20 1 false := ⟨by kernel_rfl⟩
instance : ZeroI Try.prog 20 #[.nilIface] := ⟨by kernel_rfl⟩
instance : UndI Try.prog 21 := ⟨⟨_, Try.underlying21⟩⟩
instance : TyI Try.prog 21 1 false := ⟨by kernel_rfl⟩
instance : ZeroI Try.prog 21 #[.int .i32 0] := ⟨by kernel_rfl⟩
instance : IntI Try.prog 21 .i32 := ⟨Try.underlying21⟩
instance : ConcI Try.prog 21 := ⟨by kernel_rfl⟩
instance : UndI Try.prog 22 := ⟨⟨_, Try.underlying22⟩⟩
instance : TyI Try.prog 22 1 false := ⟨by kernel_rfl⟩
instance : ZeroI Try.prog 22 #[.slice none 0 0] := ⟨by kernel_rfl⟩
instance : ElI Try.prog 22 34 1 := ⟨by kernel_rfl⟩
instance : ElzI Try.prog 22 34 1 24 (.slice none 0 0) := ⟨by kernel_rfl⟩
instance : ConcI Try.prog 22 := ⟨by kernel_rfl⟩
instance : UndI Try.prog 23 := ⟨⟨_, Try.underlying23⟩⟩
instance : TyI Try.prog 23 1 false := ⟨by kernel_rfl⟩
instance : ZeroI Try.prog 23 #[.slice none 0 0] := ⟨by kernel_rfl⟩
instance : ElI Try.prog 23 34 1 := ⟨by kernel_rfl⟩
instance : ElzI Try.prog 23 34 1 24 (.slice none 0 0) := ⟨by kernel_rfl⟩
instance : ConcI Try.prog 23 := ⟨by kernel_rfl⟩
instance : UndI Try.prog 24 := ⟨⟨_, Try.underlying24⟩⟩
instance : TyI Try.prog 24 1 false := ⟨by kernel_rfl⟩
instance : ZeroI Try.prog 24 #[.slice none 0 0] := ⟨by kernel_rfl⟩
instance : ElI Try.prog 24 5 1 := ⟨by kernel_rfl⟩
instance : ElzI Try.prog 24 5 1 1 (.int .u8 0) := ⟨by kernel_rfl⟩
instance : ConcI Try.prog 24 := ⟨by kernel_rfl⟩
instance : UndI Try.prog 25 := ⟨⟨_, Try.underlying25⟩⟩
instance : TyI Try.prog 25 1 false := ⟨by kernel_rfl⟩
instance : ZeroI Try.prog 25 #[.nilFunc] := ⟨by kernel_rfl⟩
instance : ConcI Try.prog 25 := ⟨by kernel_rfl⟩
instance : UndI Try.prog 26 := ⟨⟨_, Try.underlying26⟩⟩
instance : TyI Try.prog 26 1 false := ⟨by kernel_rfl⟩
instance : ZeroI Try.prog 26 #[.nilFunc] := ⟨by kernel_rfl⟩
instance : ConcI Try.prog 26 := ⟨by kernel_rfl⟩
instance : UndI Try.prog 27 := ⟨⟨_, Try.underlying27⟩⟩
instance : TyI Try.prog 27 1 false := ⟨by kernel_rfl⟩
instance : ZeroI Try.prog 27 #[.nilFunc] := ⟨by kernel_rfl⟩
instance : ConcI Try.prog 27 := ⟨by kernel_rfl⟩
instance : UndI Try.prog 28 := ⟨⟨_, Try.underlying28⟩⟩
instance : TyI Try.prog 28 1 false := ⟨by kernel_rfl⟩
instance : ZeroI Try.prog 28 #[.nilFunc] := ⟨by kernel_rfl⟩
instance : ConcI Try.prog 28 := ⟨by kernel_rfl⟩
instance : UndI Try.prog 29 := ⟨⟨_, Try.underlying29⟩⟩
instance : TyI Try.prog 29 1 false := ⟨by kernel_rfl⟩
instance : ZeroI Try.prog 29 #[.nilFunc] := ⟨by kernel_rfl⟩
instance : ConcI Try.prog 29 := ⟨by kernel_rfl⟩
instance : UndI Try.prog 30 := ⟨⟨_, Try.underlying30⟩⟩
instance : TyI Try.prog 30 1 false := ⟨by kernel_rfl⟩
instance : ZeroI Try.prog 30 #[.nilFunc] := ⟨by kernel_rfl⟩
instance : ConcI Try.prog 30 := ⟨by kernel_rfl⟩
instance : UndI Try.prog 31 := ⟨⟨_, Try.underlying31⟩⟩
instance : TyI Try.prog 31 1 false := ⟨by kernel_rfl⟩
instance : ZeroI Try.prog 31 #[.slice none 0 0] := ⟨by kernel_rfl⟩
instance : ElI Try.prog 31 3 1 := ⟨by kernel_rfl⟩
instance : ElzI Try.prog 31 3 1 8 (.int .i64 0) := ⟨by kernel_rfl⟩
instance : ConcI Try.prog 31 := ⟨by kernel_rfl⟩
instance : UndI Try.prog 32 := ⟨⟨_, Try.underlying32⟩⟩
instance : TyI Try.prog 32 2 true := ⟨by kernel_rfl⟩
instance : ZeroI Try.prog 32 #[.slice none 0 0, .int .i64 0] := ⟨by kernel_rfl⟩
instance : FtI Try.prog 32 0 31 := ⟨by kernel_rfl⟩
instance : FldI Try.prog 32 0 0 := ⟨by kernel_rfl⟩
instance : FtI Try.prog 32 1 3 := ⟨by kernel_rfl⟩
instance : FldI Try.prog 32 1 1 := ⟨by kernel_rfl⟩
instance : ConcI Try.prog 32 := ⟨by kernel_rfl⟩
instance : UndI Try.prog 33 := ⟨⟨_, Try.underlying33⟩⟩
instance : TyI Try.prog 33 2 true := ⟨by kernel_rfl⟩
instance : ZeroI Try.prog 33 #[.slice none 0 0, .int .i64 0] := ⟨by kernel_rfl⟩
instance : FtI Try.prog 33 0 31 := ⟨by kernel_rfl⟩
instance : FldI Try.prog 33 0 0 := ⟨by kernel_rfl⟩
instance : FtI Try.prog 33 1 3 := ⟨by kernel_rfl⟩
instance : FldI Try.prog 33 1 1 := ⟨by kernel_rfl⟩
instance : ConcI Try.prog 33 := ⟨by kernel_rfl⟩
instance : UndI Try.prog 34 := ⟨⟨_, Try.underlying34⟩⟩
instance : TyI Try.prog 34 1 false := ⟨by kernel_rfl⟩
instance : ZeroI Try.prog 34 #[.slice none 0 0] := ⟨by kernel_rfl⟩
instance : ElI Try.prog 34 55 1 := ⟨by kernel_rfl⟩
instance : ElzI Try.prog 34 55 1 8 (.int .u64 0) := ⟨by kernel_rfl⟩
instance : ConcI Try.prog 34 := ⟨by kernel_rfl⟩
instance : UndI Try.prog 35 := ⟨⟨_, Try.underlying35⟩⟩
instance : TyI Try.prog 35 1 false := ⟨by kernel_rfl⟩
instance : ZeroI Try.prog 35 #[.slice none 0 0] := ⟨by kernel_rfl⟩
instance : ElI Try.prog 35 37 5 := ⟨by kernel_rfl⟩
instance : ElzI Try.prog 35 37 5 88 (.agg #[.int .i64 0, .int .i64 0, .slice none 0 0, .slice none 0 0, .slice none 0 0]) := ⟨by kernel_rfl⟩
instance : ConcI Try.prog 35 := ⟨by kernel_rfl⟩
instance : UndI Try.prog 36 := ⟨⟨_, Try.underlying36⟩⟩
instance : TyI Try.prog 36 5 true := ⟨by kernel_rfl⟩
instance : ZeroI Try.prog 36 #[.int .i64 0, .int .i64 0, .slice none 0 0, .slice none 0 0, .slice none 0 0] := ⟨by kernel_rfl⟩
instance : FtI Try.prog 36 0 3 := ⟨by kernel_rfl⟩
instance : FldI Try.prog 36 0 0 := ⟨by kernel_rfl⟩
instance : FtI Try.prog 36 1 3 := ⟨by kernel_rfl⟩
instance : FldI Try.prog 36 1 1 := ⟨by kernel_rfl⟩
instance : FtI Try.prog 36 2 34 := ⟨by kernel_rfl⟩
instance : FldI Try.prog 36 2 2 := ⟨by kernel_rfl⟩
instance : FtI Try.prog 36 3 24 := ⟨by kernel_rfl⟩
instance : FldI Try.prog 36 3 3 := ⟨by kernel_rfl⟩
instance : FtI Try.prog 36 4 35 := ⟨by kernel_rfl⟩
instance : FldI Try.prog 36 4 4 := ⟨by kernel_rfl⟩
instance : ConcI Try.prog 36 := ⟨by kernel_rfl⟩
instance : UndI Try.prog 37 := ⟨⟨_, Try.underlying37⟩⟩
instance : TyI Try.prog 37 5 true := ⟨by kernel_rfl⟩
instance : ZeroI Try.prog 37 #[.int .i64 0, .int .i64 0, .slice none 0 0, .slice none 0 0, .slice none 0 0] := ⟨by kernel_rfl⟩
instance : FtI Try.prog 37 0 3 := ⟨by kernel_rfl⟩
instance : FldI Try.prog 37 0 0 := ⟨by kernel_rfl⟩
instance : FtI Try.prog 37 1 3 := ⟨by kernel_rfl⟩
instance : FldI Try.prog 37 1 1 := ⟨by kernel_rfl⟩
instance : FtI Try.prog 37 2 34 := ⟨by kernel_rfl⟩
instance : FldI Try.prog 37 2 2 := ⟨by kernel_rfl⟩
instance : FtI Try.prog 37 3 24 := ⟨by kernel_rfl⟩
instance : FldI Try.prog 37 3 3 := ⟨by kernel_rfl⟩
instance : FtI Try.prog 37 4 35 := ⟨by kernel_rfl⟩
instance : FldI Try.prog 37 4 4 := ⟨by kernel_rfl⟩
instance : ConcI Try.prog 37 := ⟨by kernel_rfl⟩
instance : UndI Try.prog 39 := ⟨⟨_, Try.underlying39⟩⟩
instance : TyI Try.prog 39 1 false := ⟨by kernel_rfl⟩
instance : ZeroI Try.prog 39 #[.nilFunc] := ⟨by kernel_rfl⟩
instance : ConcI Try.prog 39 := ⟨by kernel_rfl⟩
instance : UndI Try.prog 40 := ⟨⟨_, Try.underlying40⟩⟩
instance : TyI Try.prog 40 1 false := ⟨by kernel_rfl⟩
instance : ZeroI Try.prog 40 #[.nilFunc] := ⟨by kernel_rfl⟩
instance : ConcI Try.prog 40 := ⟨by kernel_rfl⟩
instance : UndI Try.prog 41 := ⟨⟨_, Try.underlying41⟩⟩
instance : TyI Try.prog 41 1 false := ⟨by kernel_rfl⟩
instance : ZeroI Try.prog 41 #[.nilFunc] := ⟨by kernel_rfl⟩
instance : ConcI Try.prog 41 := ⟨by kernel_rfl⟩
instance : UndI Try.prog 42 := ⟨⟨_, Try.underlying42⟩⟩
instance : TyI Try.prog 42 1 false := ⟨by kernel_rfl⟩
instance : ZeroI Try.prog 42 #[.nilFunc] := ⟨by kernel_rfl⟩
instance : ConcI Try.prog 42 := ⟨by kernel_rfl⟩
instance : UndI Try.prog 43 := ⟨⟨_, Try.underlying43⟩⟩
instance : TyI Try.prog 43 1 false := ⟨by kernel_rfl⟩
instance : ZeroI Try.prog 43 #[.nilFunc] := ⟨by kernel_rfl⟩
instance : ConcI Try.prog 43 := ⟨by kernel_rfl⟩
instance : UndI Try.prog 44 := ⟨⟨_, Try.underlying44⟩⟩
instance : TyI Try.prog 44 1 false := ⟨by kernel_rfl⟩
instance : ZeroI Try.prog 44 #[.nilFunc] := ⟨by kernel_rfl⟩
instance : ConcI Try.prog 44 := ⟨by kernel_rfl⟩
instance : UndI Try.prog 46 := ⟨⟨_, Try.underlying46⟩⟩
instance : TyI Try.prog 46 1 false := ⟨by kernel_rfl⟩
instance : ZeroI Try.prog 46 #[.nilFunc] := ⟨by kernel_rfl⟩
instance : ConcI Try.prog 46 := ⟨by kernel_rfl⟩
instance : UndI Try.prog 47 := ⟨⟨_, Try.underlying47⟩⟩
instance : TyI Try.prog 47 1 false := ⟨by kernel_rfl⟩
instance : ZeroI Try.prog 47 #[.int .u16 0] := ⟨by kernel_rfl⟩
instance : IntI Try.prog 47 .u16 := ⟨Try.underlying47⟩
instance : ConcI Try.prog 47 := ⟨by kernel_rfl⟩
instance : UndI Try.prog 48 := ⟨⟨_, Try.underlying48⟩⟩
instance : TyI Try.prog 48 1 false := ⟨by kernel_rfl⟩
instance : ZeroI Try.prog 48 #[.int .u16 0] := ⟨by kernel_rfl⟩
instance : IntI Try.prog 48 .u16 := ⟨Try.underlying48⟩
instance : ConcI Try.prog 48 := ⟨by kernel_rfl⟩
instance : UndI Try.prog 50 := ⟨⟨_, Try.underlying50⟩⟩
instance : TyI Try.prog 50 1 false := ⟨by kernel_rfl⟩
instance : ZeroI Try.prog 50 #[.nilFunc] := ⟨by kernel_rfl⟩
instance : ConcI Try.prog 50 := ⟨by kernel_rfl⟩
instance : UndI Try.prog 51 := ⟨⟨_, Try.underlying51⟩⟩
instance : TyI Try.prog 51 1 false := ⟨by kernel_rfl⟩
instance : ZeroI Try.prog 51 #[.nilFunc] := ⟨by kernel_rfl⟩
instance : ConcI Try.prog 51 := ⟨by kernel_rfl⟩
instance : UndI Try.prog 52 := ⟨⟨_, Try.underlying52⟩⟩
instance : TyI Try.prog 52 1 false := ⟨by kernel_rfl⟩
instance : ZeroI Try.prog 52 #[.nilFunc] := ⟨by kernel_rfl⟩
instance : ConcI Try.prog 52 := ⟨by kernel_rfl⟩
instance : UndI Try.prog 53 := ⟨⟨_, Try.underlying53⟩⟩
instance : TyI Try.prog 53 1 false := ⟨by kernel_rfl⟩
instance : ZeroI Try.prog 53 #[.slice none 0 0] := ⟨by kernel_rfl⟩
instance : ElI Try.prog 53 33 2 := ⟨by kernel_rfl⟩
instance : ElzI Try.prog 53 33 2 32 (.agg #[.slice none 0 0, .int .i64 0]) := ⟨by kernel_rfl⟩
instance : ConcI Try.prog 53 := ⟨by kernel_rfl⟩
instance : UndI Try.prog 54 := ⟨⟨_, Try.underlying54⟩⟩
instance : TyI Try.prog 54 1 false := ⟨by kernel_rfl⟩
instance : ZeroI Try.prog 54 #[.nilFunc] := ⟨by kernel_rfl⟩
instance : ConcI Try.prog 54 := ⟨by kernel_rfl⟩
instance : UndI Try.prog 55 := ⟨⟨_, Try.underlying55⟩⟩
instance : TyI Try.prog 55 1 false := ⟨by kernel_rfl⟩
instance : ZeroI Try.prog 55 #[.int .u64 0] := ⟨by kernel_rfl⟩
instance : IntI Try.prog 55 .u64 := ⟨Try.underlying55⟩
instance : ConcI Try.prog 55 := ⟨by kernel_rfl⟩
instance : UndI Try.prog 56 := ⟨⟨_, Try.underlying56⟩⟩
instance : TyI Try.prog 56 5 true := ⟨by kernel_rfl⟩
instance : ZeroI Try.prog 56 #[.int .i64 0, .int .i64 0, .int .i64 0, .int .i64 0, .int .u64 0] := ⟨by kernel_rfl⟩
instance : FlatI Try.prog 56 [.i .i64, .i .i64, .i .i64, .i .i64, .i .u64] := ⟨by kernel_rfl⟩
instance : FtI Try.prog 56 0 3 := ⟨by kernel_rfl⟩
instance : FldI Try.prog 56 0 0 := ⟨by kernel_rfl⟩
instance : FtI Try.prog 56 1 3 := ⟨by kernel_rfl⟩
instance : FldI Try.prog 56 1 1 := ⟨by kernel_rfl⟩
instance : FtI Try.prog 56 2 3 := ⟨by kernel_rfl⟩
instance : FldI Try.prog 56 2 2 := ⟨by kernel_rfl⟩
instance : FtI Try.prog 56 3 3 := ⟨by kernel_rfl⟩
instance : FldI Try.prog 56 3 3 := ⟨by kernel_rfl⟩
instance : FtI Try.prog 56 4 55 := ⟨by kernel_rfl⟩
instance : FldI Try.prog 56 4 4 := ⟨by kernel_rfl⟩
instance : ConcI Try.prog 56 := ⟨by kernel_rfl⟩
instance : UndI Try.prog 57 := ⟨⟨_, Try.underlying57⟩⟩
instance : TyI Try.prog 57 5 true := ⟨by kernel_rfl⟩
instance : ZeroI Try.prog 57 #[.int .i64 0, .int .i64 0, .int .i64 0, .int .i64 0, .int .u64 0] := ⟨by kernel_rfl⟩
instance : FlatI Try.prog 57 [.i .i64, .i .i64, .i .i64, .i .i64, .i .u64] := ⟨by kernel_rfl⟩
instance : FtI Try.prog 57 0 3 := ⟨by kernel_rfl⟩
instance : FldI Try.prog 57 0 0 := ⟨by kernel_rfl⟩
instance : FtI Try.prog 57 1 3 := ⟨by kernel_rfl⟩
instance : FldI Try.prog 57 1 1 := ⟨by kernel_rfl⟩
instance : FtI Try.prog 57 2 3 := ⟨by kernel_rfl⟩
instance : FldI Try.prog 57 2 2 := ⟨by kernel_rfl⟩
instance : FtI Try.prog 57 3 3 := ⟨by kernel_rfl⟩
instance : FldI Try.prog 57 3 3 := ⟨by kernel_rfl⟩
instance : FtI Try.prog 57 4 55 := ⟨by kernel_rfl⟩
instance : FldI Try.prog 57 4 4 := ⟨by kernel_rfl⟩
instance : ConcI Try.prog 57 := ⟨by kernel_rfl⟩
instance : UndI Try.prog 59 := ⟨⟨_, Try.underlying59⟩⟩
instance : TyI Try.prog 59 1 false := ⟨by kernel_rfl⟩
instance : ZeroI Try.prog 59 #[.nilFunc] := ⟨by kernel_rfl⟩
instance : ConcI Try.prog 59 := ⟨by kernel_rfl⟩
instance : UndI Try.prog 60 := ⟨⟨_, Try.underlying60⟩⟩
instance : TyI Try.prog 60 1 false := ⟨by kernel_rfl⟩
instance : ZeroI Try.prog 60 #[.nilFunc] := ⟨by kernel_rfl⟩
instance : ConcI Try.prog 60 := ⟨by kernel_rfl⟩
instance : UndI Try.prog 62 := ⟨⟨_, Try.underlying62⟩⟩
instance : TyI Try.prog 62 1 false := ⟨by kernel_rfl⟩
instance : ZeroI Try.prog 62 #[.nilFunc] := ⟨by kernel_rfl⟩
instance : ConcI Try.prog 62 := ⟨by kernel_rfl⟩
instance : UndI Try.prog 63 := ⟨⟨_, Try.underlying63⟩⟩
instance : TyI Try.prog 63 1 false := ⟨by kernel_rfl⟩
instance : ZeroI Try.prog 63 #[.nilFunc] := ⟨by kernel_rfl⟩
instance : ConcI Try.prog 63 := ⟨by kernel_rfl⟩
instance : UndI Try.prog 65 := ⟨⟨_, Try.underlying65⟩⟩
instance : TyI Try.prog 65 1 false := ⟨by kernel_rfl⟩
instance : ZeroI Try.prog 65 #[.nilFunc] := ⟨by kernel_rfl⟩
instance : ConcI Try.prog 65 := ⟨by kernel_rfl⟩
instance : UndI Try.prog 66 := ⟨⟨_, Try.underlying66⟩⟩
instance : TyI Try.prog 66 8 true := ⟨by kernel_rfl⟩
instance : ZeroI Try.prog 66 #[.int .i64 0, .int .i64 0, .int .i64 0, .int .i64 0, .int .i64 0, .int .i64 0, .int .i64 0, .bool false] := ⟨by kernel_rfl⟩
instance : FlatI Try.prog 66 [.i .i64, .i .i64, .i .i64, .i .i64, .i .i64, .i .i64, .i .i64, .b] := ⟨by kernel_rfl⟩
instance : FtI Try.prog 66 0 3 := ⟨by kernel_rfl⟩
instance : FldI Try.prog 66 0 0 := ⟨by kernel_rfl⟩
instance : FtI Try.prog 66 1 3 := ⟨by kernel_rfl⟩
instance : FldI Try.prog 66 1 1 := ⟨by kernel_rfl⟩
instance : FtI Try.prog 66 2 3 := ⟨by kernel_rfl⟩
instance : FldI Try.prog 66 2 2 := ⟨by kernel_rfl⟩
instance : FtI Try.prog 66 3 3 := ⟨by kernel_rfl⟩
instance : FldI Try.prog 66 3 3 := ⟨by kernel_rfl⟩
instance : FtI Try.prog 66 4 3 := ⟨by kernel_rfl⟩
instance : FldI Try.prog 66 4 4 := ⟨by kernel_rfl⟩
instance : FtI Try.prog 66 5 3 := ⟨by kernel_rfl⟩
instance : FldI Try.prog 66 5 5 := ⟨by kernel_rfl⟩
instance : FtI Try.prog 66 6 3 := ⟨by kernel_rfl⟩
instance : FldI Try.prog 66 6 6 := ⟨by kernel_rfl⟩
instance : FtI Try.prog 66 7 4 := ⟨by kernel_rfl⟩
instance : FldI Try.prog 66 7 7 := ⟨by kernel_rfl⟩
instance : ConcI Try.prog 66 := ⟨by kernel_rfl⟩
instance : UndI Try.prog 67 := ⟨⟨_, Try.underlying67⟩⟩
instance : TyI Try.prog 67 8 true := ⟨by kernel_rfl⟩
instance : ZeroI Try.prog 67 #[.int .i64 0, .int .i64 0, .int .i64 0, .int .i64 0, .int .i64 0, .int .i64 0, .int .i64 0, .bool false] := ⟨by kernel_rfl⟩
instance : FlatI Try.prog 67 [.i .i64, .i .i64, .i .i64, .i .i64, .i .i64, .i .i64, .i .i64, .b] := ⟨by kernel_rfl⟩
instance : FtI Try.prog 67 0 3 := ⟨by kernel_rfl⟩
instance : FldI Try.prog 67 0 0 := ⟨by kernel_rfl⟩
instance : FtI Try.prog 67 1 3 := ⟨by kernel_rfl⟩
instance : FldI Try.prog 67 1 1 := ⟨by kernel_rfl⟩
instance : FtI Try.prog 67 2 3 := ⟨by kernel_rfl⟩
instance : FldI Try.prog 67 2 2 := ⟨by kernel_rfl⟩
instance : FtI Try.prog 67 3 3 := ⟨by kernel_rfl⟩
instance : FldI Try.prog 67 3 3 := ⟨by kernel_rfl⟩
instance : FtI Try.prog 67 4 3 := ⟨by kernel_rfl⟩
instance : FldI Try.prog 67 4 4 := ⟨by kernel_rfl⟩
instance : FtI Try.prog 67 5 3 := ⟨by kernel_rfl⟩
instance : FldI Try.prog 67 5 5 := ⟨by kernel_rfl⟩
instance : FtI Try.prog 67 6 3 := ⟨by kernel_rfl⟩
instance : FldI Try.prog 67 6 6 := ⟨by kernel_rfl⟩
instance : FtI Try.prog 67 7 4 := ⟨by kernel_rfl⟩
instance : FldI Try.prog 67 7 7 := ⟨by kernel_rfl⟩
instance : ConcI Try.prog 67 := ⟨by kernel_rfl⟩
instance : UndI Try.prog 68 := ⟨⟨_, Try.underlying68⟩⟩
instance : TyI Try.prog 68 1 false := ⟨by kernel_rfl⟩
instance : ZeroI Try.prog 68 #[.nilFunc] := ⟨by kernel_rfl⟩
instance : ConcI Try.prog 68 := ⟨by kernel_rfl⟩
instance : UndI Try.prog 69 := ⟨⟨_, Try.underlying69⟩⟩
instance : TyI Try.prog 69 1 false := ⟨by kernel_rfl⟩
instance : ZeroI Try.prog 69 #[.nilFunc] := ⟨by kernel_rfl⟩
instance : ConcI Try.prog 69 := ⟨by kernel_rfl⟩
instance : UndI Try.prog 70 := ⟨⟨_, Try.underlying70⟩⟩
instance : TyI Try.prog 70 1 false := ⟨by kernel_rfl⟩
instance : ZeroI Try.prog 70 #[.nilFunc] := ⟨by kernel_rfl⟩
instance : ConcI Try.prog 70 := ⟨by kernel_rfl⟩
instance : UndI Try.prog 71 := ⟨⟨_, Try.underlying71⟩⟩
instance : TyI Try.prog 71 1 false := ⟨by kernel_rfl⟩
instance : ZeroI Try.prog 71 #[.nilFunc] := ⟨by kernel_rfl⟩
instance : ConcI Try.prog 71 := ⟨by kernel_rfl⟩
instance : UndI Try.prog 73 := ⟨⟨_, Try.underlying73⟩⟩
instance : TyI Try.prog 73 1 false := ⟨by kernel_rfl⟩
instance : ZeroI Try.prog 73 #[.nilFunc] := ⟨by kernel_rfl⟩
instance : ConcI Try.prog 73 := ⟨by kernel_rfl⟩
instance : UndI Try.prog 74 := ⟨⟨_, Try.underlying74⟩⟩
instance : TyI Try.prog 74 1 false := ⟨by kernel_rfl⟩
instance : ZeroI Try.prog 74 #[.int .u64 0] := ⟨by kernel_rfl⟩
instance : IntI Try.prog 74 .u64 := ⟨Try.underlying74⟩
instance : ConcI Try.prog 74 := ⟨by kernel_rfl⟩
instance : UndI Try.prog 75 := ⟨⟨_, Try.underlying75⟩⟩
instance : TyI Try.prog 75 1 false := ⟨by kernel_rfl⟩
instance : ZeroI Try.prog 75 #[.nilFunc] := ⟨by kernel_rfl⟩
instance : ConcI Try.prog 75 := ⟨by kernel_rfl⟩
instance : UndI Try.prog 76 := ⟨⟨_, Try.underlying76⟩⟩
instance : TyI Try.prog 76 1 false := ⟨by kernel_rfl⟩
instance : ZeroI Try.prog 76 #[.nilFunc] := ⟨by kernel_rfl⟩
instance : ConcI Try.prog 76 := ⟨by kernel_rfl⟩
instance : UndI Try.prog 77 := ⟨⟨_, Try.underlying77⟩⟩
instance : TyI Try.prog 77 3 true := ⟨by kernel_rfl⟩
instance : ZeroI Try.prog 77 #[.slice none 0 0, .int .i64 0, .bool false] := ⟨by kernel_rfl⟩
instance : FtI Try.prog 77 0 23 := ⟨by kernel_rfl⟩
instance : FldI Try.prog 77 0 0 := ⟨by kernel_rfl⟩
instance : FtI Try.prog 77 1 3 := ⟨by kernel_rfl⟩
instance : FldI Try.prog 77 1 1 := ⟨by kernel_rfl⟩
instance : FtI Try.prog 77 2 4 := ⟨by kernel_rfl⟩
instance : FldI Try.prog 77 2 2 := ⟨by kernel_rfl⟩
instance : ConcI Try.prog 77 := ⟨by kernel_rfl⟩
instance : UndI Try.prog 78 := ⟨⟨_, Try.underlying78⟩⟩
instance : TyI Try.prog 78 3 true := ⟨by kernel_rfl⟩
instance : ZeroI Try.prog 78 #[.slice none 0 0, .int .i64 0, .bool false] := ⟨by kernel_rfl⟩
instance : FtI Try.prog 78 0 23 := ⟨by kernel_rfl⟩
instance : FldI Try.prog 78 0 0 := ⟨by kernel_rfl⟩
instance : FtI Try.prog 78 1 3 := ⟨by kernel_rfl⟩
instance : FldI Try.prog 78 1 1 := ⟨by kernel_rfl⟩
instance : FtI Try.prog 78 2 4 := ⟨by kernel_rfl⟩
instance : FldI Try.prog 78 2 2 := ⟨by kernel_rfl⟩
instance : ConcI Try.prog 78 := ⟨by kernel_rfl⟩
instance : UndI Try.prog 79 := ⟨⟨_, Try.underlying79⟩⟩
instance : TyI Try.prog 79 1 false := ⟨by kernel_rfl⟩
instance : ZeroI Try.prog 79 #[.nilFunc] := ⟨by kernel_rfl⟩
instance : ConcI Try.prog 79 := ⟨by kernel_rfl⟩
instance : UndI Try.prog 80 := ⟨⟨_, Try.underlying80⟩⟩
instance : TyI Try.prog 80 1 false := ⟨by kernel_rfl⟩
instance : ZeroI Try.prog 80 #[.pointer none] := ⟨by kernel_rfl⟩
instance : ConcI Try.prog 80 := ⟨by kernel_rfl⟩
instance : UndI Try.prog 81 := ⟨⟨_, Try.underlying81⟩⟩
instance : TyI Try.prog 81 1 false := ⟨by kernel_rfl⟩
instance : ZeroI Try.prog 81 #[.nilIface] := ⟨by kernel_rfl⟩
instance : UndI Try.prog 82 := ⟨⟨_, Try.underlying82⟩⟩
instance : TyI Try.prog 82 1 false := ⟨by kernel_rfl⟩
instance : ZeroI Try.prog 82 #[.nilIface] := ⟨by kernel_rfl⟩
instance : UndI Try.prog 83 := ⟨⟨_, Try.underlying83⟩⟩
instance : TyI Try.prog 83 1 false := ⟨by kernel_rfl⟩
instance : ZeroI Try.prog 83 #[.nilFunc] := ⟨by kernel_rfl⟩
instance : ConcI Try.prog 83 := ⟨by kernel_rfl⟩
instance : UndI Try.prog 84 := ⟨⟨_, Try.underlying84⟩⟩
instance : TyI Try.prog 84 2 true := ⟨by kernel_rfl⟩
instance : ZeroI Try.prog 84 #[.nilIface, .int .i64 0] := ⟨by kernel_rfl⟩
instance : FtI Try.prog 84 0 82 := ⟨by kernel_rfl⟩
instance : FldI Try.prog 84 0 0 := ⟨by kernel_rfl⟩
instance : FtI Try.prog 84 1 3 := ⟨by kernel_rfl⟩
instance : FldI Try.prog 84 1 1 := ⟨by kernel_rfl⟩
instance : ConcI Try.prog 84 := ⟨by kernel_rfl⟩
instance : UndI Try.prog 85 := ⟨⟨_, Try.underlying85⟩⟩
instance : TyI Try.prog 85 2 true := ⟨by kernel_rfl⟩
instance : ZeroI Try.prog 85 #[.nilIface, .int .i64 0] := ⟨by kernel_rfl⟩
instance : FtI Try.prog 85 0 82 := ⟨by kernel_rfl⟩
instance : FldI Try.prog 85 0 0 := ⟨by kernel_rfl⟩
instance : FtI Try.prog 85 1 3 := ⟨by kernel_rfl⟩
instance : FldI Try.prog 85 1 1 := ⟨by kernel_rfl⟩
instance : ConcI Try.prog 85 := ⟨by kernel_rfl⟩
instance : UndI Try.prog 86 := ⟨⟨_, Try.underlying86⟩⟩
instance : TyI Try.prog 86 1 false := ⟨by kernel_rfl⟩
instance : ZeroI Try.prog 86 #[.nilFunc] := ⟨by kernel_rfl⟩
instance : ConcI Try.prog 86 := ⟨by kernel_rfl⟩
instance : UndI Try.prog 87 := ⟨⟨_, Try.underlying87⟩⟩
instance : TyI Try.prog 87 1 false := ⟨by kernel_rfl⟩
instance : ZeroI Try.prog 87 #[.nilFunc] := ⟨by kernel_rfl⟩
instance : ConcI Try.prog 87 := ⟨by kernel_rfl⟩
instance : UndI Try.prog 88 := ⟨⟨_, Try.underlying88⟩⟩
instance : TyI Try.prog 88 1 false := ⟨by kernel_rfl⟩
instance : ZeroI Try.prog 88 #[.nilFunc] := ⟨by kernel_rfl⟩
instance : ConcI Try.prog 88 := ⟨by kernel_rfl⟩
instance : UndI Try.prog 89 := ⟨⟨_, Try.underlying89⟩⟩
instance : TyI Try.prog 89 1 false := ⟨by kernel_rfl⟩
instance : ZeroI Try.prog 89 #[.nilFunc] := ⟨by kernel_rfl⟩
instance : ConcI Try.prog 89 := ⟨by kernel_rfl⟩
instance : UndI Try.prog 90 := ⟨⟨_, Try.underlying90⟩⟩
instance : TyI Try.prog 90 1 false := ⟨by kernel_rfl⟩
instance : ZeroI Try.prog 90 #[.nilFunc] := ⟨by kernel_rfl⟩
instance : ConcI Try.prog 90 := ⟨by kernel_rfl⟩
instance : UndI Try.prog 91 := ⟨⟨_, Try.underlying91⟩⟩
instance : TyI Try.prog 91 1 false := ⟨by kernel_rfl⟩
instance : ZeroI Try.prog 91 #[.nilFunc] := ⟨by kernel_rfl⟩
instance : ConcI Try.prog 91 := ⟨by kernel_rfl⟩
instance : UndI Try.prog 92 := ⟨⟨_, Try.underlying92⟩⟩
instance : TyI Try.prog 92 1 false := ⟨by kernel_rfl⟩
instance : ZeroI Try.prog 92 #[.nilFunc] := ⟨by kernel_rfl⟩
instance : ConcI Try.prog 92 := ⟨by kernel_rfl⟩
instance : UndI Try.prog 94 := ⟨⟨_, Try.underlying94⟩⟩
instance : TyI Try.prog 94 1 false := ⟨by kernel_rfl⟩
instance : ZeroI Try.prog 94 #[.nilFunc] := ⟨by kernel_rfl⟩
instance : ConcI Try.prog 94 := ⟨by kernel_rfl⟩
instance : UndI Try.prog 95 := ⟨⟨_, Try.underlying95⟩⟩
instance : TyI Try.prog 95 1 false := ⟨by kernel_rfl⟩
instance : ZeroI Try.prog 95 #[.nilFunc] := ⟨by kernel_rfl⟩
instance : ConcI Try.prog 95 := ⟨by kernel_rfl⟩
instance : UndI Try.prog 96 := ⟨⟨_, Try.underlying96⟩⟩
instance : TyI Try.prog 96 1 false := ⟨by kernel_rfl⟩
instance : ZeroI Try.prog 96 #[.slice none 0 0] := ⟨by kernel_rfl⟩
instance : ElI Try.prog 96 4 1 := ⟨by kernel_rfl⟩
instance : ElzI Try.prog 96 4 1 1 (.bool false) := ⟨by kernel_rfl⟩
instance : ConcI Try.prog 96 := ⟨by kernel_rfl⟩
instance : UndI Try.prog 97 := ⟨⟨_, Try.underlying97⟩⟩
instance : TyI Try.prog 97 3 true := ⟨by kernel_rfl⟩
instance : ZeroI Try.prog 97 #[.slice none 0 0, .bool false, .slice none 0 0] := ⟨by kernel_rfl⟩
instance : FtI Try.prog 97 0 23 := ⟨by kernel_rfl⟩
instance : FldI Try.prog 97 0 0 := ⟨by kernel_rfl⟩
instance : FtI Try.prog 97 1 4 := ⟨by kernel_rfl⟩
instance : FldI Try.prog 97 1 1 := ⟨by kernel_rfl⟩
instance : FtI Try.prog 97 2 96 := ⟨by kernel_rfl⟩
instance : FldI Try.prog 97 2 2 := ⟨by kernel_rfl⟩
instance : ConcI Try.prog 97 := ⟨by kernel_rfl⟩
instance : UndI Try.prog 98 := ⟨⟨_, Try.underlying98⟩⟩
instance : TyI Try.prog 98 3 true := ⟨by kernel_rfl⟩
instance : ZeroI Try.prog 98 #[.slice none 0 0, .bool false, .slice none 0 0] := ⟨by kernel_rfl⟩
instance : FtI Try.prog 98 0 23 := ⟨by kernel_rfl⟩
instance : FldI Try.prog 98 0 0 := ⟨by kernel_rfl⟩
instance : FtI Try.prog 98 1 4 := ⟨by kernel_rfl⟩
instance : FldI Try.prog 98 1 1 := ⟨by kernel_rfl⟩
instance : FtI Try.prog 98 2 96 := ⟨by kernel_rfl⟩
instance : FldI Try.prog 98 2 2 := ⟨by kernel_rfl⟩
instance : ConcI Try.prog 98 := ⟨by kernel_rfl⟩
instance : UndI Try.prog 99 := ⟨⟨_, Try.underlying99⟩⟩
instance : TyI Try.prog 99 1 false := ⟨by kernel_rfl⟩
instance : ZeroI Try.prog 99 #[.nilFunc] := ⟨by kernel_rfl⟩
instance : ConcI Try.prog 99 := ⟨by kernel_rfl⟩
instance : UndI Try.prog 101 := ⟨⟨_, Try.underlying101⟩⟩
instance : TyI Try.prog 101 1 false := ⟨by kernel_rfl⟩
instance : ZeroI Try.prog 101 #[.nilFunc] := ⟨by kernel_rfl⟩
instance : ConcI Try.prog 101 := ⟨by kernel_rfl⟩
instance : UndI Try.prog 102 := ⟨⟨_, Try.underlying102⟩⟩
instance : TyI Try.prog 102 1 false := ⟨by kernel_rfl⟩
instance : ZeroI Try.prog 102 #[.nilFunc] := ⟨by kernel_rfl⟩
instance : ConcI Try.prog 102 := ⟨by kernel_rfl⟩
instance : UndI Try.prog 103 := ⟨⟨_, Try.underlying103⟩⟩
instance : TyI Try.prog 103 5 true := ⟨by kernel_rfl⟩
instance : ZeroI Try.prog 103 #[.slice none 0 0, .bool false, .slice none 0 0, .int .i64 0, .int .i64 0] := ⟨by kernel_rfl⟩
instance : FtI Try.prog 103 0 98 := ⟨by kernel_rfl⟩
instance : FldI Try.prog 103 0 0 := ⟨by kernel_rfl⟩
instance : FtI Try.prog 103 1 3 := ⟨by kernel_rfl⟩
instance : FldI Try.prog 103 1 3 := ⟨by kernel_rfl⟩
instance : FtI Try.prog 103 2 3 := ⟨by kernel_rfl⟩
instance : FldI Try.prog 103 2 4 := ⟨by kernel_rfl⟩
instance : ConcI Try.prog 103 := ⟨by kernel_rfl⟩
instance : UndI Try.prog 104 := ⟨⟨_, Try.underlying104⟩⟩
instance : TyI Try.prog 104 5 true := ⟨by kernel_rfl⟩
instance : ZeroI Try.prog 104 #[.slice none 0 0, .bool false, .slice none 0 0, .int .i64 0, .int .i64 0] := ⟨by kernel_rfl⟩
instance : FtI Try.prog 104 0 98 := ⟨by kernel_rfl⟩
instance : FldI Try.prog 104 0 0 := ⟨by kernel_rfl⟩
instance : FtI Try.prog 104 1 3 := ⟨by kernel_rfl⟩
instance : FldI Try.prog 104 1 3 := ⟨by kernel_rfl⟩
instance : FtI Try.prog 104 2 3 := ⟨by kernel_rfl⟩
instance : FldI Try.prog 104 2 4 := ⟨by kernel_rfl⟩
instance : ConcI Try.prog 104 := ⟨by kernel_rfl⟩
instance : UndI Try.prog 106 := ⟨⟨_, Try.underlying106⟩⟩
instance : TyI Try.prog 106 1 false := ⟨by kernel_rfl⟩
instance : ZeroI Try.prog 106 #[.nilFunc] := ⟨by kernel_rfl⟩
instance : ConcI Try.prog 106 := ⟨by kernel_rfl⟩
instance : UndI Try.prog 107 := ⟨⟨_, Try.underlying107⟩⟩
instance : TyI Try.prog 107 1 false := ⟨by kernel_rfl⟩
instance : ZeroI Try.prog 107 #[.nilFunc] := ⟨by kernel_rfl⟩
instance : ConcI Try.prog 107 := ⟨by kernel_rfl⟩
instance : UndI Try.prog 108 := ⟨⟨_, Try.underlying108⟩⟩
instance : TyI Try.prog 108 1 false := ⟨by kernel_rfl⟩
instance : ZeroI Try.prog 108 #[.nilFunc] := ⟨by kernel_rfl⟩
instance : ConcI Try.prog 108 := ⟨by kernel_rfl⟩
instance : UndI Try.prog 109 := ⟨⟨_, Try.underlying109⟩⟩
instance : TyI Try.prog 109 1 false := ⟨by kernel_rfl⟩
instance : ZeroI Try.prog 109 #[.nilFunc] := ⟨by kernel_rfl⟩
instance : ConcI Try.prog 109 := ⟨by kernel_rfl⟩
instance : UndI Try.prog 110 := ⟨⟨_, Try.underlying110⟩⟩
instance : TyI Try.prog 110 1 false := ⟨by kernel_rfl⟩
instance : ZeroI Try.prog 110 #[.nilFunc] := ⟨by kernel_rfl⟩
instance : ConcI Try.prog 110 := ⟨by kernel_rfl⟩
instance : UndI Try.prog 111 := ⟨⟨_, Try.underlying111⟩⟩
instance : TyI Try.prog 111 1 false := ⟨by kernel_rfl⟩
instance : ZeroI Try.prog 111 #[.nilFunc] := ⟨by kernel_rfl⟩
instance : ConcI Try.prog 111 := ⟨by kernel_rfl⟩
instance : UndI Try.prog 112 := ⟨⟨_, Try.underlying112⟩⟩
instance : TyI Try.prog 112 1 false := ⟨by kernel_rfl⟩
instance : ZeroI Try.prog 112 #[.nilFunc] := ⟨by kernel_rfl⟩
instance : ConcI Try.prog 112 := ⟨by kernel_rfl⟩
instance : UndI Try.prog 113 := ⟨⟨_, Try.underlying113⟩⟩
instance : TyI Try.prog 113 1 false := ⟨by kernel_rfl⟩
instance : ZeroI Try.prog 113 #[.nilFunc] := ⟨by kernel_rfl⟩
instance : ConcI Try.prog 113 := ⟨by kernel_rfl⟩
instance : UndI Try.prog 114 := ⟨⟨_, Try.underlying114⟩⟩
instance : TyI Try.prog 114 1 false := ⟨by kernel_rfl⟩
instance : ZeroI Try.prog 114 #[.nilFunc] := ⟨by kernel_rfl⟩
instance : ConcI Try.prog 114 := ⟨by kernel_rfl⟩
instance : UndI Try.prog 115 := ⟨⟨_, Try.underlying115⟩⟩
instance : TyI Try.prog 115 1 false := ⟨by kernel_rfl⟩
instance : ZeroI Try.prog 115 #[.nilFunc] := ⟨by kernel_rfl⟩
instance : ConcI Try.prog 115 := ⟨by kernel_rfl⟩
instance : UndI Try.prog 116 := ⟨⟨_, Try.underlying116⟩⟩
instance : TyI Try.prog 116 1 false := ⟨by kernel_rfl⟩
instance : ZeroI Try.prog 116 #[.nilFunc] := ⟨by kernel_rfl⟩
instance : ConcI Try.prog 116 := ⟨by kernel_rfl⟩
instance : UndI Try.prog 117 := ⟨⟨_, Try.underlying117⟩⟩
instance : TyI Try.prog 117 1 true := ⟨by kernel_rfl⟩
instance : ZeroI Try.prog 117 #[.slice none 0 0] := ⟨by kernel_rfl⟩
instance : FtI Try.prog 117 0 23 := ⟨by kernel_rfl⟩
instance : FldI Try.prog 117 0 0 := ⟨by kernel_rfl⟩
instance : ConcI Try.prog 117 := ⟨by kernel_rfl⟩
instance : UndI Try.prog 118 := ⟨⟨_, Try.underlying118⟩⟩
instance : TyI Try.prog 118 1 true := ⟨by kernel_rfl⟩
instance : ZeroI Try.prog 118 #[.slice none 0 0] := ⟨by kernel_rfl⟩
instance : FtI Try.prog 118 0 23 := ⟨by kernel_rfl⟩
instance : FldI Try.prog 118 0 0 := ⟨by kernel_rfl⟩
instance : ConcI Try.prog 118 := ⟨by kernel_rfl⟩
instance : UndI Try.prog 119 := ⟨⟨_, Try.underlying119⟩⟩
instance : TyI Try.prog 119 7 true := ⟨by kernel_rfl⟩
instance : ZeroI Try.prog 119 #[.int .i64 0, .int .i64 0, .int .i64 0, .int .i64 0, .int .i64 0, .int .i64 0, .int .i64 0] := ⟨by kernel_rfl⟩
instance : FlatI Try.prog 119 [.i .i64, .i .i64, .i .i64, .i .i64, .i .i64, .i .i64, .i .i64] := ⟨by kernel_rfl⟩
instance : FtI Try.prog 119 0 3 := ⟨by kernel_rfl⟩
instance : FldI Try.prog 119 0 0 := ⟨by kernel_rfl⟩
instance : FtI Try.prog 119 1 3 := ⟨by kernel_rfl⟩
instance : FldI Try.prog 119 1 1 := ⟨by kernel_rfl⟩
instance : FtI Try.prog 119 2 3 := ⟨by kernel_rfl⟩
instance : FldI Try.prog 119 2 2 := ⟨by kernel_rfl⟩
instance : FtI Try.prog 119 3 3 := ⟨by kernel_rfl⟩
instance : FldI Try.prog 119 3 3 := ⟨by kernel_rfl⟩
instance : FtI Try.prog 119 4 3 := ⟨by kernel_rfl⟩
instance : FldI Try.prog 119 4 4 := ⟨by kernel_rfl⟩
instance : FtI Try.prog 119 5 3 := ⟨by kernel_rfl⟩
instance : FldI Try.prog 119 5 5 := ⟨by kernel_rfl⟩
instance : FtI Try.prog 119 6 3 := ⟨by kernel_rfl⟩
instance : FldI Try.prog 119 6 6 := ⟨by kernel_rfl⟩
instance : ConcI Try.prog 119 := ⟨by kernel_rfl⟩
instance : UndI Try.prog 120 := ⟨⟨_, Try.underlying120⟩⟩
instance : TyI Try.prog 120 7 true := ⟨by kernel_rfl⟩
instance : ZeroI Try.prog 120 #[.int .i64 0, .int .i64 0, .int .i64 0, .int .i64 0, .int .i64 0, .int .i64 0, .int .i64 0] := ⟨by kernel_rfl⟩
instance : FlatI Try.prog 120 [.i .i64, .i .i64, .i .i64, .i .i64, .i .i64, .i .i64, .i .i64] := ⟨by kernel_rfl⟩
instance : FtI Try.prog 120 0 3 := ⟨by kernel_rfl⟩
instance : FldI Try.prog 120 0 0 := ⟨by kernel_rfl⟩
instance : FtI Try.prog 120 1 3 := ⟨by kernel_rfl⟩
instance : FldI Try.prog 120 1 1 := ⟨by kernel_rfl⟩
instance : FtI Try.prog 120 2 3 := ⟨by kernel_rfl⟩
instance : FldI Try.prog 120 2 2 := ⟨by kernel_rfl⟩
instance : FtI Try.prog 120 3 3 := ⟨by kernel_rfl⟩
instance : FldI Try.prog 120 3 3 := ⟨by kernel_rfl⟩
instance : FtI Try.prog 120 4 3 := ⟨by kernel_rfl⟩
instance : FldI Try.prog 120 4 4 := ⟨by kernel_rfl⟩
instance : FtI Try.prog 120 5 3 := ⟨by kernel_rfl⟩
instance : FldI Try.prog 120 5 5 := ⟨by kernel_rfl⟩
instance : FtI Try.prog 120 6 3 := ⟨by kernel_rfl⟩
instance : FldI Try.prog 120 6 6 := ⟨by kernel_rfl⟩
instance : ConcI Try.prog 120 := ⟨by kernel_rfl⟩
instance : UndI Try.prog 122 := ⟨⟨_, Try.underlying122⟩⟩
instance : TyI Try.prog 122 1 false := ⟨by kernel_rfl⟩
instance : ZeroI Try.prog 122 #[.nilFunc] := ⟨by kernel_rfl⟩
instance : ConcI Try.prog 122 := ⟨by kernel_rfl⟩
instance : UndI Try.prog 123 := ⟨⟨_, Try.underlying123⟩⟩
instance : TyI Try.prog 123 1 false := ⟨by kernel_rfl⟩
instance : ZeroI Try.prog 123 #[.nilFunc] := ⟨by kernel_rfl⟩
instance : ConcI Try.prog 123 := ⟨by kernel_rfl⟩
instance : UndI Try.prog 124 := ⟨⟨_, Try.underlying124⟩⟩
instance : TyI Try.prog 124 1 false := ⟨by kernel_rfl⟩
instance : ZeroI Try.prog 124 #[.nilFunc] := ⟨by kernel_rfl⟩
instance : ConcI Try.prog 124 := ⟨by kernel_rfl⟩
instance : UndI Try.prog 125 := ⟨⟨_, Try.underlying125⟩⟩
instance : TyI Try.prog 125 1 false := ⟨by kernel_rfl⟩
instance : ZeroI Try.prog 125 #[.nilFunc] := ⟨by kernel_rfl⟩
instance : ConcI Try.prog 125 := ⟨by kernel_rfl⟩
instance : UndI Try.prog 126 := ⟨⟨_, Try.underlying126⟩⟩
instance : TyI Try.prog 126 1 false := ⟨by kernel_rfl⟩
instance : ZeroI Try.prog 126 #[.nilFunc] := ⟨by kernel_rfl⟩
instance : ConcI Try.prog 126 := ⟨by kernel_rfl⟩
instance : UndI Try.prog 127 := ⟨⟨_, Try.underlying127⟩⟩
instance : TyI Try.prog 127 1 false := ⟨by kernel_rfl⟩
instance : ZeroI Try.prog 127 #[.nilFunc] := ⟨by kernel_rfl⟩
instance : ConcI Try.prog 127 := ⟨by kernel_rfl⟩
instance : UndI Try.prog 128 := ⟨⟨_, Try.underlying128⟩⟩
instance : TyI Try.prog 128 1 false := ⟨by kernel_rfl⟩
instance : ZeroI Try.prog 128 #[.nilFunc] := ⟨by kernel_rfl⟩
instance : ConcI Try.prog 128 := ⟨by kernel_rfl⟩
instance : UndI Try.prog 130 := ⟨⟨_, Try.underlying130⟩⟩
instance : TyI Try.prog 130 1 false := ⟨by kernel_rfl⟩
instance : ZeroI Try.prog 130 #[.nilFunc] := ⟨by kernel_rfl⟩
instance : ConcI Try.prog 130 := ⟨by kernel_rfl⟩
instance : UndI Try.prog 131 := ⟨⟨_, Try.underlying131⟩⟩
instance : TyI Try.prog 131 1 false := ⟨by kernel_rfl⟩
instance : ZeroI Try.prog 131 #[.nilFunc] := ⟨by kernel_rfl⟩
instance : ConcI Try.prog 131 := ⟨by kernel_rfl⟩
instance : UndI Try.prog 132 := ⟨⟨_, Try.underlying132⟩⟩
instance : TyI Try.prog 132 1 false := ⟨by kernel_rfl⟩
instance : ZeroI Try.prog 132 #[.nilFunc] := ⟨by kernel_rfl⟩
instance : ConcI Try.prog 132 := ⟨by kernel_rfl⟩
instance : UndI Try.prog 133 := ⟨⟨_, Try.underlying133⟩⟩
instance : TyI Try.prog 133 1 false := ⟨by kernel_rfl⟩
instance : ZeroI Try.prog 133 #[.nilFunc] := ⟨by kernel_rfl⟩
instance : ConcI Try.prog 133 := ⟨by kernel_rfl⟩
instance : UndI Try.prog 134 := ⟨⟨_, Try.underlying134⟩⟩
instance : TyI Try.prog 134 1 false := ⟨by kernel_rfl⟩
instance : ZeroI Try.prog 134 #[.nilFunc] := ⟨by kernel_rfl⟩
instance : ConcI Try.prog 134 := ⟨by kernel_rfl⟩
instance : UndI Try.prog 135 := ⟨⟨_, Try.underlying135⟩⟩
instance : TyI Try.prog 135 1 false := ⟨by kernel_rfl⟩
instance : ZeroI Try.prog 135 #[.pointer none] := ⟨by kernel_rfl⟩
instance : ConcI Try.prog 135 := ⟨by kernel_rfl⟩
instance : UndI Try.prog 136 := ⟨⟨_, Try.underlying136⟩⟩
instance : TyI Try.prog 136 9 true := ⟨by kernel_rfl⟩
instance : ZeroI Try.prog 136 #[.nilIface, .int .i64 0, .int .i64 0, .int .i64 0, .int .i64 0, .int .i64 0, .int .i64 0, .int .i64 0, .int .i64 0] := ⟨by kernel_rfl⟩
instance : FtI Try.prog 136 0 82 := ⟨by kernel_rfl⟩
instance : FldI Try.prog 136 0 0 := ⟨by kernel_rfl⟩
instance : FtI Try.prog 136 1 120 := ⟨by kernel_rfl⟩
instance : FldI Try.prog 136 1 1 := ⟨by kernel_rfl⟩
instance : FtI Try.prog 136 2 3 := ⟨by kernel_rfl⟩
instance : FldI Try.prog 136 2 8 := ⟨by kernel_rfl⟩
instance : ConcI Try.prog 136 := ⟨by kernel_rfl⟩
instance : UndI Try.prog 137 := ⟨⟨_, Try.underlying137⟩⟩
instance : TyI Try.prog 137 9 true := ⟨by kernel_rfl⟩
instance : ZeroI Try.prog 137 #[.nilIface, .int .i64 0, .int .i64 0, .int .i64 0, .int .i64 0, .int .i64 0, .int .i64 0, .int .i64 0, .int .i64 0] := ⟨by kernel_rfl⟩
instance : FtI Try.prog 137 0 82 := ⟨by kernel_rfl⟩
instance : FldI Try.prog 137 0 0 := ⟨by kernel_rfl⟩
instance : FtI Try.prog 137 1 120 := ⟨by kernel_rfl⟩
instance : FldI Try.prog 137 1 1 := ⟨by kernel_rfl⟩
instance : FtI Try.prog 137 2 3 := ⟨by kernel_rfl⟩
instance : FldI Try.prog 137 2 8 := ⟨by kernel_rfl⟩
instance : ConcI Try.prog 137 := ⟨by kernel_rfl⟩
instance : UndI Try.prog 138 := ⟨⟨_, Try.underlying138⟩⟩
instance : TyI Try.prog 138 1 false := ⟨by kernel_rfl⟩
instance : ZeroI Try.prog 138 #[.nilFunc] := ⟨by kernel_rfl⟩
instance : ConcI Try.prog 138 := ⟨by kernel_rfl⟩
instance : UndI Try.prog 139 := ⟨⟨_, Try.underlying139⟩⟩
instance : TyI Try.prog 139 1 false := ⟨by kernel_rfl⟩
instance : ZeroI Try.prog 139 #[.nilFunc] := ⟨by kernel_rfl⟩
instance : ConcI Try.prog 139 := ⟨by kernel_rfl⟩
instance : UndI Try.prog 140 := ⟨⟨_, Try.underlying140⟩⟩
instance : TyI Try.prog 140 1 false := ⟨by kernel_rfl⟩
instance : ZeroI Try.prog 140 #[.nilFunc] := ⟨by kernel_rfl⟩
instance : ConcI Try.prog 140 := ⟨by kernel_rfl⟩
instance : UndI Try.prog 141 := ⟨⟨_, Try.underlying141⟩⟩
instance : TyI Try.prog 141 1 false := ⟨by kernel_rfl⟩
instance : ZeroI Try.prog 141 #[.nilFunc] := ⟨by kernel_rfl⟩
instance : ConcI Try.prog 141 := ⟨by kernel_rfl⟩
instance : UndI Try.prog 142 := ⟨⟨_, Try.underlying142⟩⟩
instance : TyI Try.prog 142 1 false := ⟨by kernel_rfl⟩
instance : ZeroI Try.prog 142 #[.nilFunc] := ⟨by kernel_rfl⟩
instance : ConcI Try.prog 142 := ⟨by kernel_rfl⟩
instance : UndI Try.prog 143 := ⟨⟨_, Try.underlying143⟩⟩
instance : TyI Try.prog 143 1 false := ⟨by kernel_rfl⟩
instance : ZeroI Try.prog 143 #[.nilFunc] := ⟨by kernel_rfl⟩
instance : ConcI Try.prog 143 := ⟨by kernel_rfl⟩
instance : UndI Try.prog 145 := ⟨⟨_, Try.underlying145⟩⟩
instance : TyI Try.prog 145 1 false := ⟨by kernel_rfl⟩
instance : ZeroI Try.prog 145 #[.nilFunc] := ⟨by kernel_rfl⟩
instance : ConcI Try.prog 145 := ⟨by kernel_rfl⟩
instance : UndI Try.prog 147 := ⟨⟨_, Try.underlying147⟩⟩
instance : TyI Try.prog 147 1 false := ⟨by kernel_rfl⟩
instance : ZeroI Try.prog 147 #[.nilFunc] := ⟨by kernel_rfl⟩
instance : ConcI Try.prog 147 := ⟨by kernel_rfl⟩
instance : UndI Try.prog 148 := ⟨⟨_, Try.underlying148⟩⟩
instance : TyI Try.prog 148 1 false := ⟨by kernel_rfl⟩
instance : ZeroI Try.prog 148 #[.nilFunc] := ⟨by kernel_rfl⟩
instance : ConcI Try.prog 148 := ⟨by kernel_rfl⟩
instance : UndI Try.prog 149 := ⟨⟨_, Try.underlying149⟩⟩
instance : TyI Try.prog 149 1 false := ⟨by kernel_rfl⟩
instance : ZeroI Try.prog 149 #[.nilFunc] := ⟨by kernel_rfl⟩
instance : ConcI Try.prog 149 := ⟨by kernel_rfl⟩
instance : UndI Try.prog 150 := ⟨⟨_, Try.underlying150⟩⟩
instance : TyI Try.prog 150 1 false := ⟨by kernel_rfl⟩
instance : ZeroI Try.prog 150 #[.nilFunc] := ⟨by kernel_rfl⟩
instance : ConcI Try.prog 150 := ⟨by kernel_rfl⟩
instance : UndI Try.prog 152 := ⟨⟨_, Try.underlying152⟩⟩
instance : TyI Try.prog 152 1 false := ⟨by kernel_rfl⟩
instance : ZeroI Try.prog 152 #[.nilFunc] := ⟨by kernel_rfl⟩
instance : ConcI Try.prog 152 := ⟨by kernel_rfl⟩
instance : UndI Try.prog 153 := ⟨⟨_, Try.underlying153⟩⟩
instance : TyI Try.prog 153 1 false := ⟨by kernel_rfl⟩
instance : ZeroI Try.prog 153 #[.nilFunc] := ⟨by kernel_rfl⟩
instance : ConcI Try.prog 153 := ⟨by kernel_rfl⟩
instance : UndI Try.prog 154 := ⟨⟨_, Try.underlying154⟩⟩
instance : TyI Try.prog 154 1 false := ⟨by kernel_rfl⟩
instance : ZeroI Try.prog 154 #[.nilFunc] := ⟨by kernel_rfl⟩
instance : ConcI Try.prog 154 := ⟨by kernel_rfl⟩
instance : UndI Try.prog 155 := ⟨⟨_, Try.underlying155⟩⟩
instance : TyI Try.prog 155 1 false := ⟨by kernel_rfl⟩
instance : ZeroI Try.prog 155 #[.nilFunc] := ⟨by kernel_rfl⟩
instance : ConcI Try.prog 155 := ⟨by kernel_rfl⟩
instance : UndI Try.prog 156 := ⟨⟨_, Try.underlying156⟩⟩
instance : TyI Try.prog 156 1 false := ⟨by kernel_rfl⟩
instance : ZeroI Try.prog 156 #[.nilFunc] := ⟨by kernel_rfl⟩
instance : ConcI Try.prog 156 := ⟨by kernel_rfl⟩
instance : UndI Try.prog 157 := ⟨⟨_, Try.underlying157⟩⟩
instance : TyI Try.prog 157 1 false := ⟨by kernel_rfl⟩
instance : ZeroI Try.prog 157 #[.nilFunc] := ⟨by kernel_rfl⟩
instance : ConcI Try.prog 157 := ⟨by kernel_rfl⟩
instance : UndI Try.prog 158 := ⟨⟨_, Try.underlying158⟩⟩
instance : TyI Try.prog 158 1 false := ⟨by kernel_rfl⟩
instance : ZeroI Try.prog 158 #[.nilFunc] := ⟨by kernel_rfl⟩
instance : ConcI Try.prog 158 := ⟨by kernel_rfl⟩
instance : UndI Try.prog 159 := ⟨⟨_, Try.underlying159⟩⟩
instance : TyI Try.prog 159 1 false := ⟨by kernel_rfl⟩
instance : ZeroI Try.prog 159 #[.nilFunc] := ⟨by kernel_rfl⟩
instance : ConcI Try.prog 159 := ⟨by kernel_rfl⟩
instance : UndI Try.prog 161 := ⟨⟨_, Try.underlying161⟩⟩
instance : TyI Try.prog 161 1 false := ⟨by kernel_rfl⟩
instance : ZeroI Try.prog 161 #[.nilFunc] := ⟨by kernel_rfl⟩
instance : ConcI Try.prog 161 := ⟨by kernel_rfl⟩
instance : UndI Try.prog 162 := ⟨⟨_, Try.underlying162⟩⟩
instance : TyI Try.prog 162 1 false := ⟨by kernel_rfl⟩
instance : ZeroI Try.prog 162 #[.nilFunc] := ⟨by kernel_rfl⟩
instance : ConcI Try.prog 162 := ⟨by kernel_rfl⟩
instance : UndI Try.prog 163 := ⟨⟨_, Try.underlying163⟩⟩
instance : TyI Try.prog 163 1 false := ⟨by kernel_rfl⟩
instance : ZeroI Try.prog 163 #[.nilFunc] := ⟨by kernel_rfl⟩
instance : ConcI Try.prog 163 := ⟨by kernel_rfl⟩
instance : UndI Try.prog 164 := ⟨⟨_, Try.underlying164⟩⟩
instance : TyI Try.prog 164 1 false := ⟨by kernel_rfl⟩
instance : ZeroI Try.prog 164 #[.nilFunc] := ⟨by kernel_rfl⟩
instance : ConcI Try.prog 164 := ⟨by kernel_rfl⟩
instance : UndI Try.prog 165 := ⟨⟨_, Try.underlying165⟩⟩
instance : TyI Try.prog 165 1 false := ⟨by kernel_rfl⟩
instance : ZeroI Try.prog 165 #[.nilFunc] := ⟨by kernel_rfl⟩
instance : ConcI Try.prog 165 := ⟨by kernel_rfl⟩
instance : UndI Try.prog 166 := ⟨⟨_, Try.underlying166⟩⟩
instance : TyI Try.prog 166 1 false := ⟨by kernel_rfl⟩
instance : ZeroI Try.prog 166 #[.nilFunc] := ⟨by kernel_rfl⟩
instance : ConcI Try.prog 166 := ⟨by kernel_rfl⟩
instance : UndI Try.prog 167 := ⟨⟨_, Try.underlying167⟩⟩
instance : TyI Try.prog 167 1 false := ⟨by kernel_rfl⟩
instance : ZeroI Try.prog 167 #[.nilFunc] := ⟨by kernel_rfl⟩
instance : ConcI Try.prog 167 := ⟨by kernel_rfl⟩
instance : UndI Try.prog 168 := ⟨⟨_, Try.underlying168⟩⟩
instance : TyI Try.prog 168 2 true := ⟨by kernel_rfl⟩
instance : ZeroI Try.prog 168 #[.int .i64 0, .int .i64 0] := ⟨by kernel_rfl⟩
instance : FlatI Try.prog 168 [.i .i64, .i .i64] := ⟨by kernel_rfl⟩
instance : FtI Try.prog 168 0 3 := ⟨by kernel_rfl⟩
instance : FldI Try.prog 168 0 0 := ⟨by kernel_rfl⟩
instance : FtI Try.prog 168 1 3 := ⟨by kernel_rfl⟩
instance : FldI Try.prog 168 1 1 := ⟨by kernel_rfl⟩
instance : ConcI Try.prog 168 := ⟨by kernel_rfl⟩
instance : UndI Try.prog 169 := ⟨⟨_, Try.underlying169⟩⟩
instance : TyI Try.prog 169 2 true := ⟨by kernel_rfl⟩
instance : ZeroI Try.prog 169 #[.int .i64 0, .int .i64 0] := ⟨by kernel_rfl⟩
instance : FlatI Try.prog 169 [.i .i64, .i .i64] := ⟨by kernel_rfl⟩
instance : FtI Try.prog 169 0 3 := ⟨by kernel_rfl⟩
instance : FldI Try.prog 169 0 0 := ⟨by kernel_rfl⟩
instance : FtI Try.prog 169 1 3 := ⟨by kernel_rfl⟩
instance : FldI Try.prog 169 1 1 := ⟨by kernel_rfl⟩
instance : ConcI Try.prog 169 := ⟨by kernel_rfl⟩
instance : UndI Try.prog 170 := ⟨⟨_, Try.underlying170⟩⟩
instance : TyI Try.prog 170 1 false := ⟨by kernel_rfl⟩
instance : ZeroI Try.prog 170 #[.nilFunc] := ⟨by kernel_rfl⟩
instance : ConcI Try.prog 170 := ⟨by kernel_rfl⟩
instance : UndI Try.prog 171 := ⟨⟨_, Try.underlying171⟩⟩
instance : TyI Try.prog 171 1 false := ⟨by kernel_rfl⟩
instance : ZeroI Try.prog 171 #[.nilFunc] := ⟨by kernel_rfl⟩
instance : ConcI Try.prog 171 := ⟨by kernel_rfl⟩
instance : UndI Try.prog 172 := ⟨⟨_, Try.underlying172⟩⟩
instance : TyI Try.prog 172 1 false := ⟨by kernel_rfl⟩
instance : ZeroI Try.prog 172 #[.nilFunc] := ⟨by kernel_rfl⟩
instance : ConcI Try.prog 172 := ⟨by kernel_rfl⟩
instance : UndI Try.prog 178 := ⟨⟨_, Try.underlying178⟩⟩
instance : TyI Try.prog 178 1 false := ⟨by kernel_rfl⟩
instance : ZeroI Try.prog 178 #[.nilFunc] := ⟨by kernel_rfl⟩
instance : ConcI Try.prog 178 := ⟨by kernel_rfl⟩
instance : UndI Try.prog 179 := ⟨⟨_, Try.underlying179⟩⟩
instance : TyI Try.prog 179 1 false := ⟨by kernel_rfl⟩
instance : ZeroI Try.prog 179 #[.int .u32 0] := ⟨by kernel_rfl⟩
instance : IntI Try.prog 179 .u32 := ⟨Try.underlying179⟩
instance : ConcI Try.prog 179 := ⟨by kernel_rfl⟩
instance : UndI Try.prog 183 := ⟨⟨_, Try.underlying183⟩⟩
instance : TyI Try.prog 183 1 false := ⟨by kernel_rfl⟩
instance : ZeroI Try.prog 183 #[.pointer none] := ⟨by kernel_rfl⟩
instance : ConcI Try.prog 183 := ⟨by kernel_rfl⟩
instance : UndI Try.prog 188 := ⟨⟨_, Try.underlying188⟩⟩
instance : TyI Try.prog 188 1 false := ⟨by kernel_rfl⟩
instance : ZeroI Try.prog 188 #[.nilFunc] := ⟨by kernel_rfl⟩
instance : ConcI Try.prog 188 := ⟨by kernel_rfl⟩
instance : FuncI Try.prog 3 := ⟨⟨Try.f3, Try.func3, rfl⟩⟩   -- sculler/scullerlaw10.TreeDecodes
instance : FuncI Try.prog 4 := ⟨⟨Try.f4, Try.func4, rfl⟩⟩   -- sculler/scullerlaw10.TreeAsks
instance : FuncI Try.prog 5 := ⟨⟨Try.f5, Try.func5, rfl⟩⟩   -- sculler/scullerlaw10.TreeBack
instance : FuncI Try.prog 6 := ⟨⟨Try.f6, Try.func6, rfl⟩⟩   -- sculler/scullerlaw10.TreePaths
instance : FuncI Try.prog 7 := ⟨⟨Try.f7, Try.func7, rfl⟩⟩   -- sculler/scullerlaw10.TreeDeep
instance : FuncI Try.prog 8 := ⟨⟨Try.f8, Try.func8, rfl⟩⟩   -- sculler/scullerlaw10.TreeNull
instance : FuncI Try.prog 9 := ⟨⟨Try.f9, Try.func9, rfl⟩⟩   -- sculler/scullerlaw10.TreeWalks
instance : FuncI Try.prog 10 := ⟨⟨Try.f10, Try.func10, rfl⟩⟩   -- sculler/scullerlaw10.words
instance : FuncI Try.prog 11 := ⟨⟨Try.f11, Try.func11, rfl⟩⟩   -- sculler/scullerlaw10.known
instance : FuncI Try.prog 12 := ⟨⟨Try.f12, Try.func12, rfl⟩⟩   -- sculler/scullerlaw10.decodes
instance : FuncI Try.prog 13 := ⟨⟨Try.f13, Try.func13, rfl⟩⟩   -- sculler/scullerlaw09.Bent
instance : FuncI Try.prog 14 := ⟨⟨Try.f14, Try.func14, rfl⟩⟩   -- sculler/scullerlaw07.Arena
instance : FuncI Try.prog 15 := ⟨⟨Try.f15, Try.func15, rfl⟩⟩   -- sculler/scullerlaw08.Tree
instance : FuncI Try.prog 16 := ⟨⟨Try.f16, Try.func16, rfl⟩⟩   -- sculler/scullerlaw10.asks
instance : FuncI Try.prog 17 := ⟨⟨Try.f17, Try.func17, rfl⟩⟩   -- sculler/scullerlaw09.Path
instance : FuncI Try.prog 18 := ⟨⟨Try.f18, Try.func18, rfl⟩⟩   -- sculler/scullerlaw10.paths
instance : FuncI Try.prog 19 := ⟨⟨Try.f19, Try.func19, rfl⟩⟩   -- sculler/tree.Cost
instance : FuncI Try.prog 20 := ⟨⟨Try.f20, Try.func20, rfl⟩⟩   -- sculler/scullerref10.Cost
instance : FuncI Try.prog 21 := ⟨⟨Try.f21, Try.func21, rfl⟩⟩   -- sculler/scullerref08.Build
instance : FuncI Try.prog 22 := ⟨⟨Try.f22, Try.func22, rfl⟩⟩   -- sculler/tree.Decode
instance : FuncI Try.prog 23 := ⟨⟨Try.f23, Try.func23, rfl⟩⟩   -- sculler/scullerref08.Same
instance : FuncI Try.prog 24 := ⟨⟨Try.f24, Try.func24, rfl⟩⟩   -- sculler/tree.Paths
instance : FuncI Try.prog 25 := ⟨⟨Try.f25, Try.func25, rfl⟩⟩   -- sculler/tree.Ask
instance : FuncI Try.prog 26 := ⟨⟨Try.f26, Try.func26, rfl⟩⟩   -- sculler/scullerref07.SameInts
instance : FuncI Try.prog 27 := ⟨⟨Try.f27, Try.func27, rfl⟩⟩   -- sculler/scullerref09.Of
instance : FuncI Try.prog 28 := ⟨⟨Try.f28, Try.func28, rfl⟩⟩   -- sculler/scullerref06.Encode
instance : FuncI Try.prog 29 := ⟨⟨Try.f29, Try.func29, rfl⟩⟩   -- sculler/read.Of
instance : FuncI Try.prog 30 := ⟨⟨Try.f30, Try.func30, rfl⟩⟩   -- sculler/scullerref10.Decode
instance : FuncI Try.prog 31 := ⟨⟨Try.f31, Try.func31, rfl⟩⟩   -- sculler/scullerref10.Ask
instance : FuncI Try.prog 32 := ⟨⟨Try.f32, Try.func32, rfl⟩⟩   -- sculler/scullerref10.Paths
instance : FuncI Try.prog 33 := ⟨⟨Try.f33, Try.func33, rfl⟩⟩   -- sculler/build.Need
instance : FuncI Try.prog 34 := ⟨⟨Try.f34, Try.func34, rfl⟩⟩   -- sculler/scullerref08.Need
instance : FuncI Try.prog 35 := ⟨⟨Try.f35, Try.func35, rfl⟩⟩   -- sculler/scullerref08.Right
instance : FuncI Try.prog 36 := ⟨⟨Try.f36, Try.func36, rfl⟩⟩   -- sculler/scullerref08.lay
instance : FuncI Try.prog 37 := ⟨⟨Try.f37, Try.func37, rfl⟩⟩   -- sculler/arena.Right
instance : FuncI Try.prog 38 := ⟨⟨Try.f38, Try.func38, rfl⟩⟩   -- sculler/read.Whole
instance : FuncI Try.prog 39 := ⟨⟨Try.f39, Try.func39, rfl⟩⟩   -- (*sculler/tree.decoder).node
instance : FuncI Try.prog 40 := ⟨⟨Try.f40, Try.func40, rfl⟩⟩   -- sculler/tree.each
instance : FuncI Try.prog 41 := ⟨⟨Try.f41, Try.func41, rfl⟩⟩   -- slices.ContainsFunc[[]int,int]
instance : FuncI Try.prog 42 := ⟨⟨Try.f42, Try.func42, rfl⟩⟩   -- sculler/tree.Ask$1
instance : FuncI Try.prog 43 := ⟨⟨Try.f43, Try.func43, rfl⟩⟩   -- sculler/tree.step
instance : FuncI Try.prog 44 := ⟨⟨Try.f44, Try.func44, rfl⟩⟩   -- sculler/tree.at
instance : FuncI Try.prog 45 := ⟨⟨Try.f45, Try.func45, rfl⟩⟩   -- sculler/scullerref07.Right
instance : FuncI Try.prog 46 := ⟨⟨Try.f46, Try.func46, rfl⟩⟩   -- sculler/scullerref09.Walk
instance : FuncI Try.prog 47 := ⟨⟨Try.f47, Try.func47, rfl⟩⟩   -- sculler/scullerref06.low
instance : FuncI Try.prog 48 := ⟨⟨Try.f48, Try.func48, rfl⟩⟩   -- sculler/scullerref06.Decode
instance : FuncI Try.prog 49 := ⟨⟨Try.f49, Try.func49, rfl⟩⟩   -- sculler/read.Walk
instance : FuncI Try.prog 50 := ⟨⟨Try.f50, Try.func50, rfl⟩⟩   -- sculler/scullerref10.node
instance : FuncI Try.prog 51 := ⟨⟨Try.f51, Try.func51, rfl⟩⟩   -- sculler/scullerref10.step
instance : FuncI Try.prog 52 := ⟨⟨Try.f52, Try.func52, rfl⟩⟩   -- sculler/scullerref10.word
instance : FuncI Try.prog 53 := ⟨⟨Try.f53, Try.func53, rfl⟩⟩   -- sculler/scullerref10.behind
instance : FuncI Try.prog 54 := ⟨⟨Try.f54, Try.func54, rfl⟩⟩   -- sculler/word.Ceil
instance : FuncI Try.prog 55 := ⟨⟨Try.f55, Try.func55, rfl⟩⟩   -- sculler/scullerref08.deep
instance : FuncI Try.prog 56 := ⟨⟨Try.f56, Try.func56, rfl⟩⟩   -- sculler/scullerref08.set
instance : FuncI Try.prog 57 := ⟨⟨Try.f57, Try.func57, rfl⟩⟩   -- sculler/scullerref08.near
instance : FuncI Try.prog 58 := ⟨⟨Try.f58, Try.func58, rfl⟩⟩   -- sculler/scullerref08.more
instance : FuncI Try.prog 59 := ⟨⟨Try.f59, Try.func59, rfl⟩⟩   -- sculler/scullerref08.far
instance : FuncI Try.prog 60 := ⟨⟨Try.f60, Try.func60, rfl⟩⟩   -- sculler/scullerref08.content
instance : FuncI Try.prog 61 := ⟨⟨Try.f61, Try.func61, rfl⟩⟩   -- sculler/arena.Fits
instance : FuncI Try.prog 62 := ⟨⟨Try.f62, Try.func62, rfl⟩⟩   -- sculler/arena.Sizes
instance : FuncI Try.prog 63 := ⟨⟨Try.f63, Try.func63, rfl⟩⟩   -- sculler/read.Follow
instance : FuncI Try.prog 64 := ⟨⟨Try.f64, Try.func64, rfl⟩⟩   -- sculler/read.Words
instance : FuncI Try.prog 65 := ⟨⟨Try.f65, Try.func65, rfl⟩⟩   -- (*sculler/tree.decoder).words
instance : FuncI Try.prog 66 := ⟨⟨Try.f66, Try.func66, rfl⟩⟩   -- (*sculler/tree.decoder).bytes
instance : FuncI Try.prog 67 := ⟨⟨Try.f67, Try.func67, rfl⟩⟩   -- sculler/tree.each$1
instance : FuncI Try.prog 68 := ⟨⟨Try.f68, Try.func68, rfl⟩⟩   -- slices.Clone[[]int,int]
instance : FuncI Try.prog 69 := ⟨⟨Try.f69, Try.func69, rfl⟩⟩   -- slices.IndexFunc[[]int,int]
instance : FuncI Try.prog 70 := ⟨⟨Try.f70, Try.func70, rfl⟩⟩   -- sculler/scullerref07.Fits
instance : FuncI Try.prog 71 := ⟨⟨Try.f71, Try.func71, rfl⟩⟩   -- sculler/scullerref07.Sizes
instance : FuncI Try.prog 72 := ⟨⟨Try.f72, Try.func72, rfl⟩⟩   -- sculler/scullerref09.Follow
instance : FuncI Try.prog 73 := ⟨⟨Try.f73, Try.func73, rfl⟩⟩   -- sculler/scullerref09.Words
instance : FuncI Try.prog 74 := ⟨⟨Try.f74, Try.func74, rfl⟩⟩   -- sculler/scullerref09.step
instance : FuncI Try.prog 75 := ⟨⟨Try.f75, Try.func75, rfl⟩⟩   -- sculler/scullerref09.value
instance : FuncI Try.prog 76 := ⟨⟨Try.f76, Try.func76, rfl⟩⟩   -- sculler/scullerref06.bits
instance : FuncI Try.prog 77 := ⟨⟨Try.f77, Try.func77, rfl⟩⟩   -- sculler/scullerref01.Signed
instance : FuncI Try.prog 78 := ⟨⟨Try.f78, Try.func78, rfl⟩⟩   -- (*sculler/read.walker).pay
instance : FuncI Try.prog 79 := ⟨⟨Try.f79, Try.func79, rfl⟩⟩   -- (*sculler/read.walker).step
instance : FuncI Try.prog 80 := ⟨⟨Try.f80, Try.func80, rfl⟩⟩   -- (*sculler/read.walker).is
instance : FuncI Try.prog 81 := ⟨⟨Try.f81, Try.func81, rfl⟩⟩   -- (*sculler/read.walker).word
instance : FuncI Try.prog 82 := ⟨⟨Try.f82, Try.func82, rfl⟩⟩   -- sculler/scullerref09.Word
instance : FuncI Try.prog 83 := ⟨⟨Try.f83, Try.func83, rfl⟩⟩   -- sculler/scullerref07.Words
instance : FuncI Try.prog 84 := ⟨⟨Try.f84, Try.func84, rfl⟩⟩   -- sculler/scullerref01.Get
instance : FuncI Try.prog 85 := ⟨⟨Try.f85, Try.func85, rfl⟩⟩   -- sculler/word.Add
instance : FuncI Try.prog 86 := ⟨⟨Try.f86, Try.func86, rfl⟩⟩   -- sculler/read.pointer
instance : FuncI Try.prog 87 := ⟨⟨Try.f87, Try.func87, rfl⟩⟩   -- sculler/read.near
instance : FuncI Try.prog 88 := ⟨⟨Try.f88, Try.func88, rfl⟩⟩   -- sculler/read.found
instance : FuncI Try.prog 89 := ⟨⟨Try.f89, Try.func89, rfl⟩⟩   -- sculler/read.twice
instance : FuncI Try.prog 90 := ⟨⟨Try.f90, Try.func90, rfl⟩⟩   -- sculler/read.landed
instance : FuncI Try.prog 91 := ⟨⟨Try.f91, Try.func91, rfl⟩⟩   -- sculler/ptr.Words
instance : FuncI Try.prog 92 := ⟨⟨Try.f92, Try.func92, rfl⟩⟩   -- sculler/read.of
instance : FuncI Try.prog 93 := ⟨⟨Try.f93, Try.func93, rfl⟩⟩   -- sculler/word.Put
instance : FuncI Try.prog 94 := ⟨⟨Try.f94, Try.func94, rfl⟩⟩   -- sculler/scullerref09.ptr
instance : FuncI Try.prog 95 := ⟨⟨Try.f95, Try.func95, rfl⟩⟩   -- sculler/scullerref09.near
instance : FuncI Try.prog 96 := ⟨⟨Try.f96, Try.func96, rfl⟩⟩   -- sculler/scullerref09.bounds
instance : FuncI Try.prog 97 := ⟨⟨Try.f97, Try.func97, rfl⟩⟩   -- sculler/scullerref09.obj
instance : FuncI Try.prog 98 := ⟨⟨Try.f98, Try.func98, rfl⟩⟩   -- sculler/scullerref09.double
instance : FuncI Try.prog 99 := ⟨⟨Try.f99, Try.func99, rfl⟩⟩   -- sculler/scullerref06.Words
instance : FuncI Try.prog 100 := ⟨⟨Try.f100, Try.func100, rfl⟩⟩   -- sculler/scullerref09.word
instance : FuncI Try.prog 101 := ⟨⟨Try.f101, Try.func101, rfl⟩⟩   -- sculler/scullerref07.Word
instance : FuncI Try.prog 102 := ⟨⟨Try.f102, Try.func102, rfl⟩⟩   -- sculler/scullerref07.Place
instance : FuncI Try.prog 103 := ⟨⟨Try.f103, Try.func103, rfl⟩⟩   -- sculler/ptr.Decode
instance : FuncI Try.prog 104 := ⟨⟨Try.f104, Try.func104, rfl⟩⟩   -- sculler/arena.Within
instance : FuncI Try.prog 105 := ⟨⟨Try.f105, Try.func105, rfl⟩⟩   -- sculler/scullerref07.Within
instance : FuncI Try.prog 106 := ⟨⟨Try.f106, Try.func106, rfl⟩⟩   -- sculler/ptr.kind
instance : FuncI Try.prog 107 := ⟨⟨Try.f107, Try.func107, rfl⟩⟩   -- (sculler/ptr.field).get
instance : FuncI Try.prog 108 := ⟨⟨Try.f108, Try.func108, rfl⟩⟩   -- sculler/ptr.data
instance : FuncI Try.prog 109 := ⟨⟨Try.f109, Try.func109, rfl⟩⟩   -- sculler/ptr.ptrs
instance : FuncI Try.prog 110 := ⟨⟨Try.f110, Try.func110, rfl⟩⟩   -- sculler/ptr.size
instance : FuncI Try.prog 111 := ⟨⟨Try.f111, Try.func111, rfl⟩⟩   -- sculler/ptr.count
instance : FuncI Try.prog 112 := ⟨⟨Try.f112, Try.func112, rfl⟩⟩   -- sculler/ptr.place
instance : FuncI Try.prog 113 := ⟨⟨Try.f113, Try.func113, rfl⟩⟩   -- sculler/ptr.seg
instance : FuncI Try.prog 114 := ⟨⟨Try.f114, Try.func114, rfl⟩⟩   -- sculler/ptr.double
instance : FuncI Try.prog 115 := ⟨⟨Try.f115, Try.func115, rfl⟩⟩   -- sculler/word.Signed
instance : FuncI Try.prog 116 := ⟨⟨Try.f116, Try.func116, rfl⟩⟩   -- sculler/ptr.off
instance : FuncI Try.prog 133 := ⟨⟨Try.f133, Try.func133, rfl⟩⟩   -- (sculler/read.whole).Sizes
instance : FuncI Try.prog 134 := ⟨⟨Try.f134, Try.func134, rfl⟩⟩   -- (sculler/read.whole).Word
instance : FuncI Try.prog 135 := ⟨⟨Try.f135, Try.func135, rfl⟩⟩   -- sculler/arena.Word
theorem mixed : Try.prog.follows .mixedOrders = true := by kernel_rfl
end Go.Proofs.Ytfhfecepcnapfaa.K
namespace Go.Proofs.Ytfhfecepcnapfaa.K
open Go Go.RowKit

theorem wrap_u64 (n : Int) : IntKind.u64.wrap n = n % 18446744073709551616 := by simp [IntKind.wrap, IntKind.bits, IntKind.signed]
theorem bitop_and {k : IntKind} {a b : Int} (ha : 0 ≤ a) (hb : 0 ≤ b) (ha' : a < 2 ^ k.bits) (hb' : b < 2 ^ k.bits) : bitop .and k a b = k.wrap ((a.toNat &&& b.toNat : Nat) : Int) := by
  simp only [bitop, BitVec.toNat_and, BitVec.toNat_ofInt]
  congr 2
  have h1 : (a % ((2 ^ k.bits : Nat) : Int)).toNat = a.toNat := by rw [Int.emod_eq_of_lt ha (by simpa using ha')]
  have h2 : (b % ((2 ^ k.bits : Nat) : Int)).toNat = b.toNat := by rw [Int.emod_eq_of_lt hb (by simpa using hb')]
  rw [h1, h2]
theorem bitop_or {k : IntKind} {a b : Int} (ha : 0 ≤ a) (hb : 0 ≤ b) (ha' : a < 2 ^ k.bits) (hb' : b < 2 ^ k.bits) : bitop .or k a b = k.wrap ((a.toNat ||| b.toNat : Nat) : Int) := by
  simp only [bitop, BitVec.toNat_or, BitVec.toNat_ofInt]
  congr 2
  have h1 : (a % ((2 ^ k.bits : Nat) : Int)).toNat = a.toNat := by rw [Int.emod_eq_of_lt ha (by simpa using ha')]
  have h2 : (b % ((2 ^ k.bits : Nat) : Int)).toNat = b.toNat := by rw [Int.emod_eq_of_lt hb (by simpa using hb')]
  rw [h1, h2]

def getF (at_ wide x : Int) : Int := bitop .and .u64 (x / 2 ^ min at_.toNat 64) (IntKind.u64.wrap (IntKind.u64.wrap (1 * 2 ^ min wide.toNat 64) - 1))
theorem getF_eq (a b : Nat) (ha : a ≤ 63) (hb : b ≤ 63) (x : Int) (h0 : 0 ≤ x) (h1 : x ≤ 18446744073709551615) : getF a b x = x / 2 ^ a % 2 ^ b := by
  unfold getF
  have e1 : min ((a : Int)).toNat 64 = a := by simp; omega
  have e2 : min ((b : Int)).toNat 64 = b := by simp; omega
  rw [e1, e2, Int.one_mul]
  have hp : (2 : Int) ^ b ≤ 2 ^ 63 := by
    have := Nat.pow_le_pow_right (show 0 < 2 by omega) hb
    exact_mod_cast this
  have hp1 : (1 : Int) ≤ 2 ^ b := by
    have := Nat.one_le_two_pow (n := b)
    exact_mod_cast this
  have hw1 : IntKind.u64.wrap ((2 : Int) ^ b) = 2 ^ b := by rw [wrap_u64]; omega
  have hw2 : IntKind.u64.wrap ((2 : Int) ^ b - 1) = 2 ^ b - 1 := by rw [wrap_u64]; omega
  rw [hw1, hw2]
  have hq0 : 0 ≤ x / 2 ^ a := Int.ediv_nonneg h0 (by have := Nat.one_le_two_pow (n := a); have : (1 : Int) ≤ 2 ^ a := by exact_mod_cast this
                                                     omega)
  have hq1 : x / 2 ^ a ≤ x := Int.ediv_le_self _ h0
  rw [bitop_and hq0 (by omega) (by show _ < (18446744073709551616 : Int); omega) (by show _ < (18446744073709551616 : Int); omega)]
  have ht : ((2 : Int) ^ b - 1).toNat = 2 ^ b - 1 := by
    have : ((2 : Int) ^ b - 1) = ((2 ^ b - 1 : Nat) : Int) := by
      have := Nat.one_le_two_pow (n := b); push_cast [this]; rfl
    rw [this]; simp
  rw [ht, Nat.and_two_pow_sub_one_eq_mod]
  have hx : ((((x / 2 ^ a).toNat % 2 ^ b : Nat)) : Int) = x / 2 ^ a % 2 ^ b := by
    rw [Int.natCast_emod, Int.toNat_of_nonneg hq0]; simp
  rw [hx]
  have hm0 := Int.emod_nonneg (x / 2 ^ a) (show (2 : Int) ^ b ≠ 0 by omega)
  have hm1 := Int.emod_lt_of_pos (x / 2 ^ a) (show (0 : Int) < 2 ^ b by omega)
  rw [wrap_u64]; omega

/-- The lowest thirty bits, with their sign. -/
def sgn30 (n : Int) : Int := if n < 536870912 then n else n - 1073741824
theorem signed_eq (n : Int) (h0 : 0 ≤ n) (h1 : n < 1073741824) :
    IntKind.i64.wrap (IntKind.u64.wrap (n * 2 ^ min ((64 : Int) - 30).toNat IntKind.u64.bits)) / 2 ^ min ((64 : Int) - 30).toNat IntKind.i64.bits = sgn30 n := by
  show IntKind.i64.wrap (IntKind.u64.wrap (n * 17179869184)) / 17179869184 = sgn30 n
  rw [wrap_u64, IntKind.wrap_i64]
  unfold sgn30
  split <;> omega

/-- One more field, joined to a word. -/
def stepJ (acc : Int) (p : Int × Int × Int) : Int :=
  bitop .or .u64 acc (IntKind.u64.wrap (bitop .and .u64 (IntKind.u64.wrap p.2.2) (IntKind.u64.wrap (IntKind.u64.wrap (1 * 2 ^ min p.2.1.toNat 64) - 1)) * 2 ^ min p.1.toNat 64))
def joinF (l : List (Int × Int × Int)) : Int := l.foldl stepJ 0
theorem stepJ_eq (a b : Nat) (hb : b ≤ 63) (hab : a + b ≤ 64) (acc n : Int) (h0 : 0 ≤ acc) (h1 : acc < 2 ^ a) : stepJ acc (a, b, n) = acc + n % 2 ^ b * 2 ^ a := by
  have hm0 : 0 ≤ n % 18446744073709551616 := by omega
  have hg := getF_eq 0 b (by omega) hb (n % 18446744073709551616) hm0 (by omega)
  unfold getF at hg
  simp only [Int.natCast_zero, Int.toNat_zero, Nat.zero_min, Int.pow_zero, Int.ediv_one] at hg
  unfold stepJ
  simp only
  rw [wrap_u64 n, hg]
  have hp1 : (1 : Int) ≤ 2 ^ b := by have := Nat.one_le_two_pow (n := b); exact_mod_cast this
  have hp2 : (1 : Int) ≤ 2 ^ a := by have := Nat.one_le_two_pow (n := a); exact_mod_cast this
  have hdvd : ((2 : Int) ^ b) ∣ 18446744073709551616 := by
    have : (18446744073709551616 : Int) = 2 ^ b * 2 ^ (64 - b) := by rw [← Int.pow_add]; rw [show b + (64 - b) = 64 from by omega]; rfl
    rw [this]; exact Int.dvd_mul_right _ _
  rw [Int.emod_emod_of_dvd n hdvd]
  have hr0 := Int.emod_nonneg n (show (2 : Int) ^ b ≠ 0 by omega)
  have hr1 := Int.emod_lt_of_pos n (show (0 : Int) < 2 ^ b by omega)
  by_cases ha : a = 64
  · subst ha
    have hb0 : b = 0 := by omega
    subst hb0
    have : n % 2 ^ 0 = 0 := by simp
    rw [this]
    simp only [Int.zero_mul, Int.add_zero]
    rw [bitop_or h0 (by rw [wrap_u64]; omega) (by exact h1) (by rw [wrap_u64]; show _ < (18446744073709551616 : Int); omega)]
    have h1' : acc < 18446744073709551616 := h1
    rw [wrap_u64, wrap_u64]
    simp
    omega
  have e1 : min ((a : Int)).toNat 64 = a := by simp; omega
  rw [e1]
  have hprod : (n % 2 ^ b) * 2 ^ a < 18446744073709551616 := by
    have h3 : (n % 2 ^ b) * 2 ^ a < 2 ^ b * 2 ^ a := Int.mul_lt_mul_of_pos_right hr1 (by omega)
    have h4 : (2 : Int) ^ b * 2 ^ a ≤ 18446744073709551616 := by
      rw [← Int.pow_add]
      have := Nat.pow_le_pow_right (show 0 < 2 by omega) (show b + a ≤ 64 by omega)
      have h5 : ((2 ^ (b + a) : Nat) : Int) ≤ ((2 ^ 64 : Nat) : Int) := by exact_mod_cast this
      simpa using h5
    omega
  have hprod0 : 0 ≤ (n % 2 ^ b) * 2 ^ a := Int.mul_nonneg hr0 (by omega)
  have hacc : acc < 18446744073709551616 := by
    have := Nat.pow_le_pow_right (show 0 < 2 by omega) (show a ≤ 64 by omega)
    have h5 : ((2 ^ a : Nat) : Int) ≤ ((2 ^ 64 : Nat) : Int) := by exact_mod_cast this
    have h6 : (2 : Int) ^ a ≤ 18446744073709551616 := by simpa using h5
    omega
  rw [show IntKind.u64.wrap (n % 2 ^ b * 2 ^ a) = n % 2 ^ b * 2 ^ a from by rw [wrap_u64]; omega]
  rw [bitop_or h0 hprod0 (by exact hacc) (by exact hprod)]
  obtain ⟨x, hx⟩ := Int.eq_ofNat_of_zero_le h0
  obtain ⟨y, hy⟩ := Int.eq_ofNat_of_zero_le hr0
  rw [hx, hy]
  have hxa : x < 2 ^ a := by have : ((x : Nat) : Int) < ((2 ^ a : Nat) : Int) := by rw [← hx]; simpa using h1
                             exact_mod_cast this
  have ht : ((y : Int) * 2 ^ a).toNat = y * 2 ^ a := by
    have : ((y : Int) * 2 ^ a) = ((y * 2 ^ a : Nat) : Int) := by push_cast; rfl
    rw [this, Int.toNat_natCast]
  rw [ht]
  simp only [Int.toNat_natCast]
  rw [Nat.or_comm, Nat.mul_comm y, ← Nat.two_pow_add_eq_or_of_lt hxa, wrap_u64]
  have hsum : ((2 ^ a * y + x : Nat) : Int) = x + y * 2 ^ a := by push_cast; rw [Int.mul_comm]; omega
  rw [hsum, Int.emod_eq_of_lt]
  · rw [hx, hy] at *; omega
  · -- the sum stays below 2^64
    have h7 : (y : Int) + 1 ≤ 2 ^ b := by rw [← hy]; omega
    have h8 : ((y : Int) + 1) * 2 ^ a ≤ 2 ^ b * 2 ^ a := Int.mul_le_mul_of_nonneg_right h7 (by omega)
    have h4 : (2 : Int) ^ b * 2 ^ a ≤ 18446744073709551616 := by
      rw [← Int.pow_add]
      have := Nat.pow_le_pow_right (show 0 < 2 by omega) (show b + a ≤ 64 by omega)
      have h5 : ((2 ^ (b + a) : Nat) : Int) ≤ ((2 ^ 64 : Nat) : Int) := by exact_mod_cast this
      simpa using h5
    rw [Int.add_mul, Int.one_mul] at h8
    rw [hx] at h1
    omega

/-- What a word points to. -/
structure Pt where
  kind : Int
  off : Int
  data : Int
  ptrs : Int
  size : Int
  count : Int
  seg : Int
  dbl : Bool
  deriving DecidableEq
def Pt.v (p : Pt) : Value := .agg #[.int .i64 p.kind, .int .i64 p.off, .int .i64 p.data, .int .i64 p.ptrs, .int .i64 p.size, .int .i64 p.count, .int .i64 p.seg, .bool p.dbl]
def Pt0 : Pt := ⟨0, 0, 0, 0, 0, 0, 0, false⟩
def decP (x : Int) : Pt :=
  if x = 0 then Pt0
  else if x % 4 = 0 then ⟨1, sgn30 (x / 4 % 1073741824), x / 4294967296 % 65536, x / 281474976710656 % 65536, 0, 0, 0, false⟩
  else if x % 4 = 1 then ⟨2, sgn30 (x / 4 % 1073741824), 0, 0, x / 4294967296 % 8, x / 34359738368 % 536870912, 0, false⟩
  else if x % 4 = 2 then ⟨3, x / 8 % 536870912, 0, 0, 0, 0, x / 4294967296 % 4294967296, decide (x / 4 % 2 = 1)⟩
  else Pt0
def decE (x : Int) : Int := if x = 0 then 0 else if x % 4 = 3 then 23 else 0
/-- A pointer's fields, laid in a word. -/
def encW (p : Pt) : Int :=
  if p.kind = 1 then p.off % 1073741824 * 4 + p.data % 65536 * 4294967296 + p.ptrs % 65536 * 281474976710656
  else if p.kind = 2 then 1 + p.off % 1073741824 * 4 + p.size % 8 * 4294967296 + p.count % 536870912 * 34359738368
  else if p.kind = 3 then 2 + (if p.dbl then 4 else 0) + p.off % 536870912 * 8 + p.seg % 4294967296 * 4294967296
  else 0
def encOk (p : Pt) : Bool := decide (decE (encW p) = 0 ∧ decP (encW p) = p)
def encR (p : Pt) : Int := if encOk p then encW p else 0
def encE (p : Pt) : Int := if encOk p then 0 else 1
theorem encW_range (p : Pt) : 0 ≤ encW p ∧ encW p ≤ 18446744073709551615 := by
  unfold encW
  split
  · omega
  · split
    · omega
    · split
      · split <;> omega
      · omega
/-- How many words there are where it points. -/
def wordsN (p : Pt) : Int :=
  if p.kind = 0 then 0
  else if p.kind = 1 then IntKind.i64.wrap (p.data + p.ptrs)
  else if p.kind = 3 then (if p.dbl then 2 else 1)
  else if p.kind = 2 then (if p.size = 2 then IntKind.i64.wrap ((IntKind.i64.wrap (IntKind.i64.wrap (p.count + 8) - 1)).tdiv 8) else if p.size = 5 ∨ p.size = 6 then p.count else 0)
  else 0
def wordsE (p : Pt) : Int :=
  if p.kind = 0 then 0
  else if p.kind = 1 then 0
  else if p.kind = 3 then 0
  else if p.kind = 2 then (if p.size = 2 then 0 else if p.size = 5 ∨ p.size = 6 then 0 else 23)
  else 23

/-- The fields that are joined for a pointer. -/
def fieldsOf (p : Pt) : List (Int × Int × Int) :=
  if p.kind = 1 then [(0, 2, 0), (2, 30, p.off), (32, 16, p.data), (48, 16, p.ptrs)]
  else if p.kind = 2 then [(0, 2, 1), (2, 30, p.off), (32, 3, p.size), (35, 29, p.count)]
  else [(0, 2, 2), (2, 1, if p.dbl then 1 else 0), (3, 29, p.off), (32, 32, p.seg)]
theorem joinF4 (a0 b0 a1 b1 a2 b2 a3 b3 : Nat) (h0 : a0 = 0) (h1 : a1 = b0) (h2 : a1 + b1 ≤ a2) (h3 : a2 + b2 ≤ a3) (h4 : a3 + b3 ≤ 64) (hb0 : b0 ≤ 63) (hb1 : b1 ≤ 63) (hb2 : b2 ≤ 63) (hb3 : b3 ≤ 63) (n0 n1 n2 n3 : Int) :
    joinF [(a0, b0, n0), (a1, b1, n1), (a2, b2, n2), (a3, b3, n3)] = 0 + n0 % 2 ^ b0 * 2 ^ a0 + n1 % 2 ^ b1 * 2 ^ a1 + n2 % 2 ^ b2 * 2 ^ a2 + n3 % 2 ^ b3 * 2 ^ a3 := by
  have pw : ∀ x : Nat, (1 : Int) ≤ 2 ^ x := fun x => by have := Nat.one_le_two_pow (n := x); exact_mod_cast this
  have step : ∀ (a b c : Nat) (acc n : Int), 0 ≤ acc → acc < 2 ^ a → a + b ≤ c → 0 ≤ acc + n % 2 ^ b * 2 ^ a ∧ acc + n % 2 ^ b * 2 ^ a < 2 ^ c := by
    intro a b c acc n g0 g1 hc
    have r0 := Int.emod_nonneg n (show (2 : Int) ^ b ≠ 0 by have := pw b; omega)
    have r1 := Int.emod_lt_of_pos n (show (0 : Int) < 2 ^ b by have := pw b; omega)
    have r2 : 0 ≤ n % 2 ^ b * 2 ^ a := Int.mul_nonneg r0 (by have := pw a; omega)
    refine ⟨by omega, ?_⟩
    have r3 : (n % 2 ^ b + 1) * 2 ^ a ≤ 2 ^ b * 2 ^ a := Int.mul_le_mul_of_nonneg_right (by omega) (by have := pw a; omega)
    rw [Int.add_mul, Int.one_mul, ← Int.pow_add] at r3
    have r4 : (2 : Int) ^ (b + a) ≤ 2 ^ c := by
      have := Nat.pow_le_pow_right (show 0 < 2 by omega) (show b + a ≤ c by omega)
      exact_mod_cast this
    omega
  subst h0
  have s0 := step 0 b0 a1 0 n0 (by omega) (by simp) (by omega)
  have s1 := step a1 b1 a2 _ n1 s0.1 s0.2 (by omega)
  have s2 := step a2 b2 a3 _ n2 s1.1 s1.2 (by omega)
  unfold joinF
  simp only [List.foldl_cons, List.foldl_nil]
  rw [stepJ_eq 0 b0 hb0 (by omega) 0 n0 (by omega) (by simp), stepJ_eq a1 b1 hb1 (by omega) _ n1 s0.1 s0.2, stepJ_eq a2 b2 hb2 (by omega) _ n2 s1.1 s1.2, stepJ_eq a3 b3 hb3 h4 _ n3 s2.1 s2.2]
theorem join_enc (p : Pt) (hk : p.kind = 1 ∨ p.kind = 2 ∨ p.kind = 3) : joinF (fieldsOf p) = encW p := by
  unfold fieldsOf encW
  by_cases h1 : p.kind = 1
  · rw [if_pos h1, if_pos h1]
    have := joinF4 0 2 2 30 32 16 48 16 rfl rfl (by omega) (by omega) (by omega) (by omega) (by omega) (by omega) (by omega) 0 p.off p.data p.ptrs
    refine this.trans ?_
    simp
  · by_cases h2 : p.kind = 2
    · rw [if_neg h1, if_pos h2, if_neg h1, if_pos h2]
      have := joinF4 0 2 2 30 32 3 35 29 rfl rfl (by omega) (by omega) (by omega) (by omega) (by omega) (by omega) (by omega) 1 p.off p.size p.count
      refine this.trans ?_
      simp
    · have h3 : p.kind = 3 := by omega
      rw [if_neg h1, if_neg h2, if_neg h1, if_neg h2, if_pos h3]
      have := joinF4 0 2 2 1 3 29 32 32 rfl rfl (by omega) (by omega) (by omega) (by omega) (by omega) (by omega) (by omega) 2 (if p.dbl then 1 else 0) p.off p.seg
      refine this.trans ?_
      cases p.dbl <;> simp
/-- A row of fields, as cells. -/
def laidCells (l : List (Int × Int × Int)) : List Value := l.flatMap fun p => [.int .i64 p.1, .int .i64 p.2.1, .int .i64 p.2.2]
theorem length_laid (l : List (Int × Int × Int)) : (laidCells l).length = 3 * l.length := by
  induction l with
  | nil => rfl
  | cons p l ih => simp only [laidCells, List.flatMap_cons, List.length_append, List.length_cons, List.length_nil] at *; omega
theorem laid_at : ∀ (l : List (Int × Int × Int)) (k : Nat) (h : k < l.length), ((laidCells l).drop (k * 3)).take 3 = [.int .i64 l[k].1, .int .i64 l[k].2.1, .int .i64 l[k].2.2]
  | p :: l, 0, _ => by simp [laidCells]
  | p :: l, k + 1, h => by
    have ih := laid_at l k (by simpa using h)
    have : laidCells (p :: l) = [.int .i64 p.1, .int .i64 p.2.1, .int .i64 p.2.2] ++ laidCells l := rfl
    rw [this, show (k + 1) * 3 = 3 + k * 3 from by omega, ← List.drop_drop]
    simp only [List.getElem_cons_succ]
    exact ih
theorem joinF_take (l : List (Int × Int × Int)) (k : Nat) (h : k < l.length) : joinF (l.take (k + 1)) = stepJ (joinF (l.take k)) l[k] := by
  unfold joinF
  rw [List.take_succ_eq_append_getElem h, List.foldl_append]
  rfl

theorem wrap87 (n : Int) : IntKind.i64.wrap (n + 7) = IntKind.i64.wrap (IntKind.i64.wrap (n + 8) - 1) := by
  simp only [IntKind.wrap_i64, wrap64]; omega
theorem div_pow (x : Int) (k : Nat) : x / 2 ^ (k + 1) = x / 2 ^ k / 2 := by
  have h1 : (1 : Int) ≤ 2 ^ k := by have := Nat.one_le_two_pow (n := k); exact_mod_cast this
  rw [Int.pow_succ, Int.ediv_ediv_of_nonneg (by omega)]
theorem pow_bound (k : Nat) (h : k ≤ 62) : (1 : Int) ≤ 2 ^ k ∧ (2 : Int) ^ k ≤ 4611686018427387904 ∧ (2 : Int) ^ (k + 1) = 2 * 2 ^ k := by
  refine ⟨?_, ?_, ?_⟩
  · have := Nat.one_le_two_pow (n := k); exact_mod_cast this
  · have := Nat.pow_le_pow_right (show 0 < 2 by omega) h
    have h5 : ((2 ^ k : Nat) : Int) ≤ ((2 ^ 62 : Nat) : Int) := by exact_mod_cast this
    simpa using h5
  · rw [Int.pow_succ]; omega
theorem div_range (x : Int) (k : Nat) (h0 : 0 ≤ x) : 0 ≤ x / 2 ^ k ∧ x / 2 ^ k ≤ x := by
  have : (1 : Int) ≤ 2 ^ k := by have := Nat.one_le_two_pow (n := k); exact_mod_cast this
  exact ⟨Int.ediv_nonneg h0 (by omega), Int.ediv_le_self _ h0⟩
theorem pow_bound30 (k : Nat) (h : k ≤ 29) : (1 : Int) ≤ 2 ^ k ∧ (2 : Int) ^ k ≤ 536870912 ∧ (2 : Int) ^ (k + 1) = 2 * 2 ^ k := by
  refine ⟨(pow_bound k (by omega)).1, ?_, (pow_bound k (by omega)).2.2⟩
  have := Nat.pow_le_pow_right (show 0 < 2 by omega) h
  have h5 : ((2 ^ k : Nat) : Int) ≤ ((2 ^ 29 : Nat) : Int) := by exact_mod_cast this
  simpa using h5

theorem dec3 (x : Int) (h : x % 4 = 3) : decP x = Pt0 ∧ decE x = 23 := by
  have h0 : x ≠ 0 := by omega
  unfold decP decE
  rw [if_neg h0, if_neg (by omega), if_neg (by omega), if_neg (by omega), if_neg h0, if_pos h]
  exact ⟨rfl, rfl⟩
theorem decN (x : Int) (h : x % 4 ≠ 3) : decE x = 0 := by
  unfold decE
  by_cases h0 : x = 0
  · rw [if_pos h0]
  · rw [if_neg h0, if_neg h]
theorem decE_iff (x : Int) : decE x = 0 ↔ x % 4 ≠ 3 := by
  constructor
  · intro h h3
    rw [(dec3 x h3).2] at h
    omega
  · exact decN x
/-- What a word's pointer is: by its lowest bits. -/
theorem dec_form (x : Int) (hx0 : 0 ≤ x) (hx1 : x ≤ 18446744073709551615) :
    (x = 0 ∧ decP x = Pt0) ∨
    (x ≠ 0 ∧ x % 4 = 0 ∧ ∃ o d q, decP x = ⟨1, o, d, q, 0, 0, 0, false⟩ ∧ -536870912 ≤ o ∧ o ≤ 536870911 ∧ 0 ≤ d ∧ d ≤ 65535 ∧ 0 ≤ q ∧ q ≤ 65535 ∧ x = o % 1073741824 * 4 + d * 4294967296 + q * 281474976710656) ∨
    (x % 4 = 1 ∧ ∃ o s n, decP x = ⟨2, o, 0, 0, s, n, 0, false⟩ ∧ -536870912 ≤ o ∧ o ≤ 536870911 ∧ 0 ≤ s ∧ s ≤ 7 ∧ 0 ≤ n ∧ n ≤ 536870911 ∧ x = 1 + o % 1073741824 * 4 + s * 4294967296 + n * 34359738368) ∨
    (x % 4 = 2 ∧ ∃ o g b, decP x = ⟨3, o, 0, 0, 0, 0, g, b⟩ ∧ 0 ≤ o ∧ o ≤ 536870911 ∧ 0 ≤ g ∧ g ≤ 4294967295 ∧ x = 2 + (if b then 4 else 0) + o * 8 + g * 4294967296) ∨
    (x % 4 = 3 ∧ decP x = Pt0) := by
  by_cases h0 : x = 0
  · left; exact ⟨h0, by unfold decP; rw [if_pos h0]⟩
  right
  have hs : ∀ n : Int, 0 ≤ n → n < 1073741824 → -536870912 ≤ sgn30 n ∧ sgn30 n ≤ 536870911 ∧ sgn30 n % 1073741824 = n := by
    intro n h1 h2; unfold sgn30; split <;> omega
  have hn := hs (x / 4 % 1073741824) (by omega) (by omega)
  by_cases h1 : x % 4 = 0
  · left
    refine ⟨h0, h1, _, _, _, by unfold decP; rw [if_neg h0, if_pos h1], hn.1, hn.2.1, by omega, by omega, by omega, by omega, ?_⟩
    rw [hn.2.2]; omega
  right
  by_cases h2 : x % 4 = 1
  · left
    refine ⟨h2, _, _, _, by unfold decP; rw [if_neg h0, if_neg h1, if_pos h2], hn.1, hn.2.1, by omega, by omega, by omega, by omega, ?_⟩
    rw [hn.2.2]; omega
  right
  by_cases h3 : x % 4 = 2
  · left
    refine ⟨h3, _, _, _, by unfold decP; rw [if_neg h0, if_neg h1, if_neg h2, if_pos h3], by omega, by omega, by omega, by omega, ?_⟩
    by_cases hb : x / 4 % 2 = 1
    · simp only [hb, decide_true, if_true]; omega
    · simp only [hb, decide_false, Bool.false_eq_true, if_false]; omega
  right
  have h4 : x % 4 = 3 := by omega
  exact ⟨h4, (dec3 x h4).1⟩
theorem enc_dec (x : Int) (hx0 : 0 ≤ x) (hx1 : x ≤ 18446744073709551615) (hE : decE x = 0) : encW (decP x) = x := by
  have h3 := (decE_iff x).1 hE
  rcases dec_form x hx0 hx1 with ⟨h, e⟩ | ⟨h, h', o, d, q, e, r1, r2, r3, r4, r5, r6, hx⟩ | ⟨h, o, s, n, e, r1, r2, r3, r4, r5, r6, hx⟩ | ⟨h, o, g, b, e, r1, r2, r3, r4, hx⟩ | ⟨h, e⟩
  · rw [e, h]; rfl
  · rw [e]; unfold encW; simp; omega
  · rw [e]; unfold encW; simp; omega
  · rw [e]; unfold encW; cases b <;> simp at hx ⊢ <;> omega
  · exact absurd h h3
theorem encOk_dec (x : Int) (hx0 : 0 ≤ x) (hx1 : x ≤ 18446744073709551615) (hE : decE x = 0) : encE (decP x) = 0 ∧ encR (decP x) = x := by
  have h := enc_dec x hx0 hx1 hE
  have hok : encOk (decP x) = true := by unfold encOk; rw [h]; simp [hE]
  unfold encE encR
  rw [hok, h]
  exact ⟨rfl, rfl⟩
theorem dec_inj (x y : Int) (hx0 : 0 ≤ x) (hx1 : x ≤ 18446744073709551615) (hy0 : 0 ≤ y) (hy1 : y ≤ 18446744073709551615) (hE : decE x = 0) (hF : decE y = 0) : decP x = decP y ↔ x = y := by
  constructor
  · intro h
    rw [← enc_dec x hx0 hx1 hE, h, enc_dec y hy0 hy1 hF]
  · rintro rfl; rfl
theorem dec_nonneg (x : Int) (hx0 : 0 ≤ x) (hx1 : x ≤ 18446744073709551615) : 0 ≤ (decP x).data ∧ 0 ≤ (decP x).ptrs ∧ 0 ≤ (decP x).count ∧ ((decP x).kind = 3 → 0 ≤ (decP x).off ∧ 0 ≤ (decP x).seg) ∧ (x ≠ 0 → x % 4 ≠ 3 → (decP x).kind = x % 4 + 1) := by
  rcases dec_form x hx0 hx1 with ⟨h, e⟩ | ⟨h, h', o, d, q, e, r1, r2, r3, r4, r5, r6, hx⟩ | ⟨h, o, s, n, e, r1, r2, r3, r4, r5, r6, hx⟩ | ⟨h, o, g, b, e, r1, r2, r3, r4, hx⟩ | ⟨h, e⟩ <;>
    (rw [e]; simp [Pt0]; try omega)
/-- The fields that a pointer may have: no others are told. -/
def okP (p : Pt) : Prop :=
  (p = ⟨1, p.off, p.data, p.ptrs, 0, 0, 0, false⟩ ∧ -536870912 ≤ p.off ∧ p.off ≤ 536870911 ∧ 0 ≤ p.data ∧ p.data ≤ 65535 ∧ 0 ≤ p.ptrs ∧ p.ptrs ≤ 65535 ∧ ¬ (p.off = 0 ∧ p.data = 0 ∧ p.ptrs = 0)) ∨
  (p = ⟨2, p.off, 0, 0, p.size, p.count, 0, false⟩ ∧ -536870912 ≤ p.off ∧ p.off ≤ 536870911 ∧ 0 ≤ p.size ∧ p.size ≤ 7 ∧ 0 ≤ p.count ∧ p.count ≤ 536870911) ∨
  (p = ⟨3, p.off, 0, 0, 0, 0, p.seg, p.dbl⟩ ∧ 0 ≤ p.off ∧ p.off ≤ 536870911 ∧ 0 ≤ p.seg ∧ p.seg ≤ 4294967295) ∨ p = Pt0
theorem okP_ok (p : Pt) (h : okP p) : encOk p = true := by
  have key : decE (encW p) = 0 ∧ decP (encW p) = p := by
    obtain ⟨kind, o, d, q, s, n, g, b⟩ := p
    simp only [okP, Pt.mk.injEq, Pt0] at h
    rcases h with ⟨⟨rfl, _, _, _, rfl, rfl, rfl, rfl⟩, r1, r2, r3, r4, r5, r6, r7⟩ | ⟨⟨rfl, _, rfl, rfl, _, _, rfl, rfl⟩, r1, r2, r3, r4, r5, r6⟩ | ⟨⟨rfl, _, rfl, rfl, rfl, rfl, _, _⟩, r1, r2, r3, r4⟩ | ⟨rfl, rfl, rfl, rfl, rfl, rfl, rfl, rfl⟩
    · have hw : encW ⟨1, o, d, q, 0, 0, 0, false⟩ = o % 1073741824 * 4 + d * 4294967296 + q * 281474976710656 := by unfold encW; simp; omega
      rw [hw]
      generalize hx : o % 1073741824 * 4 + d * 4294967296 + q * 281474976710656 = x
      have h0 : x ≠ 0 := by omega
      have h1 : x % 4 = 0 := by omega
      refine ⟨decN x (by omega), ?_⟩
      unfold decP
      rw [if_neg h0, if_pos h1]
      have e1 : x / 4 % 1073741824 = o % 1073741824 := by omega
      have e2 : sgn30 (o % 1073741824) = o := by unfold sgn30; split <;> omega
      rw [e1, e2]
      congr 1 <;> omega
    · have hw : encW ⟨2, o, 0, 0, s, n, 0, false⟩ = 1 + o % 1073741824 * 4 + s * 4294967296 + n * 34359738368 := by unfold encW; simp; omega
      rw [hw]
      generalize hx : 1 + o % 1073741824 * 4 + s * 4294967296 + n * 34359738368 = x
      have h0 : x ≠ 0 := by omega
      have h1 : x % 4 = 1 := by omega
      refine ⟨decN x (by omega), ?_⟩
      unfold decP
      rw [if_neg h0, if_neg (by omega), if_pos h1]
      have e1 : x / 4 % 1073741824 = o % 1073741824 := by omega
      have e2 : sgn30 (o % 1073741824) = o := by unfold sgn30; split <;> omega
      rw [e1, e2]
      congr 1 <;> omega
    · have hw : encW ⟨3, o, 0, 0, 0, 0, g, b⟩ = 2 + (if b then 4 else 0) + o * 8 + g * 4294967296 := by unfold encW; cases b <;> simp <;> omega
      rw [hw]
      generalize hc : (if b = true then (4 : Int) else 0) = c
      have hc2 : (b = true ∧ c = 4) ∨ (b = false ∧ c = 0) := by
        cases b
        · exact .inr ⟨rfl, by simpa using hc.symm⟩
        · exact .inl ⟨rfl, by simpa using hc.symm⟩
      generalize hx : 2 + c + o * 8 + g * 4294967296 = x
      have h0 : x ≠ 0 := by omega
      have h1 : x % 4 = 2 := by omega
      refine ⟨decN x (by omega), ?_⟩
      unfold decP
      rw [if_neg h0, if_neg (by omega), if_neg (by omega), if_pos h1]
      rcases hc2 with ⟨rfl, rfl⟩ | ⟨rfl, rfl⟩
      · congr 1 <;> first | omega | (simp; omega)
      · congr 1 <;> first | omega | (simp; omega)
    · exact ⟨rfl, rfl⟩
  unfold encOk
  simp [key]
theorem ok_okP (p : Pt) (h : encOk p = true) : okP p := by
  unfold encOk at h
  simp only [decide_eq_true_eq] at h
  obtain ⟨hE, hP⟩ := h
  obtain ⟨r0, r1⟩ := encW_range p
  have h3 := (decE_iff _).1 hE
  generalize encW p = x at *
  rcases dec_form x r0 r1 with ⟨h, e⟩ | ⟨h, h', o, d, q, e, q1, q2, q3, q4, q5, q6, hx⟩ | ⟨h, o, s, n, e, q1, q2, q3, q4, q5, q6, hx⟩ | ⟨h, o, g, b, e, q1, q2, q3, q4, hx⟩ | ⟨h, e⟩
  · rw [hP] at e; exact .inr (.inr (.inr e))
  · rw [hP] at e; subst e; left; exact ⟨rfl, q1, q2, q3, q4, q5, q6, by simp only; omega⟩
  · rw [hP] at e; subst e; right; left; exact ⟨rfl, q1, q2, q3, q4, q5, q6⟩
  · rw [hP] at e; subst e; right; right; left; exact ⟨rfl, q1, q2, q3, q4⟩
  · exact absurd h h3
theorem encE_ok (p : Pt) (h : okP p) : encE p = 0 ∧ encR p = encW p := by unfold encE encR; rw [okP_ok p h]; exact ⟨rfl, rfl⟩
theorem encE_bad (p : Pt) (h : ¬ okP p) : encE p = 1 ∧ encR p = 0 := by
  have : encOk p = false := by cases hb : encOk p with | false => rfl | true => exact absurd (ok_okP p hb) h
  unfold encE encR; rw [this]; exact ⟨rfl, rfl⟩

/-- The statements' own pointer, as choices say. -/
def ptrF0 (a b c k : Int) : Pt :=
  if k % 4 = 1 then ⟨1, a % 1073741824 - 536870912, b % 65536, c % 65536, 0, 0, 0, false⟩
  else if k % 4 = 2 then ⟨2, a % 1073741824 - 536870912, 0, 0, b % 8, c % 536870912, 0, false⟩
  else if k % 4 = 3 then ⟨3, a % 536870912, 0, 0, 0, 0, b, decide (c % 2 = 1)⟩
  else Pt0
def ptrF (a b c k : Int) : Pt :=
  if 200 < k then { ptrF0 a b c k with off := a, data := b % 70000, count := (ptrF0 a b c k).count + c % 3 } else ptrF0 a b c k

theorem decE_range (x : Int) : 0 ≤ decE x ∧ decE x ≤ 23 := by unfold decE; split; omega; split <;> omega
theorem wordsE_range (p : Pt) : 0 ≤ wordsE p ∧ wordsE p ≤ 23 := by unfold wordsE; repeat' split <;> omega
theorem encE_range (p : Pt) : 0 ≤ encE p ∧ encE p ≤ 1 := by unfold encE; split <;> omega
theorem words_bytes (n : Int) (h0 : 0 ≤ n) (h1 : n ≤ 65535) : wordsN ⟨2, 0, 0, 0, 2, n, 0, false⟩ = (n + 7) / 8 := by
  unfold wordsN
  rw [if_neg (show ¬ (2 : Int) = 0 from by decide), if_neg (show ¬ (2 : Int) = 1 from by decide), if_neg (show ¬ (2 : Int) = 3 from by decide), if_pos rfl, if_pos rfl]
  simp only [IntKind.wrap_i64, wrap64]
  rw [Int.tdiv_eq_ediv_of_nonneg (by omega)]
  omega
theorem okP_range (p : Pt) (h : okP p) : -536870912 ≤ p.off ∧ p.off ≤ 536870911 ∧ (p.kind = 3 → 0 ≤ p.off) ∧ p.data ≤ 65535 ∧ 0 ≤ p.ptrs ∧ p.size ≤ 7 ∧ p.count ≤ 536870911 ∧ p.seg ≤ 4294967295 := by
  obtain ⟨kind, o, d, q, s, n, g, b⟩ := p
  simp only [okP, Pt.mk.injEq, Pt0] at h
  simp only
  rcases h with ⟨⟨rfl, _, _, _, rfl, rfl, rfl, rfl⟩, r1, r2, r3, r4, r5, r6, r7⟩ | ⟨⟨rfl, _, rfl, rfl, _, _, rfl, rfl⟩, r1, r2, r3, r4, r5, r6⟩ | ⟨⟨rfl, _, rfl, rfl, rfl, rfl, _, _⟩, r1, r2, r3, r4⟩ | ⟨rfl, rfl, rfl, rfl, rfl, rfl, rfl, rfl⟩ <;> omega
theorem ptrF_ok (a b c j : Int) (ha : 0 ≤ a ∧ a ≤ 4294967295) (hb : 0 ≤ b ∧ b ≤ 4294967295) (hc : 0 ≤ c ∧ c ≤ 4294967295) (hj : 1 ≤ j ∧ j ≤ 3) :
    (okP (ptrF a b c j) ∨ ptrF a b c j = ⟨1, 0, 0, 0, 0, 0, 0, false⟩) := by
  unfold ptrF ptrF0
  rw [if_neg (by omega)]
  by_cases h1 : j % 4 = 1
  · rw [if_pos h1]
    by_cases hz : a % 1073741824 - 536870912 = 0 ∧ b % 65536 = 0 ∧ c % 65536 = 0
    · right; rw [hz.1, hz.2.1, hz.2.2]
    · left; left; exact ⟨rfl, by simp only; omega, by simp only; omega, by simp only; omega, by simp only; omega, by simp only; omega, by simp only; omega, hz⟩
  · rw [if_neg h1]
    by_cases h2 : j % 4 = 2
    · rw [if_pos h2]; left; right; left; exact ⟨rfl, by simp only; omega, by simp only; omega, by simp only; omega, by simp only; omega, by simp only; omega, by simp only; omega⟩
    · rw [if_neg h2, if_pos (by omega)]; left; right; right; left; exact ⟨rfl, by simp only; omega, by simp only; omega, by simp only; omega, by simp only; omega⟩
theorem encR_offs (n d q : Int) (h0 : -268435454 ≤ n) (h1 : n ≤ 268435457) (hd : 0 ≤ d ∧ d ≤ 65535) (hq : 0 ≤ q ∧ q ≤ 65535) (hz : ¬ (n = 0 ∧ d = 0 ∧ q = 0)) :
    encE ⟨1, n, d, q, 0, 0, 0, false⟩ = 0 ∧ encR ⟨1, n, d, q, 0, 0, 0, false⟩ = n % 1073741824 * 4 + d * 4294967296 + q * 281474976710656 := by
  have hok : okP ⟨1, n, d, q, 0, 0, 0, false⟩ := .inl ⟨rfl, by simp only; omega, by simp only; omega, hd.1, hd.2, hq.1, hq.2, hz⟩
  obtain ⟨e1, e2⟩ := encE_ok _ hok
  refine ⟨e1, ?_⟩
  rw [e2]; unfold encW; simp; omega
theorem tmod_range (x : Int) : -268435455 ≤ x.tmod 268435456 ∧ x.tmod 268435456 ≤ 268435455 := by
  have h1 := Int.tmod_lt_of_pos x (show (0 : Int) < 268435456 by decide)
  have h2 := Int.lt_tmod_of_pos x (show (0 : Int) < 268435456 by decide)
  omega
end Go.Proofs.Ytfhfecepcnapfaa.K
namespace Go.Proofs.Ytfhfecepcnapfaa.K
open Go Go.RowKit

theorem five {c : List Value} (h : c.length = 5) : ∃ x0 x1 x2 x3 x4, c = [x0, x1, x2, x3, x4] := by
  match c, h with
  | [x0, x1, x2, x3, x4], _ => exact ⟨_, _, _, _, _, rfl⟩
/-- Bytes as a number, the least first. -/
def getP : List Int → Int
  | [] => 0
  | x :: xs => x + 256 * getP xs
theorem getP_range : ∀ (xs : List Int), (∀ x ∈ xs, inR .u8 x) → 0 ≤ getP xs ∧ getP xs < 256 ^ xs.length
  | [], _ => by simp [getP]
  | x :: xs, h => by
    have h1 := h x (by simp)
    have h2 := getP_range xs fun y hy => h y (by simp [hy])
    simp only [inR] at h1
    simp only [getP, List.length_cons, Int.pow_succ]
    omega
theorem take_min8 {n : Nat} {xs : List Int} (hn : n = xs.length) : xs.take (min n 8) = xs.take 8 := by
  subst hn
  rcases Nat.le_total xs.length 8 with h | h
  · rw [Nat.min_eq_left h, List.take_of_length_le (Nat.le_refl _), List.take_of_length_le h]
  · rw [Nat.min_eq_right h]
theorem pow_le8 {k : Nat} (h : k ≤ 7) : (256 : Int) ^ k ≤ 72057594037927936 := by
  match k, h with
  | 0, _ | 1, _ | 2, _ | 3, _ | 4, _ | 5, _ | 6, _ | 7, _ => decide
  | n + 8, h => omega
theorem getP_drop {ys : List Int} {m i : Nat} (hm : m = ys.length) (hi : i < m) : getP (ys.drop (m - (i + 1))) = ys[m - 1 - i]'(by omega) + 256 * getP (ys.drop (m - i)) := by
  rw [show m - (i + 1) = m - 1 - i from by omega, List.drop_eq_getElem_cons (by omega : m - 1 - i < ys.length), show m - 1 - i + 1 = m - i from by omega]
  rfl
theorem row_ne {w : World} {k l : Nat} {cs : Array Value} {T : TypeId} {fr : Nat × Nat} {rc : Loop} (hb : w.heap[k]? = some (.cells cs T fr)) (hl : w.heap[l]? = some (.loop rc)) : k ≠ l := by
  intro h; subst h; rw [hb] at hl; cases hl
/-- Bytes as words, eight at a time. -/
def chunkN (n j : Nat) : Nat := min 8 (n - 8 * j)
def chunkP (bs : List Int) (j : Nat) : Int := getP ((bs.drop (8 * j)).take 8)
theorem drop_chunk (bs : List Int) (j : Nat) : (bs.drop (8 * j)).take (chunkN bs.length j) = (bs.drop (8 * j)).take 8 := by
  rw [List.take_eq_take_iff, List.length_drop, chunkN]; omega
def chunksP (bs : List Int) : List Int := (List.range ((bs.length + 7) / 8)).map (chunkP bs)
theorem shl_or (a x : Int) (h0 : 0 ≤ a) (h1 : a < 72057594037927936) (hx0 : 0 ≤ x) (hx1 : x ≤ 255) : bitop .or .u64 (a * 256) x = x + 256 * a := by
  simp only [bitop, BitVec.toNat_or, BitVec.toNat_ofInt]
  have e1 : ((a * 256) % ((2 ^ IntKind.u64.bits : Nat) : Int)).toNat = a.toNat * 2 ^ 8 := by
    have : (a * 256) % ((2 ^ IntKind.u64.bits : Nat) : Int) = a * 256 := Int.emod_eq_of_lt (by omega) (by simp [IntKind.bits]; omega)
    rw [this]; omega
  have e2 : (x % ((2 ^ IntKind.u64.bits : Nat) : Int)).toNat = x.toNat := by
    rw [Int.emod_eq_of_lt hx0 (by simp [IntKind.bits]; omega)]
  rw [e1, e2, Nat.mul_comm, ← Nat.two_pow_add_eq_or_of_lt (by omega : x.toNat < 2 ^ 8)]
  rw [wrap_u64]
  omega
mutual
def Nd.sz : Nd → Nat
  | .mk _ _ _ _ ks => 1 + Nd.szs ks
def Nd.szs : List Nd → Nat
  | [] => 0
  | t :: ts => Nd.sz t + Nd.szs ts
end
theorem Nd.sz_pos (t : Nd) : 0 < t.sz := by cases t; simp only [Nd.sz]; omega
theorem Nd.szs_at : ∀ (ts : List Nd) (i : Nat) (t : Nd), ts[i]? = some t → t.sz ≤ Nd.szs ts
  | [], i, t, h => by simp at h
  | t :: ts, 0, u, h => by simp only [List.getElem?_cons_zero, Option.some.injEq] at h; subst h; simp only [Nd.szs]; omega
  | t :: ts, i + 1, u, h => by have := Nd.szs_at ts i u (by simpa using h); simp only [Nd.szs]; omega

def Nd.need : Nd → Int
  | .mk k _ w b ks => if k = 1 then (w.length : Int) + ks.length else if k = 2 then (w.length : Int) + ks.length + ((b.length : Int) + 7) / 8 else 0
def Nd.own : Nd → Bool
  | .mk k s w b ks =>
    if k = 0 then decide (s = 0) && decide ((w.length : Int) + b.length + ks.length = 0)
    else if k = 1 then decide (s = 0) && (decide ((b.length : Int) = 0) && decide ((if (ks.length : Int) > w.length then (ks.length : Int) else w.length) ≤ 100))
    else if k = 2 then
      if s = 2 then decide ((w.length : Int) + ks.length = 0) && decide ((b.length : Int) ≤ 4096)
      else if s = 5 then decide ((b.length : Int) + ks.length = 0) && decide ((w.length : Int) ≤ 4096)
      else if s = 6 then decide ((b.length : Int) + w.length = 0) && decide ((ks.length : Int) ≤ 4096)
      else false
    else false
mutual
def Nd.right : Nd → Nat → Bool
  | .mk k s w b ks, left => (Nd.mk k s w b ks).own && !(decide (k ≠ 0) && decide (left = 0)) && Nd.rights ks (left - 1)
def Nd.rights : List Nd → Nat → Bool
  | [], _ => true
  | t :: ts, left => Nd.right t left && Nd.rights ts left
end
/-- The first of so many that is so, or -1. -/
def findI (p : Nat → Bool) : Nat → Nat → Int
  | 0, i => -1
  | n + 1, i => if p i then i else findI p n (i + 1)
theorem findI_none {p : Nat → Bool} : ∀ (n i : Nat), (∀ j, i ≤ j → j < i + n → p j = false) → findI p n i = -1
  | 0, _, _ => rfl
  | n + 1, i, h => by
    simp only [findI, h i (Nat.le_refl _) (by omega), Bool.false_eq_true, if_false]
    exact findI_none n (i + 1) fun j h1 h2 => h j (by omega) (by omega)
theorem findI_some {p : Nat → Bool} : ∀ (n i k : Nat), i ≤ k → k < i + n → p k = true → (∀ j, i ≤ j → j < k → p j = false) → findI p n i = k
  | 0, i, k, h1, h2, _, _ => by omega
  | n + 1, i, k, h1, h2, h3, h4 => by
    by_cases hik : i = k
    · subst hik; simp only [findI, h3, if_true]
    · simp only [findI, h4 i (Nat.le_refl _) (by omega), Bool.false_eq_true, if_false]
      exact findI_some n (i + 1) k (by omega) (by omega) h3 fun j h5 h6 => h4 j (by omega) h6
theorem findI_any (p : Nat → Bool) : ∀ (n i : Nat), decide (findI p n i ≥ 0) = (List.range' i n).any p
  | 0, i => rfl
  | n + 1, i => by
    simp only [findI, List.range'_succ, List.any_cons]
    by_cases h : p i = true
    · simp only [h, if_true, Bool.true_or]; exact decide_eq_true (by omega)
    · have h : p i = false := by simpa using h
      simp only [h, Bool.false_eq_true, if_false, Bool.false_or]; exact findI_any p n (i + 1)
theorem rights_any (left : Nat) : ∀ (ks : List Nd), Nd.rights ks left = !((List.range' 0 ks.length).any fun i => !((ks.getD i (.mk 0 0 [] [] [])).right left))
  | [] => by simp [Nd.rights]
  | t :: ts => by
    simp only [Nd.rights, List.length_cons, List.range'_succ, List.any_cons, List.getD_cons_zero]
    rw [rights_any left ts]
    have : (List.range' (0 + 1) ts.length).any (fun i => !(((t :: ts).getD i (.mk 0 0 [] [] [])).right left)) = (List.range' 0 ts.length).any fun i => !((ts.getD i (.mk 0 0 [] [] [])).right left) := by
      rw [show List.range' (0 + 1) ts.length = (List.range' 0 ts.length).map (· + 1) from by
        apply List.ext_getElem?
        intro i
        simp [List.getElem?_range', Nat.add_comm]
        by_cases h : i < ts.length <;> simp [h, Nat.add_comm]]
      rw [List.any_map]
      rfl
    rw [this, Bool.not_or, Bool.not_not]
def Nd.content : Nd → List Int
  | .mk _ _ w b ks => w ++ chunksP b ++ List.replicate ks.length 0
/-- The pointer to something. -/
def Nd.ptr (off : Int) : Nd → Pt
  | .mk k s w b ks => if k = 1 then ⟨k, off, w.length, ks.length, 0, 0, 0, false⟩ else if k = 2 then ⟨k, off, 0, 0, s, (w.length : Int) + ks.length + b.length, 0, false⟩ else ⟨k, off, 0, 0, 0, 0, 0, false⟩
def Nd.near (t : Nd) (off : Int) : Int := encR (t.ptr off)
def farP (seg at_ : Int) : Int := encR ⟨3, at_, 0, 0, 0, 0, seg, false⟩
mutual
def Nd.many : Nd → Int → Int
  | .mk _ _ w b ks, l => Nd.manyL ks (l - 1 - w.length - b.length)
def Nd.manyL : List Nd → Int → Int
  | [], l => l
  | t :: ts, l => if l < 0 then l else Nd.manyL ts (Nd.many t l)
end
mutual
theorem Nd.many_le : ∀ (t : Nd) (l : Int), t.many l < l
  | .mk _ _ w b ks, l => by have := Nd.manyL_le ks (l - 1 - w.length - b.length); simp only [Nd.many]; omega
theorem Nd.manyL_le : ∀ (ts : List Nd) (l : Int), Nd.manyL ts l ≤ l
  | [], l => by simp [Nd.manyL]
  | t :: ts, l => by
    simp only [Nd.manyL]
    split
    · omega
    · have := Nd.many_le t l; have := Nd.manyL_le ts (t.many l); omega
end
theorem manyL_stop {l : Int} (h : l < 0) : ∀ (ts : List Nd), Nd.manyL ts l = l
  | [] => rfl
  | t :: ts => by simp [Nd.manyL, h]
mutual
def Nd.needs : Nd → Int
  | .mk k s w b ks => (Nd.mk k s w b ks).need + Nd.needsL ks
def Nd.needsL : List Nd → Int
  | [] => 0
  | t :: ts => Nd.needs t + Nd.needsL ts
end
theorem Nd.need_nn (t : Nd) : 0 ≤ t.need := by
  cases t
  simp only [Nd.need]
  split
  · omega
  · split <;> omega
mutual
theorem Nd.needs_nn : ∀ (t : Nd), 0 ≤ t.needs
  | .mk k s w b ks => by have := Nd.need_nn (.mk k s w b ks); have := Nd.needsL_nn ks; simp only [Nd.needs]; omega
theorem Nd.needsL_nn : ∀ (ts : List Nd), 0 ≤ Nd.needsL ts
  | [] => by simp [Nd.needsL]
  | t :: ts => by have := Nd.needs_nn t; have := Nd.needsL_nn ts; simp only [Nd.needsL]; omega
end
theorem needsL_append : ∀ (a b : List Nd), Nd.needsL (a ++ b) = Nd.needsL a + Nd.needsL b
  | [], b => by simp [Nd.needsL]
  | t :: a, b => by simp only [List.cons_append, Nd.needsL, needsL_append a b]; omega
theorem needsL_take {ks : List Nd} {k : Nat} (h : k < ks.length) : Nd.needsL (ks.take (k + 1)) = Nd.needsL (ks.take k) + ks[k].needs ∧ Nd.needsL (ks.take k) + ks[k].needs ≤ Nd.needsL ks := by
  have h1 : Nd.needsL (ks.take (k + 1)) = Nd.needsL (ks.take k) + ks[k].needs := by
    rw [List.take_add_one, List.getElem?_eq_getElem h, needsL_append]; simp [Nd.needsL]
  refine ⟨h1, ?_⟩
  have h2 : Nd.needsL ks = Nd.needsL (ks.take (k + 1)) + Nd.needsL (ks.drop (k + 1)) := by rw [← needsL_append, List.take_append_drop]
  have := Nd.needsL_nn (ks.drop (k + 1))
  omega
theorem rights_append (left : Nat) : ∀ (a b : List Nd), Nd.rights (a ++ b) left = (Nd.rights a left && Nd.rights b left)
  | [], b => by simp [Nd.rights]
  | t :: a, b => by simp [Nd.rights, rights_append left a b, Bool.and_assoc]
theorem rights_false {left : Nat} : ∀ {ks : List Nd} {k : Nat} (h : k < ks.length), ks[k].right left = false → Nd.rights ks left = false
  | t :: ts, 0, _, h => by simp at h; simp [Nd.rights, h]
  | t :: ts, k + 1, hk, h => by
    have := rights_false (ks := ts) (k := k) (by simpa using hk) (by simpa using h)
    simp [Nd.rights, this]
theorem own_kids_nil {w b : List Int} {ks : List Nd} (h : (w.length : Int) + b.length + ks.length = 0) : ks = [] := List.eq_nil_of_length_eq_zero (by omega)
theorem own_kids {k s : Int} {w b : List Int} {ks : List Nd} (h : (Nd.mk k s w b ks).own = true) (hk : ¬ k ≠ 0) : ks = [] := by
  have hk : k = 0 := by omega
  subst hk
  simp only [Nd.own, if_true, Bool.and_eq_true, decide_eq_true_eq] at h
  exact own_kids_nil h.2
theorem ownk_one {k s : Int} {w b : List Int} {ks : List Nd} (h0 : ¬ k = 0) (h2 : ¬ k = 2) : ((((decide (k = 1) && decide (s = 0)) && decide ((w.length : Int) ≤ 100)) && decide ((b.length : Int) = 0)) && decide ((ks.length : Int) ≤ 100)) = (Nd.mk k s w b ks).own := by
  simp only [Nd.own, if_neg h0, if_neg h2]
  rw [Bool.eq_iff_iff]
  by_cases h1 : k = 1
  · simp only [h1, decide_true, Bool.true_and, if_true, Bool.and_eq_true, decide_eq_true_eq]
    split <;> omega
  · simp [h1]
theorem ownk_two {k s : Int} {w b : List Int} {ks : List Nd} (h2 : k = 2) : ((((decide (s = 2) && decide ((w.length : Int) = 0)) && decide ((ks.length : Int) = 0)) && decide ((b.length : Int) ≤ 4096)) || (((decide (s = 5) && decide ((b.length : Int) = 0)) && decide ((ks.length : Int) = 0)) && decide ((w.length : Int) ≤ 4096)) || (((decide (s = 6) && decide ((b.length : Int) = 0)) && decide ((w.length : Int) = 0)) && decide ((ks.length : Int) ≤ 4096))) = (Nd.mk k s w b ks).own := by
  subst h2
  simp only [Nd.own, show ¬ ((2 : Int) = 0) from by decide, show ¬ ((2 : Int) = 1) from by decide, if_false, if_true]
  rw [Bool.eq_iff_iff]
  by_cases s2 : s = 2
  · simp only [if_pos s2, Bool.or_eq_true, Bool.and_eq_true, decide_eq_true_eq]; omega
  · by_cases s5 : s = 5
    · simp only [if_neg s2, if_pos s5, Bool.or_eq_true, Bool.and_eq_true, decide_eq_true_eq]; omega
    · by_cases s6 : s = 6
      · simp only [if_neg s2, if_neg s5, if_pos s6, Bool.or_eq_true, Bool.and_eq_true, decide_eq_true_eq]; omega
      · simp [s2, s5, s6]
end Go.Proofs.Ytfhfecepcnapfaa.K
namespace Go.Proofs.Ytfhfecepcnapfaa.K
open Go Go.RowKit

def wordsV (ws : List Int) : List Value := ws.map (.int .u64)
/-- How many words all have. -/
def totalP : List (List Int) → Int
  | [] => 0
  | s :: A => (s.length : Int) + totalP A
theorem totalP_append : ∀ (a b : List (List Int)), totalP (a ++ b) = totalP a + totalP b
  | [], b => by simp [totalP]
  | s :: a, b => by simp only [List.cons_append, totalP, totalP_append a b]; omega
theorem totalP_take {A : List (List Int)} {k : Nat} (h : k < A.length) : totalP (A.take (k + 1)) = totalP (A.take k) + (A[k].length : Int) := by
  rw [List.take_add_one, List.getElem?_eq_getElem h, totalP_append]; simp [totalP]
theorem totalP_bound : ∀ {A : List (List Int)}, (∀ s ∈ A, s.length ≤ 100000) → 0 ≤ totalP A ∧ totalP A ≤ 100000 * (A.length : Int)
  | [], _ => by simp [totalP]
  | s :: A, h => by
    have h1 := h s (by simp)
    have h2 := totalP_bound (A := A) fun t ht => h t (by simp [ht])
    simp only [totalP, List.length_cons]
    omega
theorem totalP_nn : ∀ (A : List (List Int)), 0 ≤ totalP A
  | [] => by simp [totalP]
  | s :: A => by have := totalP_nn A; simp only [totalP]; omega
theorem totalP_le {A : List (List Int)} (k : Nat) : totalP (A.take k) ≤ totalP A := by
  have h := totalP_append (A.take k) (A.drop k)
  rw [List.take_append_drop] at h
  have := totalP_nn (A.drop k)
  omega
/-- Its blocks. -/
def blks (bB : Nat) (so : Value) (segs : List Value) : List Nat := bB :: (so.ownBlock.toList ++ segs.filterMap Value.ownBlock)
theorem mem_blks {bB : Nat} {so : Value} {segs : List Value} {k : Nat} : k ∈ blks bB so segs ↔ k = bB ∨ so.ownBlock = some k ∨ ∃ (i : Nat) (v : Value), segs[i]? = some v ∧ v.ownBlock = some k := by
  simp only [blks, List.mem_cons, List.mem_append, Option.mem_toList, List.mem_filterMap]
  constructor
  · rintro (h | h | ⟨v, hv, hk⟩)
    · exact .inl h
    · exact .inr (.inl h)
    · obtain ⟨i, hi, rfl⟩ := List.getElem_of_mem hv
      exact .inr (.inr ⟨i, _, List.getElem?_eq_getElem hi, hk⟩)
  · rintro (h | h | ⟨i, v, hv, hk⟩)
    · exact .inl h
    · exact .inr (.inl h)
    · exact .inr (.inr ⟨v, List.mem_of_getElem? hv, hk⟩)
/-- TB: the builder's type; TO: a segment's; TW: a word's. -/
structure BldAt (TB TO TW : TypeId) (w : World) (bB : Nat) (so : Value) (segs : List Value) (A : List (List Int)) (size all : Int) : Prop where
  box : w.heap[bB]? = some (.cells #[so, .int .i64 size, .int .i64 all] TB (0, 0))
  out : w.ownsRow 0 TO 1 so A.length segs
  seg : ∀ (i : Nat) (v : Value) (ws : List Int), segs[i]? = some v → A[i]? = some ws → w.ownsRow 0 TW 1 v ws.length (wordsV ws)
  dis : ∀ (i j : Nat) (v u : Value) (b : Nat), segs[i]? = some v → segs[j]? = some u → v.ownBlock = some b → u.ownBlock = some b → i = j
section
variable {TB TO TW : TypeId} {w w' : World} {bB : Nat} {so : Value} {segs : List Value} {A : List (List Int)} {size all : Int}
theorem BldAt.len (h : BldAt TB TO TW w bB so segs A size all) : segs.length = A.length := by rw [h.out.1, Nat.mul_one]
theorem BldAt.at_ (h : BldAt TB TO TW w bB so segs A size all) {i : Nat} (hi : i < A.length) : ∃ v, segs[i]? = some v ∧ w.ownsRow 0 TW 1 v A[i].length (wordsV A[i]) :=
  ⟨segs[i]'(by rw [h.len]; exact hi), List.getElem?_eq_getElem _, h.seg i _ _ (List.getElem?_eq_getElem _) (List.getElem?_eq_getElem hi)⟩
theorem BldAt.lt (h : BldAt TB TO TW w bB so segs A size all) : ∀ k ∈ blks bB so segs, k < w.heap.size := by
  intro k hk
  rcases mem_blks.1 hk with rfl | hk | ⟨i, v, hv, hk⟩
  · exact lt_of_heap h.box
  · exact (h.out.lt k hk).2
  · have hi : i < A.length := by rw [← h.len]; exact (List.getElem?_eq_some_iff.1 hv).1
    exact ((h.seg i v _ hv (List.getElem?_eq_getElem hi)).lt k hk).2
/-- Where none of its blocks has changed it is as it was. -/
theorem BldAt.keep {F : List Nat} (h : BldAt TB TO TW w bB so segs A size all) (g : Kp F w w') (hF : ∀ k ∈ blks bB so segs, k ∉ F) : BldAt TB TO TW w' bB so segs A size all := by
  have own : ∀ {T : TypeId} {v : Value} {n : Nat} {xs : List Value}, w.ownsRow 0 T 1 v n xs → (∀ k, v.ownBlock = some k → k ∉ F) → w'.ownsRow 0 T 1 v n xs := by
    intro T v n xs ho hk
    refine ⟨ho.1, ?_⟩
    rcases ho.2 with hn | ⟨q, cap, cur, rfl, hb, hg, rest⟩
    · exact .inl hn
    · exact .inr ⟨q, cap, cur, rfl, hb, g.heap hg (hk q rfl), rest⟩
  exact ⟨g.heap h.box (hF _ (mem_blks.2 (.inl rfl))), own h.out fun k hk => hF k (mem_blks.2 (.inr (.inl hk))), fun i v ws hv hw => own (h.seg i v ws hv hw) fun k hk => hF k (mem_blks.2 (.inr (.inr ⟨i, v, hv, hk⟩))), h.dis⟩
theorem BldAt.grow (h : BldAt TB TO TW w bB so segs A size all) (g : Grow w w') : BldAt TB TO TW w' bB so segs A size all := h.keep (F := []) (Kp.of_grow g) fun k _ => by simp
theorem own_block_cells {T : TypeId} {v : Value} {n k : Nat} {xs : List Value} (h : w.ownsRow 0 T 1 v n xs) (hk : v.ownBlock = some k) : ∃ cap cur, v = .slice (some ⟨k, 0, none⟩) n cap ∧ w.heap[k]? = some (.cells cur T (0, 0)) ∧ n ≤ cap ∧ cap ≤ maxLen ∧ cur.size = cap ∧ cur.toList.take n = xs := by
  rcases h.2 with ⟨rfl, _⟩ | ⟨q, cap, cur, rfl, _, hg, h1, h2, h3, h4⟩
  · simp [Value.ownBlock] at hk
  · simp only [Value.ownBlock, Option.some.injEq] at hk
    subst hk
    exact ⟨cap, cur, rfl, hg, h1, h2, by simpa using h3, by simpa using h4⟩
/-- The box holds another row of segments: one more, which has nothing. -/
theorem BldAt.push {so' : Value} {w1 : World} (hOB : TO ≠ TB) (hWB : TW ≠ TB) (hOW : TO ≠ TW) (h : BldAt TB TO TW w bB so segs A size all) (ho : w1.ownsRow 0 TO 1 so' (A.length + 1) (segs ++ [.slice none 0 0])) (gr : w.grownBy w1 so.ownBlock)
    (hb : w'.heap[bB]? = some (.cells #[so', .int .i64 size, .int .i64 all] TB (0, 0))) (u : Upd bB w1 w') :
    BldAt TB TO TW w' bB so' (segs ++ [.slice none 0 0]) (A ++ [[]]) size all := by
  have hbox1 := gr_heap gr h.box (own_ne h.out h.box hOB)
  refine ⟨hb, by rw [List.length_append]; exact own_upd ho u (own_ne ho hbox1 hOB), fun i v ws hv hw => ?_, fun i j v u b hv hu h1 h2 => ?_⟩
  · rcases Nat.lt_or_ge i segs.length with hi | hi
    · rw [List.getElem?_append_left hi] at hv
      rw [List.getElem?_append_left (by rw [← h.len]; exact hi)] at hw
      have hs := h.seg i v ws hv hw
      have hs1 : w1.ownsRow 0 TW 1 v ws.length (wordsV ws) := hs.kept gr (by
        cases hvb : v.ownBlock with
        | none => exact .inl rfl
        | some k =>
          refine .inr fun he => ?_
          obtain ⟨_, _, _, h3, _⟩ := own_block_cells hs hvb
          exact own_ne h.out h3 hOW he.symm)
      exact own_upd hs1 u (own_ne hs1 hbox1 hWB)
    · rw [List.getElem?_append_right hi] at hv
      rw [List.getElem?_append_right (by rw [← h.len]; exact hi), h.len.symm] at hw
      have : i - segs.length = 0 := by
        have := (List.getElem?_eq_some_iff.1 hv).1
        simp at this; omega
      rw [this] at hv hw
      simp only [List.getElem?_cons_zero, Option.some.injEq] at hv hw
      subst hv; subst hw
      exact World.ownsRow_nil _ _ _ _
  · rcases Nat.lt_or_ge i segs.length with hi | hi
    · rw [List.getElem?_append_left hi] at hv
      rcases Nat.lt_or_ge j segs.length with hj | hj
      · rw [List.getElem?_append_left hj] at hu
        exact h.dis i j v u b hv hu h1 h2
      · rw [List.getElem?_append_right hj] at hu
        have : u = .slice none 0 0 := by
          have := List.mem_of_getElem? hu
          simpa using this
        subst this; simp [Value.ownBlock] at h2
    · rw [List.getElem?_append_right hi] at hv
      have : v = .slice none 0 0 := by
        have := List.mem_of_getElem? hv
        simpa using this
      subst this; simp [Value.ownBlock] at h1
end
/-- Where an append's row lies: where it lay, or in a new block. -/
theorem append_block {P : Program} {w w' : World} {base n m cp : Nat} {t ty el : TypeId} {sz by_ : Nat} {z v v' : Value} {ad : Option Addr} {xs ys : List Value} [hz : ElzI P t el sz by_ z] (hown : w.ownsRow base el sz v n xs) (hra : RowAt w sz ad m ys)
    (h1 : ∀ q ∈ ys, q.oneCell' = true) (hl : n + m ≤ maxLen) (hby : (n + m) * by_ ≤ 140737488355328) (hrun : (Builtin.append_ #[t, t] ty #[v, .slice ad m cp]).run P w = .ok v' w') : v'.ownBlock = v.ownBlock ∨ v'.ownBlock = some w.heap.size := by
  obtain ⟨hu, i, hi, hzz, hsz, hbb, hzs, hpos⟩ := elz_of hz.h
  subst hsz; subst hbb
  have hsmall : n + m ≤ 9223372036854775807 := by simp only [maxLen] at hl; omega
  rcases Nat.eq_zero_or_pos m with hm | hm
  · subst hm
    have hys : ys = [] := List.eq_nil_of_length_eq_zero (by simpa using hra.len)
    subst hys
    rcases hown.2 with ⟨rfl, rfl⟩ | ⟨g, cap, cur, rfl, _, hg, hnc, _, hcs, _⟩
    · have hr : (Builtin.append_ #[t, t] ty #[.slice none 0 0, .slice ad 0 cp]).run P w = .ok (.slice none 0 0) w := by
        cases ad <;> simp [Builtin.append_, run_underlying hu, sizeOf, typeInfo, hi, Builtin.lenOf, Builtin.firstCells, loadCells, loadCellsFrom]
      rw [hr] at hrun
      simp only [Result.ok.injEq] at hrun
      exact .inl (by rw [← hrun.1])
    · cases ad with
      | none =>
        have hr : (Builtin.append_ #[t, t] ty #[.slice (some ⟨g, 0, none⟩) n cap, .slice none 0 cp]).run P w = .ok (.slice (some ⟨g, 0, none⟩) n cap) w := by
          simp [Builtin.append_, run_underlying hu, sizeOf, typeInfo, hi, Builtin.lenOf, Builtin.firstCells, hnc, storeCells]
        rw [hr] at hrun
        simp only [Result.ok.injEq] at hrun
        exact .inl (by rw [← hrun.1])
      | some ad =>
        have hr := run_append_room (P := P) w t ty el i hu hi g n cap cur hg ad 0 cp [] (by simp) (fun j u hj => by simp at hj) (by simp) (by omega) (by simp [hcs]; exact Nat.mul_le_mul_right _ hnc)
        rw [hr] at hrun
        simp only [Result.ok.injEq] at hrun
        exact .inl (by rw [← hrun.1]; rfl)
  · obtain ⟨b, o, cs, T, fr, rfl, hb, hrow⟩ := hra.at_ hm
    have hcell : ∀ j u, ys[j]? = some u → w.cell? ((⟨b, o, none⟩ : Addr).add j) = some u := fun j u hj => by
      rw [add_lit, cell_of_row w b (o + j) cs T fr hb]
      exact row_cell hrow hj
    rcases hown.2 with ⟨rfl, rfl⟩ | ⟨g, cap, cur, rfl, _, hg, hnc, _, hcs, _⟩
    · have hr := run_append_nil (P := P) w t ty el i z hu hi hzz ⟨b, o, none⟩ m cp ys hra.len hcell hm (by omega) (by have := hby; simp only [Nat.zero_add] at this; omega)
      rw [hr] at hrun
      simp only [Result.ok.injEq] at hrun
      exact .inr (by rw [← hrun.1]; rfl)
    · by_cases hroom : n + m ≤ cap
      · have hr := run_append_room (P := P) w t ty el i hu hi g n cap cur hg ⟨b, o, none⟩ m cp ys hra.len hcell h1 hroom (by rw [hra.len, hcs, ← Nat.add_mul]; exact Nat.mul_le_mul_right _ hroom)
        rw [hr] at hrun
        simp only [Result.ok.injEq] at hrun
        exact .inl (by rw [← hrun.1]; rfl)
      · have hr := run_append_grow (P := P) w t ty el i z hu hi hzz ⟨g, 0, none⟩ n cap xs hown.1 (hown.cells (g := g) rfl) ⟨b, o, none⟩ m cp ys hra.len hcell (by omega) (by omega) (growslice_fits (by omega) hby)
        rw [hr] at hrun
        simp only [Result.ok.injEq] at hrun
        exact .inr (by rw [← hrun.1]; rfl)
theorem append_run {P : Program} {w : World} {base n m cp : Nat} {t ty el : TypeId} {sz by_ : Nat} {z v : Value} {ad : Option Addr} {xs ys : List Value} [hz : ElzI P t el sz by_ z] (hown : w.ownsRow base el sz v n xs) (hra : RowAt w sz ad m ys)
    (h1 : ∀ q ∈ ys, q.oneCell' = true) (hl : n + m ≤ maxLen) (hby : (n + m) * by_ ≤ 140737488355328) (hbase : base ≤ w.heap.size) :
    ∃ v' w', (Builtin.append_ #[t, t] ty #[v, .slice ad m cp]).run P w = .ok v' w' ∧ w'.ownsRow base el sz v' (n + m) (xs ++ ys) ∧ w.grownBy w' v.ownBlock ∧ (v'.ownBlock = v.ownBlock ∨ v'.ownBlock = some w.heap.size) := by
  obtain ⟨hu, i, hi, hzz, hsz, hbb, hzs, hpos⟩ := elz_of hz.h
  suffices h : ∃ v' w', (Builtin.append_ #[t, t] ty #[v, .slice ad m cp]).run P w = .ok v' w' ∧ w'.ownsRow base el sz v' (n + m) (xs ++ ys) ∧ w.grownBy w' v.ownBlock by
    obtain ⟨v', w', hr, ho, hg⟩ := h
    exact ⟨v', w', hr, ho, hg, append_block (cp := cp) (ty := ty) hown hra h1 hl hby hr⟩
  rcases Nat.eq_zero_or_pos m with hm | hm
  · subst hm
    have hys : ys = [] := List.eq_nil_of_length_eq_zero (by simpa using hra.len)
    subst hys
    cases ad with
    | none =>
      have hrun : (Builtin.append_ #[t, t] ty #[v, .slice none 0 cp]).run P w = .ok v w := by
        rcases hown.2 with ⟨rfl, rfl⟩ | ⟨gg, cap, cur, rfl, _, _, hnc, _⟩
        · simp [Builtin.append_, run_underlying hu, sizeOf, typeInfo, hi, Builtin.lenOf, Builtin.firstCells]
        · simp [Builtin.append_, run_underlying hu, sizeOf, typeInfo, hi, Builtin.lenOf, Builtin.firstCells, hnc, storeCells]
      exact ⟨_, _, hrun, by simpa using hown, ⟨rfl, rfl, rfl, Nat.le_refl _, fun _ _ _ => rfl⟩⟩
    | some ad =>
      obtain ⟨v', w', hrun, ho, hg, _⟩ := run_append_own (P := P) w base t ty el i z sz by_ hu hi hzz hsz hbb hzs hpos v n xs hown ad 0 cp [] (by simp) (fun j u hj => by simp at hj) (by simp) hl hby hbase
      exact ⟨v', w', hrun, ho, hg⟩
  · obtain ⟨b, o, cs, T, fr, rfl, hb, hrow⟩ := hra.at_ hm
    obtain ⟨v', w', hrun, ho, hg, _⟩ := run_append_own (P := P) w base t ty el i z sz by_ hu hi hzz hsz hbb hzs hpos v n xs hown ⟨b, o, none⟩ m cp ys hra.len (fun j u hj => by
      rw [add_lit, cell_of_row w b (o + j) cs T fr hb]
      exact row_cell hrow hj) h1 hl hby hbase
    exact ⟨v', w', hrun, ho, hg⟩
/-- append, where the row's block is asked for. -/
theorem r_appendB {P : Program} {e : Env} {w : World} {K : Value → World → Prop} {d : Option Nat} {ty : TypeId} {pos : String} {af : Array Edge} {g : Option (Nat × Bool)} {t : TypeId} {x y : Operand} {xs_ : Array Operand} {at_ : Array TypeId} (hxs : xs_ = #[x, y]) (hat : at_ = #[t, t]) {base n m : Nat} {el : TypeId} {sz by_ : Nat} {z v u : Value} {xs ys : List Value} [hz : ElzI P t el sz by_ z] (hx : ev e x = v) (hy : ev e y = u)
    (hown : w.ownsRow base el sz v n xs) (hr : Row w sz u m ys) (h1 : ∀ q ∈ ys, q.oneCell' = true) (hl : n + m ≤ maxLen) (hby : (n + m) * by_ ≤ 140737488355328) (hbase : base ≤ w.heap.size)
    (h : ∀ v' w', w'.ownsRow base el sz v' (n + m) (xs ++ ys) → w.grownBy w' v.ownBlock → (v'.ownBlock = v.ownBlock ∨ v'.ownBlock = some w.heap.size) → K v' w') : Run1 P ⟨d, .call ⟨.builtin .append, xs_, at_⟩, ty, pos, af, g⟩ e w K := by
  subst hxs; subst hat
  obtain ⟨ad, cp, rfl, hmc, _, hra⟩ := hr
  obtain ⟨v', w', hrun, ho, hg, hbk⟩ := append_run (P := P) (t := t) (ty := ty) (cp := cp) hown hra h1 hl hby hbase
  refine run1_ok (v := v') (w' := w') ?_ (h v' w' ho hg hbk)
  simp only [execOp, resolve, invoke, builtin, Sem.run_bind, Sem.run_pure, Result.andThen_ok, List.map_toArray, List.map_cons, List.map_nil, hx, hy, hrun]
theorem own_keepB {w w' : World} {F : List Nat} {base n sz : Nat} {T : TypeId} {v : Value} {xs : List Value} (h : w.ownsRow base T sz v n xs) (g : Kp F w w') (hF : ∀ k, v.ownBlock = some k → k ∉ F) : w'.ownsRow base T sz v n xs := by
  refine ⟨h.1, ?_⟩
  rcases h.2 with hn | ⟨q, cap, cur, rfl, hb, hg, rest⟩
  · exact .inl hn
  · exact .inr ⟨q, cap, cur, rfl, hb, g.heap hg (hF q rfl), rest⟩
theorem RowAt.keepB {w w' : World} {F : List Nat} {sz n : Nat} {ad : Option Addr} {xs : List Value} (h : RowAt w sz ad n xs) (g : Kp F w w') (hF : ∀ a, ad = some a → a.block ∉ F) : RowAt w' sz ad n xs :=
  h.keep fun a _ _ _ ha hb => g.heap hb (hF a ha)
def growB (A : List (List Int)) (q : Nat) : List (List Int) := if q = A.length then A ++ [[]] else A
def growA (A : List (List Int)) (q : Nat) (l : List Int) : List (List Int) := (growB A q).set q ((growB A q).getD q [] ++ l)
theorem growB_len {A : List (List Int)} {q : Nat} (hq : q ≤ A.length) : q < (growB A q).length ∧ (growB A q).length ≤ A.length + 1 := by
  unfold growB; split
  · simp; omega
  · omega
theorem growB_at {A : List (List Int)} {q : Nat} {m : Nat} (hA : ∀ s ∈ A, s.length ≤ m) : ((growB A q).getD q []).length ≤ m := by
  unfold growB
  split
  · subst_vars; simp
  · rw [List.getD_eq_getElem?_getD]
    cases h : A[q]? with
    | none => simp
    | some s => simpa using hA s (List.mem_of_getElem? h)
section
variable {TB TO TW : TypeId} {w w1 w' : World} {bB : Nat} {so : Value} {segs : List Value} {A : List (List Int)} {size all : Int}
/-- A segment has more words behind it: its row has been written, then the row of segments. -/
theorem BldAt.more {i go : Nat} {sv sv' : Value} {ws l : List Int} {cap : Nat} {cur cur' : Array Value} (hOB : TO ≠ TB) (hWB : TW ≠ TB) (hOW : TO ≠ TW) (h : BldAt TB TO TW w bB so segs A size all) (hA : A[i]? = some ws) (hs : segs[i]? = some sv)
    (ho : w1.ownsRow 0 TW 1 sv' (ws ++ l).length (wordsV (ws ++ l))) (gr : Kp sv.ownBlock.toList w w1) (hnew : ∀ k, sv'.ownBlock = some k → sv.ownBlock = some k ∨ w.heap.size ≤ k)
    (hso : so = .slice (some ⟨go, 0, none⟩) A.length cap) (hcur : w.heap[go]? = some (.cells cur TO (0, 0))) (hcur' : w'.heap[go]? = some (.cells cur' TO (0, 0))) (hset : cur'.toList = cur.toList.set i sv') (u : Upd go w1 w') :
    BldAt TB TO TW w' bB so (segs.set i sv') (A.set i (ws ++ l)) size all := by
  have hiA : i < A.length := (List.getElem?_eq_some_iff.1 hA).1
  have his : i < segs.length := (List.getElem?_eq_some_iff.1 hs).1
  have hsv := h.seg i sv ws hs hA
  have hbox1 := gr.heap h.box (by rw [Option.mem_toList]; exact own_ne hsv h.box hWB)
  have hgo1 := gr.heap hcur (by rw [Option.mem_toList]; exact own_ne hsv hcur hOW.symm)
  have hgB : go ≠ bB := by intro he; subst he; have := hcur.symm.trans h.box; simp only [Option.some.injEq, Obj.cells.injEq] at this; exact hOB this.2.1
  refine ⟨u.heap hbox1 hgB.symm, ?_, fun j v wj hv hw => ?_, fun j k v q b hv hq h1 h2 => ?_⟩
  · obtain ⟨hl, hc⟩ := h.out
    refine ⟨by rw [List.length_set, List.length_set]; exact hl, .inr ?_⟩
    rcases hc with ⟨h0, _⟩ | ⟨g, cap', cur0, hv, hb, hg, h1, h2, h3, h4⟩
    · rw [hso] at h0; cases h0
    · rw [hso] at hv
      simp only [Value.slice.injEq, Option.some.injEq, Addr.mk.injEq, and_true, true_and] at hv
      obtain ⟨rfl, rfl⟩ := hv
      rw [hcur] at hg
      simp only [Option.some.injEq, Obj.cells.injEq, and_true] at hg
      subst hg
      refine ⟨go, cap, cur', by rw [List.length_set]; exact hso, Nat.zero_le _, hcur', by rw [List.length_set]; exact h1, h2, ?_, ?_⟩
      · rw [← Array.length_toList, hset, List.length_set, Array.length_toList, h3]
      · rw [hset, List.length_set, List.take_set, h4]
  · by_cases hji : j = i
    · subst hji
      rw [List.getElem?_set_self his] at hv
      rw [List.getElem?_set_self hiA] at hw
      simp only [Option.some.injEq] at hv hw
      subst hv; subst hw
      exact own_upd ho u (own_ne ho hgo1 hOW.symm)
    · rw [List.getElem?_set_ne (Ne.symm hji)] at hv hw
      have hsj := h.seg j v wj hv hw
      have hs1 : w1.ownsRow 0 TW 1 v wj.length (wordsV wj) := own_keepB hsj gr fun b hvb => by
        rw [Option.mem_toList]; intro he; exact hji (h.dis j i v sv b hv hs hvb he)
      exact own_upd hs1 u (own_ne hs1 hgo1 hOW.symm)
  · have key : ∀ (j k : Nat) (v q : Value), (segs.set i sv')[j]? = some v → (segs.set i sv')[k]? = some q → v.ownBlock = some b → q.ownBlock = some b → j = i → k = i := by
      intro j k v q hv hq h1 h2 hji
      subst hji
      rw [List.getElem?_set_self his] at hv
      simp only [Option.some.injEq] at hv
      subst hv
      refine Classical.byContradiction fun hne => ?_
      rw [List.getElem?_set_ne (Ne.symm hne)] at hq
      rcases hnew b h1 with hn | hn
      · exact hne (h.dis k j q sv b hq hs h2 hn)
      · have hk : k < A.length := by rw [← h.len]; exact (List.getElem?_eq_some_iff.1 hq).1
        have := (h.seg k q _ hq (List.getElem?_eq_getElem hk)).lt b h2
        omega
    by_cases hji : j = i
    · rw [key j k v q hv hq h1 h2 hji, hji]
    · by_cases hki : k = i
      · rw [key k j q v hq hv h2 h1 hki, hki]
      · rw [List.getElem?_set_ne (Ne.symm hji)] at hv
        rw [List.getElem?_set_ne (Ne.symm hki)] at hq
        exact h.dis j k v q b hv hq h1 h2
/-- How many words in all is told anew. -/
theorem BldAt.count {all' : Int} (hOB : TO ≠ TB) (hWB : TW ≠ TB) (h : BldAt TB TO TW w bB so segs A size all) (hb : w'.heap[bB]? = some (.cells #[so, .int .i64 size, .int .i64 all'] TB (0, 0))) (u : Upd bB w w') : BldAt TB TO TW w' bB so segs A size all' :=
  ⟨hb, own_upd h.out u (own_ne h.out h.box hOB), fun i v ws hv hw => own_upd (h.seg i v ws hv hw) u (own_ne (h.seg i v ws hv hw) h.box hWB), h.dis⟩
/-- A word of a segment is written. -/
theorem BldAt.setw {q i g cap : Nat} {sv : Value} {ws : List Int} {x : Int} {cur cur' : Array Value} (hWB : TW ≠ TB) (hOW : TO ≠ TW) (h : BldAt TB TO TW w bB so segs A size all) (hA : A[q]? = some ws) (hs : segs[q]? = some sv)
    (hsv : sv = .slice (some ⟨g, 0, none⟩) ws.length cap) (hcur : w.heap[g]? = some (.cells cur TW (0, 0))) (hcur' : w'.heap[g]? = some (.cells cur' TW (0, 0))) (hset : cur'.toList = cur.toList.set i (.int .u64 x)) (hi : i < ws.length) (u : Upd g w w') :
    BldAt TB TO TW w' bB so segs (A.set q (ws.set i x)) size all := by
  have hqA : q < A.length := (List.getElem?_eq_some_iff.1 hA).1
  have hgB : bB ≠ g := by intro he; subst he; have := hcur.symm.trans h.box; simp only [Option.some.injEq, Obj.cells.injEq] at this; exact hWB this.2.1
  have hbs : sv.ownBlock = some g := by rw [hsv]; rfl
  refine ⟨u.heap h.box hgB, by rw [List.length_set]; exact own_upd h.out u (own_ne h.out hcur hOW), fun j v wj hv hw => ?_, h.dis⟩
  by_cases hj : j = q
  · subst hj
    rw [List.getElem?_set_self hqA] at hw
    rw [hs] at hv
    simp only [Option.some.injEq] at hv hw
    subst hv; subst hw
    obtain ⟨hl, hc⟩ := h.seg j sv ws hs hA
    refine ⟨by simp [wordsV], .inr ?_⟩
    rcases hc with ⟨h0, _⟩ | ⟨g', cap', cur0, hv, hb, hg, h1, h2, h3, h4⟩
    · rw [hsv] at h0; cases h0
    · rw [hsv] at hv
      simp only [Value.slice.injEq, Option.some.injEq, Addr.mk.injEq, and_true, true_and] at hv
      obtain ⟨rfl, rfl⟩ := hv
      rw [hcur] at hg
      simp only [Option.some.injEq, Obj.cells.injEq, and_true] at hg
      subst hg
      refine ⟨g, cap, cur', by rw [List.length_set]; exact hsv, Nat.zero_le _, hcur', by rw [List.length_set]; exact h1, h2, ?_, ?_⟩
      · rw [← Array.length_toList, hset, List.length_set, Array.length_toList, h3]
      · rw [hset, List.length_set, List.take_set, h4, wordsV, wordsV, List.map_set]
  · rw [List.getElem?_set_ne (Ne.symm hj)] at hw
    have hsj := h.seg j v wj hv hw
    exact own_upd hsj u fun he => hj (h.dis j q v sv g hv hs he hbs)
end
theorem own_apart {w : World} {base n sz : Nat} {T : TypeId} {v : Value} {xs : List Value} {row : Option Nat} (h : w.ownsRow base T sz v n xs) (hr : ∀ k, row = some k → k < base ∨ w.heap.size ≤ k) : v.ownBlock = none ∨ v.ownBlock ≠ row := by
  cases hv : v.ownBlock with
  | none => exact .inl rfl
  | some b =>
    refine .inr fun he => ?_
    have h1 := h.lt b hv
    have h2 := hr b he.symm
    omega
theorem own_keepK {w w' : World} {F : List Nat} {base n sz : Nat} {T : TypeId} {v : Value} {xs : List Value} (h : w.ownsRow base T sz v n xs) (g : Kp F w w') (hF : ∀ k ∈ F, k < base ∨ w.heap.size ≤ k) : w'.ownsRow base T sz v n xs := by
  refine ⟨h.1, ?_⟩
  rcases h.2 with hn | ⟨q, cap, cur, rfl, hb, hg, rest⟩
  · exact .inl hn
  · refine .inr ⟨q, cap, cur, rfl, hb, g.heap hg fun hm => ?_, rest⟩
    have := lt_of_heap hg
    have := hF q hm
    omega
/-- An arena as a value: a row of segments, each a row of words. -/
def ArenaR (w : World) (v : Value) (A : List (List Int)) : Prop := ∃ segs, Row w 1 v A.length segs ∧ ∀ (i : Nat) (s : List Int), A[i]? = some s → ∃ u, segs[i]? = some u ∧ Row w 1 u s.length (wordsV s)
theorem ArenaR.grow {w w' : World} {v : Value} {A : List (List Int)} (h : ArenaR w v A) (g : Grow w w') : ArenaR w' v A := by
  obtain ⟨segs, h1, h2⟩ := h
  refine ⟨segs, h1.grow g, fun i s hs => ?_⟩
  obtain ⟨u, hu, hr⟩ := h2 i s hs
  exact ⟨u, hu, hr.grow g⟩
/-- What was built, as a value. -/
theorem BldAt.arena {TB TO TW : TypeId} {w : World} {bB : Nat} {so : Value} {segs : List Value} {A : List (List Int)} {size all : Int} (h : BldAt TB TO TW w bB so segs A size all) (hA : A.length ≤ 1000) (hs : ∀ s ∈ A, s.length ≤ 100000) : ArenaR w so A := by
  refine ⟨segs, own_row h.out (by omega), fun i s hi => ?_⟩
  have hl : i < A.length := (List.getElem?_eq_some_iff.1 hi).1
  obtain ⟨v, hv, ho⟩ := h.at_ hl
  have he : A[i] = s := by rw [List.getElem?_eq_getElem hl] at hi; exact Option.some.inj hi
  rw [he] at ho
  exact ⟨v, hv, own_row ho (by have := hs s (List.mem_of_getElem? hi); omega)⟩
end Go.Proofs.Ytfhfecepcnapfaa.K
namespace Go.Proofs.Ytfhfecepcnapfaa.K
open Go Go.RowKit

/-- What a slot holds whose operation is guarded. -/
def gv (c : Bool) (v : Value) : Value := bif c then v else undef
theorem gvt {c : Bool} {v : Value} (h : c = true) : gv c v = v := by rw [h]; rfl
def wgb (x : Value) (b : Bool) : Bool := match x with | .bool c => c == b | _ => false
theorem wgb_t (p : Bool) : wgb (.bool p) true = p := by cases p <;> rfl
theorem wgb_f (p : Bool) : wgb (.bool p) false = !p := by cases p <;> rfl
theorem wgb_gt (c p : Bool) : wgb (gv c (.bool p)) true = (c && p) := by cases c <;> cases p <;> rfl
theorem wgb_gf (c p : Bool) : wgb (gv c (.bool p)) false = (c && !p) := by cases c <;> cases p <;> rfl
theorem and_t {a b : Bool} (h : (a && b) = true) : a = true ∧ b = true := by simpa using h
section
variable {P : Program} {ops : Array Oper} {Q : Ex → Env → World → Prop} {e : Env} {w : World} {K : Value → World → Prop} {r : List Oper}
variable {d : Option Nat} {ty : TypeId} {pos : String} {af : Array Edge} {g : Option (Nat × Bool)}
variable {t u : TypeId} {x y z : Operand} {k k' : IntKind} {a : Int}
theorem og_if {o : Oper} {s : Value} {b c : Bool} {v : Value} (hw : wantedE ops o e = wgb s b) (hc : wgb s b = c) (hr : c = true → Run1 P o e w fun v' w' => v' = v ∧ w' = w) (h : K (gv c v) w) : OpG P ops o e w K := by
  rw [hc] at hw
  cases c with
  | true => exact og hw ((hr rfl).mono fun v' w' ⟨h1, h2⟩ => by subst h1; subst h2; exact h)
  | false => exact og_no hw h
theorem og_ifg {o : Oper} {s : Value} {b c : Bool} {v : Value} (hw : wantedE ops o e = wgb s b) (hc : wgb s b = c) (hr : c = true → Run1 P o e w fun v' w' => v' = v ∧ Grow w w') (h : ∀ w', Grow w w' → K (gv c v) w') : OpG P ops o e w K := by
  rw [hc] at hw
  cases c with
  | true => exact og hw ((hr rfl).mono fun v' w' ⟨h1, h2⟩ => by subst h1; exact h _ h2)
  | false => exact og_no hw (h _ (Grow.rfl' _))
/-- '&&' and '||', of which the right side was guarded. -/
theorem r_and2 {p q : Bool} (hc : ev e x = .bool p) (hy : ev e y = gv p (.bool q)) (hz : ev e z = .bool false) (h : K (.bool (p && q)) w) : Run1 P ⟨d, .pick x y z, ty, pos, af, g⟩ e w K := by
  cases p
  · exact r_pick_f hc rfl hz h
  · exact r_pick_t hc rfl hy h
theorem r_or2 {p q : Bool} (hc : ev e x = .bool p) (hy : ev e y = .bool true) (hz : ev e z = gv (!p) (.bool q)) (h : K (.bool (p || q)) w) : Run1 P ⟨d, .pick x y z, ty, pos, af, g⟩ e w K := by
  cases p
  · exact r_pick_f hc rfl hz h
  · exact r_pick_t hc rfl hy h
theorem r_and3 {c p q : Bool} (ht : c = true) (hc : ev e x = .bool p) (hy : ev e y = gv (c && p) (.bool q)) (hz : ev e z = .bool false) (h : K (.bool (p && q)) w) : Run1 P ⟨d, .pick x y z, ty, pos, af, g⟩ e w K := by
  subst ht; exact r_and2 hc (by simpa using hy) hz h
theorem r_or3 {c p q : Bool} (ht : c = true) (hc : ev e x = .bool p) (hy : ev e y = .bool true) (hz : ev e z = gv (c && !p) (.bool q)) (h : K (.bool (p || q)) w) : Run1 P ⟨d, .pick x y z, ty, pos, af, g⟩ e w K := by
  subst ht; exact r_or2 hc hy (by simpa using hz) h

theorem r_givesA {f : FuncId} {fv : Operand} {args : Array Operand} {at_ : Array TypeId} {fst cap : Array Value} {v : Value} {l : List Value}
    (hx : ev e fv = .func (.func f) fst cap) [hfi : FuncI P f] (ha : argsOf e fst args cap = l) (hc : Gives P f l.toArray w v) (h : ∀ w', Grow w w' → K v w') : Run1 P ⟨d, .call ⟨.value fv, args, at_⟩, ty, pos, af, g⟩ e w K :=
  r_gives hx (by rw [ha]; exact hc) h

/-! ### rows, by their address -/
/-- The cell so far behind an address. -/
def eadr (ad : Option Addr) (k : Nat) : Addr := ⟨(ad.getD ⟨0, 0, none⟩).block, (ad.getD ⟨0, 0, none⟩).off + k, none⟩
theorem r_indexR {n c sz : Nat} {ad : Option Addr} {el : TypeId} {xs : List Value} {i : Int} [hui : ElI P t el sz] (R : RowAt w sz ad n xs) (hx : ev e x = .slice ad n c) (hy : ev e y = .int k i) (h0 : 0 ≤ i) (h1 : i < n)
    (h : K (.pointer (some (eadr ad (i.toNat * sz)))) w) : Run1 P ⟨d, .indexAddr t x y, ty, pos, af, g⟩ e w K := by
  obtain ⟨b, o, cs, T, fr, rfl, hb, hr⟩ := R.at_ (by omega)
  exact r_indexAddr hx hy h0 h1 h
theorem r_indexN {n c sz : Nat} {ad : Option Addr} {el : TypeId} {xs : List Value} {i : Nat} [hui : ElI P t el sz] (R : RowAt w sz ad n xs) (hx : ev e x = .slice ad n c) (hy : ev e y = .int k (i : Int)) (h1 : i < n)
    (h : K (.pointer (some (eadr ad (i * sz)))) w) : Run1 P ⟨d, .indexAddr t x y, ty, pos, af, g⟩ e w K :=
  r_indexR R hx hy (by omega) (by omega) (by rw [Int.toNat_natCast]; exact h)
/-- A cell of a row's element. -/
theorem r_loadR {n m j : Nat} {ad : Option Addr} {xs : List Value} {v : Value} {sz : Nat} [hti : TyI P t 1 false] (R : RowAt w sz ad n xs) (hx : ev e x = .pointer (some (eadr ad j))) (hj : xs[j]? = some v) (h : K v w) : Run1 P ⟨d, .load t x, ty, pos, af, g⟩ e w K := by
  have hlt : j < xs.length := (List.getElem?_eq_some_iff.1 hj).1
  have hn : 0 < n := by
    rcases Nat.eq_zero_or_pos n with h0 | h0
    · subst h0; have := R.len; rw [Nat.zero_mul] at this; omega
    · exact h0
  obtain ⟨b, o, cs, T, fr, rfl, hb, hr⟩ := R.at_ hn
  exact r_load hx hb (row_cell hr hj) h
/-- An element of so many cells. -/
theorem r_loadNR {n m j : Nat} {ad : Option Addr} {xs : List Value} {vs : List Value} {sz : Nat} [hti : TyI P t m true] (R : RowAt w sz ad n xs) (hx : ev e x = .pointer (some (eadr ad j))) (hm : 0 < m) (hjm : j + m ≤ xs.length) (hj : (xs.drop j).take m = vs) (h : K (.agg vs.toArray) w) : Run1 P ⟨d, .load t x, ty, pos, af, g⟩ e w K := by
  have hn : 0 < n := by
    rcases Nat.eq_zero_or_pos n with h0 | h0
    · subst h0; have := R.len; rw [Nat.zero_mul] at this; omega
    · exact h0
  obtain ⟨b, o, cs, T, fr, rfl, hb, hr⟩ := R.at_ hn
  have hsz := row_size hr R.len (Nat.lt_of_lt_of_le (by omega) (Nat.le_of_eq R.len))
  have hl := R.len
  refine r_loadN (vs := vs.toArray) hx hb (Nat.ble_eq_true_of_le (by show o + j + m ≤ _; omega)) ?_ h
  show ((cs.toList.drop (o + j)).take m).toArray = _
  rw [row_part hr (by omega), hj]
theorem r_fieldE {f off j : Nat} {ad : Option Addr} [hfi : FldI P t f off] (hx : ev e x = .pointer (some (eadr ad j))) (h : K (.pointer (some (eadr ad (j + off)))) w) : Run1 P ⟨d, .fieldAddr t x f, ty, pos, af, g⟩ e w K :=
  r_fieldAddr hx (by
    have : (⟨(ad.getD ⟨0, 0, none⟩).block, (ad.getD ⟨0, 0, none⟩).off + j + off, none⟩ : Addr) = eadr ad (j + off) := by simp only [eadr, Nat.add_assoc]
    rw [this]; exact h)
end
theorem map_get {α : Type} {f : α → Value} {L : List α} (dflt : α) {j : Nat} (h : j < L.length) : (L.map f)[j]? = some (f (L.getD j dflt)) := by
  rw [List.getElem?_map, List.getElem?_eq_getElem h, List.getD_eq_getElem?_getD, List.getElem?_eq_getElem h]; rfl
theorem map_get1 {α : Type} {f : α → Value} {L : List α} (dflt : α) {j : Nat} (h : j < L.length) : (L.map f)[j * 1]? = some (f (L.getD j dflt)) := by rw [Nat.mul_one]; exact map_get dflt h
theorem getD_at {α : Type} {L : List α} {dflt : α} {j : Nat} (h : j < L.length) : L.getD j dflt = L[j] := by
  rw [List.getD_eq_getElem?_getD, List.getElem?_eq_getElem h]; rfl
theorem bool_ft (b : Bool) : b = false ∨ b = true := by cases b <;> simp
theorem own_lit {w : World} {b base n sz : Nat} {T : TypeId} {cs : Array Value} (hc : w.heap[b]? = some (.cells cs T (0, 0))) (hb : base ≤ b) (hn : cs.size = n * sz) (hl : n ≤ maxLen) : w.ownsRow base T sz (.slice (some ⟨b, 0, none⟩) n n) n cs.toList :=
  ⟨by rw [Array.length_toList, hn], .inr ⟨b, n, cs, rfl, hb, hc, Nat.le_refl _, hl, hn, by rw [List.take_of_length_le (by rw [Array.length_toList, hn]; exact Nat.le_refl _)]⟩⟩
theorem gr_grow {w w' : World} {n : Nat} (h : w.grownBy w' (Value.slice none n n).ownBlock) : Grow w w' := ⟨h.os, h.tape, h.output, h.size, fun k hk => h.block k hk (by simp [Value.ownBlock])⟩
theorem own_gr {w w' : World} {base base' n m sz sz' : Nat} {T T' : TypeId} {v v' : Value} {xs ys : List Value} (h : w.ownsRow base T sz v n xs) (h' : w.ownsRow base' T' sz' v' m ys) (hT : T ≠ T') (g : w.grownBy w' v'.ownBlock) : w'.ownsRow base T sz v n xs := by
  refine ⟨h.1, ?_⟩
  rcases h.2 with hn | ⟨q, cap, cur, rfl, hb, hg, rest⟩
  · exact .inl hn
  · exact .inr ⟨q, cap, cur, rfl, hb, gr_heap g hg (own_ne h' hg hT.symm), rest⟩
theorem own_pos {w : World} {base n sz : Nat} {T : TypeId} {v : Value} {xs : List Value} (h : w.ownsRow base T sz v n xs) (hn : 0 < n) : ∃ g c cur, v = .slice (some ⟨g, 0, none⟩) n c ∧ base ≤ g ∧ w.heap[g]? = some (.cells cur T (0, 0)) ∧ n ≤ c ∧ c ≤ maxLen ∧ cur.size = c * sz ∧ cur.toList.take (n * sz) = xs := by
  rcases h.2 with ⟨_, h0⟩ | h
  · omega
  · obtain ⟨g, c, cur, h1, h2, h3, h4, h5, h6, h7⟩ := h; exact ⟨g, c, cur, h1, h2, h3, h4, h5, h6, h7⟩
theorem own_slice {w : World} {base n sz : Nat} {T : TypeId} {v : Value} {xs : List Value} (h : w.ownsRow base T sz v n xs) : ∃ ad m c, v = .slice ad m c := by
  rcases h.2 with ⟨rfl, rfl⟩ | ⟨q, cap, cur, rfl, _, _, hn, _⟩
  · exact ⟨_, _, _, rfl⟩
  · exact ⟨_, _, _, rfl⟩
theorem getD_lt {L : List Bool} {j : Nat} (h : L.getD j false = true) : j < L.length := by
  rcases Nat.lt_or_ge j L.length with h1 | h1
  · exact h1
  · rw [List.getD_eq_getElem?_getD, List.getElem?_eq_none h1] at h; cases h
end Go.Proofs.Ytfhfecepcnapfaa.K
namespace Go.Proofs.Ytfhfecepcnapfaa.K
open Go Go.RowKit
structure KtP (T : TypeId) (base : Nat) (w w' : World) : Prop where
  os : w'.os = w.os
  tape : w'.tape = w.tape
  output : w'.output = w.output
  size : w.heap.size ≤ w'.heap.size
  old : ∀ k : Nat, k < w.heap.size → (k < base ∨ ¬ ∃ cs, w.heap[k]? = some (.cells cs T (0, 0))) → w'.heap[k]? = w.heap[k]?
  new : ∀ (k : Nat) (cs : Array Value), w.heap[k]? = some (.cells cs T (0, 0)) → ∃ cs' : Array Value, cs'.size = cs.size ∧ w'.heap[k]? = some (.cells cs' T (0, 0))
def ktR (T : TypeId) (base : Nat) : KpR where
  r := KtP T base
  refl := fun w => ⟨rfl, rfl, rfl, Nat.le_refl _, fun _ _ _ => rfl, fun k cs h => ⟨cs, rfl, h⟩⟩
  tr := fun {a b c} h k => ⟨k.os.trans h.os, k.tape.trans h.tape, k.output.trans h.output, Nat.le_trans h.size k.size, fun i hi hc => by
      have h1 := h.old i hi hc
      rw [k.old i (Nat.lt_of_lt_of_le hi h.size) (by rw [h1]; exact hc), h1], fun i cs hi => by
      obtain ⟨cs1, h1, h2⟩ := h.new i cs hi
      obtain ⟨cs2, h3, h4⟩ := k.new i cs1 h2
      exact ⟨cs2, h3.trans h1, h4⟩⟩
  grow := fun {a b} g => ⟨g.os, g.tape, g.output, g.size, fun k hk _ => g.block k hk, fun k cs h => ⟨cs, rfl, g.heap h⟩⟩
theorem KtP.to_grow {T : TypeId} {W w w' : World} (k : KtP T W.heap.size w w') (g : Grow W w) : Grow W w' :=
  ⟨k.os.trans g.os, k.tape.trans g.tape, k.output.trans g.output, Nat.le_trans g.size k.size, fun i hi => by rw [k.old i (Nat.lt_of_lt_of_le hi g.size) (.inl hi), g.block i hi]⟩
theorem KtP.of_upd {T : TypeId} {base b : Nat} {w w' : World} {cs cs2 : Array Value} (u : Upd b w w') (hb : base ≤ b) (h : w.heap[b]? = some (.cells cs T (0, 0))) (h2 : w'.heap[b]? = some (.cells cs2 T (0, 0))) (hs : cs2.size = cs.size) : KtP T base w w' :=
  ⟨u.os, u.tape, u.output, by rw [u.size]; exact Nat.le_refl _, fun k hk hc => u.other k (fun he => hc.elim (fun h3 => by omega) (fun h3 => h3 ⟨cs, he ▸ h⟩)), fun k cs3 h3 => by
    by_cases he : k = b
    · subst he
      rw [h] at h3
      simp only [Option.some.injEq, Obj.cells.injEq] at h3
      exact ⟨cs2, by rw [hs, h3.1], h2⟩
    · exact ⟨cs3, rfl, by rw [u.other k he]; exact h3⟩⟩
theorem KtP.heap {T T2 : TypeId} {base k : Nat} {w w' : World} {cs : Array Value} {fr : Nat × Nat} (h : KtP T base w w') (hk : w.heap[k]? = some (.cells cs T2 fr)) (hT : T2 ≠ T) : w'.heap[k]? = some (.cells cs T2 fr) := by
  rw [h.old k (lt_of_heap hk) (.inr fun ⟨cs2, h2⟩ => by rw [hk] at h2; simp only [Option.some.injEq, Obj.cells.injEq] at h2; exact hT h2.2.1)]
  exact hk
theorem KtP.rowat {T : TypeId} {base n sz : Nat} {w w' : World} {b : Nat} {xs : List Value} {cs : Array Value} {T2 : TypeId} (h : KtP T base w w') (hb : w.heap[b]? = some (.cells cs T2 (0, 0))) (hT : T2 ≠ T) (R : RowAt w sz (some ⟨b, 0, none⟩) n xs) : RowAt w' sz (some ⟨b, 0, none⟩) n xs :=
  ⟨R.len, R.lim, fun hn => by
    obtain ⟨b2, o, cs2, T3, fr, ha, hb2, hx⟩ := R.at_ hn
    simp only [Option.some.injEq, Addr.mk.injEq] at ha
    obtain ⟨rfl, rfl, -⟩ := ha
    rw [hb] at hb2
    simp only [Option.some.injEq, Obj.cells.injEq] at hb2
    obtain ⟨rfl, rfl, rfl⟩ := hb2
    exact ⟨b, 0, cs, T2, (0, 0), rfl, h.heap hb hT, hx⟩⟩
end Go.Proofs.Ytfhfecepcnapfaa.K
namespace Go.Proofs.Ytfhfecepcnapfaa.K
open Go Go.RowKit

abbrev len2 (A : List (List Int)) (j : Nat) : Nat := (A.getD j []).length
def setP (A : List (List Int)) (s i : Nat) (x : Int) : List (List Int) := A.set s ((A.getD s []).set i x)
theorem getD_set {α : Type} (A : List α) (s j : Nat) (x d : α) (hs : s < A.length) : (A.set s x).getD j d = if j = s then x else A.getD j d := by
  rw [List.getD_eq_getElem?_getD, List.getD_eq_getElem?_getD]
  by_cases h : j = s
  · subst h; rw [List.getElem?_set_self hs, if_pos rfl]; rfl
  · rw [List.getElem?_set_ne (Ne.symm h), if_neg h]
theorem setP_length (A : List (List Int)) (s i : Nat) (x : Int) : (setP A s i x).length = A.length := by simp [setP]
theorem setP_getD (A : List (List Int)) (s i j : Nat) (x : Int) (hs : s < A.length) : (setP A s i x).getD j [] = if j = s then (A.getD s []).set i x else A.getD j [] := getD_set A s j _ _ hs
theorem setP_len2 (A : List (List Int)) (s i j : Nat) (x : Int) : len2 (setP A s i x) j = len2 A j := by
  by_cases hs : s < A.length
  · simp only [len2, setP_getD A s i j x hs]
    split
    · subst_vars; simp
    · rfl
  · simp only [len2, setP, List.set_eq_of_length_le (by omega : A.length ≤ s)]
theorem totalP_set : ∀ (A : List (List Int)) (s : Nat) (l : List Int), s < A.length → totalP (A.set s l) = totalP A - (A.getD s []).length + l.length
  | [], s, l, h => by simp at h
  | a :: A, 0, l, h => by simp [totalP]; omega
  | a :: A, s + 1, l, h => by
    have := totalP_set A s l (by simpa using h)
    simp only [List.set_cons_succ, totalP, this, List.getD_cons_succ]; omega
theorem totalP_setP (A : List (List Int)) (s i : Nat) (x : Int) : totalP (setP A s i x) = totalP A := by
  by_cases hs : s < A.length
  · unfold setP; rw [totalP_set A s _ hs, List.length_set]; omega
  · rw [setP, List.set_eq_of_length_le (by omega : A.length ≤ s)]
theorem growB_length (A : List (List Int)) (q : Nat) : (growB A q).length = if q = A.length then A.length + 1 else A.length := by
  unfold growB; split <;> simp
theorem growB_getD (A : List (List Int)) (q j : Nat) : (growB A q).getD j [] = A.getD j [] := by
  unfold growB
  split
  · rw [List.getD_eq_getElem?_getD, List.getD_eq_getElem?_getD]
    rcases Nat.lt_trichotomy j A.length with h | h | h
    · rw [List.getElem?_append_left h]
    · subst h; rw [List.getElem?_append_right (Nat.le_refl _), List.getElem?_eq_none (Nat.le_refl _)]; simp
    · rw [List.getElem?_eq_none (by simp; omega), List.getElem?_eq_none (by omega)]
  · rfl
theorem growA_length (A : List (List Int)) (q : Nat) (l : List Int) : (growA A q l).length = if q = A.length then A.length + 1 else A.length := by
  unfold growA; rw [List.length_set, growB_length]
theorem growA_getD (A : List (List Int)) (q j : Nat) (l : List Int) (hq : q ≤ A.length) : (growA A q l).getD j [] = if j = q then A.getD q [] ++ l else A.getD j [] := by
  unfold growA
  rw [getD_set _ _ _ _ _ (growB_len hq).1, growB_getD, growB_getD]
theorem totalP_growB (A : List (List Int)) (q : Nat) : totalP (growB A q) = totalP A := by
  unfold growB; split
  · rw [totalP_append]; simp [totalP]
  · rfl
theorem totalP_growA (A : List (List Int)) (q : Nat) (l : List Int) (hq : q ≤ A.length) : totalP (growA A q l) = totalP A + l.length := by
  unfold growA
  rw [totalP_set _ _ _ (growB_len hq).1, totalP_growB, List.length_append]; omega
/-- What is laid; Full: there was no room. -/
structure Lay where
  A : List (List Int)
  full : Bool
def fullP (size : Int) (A : List (List Int)) (q : Nat) : Bool := !(decide ((A.length : Int) ≤ 16) && (decide ((len2 A q : Int) ≤ size) && decide (totalP A ≤ 4096)))
def moreP (size : Int) (S : Lay) (q : Nat) (l : List Int) : Lay := ⟨growA S.A q l, S.full || fullP size (growA S.A q l) q⟩
structure Plc where
  S : Lay
  seg : Nat
  at_ : Nat
def lastP (A : List (List Int)) : Nat := A.length - 1
def newSeg (size : Int) (t : Nd) (A : List (List Int)) (s : Nat) : Bool := decide (s = lastP A) || decide ((len2 A (lastP A) : Int) + t.need + 1 > size)
def placeP (size : Int) (t : Nd) (S : Lay) (s i : Nat) : Plc :=
  if s = lastP S.A ∧ (len2 S.A (lastP S.A) : Int) + t.need ≤ size then ⟨⟨setP S.A s i (t.near ((len2 S.A (lastP S.A) : Int) - i - 1)), S.full⟩, lastP S.A, len2 S.A (lastP S.A)⟩
  else if newSeg size t S.A s then ⟨moreP size ⟨setP S.A s i (farP ((lastP S.A : Int) + 1) 0), S.full⟩ (lastP S.A + 1) [t.near 0], lastP S.A + 1, 1⟩
  else ⟨moreP size ⟨setP S.A s i (farP (lastP S.A) (len2 S.A (lastP S.A))), S.full⟩ (lastP S.A) [t.near 0], lastP S.A, len2 S.A (lastP S.A) + 1⟩
mutual
def Nd.lay (size : Int) : Nd → Lay → Nat → Nat → Lay
  | .mk k z w b ks, S, s, i =>
    if k = 0 ∨ S.full = true then S
    else if (Nd.mk k z w b ks).need = 0 then ⟨setP S.A s i ((Nd.mk k z w b ks).near (if k = 1 then -1 else 0)), S.full⟩
    else Nd.lays size ks (moreP size (placeP size (.mk k z w b ks) S s i).S (placeP size (.mk k z w b ks) S s i).seg (Nd.mk k z w b ks).content) (placeP size (.mk k z w b ks) S s i).seg ((placeP size (.mk k z w b ks) S s i).at_ + ((Nd.mk k z w b ks).need.toNat - ks.length))
def Nd.lays (size : Int) : List Nd → Lay → Nat → Nat → Lay
  | [], S, _, _ => S
  | t :: ts, S, s, i => Nd.lays size ts (Nd.lay size t S s i) s (i + 1)
end
theorem Nd.lay_full {size : Int} {S : Lay} (h : S.full = true) (t : Nd) (s i : Nat) : t.lay size S s i = S := by
  cases t; simp [Nd.lay, h]
theorem Nd.lays_full {size : Int} {S : Lay} (h : S.full = true) : ∀ (ts : List Nd) (s i : Nat), Nd.lays size ts S s i = S
  | [], _, _ => rfl
  | t :: ts, s, i => by simp only [Nd.lays]; rw [Nd.lay_full h]; exact Nd.lays_full h ts s (i + 1)
theorem Nd.lays_append {size : Int} : ∀ (a b : List Nd) (S : Lay) (s i : Nat), Nd.lays size (a ++ b) S s i = Nd.lays size b (Nd.lays size a S s i) s (i + a.length)
  | [], b, S, s, i => rfl
  | t :: a, b, S, s, i => by
    simp only [List.cons_append, Nd.lays, List.length_cons]
    rw [Nd.lays_append a b]; congr 1; omega
theorem Nd.lays_take {size : Int} {ks : List Nd} {k : Nat} (h : k < ks.length) (S : Lay) (s i : Nat) : Nd.lays size (ks.take (k + 1)) S s i = ks[k].lay size (Nd.lays size (ks.take k) S s i) s (i + k) := by
  rw [List.take_add_one, List.getElem?_eq_getElem h, Nd.lays_append]
  simp only [Option.toList_some, Nd.lays, List.length_take]
  rw [Nat.min_eq_left (by omega)]
/-- If it is full at last, it was full behind some of the first. -/
theorem Nd.lays_full_take {size : Int} {ks : List Nd} {k : Nat} {S : Lay} {s i : Nat} (h : (Nd.lays size (ks.take k) S s i).full = true) : (Nd.lays size ks S s i).full = true := by
  have : Nd.lays size ks S s i = Nd.lays size (ks.drop k) (Nd.lays size (ks.take k) S s i) s (i + (ks.take k).length) := by
    rw [← Nd.lays_append, List.take_append_drop]
  rw [this, Nd.lays_full h]; exact h
/-- There is room in all. -/
structure Fit (size : Int) (A : List (List Int)) : Prop where
  one : 1 ≤ A.length
  most : A.length ≤ 16
  seg : ∀ j, (len2 A j : Int) ≤ size
  all : totalP A ≤ 4096
theorem Fit.set {size : Int} {A : List (List Int)} (h : Fit size A) (s i : Nat) (x : Int) : Fit size (setP A s i x) :=
  ⟨by rw [setP_length]; exact h.one, by rw [setP_length]; exact h.most, fun j => by rw [setP_len2]; exact h.seg j, by rw [totalP_setP]; exact h.all⟩
theorem fullP_false {size : Int} {A : List (List Int)} {q : Nat} (h : fullP size A q = false) : A.length ≤ 16 ∧ (len2 A q : Int) ≤ size ∧ totalP A ≤ 4096 := by
  simp only [fullP, Bool.not_eq_false', Bool.and_eq_true, decide_eq_true_eq] at h; omega
theorem Fit.more {size : Int} {A : List (List Int)} (h : Fit size A) {q : Nat} {l : List Int} (hq : q ≤ A.length) (hf : fullP size (growA A q l) q = false) : Fit size (growA A q l) := by
  obtain ⟨h1, h2, h3⟩ := fullP_false hf
  refine ⟨?_, h1, fun j => ?_, h3⟩
  · rw [growA_length]; have := h.one; split <;> omega
  · by_cases hj : j = q
    · subst hj; exact h2
    · have h4 := h.seg j
      simp only [len2] at h4 ⊢
      rw [growA_getD A q j l hq, if_neg hj]; exact h4
theorem growA_len2 (A : List (List Int)) (q j : Nat) (l : List Int) (hq : q ≤ A.length) : len2 A j ≤ len2 (growA A q l) j := by
  simp only [len2]; rw [growA_getD A q j l hq]
  split
  · subst_vars; simp
  · exact Nat.le_refl _
theorem growA_len (A : List (List Int)) (q : Nat) (l : List Int) : A.length ≤ (growA A q l).length := by rw [growA_length]; split <;> omega
/-- It has grown only. -/
structure Grew (A B : List (List Int)) : Prop where
  len : A.length ≤ B.length
  seg : ∀ j, len2 A j ≤ len2 B j
theorem Grew.refl (A : List (List Int)) : Grew A A := ⟨Nat.le_refl _, fun _ => Nat.le_refl _⟩
theorem Grew.trans {A B C : List (List Int)} (h : Grew A B) (k : Grew B C) : Grew A C := ⟨Nat.le_trans h.len k.len, fun j => Nat.le_trans (h.seg j) (k.seg j)⟩
theorem Grew.set (A : List (List Int)) (s i : Nat) (x : Int) : Grew A (setP A s i x) := ⟨by rw [setP_length]; exact Nat.le_refl _, fun j => by rw [setP_len2]; exact Nat.le_refl _⟩
theorem Grew.more (A : List (List Int)) (q : Nat) (l : List Int) (hq : q ≤ A.length) : Grew A (growA A q l) := ⟨growA_len A q l, fun j => growA_len2 A q j l hq⟩
structure PlcOk (size : Int) (t : Nd) (S : Lay) (s i : Nat) : Prop where
  grew : Grew S.A (placeP size t S s i).S.A
  seg : (placeP size t S s i).seg < (placeP size t S s i).S.A.length
  at_ : (placeP size t S s i).at_ = len2 (placeP size t S s i).S.A (placeP size t S s i).seg
  fit : Fit size S.A → (placeP size t S s i).S.full = false → Fit size (placeP size t S s i).S.A
  full : S.full = true → (placeP size t S s i).S.full = true
theorem len2_none {A : List (List Int)} {j : Nat} (h : A.length ≤ j) : len2 A j = 0 := by
  simp only [len2]; rw [List.getD_eq_getElem?_getD, List.getElem?_eq_none h]; rfl
theorem placeP_ok (size : Int) (t : Nd) (S : Lay) (s i : Nat) (h1 : 1 ≤ S.A.length) : PlcOk size t S s i := by
  have hl : lastP S.A + 1 = S.A.length := by unfold lastP; omega
  unfold placeP at *
  by_cases h : s = lastP S.A ∧ (len2 S.A (lastP S.A) : Int) + t.need ≤ size
  · constructor <;> simp only [placeP, if_pos h]
    · exact Grew.set _ _ _ _
    · rw [setP_length]; omega
    · rw [setP_len2]
    · intro hF _; exact hF.set _ _ _
    · exact id
  · by_cases hn : newSeg size t S.A s = true
    · have hq : lastP S.A + 1 ≤ (setP S.A s i (farP ((lastP S.A : Int) + 1) 0)).length := by rw [setP_length]; omega
      constructor <;> simp only [placeP, if_neg h, if_pos hn, moreP]
      · exact (Grew.set S.A s i (farP ((lastP S.A : Int) + 1) 0)).trans (Grew.more _ _ _ hq)
      · rw [growA_length, setP_length]; split <;> omega
      · rw [len2, growA_getD _ _ _ _ hq, if_pos rfl, List.length_append]
        have : len2 (setP S.A s i (farP ((lastP S.A : Int) + 1) 0)) (lastP S.A + 1) = 0 := len2_none (by rw [setP_length]; omega)
        simp only [len2] at this; rw [this]; rfl
      · intro hF hf; simp only [Bool.or_eq_false_iff] at hf; exact (hF.set _ _ _).more hq hf.2
      · intro h; simp [h]
    · have hq : lastP S.A ≤ (setP S.A s i (farP (lastP S.A) (len2 S.A (lastP S.A)))).length := by rw [setP_length]; omega
      constructor <;> simp only [placeP, if_neg h, if_neg hn, moreP]
      · exact (Grew.set S.A s i (farP (lastP S.A) (len2 S.A (lastP S.A)))).trans (Grew.more _ _ _ hq)
      · rw [growA_length, setP_length]; split <;> omega
      · have h2 := setP_len2 S.A s i (lastP S.A) (farP (lastP S.A) (len2 S.A (lastP S.A)))
        have h3 : len2 (growA (setP S.A s i (farP (lastP S.A) (len2 S.A (lastP S.A)))) (lastP S.A) [t.near 0]) (lastP S.A) = len2 (setP S.A s i (farP (lastP S.A) (len2 S.A (lastP S.A)))) (lastP S.A) + 1 := by
          rw [len2, growA_getD _ _ _ _ hq, if_pos rfl, List.length_append]; rfl
        rw [h3, h2]
      · intro hF hf; simp only [Bool.or_eq_false_iff] at hf; exact (hF.set _ _ _).more hq hf.2
      · intro h; simp [h]
structure LayOk (size : Int) (S R : Lay) : Prop where
  grew : Grew S.A R.A
  fit : Fit size S.A → R.full = false → Fit size R.A
  full : S.full = true → R.full = true
theorem LayOk.refl (size : Int) (S : Lay) : LayOk size S S := ⟨Grew.refl _, fun h _ => h, id⟩
theorem LayOk.trans {size : Int} {S R Q : Lay} (h : LayOk size S R) (k : LayOk size R Q) : LayOk size S Q :=
  ⟨h.grew.trans k.grew, fun hF hq => k.fit (h.fit hF (by cases hR : R.full with | false => rfl | true => rw [k.full hR] at hq; exact absurd hq (by simp))) hq, fun hS => k.full (h.full hS)⟩
theorem LayOk.more (size : Int) (S : Lay) (q : Nat) (l : List Int) (hq : q ≤ S.A.length) : LayOk size S (moreP size S q l) :=
  ⟨Grew.more _ _ _ hq, fun hF hf => by simp only [moreP, Bool.or_eq_false_iff] at hf; exact hF.more hq hf.2, fun h => by simp [moreP, h]⟩
mutual
theorem Nd.lay_ok (size : Int) : ∀ (t : Nd) (S : Lay) (s i : Nat), 1 ≤ S.A.length → LayOk size S (t.lay size S s i)
  | .mk k z w b ks, S, s, i, h1 => by
    simp only [Nd.lay]
    split
    · exact LayOk.refl _ _
    · split
      · exact ⟨Grew.set _ _ _ _, fun hF _ => hF.set _ _ _, id⟩
      · have hp := placeP_ok size (.mk k z w b ks) S s i h1
        refine LayOk.trans ⟨hp.grew, hp.fit, hp.full⟩ (LayOk.trans (LayOk.more size _ _ (Nd.mk k z w b ks).content (Nat.le_of_lt hp.seg)) ?_)
        refine Nd.lays_ok size ks _ _ _ ?_
        have := hp.grew.len
        have := growA_len (placeP size (.mk k z w b ks) S s i).S.A (placeP size (.mk k z w b ks) S s i).seg (Nd.mk k z w b ks).content
        simp only [moreP]; omega
theorem Nd.lays_ok (size : Int) : ∀ (ts : List Nd) (S : Lay) (s i : Nat), 1 ≤ S.A.length → LayOk size S (Nd.lays size ts S s i)
  | [], S, _, _, _ => LayOk.refl _ _
  | t :: ts, S, s, i, h1 => by
    simp only [Nd.lays]
    have h := Nd.lay_ok size t S s i h1
    exact h.trans (Nd.lays_ok size ts _ _ _ (Nat.le_trans h1 h.grew.len))
end
theorem Nd.content_length (t : Nd) (hk : t.kind = 1 ∨ t.kind = 2) (hb : t.kind = 1 → t.bytes = []) : (t.content.length : Int) = t.need := by
  obtain ⟨k, z, w, b, ks⟩ := t
  simp only [Nd.kind, Nd.bytes] at hk hb
  simp only [Nd.content, Nd.need, chunksP, List.length_append, List.length_map, List.length_range, List.length_replicate]
  rcases hk with h | h
  · have := hb h; subst this; simp [h]
  · simp [h]; omega
/-- The arena of a tree. -/
def Nd.build (t : Nd) (size : Int) : List (List Int) × Int :=
  if size < 1 ∨ size > 4096 ∨ t.right 32 = false then ([], 1)
  else if (t.lay size ⟨[[0]], false⟩ 0 0).full then ([], 24) else ((t.lay size ⟨[[0]], false⟩ 0 0).A, 0)
end Go.Proofs.Ytfhfecepcnapfaa.K
namespace Go.Proofs.Ytfhfecepcnapfaa.K
open Go Go.RowKit

/-- A cell of one's own row is written. -/
theorem own_setcell {w w' : World} {base g n c i : Nat} {T : TypeId} {xs : List Value} {x : Value} {cur cur' : Array Value} (h : w.ownsRow base T 1 (.slice (some ⟨g, 0, none⟩) n c) n xs) (hb : w.heap[g]? = some (.cells cur T (0, 0)))
    (hb' : w'.heap[g]? = some (.cells cur' T (0, 0))) (hs : cur'.toList = cur.toList.set i x) : w'.ownsRow base T 1 (.slice (some ⟨g, 0, none⟩) n c) n (xs.set i x) := by
  obtain ⟨h1, h2⟩ := h
  refine ⟨by rw [List.length_set]; exact h1, .inr ?_⟩
  rcases h2 with ⟨h0, _⟩ | ⟨q, cap, cur0, hv, hq, hg, h3, h4, h5, h6⟩
  · cases h0
  · simp only [Value.slice.injEq, Option.some.injEq, Addr.mk.injEq, and_true, true_and] at hv
    obtain ⟨rfl, rfl⟩ := hv
    rw [hb] at hg
    simp only [Option.some.injEq, Obj.cells.injEq, and_true] at hg
    subst hg
    refine ⟨g, c, cur', rfl, hq, hb', h3, h4, ?_, ?_⟩
    · rw [← Array.length_toList, hs, List.length_set, Array.length_toList, h5]
    · rw [hs, List.take_set, h6]
/-- A row of segments, all of it one's own. -/
structure OwnA (TO TW : TypeId) (w : World) (base : Nat) (so : Value) (segs : List Value) (A : List (List Int)) : Prop where
  out : w.ownsRow base TO 1 so A.length segs
  seg : ∀ (i : Nat) (v : Value) (ws : List Int), segs[i]? = some v → A[i]? = some ws → w.ownsRow base TW 1 v ws.length (wordsV ws)
  dis : ∀ (i j : Nat) (v u : Value) (b : Nat), segs[i]? = some v → segs[j]? = some u → v.ownBlock = some b → u.ownBlock = some b → i = j
section
variable {TO TW : TypeId} {w w' : World} {base : Nat} {so so' : Value} {segs : List Value} {A : List (List Int)}
theorem OwnA.len (h : OwnA TO TW w base so segs A) : segs.length = A.length := by rw [h.out.1, Nat.mul_one]
theorem OwnA.at_ (h : OwnA TO TW w base so segs A) {i : Nat} (hi : i < A.length) : ∃ v, segs[i]? = some v ∧ w.ownsRow base TW 1 v A[i].length (wordsV A[i]) :=
  ⟨segs[i]'(by rw [h.len]; exact hi), List.getElem?_eq_getElem _, h.seg i _ _ (List.getElem?_eq_getElem _) (List.getElem?_eq_getElem hi)⟩
theorem OwnA.grow (h : OwnA TO TW w base so segs A) (g : Grow w w') : OwnA TO TW w' base so segs A :=
  ⟨own_grow h.out g, fun i v ws hv hw => own_grow (h.seg i v ws hv hw) g, h.dis⟩
theorem OwnA.lower {base' : Nat} (h : OwnA TO TW w base so segs A) (hb : base' ≤ base) : OwnA TO TW w base' so segs A :=
  ⟨own_base h.out hb, fun i v ws hv hw => own_base (h.seg i v ws hv hw) hb, h.dis⟩
theorem OwnA.arena (h : OwnA TO TW w base so segs A) (hA : A.length ≤ 1000) (hs : ∀ s ∈ A, s.length ≤ 100000) : ArenaR w so A := by
  refine ⟨segs, own_row h.out (by omega), fun i s hi => ?_⟩
  have hl : i < A.length := (List.getElem?_eq_some_iff.1 hi).1
  obtain ⟨v, hv, ho⟩ := h.at_ hl
  have he : A[i] = s := by rw [List.getElem?_eq_getElem hl] at hi; exact Option.some.inj hi
  rw [he] at ho
  exact ⟨v, hv, own_row ho (by have := hs s (List.mem_of_getElem? hi); omega)⟩
/-- A row of segments is copied (with an empty one behind it, or not), and one of them is another row, just made. -/
def growV (segs : List Value) (q : Nat) : List Value := if q = segs.length then segs ++ [.slice none 0 0] else segs
theorem growV_at {q i : Nat} {v : Value} (h : (growV segs q)[i]? = some v) : segs[i]? = some v ∨ (i = segs.length ∧ v = .slice none 0 0) := by
  unfold growV at h
  split at h
  · rcases Nat.lt_or_ge i segs.length with hi | hi
    · rw [List.getElem?_append_left hi] at h; exact .inl h
    · rw [List.getElem?_append_right hi] at h
      have h2 := List.getElem?_eq_some_iff.1 h
      simp at h2
      obtain ⟨h3, h4⟩ := h2
      exact .inr ⟨by omega, h4.symm⟩
  · exact .inl h
theorem OwnA.copy {q : Nat} {u : Value} {ws : List Int} (h : OwnA TO TW w base so segs A) (hbw : base ≤ w.heap.size) (g : Grow w w') (hq : q ≤ A.length) (hu : w'.ownsRow w.heap.size TW 1 u ws.length (wordsV ws)) (ho : w'.ownsRow base TO 1 so' (growB A q).length ((growV segs q).set q u)) :
    OwnA TO TW w' base so' ((growV segs q).set q u) ((growB A q).set q ws) := by
  have hlen : (growV segs q).length = (growB A q).length := by unfold growV growB; rw [h.len]; split <;> simp [h.len]
  have hqB := (growB_len hq).1
  have old : ∀ (i : Nat) (v : Value), (growV segs q)[i]? = some v → ∀ b, v.ownBlock = some b → b < w.heap.size := by
    intro i v hv b hb
    rcases growV_at hv with hv | ⟨_, rfl⟩
    · have hi : i < A.length := by rw [← h.len]; exact (List.getElem?_eq_some_iff.1 hv).1
      exact ((h.seg i v _ hv (List.getElem?_eq_getElem hi)).lt b hb).2
    · simp [Value.ownBlock] at hb
  refine ⟨by rw [List.length_set]; exact ho, fun i v s hv hs => ?_, fun i j v x b hv hx h1 h2 => ?_⟩
  · by_cases hi : i = q
    · subst hi
      rw [List.getElem?_set_self (by rw [hlen]; exact hqB)] at hv
      rw [List.getElem?_set_self hqB] at hs
      obtain rfl := Option.some.inj hv
      obtain rfl := Option.some.inj hs
      exact own_base hu hbw
    · rw [List.getElem?_set_ne (Ne.symm hi)] at hv hs
      have hil : i < A.length := by
        have := (List.getElem?_eq_some_iff.1 hs).1
        have hg := growB_length A q
        split at hg <;> omega
      have hs' : A[i]? = some s := by
        unfold growB at hs; split at hs
        · rwa [List.getElem?_append_left hil] at hs
        · exact hs
      rcases growV_at hv with hv | ⟨hi2, rfl⟩
      · exact own_grow (h.seg i v s hv hs') g
      · rw [h.len] at hi2; omega
  · by_cases hi : i = q
    · by_cases hj : j = q
      · rw [hi, hj]
      · subst hi
        rw [List.getElem?_set_self (by rw [hlen]; exact hqB)] at hv
        rw [List.getElem?_set_ne (Ne.symm hj)] at hx
        obtain rfl := Option.some.inj hv
        have := (hu.lt b h1).1
        have := old j x hx b h2
        omega
    · rw [List.getElem?_set_ne (Ne.symm hi)] at hv
      by_cases hj : j = q
      · subst hj
        rw [List.getElem?_set_self (by rw [hlen]; exact hqB)] at hx
        obtain rfl := Option.some.inj hx
        have := (hu.lt b h2).1
        have := old i v hv b h1
        omega
      · rw [List.getElem?_set_ne (Ne.symm hj)] at hx
        rcases growV_at hv with hv | ⟨_, rfl⟩
        · rcases growV_at hx with hx | ⟨_, rfl⟩
          · exact h.dis i j v x b hv hx h1 h2
          · simp [Value.ownBlock] at h2
        · simp [Value.ownBlock] at h1
/-- A word of a segment is written. -/
theorem OwnA.setw {q i g cap : Nat} {ws : List Int} {x : Int} {cur cur' : Array Value} (hOW : TO ≠ TW) (h : OwnA TO TW w base so segs A) (hA : A[q]? = some ws) (hs : segs[q]? = some (.slice (some ⟨g, 0, none⟩) ws.length cap))
    (hcur : w.heap[g]? = some (.cells cur TW (0, 0))) (hcur' : w'.heap[g]? = some (.cells cur' TW (0, 0))) (hset : cur'.toList = cur.toList.set i (.int .u64 x)) (u : Upd g w w') :
    OwnA TO TW w' base so segs (A.set q (ws.set i x)) := by
  have hqA : q < A.length := (List.getElem?_eq_some_iff.1 hA).1
  refine ⟨by rw [List.length_set]; exact own_upd h.out u (own_ne h.out hcur hOW), fun j v wj hv hw => ?_, h.dis⟩
  by_cases hj : j = q
  · subst hj
    rw [List.getElem?_set_self hqA] at hw
    rw [hs] at hv
    obtain rfl := Option.some.inj hv
    obtain rfl := Option.some.inj hw
    have := own_setcell (h.seg j _ ws hs hA) hcur hcur' hset
    rw [List.length_set, wordsV, List.map_set]
    exact this
  · rw [List.getElem?_set_ne (Ne.symm hj)] at hw
    have hsj := h.seg j v wj hv hw
    exact own_upd hsj u fun he => hj (h.dis j q v _ g hv hs he rfl)
end
theorem own_shape {w : World} {base n sz : Nat} {T : TypeId} {v : Value} {xs : List Value} (h : w.ownsRow base T sz v n xs) : ∃ ad c, v = .slice ad n c ∧ n ≤ c := by
  rcases h.2 with ⟨rfl, rfl⟩ | ⟨q, cap, cur, rfl, _, _, hn, _⟩
  · exact ⟨_, _, rfl, Nat.le_refl _⟩
  · exact ⟨_, _, rfl, hn⟩
theorem choose_slices {n : Nat} {segs : List Value} {len : Nat → Nat} (h : ∀ i, i < n → ∃ ad c, segs[i]? = some (.slice ad (len i) c)) : ∃ (sa : Nat → Option Addr) (sc : Nat → Nat), ∀ i, i < n → segs[i]? = some (.slice (sa i) (len i) (sc i)) := by
  have h2 : ∀ i, ∃ p : Option Addr × Nat, i < n → segs[i]? = some (.slice p.1 (len i) p.2) := fun i => by
    by_cases hi : i < n
    · obtain ⟨ad, c, h⟩ := h i hi; exact ⟨(ad, c), fun _ => h⟩
    · exact ⟨(none, 0), fun h => absurd h hi⟩
  obtain ⟨f, hf⟩ := Classical.axiomOfChoice h2
  exact ⟨fun i => (f i).1, fun i => (f i).2, hf⟩
section
variable {TB TO TW : TypeId} {w w' : World} {bB : Nat} {so : Value} {segs : List Value} {A : List (List Int)} {size all : Int}
theorem BldAt.fn (h : BldAt TB TO TW w bB so segs A size all) (hA : A.length ≤ 1000) : ∃ (ado : Option Addr) (co : Nat) (sa : Nat → Option Addr) (sc : Nat → Nat), so = .slice ado A.length co ∧ A.length ≤ co ∧ RowAt w 1 ado A.length segs ∧ ∀ i, i < A.length → segs[i]? = some (.slice (sa i) (len2 A i) (sc i)) := by
  obtain ⟨ado, co, h1, h2, _, h3⟩ := own_row h.out (by omega)
  obtain ⟨sa, sc, h4⟩ := choose_slices (n := A.length) (segs := segs) (len := len2 A) fun i hi => by
    obtain ⟨v, hv, ho⟩ := h.at_ hi
    obtain ⟨ad, c, rfl, _⟩ := own_shape ho
    exact ⟨ad, c, by rw [len2, getD_at hi]; exact hv⟩
  exact ⟨ado, co, sa, sc, h1, h2, h3, h4⟩
/-- The same where memory has grown besides. -/
theorem BldAt.setwK {q i g cap : Nat} {sv : Value} {ws : List Int} {x : Int} {cur cur' : Array Value} (hWB : TW ≠ TB) (hOW : TO ≠ TW) (h : BldAt TB TO TW w bB so segs A size all) (hA : A[q]? = some ws) (hs : segs[q]? = some sv)
    (hsv : sv = .slice (some ⟨g, 0, none⟩) ws.length cap) (hcur : w.heap[g]? = some (.cells cur TW (0, 0))) (hcur' : w'.heap[g]? = some (.cells cur' TW (0, 0))) (hset : cur'.toList = cur.toList.set i (.int .u64 x)) (u : Kp [g] w w') :
    BldAt TB TO TW w' bB so segs (A.set q (ws.set i x)) size all := by
  have hqA : q < A.length := (List.getElem?_eq_some_iff.1 hA).1
  have hgB : bB ≠ g := by intro he; subst he; have := hcur.symm.trans h.box; simp only [Option.some.injEq, Obj.cells.injEq] at this; exact hWB this.2.1
  have hbs : sv.ownBlock = some g := by rw [hsv]; rfl
  have keep : ∀ {n sz : Nat} {T : TypeId} {v : Value} {xs : List Value}, w.ownsRow 0 T sz v n xs → v.ownBlock ≠ some g → w'.ownsRow 0 T sz v n xs := fun ho hne => own_keepB ho u fun k hk hm => by
    simp only [List.mem_singleton] at hm; subst hm; exact hne hk
  refine ⟨u.heap h.box (by simpa using hgB), by rw [List.length_set]; exact keep h.out (own_ne h.out hcur hOW), fun j v wj hv hw => ?_, h.dis⟩
  by_cases hj : j = q
  · subst hj
    rw [List.getElem?_set_self hqA] at hw
    rw [hs] at hv
    obtain rfl := Option.some.inj hv
    obtain rfl := Option.some.inj hw
    subst hsv
    have := own_setcell (h.seg j _ ws hs hA) hcur hcur' hset
    rw [List.length_set, wordsV, List.map_set]
    exact this
  · rw [List.getElem?_set_ne (Ne.symm hj)] at hw
    have hsj := h.seg j v wj hv hw
    exact keep hsj fun he => hj (h.dis j q v sv g hv hs he hbs)
/-- A word is written: where, and what stands behind. -/
theorem BldAt.put {s i : Nat} (hWB : TW ≠ TB) (hOW : TO ≠ TW) (h : BldAt TB TO TW w bB so segs A size all) (hs : s < A.length) (hi : i < len2 A s) :
    ∃ g cap cur, segs[s]? = some (.slice (some ⟨g, 0, none⟩) (len2 A s) cap) ∧ w.heap[g]? = some (.cells cur TW (0, 0)) ∧ i < cur.size ∧ g ∈ blks bB so segs ∧ so.ownBlock ≠ some g ∧ bB ≠ g ∧
      ∀ (w' : World) (cur' : Array Value) (x : Int), w'.heap[g]? = some (.cells cur' TW (0, 0)) → cur'.toList = cur.toList.set i (.int .u64 x) → Kp [g] w w' → BldAt TB TO TW w' bB so segs (setP A s i x) size all := by
  have hl : len2 A s = A[s].length := by rw [len2, getD_at hs]
  obtain ⟨v, hv, ho⟩ := h.at_ hs
  rcases ho.2 with ⟨rfl, h0⟩ | ⟨g, cap, cur, rfl, _, hg, h1, h2, h3, h4⟩
  · omega
  · refine ⟨g, cap, cur, by rw [hl]; exact hv, hg, by omega, mem_blks.2 (.inr (.inr ⟨s, _, hv, rfl⟩)), own_ne h.out hg hOW, fun he => ?_, fun w' cur' x hc hset u => ?_⟩
    · subst he; have := hg.symm.trans h.box; simp only [Option.some.injEq, Obj.cells.injEq] at this; exact hWB this.2.1
    · have := h.setwK (i := i) hWB hOW (List.getElem?_eq_getElem hs) hv rfl hg hc hset u
      rw [setP, getD_at hs]
      exact this
theorem slice_inj {a b : Option Addr} {n m c d : Nat} (h : some (Value.slice a n c) = some (Value.slice b m d)) : a = b := by
  simp only [Option.some.injEq, Value.slice.injEq] at h; exact h.1
theorem RowAt.keep1 {w w' : World} {g sz n : Nat} {ad : Option Addr} {xs : List Value} (h : RowAt w sz ad n xs) (k : Kp [g] w w') (hn : ∀ b o, ad = some ⟨b, o, none⟩ → b ≠ g) : RowAt w' sz ad n xs :=
  ⟨h.len, h.lim, fun hp => by
    obtain ⟨b, o, cs, T, fr, rfl, hb, hx⟩ := h.at_ hp
    exact ⟨b, o, cs, T, fr, rfl, k.heap hb (by simpa using hn b o rfl), hx⟩⟩
theorem Grow.kp1 {g : Nat} {w0 w w' : World} (h : Grow w0 w) (k : Kp [g] w w') (hg : w0.heap.size ≤ g) : Grow w0 w' := h.trK k fun x hx => by simp only [List.mem_singleton] at hx; subst hx; exact hg
theorem own_addr {w : World} {base n sz : Nat} {T : TypeId} {ad : Option Addr} {c b o : Nat} {xs : List Value} (h : w.ownsRow base T sz (.slice ad n c) n xs) (ha : ad = some ⟨b, o, none⟩) : (Value.slice ad n c).ownBlock = some b := by rw [ha]; rfl
end
theorem Fit.small {size : Int} {A : List (List Int)} (h : Fit size A) (hs : size ≤ 4096) : A.length ≤ 1000 ∧ ∀ s ∈ A, s.length ≤ 100000 := by
  refine ⟨by have := h.most; omega, fun s hm => ?_⟩
  obtain ⟨i, hi, rfl⟩ := List.getElem_of_mem hm
  have := h.seg i
  rw [len2, getD_at hi] at this
  omega
theorem full_more {size : Int} {A : List (List Int)} {q : Nat} {l : List Int} (hq : q ≤ A.length) : (decide (((growA A q l).length : Int) ≤ 16) && (decide ((((growA A q l).getD q []).length : Int) ≤ size) && decide (totalP A + l.length ≤ 4096))) = !(moreP size ⟨A, false⟩ q l).full := by
  rw [← totalP_growA A q l hq]
  simp only [moreP, fullP, Bool.false_or, Bool.not_not, len2]
theorem lastP_lt {A : List (List Int)} (h : 1 ≤ A.length) : lastP A < A.length ∧ ((A.length : Int) - 1) = (lastP A : Int) := by unfold lastP; omega
/-- A tree that may be, so deep. -/
def Nd.fine (t : Nd) : Prop := ∃ l, t.right l = true
theorem Nd.fine_own {t : Nd} (h : t.fine) : t.own = true := by
  obtain ⟨l, h⟩ := h
  obtain ⟨k, s, w, b, ks⟩ := t
  simp only [Nd.right, Bool.and_eq_true] at h
  exact h.1.1
theorem rights_at {left : Nat} : ∀ {ks : List Nd} {k : Nat} (h : k < ks.length), Nd.rights ks left = true → ks[k].right left = true
  | t :: ts, 0, _, h => by simp only [Nd.rights, Bool.and_eq_true] at h; exact h.1
  | t :: ts, k + 1, hk, h => by
    simp only [Nd.rights, Bool.and_eq_true] at h
    have := rights_at (ks := ts) (k := k) (by simpa using hk) h.2
    simpa using this
theorem Nd.fine_kid {k s : Int} {w b : List Int} {ks : List Nd} {j : Nat} (h : (Nd.mk k s w b ks).fine) (hj : j < ks.length) : ks[j].fine := by
  obtain ⟨l, h⟩ := h
  simp only [Nd.right, Bool.and_eq_true] at h
  exact ⟨_, rights_at hj h.2⟩
structure OwnB (k : Int) (w b : List Int) (ks : List Nd) (need : Int) : Prop where
  kd : k = 0 ∨ k = 1 ∨ k = 2
  lw : w.length ≤ 4096
  lb : b.length ≤ 4096
  lk : ks.length ≤ 4096
  nn : 0 ≤ need
  most : need ≤ 5000
  kids : k ≠ 0 → (ks.length : Int) ≤ need
  b1 : k = 1 → b = []
theorem Nd.own_b {k s : Int} {w b : List Int} {ks : List Nd} (h : (Nd.mk k s w b ks).own = true) : OwnB k w b ks (Nd.mk k s w b ks).need := by
  simp only [Nd.own] at h
  split at h
  · rename_i h0
    simp only [Bool.and_eq_true, decide_eq_true_eq] at h
    exact ⟨.inl h0, by omega, by omega, by omega, by simp [Nd.need, h0], by simp [Nd.need, h0], fun h => absurd h0 h, fun h => by omega⟩
  · rename_i h0
    split at h
    · rename_i h1
      simp only [Bool.and_eq_true, decide_eq_true_eq] at h
      obtain ⟨_, h2, h3⟩ := h
      have : w.length ≤ 100 ∧ ks.length ≤ 100 := by split at h3 <;> omega
      refine ⟨.inr (.inl h1), by omega, by omega, by omega, ?_, ?_, fun _ => ?_, fun _ => List.eq_nil_of_length_eq_zero (by omega)⟩ <;> simp only [Nd.need, if_pos h1] <;> omega
    · rename_i h1
      split at h
      · rename_i h2
        have : w.length ≤ 4096 ∧ b.length ≤ 4096 ∧ ks.length ≤ 4096 ∧ (w.length + ks.length = 0 ∨ (b.length = 0 ∧ (w.length = 0 ∨ ks.length = 0))) := by
          split at h
          · simp only [Bool.and_eq_true, decide_eq_true_eq] at h; omega
          · split at h
            · simp only [Bool.and_eq_true, decide_eq_true_eq] at h; omega
            · split at h
              · simp only [Bool.and_eq_true, decide_eq_true_eq] at h; omega
              · cases h
        refine ⟨.inr (.inr h2), by omega, by omega, by omega, ?_, ?_, fun _ => ?_, fun h => absurd h h1⟩ <;> simp only [Nd.need, if_neg h1, if_pos h2] <;> omega
      · cases h
theorem Lay.eta {X : Lay} (h : X.full = false) : (⟨X.A, false⟩ : Lay) = X := by
  cases X; simp only at h; rw [h]
theorem NodeR.cells {w : World} {c : List Value} {t : Nd} (h : NodeR w c t) : ∃ k s a n cp a2 n2 c2 a3 n3 c3, c = [.int .i64 k, .int .i64 s, .slice a n cp, .slice a2 n2 c2, .slice a3 n3 c3] := by
  obtain @⟨kind, size, words, bytes, kids, ws, bs, ks, kc, hk, hs, hW, hwr, hB, hbr, hK, hKs⟩ := h
  obtain ⟨aw, cw, rfl, -⟩ := hW
  obtain ⟨ab, cb, rfl, -⟩ := hB
  obtain ⟨ak, ck, rfl, -⟩ := hK
  exact ⟨_, _, _, _, _, _, _, _, _, _, _, rfl⟩
theorem own_raise {w : World} {base base' n sz : Nat} {T : TypeId} {v : Value} {xs : List Value} (h : w.ownsRow base T sz v n xs) (hb : ∀ k, v.ownBlock = some k → base' ≤ k) : w.ownsRow base' T sz v n xs := by
  refine ⟨h.1, ?_⟩
  rcases h.2 with hn | ⟨q, cap, cur, rfl, _, rest⟩
  · exact .inl hn
  · exact .inr ⟨q, cap, cur, rfl, hb q rfl, rest⟩
theorem BldAt.owns {TB TO TW : TypeId} {w : World} {bB base : Nat} {so : Value} {segs : List Value} {A : List (List Int)} {size all : Int} (h : BldAt TB TO TW w bB so segs A size all) (hb : ∀ k ∈ blks bB so segs, base ≤ k) : OwnA TO TW w base so segs A :=
  ⟨own_raise h.out fun k hk => hb k (mem_blks.2 (.inr (.inl hk))), fun i v ws hv hw => own_raise (h.seg i v ws hv hw) fun k hk => hb k (mem_blks.2 (.inr (.inr ⟨i, v, hv, hk⟩))), h.dis⟩
theorem BldAt.rows {TB TO TW : TypeId} {w : World} {bB : Nat} {so : Value} {segs : List Value} {A : List (List Int)} {size all : Int} (h : BldAt TB TO TW w bB so segs A size all) (hs : ∀ s ∈ A, s.length ≤ 100000) : ∀ (i : Nat) (s : List Int), A[i]? = some s → ∃ v, segs[i]? = some v ∧ Row w 1 v s.length (wordsV s) := by
  intro i s hi
  have hl : i < A.length := (List.getElem?_eq_some_iff.1 hi).1
  obtain ⟨v, hv, ho⟩ := h.at_ hl
  have he : A[i] = s := by rw [List.getElem?_eq_getElem hl] at hi; exact Option.some.inj hi
  rw [he] at ho
  exact ⟨v, hv, own_row ho (by have := hs s (List.mem_of_getElem? hi); omega)⟩
theorem BldAt.init {TB TO TW : TypeId} {w : World} {bB b1 b2 : Nat} {size : Int} (hb : w.heap[bB]? = some (.cells #[.slice (some ⟨b2, 0, none⟩) 1 1, .int .i64 size, .int .i64 1] TB (0, 0))) (ho : w.heap[b2]? = some (.cells #[.slice (some ⟨b1, 0, none⟩) 1 1] TO (0, 0))) (hw : w.heap[b1]? = some (.cells #[.int .u64 0] TW (0, 0))) :
    BldAt TB TO TW w bB (.slice (some ⟨b2, 0, none⟩) 1 1) [.slice (some ⟨b1, 0, none⟩) 1 1] [[0]] size (totalP [[0]]) := by
  refine ⟨hb, own_lit ho (Nat.zero_le _) rfl (by decide), fun i v ws hv hw2 => ?_, fun i j v u b hv hu _ _ => ?_⟩
  · match i, hv, hw2 with
    | 0, hv, hw2 =>
      simp only [List.getElem?_cons_zero, Option.some.injEq] at hv hw2
      subst hv; subst hw2
      exact own_lit hw (Nat.zero_le _) rfl (by decide)
    | i + 1, hv, _ => simp at hv
  · have h1 := (List.getElem?_eq_some_iff.1 hv).1
    have h2 := (List.getElem?_eq_some_iff.1 hu).1
    simp at h1 h2; omega
theorem Fit.init {size : Int} (h : 1 ≤ size) : Fit size [[0]] := ⟨by simp, by simp, fun j => by
  match j with
  | 0 => simp [len2]; exact h
  | j + 1 => simp [len2]; omega, by simp [totalP]⟩
theorem OwnA.nil (TO TW : TypeId) (w : World) (base : Nat) : OwnA TO TW w base (.slice none 0 0) [] [] :=
  ⟨⟨by simp, .inl ⟨rfl, rfl⟩⟩, fun i v ws hv _ => by simp at hv, fun i j v u b hv _ _ _ => by simp at hv⟩
theorem OwnA.fn {TO TW : TypeId} {w : World} {base : Nat} {so : Value} {segs : List Value} {A : List (List Int)} (h : OwnA TO TW w base so segs A) (hA : A.length ≤ 1000) : ∃ (ado : Option Addr) (co : Nat) (sa : Nat → Option Addr) (sc : Nat → Nat), so = .slice ado A.length co ∧ A.length ≤ co ∧ co ≤ maxLen ∧ RowAt w 1 ado A.length segs ∧ ∀ i, i < A.length → segs[i]? = some (.slice (sa i) (len2 A i) (sc i)) ∧ w.ownsRow base TW 1 (.slice (sa i) (len2 A i) (sc i)) (len2 A i) (wordsV (A.getD i [])) := by
  obtain ⟨ado, co, h1, h2, h2', h3⟩ := own_row h.out (by omega)
  obtain ⟨sa, sc, h4⟩ := choose_slices (n := A.length) (segs := segs) (len := len2 A) fun i hi => by
    obtain ⟨v, hv, ho⟩ := h.at_ hi
    obtain ⟨ad, c, rfl, _⟩ := own_shape ho
    exact ⟨ad, c, by rw [len2, getD_at hi]; exact hv⟩
  refine ⟨ado, co, sa, sc, h1, h2, h2', h3, fun i hi => ⟨h4 i hi, ?_⟩⟩
  have := h.seg i _ _ (h4 i hi) (List.getElem?_eq_getElem hi)
  rw [len2, getD_at hi] at *
  exact this
theorem OwnA.one {TO TW : TypeId} {w : World} {base : Nat} {so : Value} {segs : List Value} {A : List (List Int)} (h : OwnA TO TW w base so segs A) : ∀ q ∈ segs, q.oneCell' = true := by
  intro q hq
  obtain ⟨i, hi, rfl⟩ := List.getElem_of_mem hq
  have hl : i < A.length := by rw [← h.len]; exact hi
  obtain ⟨v, hv, ho⟩ := h.at_ hl
  rw [List.getElem?_eq_getElem hi] at hv
  obtain rfl := Option.some.inj hv
  exact own_one ho
/-- The same, laid as a value. -/
def LayV (TO TW : TypeId) (w : World) (base : Nat) (lim : Int) (v : Value) (S : Lay) : Prop := ∃ so segs, v = .agg #[so, .int .i64 lim, .bool S.full] ∧ OwnA TO TW w base so segs S.A
theorem LayV.grow {TO TW : TypeId} {w w' : World} {base : Nat} {lim : Int} {v : Value} {S : Lay} (h : LayV TO TW w base lim v S) (g : Grow w w') : LayV TO TW w' base lim v S := by
  obtain ⟨so, segs, h1, h2⟩ := h; exact ⟨so, segs, h1, h2.grow g⟩
structure Sml (A : List (List Int)) : Prop where
  len : A.length ≤ 900
  seg : ∀ j, len2 A j ≤ 50000
theorem Sml.all {A : List (List Int)} (h : Sml A) : ∀ s ∈ A, s.length ≤ 100000 := by
  intro s hm
  obtain ⟨i, hi, rfl⟩ := List.getElem_of_mem hm
  have := h.seg i
  rw [len2, getD_at hi] at this
  omega
theorem Fit.sml {size : Int} {A : List (List Int)} (h : Fit size A) (hs : size ≤ 4096) : Sml A := ⟨by have := h.most; omega, fun j => by have := h.seg j; omega⟩
/-- Not much more. -/
structure Near (a b : Nat) (A B : List (List Int)) : Prop where
  len : B.length ≤ A.length + a
  seg : ∀ j, len2 B j ≤ len2 A j + b
theorem Near.set (A : List (List Int)) (s i : Nat) (x : Int) : Near 0 0 A (setP A s i x) := ⟨by rw [setP_length]; omega, fun j => by rw [setP_len2]; omega⟩
theorem Near.more (A : List (List Int)) (q : Nat) (l : List Int) (hq : q ≤ A.length) : Near 1 l.length A (growA A q l) := ⟨by rw [growA_length]; split <;> omega, fun j => by
  simp only [len2]; rw [growA_getD A q j l hq]; split
  · subst_vars; rw [List.length_append]; exact Nat.le_refl _
  · omega⟩
theorem Near.trans {a b c d : Nat} {A B C : List (List Int)} (h : Near a b A B) (k : Near c d B C) : Near (a + c) (b + d) A C := ⟨by have := h.len; have := k.len; omega, fun j => by have := h.seg j; have := k.seg j; omega⟩
theorem placeP_near (size : Int) (t : Nd) (S : Lay) (s i : Nat) (h1 : 1 ≤ S.A.length) : Near 1 1 S.A (placeP size t S s i).S.A := by
  unfold placeP
  split
  · have := Near.set S.A s i (t.near ((len2 S.A (lastP S.A) : Int) - i - 1)); exact ⟨Nat.le_trans this.len (Nat.le_succ _), fun j => Nat.le_trans (this.seg j) (Nat.le_succ _)⟩
  · split
    · exact (Near.set _ _ _ _).trans (Near.more _ _ [t.near 0] (by rw [setP_length]; unfold lastP; omega))
    · exact (Near.set _ _ _ _).trans (Near.more _ _ [t.near 0] (by rw [setP_length]; unfold lastP; omega))
theorem OwnA.upd {TO TW T : TypeId} {w w' : World} {base b : Nat} {so : Value} {segs : List Value} {A : List (List Int)} {cs : Array Value} {fr : Nat × Nat} (h : OwnA TO TW w base so segs A) (u : Upd b w w') (hb : w.heap[b]? = some (.cells cs T fr)) (hO : TO ≠ T) (hW : TW ≠ T) : OwnA TO TW w' base so segs A :=
  ⟨own_upd h.out u (own_ne h.out hb hO), fun i v ws hv hw => own_upd (h.seg i v ws hv hw) u (own_ne (h.seg i v ws hv hw) hb hW), h.dis⟩
theorem OwnA.rows {TO TW : TypeId} {w : World} {base : Nat} {so : Value} {segs : List Value} {A : List (List Int)} (h : OwnA TO TW w base so segs A) (hs : ∀ s ∈ A, s.length ≤ 100000) : ∀ (i : Nat) (s : List Int), A[i]? = some s → ∃ v, segs[i]? = some v ∧ Row w 1 v s.length (wordsV s) := by
  intro i s hi
  have hl : i < A.length := (List.getElem?_eq_some_iff.1 hi).1
  obtain ⟨v, hv, ho⟩ := h.at_ hl
  have he : A[i] = s := by rw [List.getElem?_eq_getElem hl] at hi; exact Option.some.inj hi
  rw [he] at ho
  exact ⟨v, hv, own_row ho (by have := hs s (List.mem_of_getElem? hi); omega)⟩
theorem OwnA.growV {TO TW : TypeId} {w : World} {base q : Nat} {so : Value} {segs : List Value} {A : List (List Int)} (h : OwnA TO TW w base so segs A) (hq : q ≤ A.length) : ∃ ad c, (growV segs q)[q]? = some (.slice ad (len2 A q) c) ∧ w.ownsRow base TW 1 (.slice ad (len2 A q) c) (len2 A q) (wordsV (A.getD q [])) := by
  unfold K.growV
  by_cases he : q = segs.length
  · rw [if_pos he, List.getElem?_append_right (by omega)]
    have h0 : len2 A q = 0 := len2_none (by rw [← h.len]; omega)
    have h1 : A.getD q [] = [] := List.eq_nil_of_length_eq_zero h0
    refine ⟨none, 0, by rw [h0]; simp [he], ?_⟩
    rw [h0, h1]; exact ⟨rfl, .inl ⟨rfl, rfl⟩⟩
  · have hl : q < A.length := by rw [h.len] at he; omega
    obtain ⟨v, hv, ho⟩ := h.at_ hl
    obtain ⟨ad, c, rfl, _⟩ := own_shape ho
    rw [if_neg he]
    have e : len2 A q = A[q].length := by rw [len2, getD_at hl]
    rw [e, getD_at hl]
    exact ⟨ad, c, hv, ho⟩
theorem growV_length {segs : List Value} {A : List (List Int)} {q : Nat} (h : segs.length = A.length) : (growV segs q).length = (growB A q).length := by
  unfold K.growV growB; rw [h]; split <;> simp [h]
theorem full_or (f : Bool) (a b c lim : Int) : (((f || decide (a > lim)) || decide (b > 16)) || decide (c > 4096)) = (f || !(decide (b ≤ 16) && (decide (a ≤ lim) && decide (c ≤ 4096)))) := by
  cases f
  · rw [Bool.eq_iff_iff]
    simp only [Bool.false_or, Bool.or_eq_true, decide_eq_true_eq, Bool.not_eq_true', Bool.and_eq_false_iff, decide_eq_false_iff_not]
    omega
  · simp
theorem OwnA.rowat {TO TW : TypeId} {w : World} {base n c : Nat} {ad : Option Addr} {segs : List Value} {A : List (List Int)} (h : OwnA TO TW w base (.slice ad n c) segs A) (hA : A.length ≤ 1000) : n = A.length ∧ RowAt w 1 ad n segs := by
  obtain ⟨a, b, h1, _, _, h2⟩ := own_row h.out (by omega)
  simp only [Value.slice.injEq] at h1
  obtain ⟨rfl, rfl, rfl⟩ := h1
  exact ⟨rfl, h2⟩
theorem Sml.set {A : List (List Int)} (h : Sml A) (s i : Nat) (x : Int) : Sml (setP A s i x) := ⟨by rw [setP_length]; exact h.len, fun j => by rw [setP_len2]; exact h.seg j⟩
theorem OwnA.init {TO TW : TypeId} {w : World} {base b1 b2 : Nat} (ho : w.heap[b2]? = some (.cells #[.slice (some ⟨b1, 0, none⟩) 1 1] TO (0, 0))) (hw : w.heap[b1]? = some (.cells #[.int .u64 0] TW (0, 0))) (h2 : base ≤ b2) (h1 : base ≤ b1) : OwnA TO TW w base (.slice (some ⟨b2, 0, none⟩) 1 1) [.slice (some ⟨b1, 0, none⟩) 1 1] [[0]] := by
  refine ⟨own_lit ho h2 rfl (by decide), fun i v ws hv hw2 => ?_, fun i j v u b hv hu _ _ => ?_⟩
  · match i, hv, hw2 with
    | 0, hv, hw2 =>
      simp only [List.getElem?_cons_zero, Option.some.injEq] at hv hw2
      subst hv; subst hw2
      exact own_lit hw h1 rfl (by decide)
    | i + 1, hv, _ => simp at hv
  · have h1 := (List.getElem?_eq_some_iff.1 hv).1
    have h2 := (List.getElem?_eq_some_iff.1 hu).1
    simp at h1 h2; omega
theorem ArenaR.fn {w : World} {v : Value} {A : List (List Int)} (h : ArenaR w v A) : ∃ (ad : Option Addr) (c : Nat) (segs : List Value) (sa : Nat → Option Addr) (sc : Nat → Nat), v = .slice ad A.length c ∧ A.length ≤ c ∧ c ≤ maxLen ∧ RowAt w 1 ad A.length segs ∧ (∀ i, i < A.length → segs[i]? = some (.slice (sa i) (len2 A i) (sc i))) ∧ ∀ i, i < A.length → len2 A i ≤ sc i ∧ sc i ≤ maxLen ∧ RowAt w 1 (sa i) (len2 A i) (wordsV (A.getD i [])) := by
  obtain ⟨segs, ⟨ad, c, h1, h2, h3, h4⟩, h5⟩ := h
  obtain ⟨sa, sc, h6⟩ := choose_slices (n := A.length) (segs := segs) (len := len2 A) fun i hi => by
    obtain ⟨u, hu, ad, c, rfl, _⟩ := h5 i _ (List.getElem?_eq_getElem hi)
    exact ⟨ad, c, by rw [len2, getD_at hi]; exact hu⟩
  refine ⟨ad, c, segs, sa, sc, h1, h2, h3, h4, h6, fun i hi => ?_⟩
  obtain ⟨u, hu, ad, c, rfl, h7, h8, h9⟩ := h5 i _ (List.getElem?_eq_getElem hi)
  have h10 := h6 i hi
  rw [hu] at h10
  simp only [Option.some.injEq, Value.slice.injEq] at h10
  obtain ⟨rfl, _, rfl⟩ := h10
  rw [len2, getD_at hi]
  exact ⟨h7, h8, h9⟩
theorem lists_eq {α : Type} {A B : List α} {d : α} (hl : A.length = B.length) (h : ∀ j, j < A.length → A.getD j d = B.getD j d) : A = B := by
  apply List.ext_getElem hl
  intro j h1 h2
  have := h j h1
  rwa [getD_at h1, getD_at h2] at this
theorem Nd.build_sml (t : Nd) (n : Int) : Sml (t.build n).1 := by
  unfold Nd.build
  split
  · exact ⟨by simp, fun j => by simp [len2]⟩
  · rename_i h
    split
    · exact ⟨by simp, fun j => by simp [len2]⟩
    · rename_i hf
      have hf : (t.lay n ⟨[[0]], false⟩ 0 0).full = false := by simpa using hf
      exact ((t.lay_ok n ⟨[[0]], false⟩ 0 0 (by simp)).fit (Fit.init (by omega)) hf).sml (by omega)
theorem Nd.build_err (t : Nd) (n : Int) : 0 ≤ (t.build n).2 ∧ (t.build n).2 ≤ 24 := by
  unfold Nd.build
  split
  · simp
  · split <;> simp
theorem ArenaR.slice {w : World} {v : Value} {A : List (List Int)} (h : ArenaR w v A) : ∃ ad n c, v = .slice ad n c := by
  obtain ⟨segs, ⟨ad, c, h1, _⟩, _⟩ := h; exact ⟨_, _, _, h1⟩
end Go.Proofs.Ytfhfecepcnapfaa.K
namespace Go.Proofs.Ytfhfecepcnapfaa.K
open Go Go.RowKit

open Classical in
/-- Memory of which only so many blocks are seen. -/
noncomputable def see (V : Nat → Prop) (w : World) : World := { w with heap := w.heap.mapIdx fun i o => if V i then o else .deferred none }
theorem see_cells {V : Nat → Prop} {k : Nat} {w : World} {cs : Array Value} {T : TypeId} {fr : Nat × Nat} : (see V w).heap[k]? = some (.cells cs T fr) ↔ V k ∧ w.heap[k]? = some (.cells cs T fr) := by
  have h0 : (see V w).heap[k]? = (w.heap[k]?).map fun o => @ite _ (V k) (Classical.propDecidable _) o (.deferred none) := by simp only [see, Array.getElem?_mapIdx]
  rw [h0]
  constructor
  · intro h
    cases hk : w.heap[k]? with
    | none => rw [hk] at h; cases h
    | some o =>
      rw [hk] at h
      simp only [Option.map_some, Option.some.injEq] at h
      split at h
      · subst h; rename_i hv; exact ⟨hv, rfl⟩
      · cases h
  · rintro ⟨h1, h2⟩
    rw [h2, Option.map_some, if_pos h1]
/-- All above a mark. -/
noncomputable abbrev hide (B : Nat) (w : World) : World := see (fun x => B ≤ x) w
/-- The cells that one memory shows another one shows, too. -/
def Sees (w w' : World) : Prop := ∀ (b : Nat) (cs : Array Value) (T : TypeId) (fr : Nat × Nat), w.heap[b]? = some (.cells cs T fr) → w'.heap[b]? = some (.cells cs T fr)
theorem Sees.of_grow {w w' : World} (g : Grow w w') : Sees w w' := fun _ _ _ _ h => g.heap h
theorem Sees.trans {a b c : World} (h : Sees a b) (k : Sees b c) : Sees a c := fun _ _ _ _ x => k _ _ _ _ (h _ _ _ _ x)
theorem Sees.seen (V : Nat → Prop) (w : World) : Sees (see V w) w := fun _ _ _ _ h => (see_cells.1 h).2
theorem Sees.more {V V' : Nat → Prop} (w : World) (h : ∀ x, x < w.heap.size → V x → V' x) : Sees (see V w) (see V' w) := fun b _ _ _ x =>
  have y := see_cells.1 x
  see_cells.2 ⟨h b (lt_of_heap y.2) y.1, y.2⟩
theorem Sees.low {B B' : Nat} (h : B ≤ B') (w : World) : Sees (hide B' w) (hide B w) := Sees.more w fun x _ hx => Nat.le_trans h hx
theorem Sees.kp {F : List Nat} {V : Nat → Prop} {w w' : World} (k : Kp F w w') (hF : ∀ x ∈ F, ¬ V x) : Sees (see V w) (see V w') := fun b _ _ _ x =>
  have h := see_cells.1 x
  see_cells.2 ⟨h.1, k.heap h.2 fun hm => hF b hm h.1⟩
theorem Sees.grow {V : Nat → Prop} {w w' : World} (g : Grow w w') : Sees (see V w) (see V w') := Sees.kp (F := []) (Kp.of_grow g) (fun x hx => by simp at hx)
theorem Sees.upd {b : Nat} {V : Nat → Prop} {w w' : World} (u : Upd b w w') (hb : ¬ V b) : Sees (see V w) (see V w') := Sees.kp (F := [b]) (Kp.of_upd u (by simp)) (fun x hx => by simp only [List.mem_singleton] at hx; subst hx; exact hb)
theorem vlt {V : Nat → Prop} {B n m : Nat} (h : ∀ x, V x → B ≤ x ∧ x < n) (hn : n ≤ m) : ∀ x, V x → B ≤ x ∧ x < m := fun x hx => ⟨(h x hx).1, Nat.lt_of_lt_of_le (h x hx).2 hn⟩
theorem RowAt.sees {w w' : World} (g : Sees w w') {sz : Nat} {ad : Option Addr} {n : Nat} {xs : List Value} (h : RowAt w sz ad n xs) : RowAt w' sz ad n xs := h.keep fun _ _ _ _ _ hb => g _ _ _ _ hb
theorem Row.sees {w w' : World} (g : Sees w w') {sz : Nat} {v : Value} {n : Nat} {xs : List Value} (h : Row w sz v n xs) : Row w' sz v n xs := by
  obtain ⟨ad, c, h1, h2, h3, h4⟩ := h
  exact ⟨ad, c, h1, h2, h3, h4.sees g⟩
mutual
theorem NodeR.sees {w w' : World} (g : Sees w w') : ∀ {c : List Value} {t : Nd}, NodeR w c t → NodeR w' c t
  | _, _, .mk h1 h2 h3 h4 h5 h6 h7 h8 => .mk h1 h2 (h3.sees g) h4 (h5.sees g) h6 (h7.sees g) (KidsR.sees g h8)
theorem KidsR.sees {w w' : World} (g : Sees w w') : ∀ {c : List Value} {t : List Nd}, KidsR w c t → KidsR w' c t
  | _, _, .nil => .nil
  | _, _, .cons h1 h2 => .cons (NodeR.sees g h1) (KidsR.sees g h2)
end
theorem own_hide {w : World} {base n sz : Nat} {T : TypeId} {v : Value} {xs : List Value} (h : w.ownsRow base T sz v n xs) (hl : n ≤ 140737488355328) : Row (hide base w) sz v n xs := by
  obtain ⟨h1, h2⟩ := h
  rcases h2 with ⟨rfl, rfl⟩ | ⟨g, cap, cur, rfl, hb, hg, hnc, hcm, hcs, ht⟩
  · have : xs = [] := List.eq_nil_of_length_eq_zero (by simpa using h1)
    subst this; exact Row.nil _ sz
  · exact ⟨_, cap, rfl, hnc, hcm, h1, hl, fun _ => ⟨g, 0, cur, T, (0, 0), rfl, see_cells.2 ⟨hb, hg⟩, by rw [List.drop_zero]; exact ht⟩⟩
theorem own_hide_ints {w : World} {base n m : Nat} {T : TypeId} {v : Value} {k : IntKind} {f : Nat → Int} (h : w.ownsRow base T 1 v n ((List.range n).map fun i => .int k (f i))) (hm : n = m) (hl : n ≤ 1000) : Row (hide base w) 1 v ((List.range m).map f).length (((List.range m).map f).map (.int k)) := by
  subst hm
  rw [List.length_map, List.length_range, List.map_map]
  exact own_hide h (by omega)
def Nd.nil : Nd := .mk 0 0 [] [] []
theorem NodeR.zero (w : World) : NodeR w [.int .i64 0, .int .i64 0, .slice none 0 0, .slice none 0 0, .slice none 0 0] Nd.nil :=
  .mk (by simp [inR]) (by simp [inR]) (Row.nil _ _) (by simp) (Row.nil _ _) (by simp) (Row.nil _ _) .nil
/-! ### choices -/
def bTree (k : Int) (i : Nat) : Int := IntKind.u8.wrap (k + i)
def w3Tree (k : Int) (i : Nat) : Int := IntKind.u64.wrap (IntKind.u64.wrap (k * 81985529216486895) + i)
def w4Tree (k : Int) (i : Nat) : Int := IntKind.u64.wrap (IntKind.u64.wrap (k * 2 ^ min (8 * (i : Int)).toNat IntKind.u64.bits) + i)
/-- So many things, one behind the other; what is left of the choices. -/
def treesP (f : List Int → Nd × List Int) : Nat → List Int → List Nd × List Int
  | 0, c => ([], c)
  | n + 1, c => ((treesP f n c).1 ++ [(f (treesP f n c).2).1], (f (treesP f n c).2).2)
def treeP : Nat → List Int → Nd × List Int
  | 0, c => (.nil, c)
  | _ + 1, [] => (.nil, [])
  | d + 1, k :: c =>
    if k % 8 = 0 then (.nil, c)
    else if k % 8 = 1 ∨ k % 8 = 2 then (.mk 2 2 [] ((List.range (3 * (k / 8 % 5) + k % 2).toNat).map (bTree k)) [], c)
    else if k % 8 = 3 then (.mk 2 5 ((List.range (k / 8 % 5).toNat).map (w3Tree k)) [] [], c)
    else if k % 8 > 6 then (.mk 2 6 [] [] (treesP (treeP d) (k / 8 % 5).toNat c).1, (treesP (treeP d) (k / 8 % 5).toNat c).2)
    else (.mk 1 0 ((List.range (k / 64).toNat).map (w4Tree k)) [] (treesP (treeP d) (k / 8 % 5).toNat c).1, (treesP (treeP d) (k / 8 % 5).toNat c).2)
theorem treeP_stop {d : Nat} {xs : List Int} (h : xs = [] ∨ d = 0) : treeP d xs = (.nil, xs) := by
  match d, xs, h with
  | 0, xs, _ => simp [treeP]
  | d + 1, [], _ => simp [treeP]
  | d + 1, x :: xs, h => rcases h with h | h <;> simp at h
theorem wrap_u8R (n : Int) : inR .u8 (IntKind.u8.wrap n) := by simp only [inR, IntKind.wrap_u8]; omega
theorem wrap_u64R (n : Int) : inR .u64 (IntKind.u64.wrap n) := by simp only [inR, IntKind.wrap_u64]; omega
theorem treesP_mem {f : List Int → Nd × List Int} {Q : List Int → Prop} (hf : ∀ c, Q c → Q (f c).2) : ∀ (n : Nat) (c : List Int), Q c → Q (treesP f n c).2
  | 0, c, h => h
  | n + 1, c, h => hf _ (treesP_mem hf n c h)
/-- What is left is a part of what there was. -/
theorem treeP_rest {Q : Int → Prop} : ∀ (d : Nat) (c : List Int), (∀ x ∈ c, Q x) → ∀ x ∈ (treeP d c).2, Q x
  | 0, c, h => by simpa [treeP] using h
  | d + 1, [], h => by simp [treeP]
  | d + 1, k :: c, h => by
    have hc : ∀ x ∈ c, Q x := fun x hx => h x (by simp [hx])
    have ht := treesP_mem (f := treeP d) (Q := fun c => ∀ x ∈ c, Q x) (fun c hq => treeP_rest d c hq) (k / 8 % 5).toNat c hc
    simp only [treeP]
    split
    · exact hc
    · split
      · exact hc
      · split
        · exact hc
        · split <;> exact ht
theorem treesP_rest {Q : Int → Prop} (d n : Nat) (c : List Int) (h : ∀ x ∈ c, Q x) : ∀ x ∈ (treesP (treeP d) n c).2, Q x :=
  treesP_mem (f := treeP d) (Q := fun c => ∀ x ∈ c, Q x) (fun c hq => treeP_rest d c hq) n c h
theorem treeP_len : ∀ (d : Nat) (c : List Int), (treeP d c).2.length ≤ c.length
  | 0, c => by simp [treeP]
  | d + 1, [] => by simp [treeP]
  | d + 1, k :: c => by
    have ht := treesP_mem (f := treeP d) (Q := fun x => x.length ≤ c.length) (fun x hq => Nat.le_trans (treeP_len d x) hq) (k / 8 % 5).toNat c (Nat.le_refl _)
    simp only [treeP]
    split
    · simp
    · split
      · simp
      · split
        · simp
        · split <;> simp only [List.length_cons] <;> omega
theorem treesP_len (d n : Nat) (c : List Int) : (treesP (treeP d) n c).2.length ≤ c.length :=
  treesP_mem (f := treeP d) (Q := fun x => x.length ≤ c.length) (fun x hq => Nat.le_trans (treeP_len d x) hq) n c (Nat.le_refl _)
theorem treesP_count (f : List Int → Nd × List Int) : ∀ (n : Nat) (c : List Int), (treesP f n c).1.length = n
  | 0, _ => rfl
  | n + 1, c => by simp [treesP, treesP_count f n c]
end Go.Proofs.Ytfhfecepcnapfaa.K
namespace Go.Proofs.Ytfhfecepcnapfaa.K
open Go Go.RowKit
/-- append keeps what its own row had; where there is no room, all of it. -/
theorem append_keep {P : Program} {w w' : World} {base n m cp g cap : Nat} {t ty el : TypeId} {sz by_ : Nat} {z v' : Value} {ad : Option Addr} {xs ys : List Value} {cur : Array Value} [hz : ElzI P t el sz by_ z] (hown : w.ownsRow base el sz (.slice (some ⟨g, 0, none⟩) n cap) n xs) (hg : w.heap[g]? = some (.cells cur el (0, 0))) (hra : RowAt w sz ad m ys) (hm : 0 < m)
    (h1 : ∀ q ∈ ys, q.oneCell' = true) (hl : n + m ≤ maxLen) (hby : (n + m) * by_ ≤ 140737488355328) (hrun : (Builtin.append_ #[t, t] ty #[.slice (some ⟨g, 0, none⟩) n cap, .slice ad m cp]).run P w = .ok v' w') :
    ∃ cur' : Array Value, w'.heap[g]? = some (.cells cur' el (0, 0)) ∧ cur'.size = cur.size ∧ cur'.toList.take (n * sz) = cur.toList.take (n * sz) ∧ (cap < n + m → cur' = cur) := by
  obtain ⟨hu, i, hi, hzz, hsz, hbb, hzs, hpos⟩ := elz_of hz.h
  subst hsz; subst hbb
  have hsmall : n + m ≤ 9223372036854775807 := by simp only [maxLen] at hl; omega
  obtain ⟨b, o, cs, T, fr, rfl, hb, hrow⟩ := hra.at_ hm
  have hcell : ∀ j u, ys[j]? = some u → w.cell? ((⟨b, o, none⟩ : Addr).add j) = some u := fun j u hj => by
    rw [add_lit, cell_of_row w b (o + j) cs T fr hb]
    exact row_cell hrow hj
  have hcs : cur.size = cap * i.size := by
    rcases hown.2 with ⟨h, _⟩ | ⟨q, cap', cur', hv, _, hg', _, _, h2, _⟩
    · cases h
    · simp only [Value.slice.injEq, Option.some.injEq, Addr.mk.injEq, and_true, true_and] at hv
      obtain ⟨rfl, rfl⟩ := hv
      rw [hg] at hg'
      simp only [Option.some.injEq, Obj.cells.injEq, and_true] at hg'
      subst hg'
      exact h2
  by_cases hroom : n + m ≤ cap
  · have hfit : n * i.size + ys.length ≤ cur.size := by rw [hra.len, hcs, ← Nat.add_mul]; exact Nat.mul_le_mul_right _ hroom
    have hr := run_append_room (P := P) w t ty el i hu hi g n cap cur hg ⟨b, o, none⟩ m cp ys hra.len hcell h1 hroom hfit
    rw [hr] at hrun
    simp only [Result.ok.injEq] at hrun
    obtain ⟨-, rfl⟩ := hrun
    refine ⟨_, setRow_heap w g cur _ el _ hg, ?_, ?_, fun h => by omega⟩
    · simp; omega
    · simp
      rw [List.take_append_of_le_length (by simp; omega), List.take_take, Nat.min_self]
  · have hr := run_append_grow (P := P) w t ty el i z hu hi hzz ⟨g, 0, none⟩ n cap xs hown.1 (hown.cells (g := g) rfl) ⟨b, o, none⟩ m cp ys hra.len hcell (by omega) (by omega) (growslice_fits (by omega) hby)
    rw [hr] at hrun
    simp only [Result.ok.injEq] at hrun
    obtain ⟨-, rfl⟩ := hrun
    exact ⟨cur, by rw [Below.heap_alloc w.drew _ g (lt_of_heap hg)]; exact hg, rfl, rfl, fun _ => rfl⟩
section
variable {P : Program} {e : Env} {w : World} {K : Value → World → Prop} {d : Option Nat} {ty : TypeId} {pos : String} {af : Array Edge} {g : Option (Nat × Bool)} {t u : TypeId} {x y : Operand}
/-- append, with what is kept of its own row. -/
theorem r_appendK {xs_ : Array Operand} {at_ : Array TypeId} (hxs : xs_ = #[x, y]) (hat : at_ = #[t, t]) {base n m : Nat} {el : TypeId} {sz by_ : Nat} {z v u : Value} {xs ys : List Value} [hz : ElzI P t el sz by_ z] (hx : ev e x = v) (hy : ev e y = u)
    (hown : w.ownsRow base el sz v n xs) (hr : Row w sz u m ys) (hm : 0 < m) (h1 : ∀ q ∈ ys, q.oneCell' = true) (hl : n + m ≤ maxLen) (hby : (n + m) * by_ ≤ 140737488355328) (hbase : base ≤ w.heap.size)
    (h : ∀ v' w', w'.ownsRow base el sz v' (n + m) (xs ++ ys) → w.grownBy w' v.ownBlock → (∀ g cap cur, v = .slice (some ⟨g, 0, none⟩) n cap → w.heap[g]? = some (.cells cur el (0, 0)) → ∃ cur' : Array Value, w'.heap[g]? = some (.cells cur' el (0, 0)) ∧ cur'.size = cur.size ∧ cur'.toList.take (n * sz) = cur.toList.take (n * sz) ∧ (cap < n + m → cur' = cur)) → K v' w') : Run1 P ⟨d, .call ⟨.builtin .append, xs_, at_⟩, ty, pos, af, g⟩ e w K := by
  subst hxs; subst hat
  obtain ⟨ad, cp, rfl, hmc, _, hra⟩ := hr
  obtain ⟨v', w', hrun, ho, hg, -⟩ := append_run (P := P) (t := t) (ty := ty) (cp := cp) hown hra h1 hl hby hbase
  refine run1_ok (v := v') (w' := w') ?_ (h v' w' ho hg fun g cap cur hv hgc => by subst hv; exact append_keep hown hgc hra hm h1 hl hby hrun)
  simp only [execOp, resolve, invoke, builtin, Sem.run_bind, Sem.run_pure, Result.andThen_ok, List.map_toArray, List.map_cons, List.map_nil, hx, hy, hrun]
end
/-! ### fresh rows of one type may be written behind their first cells -/
structure KsP (T : TypeId) (base n : Nat) (w w' : World) : Prop where
  os : w'.os = w.os
  tape : w'.tape = w.tape
  output : w'.output = w.output
  size : w.heap.size ≤ w'.heap.size
  old : ∀ k : Nat, k < w.heap.size → (k < base ∨ ¬ ∃ cs, w.heap[k]? = some (.cells cs T (0, 0))) → w'.heap[k]? = w.heap[k]?
  new : ∀ (k : Nat) (cs : Array Value), w.heap[k]? = some (.cells cs T (0, 0)) → ∃ cs' : Array Value, w'.heap[k]? = some (.cells cs' T (0, 0)) ∧ cs'.size = cs.size ∧ cs'.toList.take n = cs.toList.take n ∧ (cs.size ≤ n ∨ cs.size ≤ 1 → cs' = cs)
def ksR (T : TypeId) (base n : Nat) : KpR where
  r := KsP T base n
  refl := fun w => ⟨rfl, rfl, rfl, Nat.le_refl _, fun _ _ _ => rfl, fun k cs h => ⟨cs, h, rfl, rfl, fun _ => rfl⟩⟩
  tr := fun {a b c} h k => ⟨k.os.trans h.os, k.tape.trans h.tape, k.output.trans h.output, Nat.le_trans h.size k.size, fun i hi hc => by
      have h1 := h.old i hi hc
      rw [k.old i (Nat.lt_of_lt_of_le hi h.size) (by rw [h1]; exact hc), h1], fun i cs hi => by
      obtain ⟨cs1, h1, h2, h3, h4⟩ := h.new i cs hi
      obtain ⟨cs2, h5, h6, h7, h8⟩ := k.new i cs1 h1
      exact ⟨cs2, h5, h6.trans h2, h7.trans h3, fun hs => by rw [h8 (by rw [h2]; exact hs), h4 hs]⟩⟩
  grow := fun {a b} g => ⟨g.os, g.tape, g.output, g.size, fun k hk _ => g.block k hk, fun k cs h => ⟨cs, g.heap h, rfl, rfl, fun _ => rfl⟩⟩
theorem KsP.to_grow {T : TypeId} {n : Nat} {W w w' : World} (k : KsP T W.heap.size n w w') (g : Grow W w) : Grow W w' :=
  ⟨k.os.trans g.os, k.tape.trans g.tape, k.output.trans g.output, Nat.le_trans g.size k.size, fun i hi => by rw [k.old i (Nat.lt_of_lt_of_le hi g.size) (.inl hi), g.block i hi]⟩
theorem KsP.heap {T T2 : TypeId} {base n k : Nat} {w w' : World} {cs : Array Value} {fr : Nat × Nat} (h : KsP T base n w w') (hk : w.heap[k]? = some (.cells cs T2 fr)) (hT : T2 ≠ T) : w'.heap[k]? = some (.cells cs T2 fr) := by
  rw [h.old k (lt_of_heap hk) (.inr fun ⟨cs2, h2⟩ => by rw [hk] at h2; simp only [Option.some.injEq, Obj.cells.injEq] at h2; exact hT h2.2.1)]
  exact hk
/-- An append to a fresh row of so many does that. -/
theorem KsP.of_append {T : TypeId} {base n cap g : Nat} {w w' : World} {cur : Array Value} (gr : w.grownBy w' (some g)) (hb : base ≤ g) (hg : w.heap[g]? = some (.cells cur T (0, 0))) (hcs : cur.size = cap) (hk : ∃ cur' : Array Value, w'.heap[g]? = some (.cells cur' T (0, 0)) ∧ cur'.size = cur.size ∧ cur'.toList.take n = cur.toList.take n ∧ (cap < n + 1 → cur' = cur)) (hn : 1 ≤ n) : KsP T base n w w' := by
  have k1 : Kp [g] w w' := Kp.of_grownBy gr (fun k hk => by simp only [Option.some.injEq] at hk; subst hk; simp)
  obtain ⟨cur', h1, h2, h3, h4⟩ := hk
  refine ⟨k1.os, k1.tape, k1.output, k1.size, fun k hk hc => k1.block k hk (fun hm => ?_), fun k cs hk => ?_⟩
  · simp only [List.mem_singleton] at hm
    subst hm
    rcases hc with hc | hc
    · omega
    · exact hc ⟨cur, hg⟩
  · by_cases hkg : k = g
    · subst hkg
      rw [hg] at hk
      simp only [Option.some.injEq, Obj.cells.injEq, and_true] at hk
      subst hk
      exact ⟨cur', h1, h2, h3, fun hs => h4 (by omega)⟩
    · exact ⟨cs, k1.heap hk (by simp [hkg]), rfl, rfl, fun _ => rfl⟩
/-! ### memory of which only cells of one type are seen -/
open Classical in
noncomputable def seeT (T : TypeId) (w : World) : World := { w with heap := w.heap.map fun o => if (∃ cs fr, o = Obj.cells cs T fr) then o else .deferred none }
theorem seeT_cells {T T' : TypeId} {k : Nat} {w : World} {cs : Array Value} {fr : Nat × Nat} : (seeT T w).heap[k]? = some (.cells cs T' fr) ↔ T' = T ∧ w.heap[k]? = some (.cells cs T' fr) := by
  have h0 : (seeT T w).heap[k]? = (w.heap[k]?).map fun o => @ite _ (∃ cs fr, o = Obj.cells cs T fr) (Classical.propDecidable _) o (.deferred none) := by simp only [seeT, Array.getElem?_map]
  rw [h0]
  constructor
  · intro h
    cases hk : w.heap[k]? with
    | none => rw [hk] at h; cases h
    | some o =>
      rw [hk] at h
      simp only [Option.map_some, Option.some.injEq] at h
      split at h
      · subst h
        rename_i hv
        obtain ⟨cs2, fr2, h2⟩ := hv
        simp only [Obj.cells.injEq] at h2
        exact ⟨h2.2.1, rfl⟩
      · cases h
  · rintro ⟨rfl, h2⟩
    rw [h2, Option.map_some, if_pos ⟨_, _, rfl⟩]
theorem Sees.typ (T : TypeId) (w : World) : Sees (seeT T w) w := fun _ _ _ _ h => (seeT_cells.1 h).2
theorem Sees.typ_of {T : TypeId} {w w' : World} (h : ∀ (b : Nat) (cs : Array Value) (fr : Nat × Nat), w.heap[b]? = some (Obj.cells cs T fr) → w'.heap[b]? = some (Obj.cells cs T fr)) : Sees (seeT T w) (seeT T w') := fun b cs T' fr x => by
  obtain ⟨rfl, x2⟩ := seeT_cells.1 x
  exact seeT_cells.2 ⟨rfl, h b cs fr x2⟩
theorem Sees.typ_grow {T : TypeId} {w w' : World} (g : Grow w w') : Sees (seeT T w) (seeT T w') := Sees.typ_of fun _ _ _ h => g.heap h
theorem Sees.typ_upd {T : TypeId} {b : Nat} {w w' : World} (u : Upd b w w') (h : ∀ (cs : Array Value) (fr : Nat × Nat), w.heap[b]? ≠ some (Obj.cells cs T fr)) : Sees (seeT T w) (seeT T w') := Sees.typ_of fun k cs fr hk => u.heap hk (fun he => h cs fr (he ▸ hk))
theorem Sees.typ_gr {T T' : TypeId} {base n sz : Nat} {v : Value} {xs : List Value} {w w' : World} (g : w.grownBy w' v.ownBlock) (h : w.ownsRow base T' sz v n xs) (hT : T' ≠ T) : Sees (seeT T w) (seeT T w') := Sees.typ_of fun k cs fr hk => gr_heap g hk (own_ne h hk hT)
theorem own_typ {w : World} {base n sz : Nat} {T : TypeId} {v : Value} {xs : List Value} (h : w.ownsRow base T sz v n xs) (hl : n ≤ 140737488355328) : Row (seeT T w) sz v n xs := by
  obtain ⟨h1, h2⟩ := h
  rcases h2 with ⟨rfl, rfl⟩ | ⟨g, cap, cur, rfl, hb, hg, hnc, hcm, hcs, ht⟩
  · have : xs = [] := List.eq_nil_of_length_eq_zero (by simpa using h1)
    subst this; exact Row.nil _ sz
  · exact ⟨_, cap, rfl, hnc, hcm, h1, hl, fun _ => ⟨g, 0, cur, T, (0, 0), rfl, seeT_cells.2 ⟨rfl, hg⟩, by rw [List.drop_zero]; exact ht⟩⟩
end Go.Proofs.Ytfhfecepcnapfaa.K
namespace Go.Proofs.Ytfhfecepcnapfaa.K
open Go Go.RowKit
/-- What a type's method is: a function with a body, that is handed the value itself. -/
class MethI (P : Program) (t : TypeId) (name : String) (f : FuncId) : Prop where
  h : ∀ (v : Value) (args : Array Value) (w : World), (callMethod (.iface t v) name args).run P w = .ok (.enter f (#[v] ++ args)) w
class IfcI (P : Program) (t : TypeId) : Prop where
  h : ∃ ms, P.underlying t = some (.interface ms)
theorem stepR_scope {P : Program} {b : Frame} {a : Act} {k : List Item} {cs : List Frame} {w : World} {c : Code} : step P (lone (b.atR a (.code (.scope c) :: k)) cs w) = .next (lone (b.atR a (.code c :: .inScope c :: k)) cs w) :=
  step_lone_go (by simp [stepG, stepG.exec, Frame.atR])
theorem stepR_inScope {P : Program} {b : Frame} {a : Act} {k : List Item} {cs : List Frame} {w : World} {c : Code} : step P (lone (b.atR a (.inScope c :: k)) cs w) = .next (lone (b.atR a k) cs w) :=
  step_lone_go (by simp [stepG, stepG.exec, Frame.atR])
theorem W_scope {P : Program} {n : Nat} {Q : Ex → Env → World → Prop} {e : Env} {w : World} {c : Code} (h : W P n c Q e w) : W P n (.scope c) Q e w := by
  intro b a k cs hs he
  obtain ⟨t, a1, w1, h1, h2, h3⟩ := h b a (.inScope c :: k) cs hs he
  cases t with
  | normal => exact ⟨.normal, a1, w1, h1, h2, .head stepR_scope (Steps.trans h3 (.one stepR_inScope))⟩
  | exit i => exact ⟨.exit i, a1, w1, h1, h2, .past (y := .inScope c) (fun _ => rfl) (by simp) (.of (.one stepR_scope) h3)⟩
  | ret => exact ⟨.ret, a1, w1, h1, h2, .past (y := .inScope c) (fun _ => rfl) (by simp) (.of (.one stepR_scope) h3)⟩
section
variable {P : Program} {ops : Array Oper} {e : Env} {w : World} {K : Value → World → Prop} {d : Option Nat} {ty : TypeId} {pos : String} {af : Array Edge} {g : Option (Nat × Bool)} {t u : TypeId} {x y z : Operand}
theorem r_invoke {name : String} {args : Array Operand} {at_ : Array TypeId} {f : FuncId} {v : Value} {F : Value → World → Prop} {T : TypeId} (hm : MethI P T name f) (hx : ev e x = .iface T v)
    (hc : Calls P f (v :: args.toList.map (ev e)).toArray w (Ret F)) (h : ∀ v w', F v w' → K v w') : Run1 P ⟨d, .call ⟨.invoke x name, args, at_⟩, ty, pos, af, g⟩ e w K := by
  have ha : ((#[ev e x] ++ args.map (ev e)).extract 1 (#[ev e x] ++ args.map (ev e)).size) = args.map (ev e) := by
    apply Array.ext'
    simp
    exact List.take_of_length_le (by simp)
  have h0 : (#[ev e x] ++ args.map (ev e))[0]? = some (.iface T v) := by rw [hx, Array.getElem?_append_left (by simp)]; rfl
  have hb : #[v] ++ args.map (ev e) = (v :: args.toList.map (ev e)).toArray := by
    apply Array.ext'
    simp
  have hr : (execOp (ev e) ⟨d, .call ⟨.invoke x name, args, at_⟩, ty, pos, af, g⟩).run P w = .ok (.enter f (v :: args.toList.map (ev e)).toArray) w := by
    simp only [execOp, resolve, Sem.run_bind, Sem.run_pure, Result.andThen_ok, invoke, h0, ha]
    rw [hm.h, hb]
  unfold Run1
  rw [hr]
  exact hc.mono fun r w' ⟨v, hv, hF⟩ => ⟨v, hv, h v w' hF⟩
theorem r_eqlIfc {T : TypeId} {v : Value} [hi : IfcI P t] (hx : ev e x = .iface T v) (hy : ev e y = .nilIface) (h : K (.bool false) w) : Run1 P ⟨d, .binOp .eql t x y u, ty, pos, af, g⟩ e w K := by
  obtain ⟨ms, hi⟩ := hi.h
  exact run1_ok (w' := w) (by
    have hg : ∀ w : World, (eqGuard .eql t x y (.iface T v) .nilIface).run P w = .ok () w := fun _ => rfl
    have hq : (Op.equal t (.iface T v) .nilIface).run P w = .ok false w := by
      show (Op.equalIn (9999 + 1) t (.iface T v) .nilIface).run P w = _
      rw [Op.equalIn]
      simp only [underlying, program, Sem.run_bind, Sem.run, hi, Sem.run_pure, Result.andThen_ok]
    simp only [execOp, hx, hy, Sem.run_bind, hg, Result.andThen_ok, binOp, hq, Sem.run_pure]) h
end
end Go.Proofs.Ytfhfecepcnapfaa.K
namespace Go.Proofs.Ytfhfecepcnapfaa.K
open Go Go.RowKit
structure Ob where
  kind : Int
  seg : Int
  at_ : Int
  data : Int
  ptrs : Int
  size : Int
  count : Int
  deriving DecidableEq
def Ob0 : Ob := ⟨0, 0, 0, 0, 0, 0, 0⟩
def Ob.pt (o : Ob) : Pt := ⟨o.kind, 0, o.data, o.ptrs, o.size, o.count, 0, false⟩
structure Src where
  sizes : List Int
  word : Int → Int → Int × Int
def addOk (a b m : Int) : Bool := decide (0 ≤ a ∧ 0 ≤ b ∧ a ≤ m ∧ b ≤ m - a)
def withinP (sizes : List Int) (seg at_ n : Int) : Bool := decide (0 ≤ seg ∧ seg < sizes.length) && addOk at_ n (sizes.getD seg.toNat 0)
def wordA (A : List (List Int)) (seg at_ : Int) : Int × Int := if 0 ≤ seg ∧ seg < A.length ∧ 0 ≤ at_ ∧ at_ < len2 A seg.toNat then ((A.getD seg.toNat []).getD at_.toNat 0, 0) else (0, 20)
def wholeS (A : List (List Int)) : Src := ⟨A.map fun s => (s.length : Int), wordA A⟩
def nearP (p : Pt) : Bool := decide (p.kind = 1) || decide (p.kind = 2)
def wordsO (o : Ob) : Int := if o.kind = 3 then 0 else wordsN o.pt
def ptrS (s : Src) (seg at_ : Int) : Pt × Int := if (s.word seg at_).2 ≠ 0 then (Pt0, (s.word seg at_).2) else (decP (s.word seg at_).1, decE (s.word seg at_).1)
def objP (p : Pt) (seg at_ : Int) : Ob := ⟨p.kind, seg, at_, p.data, p.ptrs, p.size, p.count⟩
def foundS (s : Src) (p : Pt) (seg at_ : Int) : Ob × Int :=
  if wordsE (objP p seg at_).pt ≠ 0 then (Ob0, wordsE (objP p seg at_).pt)
  else if withinP s.sizes seg at_ (wordsN (objP p seg at_).pt) = false then (Ob0, 20)
  else (objP p seg at_, 0)
def landedS (s : Src) (p : Pt) : Ob × Int :=
  if (ptrS s p.seg p.off).2 ≠ 0 then (Ob0, (ptrS s p.seg p.off).2)
  else if nearP (ptrS s p.seg p.off).1 = false then (Ob0, 23)
  else foundS s (ptrS s p.seg p.off).1 p.seg (p.off + 1 + (ptrS s p.seg p.off).1.off)
def twiceS (s : Src) (p : Pt) : Ob × Int :=
  if (s.word p.seg p.off).2 ≠ 0 then (Ob0, (s.word p.seg p.off).2)
  else if (s.word p.seg (p.off + 1)).2 ≠ 0 then (Ob0, (s.word p.seg (p.off + 1)).2)
  else if decE (s.word p.seg p.off).1 ≠ 0 then (Ob0, decE (s.word p.seg p.off).1)
  else if decE (s.word p.seg (p.off + 1)).1 ≠ 0 then (Ob0, decE (s.word p.seg (p.off + 1)).1)
  else if (decP (s.word p.seg p.off).1).kind ≠ 3 ∨ (decP (s.word p.seg p.off).1).dbl = true ∨ nearP (decP (s.word p.seg (p.off + 1)).1) = false ∨ (decP (s.word p.seg (p.off + 1)).1).off ≠ 0 then (Ob0, 23)
  else foundS s (decP (s.word p.seg (p.off + 1)).1) (decP (s.word p.seg p.off).1).seg (decP (s.word p.seg p.off).1).off
def followS (s : Src) (seg at_ : Int) : Ob × Int :=
  if (ptrS s seg at_).2 ≠ 0 ∨ (ptrS s seg at_).1.kind = 0 then (Ob0, (ptrS s seg at_).2)
  else if nearP (ptrS s seg at_).1 = true then foundS s (ptrS s seg at_).1 seg (at_ + 1 + (ptrS s seg at_).1.off)
  else if (ptrS s seg at_).1.dbl = true then twiceS s (ptrS s seg at_).1
  else landedS s (ptrS s seg at_).1
def stepS (s : Src) (o : Ob) (k : Int) : Ob × Int :=
  if o.kind = 0 ∨ (o.kind = 1 ∧ k ≥ o.ptrs) then (Ob0, 0)
  else if o.kind = 1 then followS s o.seg (o.at_ + k + o.data)
  else if o.size ≠ 6 then (o, 23)
  else if k ≥ o.count then (o, 20)
  else followS s o.seg (o.at_ + k)
def atS (s : Src) (o : Ob) (k : Int) : Int × Int :=
  if o.kind = 0 ∨ (o.kind = 1 ∧ k ≥ o.data) then (0, 0)
  else if o.kind = 1 then s.word o.seg (o.at_ + k)
  else if o.size = 6 then (0, 23)
  else if k ≥ o.count then (0, 20)
  else if o.size = 5 then s.word o.seg (o.at_ + k)
  else ((s.word o.seg (o.at_ + k / 8)).1 / 2 ^ (k % 8 * 8).toNat % 256, (s.word o.seg (o.at_ + k / 8)).2)
structure Vl where
  kind : Int
  size : Int
  words : Int
  kids : Int
  word : Int
  deriving DecidableEq
def Vl0 : Vl := ⟨0, 0, 0, 0, 0⟩
def isS (o : Ob) : Vl := ⟨o.kind, o.size, if o.kind = 2 ∧ o.size ≠ 6 then o.count else o.data, if o.kind = 2 ∧ o.size = 6 then o.count else o.ptrs, 0⟩
def valS (s : Src) (o : Ob) (at_ : Int) : Vl × Int :=
  if at_ < 0 then (isS o, 0) else if (atS s o at_).2 ≠ 0 then (Vl0, (atS s o at_).2) else (⟨o.kind, 0, 0, 0, (atS s o at_).1⟩, 0)
/-- From something that is paid on: the steps, what is left to pay. -/
def nextS (s : Src) (at_ : Int) : List Int → Ob → Int → Vl × Int
  | [], o, _ => valS s o at_
  | k :: ks, o, left =>
    if (stepS s o k).2 ≠ 0 then (Vl0, (stepS s o k).2)
    else if left - (1 + wordsO (stepS s o k).1) < 0 then (Vl0, 22)
    else nextS s at_ ks (stepS s o k).1 (left - (1 + wordsO (stepS s o k).1))
def walkS (s : Src) (steps : List Int) (at_ cost : Int) : Vl × Int :=
  if ∃ k ∈ steps, k < 0 then (Vl0, 1)
  else if (steps.length : Int) > 32 then (Vl0, 3)
  else if (followS s 0 0).2 ≠ 0 then (Vl0, (followS s 0 0).2)
  else if max cost (-1) - (1 + wordsO (followS s 0 0).1) < 0 then (Vl0, 22)
  else nextS s at_ steps (followS s 0 0).1 (max cost (-1) - (1 + wordsO (followS s 0 0).1))
/-- What a pointer out of a word may be. -/
structure PtR (p : Pt) : Prop where
  kind : 0 ≤ p.kind ∧ p.kind ≤ 3
  off : -536870912 ≤ p.off ∧ p.off ≤ 536870911
  data : 0 ≤ p.data ∧ p.data ≤ 65535
  ptrs : 0 ≤ p.ptrs ∧ p.ptrs ≤ 65535
  size : 0 ≤ p.size ∧ p.size ≤ 7
  count : 0 ≤ p.count ∧ p.count ≤ 536870911
  seg : 0 ≤ p.seg ∧ p.seg ≤ 4294967295
  far : p.kind = 3 → 0 ≤ p.off
theorem sgn30_range (n : Int) (h0 : 0 ≤ n) (h1 : n < 1073741824) : -536870912 ≤ sgn30 n ∧ sgn30 n ≤ 536870911 := by unfold sgn30; split <;> omega
theorem decP_range (x : Int) (h0 : 0 ≤ x) (h1 : x ≤ 18446744073709551615) : PtR (decP x) := by
  have hs := sgn30_range (x / 4 % 1073741824) (by omega) (by omega)
  unfold decP
  repeat' split
  all_goals first
    | (constructor <;> (simp [Pt0]; done))
    | (constructor <;> simp only [] <;> omega)
theorem Pt0_range : PtR Pt0 := by constructor <;> simp [Pt0]
theorem PtR.of {p : Pt} (h : PtR p) : PtR ⟨p.kind, 0, p.data, p.ptrs, p.size, p.count, 0, false⟩ := ⟨h.kind, by simp, h.data, h.ptrs, h.size, h.count, by simp, fun _ => by simp⟩
theorem wordsN_range {p : Pt} (h : PtR p) : 0 ≤ wordsN p ∧ wordsN p ≤ 536870912 := by
  have h1 := h.data
  have h2 := h.ptrs
  have h3 := h.count
  unfold wordsN
  rw [wrap_in (by simp only [inR]; omega : inR .i64 (p.data + p.ptrs)), wrap_in (by simp only [inR]; omega : inR .i64 (p.count + 8)), wrap_in (by simp only [inR]; omega : inR .i64 (p.count + 8 - 1)), Int.tdiv_eq_ediv_of_nonneg (by omega), wrap_in (by simp only [inR]; omega : inR .i64 ((p.count + 8 - 1) / 8))]
  repeat' split
  all_goals omega
theorem getD_mem {L : List Int} {j : Nat} (h : j < L.length) : L.getD j 0 ∈ L := by rw [getD_at h]; exact List.getElem_mem h
/-- What may be found. -/
structure ObR (o : Ob) : Prop where
  kind : 0 ≤ o.kind ∧ o.kind ≤ 2
  seg : 0 ≤ o.seg ∧ o.seg ≤ 1000000
  at_ : 0 ≤ o.at_ ∧ o.at_ ≤ 140737488355328
  data : 0 ≤ o.data ∧ o.data ≤ 65535
  ptrs : 0 ≤ o.ptrs ∧ o.ptrs ≤ 65535
  size : 0 ≤ o.size ∧ o.size ≤ 7
  count : 0 ≤ o.count ∧ o.count ≤ 536870911
theorem Ob0_range : ObR Ob0 := by constructor <;> simp [Ob0]
theorem wordsO_range {o : Ob} (h : ObR o) : 0 ≤ wordsO o ∧ wordsO o ≤ 536870912 := by
  have hp : PtR o.pt := ⟨⟨h.kind.1, by have := h.kind.2; show o.kind ≤ 3; omega⟩, by simp [Ob.pt], h.data, h.ptrs, h.size, h.count, by simp [Ob.pt], fun _ => by simp [Ob.pt]⟩
  have := wordsN_range hp
  unfold wordsO
  split
  · omega
  · exact this
/-- A byte of a word. -/
theorem shr_byte (x m : Int) (h0 : 0 ≤ x) (h1 : x ≤ 18446744073709551615) (m0 : 0 ≤ m) (m1 : m ≤ 56) : bitop .and .u64 (x / 2 ^ min m.toNat 64) 255 = x / 2 ^ m.toNat % 256 := by
  have h := getF_eq m.toNat 8 (by omega) (by decide) x h0 h1
  rw [← show (2 : Int) ^ 8 = 256 from rfl, ← h, getF]
  rw [show ((m.toNat : Nat) : Int).toNat = m.toNat from by omega]
  rfl
/-- A source of words in memory. -/
structure SrcOk (P : Program) (w : World) (v : Value) (s : Src) : Prop where
  word : ∃ t u f, v = .iface t u ∧ MethI P t "Word" f ∧ ∀ w', Grow w w' → ∀ seg at_ : Int, Gives P f #[u, .int .i64 seg, .int .i64 at_] w' (.tuple #[.int .u64 (s.word seg at_).1, .int .u16 (s.word seg at_).2])
  sizes : ∃ t u f, v = .iface t u ∧ MethI P t "Sizes" f ∧ ∀ w', Grow w w' → Calls P f #[u] w' (Ret fun r w2 => ∃ ad c, r = .slice ad s.sizes.length c ∧ RowAt w2 1 ad s.sizes.length (s.sizes.map (.int .i64)) ∧ Grow w' w2)
  num : ∀ seg at_ : Int, 0 ≤ (s.word seg at_).1 ∧ (s.word seg at_).1 ≤ 18446744073709551615 ∧ 0 ≤ (s.word seg at_).2 ∧ (s.word seg at_).2 ≤ 65535
  ok : ∀ seg at_ : Int, (s.word seg at_).2 = 0 → 0 ≤ seg ∧ seg < s.sizes.length ∧ 0 ≤ at_ ∧ at_ ≤ 140737488355328
  len : s.sizes.length ≤ 1000000
  each : ∀ i, i < s.sizes.length → 0 ≤ s.sizes.getD i 0 ∧ s.sizes.getD i 0 ≤ 140737488355328
theorem SrcOk.grow {P : Program} {w w' : World} {v : Value} {s : Src} (h : SrcOk P w v s) (g : Grow w w') : SrcOk P w' v s := by
  obtain ⟨⟨t, u, f, h1, h2, h3⟩, ⟨t', u', f', h4, h5, h6⟩, h7, h8, h9, h10⟩ := h
  exact ⟨⟨t, u, f, h1, h2, fun w2 g2 => h3 w2 (g.tr g2)⟩, ⟨t', u', f', h4, h5, fun w2 g2 => h6 w2 (g.tr g2)⟩, h7, h8, h9, h10⟩
theorem ptrS_range {P : Program} {w : World} {v : Value} {s : Src} (H : SrcOk P w v s) (seg at_ : Int) : PtR (ptrS s seg at_).1 := by
  obtain ⟨h1, h2, -, -⟩ := H.num seg at_
  unfold ptrS
  split
  · exact Pt0_range
  · exact decP_range _ h1 h2
theorem ptrS_at {P : Program} {w : World} {v : Value} {s : Src} (H : SrcOk P w v s) {seg at_ : Int} (h : (ptrS s seg at_).2 = 0) : 0 ≤ seg ∧ seg < s.sizes.length ∧ 0 ≤ at_ ∧ at_ ≤ 140737488355328 := by
  refine H.ok seg at_ ?_
  by_cases h0 : (s.word seg at_).2 = 0
  · exact h0
  · unfold ptrS at h; rw [if_pos h0] at h; exact absurd h h0
theorem foundS_range {P : Program} {w : World} {v : Value} {s : Src} (H : SrcOk P w v s) {p : Pt} (hp : PtR p) (hn : nearP p = true) (seg at_ : Int) : ObR (foundS s p seg at_).1 := by
  unfold foundS
  split
  · exact Ob0_range
  · split
    · exact Ob0_range
    · rename_i h1 h2
      simp only [Bool.not_eq_false] at h2
      unfold withinP addOk at h2
      simp only [Bool.and_eq_true, decide_eq_true_eq] at h2
      obtain ⟨⟨h3, h4⟩, h5, h6, h7, h8⟩ := h2
      have h9 := H.each seg.toNat (by omega)
      have h10 := H.len
      have hk : p.kind = 1 ∨ p.kind = 2 := by simpa [nearP] using hn
      exact ⟨by show 0 ≤ p.kind ∧ p.kind ≤ 2; omega, by show 0 ≤ seg ∧ seg ≤ _; omega, by show 0 ≤ at_ ∧ at_ ≤ _; omega, hp.data, hp.ptrs, hp.size, hp.count⟩
theorem followS_range {P : Program} {w : World} {v : Value} {s : Src} (H : SrcOk P w v s) (seg at_ : Int) : ObR (followS s seg at_).1 := by
  unfold followS
  split
  · exact Ob0_range
  · split
    · rename_i h; exact foundS_range H (ptrS_range H seg at_) h _ _
    · split
      · unfold twiceS
        split
        · exact Ob0_range
        · split
          · exact Ob0_range
          · split
            · exact Ob0_range
            · split
              · exact Ob0_range
              · split
                · exact Ob0_range
                · rename_i h
                  obtain ⟨n1, n2, -, -⟩ := H.num (ptrS s seg at_).1.seg ((ptrS s seg at_).1.off + 1)
                  refine foundS_range H (decP_range _ n1 n2) ?_ _ _
                  cases hq : nearP (decP (s.word (ptrS s seg at_).1.seg ((ptrS s seg at_).1.off + 1)).1) with
                  | true => rfl
                  | false => exact absurd (.inr (.inr (.inl hq))) h
      · unfold landedS
        split
        · exact Ob0_range
        · split
          · exact Ob0_range
          · rename_i h
            exact foundS_range H (ptrS_range H _ _) (by simpa using h) _ _
theorem stepS_range {P : Program} {w : World} {v : Value} {s : Src} (H : SrcOk P w v s) {o : Ob} (ho : ObR o) (k : Int) : ObR (stepS s o k).1 := by
  unfold stepS
  repeat' split
  all_goals first
    | exact Ob0_range
    | exact ho
    | exact followS_range H _ _
/-- An arena that may be read. -/
structure OkA (A : List (List Int)) : Prop where
  one : 1 ≤ A.length
  most : A.length ≤ 16
  first : 1 ≤ (A.getD 0 []).length
  all : totalP A ≤ 4096
  num : ∀ q ∈ A, ∀ x ∈ q, inR .u64 x
theorem seg_le_total : ∀ (A : List (List Int)) (j : Nat), (len2 A j : Int) ≤ totalP A
  | [], j => by simp [len2, totalP]
  | q :: A, 0 => by have := totalP_nn A; simp only [len2, totalP, List.getD_cons_zero]; omega
  | q :: A, j + 1 => by have := seg_le_total A j; simp only [len2, totalP, List.getD_cons_succ] at this ⊢; omega
theorem wordA_num {A : List (List Int)} (h : ∀ q ∈ A, ∀ x ∈ q, inR .u64 x) (seg a : Int) : 0 ≤ (wordA A seg a).1 ∧ (wordA A seg a).1 ≤ 18446744073709551615 ∧ 0 ≤ (wordA A seg a).2 ∧ (wordA A seg a).2 ≤ 65535 := by
  unfold wordA
  split
  · rename_i hc
    obtain ⟨h1, h2, h3, h4⟩ := hc
    have hs : seg.toNat < A.length := by omega
    have ha : a.toNat < (A.getD seg.toNat []).length := by simp only [len2] at h4; omega
    have hq := h (A.getD seg.toNat []) (by rw [getD_at hs]; exact List.getElem_mem hs) _ (getD_mem ha)
    simp only [inR] at hq
    exact ⟨hq.1, hq.2, by show (0 : Int) ≤ 0; decide, by show (0 : Int) ≤ 65535; decide⟩
  · exact ⟨by decide, by decide, by decide, by decide⟩
theorem whole_src {P : Program} {w : World} {u : Value} {A : List (List Int)} {t : TypeId} {fw fs : FuncId} (hr : OkA A) (mw : MethI P t "Word" fw) (ms : MethI P t "Sizes" fs)
    (hw : ∀ w', Grow w w' → ∀ seg a : Int, Gives P fw #[.agg #[u], .int .i64 seg, .int .i64 a] w' (.tuple #[.int .u64 (wordA A seg a).1, .int .u16 (wordA A seg a).2]))
    (hs : ∀ w', Grow w w' → Calls P fs #[.agg #[u]] w' (Ret fun r w2 => ∃ ad c, r = .slice ad A.length c ∧ RowAt w2 1 ad A.length (A.map fun s => .int .i64 (s.length : Int)) ∧ Grow w' w2)) : SrcOk P w (.iface t (.agg #[u])) (wholeS A) := by
  have hl : (wholeS A).sizes.length = A.length := by simp [wholeS]
  have hm : (wholeS A).sizes.map (Value.int .i64) = A.map fun s => .int .i64 (s.length : Int) := by simp [wholeS, Function.comp_def]
  have h16 := hr.most
  have hall := hr.all
  have hat : ∀ i, i < A.length → (wholeS A).sizes.getD i 0 = (len2 A i : Int) := fun i hi => by
    rw [getD_at (by rw [hl]; exact hi)]
    simp only [wholeS, List.getElem_map, len2]
    rw [getD_at hi]
  refine ⟨⟨t, _, fw, rfl, mw, hw⟩, ⟨t, _, fs, rfl, ms, ?_⟩, wordA_num hr.num, ?_, by rw [hl]; omega, ?_⟩
  · rw [hl, hm]; exact hs
  · intro seg a h
    simp only [wholeS, wordA] at h
    split at h
    · rename_i hc
      have := seg_le_total A seg.toNat
      rw [hl]
      omega
    · simp at h
  · intro i hi
    rw [hl] at hi
    rw [hat i hi]
    have := seg_le_total A i
    omega
section
variable {P : Program} {ops : Array Oper} {e : Env} {w w0 : World} {K : Value → World → Prop} {d : Option Nat} {ty : TypeId} {pos : String} {af : Array Edge} {g : Option (Nat × Bool)} {x y z : Operand}
theorem r_srcWord {v : Value} {s : Src} {at_ : Array TypeId} {seg a : Int} (H : SrcOk P w0 v s) (G : Grow w0 w) (hx : ev e x = v) (hy : ev e y = .int .i64 seg) (hz : ev e z = .int .i64 a)
    (h : ∀ w', Grow w w' → K (.tuple #[.int .u64 (s.word seg a).1, .int .u16 (s.word seg a).2]) w') : Run1 P ⟨d, .call ⟨.invoke x "Word", #[y, z], at_⟩, ty, pos, af, g⟩ e w K := by
  obtain ⟨t, u, f, rfl, hm, hc⟩ := H.word
  refine r_invoke (F := fun r w' => r = .tuple #[.int .u64 (s.word seg a).1, .int .u16 (s.word seg a).2] ∧ Grow w w') hm hx ?_ (fun r w' ⟨hr, hg⟩ => by subst hr; exact h w' hg)
  have h0 := hc w G seg a
  unfold Gives at h0
  rw [show ((u :: (#[y, z] : Array Operand).toList.map (ev e)).toArray) = #[u, .int .i64 seg, .int .i64 a] from by simp [hy, hz]]
  exact h0
theorem r_srcSizes {v : Value} {s : Src} {at_ : Array TypeId} (H : SrcOk P w0 v s) (G : Grow w0 w) (hx : ev e x = v)
    (h : ∀ ad c w', Grow w w' → RowAt w' 1 ad s.sizes.length (s.sizes.map (.int .i64)) → K (.slice ad s.sizes.length c) w') : Run1 P ⟨d, .call ⟨.invoke x "Sizes", #[], at_⟩, ty, pos, af, g⟩ e w K := by
  obtain ⟨t, u, f, rfl, hm, hc⟩ := H.sizes
  refine r_invoke (F := fun r w2 => ∃ ad c, r = .slice ad s.sizes.length c ∧ RowAt w2 1 ad s.sizes.length (s.sizes.map (.int .i64)) ∧ Grow w w2) hm hx ?_ (fun r w' ⟨ad, c, hr, hR, hg⟩ => by subst hr; exact h ad c w' hg hR)
  rw [show ((u :: (#[] : Array Operand).toList.map (ev e)).toArray) = #[u] from rfl]
  exact hc w G
end
end Go.Proofs.Ytfhfecepcnapfaa.K
