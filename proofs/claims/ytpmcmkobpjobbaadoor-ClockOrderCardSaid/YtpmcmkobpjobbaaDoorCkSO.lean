/- The document's order in the printer's form. -/
import Derived.Test.YtpmcmkobpjobbaaDoorCkRefC
import Derived.Test.YtpmcmkobpjobbaaDoorCkS2
namespace Go.Proofs.YtpmcmkobpjobbaaDoor.Stub
open Go.RowKit Cv
open Hand (Glob)
def longcaseref03_Compare.f (y m d H M S y' m' d' H' M' S' : Int) : Option Int := some (cmpL [y, m, d, H, M, S] [y', m', d', H', M', S'])
theorem longcaseref03_Compare.calls (y m d H M S y' m' d' H' M' S' : Int) (r : Int) (w : World) (h : longcaseref03_Compare.f y m d H M S y' m' d' H' M' S' = some r) : Glob w →
    Calls Tryd.prog 21 #[.agg #[.int .i64 y, .int .i64 m, .int .i64 d, .int .i64 H, .int .i64 M, .int .i64 S], .agg #[.int .i64 y', .int .i64 m', .int .i64 d', .int .i64 H', .int .i64 M', .int .i64 S']] w fun e w' => e = .returned (.int .i64 r) ∧ Below w.heap.size w w' :=
  PPC.longcaseref03_Compare.calls 7 y m d H M S y' m' d' H' M' S' r w ((rcmp_f 0 y m d H M S y' m' d' H' M' S').trans h)
theorem rcmp_is (y m d H M S y' m' d' H' M' S' : Int) : Stub.longcaseref03_Compare.f y m d H M S y' m' d' H' M' S' = some (cmpL [y, m, d, H, M, S] [y', m', d', H', M', S']) := rfl
end Go.Proofs.YtpmcmkobpjobbaaDoor.Stub
