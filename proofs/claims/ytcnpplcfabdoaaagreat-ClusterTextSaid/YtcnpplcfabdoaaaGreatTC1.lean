/-
  ClusterText's closed parts: what is run.
-/
import Derived.Test.YtcnpplcfabdoaaaGreatTabC
import Derived.KernelRfl
namespace Go.Proofs.YtcnpplcfabdoaaaGreat
open Go.Eng
set_option maxRecDepth 100000

def textC : C := (.str 204 7631943617275176326598627511136534650622588754159433694638884210676821632207236102518032257260050775290127951778483909622980138738135588393556085044343456542711504216361510131156224341752927050283016026426351523792918312997847990343279184755759231405559644628180175631107809933213919496981501395817485390671173311729286394724155517791857809760649676421149834144875206971771401467816869484589927607706814626851521946722793009338147511500042277568736164961819296584625613609588402839285101168)
def progC : C := (.tup [(.agg [(.str 7 32199698172701795), (.fz 2 6 false [] [[(.str 1 109), (.int .i64 2), (.int .i64 0), (.int .i64 0), (.int .i64 0), (.int .i64 0)], [(.str 1 104), (.int .i64 3), (.int .i64 0), (.int .i64 0), (.int .i64 0), (.int .i64 0)]]), (.fz 3 3 false [] [[(.str 5 435777791340), (.fz 4 2 false [] [[(.int .i64 41), (.int .i64 0)], [(.int .i64 5), (.int .i64 0)], [(.int .i64 21), (.int .i64 0)], [(.int .i64 12), (.int .i64 0)]]), (.fz 1 2 false [] [[(.int .i64 0), (.fz 1 2 false [] [[(.int .i64 3), (.int .i64 0)]])]])], [(.str 5 491328400997), (.fz 6 2 false [] [[(.int .i64 41), (.int .i64 0)], [(.int .i64 19), (.int .i64 0)], [(.int .i64 5), (.int .i64 0)], [(.int .i64 19), (.int .i64 0)], [(.int .i64 21), (.int .i64 0)], [(.int .i64 12), (.int .i64 0)]]), (.fz 1 2 false [] [[(.int .i64 0), (.fz 1 2 false [] [[(.int .i64 2), (.int .i64 0)]])]])], [(.str 5 500068609904), (.fz 7 2 false [] [[(.int .i64 36), (.int .i64 0)], [(.int .i64 5), (.int .i64 1)], [(.int .i64 43), (.int .i64 0)], [(.int .i64 5), (.int .i64 0)], [(.int .i64 4), (.int .i64 0)], [(.int .i64 23), (.int .i64 0)], [(.int .i64 12), (.int .i64 0)]]), (.fz 1 2 false [] [[(.int .i64 1), (.fz 5 2 false [] [[(.int .i64 43), (.int .i64 0)], [(.int .i64 5), (.int .i64 0)], [(.int .i64 4), (.int .i64 0)], [(.int .i64 23), (.int .i64 0)], [(.int .i64 12), (.int .i64 0)]])]])]])]), (.int .i64 0), (.int .i64 0)])
def varsC : C := (.fz 2 6 false [] [[(.str 1 109), (.int .i64 2), (.int .i64 0), (.int .i64 0), (.int .i64 0), (.int .i64 0)], [(.str 1 104), (.int .i64 3), (.int .i64 0), (.int .i64 0), (.int .i64 0), (.int .i64 0)]])
theorem ev_text : evX tb 10000 100 15 [] = some textC := by kernel_rfl
theorem ev_rtext : evX tb 10000 100 18 [] = some textC := by kernel_rfl
theorem ev_vars : evX tb 10000 100 16 [] = some varsC := by kernel_rfl
theorem ev_known : evX tb 10000 100 17 [] = some (.bool true) := by kernel_rfl
theorem ev_parse : evX tb 10000 100 9 [textC] = some progC := by kernel_rfl
end Go.Proofs.YtcnpplcfabdoaaaGreat
