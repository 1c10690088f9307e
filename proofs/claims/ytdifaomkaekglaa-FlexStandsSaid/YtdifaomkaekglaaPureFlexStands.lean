/- FlexStands returns true for every list of numbers, every room and every word: the pure half over the printed functions; no condition. -/
import Derived.Test.YtdifaomkaekglaaPG
namespace Go.Proofs.Ytdifaomkaekglaa.Pure
open Go.RowKit Go.Proofs.Ytdifaomkaekglaa.HF Go.Proofs.YtdifaomkaekglaaW.PrintWords Go.Proofs.YtdifaomkaekglaaW.PrintLast
theorem FlexStands : scrimlaw18_FlexStands.Pure := fun l0 a1 a2 _ _ _ _ _ => Ev.rounds (FlexP.FlexStands_ev l0 a1 a2)
end Go.Proofs.Ytdifaomkaekglaa.Pure
