/- The plain semantics of the program, and what it computes. -/
import Derived.Test.YtaimmacnafoanaaGreatDoorQ05
set_option linter.unusedVariables false
set_option linter.unusedSimpArgs false
set_option maxRecDepth 100000
namespace Go.Proofs.YtaimmacnafoanaaGreatDoor.F
section
open Go.Proofs.Tryz
open Go Go.RowKit Go.Proofs
theorem ck4:aV 4 f4=true:=by kernel_rfl
theorem ck7:aV 7 f7=true:=by kernel_rfl
theorem aTv:aV 74 f74=true:=by kernel_rfl
theorem aQd:aV 118 f118=true:=by kernel_rfl
theorem aPz:aV 130 f130=true:=by kernel_rfl
theorem aPs:aV 167 f167=true:=by kernel_rfl
theorem aPq:aV 170 f170=true:=by kernel_rfl
theorem aPb:aV 196 f196=true:=by kernel_rfl
theorem aPa:aV 197 f197=true:=by kernel_rfl
theorem aOz:aV 200 f200=true:=by kernel_rfl
theorem aOs:aV 221 f221=true:=by kernel_rfl
theorem aOq:aV 236 f236=true:=by kernel_rfl
theorem aOo:aV 238 f238=true:=by kernel_rfl
theorem aOj:aV 246 f246=true:=by kernel_rfl
theorem aOg:aV 257 f257=true:=by kernel_rfl
theorem aOf:aV 263 f263=true:=by kernel_rfl
theorem aNw:aV 298 f298=true:=by kernel_rfl
theorem aNu:aV 307 f307=true:=by kernel_rfl
theorem aNs:aV 311 f311=true:=by kernel_rfl
theorem aNp:aV 315 f315=true:=by kernel_rfl
theorem aNn:aV 317 f317=true:=by kernel_rfl
theorem aNm:aV 318 f318=true:=by kernel_rfl
theorem aNk:aV 328 f328=true:=by kernel_rfl
theorem aNh:aV 341 f341=true:=by kernel_rfl
theorem aMx:aV 372 f372=true:=by kernel_rfl
end
end Go.Proofs.YtaimmacnafoanaaGreatDoor.F
