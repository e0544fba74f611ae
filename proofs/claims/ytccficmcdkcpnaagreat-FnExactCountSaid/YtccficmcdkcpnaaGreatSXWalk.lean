import Derived.Test.YtccficmcdkcpnaaGreatProg
import Derived.Test.YtccficmcdkcpnaaGreatSortC
import Derived.Shelf.Slices.In.SortNone
import Derived.Shelf.Slices.CompactI
import Derived.Sort.EveryDepth
set_option linter.all false
namespace Go.Proofs.YtccficmcdkcpnaaGreat
open Go Go.Abs RC Go.Shelf
def bp:Go.Shelf.Ren:=⟨λ|189=>142|125=>208|257=>207|128=>263|129=>264|294=>255|295=>256|296=>257|297=>258|298=>259|299=>260|216=>156|300=>261|301=>262|328=>276|329=>277|330=>278|331=>279|332=>280|215=>217|343=>291|n=>n,λ|28=>45|3=>3|46=>185|0=>0|51=>264|53=>266|4=>4|183=>258|182=>257|131=>137|5=>5|9=>9|218=>272|222=>162|228=>283|229=>284|n=>n,λ|n=>n⟩
theorem cc:Go.Proofs.Lays.n189 Tryz.prog bp:={
  mixed:=by kernel_rfl
  f125:=Tryz.func208.trans (vI some (by kernel_rfl))
  f128:=Tryz.func263.trans (vI some (by kernel_rfl))
  f129:=Tryz.func264.trans (vI some (by kernel_rfl))
  f189:=Tryz.func142.trans (vI some (by kernel_rfl))
  f215:=Tryz.func217.trans (vI some (by kernel_rfl))
  f216:=Tryz.func156.trans (vI some (by kernel_rfl))
  f257:=Tryz.func207.trans (vI some (by kernel_rfl))
  f294:=Tryz.func255.trans (vI some (by kernel_rfl))
  f295:=Tryz.func256.trans (vI some (by kernel_rfl))
  f296:=Tryz.func257.trans (vI some (by kernel_rfl))
  f297:=Tryz.func258.trans (vI some (by kernel_rfl))
  f298:=Tryz.func259.trans (vI some (by kernel_rfl))
  f299:=Tryz.func260.trans (vI some (by kernel_rfl))
  f300:=Tryz.func261.trans (vI some (by kernel_rfl))
  f301:=Tryz.func262.trans (vI some (by kernel_rfl))
  f328:=Tryz.func276.trans (vI some (by kernel_rfl))
  f329:=Tryz.func277.trans (vI some (by kernel_rfl))
  f330:=Tryz.func278.trans (vI some (by kernel_rfl))
  f331:=Tryz.func279.trans (vI some (by kernel_rfl))
  f332:=Tryz.func280.trans (vI some (by kernel_rfl))
  f343:=Tryz.func291.trans (vI some (by kernel_rfl))
  t0:=Tryz.underlying0
  a0:=Tryz.isAgg0
  z0:=Tryz.sizeOf0
  v0:=Tryz.zeroValue0
  t3:=Tryz.underlying3
  a3:=Tryz.isAgg3
  z3:=Tryz.sizeOf3
  v3:=Tryz.zeroValue3
  t4:=Tryz.underlying4
  a4:=Tryz.isAgg4
  z4:=Tryz.sizeOf4
  v4:=Tryz.zeroValue4
  t5:=Tryz.underlying5
  a5:=Tryz.isAgg5
  z5:=Tryz.sizeOf5
  v5:=Tryz.zeroValue5
  t9:=Tryz.underlying9
  a9:=Tryz.isAgg9
  z9:=Tryz.sizeOf9
  v9:=Tryz.zeroValue9
  t28:=Tryz.underlying45
  a28:=Tryz.isAgg45
  z28:=Tryz.sizeOf45
  v28:=Tryz.zeroValue45
  t46:=Tryz.underlying185
  a46:=Tryz.isAgg185
  z46:=Tryz.sizeOf185
  v46:=Tryz.zeroValue185
  t51:=Tryz.underlying264
  a51:=Tryz.isAgg264
  z51:=Tryz.sizeOf264
  v51:=Tryz.zeroValue264
  t53:=Tryz.underlying266
  a53:=Tryz.isAgg266
  z53:=Tryz.sizeOf266
  v53:=Tryz.zeroValue266
  t131:=Tryz.underlying137
  a131:=Tryz.isAgg137
  z131:=Tryz.sizeOf137
  v131:=Tryz.zeroValue137
  t182:=Tryz.underlying257
  a182:=Tryz.isAgg257
  z182:=Tryz.sizeOf257
  v182:=Tryz.zeroValue257
  t183:=Tryz.underlying258
  a183:=Tryz.isAgg258
  z183:=Tryz.sizeOf258
  v183:=Tryz.zeroValue258
  t218:=Tryz.underlying272
  a218:=Tryz.isAgg272
  z218:=Tryz.sizeOf272
  v218:=Tryz.zeroValue272
  t222:=Tryz.underlying162
  a222:=Tryz.isAgg162
  z222:=Tryz.sizeOf162
  v222:=Tryz.zeroValue162
  t228:=Tryz.underlying283
  a228:=Tryz.isAgg283
  z228:=Tryz.sizeOf283
  v228:=Tryz.zeroValue283
  t229:=Tryz.underlying284
  a229:=Tryz.isAgg284
  z229:=Tryz.sizeOf284
  v229:=Tryz.zeroValue284 }
def W8:Go.Shelf.Ren:=⟨λ|20=>143|n=>n,λ|22=>45|3=>3|4=>4|0=>0|n=>n,λ|n=>n⟩
theorem Wa:Go.Proofs.Lays2.n20 Tryz.prog W8:={
  mixed:=by kernel_rfl
  f20:=Tryz.func143.trans (vI some (by kernel_rfl))
  t0:=Tryz.underlying0
  a0:=Tryz.isAgg0
  z0:=Tryz.sizeOf0
  v0:=Tryz.zeroValue0
  t3:=Tryz.underlying3
  a3:=Tryz.isAgg3
  z3:=Tryz.sizeOf3
  v3:=Tryz.zeroValue3
  t4:=Tryz.underlying4
  a4:=Tryz.isAgg4
  z4:=Tryz.sizeOf4
  v4:=Tryz.zeroValue4
  t22:=Tryz.underlying45
  a22:=Tryz.isAgg45
  z22:=Tryz.sizeOf45
  v22:=Tryz.zeroValue45
  i3:=by kernel_rfl }
theorem YB {s0 r:List Int}(h:I8 s0=some r):BW Tryz.prog 142 [.own 0 0 (List.length s0)] [⟨0,3,1,List.map eI s0⟩] (λv st=>v=.CW []/\st=[⟨0,3,1,List.map eI r⟩]):=by
  unfold I8 at h;split at h
  · rename_i hl;cases h;exact qo hl (λb c zs w h1 h2 h3=>calls_of_every_depth λD=>AnyS.slices_Sort_int_in cc D b 0 c zs w h1 h2 h3) (λa c w=>Any.slices_Sort_int_none cc a c w)
  · cases h
theorem VO {s0 r:List Int}(h:Mc s0=some r):BW Tryz.prog 143 [.own 0 0 (List.length s0)] [⟨0,3,1,List.map eI s0⟩] (λv st=>v=.own 0 1 (List.length r)/\st=[⟨1,3,1,List.map eI r⟩]):=by
  cases h;exact gy (λb c zs w h1 h2 h3=>Any.slices_Compact_int Wa b 0 c zs w h1 h2 h3) (λa c w=>Any.slices_Compact_int_empty Wa a c w)
end Go.Proofs.YtccficmcdkcpnaaGreat
