/- The shelf's contracts of library calls, at this program: which of its numbers are which of ours. No condition. -/
import Derived.Test.YtckindfllegbgaaGreatE
import Derived.Test.YtckindfllegbgaaGreatK15
import Derived.Shelf.SlMaps.Clone
import Derived.Ground.SlmcProg
import Derived.Shelf.SlIter.Nil
import Derived.Ground.GgzProg
import Derived.Ground.SlgmProg
import Derived.Shelf.SortM.Plain
import Derived.Shelf.SortM.SortNone
namespace Go.Proofs.YtckindfllegbgaaGreat
namespace Fw
open Go.Shelf Go.RowKit Go.Maps Go.Sort
def clone49_ren:Go.Shelf.Ren:=⟨fun | 5=>49 | 7=>79 | n=>n,fun | 23=>64 | 25=>9 | 3=>77 | 4=>4 | 20=>20 | n=>n,fun | n=>n⟩
theorem clone49:Go.Proofs.SlLaysW.n5 Tryz.prog clone49_ren:={
  mixed:=by kernel_rfl
  f5:=⟨Tryz.f49.name,by decide,Tryz.func49.trans (congrArg some (by kernel_rfl))⟩
  f7:=Tryz.func79.trans (congrArg some (by kernel_rfl))
  t4:=Tryz.underlying4
  a4:=Tryz.isAgg4
  z4:=Tryz.sizeOf4
  v4:=Tryz.zeroValue4
  t20:=Tryz.underlying20
  a20:=Tryz.isAgg20
  z20:=Tryz.sizeOf20
  v20:=Tryz.zeroValue20
  t23:=Tryz.underlying64
  a23:=Tryz.isAgg64
  z23:=Tryz.sizeOf64
  v23:=Tryz.zeroValue64 }
def keys114_ren:Go.Shelf.Ren:=⟨fun | 7=>114 | 10=>151 | n=>n,fun | 23=>63 | 26=>9 | 3=>77 | 28=>173 | 0=>0 | 27=>172 | 33=>220 | 4=>4 | n=>n,fun | n=>n⟩
theorem keys114:Go.Proofs.SlLaysZ.n7 Tryz.prog keys114_ren:={
  mixed:=by kernel_rfl
  f7:=⟨Tryz.f114.name,by decide,Tryz.func114.trans (congrArg some (by kernel_rfl))⟩
  f10:=⟨Tryz.f151.name,by decide,Tryz.func151.trans (congrArg some (by kernel_rfl))⟩
  t0:=Tryz.underlying0
  a0:=Tryz.isAgg0
  z0:=Tryz.sizeOf0
  v0:=Tryz.zeroValue0
  t4:=Tryz.underlying4
  a4:=Tryz.isAgg4
  z4:=Tryz.sizeOf4
  v4:=Tryz.zeroValue4
  t23:=Tryz.underlying63
  a23:=Tryz.isAgg63
  z23:=Tryz.sizeOf63
  v23:=Tryz.zeroValue63
  t26:=Tryz.underlying9
  a26:=Tryz.isAgg9
  z26:=Tryz.sizeOf9
  v26:=Tryz.zeroValue9
  t27:=Tryz.underlying172
  a27:=Tryz.isAgg172
  z27:=Tryz.sizeOf172
  v27:=Tryz.zeroValue172
  t28:=Tryz.underlying173
  a28:=Tryz.isAgg173
  z28:=Tryz.sizeOf173
  v28:=Tryz.zeroValue173
  t33:=Tryz.underlying220
  a33:=Tryz.isAgg220
  z33:=Tryz.sizeOf220
  v33:=Tryz.zeroValue220 }
def keys192_ren:Go.Shelf.Ren:=⟨fun | 7=>192 | 10=>217 | n=>n,fun | 23=>64 | 26=>9 | 3=>77 | 28=>173 | 0=>0 | 27=>172 | 33=>220 | 4=>4 | n=>n,fun | n=>n⟩
theorem keys192:Go.Proofs.SlLaysZ.n7 Tryz.prog keys192_ren:={
  mixed:=by kernel_rfl
  f7:=⟨Tryz.f192.name,by decide,Tryz.func192.trans (congrArg some (by kernel_rfl))⟩
  f10:=⟨Tryz.f217.name,by decide,Tryz.func217.trans (congrArg some (by kernel_rfl))⟩
  t0:=Tryz.underlying0
  a0:=Tryz.isAgg0
  z0:=Tryz.sizeOf0
  v0:=Tryz.zeroValue0
  t4:=Tryz.underlying4
  a4:=Tryz.isAgg4
  z4:=Tryz.sizeOf4
  v4:=Tryz.zeroValue4
  t23:=Tryz.underlying64
  a23:=Tryz.isAgg64
  z23:=Tryz.sizeOf64
  v23:=Tryz.zeroValue64
  t26:=Tryz.underlying9
  a26:=Tryz.isAgg9
  z26:=Tryz.sizeOf9
  v26:=Tryz.zeroValue9
  t27:=Tryz.underlying172
  a27:=Tryz.isAgg172
  z27:=Tryz.sizeOf172
  v27:=Tryz.zeroValue172
  t28:=Tryz.underlying173
  a28:=Tryz.isAgg173
  z28:=Tryz.sizeOf173
  v28:=Tryz.zeroValue173
  t33:=Tryz.underlying220
  a33:=Tryz.isAgg220
  z33:=Tryz.sizeOf220
  v33:=Tryz.zeroValue220 }
def sorted108_ren:Go.Shelf.Ren:=⟨fun | 6=>108 | 8=>144 | 9=>145 | 11=>181 | 13=>183 | 12=>182 | 23=>213 | 24=>214 | 14=>204 | 15=>205 | 16=>206 | 17=>207 | 18=>208 | 19=>209 | 20=>210 | 21=>211 | 22=>212 | 25=>223 | 26=>224 | 27=>225 | 28=>226 | 29=>227 | 30=>228 | 31=>233 | n=>n,fun | 26=>9 | 28=>173 | 24=>133 | 0=>0 | 3=>3 | 37=>58 | 48=>242 | 50=>82 | 4=>4 | 40=>282 | 39=>281 | 45=>286 | 5=>5 | 9=>9 | 51=>296 | 55=>300 | 57=>305 | 58=>306 | 33=>220 | n=>n,fun | n=>n⟩
theorem sorted108:Go.Proofs.SlLaysZ.n6 Tryz.prog sorted108_ren:={
  mixed:=by kernel_rfl
  f6:=⟨Tryz.f108.name,by decide,Tryz.func108.trans (congrArg some (by kernel_rfl))⟩
  f8:=⟨Tryz.f144.name,by decide,Tryz.func144.trans (congrArg some (by kernel_rfl))⟩
  f11:=⟨Tryz.f181.name,by decide,Tryz.func181.trans (congrArg some (by kernel_rfl))⟩
  t0:=Tryz.underlying0
  a0:=Tryz.isAgg0
  z0:=Tryz.sizeOf0
  v0:=Tryz.zeroValue0
  t24:=Tryz.underlying133
  a24:=Tryz.isAgg133
  z24:=Tryz.sizeOf133
  v24:=Tryz.zeroValue133
  t26:=Tryz.underlying9
  a26:=Tryz.isAgg9
  z26:=Tryz.sizeOf9
  v26:=Tryz.zeroValue9
  t28:=Tryz.underlying173
  a28:=Tryz.isAgg173
  z28:=Tryz.sizeOf173
  v28:=Tryz.zeroValue173
  i26:=by kernel_rfl }
def srt145_ren:Go.Shelf.Ren:=⟨fun | 6=>145 | 8=>183 | 9=>182 | 19=>213 | 20=>214 | 21=>204 | 22=>205 | 23=>206 | 24=>207 | 25=>208 | 26=>209 | 27=>210 | 28=>211 | 29=>212 | 36=>223 | 31=>224 | 32=>225 | 37=>226 | 38=>227 | 39=>228 | 41=>233 | n=>n,fun | 27=>133 | 29=>9 | 3=>3 | 32=>58 | 26=>133 | 0=>0 | 44=>242 | 46=>82 | 4=>4 | 36=>282 | 35=>281 | 41=>286 | 5=>5 | 9=>9 | 53=>296 | 57=>300 | 63=>305 | 64=>306 | n=>n,fun | n=>n⟩
theorem srt145:Go.Proofs.SlLaysM.n6 Tryz.prog srt145_ren:={
  mixed:=by kernel_rfl
  f6:=⟨Tryz.f145.name,by decide,Tryz.func145.trans (congrArg some (by kernel_rfl))⟩
  f8:=Tryz.func183.trans (congrArg some (by kernel_rfl))
  f9:=⟨Tryz.f182.name,by decide,Tryz.func182.trans (congrArg some (by kernel_rfl))⟩
  f19:=Tryz.func213.trans (congrArg some (by kernel_rfl))
  f20:=Tryz.func214.trans (congrArg some (by kernel_rfl))
  f21:=⟨Tryz.f204.name,by decide,Tryz.func204.trans (congrArg some (by kernel_rfl))⟩
  f22:=⟨Tryz.f205.name,by decide,Tryz.func205.trans (congrArg some (by kernel_rfl))⟩
  f23:=⟨Tryz.f206.name,by decide,Tryz.func206.trans (congrArg some (by kernel_rfl))⟩
  f24:=⟨Tryz.f207.name,by decide,Tryz.func207.trans (congrArg some (by kernel_rfl))⟩
  f25:=⟨Tryz.f208.name,by decide,Tryz.func208.trans (congrArg some (by kernel_rfl))⟩
  f26:=⟨Tryz.f209.name,by decide,Tryz.func209.trans (congrArg some (by kernel_rfl))⟩
  f27:=⟨Tryz.f210.name,by decide,Tryz.func210.trans (congrArg some (by kernel_rfl))⟩
  f28:=⟨Tryz.f211.name,by decide,Tryz.func211.trans (congrArg some (by kernel_rfl))⟩
  f29:=⟨Tryz.f212.name,by decide,Tryz.func212.trans (congrArg some (by kernel_rfl))⟩
  f31:=Tryz.func224.trans (congrArg some (by kernel_rfl))
  f32:=Tryz.func225.trans (congrArg some (by kernel_rfl))
  f36:=⟨Tryz.f223.name,by decide,Tryz.func223.trans (congrArg some (by kernel_rfl))⟩
  f37:=⟨Tryz.f226.name,by decide,Tryz.func226.trans (congrArg some (by kernel_rfl))⟩
  f38:=⟨Tryz.f227.name,by decide,Tryz.func227.trans (congrArg some (by kernel_rfl))⟩
  f39:=⟨Tryz.f228.name,by decide,Tryz.func228.trans (congrArg some (by kernel_rfl))⟩
  f41:=⟨Tryz.f233.name,by decide,Tryz.func233.trans (congrArg some (by kernel_rfl))⟩
  t0:=Tryz.underlying0
  a0:=Tryz.isAgg0
  z0:=Tryz.sizeOf0
  v0:=Tryz.zeroValue0
  t3:=Tryz.underlying3
  a3:=Tryz.isAgg3
  z3:=Tryz.sizeOf3
  v3:=Tryz.zeroValue3
  t4:=Tryz.underlying4
  a4:=Tryz.isAgg4
  z4:=Tryz.sizeOf4
  v4:=Tryz.zeroValue4
  t5:=Tryz.underlying5
  a5:=Tryz.isAgg5
  z5:=Tryz.sizeOf5
  v5:=Tryz.zeroValue5
  t9:=Tryz.underlying9
  a9:=Tryz.isAgg9
  z9:=Tryz.sizeOf9
  v9:=Tryz.zeroValue9
  t26:=Tryz.underlying133
  a26:=Tryz.isAgg133
  z26:=Tryz.sizeOf133
  v26:=Tryz.zeroValue133
  t27:=Tryz.underlying133
  a27:=Tryz.isAgg133
  z27:=Tryz.sizeOf133
  v27:=Tryz.zeroValue133
  t29:=Tryz.underlying9
  a29:=Tryz.isAgg9
  z29:=Tryz.sizeOf9
  v29:=Tryz.zeroValue9
  t32:=Tryz.underlying58
  a32:=Tryz.isAgg58
  z32:=Tryz.sizeOf58
  v32:=Tryz.zeroValue58
  t35:=Tryz.underlying281
  a35:=Tryz.isAgg281
  z35:=Tryz.sizeOf281
  v35:=Tryz.zeroValue281
  t36:=Tryz.underlying282
  a36:=Tryz.isAgg282
  z36:=Tryz.sizeOf282
  v36:=Tryz.zeroValue282
  t41:=Tryz.underlying286
  a41:=Tryz.isAgg286
  z41:=Tryz.sizeOf286
  v41:=Tryz.zeroValue286
  t44:=Tryz.underlying242
  a44:=Tryz.isAgg242
  z44:=Tryz.sizeOf242
  v44:=Tryz.zeroValue242
  t46:=Tryz.underlying82
  a46:=Tryz.isAgg82
  z46:=Tryz.sizeOf82
  v46:=Tryz.zeroValue82
  t53:=Tryz.underlying296
  a53:=Tryz.isAgg296
  z53:=Tryz.sizeOf296
  v53:=Tryz.zeroValue296
  t57:=Tryz.underlying300
  a57:=Tryz.isAgg300
  z57:=Tryz.sizeOf300
  v57:=Tryz.zeroValue300
  t63:=Tryz.underlying305
  a63:=Tryz.isAgg305
  z63:=Tryz.sizeOf305
  v63:=Tryz.zeroValue305
  t64:=Tryz.underlying306
  a64:=Tryz.isAgg306
  z64:=Tryz.sizeOf306
  v64:=Tryz.zeroValue306 }
theorem sorts108(m:Nat):AnyZ.SortsIn Tryz.prog sorted108_ren Fence.wide m:=
  ⟨λblk off cap ss W hH hblk hsz=>callsIn_wide.2 (AnyM.slices_Sort_string srt145 blk off cap ss W hH hblk hsz),λp cap W=>callsIn_wide.2 (AnyM.slices_Sort_string_none srt145 p cap W)⟩
theorem sk108_114{hk:Tryz.prog.underlying 9=some .string}{β:Type}{V:Tv β}{Γ:Gh}{row:Rowb}{g t gb:Nat}{es:List (ByteArray×β)}{w:World}(hm:MapO (strK hk) V Γ row g es)(hn:es.length≤lim)(hp:Pre [[(gb,.cells #[.map (some g)] t)],row] Γ w):
    Calls Tryz.prog 108 #[.func (.func 151) #[] #[.pointer (some ⟨gb,0,none⟩)]] w (Outc Γ [[(gb,.cells #[.map (some g)] t)],row] w λU Δ v => ∃A c row',v = .slice A (skeys es).length c∧U = [[(gb,.cells #[.map (some g)] t)],row,row']∧Own strT Δ 9 row' A c (skeys es)):=
  sorted_keys (ρ:=keys114_ren) (ρ':=sorted108_ren) { keys114 with } sorted108 rfl (sorts108 _) (enters_of Tryz.func145 (by kernel_rfl) rfl) (enters_of Tryz.func151 (by kernel_rfl) rfl) rfl hk hm hn hp
theorem sk108_192{hk:Tryz.prog.underlying 9=some .string}{β:Type}{V:Tv β}{Γ:Gh}{row:Rowb}{g t gb:Nat}{es:List (ByteArray×β)}{w:World}(hm:MapO (strK hk) V Γ row g es)(hn:es.length≤lim)(hp:Pre [[(gb,.cells #[.map (some g)] t)],row] Γ w):
    Calls Tryz.prog 108 #[.func (.func 217) #[] #[.pointer (some ⟨gb,0,none⟩)]] w (Outc Γ [[(gb,.cells #[.map (some g)] t)],row] w λU Δ v => ∃A c row',v = .slice A (skeys es).length c∧U = [[(gb,.cells #[.map (some g)] t)],row,row']∧Own strT Δ 9 row' A c (skeys es)):=
  sorted_keys (ρ:=keys192_ren) (ρ':=sorted108_ren) { keys192 with } sorted108 rfl (sorts108 _) (enters_of Tryz.func145 (by kernel_rfl) rfl) (enters_of Tryz.func217 (by kernel_rfl) rfl) rfl hk hm hn hp
end Fw
end Go.Proofs.YtckindfllegbgaaGreat
