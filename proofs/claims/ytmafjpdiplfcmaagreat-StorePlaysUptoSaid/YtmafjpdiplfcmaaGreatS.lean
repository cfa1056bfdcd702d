/- The shelf's contracts of library calls, at this program: which of its numbers are which of ours. No condition. -/
import Derived.Test.YtmafjpdiplfcmaaGreatE
import Derived.Test.YtmafjpdiplfcmaaGreatK15
import Derived.Shelf.SlMaps.Clone
import Derived.Ground.SlmcProg
import Derived.Shelf.SlIter.Nil
import Derived.Ground.GgzProg
import Derived.Ground.SlgmProg
import Derived.Shelf.SortM.Plain
import Derived.Shelf.SortM.SortNone
namespace Go.Proofs.YtmafjpdiplfcmaaGreat
namespace Fw
open Go.Shelf Go.RowKit Go.Maps Go.Sort
def Ad:Go.Shelf.Ren:=⟨fun | 5=>51 | 7=>101 | n=>n,fun | 23=>77 | 25=>9 | 3=>51 | 4=>4 | 20=>20 | n=>n,fun | n=>n⟩
theorem BX:Go.Proofs.SlLaysW.n5 Tryz.prog Ad:={
  mixed:=by kernel_rfl
  f5:=⟨Tryz.f51.name,by decide,Tryz.func51.trans (congrArg some (by kernel_rfl))⟩
  f7:=Tryz.func101.trans (congrArg some (by kernel_rfl))
  t4:=Tryz.underlying4
  a4:=Tryz.isAgg4
  z4:=Tryz.sizeOf4
  v4:=Tryz.zeroValue4
  t20:=Tryz.underlying20
  a20:=Tryz.isAgg20
  z20:=Tryz.sizeOf20
  v20:=Tryz.zeroValue20
  t23:=Tryz.underlying77
  a23:=Tryz.isAgg77
  z23:=Tryz.sizeOf77
  v23:=Tryz.zeroValue77 }
def sj:Go.Shelf.Ren:=⟨fun | 7=>62 | 10=>111 | n=>n,fun | 23=>76 | 26=>9 | 3=>51 | 28=>131 | 0=>0 | 27=>130 | 33=>159 | 4=>4 | n=>n,fun | n=>n⟩
theorem DR:Go.Proofs.SlLaysZ.n7 Tryz.prog sj:={
  mixed:=by kernel_rfl
  f7:=⟨Tryz.f62.name,by decide,Tryz.func62.trans (congrArg some (by kernel_rfl))⟩
  f10:=⟨Tryz.f111.name,by decide,Tryz.func111.trans (congrArg some (by kernel_rfl))⟩
  t0:=Tryz.underlying0
  a0:=Tryz.isAgg0
  z0:=Tryz.sizeOf0
  v0:=Tryz.zeroValue0
  t4:=Tryz.underlying4
  a4:=Tryz.isAgg4
  z4:=Tryz.sizeOf4
  v4:=Tryz.zeroValue4
  t23:=Tryz.underlying76
  a23:=Tryz.isAgg76
  z23:=Tryz.sizeOf76
  v23:=Tryz.zeroValue76
  t26:=Tryz.underlying9
  a26:=Tryz.isAgg9
  z26:=Tryz.sizeOf9
  v26:=Tryz.zeroValue9
  t27:=Tryz.underlying130
  a27:=Tryz.isAgg130
  z27:=Tryz.sizeOf130
  v27:=Tryz.zeroValue130
  t28:=Tryz.underlying131
  a28:=Tryz.isAgg131
  z28:=Tryz.sizeOf131
  v28:=Tryz.zeroValue131
  t33:=Tryz.underlying159
  a33:=Tryz.isAgg159
  z33:=Tryz.sizeOf159
  v33:=Tryz.zeroValue159 }
def qA:Go.Shelf.Ren:=⟨fun | 7=>108 | 10=>147 | n=>n,fun | 23=>77 | 26=>9 | 3=>51 | 28=>131 | 0=>0 | 27=>130 | 33=>159 | 4=>4 | n=>n,fun | n=>n⟩
theorem Ca:Go.Proofs.SlLaysZ.n7 Tryz.prog qA:={
  mixed:=by kernel_rfl
  f7:=⟨Tryz.f108.name,by decide,Tryz.func108.trans (congrArg some (by kernel_rfl))⟩
  f10:=⟨Tryz.f147.name,by decide,Tryz.func147.trans (congrArg some (by kernel_rfl))⟩
  t0:=Tryz.underlying0
  a0:=Tryz.isAgg0
  z0:=Tryz.sizeOf0
  v0:=Tryz.zeroValue0
  t4:=Tryz.underlying4
  a4:=Tryz.isAgg4
  z4:=Tryz.sizeOf4
  v4:=Tryz.zeroValue4
  t23:=Tryz.underlying77
  a23:=Tryz.isAgg77
  z23:=Tryz.sizeOf77
  v23:=Tryz.zeroValue77
  t26:=Tryz.underlying9
  a26:=Tryz.isAgg9
  z26:=Tryz.sizeOf9
  v26:=Tryz.zeroValue9
  t27:=Tryz.underlying130
  a27:=Tryz.isAgg130
  z27:=Tryz.sizeOf130
  v27:=Tryz.zeroValue130
  t28:=Tryz.underlying131
  a28:=Tryz.isAgg131
  z28:=Tryz.sizeOf131
  v28:=Tryz.zeroValue131
  t33:=Tryz.underlying159
  a33:=Tryz.isAgg159
  z33:=Tryz.sizeOf159
  v33:=Tryz.zeroValue159 }
def ns:Go.Shelf.Ren:=⟨fun | 6=>61 | 8=>109 | 9=>110 | 11=>148 | 13=>150 | 12=>149 | 23=>184 | 24=>185 | 14=>175 | 15=>176 | 16=>177 | 17=>178 | 18=>179 | 19=>180 | 20=>181 | 21=>182 | 22=>183 | 25=>197 | 26=>198 | 27=>199 | 28=>200 | 29=>201 | 30=>202 | 31=>206 | n=>n,fun | 26=>9 | 28=>131 | 24=>72 | 0=>0 | 3=>3 | 37=>220 | 48=>202 | 50=>219 | 4=>4 | 40=>251 | 39=>250 | 45=>255 | 5=>5 | 9=>9 | 51=>264 | 55=>268 | 57=>272 | 58=>273 | 33=>159 | n=>n,fun | n=>n⟩
theorem zA:Go.Proofs.SlLaysZ.n6 Tryz.prog ns:={
  mixed:=by kernel_rfl
  f6:=⟨Tryz.f61.name,by decide,Tryz.func61.trans (congrArg some (by kernel_rfl))⟩
  f8:=⟨Tryz.f109.name,by decide,Tryz.func109.trans (congrArg some (by kernel_rfl))⟩
  f11:=⟨Tryz.f148.name,by decide,Tryz.func148.trans (congrArg some (by kernel_rfl))⟩
  t0:=Tryz.underlying0
  a0:=Tryz.isAgg0
  z0:=Tryz.sizeOf0
  v0:=Tryz.zeroValue0
  t24:=Tryz.underlying72
  a24:=Tryz.isAgg72
  z24:=Tryz.sizeOf72
  v24:=Tryz.zeroValue72
  t26:=Tryz.underlying9
  a26:=Tryz.isAgg9
  z26:=Tryz.sizeOf9
  v26:=Tryz.zeroValue9
  t28:=Tryz.underlying131
  a28:=Tryz.isAgg131
  z28:=Tryz.sizeOf131
  v28:=Tryz.zeroValue131
  i26:=by kernel_rfl }
def Bc:Go.Shelf.Ren:=⟨fun | 6=>110 | 8=>150 | 9=>149 | 19=>184 | 20=>185 | 21=>175 | 22=>176 | 23=>177 | 24=>178 | 25=>179 | 26=>180 | 27=>181 | 28=>182 | 29=>183 | 36=>197 | 31=>198 | 32=>199 | 37=>200 | 38=>201 | 39=>202 | 41=>206 | n=>n,fun | 27=>72 | 29=>9 | 3=>3 | 32=>220 | 26=>72 | 0=>0 | 44=>202 | 46=>219 | 4=>4 | 36=>251 | 35=>250 | 41=>255 | 5=>5 | 9=>9 | 53=>264 | 57=>268 | 63=>272 | 64=>273 | n=>n,fun | n=>n⟩
theorem DX:Go.Proofs.SlLaysM.n6 Tryz.prog Bc:={
  mixed:=by kernel_rfl
  f6:=⟨Tryz.f110.name,by decide,Tryz.func110.trans (congrArg some (by kernel_rfl))⟩
  f8:=Tryz.func150.trans (congrArg some (by kernel_rfl))
  f9:=⟨Tryz.f149.name,by decide,Tryz.func149.trans (congrArg some (by kernel_rfl))⟩
  f19:=Tryz.func184.trans (congrArg some (by kernel_rfl))
  f20:=Tryz.func185.trans (congrArg some (by kernel_rfl))
  f21:=⟨Tryz.f175.name,by decide,Tryz.func175.trans (congrArg some (by kernel_rfl))⟩
  f22:=⟨Tryz.f176.name,by decide,Tryz.func176.trans (congrArg some (by kernel_rfl))⟩
  f23:=⟨Tryz.f177.name,by decide,Tryz.func177.trans (congrArg some (by kernel_rfl))⟩
  f24:=⟨Tryz.f178.name,by decide,Tryz.func178.trans (congrArg some (by kernel_rfl))⟩
  f25:=⟨Tryz.f179.name,by decide,Tryz.func179.trans (congrArg some (by kernel_rfl))⟩
  f26:=⟨Tryz.f180.name,by decide,Tryz.func180.trans (congrArg some (by kernel_rfl))⟩
  f27:=⟨Tryz.f181.name,by decide,Tryz.func181.trans (congrArg some (by kernel_rfl))⟩
  f28:=⟨Tryz.f182.name,by decide,Tryz.func182.trans (congrArg some (by kernel_rfl))⟩
  f29:=⟨Tryz.f183.name,by decide,Tryz.func183.trans (congrArg some (by kernel_rfl))⟩
  f31:=Tryz.func198.trans (congrArg some (by kernel_rfl))
  f32:=Tryz.func199.trans (congrArg some (by kernel_rfl))
  f36:=⟨Tryz.f197.name,by decide,Tryz.func197.trans (congrArg some (by kernel_rfl))⟩
  f37:=⟨Tryz.f200.name,by decide,Tryz.func200.trans (congrArg some (by kernel_rfl))⟩
  f38:=⟨Tryz.f201.name,by decide,Tryz.func201.trans (congrArg some (by kernel_rfl))⟩
  f39:=⟨Tryz.f202.name,by decide,Tryz.func202.trans (congrArg some (by kernel_rfl))⟩
  f41:=⟨Tryz.f206.name,by decide,Tryz.func206.trans (congrArg some (by kernel_rfl))⟩
  t0:=Tryz.underlying0
  a0:=Tryz.isAgg0
  z0:=Tryz.sizeOf0
  v0:=Tryz.zeroValue0
  t3:=Tryz.underlying3
  a3:=Tryz.isAgg3
  z3:=Tryz.sizeOf3
  v3:=Tryz.zeroValue3
  t4:=Tryz.underlying4
  a4:=Tryz.isAgg4
  z4:=Tryz.sizeOf4
  v4:=Tryz.zeroValue4
  t5:=Tryz.underlying5
  a5:=Tryz.isAgg5
  z5:=Tryz.sizeOf5
  v5:=Tryz.zeroValue5
  t9:=Tryz.underlying9
  a9:=Tryz.isAgg9
  z9:=Tryz.sizeOf9
  v9:=Tryz.zeroValue9
  t26:=Tryz.underlying72
  a26:=Tryz.isAgg72
  z26:=Tryz.sizeOf72
  v26:=Tryz.zeroValue72
  t27:=Tryz.underlying72
  a27:=Tryz.isAgg72
  z27:=Tryz.sizeOf72
  v27:=Tryz.zeroValue72
  t29:=Tryz.underlying9
  a29:=Tryz.isAgg9
  z29:=Tryz.sizeOf9
  v29:=Tryz.zeroValue9
  t32:=Tryz.underlying220
  a32:=Tryz.isAgg220
  z32:=Tryz.sizeOf220
  v32:=Tryz.zeroValue220
  t35:=Tryz.underlying250
  a35:=Tryz.isAgg250
  z35:=Tryz.sizeOf250
  v35:=Tryz.zeroValue250
  t36:=Tryz.underlying251
  a36:=Tryz.isAgg251
  z36:=Tryz.sizeOf251
  v36:=Tryz.zeroValue251
  t41:=Tryz.underlying255
  a41:=Tryz.isAgg255
  z41:=Tryz.sizeOf255
  v41:=Tryz.zeroValue255
  t44:=Tryz.underlying202
  a44:=Tryz.isAgg202
  z44:=Tryz.sizeOf202
  v44:=Tryz.zeroValue202
  t46:=Tryz.underlying219
  a46:=Tryz.isAgg219
  z46:=Tryz.sizeOf219
  v46:=Tryz.zeroValue219
  t53:=Tryz.underlying264
  a53:=Tryz.isAgg264
  z53:=Tryz.sizeOf264
  v53:=Tryz.zeroValue264
  t57:=Tryz.underlying268
  a57:=Tryz.isAgg268
  z57:=Tryz.sizeOf268
  v57:=Tryz.zeroValue268
  t63:=Tryz.underlying272
  a63:=Tryz.isAgg272
  z63:=Tryz.sizeOf272
  v63:=Tryz.zeroValue272
  t64:=Tryz.underlying273
  a64:=Tryz.isAgg273
  z64:=Tryz.sizeOf273
  v64:=Tryz.zeroValue273 }
theorem C8(m:Nat):AnyZ.SortsIn Tryz.prog ns Fence.wide m:=
  ⟨λblk off cap ss W hH hblk hsz=>callsIn_wide.2 (AnyM.slices_Sort_string DX blk off cap ss W hH hblk hsz),λp cap W=>callsIn_wide.2 (AnyM.slices_Sort_string_none DX p cap W)⟩
theorem Ff{hk:Tryz.prog.underlying 9=some .string}{β:Type}{V:Tv β}{Γ:Gh}{row:Rowb}{g t gb:Nat}{es:List (ByteArray×β)}{w:World}(hm:MapO (strK hk) V Γ row g es)(hn:es.length≤lim)(hp:Pre [[(gb,.cells #[.map (some g)] t)],row] Γ w):
    Calls Tryz.prog 61 #[.func (.func 111) #[] #[.pointer (some ⟨gb,0,none⟩)]] w (Outc Γ [[(gb,.cells #[.map (some g)] t)],row] w λU Δ v => ∃A c row',v = .slice A (dg es).length c∧U = [[(gb,.cells #[.map (some g)] t)],row,row']∧Own strT Δ 9 row' A c (dg es)):=
  vz (ρ:=sj) (ρ':=ns) { DR with } zA rfl (C8 _) (enters_of Tryz.func110 (by kernel_rfl) rfl) (enters_of Tryz.func111 (by kernel_rfl) rfl) rfl hk hm hn hp
theorem DN{hk:Tryz.prog.underlying 9=some .string}{β:Type}{V:Tv β}{Γ:Gh}{row:Rowb}{g t gb:Nat}{es:List (ByteArray×β)}{w:World}(hm:MapO (strK hk) V Γ row g es)(hn:es.length≤lim)(hp:Pre [[(gb,.cells #[.map (some g)] t)],row] Γ w):
    Calls Tryz.prog 61 #[.func (.func 147) #[] #[.pointer (some ⟨gb,0,none⟩)]] w (Outc Γ [[(gb,.cells #[.map (some g)] t)],row] w λU Δ v => ∃A c row',v = .slice A (dg es).length c∧U = [[(gb,.cells #[.map (some g)] t)],row,row']∧Own strT Δ 9 row' A c (dg es)):=
  vz (ρ:=qA) (ρ':=ns) { Ca with } zA rfl (C8 _) (enters_of Tryz.func110 (by kernel_rfl) rfl) (enters_of Tryz.func147 (by kernel_rfl) rfl) rfl hk hm hn hp
end Fw
end Go.Proofs.YtmafjpdiplfcmaaGreat
