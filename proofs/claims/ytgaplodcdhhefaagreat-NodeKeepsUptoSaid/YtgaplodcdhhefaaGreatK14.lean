/- More effects: bytes made of a string. No condition. -/
import Derived.Test.YtgaplodcdhhefaaGreatK11
import Derived.Lib.ConvBytes
import Derived.Laws.BytesArg
namespace Go.Proofs.YtgaplodcdhhefaaGreat
namespace Fw
set_option linter.unusedVariables false
set_option linter.unusedSimpArgs false
set_option linter.unusedSectionVars false
open Go.RowKit
theorem Cur.newW{F:Fm}{Γ:Gh}{L:List Rowb}{w w':World}(h:Cur F Γ L w){o:Obj}(hfr:Fr no w w')(hn:w'.heap[w.heap.size]? = some o):Cur F Γ ([(w.heap.size,o)]::L) w':=by
 have h1:=h.call hfr
 refine⟨h1.fr,h1.sat,h1.le,h1.gnew,?_,?_,?_,?_⟩
 ·intro r hr p hp
  rcases List.mem_cons.1 hr with rfl | hr
  ·rw [List.mem_singleton.1 hp]; exact hn
  ·exact h1.loc r hr p hp
 ·intro r hr p hp
  rcases List.mem_cons.1 hr with rfl | hr
  ·rw [List.mem_singleton.1 hp]; exact .inr h.fr.size
  ·exact h.sep r hr p hp
 ·intro r hr p hp
  rcases List.mem_cons.1 hr with rfl | hr
  ·rw [List.mem_singleton.1 hp]
   cases hg:Γ w.heap.size with
   | none=>rfl
   | some o'=>have:=dC (h.sat _ _ hg); omega
  ·exact h.out r hr p hp
 ·simp only [Ef,E0,List.cons_append,Ee]
  refine List.nodup_cons.2 ⟨λhm=>?_,h.nodup⟩
  obtain⟨p,hp,he⟩:=List.mem_map.1 hm
  obtain⟨r,hr,hpr⟩:=List.mem_flatten.1 hp
  have:=h.lt hr hpr
  omega
theorem sM(w:World)(e:TypeId)(s:ByteArray):Fr no w (Lib.bytesWorld w e s):=by
 refine⟨rfl,rfl,rfl,?_,?_,λk hk _=>Lib.bytesWorld_at_old w e s k hk⟩
 ·intro _; show w.drawn≤w.drawn+1; omega
 ·rw [Lib.bytesWorld_size]; omega
section
variable {P:Program} {N:FN} {F:Fm} {Γ:Gh} {L:List Rowb} {σ:Env} {o:Oper} {Q:Exit→Env→World→Prop} {rest:List Oper} {ops:Array Oper}
theorem xn{src dst e:TypeId}{x:Operand}{d:Nat}{s:ByteArray}{u:TypeDesc}(hs:P.underlying src=some u)(hd0:P.underlying dst=some (.slice e))(he:P.underlying e=some (.int .u8))(hsz:s.size≤lim)
  (hg:o.guard=none) (hdst:o.dst=some d) (hd:bR N (some d)=true) (ho:o.op = .convert src dst x) (hx:ev σ x = .string s)
  (k:∀Δ A c,Γ.le Δ→Sl au Δ A s.data.toList→s.data.toList.length≤c→WR P N ops (CC F Δ ([]::L)) Q rest (upd σ d (.slice A s.data.toList.length c))):WR P N ops (CC F Γ L) Q (o::rest) σ:=by
 refine WR.eff hg (by rw [hdst]; exact hd) λw hw=>⟨.slice (some ⟨w.heap.size,0,none⟩) s.size (grownCap w s.size 0 e),Lib.bytesWorld w e s,.inl ?_,?_⟩
 ·have:=Lib.run_convert_string_bytes (P:=P) w src dst e s hs hd0 he
  simp only [execOp,ho,hx,E3,this,Result.andThen_ok,E4]
 ·rw [hdst]
  have hw2:=hw.newW (sM w e s) (Lib.bytesWorld_at_new w e s)
  obtain⟨Δ,hw3,hle,hr⟩:=hw2.seal (i:=0) rfl
  refine k Δ (some ⟨w.heap.size,0,none⟩) (grownCap w s.size 0 e) hle ⟨hsz,λi hi=>?_⟩ ?_ _ hw3
  ·refine⟨[.int .u8 (((gt s.data.toList i).toNat:Nat):Int)],rfl,λj v hj=>?_⟩
   have hj0:j=0:=by
    rcases Nat.eq_zero_or_pos j with h | h
    ·exact h
    ·rw [List.getElem?_eq_none (by simp; omega)] at hj; cases hj
   subst hj0
   simp only [List.getElem?_cons_zero,Ec] at hj
   subst hj
   have hi':i<s.size:=hi
   have:=Lib.bytesWorld_cell w e s i hi'
   obtain⟨cs,t,fz,h1,h2⟩:=uY this
   rw [Lib.bytesWorld_at_new] at h1
   injection h1 with h1
   injection h1 with h1 h1b h1c
   subst h1
   refine⟨w.heap.size,0,_,_,_,rfl,hr _ (List.mem_singleton.2 rfl),?_,λhz=>?_⟩
   rotate_left
   ·have h4:=(Array.getElem?_eq_some_iff.1 h2).1
    have h5:=hz.1
    simp only [au,Nat.mul_one,Nat.add_zero,Nat.zero_add] at h5
    simp only at h4
    omega
   simp only [au,Nat.mul_one,Nat.add_zero,Nat.zero_add]
   rw [h2,bA hi,List.getD_eq_getElem?_getD,List.getElem?_eq_getElem hi]
   rfl
  ·exact grownCap_ge ..
theorem uI{w:World}{src dst e:TypeId}{xs:List UInt8}{A:Option Addr}{c:Nat}(hs:P.underlying src=some (.slice e))(he:P.underlying e=some (.int .u8))(hd0:P.underlying dst=some .string)
  (h:∀i,i<xs.length→∃b off,A=some ⟨b,off,none⟩∧w.cell? ⟨b,off+i,none⟩=some (.int .u8 (((gt xs i).toNat:Nat):Int))) :
  (convert src dst (.slice A xs.length c)).run P w = .ok (.string ⟨xs.toArray⟩) w:=by
 cases xs with
 | nil=>
  show (convert src dst (.slice A 0 c)).run P w=_
  rw [run_convert_bytes_string w src dst e _ 0 c hs he hd0]
  cases A <;> simp [Conv.bytesToString,loadCells] <;> rfl
 | cons x l=>
  obtain⟨b,off,rfl,_⟩:=h 0 (by simp)
  have:=run_convert_bytes_arg (P:=P) w src e hs he b off (x::l).length c ((x::l).map (λu=>(u.toNat:Int))) (by simp) (λi hi=>by
   obtain⟨b2,off2,e2,hc⟩:=h i hi
   injection e2 with e2
   injection e2 with h1 h2
   subst h1; subst h2
   rw [hc,bA hi,List.getD_eq_getElem?_getD,List.getElem?_map,List.getElem?_eq_getElem hi]; rfl) dst hd0
  rw [this]
  congr 2
  unfold strOfNums
  congr 1
  rw [Eg]
  have:(x::l).map ((λn:Int=>UInt8.ofNat n.toNat)∘λu:UInt8=>(u.toNat:Int))=(x::l).map id:=List.map_congr_left λu _=>by simp
  rw [this,List.map_id]
theorem Co{src dst e:TypeId}{x:Operand}{xs:List UInt8}{A:Option Addr}{c:Nat}(h:Sl au Γ A xs)(hs:P.underlying src=some (.slice e))(he:P.underlying e=some (.int .u8))(hd0:P.underlying dst=some .string)
  (ho:o.op = .convert src dst x) (hx:ev σ x = .slice A xs.length c):QV P (CC F Γ L) σ o (.string ⟨xs.toArray⟩):=λw hw=>by
 have:=uI (P:=P) (w:=w) (src:=src) (dst:=dst) (e:=e) (xs:=xs) (A:=A) (c:=c) hs he hd0 λi hi=>by
  obtain⟨cs,h1,h2⟩:=h.get i hi
  have h3:=h2 0 _ (by rw [show cs = [.int .u8 (((gt xs i).toNat:Nat):Int)] from h1]; rfl)
  obtain⟨b,off,h4,h5⟩:=h3.now hw.sat
  exact⟨b,off,h4,by simpa [au] using h5⟩
 simp only [execOp,ho,hx,E3,this,Result.andThen_ok,E4]
end
end Fw
end Go.Proofs.YtgaplodcdhhefaaGreat
