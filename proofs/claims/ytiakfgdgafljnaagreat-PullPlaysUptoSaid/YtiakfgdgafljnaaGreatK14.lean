/- More effects: bytes made of a string. No condition. -/
import Derived.Test.YtiakfgdgafljnaaGreatK11
import Derived.Lib.ConvBytes
import Derived.Laws.BytesArg
namespace Go.Proofs.YtiakfgdgafljnaaGreat
namespace Fw
set_option linter.unusedVariables false
set_option linter.unusedSimpArgs false
set_option linter.unusedSectionVars false
open Go.RowKit
theorem Cur.newW{F:Fm}{Γ:Gh}{L:List Rowb}{w w':World}(h:Cur F Γ L w){o:Obj}(hfr:Fr no w w')(hn:w'.heap[w.heap.size]? = some o):Cur F Γ ([(w.heap.size,o)]::L) w':=by
  have h1:=h.call hfr
  refine⟨h1.fr,h1.sat,h1.le,h1.gnew,?_,?_,?_,?_⟩
  · intro r hr p hp
    rcases List.mem_cons.1 hr with rfl | hr
    · rw [List.mem_singleton.1 hp]; exact hn
    · exact h1.loc r hr p hp
  · intro r hr p hp
    rcases List.mem_cons.1 hr with rfl | hr
    · rw [List.mem_singleton.1 hp]; exact .inr h.fr.size
    · exact h.sep r hr p hp
  · intro r hr p hp
    rcases List.mem_cons.1 hr with rfl | hr
    · rw [List.mem_singleton.1 hp]
      cases hg:Γ w.heap.size with
      | none=>rfl
      | some o'=>have:=heap_lt (h.sat _ _ hg); omega
    · exact h.out r hr p hp
  · simp only [List.flatten_cons,List.map_cons,List.cons_append,List.nil_append]
    refine List.nodup_cons.2 ⟨λhm=>?_,h.nodup⟩
    obtain⟨p,hp,he⟩:=List.mem_map.1 hm
    obtain⟨r,hr,hpr⟩:=List.mem_flatten.1 hp
    have:=h.lt hr hpr
    omega
theorem bytesWorld_fr(w:World)(e:TypeId)(s:ByteArray):Fr no w (Lib.bytesWorld w e s):=by
  refine⟨rfl,rfl,rfl,?_,?_,λk hk _=>Lib.bytesWorld_at_old w e s k hk⟩
  · intro _; show w.drawn≤w.drawn+1; omega
  · rw [Lib.bytesWorld_size]; omega
section
variable {P:Program} {N:Nat} {F:Fm} {Γ:Gh} {L:List Rowb} {σ:Env} {o:Oper} {Q:Exit→Env→World→Prop} {rest:List Oper} {ops:Array Oper}
/-- the bytes of a string, in a new row that is written no more -/
theorem e_convB{src dst e:TypeId}{x:Operand}{d:Nat}{s:ByteArray}{u:TypeDesc}(hs:P.underlying src=some u)(hd0:P.underlying dst=some (.slice e))(he:P.underlying e=some (.int .u8))(hsz:s.size≤lim)
    (hg:o.guard=none) (hdst:o.dst=some d) (hd:okDst N (some d)=true) (ho:o.op = .convert src dst x) (hx:ev σ x = .string s)
    (k:∀Δ A c,Γ.le Δ→Sl byteT Δ A s.data.toList→s.data.toList.length≤c→WR P N ops (CC F Δ ([]::L)) Q rest (upd σ d (.slice A s.data.toList.length c))):WR P N ops (CC F Γ L) Q (o::rest) σ:=by
  refine WR.eff hg (by rw [hdst]; exact hd) λw hw=>⟨.slice (some ⟨w.heap.size,0,none⟩) s.size (grownCap w s.size 0 e),Lib.bytesWorld w e s,.inl ?_,?_⟩
  · have:=Lib.run_convert_string_bytes (P:=P) w src dst e s hs hd0 he
    simp only [execOp,ho,hx,Sem.run_bind,this,Result.andThen_ok,Sem.run_pure]
  · rw [hdst]
    have hw2:=hw.newW (bytesWorld_fr w e s) (Lib.bytesWorld_at_new w e s)
    obtain⟨Δ,hw3,hle,hr⟩:=hw2.seal (i:=0) rfl
    refine k Δ (some ⟨w.heap.size,0,none⟩) (grownCap w s.size 0 e) hle ⟨hsz,λi hi=>?_⟩ ?_ _ hw3
    · refine⟨[.int .u8 (((gt s.data.toList i).toNat:Nat):Int)],rfl,λj v hj=>?_⟩
      have hj0:j=0:=by
        rcases Nat.eq_zero_or_pos j with h | h
        · exact h
        · rw [List.getElem?_eq_none (by simp; omega)] at hj; cases hj
      subst hj0
      simp only [List.getElem?_cons_zero,Option.some.injEq] at hj
      subst hj
      refine⟨w.heap.size,0,_,_,_,rfl,hr _ (List.mem_singleton.2 rfl),?_⟩
      have hi':i<s.size:=hi
      have:=Lib.bytesWorld_cell w e s i hi'
      obtain⟨cs,t,fz,h1,h2⟩:=cell_row this
      rw [Lib.bytesWorld_at_new] at h1
      injection h1 with h1
      injection h1 with h1 h1b h1c
      subst h1
      simp only [byteT,Nat.mul_one,Nat.add_zero,Nat.zero_add]
      rw [h2,gt_eq hi,List.getD_eq_getElem?_getD,List.getElem?_eq_getElem hi]
      rfl
    · exact grownCap_ge ..
end
end Fw
end Go.Proofs.YtiakfgdgafljnaaGreat
