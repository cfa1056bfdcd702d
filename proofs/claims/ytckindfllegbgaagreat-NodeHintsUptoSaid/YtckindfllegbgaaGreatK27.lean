/- What is lent: a ghost that a call reads and does not keep. No condition. -/
import Derived.Test.YtckindfllegbgaaGreatK11
namespace Go.Proofs.YtckindfllegbgaaGreat
namespace Fw
set_option linter.unusedVariables false
set_option linter.unusedSimpArgs false
set_option linter.unusedSectionVars false
open Go.RowKit
section
variable {P:Program} {N:FN} {F:Fm} {Γ Δ B:Gh} {L U:List Rowb} {C:World→Prop} {Q:Exit→Env→World→Prop} {σ:Env} {w:World} {ops:Array Oper} {o:Oper} {rest:List Oper}
structure Lent (F:Fm) (B:Gh):Prop where
 old:Sat B F.E
 out:∀b o,B b=some o→¬ F.S b
theorem Lent.start{E:World}{G:Gh}(h:Pre U B E):Lent ⟨ids U,E,G⟩ B:=
 ⟨h.sat,λb o hb ⟨r,hr,p,hp,he⟩=>by have:=h.out r hr p hp; rw [he,hb] at this; cases this⟩
theorem Lent.start0{E:World}{G:Gh}(h:Sat B E):Lent ⟨no,E,G⟩ B:=⟨h,λb o hb hn=>hn⟩
theorem Lent.nil(F:Fm):Lent F (λ_=>none):=⟨(λb o hb=>by cases hb),(λb o hb=>by cases hb)⟩
theorem Lent.sat(h:Lent F B)(hw:Cur F Γ L w):Sat B w:=λb o hb=>by
 have h1:=h.old b o hb
 rw [hw.fr.keep b (heap_lt h1) (h.out b o hb)]; exact h1
theorem Lent.sep(h:Lent F B)(hw:Cur F Γ L w):∀r∈L, ∀p∈r,B p.1=none:=λr hr p hp=>by
 cases hb:B p.1 with
 | none=>rfl
 | some o=>
  exfalso
  rcases hw.sep r hr p hp with h1 | h1
  ·exact h.out _ _ hb h1
  ·have:=heap_lt (h.old _ _ hb); omega
theorem q_via{v:Value}(hS:∀w,Cur F Γ L w→Sat B w)(h:∀F':Fm,QV P (CC F' B []) σ o v):QV P (CC F Γ L) σ o v:=λw hw=>h ⟨no,w,B⟩ w (Cur.start0 (hS w hw))
noncomputable def Gh.but (U:List Rowb) (w:World):Gh:=λb=>open Classical in if ids U b then none else w.heap[b]?
theorem Gh.but_le(hs:Sat B w)(ho:∀r∈U, ∀p∈r,B p.1=none):B.le (Gh.but U w):=λb o hb=>by
 unfold Gh.but
 rw [if_neg (λ⟨r,hr,p,hp,he⟩=>by have:=ho r hr p hp; rw [he,hb] at this; cases this)]
 exact hs b o hb
theorem Gh.but_rows{is:List Nat}(hi:okp is L.length=true)(hw:Cur F Γ L w):∀r∈pkR is L, ∀p∈r,Gh.but (pkU is L) w p.1=some p.2:=λr hr p hp=>by
 have h:=hw.pick hi
 unfold Gh.but
 rw [if_neg]
 ·exact h.loc r (List.mem_append.2 (.inr hr)) p hp
 ·rintro⟨r',hr',p',hp',he⟩
  have hn:=h.nodup
  rw [List.flatten_append,List.map_append] at hn
  exact(List.nodup_append.1 hn).2.2 _ (List.mem_map.2 ⟨p',List.mem_flatten.2 ⟨r',hr',hp'⟩,rfl⟩) _ (List.mem_map.2 ⟨p,List.mem_flatten.2 ⟨r,hr,hp⟩,rfl⟩) he
theorem Gh.but_pre(hp:Pre U Γ w):Pre U (Gh.but U w) w:=
 ⟨λb o hb=>by
  unfold Gh.but at hb
  split at hb
  ·cases hb
  ·exact hb,hp.loc,λr hr p hp'=>by unfold Gh.but; rw [if_pos ⟨r,hr,p,hp',rfl⟩],hp.nodup⟩
theorem e_callB{is:List Nat}{f:FuncId}{args:Array Value}{Res:List Rowb→Gh→Value→Prop}(hL:Lent F B)(hg:o.guard=none)(hd:okDst N o.dst=true)(hr:∀w,(execOp (ev σ) o).run P w = .ok (.enter f args) w)(hi:okp is L.length=true)
  (h:∀w Θ,Pre (pkU is L) Γ w→Pre (pkU is L) Θ w→Γ.le Θ→B.le Θ→(∀r∈pkR is L, ∀p∈r,Θ p.1=some p.2)→Calls P f args w (Outc Γ (pkU is L) w Res))
  (k:∀Δ U' v,Γ.le Δ→Res U' Δ v→WR P N ops (CC F Δ (U'++pkR is L)) Q rest (updo σ o.dst v)):WR P N ops (CC F Γ L) Q (o::rest) σ:=by
 refine WR.call hg hd hr λw hw=>?_
 have hp:=hw.pick hi
 have h1:=(hw.only hi).pre
 refine(h w (Gh.but (pkU is L) w) h1 (Gh.but_pre h1) (Gh.but_le h1.sat h1.out) (Gh.but_le (hL.sat hw) (hL.sep (hw.only hi))) (Gh.but_rows hi hw)).mono ?_
 rintro e w' ⟨v,rfl,Δ,U',he,hres⟩
 exact⟨v,rfl,k Δ U' v he.le hres w' (hp.eff he)⟩
def Gh.nil:Gh:=λ_=>none
end
end Fw
end Go.Proofs.YtckindfllegbgaaGreat
