/- Memory for the engine: what is sealed, what a call may turn, local blocks. No condition. -/
import Derived.Test.YtgaplodcdhhefaaGreatK1
import Derived.Maps.AppendAt
import Derived.IntWalk
namespace Go.Proofs.YtgaplodcdhhefaaGreat
namespace Fw
set_option linter.unusedVariables false
set_option linter.unusedSimpArgs false
set_option linter.unusedSectionVars false
open Go.RowKit
def lim:Nat:=2147483648
theorem aK:lim=2147483648:=rfl
abbrev Rowb:=List (Nat×Obj)
def no:Nat→Prop:=λ_=>False
abbrev Gh:=Nat→Option Obj
def Gh.le(Γ Δ:Gh):Prop := ∀b o,Γ b=some o→Δ b=some o
def Sat(Γ:Gh)(w:World):Prop := ∀b o,Γ b=some o→w.heap[b]? = some o
theorem Gh.refl(Γ:Gh):Γ.le Γ:=λ_ _ h=>h
theorem Gh.le.trans{Γ Δ Θ:Gh}(h:Γ.le Δ)(h':Δ.le Θ):Γ.le Θ:=λb o hb=>h' b o (h b o hb)
def Gh.all(w:World):Gh:=λb=>w.heap[b]?
theorem Sat.all(w:World):Sat (Gh.all w) w:=λ_ _ h=>h
theorem Sat.le_all{Γ:Gh}{w:World}(h:Sat Γ w):Γ.le (Gh.all w):=λb o hb=>h b o hb
def s6:Bool:=false
structure Fr (S:Nat→Prop) (E w:World):Prop where
 os:w.os=E.os
 tape:w.tape=E.tape
 output:w.output=E.output
 draw:s6=true→E.drawn≤w.drawn
 size:E.heap.size≤w.heap.size
 keep:∀k,k<E.heap.size→¬ S k→w.heap[k]? = E.heap[k]?
theorem Fr.refl(S:Nat→Prop)(w:World):Fr S w w:=⟨rfl,rfl,rfl,λ_=>E6 _,E6 _,λ_ _ _=>rfl⟩
theorem Fr.trans{S:Nat→Prop}{a b c:World}(h:Fr S a b)(h':Fr S b c):Fr S a c:=
 ⟨h'.os.trans h.os,h'.tape.trans h.tape,h'.output.trans h.output,λq=>Nat.le_trans (h.draw q) (h'.draw q),Nat.le_trans h.size h'.size,λk hk hs=>(h'.keep k (Nat.lt_of_lt_of_le hk h.size) hs).trans (h.keep k hk hs)⟩
theorem Fr.mono{S S':Nat→Prop}{a b:World}(h:Fr S a b)(hs:∀k,S k→S' k):Fr S' a b:=⟨h.os,h.tape,h.output,h.draw,h.size,λk hk hn=>h.keep k hk (λh'=>hn (hs k h'))⟩
theorem Fr.of_no{S:Nat→Prop}{a b:World}(h:Fr no a b):Fr S a b:=h.mono λ_ h=>h.elim
theorem Fr.drop{S S':Nat→Prop}{E a b:World}(h:Fr S E a)(h':Fr S' a b)(hs:∀k,S' k→S k∨E.heap.size≤k):Fr S E b:=
 ⟨h'.os.trans h.os,h'.tape.trans h.tape,h'.output.trans h.output,λq=>Nat.le_trans (h.draw q) (h'.draw q),Nat.le_trans h.size h'.size,λk hk hn=>
  (h'.keep k (Nat.lt_of_lt_of_le hk h.size) (λh2=>(hs k h2).elim hn (λh3=>by omega))).trans (h.keep k hk hn)⟩
theorem Fr.drawn{S:Nat→Prop}{a b:World}(h:Fr S a b)(n:Nat):Fr S a { b with drawn:=b.drawn+n }:=⟨h.os,h.tape,h.output,λq=>Nat.le_trans (h.draw q) (Nat.le_add_right _ _),h.size,h.keep⟩
theorem Fr.below{a b:World}(h:Fr no a b):Below a.heap.size a b:=⟨h.os,h.tape,h.output,h.size,λk hk=>h.keep k hk id⟩
theorem Fr.of_grown{a b:World}{row:Option Nat}(h:a.grownBy b row)(hd:a.drawn≤b.drawn):Fr (λk=>some k=row) a b:=⟨h.os,h.tape,h.output,λ_=>hd,h.size,λk hk hn=>h.block k hk hn⟩
theorem dC{w:World}{k:Nat}{o:Obj}(h:w.heap[k]? = some o):k<w.heap.size:=by
 rcases Nat.lt_or_ge k w.heap.size with h1 | h1
 ·exact h1
 ·rw [Array.getElem?_eq_none h1] at h; cases h
def ids(U:List Rowb):Nat→Prop:=λk => ∃r∈U, ∃p∈r,p.1=k
theorem mS{U:List Rowb}{k:Nat}:ids U k↔∃p∈U.flatten,p.1=k:=
 ⟨λ⟨r,hr,p,hp,he⟩=>⟨p,List.mem_flatten.2 ⟨r,hr,hp⟩,he⟩,λ⟨p,hp,he⟩=>let ⟨r,hr,hp⟩:=List.mem_flatten.1 hp; ⟨r,hr,p,hp,he⟩⟩
structure Fm where
 S:Nat→Prop
 E:World
 G:Gh
structure Cur (F:Fm) (Γ:Gh) (L:List Rowb) (w:World):Prop where
 fr:Fr F.S F.E w
 sat:Sat Γ w
 le:F.G.le Γ
 gnew:∀b o,Γ b=some o→(∃o',F.G b=some o')∨F.S b∨F.E.heap.size≤b
 loc:∀r∈L, ∀p∈r,w.heap[p.1]? = some p.2
 sep:∀r∈L, ∀p∈r,F.S p.1∨F.E.heap.size≤p.1
 out:∀r∈L, ∀p∈r,Γ p.1=none
 nodup:(L.flatten.map (·.1)).Nodup
abbrev CC(F:Fm)(Γ:Gh)(L:List Rowb):World→Prop:=λw=>Cur F Γ L w
structure Pre (U:List Rowb) (Γ:Gh) (w:World):Prop where
 sat:Sat Γ w
 loc:∀r∈U, ∀p∈r,w.heap[p.1]? = some p.2
 out:∀r∈U, ∀p∈r,Γ p.1=none
 nodup:(U.flatten.map (·.1)).Nodup
structure Eff (Γ Γ':Gh) (U U':List Rowb) (w w':World):Prop where
 fr:Fr (ids U) w w'
 sat:Sat Γ' w'
 le:Γ.le Γ'
 gnew:∀b o,Γ' b=some o→(∃o',Γ b=some o')∨ids U b∨w.heap.size≤b
 loc:∀r∈U', ∀p∈r,w'.heap[p.1]? = some p.2
 new:∀r∈U', ∀p∈r,ids U p.1∨w.heap.size≤p.1
 out:∀r∈U', ∀p∈r,Γ' p.1=none
 nodup:(U'.flatten.map (·.1)).Nodup
theorem vf{α:Type}{a b:List (List α)}(h:a.Sublist b):a.flatten.Sublist b.flatten:=by
 induction h with
 | slnil=>simp
 | cons a _ ih=>exact ih.trans (List.sublist_append_right _ _)
 | cons_cons a _ ih=>exact List.Sublist.append_left ih a
def pkU:List Nat→List Rowb→List Rowb
 | [],_=>[]
 | i::is,L=>L.getD i []::pkU is (L.eraseIdx i)
def pkR:List Nat→List Rowb→List Rowb
 | [],L=>L
 | i::is,L=>pkR is (L.eraseIdx i)
def okp:List Nat→Nat→Bool
 | [],_=>true
 | i::is,n=>Nat.blt i n&&okp is (n - 1)
theorem iY{α:Type}{d:α}:∀{L:List α} {i:Nat},i<L.length→(L.getD i d::L.eraseIdx i).Perm L
 | [],i,h=>by simp at h
 | x::L,0,_=>by simp
 | x::L,i+1,h=>by
  have:=iY (d:=d) (L:=L) (i:=i) (by simpa using h)
  simp only [List.getD_cons_succ,List.eraseIdx_cons_succ]
  exact(List.Perm.swap x (L.getD i d) _).trans (List.Perm.cons x this)
theorem xm:∀{is:List Nat} {L:List Rowb},okp is L.length=true→(pkU is L++pkR is L).Perm L
 | [],L,_=>by simp [pkU,pkR]
 | i::is,L,h=>by
  simp only [okp,DW,Nat.blt_eq] at h
  have h1:=iY (d:=([]:Rowb)) h.1
  have h2:=xm (is:=is) (L:=L.eraseIdx i) (by rw [List.length_eraseIdx]; simp [h.1,h.2])
  simp only [pkU,pkR,List.cons_append]
  exact(List.Perm.cons _ h2).trans h1
section
variable {F:Fm} {Γ Δ:Gh} {w w':World} {L U U' R:List Rowb} {row row':Rowb}
theorem Pre.start(h:Pre U Γ w):Cur ⟨ids U,w,Γ⟩ Γ U w:=
 ⟨Fr.refl _ _,h.sat,Gh.refl _,λb o hb=>.inl ⟨o,hb⟩,h.loc,λr hr p hp=>.inl ⟨r,hr,p,hp,rfl⟩,h.out,h.nodup⟩
theorem Cur.start0(h:Sat Γ w):Cur ⟨no,w,Γ⟩ Γ [] w:=⟨Fr.refl _ _,h,Gh.refl _,λb o hb=>.inl ⟨o,hb⟩,by simp,by simp,by simp,by simp⟩
theorem Cur.toEff{Γ0:Gh}{E:World}(h:Cur ⟨ids U,E,Γ0⟩ Γ U' w):Eff Γ0 Γ U U' E w:=⟨h.fr,h.sat,h.le,h.gnew,h.loc,h.sep,h.out,h.nodup⟩
theorem Pre.none(h:Sat Γ w):Pre [] Γ w:=⟨h,by simp,by simp,by simp⟩
theorem Cur.drawn(h:Cur F Γ L w)(n:Nat):Cur F Γ L { w with drawn:=w.drawn+n }:=⟨h.fr.drawn n,h.sat,h.le,h.gnew,h.loc,h.sep,h.out,h.nodup⟩
theorem Cur.lt(h:Cur F Γ L w){r:Rowb}(hr:r∈L){p:Nat×Obj}(hp:p∈r):p.1<w.heap.size:=dC (h.loc r hr p hp)
theorem Cur.call(h:Cur F Γ L w)(h':Fr no w w'):Cur F Γ L w':=
 ⟨h.fr.trans h'.of_no,λb o hb=>(h'.keep _ (dC (h.sat b o hb)) id).trans (h.sat b o hb),h.le,h.gnew,λr hr p hp=>(h'.keep _ (h.lt hr hp) id).trans (h.loc r hr p hp),h.sep,h.out,h.nodup⟩
theorem wG(w:World)(o:Obj)(S:Nat→Prop):Fr S w (w.alloc o):=⟨rfl,rfl,rfl,λ_=>E6 _,by simp,λk hk _=>heap_alloc_old w o hk⟩
theorem Cur.new(h:Cur F Γ L w)(o:Obj):Cur F Γ ([(w.heap.size,o)]::L) (w.alloc o):=by
 have hs:Sat Γ (w.alloc o):=λb o' hb=>by
  have:=h.sat b o' hb
  rw [heap_alloc_old w o (dC this)]; exact this
 refine⟨h.fr.trans (wG w o _),hs,h.le,h.gnew,?_,?_,?_,?_⟩
 ·intro r hr p hp
  rcases List.mem_cons.1 hr with rfl | hr
  ·rw [List.mem_singleton.1 hp]; exact heap_alloc_new w o
  ·rw [heap_alloc_old w o (h.lt hr hp)]; exact h.loc r hr p hp
 ·intro r hr p hp
  rcases List.mem_cons.1 hr with rfl | hr
  ·rw [List.mem_singleton.1 hp]; exact .inr h.fr.size
  ·exact h.sep r hr p hp
 ·intro r hr p hp
  rcases List.mem_cons.1 hr with rfl | hr
  ·rw [List.mem_singleton.1 hp]
   cases hg:Γ w.heap.size with
   | none=>rfl
   | some o'=>have:=dC (h.sat _ _ hg); omega
  ·exact h.out r hr p hp
 ·simp only [Ef,E0,List.cons_append,Ee]
  refine List.nodup_cons.2 ⟨λhm=>?_,h.nodup⟩
  obtain⟨p,hp,he⟩:=List.mem_map.1 hm
  obtain⟨r,hr,hpr⟩:=List.mem_flatten.1 hp
  have:=h.lt hr hpr
  omega
theorem Cur.eff(h:Cur F Γ (U++R) w)(he:Eff Γ Δ U U' w w'):Cur F Δ (U'++R) w':=by
 have hU:∀k,ids U k→F.S k∨F.E.heap.size≤k:=by
  rintro k ⟨r,hr,p,hp,rfl⟩
  exact h.sep r (List.mem_append.2 (.inl hr)) p hp
 have hnd:=h.nodup
 simp only [List.flatten_append,E9] at hnd
 have hUR:∀r∈R, ∀p∈r,¬ ids U p.1:=by
  rintro r hr p hp hk
  obtain⟨q,hq,hqe⟩:=mS.1 hk
  exact(List.nodup_append.1 hnd).2.2 q.1 (List.mem_map.2 ⟨q,hq,rfl⟩) p.1 (List.mem_map.2 ⟨p,List.mem_flatten.2 ⟨r,hr,hp⟩,rfl⟩) hqe
 have hRlt:∀r∈R, ∀p∈r,p.1<w.heap.size:=λr hr p hp=>h.lt (List.mem_append.2 (.inr hr)) hp
 refine⟨h.fr.drop he.fr hU,he.sat,h.le.trans he.le,?_,?_,?_,?_,?_⟩
 ·intro b o hb
  rcases he.gnew b o hb with ⟨o',h1⟩ | h1 | h1
  ·exact h.gnew b o' h1
  ·exact .inr (hU b h1)
  ·exact .inr (.inr (Nat.le_trans h.fr.size h1))
 ·intro r hr p hp
  rcases List.mem_append.1 hr with hr | hr
  ·exact he.loc r hr p hp
  ·rw [he.fr.keep _ (hRlt r hr p hp) (hUR r hr p hp)]
   exact h.loc r (List.mem_append.2 (.inr hr)) p hp
 ·intro r hr p hp
  rcases List.mem_append.1 hr with hr | hr
  ·rcases he.new r hr p hp with h1 | h1
   ·exact hU _ h1
   ·exact .inr (Nat.le_trans h.fr.size h1)
  ·exact h.sep r (List.mem_append.2 (.inr hr)) p hp
 ·intro r hr p hp
  rcases List.mem_append.1 hr with hr | hr
  ·exact he.out r hr p hp
  ·cases hg:Δ p.1 with
   | none=>rfl
   | some o=>
    rcases he.gnew _ o hg with ⟨o',h1⟩ | h1 | h1
    ·rw [h.out r (List.mem_append.2 (.inr hr)) p hp] at h1; cases h1
    ·exact absurd h1 (hUR r hr p hp)
    ·have:=hRlt r hr p hp; omega
 ·simp only [List.flatten_append,E9]
  refine List.nodup_append.2 ⟨he.nodup,(List.nodup_append.1 hnd).2.1,?_⟩
  intro a ha b hb hab
  subst hab
  obtain⟨q,hq,hqa⟩:=List.mem_map.1 ha
  obtain⟨p,hp,hpa⟩:=List.mem_map.1 hb
  obtain⟨r',hr',hq⟩:=List.mem_flatten.1 hq
  obtain⟨r,hr,hp⟩:=List.mem_flatten.1 hp
  rcases he.new r' hr' q hq with h1 | h1
  ·rw [hqa, ← hpa] at h1; exact hUR r hr p hp h1
  ·have:=hRlt r hr p hp; omega
theorem Cur.permL{L':List Rowb}(h:Cur F Γ L w)(hp:L'.Perm L):Cur F Γ L' w:=
 ⟨h.fr,h.sat,h.le,h.gnew,λr hr=>h.loc r (hp.mem_iff.1 hr),λr hr=>h.sep r (hp.mem_iff.1 hr),λr hr=>h.out r (hp.mem_iff.1 hr),(hp.flatten.map _).nodup_iff.2 h.nodup⟩
theorem Cur.sub{L':List Rowb}(h:Cur F Γ L w)(hp:L'.Sublist L):Cur F Γ L' w:=
 ⟨h.fr,h.sat,h.le,h.gnew,λr hr=>h.loc r (hp.subset hr),λr hr=>h.sep r (hp.subset hr),λr hr=>h.out r (hp.subset hr),h.nodup.sublist (List.Sublist.map _ (vf hp))⟩
theorem Cur.pick{is:List Nat}(h:Cur F Γ L w)(hi:okp is L.length=true):Cur F Γ (pkU is L++pkR is L) w:=h.permL (xm hi)
theorem Cur.only{is:List Nat}(h:Cur F Γ L w)(hi:okp is L.length=true):Cur F Γ (pkU is L) w:=(h.pick hi).sub (List.sublist_append_left _ _)
theorem Cur.pre(h:Cur F Γ L w):Pre L Γ w:=⟨h.sat,h.loc,h.out,h.nodup⟩
theorem Cur.set(h:Cur F Γ L w){i:Nat}(hi:L[i]? = some row)(hf:Fr (λk => ∃p∈row,p.1=k) w w')(hl:∀p∈row',w'.heap[p.1]? = some p.2)
  (hn:∀p∈row',(∃q∈row,q.1=p.1)∨w.heap.size≤p.1) (hd:(row'.map (·.1)).Nodup):Cur F Γ (L.set i row') w':=by
 have hil:i<L.length:=(List.getElem?_eq_some_iff.1 hi).1
 have hgi:L[i]=row:=(List.getElem?_eq_some_iff.1 hi).2
 have hsplit:L=L.take i++row::L.drop (i+1):=by
  conv=>lhs; rw [← List.take_append_drop i L,List.drop_eq_getElem_cons hil,hgi]
 have hset:L.set i row'=L.take i++row'::L.drop (i+1):=List.set_eq_take_append_cons_drop.trans (by rw [if_pos hil])
 have h1:Cur F Γ ([row]++(L.take i++L.drop (i+1))) w:=h.permL (by
  conv=>rhs; rw [hsplit]
  exact(List.perm_middle (l₁:=L.take i) (a:=row) (l₂:=L.drop (i+1))).symm)
 have hiff:∀k,ids [row] k↔∃p∈row,p.1=k:=λk=>⟨λ⟨r,hr,p,hp,he⟩=>by rw [List.mem_singleton.1 hr] at hp; exact⟨p,hp,he⟩,λ⟨p,hp,he⟩=>⟨row,by simp,p,hp,he⟩⟩
 have e1:Sat Γ w':=λb o hb=>by
  have hb':=h.sat b o hb
  rw [hf.keep b (dC hb') ?_]
  ·exact hb'
  ·rintro⟨p,hp,rfl⟩
   rw [h.out row (List.mem_of_getElem? hi) p hp] at hb; cases hb
 have e2:∀r∈[row'], ∀p∈r,Γ p.1=none:=by
  intro r hr p hp
  rw [List.mem_singleton.1 hr] at hp
  rcases hn p hp with ⟨q,hq,he⟩ | h3
  ·rw [← he]; exact h.out row (List.mem_of_getElem? hi) q hq
  ·cases hg:Γ p.1 with
   | none=>rfl
   | some o=>have:=dC (h.sat _ _ hg); omega
 have h2:Cur F Γ ([row']++(L.take i++L.drop (i+1))) w':=h1.eff ⟨hf.mono λk hk=>(hiff k).2 hk,e1,Gh.refl _,λb o hb=>.inl ⟨o,hb⟩,
  λr hr p hp=>by rw [List.mem_singleton.1 hr] at hp; exact hl p hp,
  λr hr p hp=>by rw [List.mem_singleton.1 hr] at hp; exact(hn p hp).imp (λh=>(hiff _).2 h) id,e2,by simpa using hd⟩
 rw [hset]
 exact h2.permL (List.perm_middle (l₁:=L.take i) (a:=row') (l₂:=L.drop (i+1)))
theorem Cur.pad(h:Cur F Γ L w):Cur F Γ ([]::L) w:=
 ⟨h.fr,h.sat,h.le,h.gnew,λr hr p hp=>by
  rcases List.mem_cons.1 hr with rfl | hr
  ·cases hp
  ·exact h.loc r hr p hp,λr hr p hp=>by
  rcases List.mem_cons.1 hr with rfl | hr
  ·cases hp
  ·exact h.sep r hr p hp,λr hr p hp=>by
  rcases List.mem_cons.1 hr with rfl | hr
  ·cases hp
  ·exact h.out r hr p hp,by simpa using h.nodup⟩
theorem Cur.glue(h:Cur F Γ (U++R) w):Cur F Γ (U.flatten::R) w:=by
 refine⟨h.fr,h.sat,h.le,h.gnew,?_,?_,?_,by simpa using h.nodup⟩
 all_goals
  intro r hr p hp
  rcases List.mem_cons.1 hr with rfl | hr
  ·obtain⟨s,hs,hp⟩:=List.mem_flatten.1 hp
   first | exact h.loc s (List.mem_append.2 (.inl hs)) p hp | exact h.sep s (List.mem_append.2 (.inl hs)) p hp | exact h.out s (List.mem_append.2 (.inl hs)) p hp
  ·first | exact h.loc r (List.mem_append.2 (.inr hr)) p hp | exact h.sep r (List.mem_append.2 (.inr hr)) p hp | exact h.out r (List.mem_append.2 (.inr hr)) p hp
theorem Cur.unglue(h:Cur F Γ (U.flatten::R) w):Cur F Γ (U++R) w:=by
 refine⟨h.fr,h.sat,h.le,h.gnew,?_,?_,?_,by simpa using h.nodup⟩
 all_goals
  intro r hr p hp
  rcases List.mem_append.1 hr with hr | hr
  ·have hm:p∈U.flatten:=List.mem_flatten.2 ⟨r,hr,hp⟩
   first | exact h.loc _ (by simp) p hm | exact h.sep _ (by simp) p hm | exact h.out _ (by simp) p hm
  ·first | exact h.loc r (by simp [hr]) p hp | exact h.sep r (by simp [hr]) p hp | exact h.out r (by simp [hr]) p hp
theorem Cur.fold{is:List Nat}(h:Cur F Γ L w)(hi:okp is L.length=true)(hr:row=(pkU is L).flatten):Cur F Γ (row::pkR is L) w:=by subst hr; exact(h.pick hi).glue
theorem Cur.unfold{i:Nat}(h:Cur F Γ L w)(hi:L[i]? = some row)(hr:row=U.flatten):Cur F Γ (U++L.eraseIdx i) w:=by
 have hil:i<L.length:=(List.getElem?_eq_some_iff.1 hi).1
 have h1:=h.pick (is:=[i]) (by simp [okp,hil])
 simp only [pkU,pkR,List.getD,hi,Option.getD_some,hr] at h1
 exact Cur.unglue h1
def Gh.add(Γ:Gh)(row:Rowb):Gh:=λb=>match row.find? (λp=>Nat.beq p.1 b) with
 | some p=>some p.2
 | none=>Γ b
theorem Gh.add_at{Γ:Gh}{row:Rowb}(hd:(row.map (·.1)).Nodup){p:Nat×Obj}(hp:p∈row):Γ.add row p.1=some p.2:=by
 unfold Gh.add
 have:row.find? (λq=>Nat.beq q.1 p.1)=some p:=by
  induction row with
  | nil=>cases hp
  | cons q row ih=>
   simp only [E0,List.nodup_cons] at hd
   rcases List.mem_cons.1 hp with rfl | hp
   ·simp
   ·rw [List.find?_cons_of_neg,ih hd.2 hp]
    intro he
    have he':q.1=p.1:=Nat.eq_of_beq_eq_true he
    exact hd.1 (he'▸List.mem_map.2 ⟨p,hp,rfl⟩)
 rw [this]
theorem Gh.add_none{Γ:Gh}{row:Rowb}{b:Nat}(h:∀p∈row,p.1≠b):Γ.add row b=Γ b:=by
 unfold Gh.add
 have:row.find? (λq=>Nat.beq q.1 b)=none:=List.find?_eq_none.2 λq hq he=>h q hq (Nat.eq_of_beq_eq_true he)
 rw [this]
theorem Gh.add_or{Γ:Gh}{row:Rowb}{b:Nat}{o:Obj}(h:Γ.add row b=some o):(∃p∈row,p.1=b∧p.2=o)∨Γ b=some o:=by
 unfold Gh.add at h
 split at h
 ·rename_i p hp
  have h1:=List.find?_some hp
  exact .inl ⟨p,List.mem_of_find?_eq_some hp,Nat.eq_of_beq_eq_true h1,by simpa using h⟩
 ·exact .inr h
theorem Cur.seal{i:Nat}(h:Cur F Γ L w)(hi:L[i]? = some row):∃Δ,Cur F Δ (L.set i []) w∧Γ.le Δ∧∀p∈row,Δ p.1=some p.2:=by
 have hm:=List.mem_of_getElem? hi
 have hil:i<L.length:=(List.getElem?_eq_some_iff.1 hi).1
 have hgi:L[i]=row:=(List.getElem?_eq_some_iff.1 hi).2
 have hsplit:L=L.take i++row::L.drop (i+1):=by
  conv=>lhs; rw [← List.take_append_drop i L,List.drop_eq_getElem_cons hil,hgi]
 have hset:L.set i []=L.take i++[]::L.drop (i+1):=List.set_eq_take_append_cons_drop.trans (by rw [if_pos hil])
 have h1:Cur F Γ ([row]++(L.take i++L.drop (i+1))) w:=h.permL (by
  conv=>rhs; rw [hsplit]
  exact(List.perm_middle (l₁:=L.take i) (a:=row) (l₂:=L.drop (i+1))).symm)
 have hnd:(row.map (·.1)).Nodup:=by
  have:=h1.nodup
  simp only [List.cons_append,Ee,Ef,E9] at this
  exact(List.nodup_append.1 this).1
 have hle:Γ.le (Γ.add row):=λb o hb=>by
  rw [Gh.add_none]; exact hb
  intro p hp he
  rw [← he,h.out row hm p hp] at hb; cases hb
 refine⟨Γ.add row,?_,hle,λp hp=>Gh.add_at hnd hp⟩
 have h2:Cur F (Γ.add row) ([[]]++(L.take i++L.drop (i+1))) w:=h1.eff ⟨Fr.refl _ _,λb o hb=>by
   rcases Gh.add_or hb with ⟨p,hp,h3,h4⟩ | h3
   ·rw [← h3, ← h4]; exact h.loc row hm p hp
   ·exact h.sat b o h3,hle,λb o hb=>by
   rcases Gh.add_or hb with ⟨p,hp,h3,h4⟩ | h3
   ·exact .inr (.inl ⟨row,by simp,p,hp,h3⟩)
   ·exact .inl ⟨o,h3⟩,by simp,by simp,by simp,by simp⟩
 rw [hset]
 exact h2.permL (List.perm_middle (l₁:=L.take i) (a:=[]) (l₂:=L.drop (i+1)))
theorem Cur.back{L':List Rowb}(h:Cur F Δ L w)(hle:Γ.le Δ)(h0:F.G.le Γ)(hsub:L'.Sublist L):Cur F Γ L' w:=by
 have h1:=h.sub hsub
 have e1:∀r∈L', ∀p∈r,Γ p.1=none:=by
  intro r hr p hp
  cases hg:Γ p.1 with
  | none=>rfl
  | some o=>have:=hle _ _ hg; rw [h1.out r hr p hp] at this; cases this
 exact⟨h1.fr,λb o hb=>h1.sat b o (hle b o hb),h0,λb o hb=>h1.gnew b o (hle b o hb),h1.loc,h1.sep,e1,h1.nodup⟩
theorem Cur.at_(h:Cur F Γ L w){i:Nat}(hi:L[i]? = some row){p:Nat×Obj}(hp:p∈row):w.heap[p.1]? = some p.2:=h.loc row (List.mem_of_getElem? hi) p hp
end
end Fw
end Go.Proofs.YtgaplodcdhhefaaGreat
