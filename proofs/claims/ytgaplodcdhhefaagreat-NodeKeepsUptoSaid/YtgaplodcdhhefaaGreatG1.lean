/- Merging, out of layer 16. No condition. -/
import Derived.Test.YtgaplodcdhhefaaGreatA1
namespace Go.Proofs.YtgaplodcdhhefaaGreat
namespace Fw
namespace Mg
set_option linter.unusedVariables false
set_option linter.unusedSimpArgs false
set_option linter.unusedSectionVars false
def bl(p:Nat→Bool)(k n:Nat):Bool:=(List.range' k (n - k)).all p
def r7(p:Nat→Bool)(k n:Nat):Bool:=(List.range' k (n - k)).any p
theorem jR{p:Nat→Bool}{k n:Nat}(h:k<n):bl p k n=(p k&&bl p (k+1) n):=by
 unfold bl
 rw [show n - k=(n - (k+1))+1 by omega,List.range'_succ]; rfl
theorem mL{p:Nat→Bool}{k n:Nat}(h:n≤k):bl p k n=true:=by
 unfold bl
 rw [show n - k=0 by omega]; rfl
def qL:List Span→Dot→Bool
 | [],_=>false
 | x::l,d=>((x.s==d.s)&&decide (x.f≤d.n))&&decide (d.n≤x.t)||qL l d
def qE:List Span→Dot→Bool
 | [],_=>false
 | x::l,d=>((x.s==d.s)&&decide (x.f≤d.n))&&decide (d.n≤x.t)||qE l d
def mr(x last:Span):Bool:=
 ((((((decide (x.s<1)||decide (16<x.s))||decide (x.f<1))||decide (x.t<x.f))||decide (4611686018427387904<x.t))||decide (x.s<last.s))||((x.s==last.s)&&decide (x.f≤(last.t+1))))
def spGo:List Span→Span→Bool
 | [],_=>true
 | x::l,last=>bif mr x last then false else spGo l x
def j8(l:List Span):Bool:=spGo l ⟨0,0,0⟩&&decide ((l.length:Int)≤1024)
def nn:List Span→Int→Int→Int
 | [],_,top=>top
 | x::l,s,top=>nn l s (bif x.s==s then max top x.t else top)
def xq(l:List Span)(s:Int):Int:=nn l s 0
def kE(d:Dot):Bool:=(((decide (1≤d.s)&&decide (d.s≤16))&&decide (1≤d.n))&&decide (d.n≤4611686018427387904))
theorem AE{d:Dot}(h:kE d=true):1≤d.s∧d.s≤16∧1≤d.n∧d.n≤4611686018427387904:=by simp [kE] at h; omega
def ml(x:Span):Bool:=(((!(kE ⟨x.s,x.f⟩))||(!(kE ⟨x.s,x.t⟩)))||decide (x.t<x.f))
def oX(p x:Span):Bool:=(decide (x.s<p.s)||((x.s==p.s)&&decide ((x.f - 1)≤p.t)))
def lK(l:List Span):Bool:=bif decide (1024<l.length) then false else bl (λi=>!(ml (gt l i))&&!(decide (0<(i:Int))&&oX (gt l (i - 1)) (gt l i))) 0 l.length
def nl:List Span→Int→Int→Int
 | [],_,n=>n
 | x::l,s,n=>nl l s (bif (x.s==s)&&decide (n<x.t) then x.t else n)
def qK(l:List Span)(s:Int):Int:=nl l s 0
def sx(a b:List Span):Bool:=bif a.length==b.length then bl (λi=>gt a i==gt b i) 0 a.length else false
def ba(a b:Dot):Bool:=bif a.s != b.s then decide (a.s<b.s) else decide (a.n<b.n)
def dl(v:Ver):Bool:=bif (((!(kE v.dot))||(!(lK v.past)))||decide (v.dot.n≤qK v.past v.dot.s)) then false else bif v.gone then v.val==⟨#[]⟩ else decide ((v.val.size:Int)≤256)
def r5Behind:List Ver→Dot→Bool
 | [],_=>false
 | v::l,d=>qE v.past d||r5Behind l d
def r5Right(l:List Ver):Bool:=bif decide (512<l.length) then false else bl (λi=>!((!(dl (gt l i)))||r5Behind l (gt l i).dot)&&!(decide (0<(i:Int))&&!(ba (gt l (i - 1)).dot (gt l i).dot))) 0 l.length
def hP(a b:Ver):Bool:=(((a.dot==b.dot)&&(a.gone==b.gone))&&(a.val==b.val))&&sx a.past b.past
def bI(a b:Dot):Bool:=(decide (a.s<b.s)||((a.s==b.s)&&decide (a.n<b.n)))
def cA:Dot→List Ver→Bool
 | _,[]=>false
 | d,v::l=>qL v.past d||cA d l
def k9(a b:Ver):Bool:=bif ((((a.dot != b.dot)||(a.gone != b.gone))||(a.val != b.val))||((a.past.length:Int) != (b.past.length:Int))) then false else bl (λi=>!(gt a.past i != gt b.past i)) 0 a.past.length
def fh(v:Ver):Bool:=(((((j8 [⟨v.dot.s,v.dot.n,v.dot.n⟩])&&(j8 v.past))&&decide (xq v.past v.dot.s<v.dot.n))&&decide ((v.val.size:Int)≤256))&&((!v.gone)||(v.val==⟨#[]⟩)))
def jf(l:List Ver):Bool:=bl (λi=>!(((!(fh (gt l i)))||(decide (0<(i:Int))&&(!(bI (gt l (i - 1)).dot (gt l i).dot))))||cA (gt l i).dot l)) 0 l.length&&decide ((l.length:Int)≤512)
def iF(v:Ver)(a b out:List Ver):List Ver:=bif ((!(cA v.dot a))&&(!(cA v.dot b))) then out++[v] else out
def vsGo(A B:List Ver):Nat→List Ver→List Ver→Bool→List Ver→Bool×List Ver
 | 0,_,_,tw,out=>(tw,out)
 | _+1,[],[],tw,out=>(tw,out)
 | n+1,[],y::b,tw,out=>vsGo A B n [] b tw (iF y A B out)
 | n+1,x::a,[],tw,out=>vsGo A B n a [] tw (iF x A B out)
 | n+1,x::a,y::b,tw,out=>bif bI x.dot y.dot then vsGo A B n a (y::b) tw (iF x A B out) else
   bif x.dot==y.dot then vsGo A B n a (y::b) (tw||(!(k9 x y))) out else vsGo A B n (x::a) b tw (iF y A B out)
theorem Cc{A B a b:List Ver}{i k:Nat}{tw:Bool}{out:List Ver}(hi:i<a.length)(hk:k≤b.length)(hc:(((k:Int)==(b.length:Int))||(decide ((i:Int)<(a.length:Int))&&(bI (gt a i).dot (gt b k).dot)))=true):
  vsGo A B ((a.length - i)+(b.length - k)) (a.drop i) (b.drop k) tw out=vsGo A B ((a.length - (i+1))+(b.length - k)) (a.drop (i+1)) (b.drop k) tw (iF (gt a i) A B out):=by
 rw [show (a.length - i)+(b.length - k)=((a.length - (i+1))+(b.length - k))+1 by omega,bo hi]
 by_cases hkb:k<b.length
 ·have h1:((k:Int)==(b.length:Int))=false:=by simp; omega
  have h2:decide ((i:Int)<(a.length:Int))=true:=by simp; omega
  rw [h1,h2] at hc
  simp only [Bool.false_or,Bool.true_and] at hc
  rw [bo hkb]
  simp only [vsGo,hc,cond_true]
 ·rw [E1 (Nat.le_of_not_lt hkb)]
  simp only [vsGo]
theorem CG{A B a b:List Ver}{i k:Nat}{tw:Bool}{out:List Ver}(hi:i<a.length)(hk:k<b.length)(hc:(((k:Int)==(b.length:Int))||(decide ((i:Int)<(a.length:Int))&&(bI (gt a i).dot (gt b k).dot)))=false)(he:((gt a i).dot==(gt b k).dot)=true):
  vsGo A B ((a.length - i)+(b.length - k)) (a.drop i) (b.drop k) tw out=vsGo A B ((a.length - (i+1))+(b.length - k)) (a.drop (i+1)) (b.drop k) (tw||(!(k9 (gt a i) (gt b k)))) out:=by
 rw [show (a.length - i)+(b.length - k)=((a.length - (i+1))+(b.length - k))+1 by omega,bo hi,bo hk]
 have h2:decide ((i:Int)<(a.length:Int))=true:=by simp; omega
 have h1:=or_r hc
 rw [h2,Bool.true_and] at h1
 simp only [vsGo,h1,he,cond_false,cond_true]
theorem Cd{A B a b:List Ver}{i k:Nat}{tw:Bool}{out:List Ver}(hi:i≤a.length)(hk:k<b.length)(hc:(((k:Int)==(b.length:Int))||(decide ((i:Int)<(a.length:Int))&&(bI (gt a i).dot (gt b k).dot)))=false)
  (he:(decide ((i:Int)<(a.length:Int))&&((gt a i).dot==(gt b k).dot))=false) :
  vsGo A B ((a.length - i)+(b.length - k)) (a.drop i) (b.drop k) tw out=vsGo A B ((a.length - i)+(b.length - (k+1))) (a.drop i) (b.drop (k+1)) tw (iF (gt b k) A B out):=by
 rw [show (a.length - i)+(b.length - k)=((a.length - i)+(b.length - (k+1)))+1 by omega,bo hk]
 by_cases hia:i<a.length
 ·have h2:decide ((i:Int)<(a.length:Int))=true:=by simp; omega
  have h1:=or_r hc
  rw [h2,Bool.true_and] at h1 he
  rw [bo hia]
  simp only [vsGo,h1,he,cond_false]
 ·rw [E1 (Nat.le_of_not_lt hia)]
  simp only [vsGo]
def vsMerge(a b:List Ver):List Ver×Int:=
 bif ((!(jf a))||(!(jf b))) then ([],1) else bif (vsGo a b (a.length+b.length) a b false []).1 then ([],50) else
 bif decide ((512:Int)<((vsGo a b (a.length+b.length) a b false []).2.length:Int)) then ([],3) else ((vsGo a b (a.length+b.length) a b false []).2,0)
theorem qz{l:List Ver}(h:jf l=true):l.length≤512:=by
 unfold jf at h
 have:=de h
 simp at this; omega
theorem rV(v:Ver)(a b out:List Ver):(iF v a b out).length≤out.length+1:=by
 unfold iF
 cases ((!(cA v.dot a))&&(!(cA v.dot b))) <;> simp
def ek:List Ver→Dot→Nat→Nat
 | [],_,k=>k
 | x::l,d,k=>bif ba x.dot d then ek l d (k+1) else k
def x7(l:List Ver)(v:Ver):List Ver:=
 bif (decide ((ek l v.dot 0:Int)<(l.length:Int))&&((gt l (ek l v.dot 0)).dot==v.dot)) then l else (l.take (ek l v.dot 0)++[v])++l.drop (ek l v.dot 0)
def qk(a b:List Ver):Bool:=r7 (λi=>r7 (λk=>((gt a i).dot==(gt b k).dot)&&(!(hP (gt a i) (gt b k)))) 0 b.length) 0 a.length
def eD:List Ver→List Ver→List Ver→List Ver
 | [],_,out=>out
 | x::l,skip,out=>eD l skip (bif (!(r5Behind skip x.dot)) then x7 out x else out)
def rh(a b:List Ver):List Ver×Int:=
 bif ((!(r5Right a))||(!(r5Right b))) then ([],1) else bif qk a b then ([],50) else
 bif decide ((512:Int)<((eD b a (eD a b [])).length:Int)) then ([],3) else (eD b a (eD a b []),0)
def vsSameL(a b:List Ver):Bool:=bif bl (λk=>k9 (gt a k) (gt b k)) 0 (min a.length b.length) then ((a.length:Int)==(b.length:Int)) else false
end Mg
end Fw
end Go.Proofs.YtgaplodcdhhefaaGreat
